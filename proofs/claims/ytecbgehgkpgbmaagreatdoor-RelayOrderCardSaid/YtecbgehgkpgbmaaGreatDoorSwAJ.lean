/- A part of the proof that the law returns true for every input that its row speaks of. No condition is added. -/
import Derived.Test.YtecbgehgkpgbmaaGreatDoorSwAI
import Derived.Test.YtecbgehgkpgbmaaGreatDoorSwAG
import Derived.Test.YtecbgehgkpgbmaaGreatDoorSwAF
import Derived.Lib.IndexMore
namespace Sw
noncomputable section
open Go Go.Proofs Go.RowKit
set_option maxRecDepth 100000
set_option maxHeartbeats 1600000
theorem mw.ql{L:List Nat}{hp:Ht}{nx:Nat}{x:i_}(h:mw (jU L hp) nx x):mw hp nx x:=⟨h.lj.ql,h.gI.1.ql,fun y hy=>(h.gI.2 y hy).ql⟩
theorem oI.ql{L:List Nat}{hp:Ht}{nx:Nat}{x:kM}(h:oI (jU L hp) nx x):oI hp nx x:=⟨h.gG.ql,h.iU.1.ql,fun y hy=>(h.iU.2 y hy).ql⟩
theorem ny.ql{L:List Nat}{hp:Ht}{nx:Nat}{x:kU}(h:ny (jU L hp) nx x):ny hp nx x:=⟨h.jv.ql,h.iD.ql,h.fL.1.ql,fun y hy=>(h.fL.2 y hy).ql⟩
def Fz(w:Nat)(x:i_):Prop:=∀o,x.gI.l[w]?=some o->o.l=[]
theorem Qp{F:kU}{w:Nat}:(¬∃x∈F.fL.l,Fz w x)↔wP F w:=by
 unfold wP
 constructor
 · intro h r hr
   exact Classical.byContradiction fun k=>h ⟨r,hr,fun o j=>Classical.byContradiction fun h0=>k ⟨o,j,h0⟩⟩
 · rintro h ⟨x,hx,k⟩
   obtain⟨o,j,h0⟩:=h x hx
   exact h0 (k o j)
def yM(F:kU)(n:Nat):List Nat:=(List.range n).filter fun w=>@decide (wP F w) (Classical.propDecidable _)
theorem V5{F:kU}{w:Nat}(h:wP F w):yM F (w+1)=yM F w++[w]:=by
 unfold yM;rw[List.range_succ,List.filter_append];simp[h]
theorem T4{F:kU}{w:Nat}(h:¬wP F w):yM F (w+1)=yM F w:=by
 unfold yM;rw[List.range_succ,List.filter_append];simp[h]
theorem T5(x:i_)(w b:Nat)(hp:Ht)(nx:Nat)(hx:mw hp nx x)(hb:hp.get b=some (.cells [iN (.ofNat w)] gl.plain))(jz:b<nx):WF ex 60 [.agg (je x).toArray,pt b 0] hp nx (fO nx hp (gk (Fz w x))):=by
 refine wd Tryz.f60 18 [.tmp 3] fun hE=>sr<|oB (.agg (je x).toArray) (je x) fun jN iY iA=>?_
 have l_:=hE.trans iY
 have ad:=iY.get hb jz
 refine oN 1<|sr<|oZ b (0) (iN (.ofNat w)) fP ad rfl<|oX 1 ?_
 obtain⟨U,aa,C⟩:=hx.gI.1.shape
 have ai:=hx.gI.1.2.2
 refine oZ nx (0+2) (.slice U (x.gI.l.length) aa) sE iA (by rw[<-C];rfl)<|oX 1 ?_
 refine oq 8 (Y9 x.gI.l.length w) fun nC rH=>oX 1<|gF 9 nC (pt nx (0+2))<|pj 9 nC nx (0+2) (.slice U (x.gI.l.length) aa) sE iA (by rw[<-C];rfl)<|pj 9 nC b (0) (iN (.ofNat w)) fP ad rfl ?_
 have J:(!nC)=true->w<x.gI.l.length:=fun h=>by obtain rfl:nC=false:=(by simpa using h);have aj:¬(((x.gI.l.length:Nat):Int)<=((w:Nat):Int)):=(fun k=>absurd ((rH).2 k) (by decide));omega
 refine zQ 9 nC (pt (gb U) (0+(w)*1)) (by rintro rfl;exact WC.iy C hx.gI.1 (w) w8 vo ((J rfl)) rfl) ?_
 obtain⟨j,I⟩:∃ag,(!nC)=true->x.gI.l[w]?=some ag:=⟨(x.gI.l[w]?).getD default,fun h=>by rw[List.getElem?_eq_getElem (by obtain rfl:nC=false:=(by simpa using h);exact(J rfl))];rfl⟩
 have R:=fun(a0:¬(((x.gI.l.length:Nat):Int)<=((w:Nat):Int)))=>I (by first|(rw[show nC=false from Bool.eq_false_iff.2 (fun k=>a0 ((rH).1 k))];rfl)|rw[show nC=false from Bool.eq_false_iff.2 (fun k=>a0 ((rH).1 k))])
 obtain⟨a17,ab,af⟩:∃a c,(!nC)=true->j.v=.slice a j.l.length c:=by
  cases hb:(!nC)with
  |true=>obtain rfl:nC=false:=(by simpa using hb);obtain⟨a,c,h⟩:=(hx.gI.2 j (List.mem_of_getElem? (I rfl))).shape;exact⟨a,c,fun _=>h⟩
  |false=>exact⟨none,0,fun h=>by cases h⟩
 refine zQ 9 nC (.slice a17 (j.l.length) ab) (by rintro rfl;exact WC.lz (.slice a17 (j.l.length) ab) C (hx.gI.1.mono l_ nR) (I rfl) (by rw[<-(af rfl)];rfl) w6 rfl)<|gF 9 nC (iN (.ofNat (j.l.length))) ?_
 refine mX 9 nC (w5 j.l.length 0) fun xW EO=>?_
 refine mj 17 (nO rH EO) fun sk vp=>oW 1 ⟨rfl,rfl,[.bool sk],kr,?_⟩
 refine⟨⟨sk,rfl,?_⟩,od,l_⟩
 rw[vp]
 constructor
 · rintro ae o h1
   have hw:=(List.getElem?_eq_some_iff.1 h1).1
   rcases ae with ae|ae
   · first|omega|(dsimp only;omega)
   · have h3:=R om
     rw[h3]at h1;cases h1
     exact List.eq_nil_of_length_eq_zero om
 · intro ah
   by_cases hw:w<x.gI.l.length
   · have h3:=R om
     have h4:=ah _ h3
     exact .inr (by rw[h4];rfl)
   · exact .inl om
theorem N_(F:kU)(hp:Ht)(nx:Nat)(o:ny hp nx F):WF ex 26 [.agg (iK F).toArray] hp nx (fun v fe fg=>∃j,v=.func (.func 59) #[] #[pt j 0]/\fe.get j=some (.cells (iK F) gl.plain)/\j<fg/\nx<=j/\nx<=fg/\HE nx hp fe):=by
 refine wd Tryz.f26 4 [.tmp 2] fun hE=>sr<|oB (.agg (iK F).toArray) (iK F) fun jN iY iA=>?_
 refine oN 1<|sr<|oW 2 ⟨rfl,rfl,[.func (.func 59) #[] #[pt nx 0]],kr,?_⟩
 exact⟨_,rfl,iA,(Nat.lt_succ_self (nx)),om,od,(hE.trans iY)⟩
theorem KP(F:kU)(y:Value)(L:List Nat)(R:Nat)(Inv:(Nat->Prop)->List Nat->Ht->Nat->Prop)(Stop:Ht->Nat->Prop)(ao:Nat->Prop)(aL:ao R)(hp:Ht)(nx:Nat)(af:ny (jU L hp) nx F)(ae:Ht)(C:Nat)(ar:ae.get R=some (.cells (iK F) gl.plain))(aK:R<C)(h1:nx<=C)(aJ:HE nx (jU L hp) (jU L ae))(aR:Inv ao [] ae C)(hm:∀I l a b c d,Inv I l a b->HE b a c->b<=d->Inv (fun q=>I q\/(b<=q/\q<d)) l c d)(hs:∀I w,wP F w->w<=F.iD.l.length->∀a b,C<=b->HE nx (jU L hp) (jU L a)->Inv I (yM F w) a b->WV ex y [iN (.ofNat w)] a b (fun v c d=>b<=d/\HE nx (jU L a) (jU L c)/\(∀q,q<b->I q->c.get q=a.get q)/\∃t:Bool,v=.bool t/\(t=true->Inv I (yM F w++[w]) c d)/\(t=false->Stop c d))):WF ex 59 [y,pt R 0] ae C (fun _ c d=>C<=d/\HE nx (jU L hp) (jU L c)/\((∃I,Inv I (yM F (F.iD.l.length+1)) c d)\/Stop c d)):=by
 refine wb ⟨Tryz.f59.body.getD .skip,25,[]⟩<|sr<|oX 1 ?_
 obtain⟨a1,c2,hR⟩:=af.iD.shape
 have lW:=af.iD.2.2
 refine oZ R (0+2) (.slice a1 (F.iD.l.length) c2) yK ar (by rw[<-hR];rfl)<|oX 1<|ov 8 (iN (.ofNat (F.iD.l.length+1))) ?_ (fun _ _ _=>by rw[<-gU (show F.iD.l.length+1<9223372036854775808 by omega)];kernel_rfl)
 refine oN 1<|WP.block ?_
 refine my [0,1,8,9] (fun m hs ns vs=>∃(fV:Nat),fV+m=(F.iD.l.length+1)/\vs=[y,pt R 0,iN (.ofNat (F.iD.l.length+1)),iN (.ofNat fV)]/\C<=ns/\HE nx (jU L hp) (jU L hs)/\hs.get R=some (.cells (iK F) gl.plain)/\(∃I:Nat->Prop,I R/\Inv I (yM F fV) hs ns)/\(C<=ns)) ?_ ((F.iD.l.length+1)) ?_
 ·
  rintro xn pT ja _ ⟨fV,tP,rfl,oe,jm,aF,ah,aY⟩ tQ
  have aC:=Nat.lt_of_lt_of_le aK oe
  refine sr ?_
  refine oq 10 (kV fV (F.iD.l.length+1)) fun aW aM=>WO.nil<|WP.seq<|cq aM (fun aO=>?_) (fun aO=>?_)
  ·
   refine WP.skip<|WP.seq<|WP.block<|sr<|oX 1<|oA [iN 0] Ay fun aT tR ay=>?_
   have aD:=Nat.lt_of_lt_of_le aC (Nat.le_succ (ja))
   refine oS ja (0) (iN (.ofNat fV)) [iN (.ofNat fV)] [iN (.ofNat fV)] kj rfl rfl ay fun vv sG uq aB=>?_
   have aa:=(jm.trans (tR.jU (l:=L))).trans (sG.jU (l:=L))
   have ak:=(aB R om).trans (tR.get aF)
   refine WO.nil<|sr<|oN 2<|sr<|oX 1 ?_
   obtain⟨a39,aH,al⟩:=af.fL.1.shape
   have aP:=af.fL.1.2.2
   refine oZ R (0+3) (.slice a39 (F.fL.l.length) aH) qh ak (by rw[<-al];rfl)<|oX 1<|WO.cons (WC.call 16 61 ([F.fL.v,.func (.func 60) #[] #[pt ja 0]]) (fun _ _ _=>by(try rw[al]);kernel_rfl) ((A7 (A:=Fz (fV)) F.fL 60 #[pt ja 0] vv (ja+1) ((af.mono aa).ql.fL) (fun i x hx fe fg hn he=>T5 x (fV) ja fe fg ((((af.mono aa).ql.fL.2 x (List.mem_of_getElem? hx))).mono he hn) (he.get uq) (Nat.lt_of_lt_of_le (Nat.lt_succ_self (ja)) hn))).mono ?_))
   rintro _ J o ⟨⟨aX,rfl,aN⟩,aA,U⟩
   have ab:=aa.trans (U.jU (l:=L))
   have aE:=Nat.lt_of_lt_of_le aD aA
   refine oq 17 (nN aN) fun j au=>oX 1<|gT 18 j (y)<|lr 18 j ja (0) (iN (.ofNat fV)) fP (U.get uq) rfl ?_
   obtain⟨I,ai,aI⟩:=ah
   have aq:Inv (fun q=>I q\/(ja<=q/\q<o)) (yM F fV) J (o):=hm _ _ _ _ _ _ aI ((((HE.refl (ja) pT).trans tR).trans sG).trans U) om
   have aj:j=true↔¬(∃x∈F.fL.l,(Fz (fV)) x):=au
   have ad:j=true↔wP F fV:=aj.trans Qp
   have aZ:=ab
   refine WO.cons (WC.gq (j) (fun v c d=>∃t:Bool,v=(bif j then .bool t else undef)/\o<=d/\HE nx (jU L J) (jU L c)/\(∀q,q<o->(fun q=>I q\/(ja<=q/\q<o)) q->c.get q=Tr.get J q)/\(j=true->t=true->Inv (fun q=>I q\/(ja<=q/\q<o)) (yM F fV++[fV]) c d)/\(j=true->t=false->Stop c d)/\(j=false->c=J/\d=o)) (.bool j) (g:=aaj (.tmp 18)) rfl kr (by cases j<;>rfl) (fun hb=>?_) (fun hb=>⟨false,by rw[hb];rfl,Nat.le_refl _,HE.refl _ _,fun _ _ _=>rfl,fun k=>absurd (hb.symm.trans k) (by decide),fun k=>absurd (hb.symm.trans k) (by decide),fun _=>⟨rfl,rfl⟩⟩) ?_)
   · have hw:=ad.1 hb
     obtain rfl:j=true:=(by simpa using hb)
     refine WC.Qa 21 y [iN (.ofNat fV)] kf ((hs (fun q=>I q\/(ja<=q/\q<o)) fV hw om J (o) om ab aq).mono ?_)
     rintro v c d ⟨h1,h2,h3,t,aV,h4,aQ⟩
     exact⟨_,_,_,rfl,t,aV,h1,h2,h3,fun _=>h4,fun _=>aQ,fun h=>absurd h (by decide)⟩
   rintro _ aU an ⟨t61,rfl,aS,az,MN,av,ax,aw⟩
   have ag:=ab.trans az
   have aG:t61=true↔t61=true:=Iff.rfl
   refine qw 18 j (nN aG) fun zj ES=>?_
   refine mI 23 (nA au ES) fun ET Ba=>WO.nil<|cq Ba (fun tj=>?_) (fun tj=>?_)
   ·
    refine WP.ret ⟨rfl,rfl,[],kr,?_⟩
    exact⟨(show C<=an by omega),ag,.inr (ax (aj.2 tj.1) (Bool.eq_false_iff.2 tj.2))⟩
   ·
    refine WP.skip<|WP.region<|ov 24 (iN (.ofNat (fV+1))) ?_ (fun _ _ _=>by rw[<-gU (show fV+1<9223372036854775808 by omega)];kernel_rfl)
    refine oN 1<|⟨(F.iD.l.length+1)-(fV+1),om,rfl,rfl,fV+1,om,kr,?_,?_,?_,?_,?_⟩
    · exact od
    · exact ag
    · exact((MN _ aE (.inl ai)).trans (U.get ak))
    · by_cases hw:wP F fV
      · rw[V5 hw];exact⟨_,.inl ai,av (ad.2 hw) (Classical.not_not.1 fun k=>tj ⟨aj.1 (ad.2 hw),k⟩)⟩
      · obtain⟨h3,h4⟩:=aw (Bool.eq_false_iff.2 fun k=>hw (ad.1 k))
        rw[T4 hw,h3,h4];exact⟨_,.inl ai,aq⟩
    · show C<=an;omega
  ·
   refine WP.exit<|⟨rfl,rfl,[],kr,?_⟩
   have hi:fV=F.iD.l.length+1:=by omega
   rw[hi]at ah
   exact⟨(show C<=ja by omega),jm,.inl (ah.imp fun _ h=>h.2)⟩
 ·
  exact⟨0,om,kr,Nat.le_refl _,aJ,ar,(⟨_,aL,aR⟩),nR⟩
end
end Sw
namespace Sw
noncomputable section
open Go Go.Proofs Go.RowKit
set_option maxRecDepth 100000
set_option maxHeartbeats 1600000
theorem gA.Z4{α:Type}{enc:α->List Value}{n nx:Nat}{hp:Ht}{s:SV α}{v:Value}(h:gA enc n hp nx s)(e:s.v=v):gA enc n hp nx ⟨v,s.l⟩:=by subst e;exact h
inductive uD:List (List fT)->List fT->Prop where
 |one (x:List fT):uD [x] x
 |snoc {W:List (List fT)} {J y J':List fT}:uD W J->MO J y J'->uD (W++[y]) J'
theorem T6{W:List (SV fT)}{i:Nat}{x:SV fT}(hi:i=0)(hx:W[i]?=some x):uD ((W.take (i+1)).map (·.l)) x.l:=by
 subst hi;rw[List.take_add_one,hx];exact .one _
theorem RR{W:List (SV fT)}{i:Nat}{x:SV fT}{J J':List fT}(hi:i≠0)(h:(i=0/\J=[])\/uD ((W.take i).map (·.l)) J)(hx:W[i]?=some x)(j:MO J x.l J'):uD ((W.take (i+1)).map (·.l)) J':=by
 rcases h with h|h
 · exact absurd h.1 hi
 · rw[List.take_add_one,hx,Option.toList_some,List.map_append]
   exact .snoc h j
def Vk(W:List (List fT))(l:List fT):Prop:=(W=[]/\l=[])\/uD W l
theorem V6(aA:y5)(W:SV (SV fT))(hp:Ht)(nx:Nat)(I:jt lG 1 (fun hp nx y=>gA fo 2 hp nx y) hp nx W):WF ex 30 [W.v,.func (.func 31) #[] #[]] hp nx (fun v fe fg=>Ii (Vk (W.l.map (·.l))) v fe fg/\nx<=fg/\HE nx hp fe):=by
 obtain⟨a1,c2,hR⟩:=I.1.shape
 have lW:=I.1.2.2
 rw[hR]
 refine wd Tryz.f30 31 [.tmp 4,.tmp 5] fun hE=>sr<|oN 2<|WP.seq<|sr<|oN 3<|WP.block ?_
 refine my [1,4,8,9,10] (fun m hs ns vs=>∃(fV:Nat) (J:SV fT),fV+m=W.l.length/\vs=[.func (.func 31) #[] #[],J.v,.slice a1 (W.l.length) c2,iN (.ofNat (W.l.length)),iN (.ofNat fV)]/\nx<=ns/\HE (nx) hp hs/\(gA fo 2 hs ns J)/\((fV=0/\J.l=[])\/uD ((W.l.take fV).map (·.l)) J.l)) ?_ (W.l.length) ?_
 ·
  rintro xn pT ja _ ⟨fV,J,tP,rfl,oe,jm,ae,ad⟩ tQ
  have j2:=hE.trans jm nR
  have C:=Nat.le_trans nR oe
  have an:=HE.refl (ja) pT
  have au:=Nat.le_refl (ja)
  refine sr ?_
  refine oq 11 (kV fV W.l.length) fun sF vt=>WO.nil<|WP.seq<|cq vt (fun ay=>?_) (fun ay=>?_)
  ·
   refine WP.skip<|WP.seq<|WP.block<|sr<|oX 1 ?_
   have U:fV<W.l.length:=by omega
   refine WO.cons (WC.iy hR I.1 (fV) Az qC (U) ?_)
   obtain⟨j,o⟩:=gE U
   obtain⟨a21,ak,R⟩:=(I.2 j (List.mem_of_getElem? o)).shape
   have az:=(I.2 j (List.mem_of_getElem? o)).2.2
   refine WO.cons (WC.lz (.slice a21 (j.l.length) ak) hR (I.1.mono j2 C) o (by rw[<-R];rfl) nM<|oN 2<|WP.seq<|sr<|oX 1 ?_)
   refine oq 16 (w5 fV 0) fun uB uC=>WO.nil<|cq uC (fun xU=>?_) (fun xU=>?_)
   ·
    refine sr<|oN 2<|WP.exit<|WP.region<|ov 29 (iN (.ofNat (fV+1))) ?_ (fun _ _ _=>by rw[<-gU (show fV+1<9223372036854775808 by omega)];kernel_rfl)
    refine oN 1<|⟨W.l.length-(fV+1),om,rfl,rfl,fV+1,⟨.slice a21 (j.l.length) ak,j.l⟩,om,kr,?_,?_,?_,?_⟩
    · exact oe
    · exact jm
    · exact gA.Z4 ((I.2 j (List.mem_of_getElem? o)).mono j2 C) R
    · exact .inr (show uD _ j.l from T6 om o)
   ·
    refine WP.skip<|sr<|oX 3<|WO.cons (WC.call 22 31 ([J.v,j.v]) (fun _ _ _=>by(try rw[R]);kernel_rfl) ((Qn aA J j pT (ja) (ae.mono an au) ((I.2 j (List.mem_of_getElem? o)).mono j2 C)).mono ?_))
    rintro _ vv ai ⟨⟨ab,z28,rfl,aa,ah⟩,ag,af⟩
    have al:=j2.trans af C
    have ao:=jm.trans af oe
    have av:=Nat.le_trans oe ag
    have ar:=Nat.le_trans C ag
    have aq:=HE.refl (ai) vv
    have aw:=Nat.le_refl (ai)
    refine oN 5<|sr<|oX 1 ?_
    refine oq 26 (qW z28 0) fun aB ax=>WO.nil<|cq ax (fun aj=>?_) (fun aj=>?_)
    ·
     refine sr<|oW 4 ⟨rfl,rfl,[ab.v,iN z28],kr,?_⟩
     exact⟨⟨ab,z28,rfl,aa,ah.elim (fun h=>absurd h.1 aj) .inr⟩,ar,al⟩
    ·
     refine WP.skip<|WP.region<|ov 29 (iN (.ofNat (fV+1))) ?_ (fun _ _ _=>by rw[<-gU (show fV+1<9223372036854775808 by omega)];kernel_rfl)
     refine oN 1<|⟨W.l.length-(fV+1),om,rfl,rfl,fV+1,ab,om,kr,?_,?_,?_,?_⟩
     · exact av
     · exact ao
     · exact(aa.mono aq aw)
     · rcases ah with⟨_,h2⟩|⟨h1,_⟩
       · exact .inr (RR om ad o h2)
       · exact absurd (show(z28:Int)≠0 by omega) aj
  ·
   refine WP.exit<|sr<|oW 3 ⟨rfl,rfl,[J.v,iN 0],kr,?_⟩
   have hT:W.l.take fV=W.l:=List.take_of_length_le om
   rw[hT]at ad
   refine⟨⟨J,0,rfl,ae,.inl ⟨rfl,ad.imp (fun h=>⟨?_,h.2⟩) id⟩⟩,C,j2⟩
   rw[List.eq_nil_of_length_eq_zero (show W.l.length=0 by omega)];rfl
 ·
  exact⟨0,⟨.slice none 0 0,[]⟩,om,kr,Nat.le_refl _,HE.refl _ _,sY,.inl ⟨rfl,rfl⟩⟩
end
end Sw
namespace Sw
noncomputable section
namespace Pub
open Classical
structure Xv{K:Type}(lt:K->K->Prop):Prop where
 irr:∀x,¬lt x x
 tr:∀{x y z},lt x y->lt y z->lt x z
 zf:∀x y,lt x y\/x=y\/lt y x
section
variable {K D:Type}{lt:K->K->Prop}
theorem Xv.eq(h:Xv lt){x y:K}(a:¬lt x y)(b:¬lt y x):x=y:=by
 rcases h.zf x y with k|k|k
 · exact absurd k a
 · exact k
 · exact absurd k b
def MV{E:Type}(lt:K->K->Prop)(k:K)(l:List (K×E)):Prop:=∀p∈l,lt k p.1
def Vl{E:Type}(lt:K->K->Prop):List (K×E)->Prop
 |[]=>True
 |x::l=>MV lt x.1 l/\Vl lt l
theorem MV.cons{E:Type}{k:K}{x:K×E}{l:List (K×E)}(h:MV lt k (x::l)):lt k x.1/\MV lt k l:=⟨h x (List.mem_cons_self ..),fun p hp=>h p (List.mem_cons_of_mem _ hp)⟩
theorem MV.mk{E:Type}{k:K}{x:K×E}{l:List (K×E)}(h:lt k x.1)(hl:MV lt k l):MV lt k (x::l):=fun p hp=>by
 rcases List.mem_cons.1 hp with rfl|hp
 · exact h
 · exact hl p hp
theorem Vl.sub{E:Type}{l j:List (K×E)}(h:Vl lt l)(hs:j.Sublist l):Vl lt j:=by
 induction hs with
 |slnil=>trivial
 |cons a _ ih=>exact ih h.2
 |cons_cons a hs ih=>exact⟨fun p hp=>h.1 p (hs.subset hp),ih h.2⟩
end
end Pub
end
end Sw
namespace Sw
noncomputable section
open Go Go.RowKit
section
variable {e:Env}{fm:Fm}{to:Tm}{ds:List Deferred}{hp:Ht}{nx:Nat}{gW:List Nat}{Q:St->Prop}{all:List Oper}{i j:Nat}{w:Bool}{d:Tmp}{ty:TypeId}{pos:String}{j1:Array Edge}{l:List Cl}{s t:TypeId}{x:Operand}
theorem WC.conv(v:Value){y:Value}(hx:(aaj x).run to=y)(h:t_ e.T hp.get s t y nx=some (v,[],0))(q:Q ⟨to.set d v,ds,hp,nx,gW⟩):WC e fm (iH all ⟨some d,.convert s t x,ty,pos,j1,none⟩) ⟨to,ds,hp,nx,gW⟩ Q:=by
 refine .val d v (fun rec cs k=>?_) q
 subst hx
 have:(iH all ⟨some d,.convert s t x,ty,pos,j1,none⟩).run e rec fm to ds hp nx cs k=qy (t_ e.T hp.get s t ((aaj x).run to) nx) (tw (fun t v=>t.set d v) e.low to ds hp nx cs k):=rfl
 rw[this,h];rfl
end
def YZ(a b:ByteArray):Prop:=Hs (strs a) (strs b)=true
def vw(v:Value)(n i l:Nat):Value:=match v with
 |.slice (some ⟨b,o,none⟩) _ c=>.slice (some ⟨b,o+i*n,none⟩) l (c-i)
 |_=>.slice none 0 0
theorem Xw(k:Nat)(v:Value)(n i l:Nat):kY k (vw v n i l) (vw v n i l)=true:=by
 unfold vw
 split
 · exact qT ..
 · exact xk ..
def T7{α:Type}(enc:α->List Value)(n:Nat)(hp:Ht)(nx b o:Nat)(x:α):Prop:=b<nx/\∃m cells,hp.get b=some (.cells cells m)/\lJ n (cells.drop o)=some (enc x)
theorem T7.mono{α:Type}{enc:α->List Value}{n:Nat}{hp fe:Ht}{nx fg b o:Nat}{x:α}(h:T7 enc n hp nx b o x)(he:HE nx hp fe)(hn:nx<=fg):T7 enc n fe fg b o x:=by
 obtain⟨h1,m,cells,h2,h3⟩:=h
 exact⟨by omega,m,cells,he.get h2 h1,h3⟩
section
variable {α:Type}{enc:α->List Value}{n:Nat}{hp fe:Ht}{nx fg:Nat}{s:SV α}{T:Ty}{t el i l p:Nat}
theorem RS{b:Nat}{cs:List Value}{m:gl}(h:hp.get b=some (.cells cs m))(hm:m.mu=none\/m.unit=n):AE hp.get b n=true:=by
 unfold AE
 rw[h]
 rcases hm with hm|hm
 · simp only[hm]
 · cases hg:m.mu with
   |none=>simp only[hg]
   |some g=>simp only[hg,hm];exact Nat.beq_refl _
theorem Xx(h:gA enc n hp nx s):vw s.v n 0 s.l.length=s.v:=by
 rcases h.2.1 with⟨h1,h2|⟨q,h2⟩⟩|⟨b,cap,m,h1,_⟩
 · rw[h1,h2];rfl
 · rw[h1,h2];show Value.slice (some ⟨q,0+0*n,none⟩) 0 (0-0)=_;simp
 · rw[h1];show Value.slice (some ⟨b,0+0*n,none⟩) s.l.length (cap-0)=_;simp
theorem MW{a b:Nat}(h:a<=b):Nat.ble a b=true:=Nat.ble_eq_true_of_le h
theorem T8(h:gA enc n hp nx s)(hu:T.ji t=some (.slice el))(hs:T.size el=some n)(j:i+l<=s.l.length)(C:p<=l):sy T hp.get t (vw s.v n i l) none (some (.int .i64 (.ofNat p))) none=some (vw s.v n i p):=by
 rcases h.2.1 with⟨h1,h2|⟨q,h2⟩⟩|⟨b,cap,m,h1,h2,h3,h4,I,o⟩
 · rw[h1]at j
   have hl:l=0:=by simp at j;omega
   have DL:p=0:=by omega
   subst hl DL
   rw[h2]
   show sy T hp.get t (.slice none 0 0) none (some (.int .i64 (.ofNat 0))) none=some (.slice none 0 0)
   simp only[sy,hu,hs,Option.bind_some];rfl
 · rw[h1]at j
   have hl:l=0:=by simp at j;omega
   have hi:i=0:=by simp at j;omega
   have DL:p=0:=by omega
   subst hl DL hi
   rw[h2]
   show sy T hp.get t (.slice (some ⟨q,0+0*n,none⟩) 0 (0-0)) none (some (.int .i64 (.ofNat 0))) none=some (.slice (some ⟨q,0+0*n,none⟩) 0 (0-0))
   have e0:Nat.ble 0 0=true:=rfl
   simp[sy,hu,hs,vM,xf,IP,e0]
 · rw[h1]
   show sy T hp.get t (.slice (some ⟨b,0+i*n,none⟩) l (cap-i)) none (some (.int .i64 (.ofNat p))) none=some (.slice (some ⟨b,0+i*n,none⟩) p (cap-i))
   have e1:Nat.ble l (cap-i)=true:=MW (by omega)
   have e2:Nat.ble p (cap-i)=true:=MW (by omega)
   have e3:Nat.ble 0 p=true:=MW (by omega)
   simp[sy,hu,hs,e1,RS h4 o,vM,xf,IP,e2]
theorem RT(h:gA enc n hp nx s)(hu:T.ji t=some (.slice el))(hs:T.size el=some n)(j:p<=s.l.length):sy T hp.get t s.v none (some (.int .i64 (.ofNat p))) none=some (vw s.v n 0 p):=by
 have:=T8 (i:=0) h hu hs (show 0+s.l.length<=s.l.length by omega) j
 rwa[Xx h]at this
end
def HC(B nx:Nat)(hp fe:Ht):Prop:=∀c cs m,B<=c->c<nx->hp.get c=some (.cells cs m)->fe.get c=some (.cells cs m)
theorem HE.hc{B nx:Nat}{hp fe:Ht}(h:HE nx hp fe):HC B nx hp fe:=fun _ _ _ _ h2 h3=>h.get h3 h2
def EU{α:Type}(B:Nat)(enc:α->List Value)(n:Nat)(hp:Ht)(nx:Nat)(s:SV α):Prop:=gA enc n hp nx s/\∀b l c,s.v=.slice (some ⟨b,0,none⟩) l c->0<c->B<=b
section
variable {α:Type}{enc:α->List Value}{n B B' gr:Nat}{hp fe:Ht}{nx fg:Nat}{s J:SV α}
theorem EU.mono(h:EU B enc n hp nx s)(hc:HC B nx hp fe)(hn:nx<=fg):EU B enc n fe fg s:=by
 refine⟨⟨h.1.1,?_,h.1.2.2⟩,h.2⟩
 rcases h.1.2.1 with k|⟨b,cap,m,h1,h2,h3,h4,j⟩
 · exact .inl k
 · exact .inr ⟨b,cap,m,h1,h2,by omega,hc b _ _ (h.2 b _ _ h1 h2) h3 h4,j⟩
theorem EU.le(h:EU B enc n hp nx s)(hb:B'<=B):EU B' enc n hp nx s:=⟨h.1,fun b l c e h0=>Nat.le_trans hb (h.2 b l c e h0)⟩
theorem EU.nil:EU B enc n hp nx ⟨.slice none 0 0,[]⟩:=⟨⟨(fun _ h=>by cases h),.inl ⟨rfl,.inl rfl⟩,by show(0:Nat)<_;decide⟩,(fun b l c e=>by cases e)⟩
def EV(enc:α->List Value)(n B:Nat)(hp:Ht)(nx:Nat)(J:SV α):Prop:=
 mf enc n B hp nx J\/(J.l=[]/\∃b,J.v=.slice (some ⟨b,0,none⟩) 0 0/\B<=b/\b<nx/\hp.get b=some (.cells [] gl.plain))
theorem EV.mono(h:EV enc n B hp nx J)(he:HE nx hp fe)(hn:nx<=fg):EV enc n B fe fg J:=by
 rcases h with h|⟨h1,b,h2,h3,h4,j⟩
 · exact .inl (h.mono he hn)
 · exact .inr ⟨h1,b,h2,h3,by omega,he.get j h4⟩
theorem EV.ok(h:EV enc n B hp nx J)(he:∀x∈J.l,(enc x).length=n)(hs:J.l.length<281474976710656):gA enc n hp nx J:=by
 rcases h with h|⟨h1,b,h2,_⟩
 · exact h.ok he hs
 · exact⟨he,.inl ⟨h1,.inr ⟨b,h2⟩⟩,hs⟩
theorem EV.append{T:Ty}{st xt el:Nat}{x z:Value}{inf:TypeInfo}(j:List α)(h:EV enc n B hp nx J)(hlen:∀y∈J.l,(enc y).length=n)(hu:T.ji st=some (.slice el))(hs:T.size el=some n)(ab:T.zero el=some z)(hi:T.info el=some inf)
 (hx:pn T xt x=some (j.length,false)) (o:lK hp.get (j.length*n) x=some (j.flatMap enc)) (C:tZ n x=true) (aj:∀y∈j,(enc y).length=n) (R:(j.flatMap enc).all one=true) (ae:0<n)
 (b2:inf.bytes<=1024) (I:J.l.length+j.length<=1048576) (ag:B<=nx):
 ∃v' jA k,jZ T hp.get st xt J.v x nx=some (v',jA,k)/\EV enc n B (jg jA hp) (nx+k) ⟨v',J.l++j⟩/\HE B hp (jg jA hp):=by
 have b1:(J.l.length+j.length)*inf.bytes<=70368744177664:=Nat.le_trans (Nat.mul_le_mul I b2) (by decide)
 rcases h with h|⟨h1,b,h2,h3,h4,af⟩
 · obtain⟨v',jA,k,ak,al,q3⟩:=h.yF j hlen hu hs ab hi hx o C aj R ae b1 (by omega) (by omega) ag
   exact⟨v',jA,k,ak,.inl al,q3⟩
 · rw[h1]at b1 I
   have b1:(0+j.length)*inf.bytes<=70368744177664:=b1
   have I:0+j.length<=70368744177664:=by simp at I;omega
   rcases Nat.eq_zero_or_pos j.length with hm|hm
   · obtain rfl:=List.eq_nil_of_length_eq_zero hm
     have ai:pn T xt x=some (0,false):=hx
     have U:lK hp.get (0*n) x=some []:=o
     have ad:(0+0)*inf.bytes<=70368744177664:=by simp
     refine⟨.slice (some ⟨b,0,none⟩) 0 0,[],0,?_,.inr ⟨by rw[h1];rfl,b,rfl,h3,h4,af⟩,HE.refl _ _⟩
     rw[h2]
     simp only[jZ,hu,hs,ab,hi,ai,ml,cond_false,C,cond_true,U,Option.bind_some,List.all_nil,Nat.ble_eq_true_of_le ad,Nat.ble_eq_true_of_le (show inf.bytes<=1073741824 by omega),Nat.ble_eq_true_of_le (show 0+0<=70368744177664 by omega),Bool.and_true,Nat.ble_eq_true_of_le (show 0+0<=0 by omega)]
   · have aa:Nat.ble (0+j.length) 0=false:=by
      cases hb:Nat.ble (0+j.length) 0 with
      |false=>rfl
      |true=>have:=Nat.le_of_ble_eq_true hb;omega
     have e1:jZ T hp.get st xt (.slice (some ⟨b,0,none⟩) 0 0) x nx=pC hp.get (some ⟨b,0,none⟩) 0 n (j.flatMap enc) j.length nx:=by
      simp only[jZ,hu,hs,ab,hi,hx,ml,cond_false,C,cond_true,o,Option.bind_some,R,Nat.ble_eq_true_of_le b1,Nat.ble_eq_true_of_le (show inf.bytes<=1073741824 by omega),Nat.ble_eq_true_of_le I,Bool.and_true,aa]
     have e2:pC hp.get (some ⟨b,0,none⟩) 0 n (j.flatMap enc) j.length nx=some (.slice (some ⟨nx+1,0,none⟩) (0+j.length) (0+j.length),
      [(nx,some (jM.group [⟨nx+1,0,(j.flatMap enc).length⟩])),(nx+1,some (jM.cells (j.flatMap enc) ⟨false,some nx,0,n⟩))],2):=by
      simp only[s9,af,Nat.zero_mul,ym,Option.bind_some,List.nil_append];rfl
     rw[h2]
     refine⟨_,_,_,e1.trans e2,.inl (.inr ⟨by rw[h1];simpa using hm,nx+1,nx,by rw[h1];simp,?_,⟨[⟨nx+1,0,_⟩],(Tr.gC _ _ (by omega)).trans (Tr.hY ..),fun e he=>?_⟩,by omega,by omega,by omega,ag⟩),fun c hc=>?_⟩
     · rw[h1];exact Tr.hY ..
     · rw[List.mem_singleton.1 he,h1]
       refine⟨by simp,by show B<=nx+1;omega,by show nx+1<_;omega,by show nx+1≠nx;omega,fun l ah=>?_⟩
       have:=ah.symm.trans (Tr.hY ..)
       cases this
     · exact(Tr.gC _ _ (by omega)).trans (Tr.gC _ _ (by omega))
theorem lU.hc{C:Nat}(h:lU enc n B gr hp nx J)(he:∀c,c<nx->(J.l≠[]->c≠gr)->fe.get c=hp.get c):HC C nx hp fe:=by
 intro c cs m _ hc hg
 refine(he c hc fun hj k=>?_).trans hg
 rcases h with h|⟨_,_,_,_,_,h4,_⟩
 · exact hj h.1
 · rw[k,h4]at hg;cases hg
end
section
variable {e:Env}{fm:Fm}{to:Tm}{ds:List Deferred}{hp:Ht}{nx:Nat}{gW:List Nat}{Q:St->Prop}{all:List Oper}{d:Tmp}{ty:TypeId}{pos:String}{j1:Array Edge}
end
inductive Xy{α β:Type}(nA:α->ByteArray)(nB:β->ByteArray)(A:List α)(B:List β):Nat->Nat->Nat->Nat->Prop
 |left {i k:Nat} (x:α) (hx:A[i]?=some x) (h:∀y,B[k]?=some y->YZ (nA x) (nB y)):Xy nA nB A B i k 1 0
 |right {i k:Nat} (y:β) (hy:B[k]?=some y) (h:∀x,A[i]?=some x->YZ (nB y) (nA x)):Xy nA nB A B i k 0 1
 |both {i k:Nat} (x:α) (y:β) (hx:A[i]?=some x) (hy:B[k]?=some y) (h:nA x=nB y):Xy nA nB A B i k 1 1
end
end Sw
namespace Sw
noncomputable section
open Go Go.Proofs Go.RowKit
set_option maxRecDepth 100000
set_option maxHeartbeats 1600000
theorem RU(K:SV Int)(l:Nat)(n:Int)(hp:Ht)(nx:Nat)(hK:gA encI 1 hp nx K)(hl:l<=K.l.length)(a:Option Addr)(c:Nat)(aa:K.v=.slice a K.l.length c)(al:kY 8 (.slice a l c) (.slice a l c)=true):WF ex 103 [.slice a (l) c,iN n] hp nx (fO nx hp (pM (K.l.take l) (fun x=>n=x))):=by
 refine wd Tryz.f103 19 [.tmp 4] fun hE=>?_
 have ag:=hK.2.2
 refine sr<|oN 1<|WP.seq<|sr<|oN 3<|WP.block ?_
 refine my [0,1,7,8] (fun m hs ns vs=>∃(o:Nat),o+m=l/\vs=[.slice a (l) c,iN n,iN (.ofNat (l)),iN (.ofNat o)]/\nx<=ns/\HE (nx) hp hs/\(∀(j:Nat) (y:Int),j<o->(K.l.take l)[j]?=some y->¬n=y)) ?_ (l) ?_
 ·
  rintro an ak ao _ ⟨o,af,rfl,ME,qm,hinv⟩ ah
  have J:=hE.trans qm
  refine sr ?_
  refine oq 9 (kV o l) fun ai ab=>WO.nil<|WP.seq<|cq ab (fun ae=>?_) (fun ae=>?_)
  ·
   refine WP.skip<|WP.seq<|WP.block<|sr<|oN 2<|sr<|oX 3 ?_
   have C:o<l:=by omega
   refine WO.cons (WC.ix (k:=.i64) a (l) c (o) 1 kr kr lD kj ((hK.mono J nR).ue aa (Nat.lt_of_lt_of_le (zl C) hl)) (C) ?_)
   obtain⟨U,I⟩:=gE (Nat.lt_of_lt_of_le C hl)
   refine WO.cons (WC.lz (iN U) aa (hK.mono J nR) I rfl fP ?_)
   refine oq 16 (qp n U) fun aj ad=>WO.nil<|cq ad (fun R=>?_) (fun R=>?_)
   ·
    refine sr<|oW 2 ⟨rfl,rfl,[iN (.ofNat o)],kr,?_⟩
    exact⟨.inr ⟨o,U,rfl,(by rw[List.getElem?_take_of_lt om];exact I),R,hinv⟩,od,J⟩
   ·
    refine WP.skip<|WP.region<|ov 18 (iN (.ofNat (o+1))) ?_ (fun _ _ _=>by rw[<-gU (show o+1<9223372036854775808 by omega)];kernel_rfl)
    refine oN 1<|⟨l-(o+1),om,rfl,rfl,o+1,om,kr,?_,?_,?_⟩
    · exact ME
    · exact qm
    · intro j y hj hy;rcases Nat.lt_succ_iff_lt_or_eq.1 hj with hj|rfl;exact hinv j y hj hy;rw[List.getElem?_take_of_lt om,I]at hy;cases hy;exact R
  ·
   refine WP.exit<|sr<|oW 1 ⟨rfl,rfl,[iN (-1)],kr,?_⟩
   refine⟨.inl ⟨rfl,fun y hy=>?_⟩,od,J⟩
   obtain⟨j,hj⟩:=List.getElem?_of_mem hy
   exact hinv j y (by have:=(List.getElem?_eq_some_iff.1 hj).1;rw[List.length_take]at this;omega) hj
 ·
  exact⟨0,om,kr,Nat.le_refl _,HE.refl _ _,(fun j y h=>absurd h (Nat.not_lt_zero _))⟩
end
end Sw
namespace Sw
noncomputable section
open Go Go.Proofs Go.RowKit
set_option maxRecDepth 100000
set_option maxHeartbeats 1600000
inductive j6 where
 |cond (c:RCond)
 |step (s:RStep)
instance :Inhabited j6:=⟨.cond default⟩
def fv:j6->Value
 |.cond c=>.iface 553 (.agg (ig c).toArray)
 |.step s=>.iface 469 (.agg (ju s).toArray)
def ma(x:j6):List Value:=[fv x]
def mb(hp:Ht)(nx:Nat):j6->Prop
 |.cond c=>lB hp nx c
 |.step s=>j4 hp nx s
theorem mb.mono{hp fe:Ht}{nx fg:Nat}{x:j6}(h:mb hp nx x)(he:HE nx hp fe)(hn:nx<=fg:=by omega):mb fe fg x:=by
 cases x with
 |cond c=>exact lB.mono h he hn
 |step s=>exact j4.mono h he hn
theorem Xz(x:j6):one (fv x)=true:=by cases x<;>rfl
def xp:j6->Nat
 |.cond c=>sizeOf c
 |.step s=>sizeOf s
def qK:j6->Prop
 |.cond c=>lY c
 |.step s=>ph s
def qx:j6->List j6
 |.cond c=>c.fW.l.map .cond
 |.step s=>s.lX.l.map .step++s.nu.l.map .step
theorem qY{hp:Ht}{nx:Nat}{f:j6}(h:mb hp nx f):∀x∈qx f,mb hp nx x:=by
 intro x hx
 cases f with
 |cond c=>
  obtain⟨y,hy,rfl⟩:=List.mem_map.1 hx
  exact(lB.fW h).2 y hy
 |step s=>
  rcases List.mem_append.1 hx with hx|hx
  · obtain⟨y,hy,rfl⟩:=List.mem_map.1 hx
    exact(j4.lX h).2 y hy
  · obtain⟨y,hy,rfl⟩:=List.mem_map.1 hx
    exact(j4.nu h).2 y hy
theorem vy{f x:j6}(hx:x∈qx f):xp x<xp f:=by
 cases f with
 |cond c=>
  obtain⟨y,hy,rfl⟩:=List.mem_map.1 hx
  exact RCond.Cq hy
 |step s=>
  rcases List.mem_append.1 hx with hx|hx
  · obtain⟨y,hy,rfl⟩:=List.mem_map.1 hx
    exact RStep.then_lt hy
  · obtain⟨y,hy,rfl⟩:=List.mem_map.1 hx
    exact RStep.OV hy
theorem qf{hp:Ht}{nx:Nat}{f:j6}(h:mb hp nx f):(qx f).length<=2932031007403:=by
 cases f with
 |cond c=>have:=lB.len h;simp only[qx,List.length_map];omega
 |step s=>have:=j4.len h;simp only[qx,List.length_map,List.length_append];omega
theorem pr:ex.T.agg 106=some false:=kr
theorem yN:ex.T.agg 107=some false:=kr
theorem sH:ex.T.agg 147=some false:=kr
theorem xa:ex.T.agg 149=some true:=kr
theorem we:ex.T.agg 22=some false:=kr
theorem CF:ex.T.agg 23=some false:=kr
theorem rI:ex.T.agg 24=some false:=kr
theorem FA:ex.T.agg 25=some false:=kr
theorem FB:ex.T.agg 26=some false:=kr
theorem CG:ex.T.agg 27=some false:=kr
theorem FC:ex.T.agg 28=some false:=kr
theorem uN:ex.T.agg 29=some false:=kr
theorem MX:ex.T.agg 9=some false:=kr
theorem nQ:ex.T.size 109=some 5:=kr
theorem qZ:ex.T.size 144=some 3:=kr
theorem sm:ex.T.size 149=some 4:=kr
theorem tV:ex.T.size 151=some 8:=kr
theorem yO:ex.T.ji 106=some (.slice 144):=kr
theorem MY:ex.T.ji 147=some (.slice 149):=kr
theorem wg:ex.T.ji 24=some (.slice 109):=kr
theorem CH:ex.T.ji 29=some (.slice 151):=kr
theorem V8(c:RCond)(hp:Ht)(nx:Nat)(hc:lB hp nx c):WF ex 104 [.agg (ig c).toArray] hp nx (fO nx hp (gk (nw c))):=by
 refine wd Tryz.f104 22 [.tmp 2] fun hE=>sr<|oB (.agg (ig c).toArray) (ig c) fun jN iY iA=>?_
 refine oN 1<|sr<|oX 1<|oZ nx 0 (iN c.jf) fP iA rfl ?_
 obtain⟨C,ae,af⟩:=qp c.jf 0
 refine ob 5 ae<|oX 1<|gT 6 C (pt nx (0+1))<|lr 6 C nx (0+1) (iN c.rP) fP iA rfl ?_
 refine qw 6 C (qp c.rP 0) fun aj ag=>?_
 refine mI 10 (nA af ag) fun j R=>oX 1<|gT 11 j (pt nx (0+2))<|lr 11 j nx (0+2) (iN c.fN) fP iA rfl ?_
 refine qw 11 j (qp c.fN 0) fun ah U=>?_
 refine mI 15 (nA R U) fun ow sj=>oX 1<|gT 16 ow (pt nx (0+3)) ?_
 obtain⟨J,CA,I⟩:=hc.fW.1.shape
 have ad:=hc.fW.1.2.2
 refine lr 16 ow nx (0+3) (.slice J (c.fW.l.length) CA) sH iA (by rw[<-I];rfl)<|gT 16 ow (iN (.ofNat (c.fW.l.length))) ?_
 refine qw 16 ow (w5 c.fW.l.length 0) fun ai aa=>?_
 refine mI 21 (nA sj aa) fun o ab=>oW 1 ⟨rfl,rfl,[.bool o],kr,?_⟩
 refine⟨⟨o,rfl,?_⟩,od,(hE.trans iY)⟩
 exact ab.trans ⟨fun⟨⟨⟨a,b⟩,c⟩,d⟩=>⟨a,b,c,List.eq_nil_of_length_eq_zero om⟩,fun⟨a,b,c,d⟩=>⟨⟨⟨a,b⟩,c⟩,by rw[d];rfl⟩⟩
theorem Il(k:Nat)(ih:∀(c:RCond) (d:Int) (hp:Ht) (nx:Nat),sizeOf c<k->lB hp nx c->WF ex 105 [.agg (ig c).toArray,iN d] hp nx (fO nx hp zF))(c:RCond)(d:Int)(hp:Ht)(nx:Nat)(hk:sizeOf c<k+1)(hc:lB hp nx c):WF ex 105 [.agg (ig c).toArray,iN d] hp nx (fO nx hp zF):=by
 refine wd Tryz.f105 31 [.tmp 4] fun hE=>sr<|oB (.agg (ig c).toArray) (ig c) fun jN iY iA=>?_
 have l_:=hE.trans iY
 refine oN 1<|WP.seq<|sr<|oX 1 ?_
 refine oq 8 (nz 16 d) fun ax au=>WO.nil<|cq au (fun ak=>?_) (fun ak=>?_)
 ·
  refine sr<|oW 1 ⟨rfl,rfl,[iN 1000],kr,?_⟩
  exact⟨⟨_,rfl⟩,od,l_⟩
 ·
  refine WP.skip<|sr<|oN 1<|WP.seq<|sr<|oN 1<|WP.block ?_
  refine my [1,2,5,6] (fun m hs ns vs=>∃(gZ:Nat) (R:Int),gZ+m=c.fW.l.length/\vs=[iN d,pt nx 0,iN R,iN (.ofNat gZ)]/\nx+1<=ns/\HE (nx+1) jN hs) ?_ (c.fW.l.length) ?_
  ·
   rintro EL af ag _ ⟨gZ,R,al,rfl,ae,C⟩ By
   have o:=l_.trans C
   have U:=C.get iA
   refine WP.seq<|sr<|oX 2 ?_
   obtain⟨a22,EJ,j⟩:=hc.fW.1.shape
   have an:=hc.fW.1.2.2
   refine oZ nx (0+3) (.slice a22 (c.fW.l.length) EJ) sH U (by rw[<-j];rfl)<|oX 1 ?_
   refine oq 13 (kV gZ c.fW.l.length) fun ab ah=>oX 1<|gT 14 ab (iN R) ?_
   refine qw 14 ab (qo R 256) fun av ai=>?_
   refine mI 17 (nA ah ai) fun aw aj=>WO.nil<|cq aj (fun wv=>?_) (fun wv=>?_)
   ·
    refine WP.skip<|WP.seq<|WP.block<|WP.region<|oX 2<|oZ nx (0+3) (.slice a22 (c.fW.l.length) EJ) sH U (by rw[<-j];rfl)<|oX 1 ?_
    have J:gZ<c.fW.l.length:=by omega
    refine WO.cons (WC.iy j hc.fW.1 (gZ) MY sm (J) ?_)
    obtain⟨aa,I⟩:=gE J
    refine WO.cons (WC.ly j (hc.fW.1.mono o nR) I xa sm<|oX 2<|WO.cons (WC.call 28 105 ([.agg (ig aa).toArray,iN (gD .i64 ((d)+(1)))]) kf ((ih aa (gD .i64 ((d)+(1))) af (ag) (by have:=RCond.Cq (List.mem_of_getElem? I);omega) ((hc.fW.2 aa (List.mem_of_getElem? I)).mono o)).mono ?_)))
    rintro _ aq ar ⟨⟨z37,rfl⟩,ao,ad⟩
    refine oN 2<|WP.region<|oX 1<|ov 19 (iN (.ofNat (gZ+1))) ?_ (fun _ _ _=>by rw[<-gU (show gZ+1<9223372036854775808 by omega)];kernel_rfl)
    refine oN 1<|⟨c.fW.l.length-(gZ+1),om,rfl,rfl,gZ+1,gD .i64 ((R)+(z37)),om,kr,?_,?_⟩
    · exact od
    · exact(C.trans ad ae)
   ·
    refine WP.exit<|sr<|oW 2 ⟨rfl,rfl,[iN R],kr,?_⟩
    exact⟨⟨_,rfl⟩,od,o⟩
  ·
   exact⟨0,1,om,kr,Nat.le_refl _,HE.refl _ _⟩
theorem KR(c:RCond)(d:Int)(hp:Ht)(nx:Nat)(hc:lB hp nx c):WF ex 105 [.agg (ig c).toArray,iN d] hp nx (fO nx hp zF):=by
 have h:∀(k:Nat) (c:RCond) (d:Int) (hp:Ht) (nx:Nat),sizeOf c<k->lB hp nx c->WF ex 105 [.agg (ig c).toArray,iN d] hp nx (fO nx hp zF):=by
  intro k
  induction k with
  |zero=>intro _ _ _ _ h;exact absurd h (Nat.not_lt_zero _)
  |succ k ih=>intro c d hp nx hk hc;exact Il k ih c d hp nx hk hc
 exact h _ c d hp nx (Nat.lt_succ_self _) hc
theorem RV(k:Nat)(ih:∀j,j<k->∀(l:SV RStep) (d:Int) (hp:Ht) (nx:Nat),(∀s∈l.l,sizeOf s<j)->jt ju 8 (fun hp nx y=>j4 hp nx y) hp nx l->WF ex 54 [l.v,iN d] hp nx (fO nx hp (fun v=>∃a b:Int,v=.tuple ⟨[iN a,iN b]⟩)))(l:SV RStep)(d:Int)(hp:Ht)(nx:Nat)(hk:∀s∈l.l,sizeOf s<k)(hl:jt ju 8 (fun hp nx y=>j4 hp nx y) hp nx l):WF ex 54 [l.v,iN d] hp nx (fO nx hp (fun v=>∃a b:Int,v=.tuple ⟨[iN a,iN b]⟩)):=by
 obtain⟨a1,c2,hR⟩:=hl.1.shape
 have lW:=hl.1.2.2
 rw[hR]
 refine wd Tryz.f54 84 [.tmp 4,.tmp 5] fun hE=>sr<|oN 2<|WP.seq<|sr<|oX 2 ?_
 refine oq 15 (nc 0 l.l.length) fun c4 p4=>oX 1<|gT 16 c4 (iN d) ?_
 refine qw 16 c4 (nz 16 d) fun a_ aU=>?_
 refine mI 19 (nA p4 aU) fun bc aV=>WO.nil<|cq aV (fun aW=>?_) (fun aW=>?_)
 ·
  refine sr<|oW 2 ⟨rfl,rfl,[iN 1000,iN 1000],kr,?_⟩
  exact⟨⟨_,_,rfl⟩,nR,hE⟩
 ·
  refine WP.skip<|sr<|oN 1<|sr<|oN 1<|WP.seq<|sr<|oN 1<|WP.block ?_
  refine my [0,1,6,7,8] (fun m hs ns vs=>∃(o:Nat) (n6:Int) (n7:Int),o+m=l.l.length/\vs=[.slice a1 (l.l.length) c2,iN d,iN n6,iN n7,iN (.ofNat o)]/\nx<=ns/\HE (nx) hp hs) ?_ (l.l.length) ?_
  ·
   rintro a8 A9 vz _ ⟨o,n6,n7,aL,rfl,au,af⟩ aX
   have wD:=hE.trans af
   refine WP.seq<|sr<|oX 3 ?_
   refine oq 23 (kV o l.l.length) fun aq aD=>oX 1<|gT 24 aq (iN n6) ?_
   refine qw 24 aq (qo n6 64) fun aY aE=>?_
   refine mI 27 (nA aD aE) fun xW EO=>oX 1<|gT 28 xW (iN n7) ?_
   refine qw 28 xW (qo n7 256) fun sk vp=>?_
   refine mI 31 (nA EO vp) fun aZ aF=>WO.nil<|cq aF (fun aI=>?_) (fun aI=>?_)
   ·
    refine WP.skip<|WP.seq<|WP.block<|sr<|oX 2 ?_
    have U:o<l.l.length:=by omega
    refine WO.cons (WC.iy hR hl.1 (o) CH tV (U)<|oX 1 ?_)
    obtain⟨C,I⟩:=gE U
    obtain⟨a28,aB,ak⟩:=(hl.2 C (List.mem_of_getElem? I)).lX.1.shape
    have aM:=(hl.2 C (List.mem_of_getElem? I)).lX.1.2.2
    refine WO.cons (WC.sC (gb a1) (0+(o)*8+6) (.slice a28 (C.lX.l.length) aB) kr uN ((hl.1.mono wD nR).pq hR (zl U)) (pF (hl.1.mono wD nR).1 I (by decide) (by rw[<-ak];rfl))<|oX 2<|WO.cons (WC.call 42 54 ([C.lX.v,iN (gD .i64 ((d)+(1)))]) (fun _ _ _=>by(try rw[ak]);kernel_rfl) ((ih _ (hk _ (List.mem_of_getElem? I)) C.lX (gD .i64 ((d)+(1))) A9 (vz) (fun s hs=>RStep.then_lt hs) ((hl.2 C (List.mem_of_getElem? I)).lX.mono (fun _ h he hn=>h.mono he hn) wD)).mono ?_)))
    rintro _ vv ax ⟨⟨a35,an,rfl⟩,aO,ag⟩
    have J:=wD.trans ag
    refine oN 5<|sr<|oX 2 ?_
    have ab:o<l.l.length:=by omega
    refine WO.cons (WC.iy hR hl.1 (o) CH tV (ab)<|oX 1 ?_)
    obtain⟨aA,aC,al⟩:=(hl.2 C (List.mem_of_getElem? I)).nu.1.shape
    have aN:=(hl.2 C (List.mem_of_getElem? I)).nu.1.2.2
    refine WO.cons (WC.sC (gb a1) (0+(o)*8+7) (.slice aA (C.nu.l.length) aC) kr uN ((hl.1.mono J nR).pq hR (zl ab)) (pF (hl.1.mono J nR).1 I (by decide) (by rw[<-al];rfl))<|oX 2<|WO.cons (WC.call 53 54 ([C.nu.v,iN (gD .i64 ((d)+(1)))]) (fun _ _ _=>by(try rw[al]);kernel_rfl) ((ih _ (hk _ (List.mem_of_getElem? I)) C.nu (gD .i64 ((d)+(1))) vv (ax) (fun s hs=>RStep.OV hs) ((hl.2 C (List.mem_of_getElem? I)).nu.mono (fun _ h he hn=>h.mono he hn) J)).mono ?_)))
    rintro _ av ay ⟨⟨a49,ao,rfl⟩,aP,ah⟩
    have R:=J.trans ah
    refine oN 5<|sr<|oN 7<|sr<|oN 6<|sr<|oX 2 ?_
    have ad:o<l.l.length:=by omega
    refine WO.cons (WC.iy hR hl.1 (o) CH tV (ad)<|oX 1<|WO.cons (WC.EE (gb a1) (0+(o)*8+2) (ig C.jc) kr xa sm ((hl.1.mono R nR).pq hR (zl ad)) (Mr (hl.1.mono R nR).1 I (by decide) rfl)<|WO.cons (WC.call 72 104 ([.agg (ig C.jc).toArray]) kf ((V8 C.jc av (ay) ((hl.2 C (List.mem_of_getElem? I)).jc.mono R)).mono ?_))))
    rintro _ aw az ⟨⟨a6,rfl,aG⟩,aQ,ai⟩
    have aa:=R.trans ai
    have aj:=((af.trans ag au).trans ah).trans ai
    refine oq 73 (nN aG) fun a7 aH=>WO.nil<|cq aH (fun aJ=>?_) (fun aJ=>?_)
    ·
     refine WP.region<|oX 3 ?_
     have ae:o<l.l.length:=by omega
     refine WO.cons (WC.iy hR hl.1 (o) CH tV (ae)<|oX 1<|WO.cons (WC.EE (gb a1) (0+(o)*8+2) (ig C.jc) kr xa sm ((hl.1.mono aa nR).pq hR (zl ae)) (Mr (hl.1.mono aa nR).1 I (by decide) rfl)<|WO.cons (WC.call 80 105 ([.agg (ig C.jc).toArray,iN 0]) kf ((KR C.jc (0) aw (az) ((hl.2 C (List.mem_of_getElem? I)).jc.mono aa)).mono ?_))))
     rintro _ aS aT ⟨⟨aK,rfl⟩,aR,ar⟩
     refine oN 2<|WP.region<|oX 1<|ov 33 (iN (.ofNat (o+1))) ?_ (fun _ _ _=>by rw[<-gU (show o+1<9223372036854775808 by omega)];kernel_rfl)
     refine oN 1<|⟨l.l.length-(o+1),om,rfl,rfl,o+1,gD .i64 ((gD .i64 ((gD .i64 ((n6)+(1)))+(a35)))+(a49)),gD .i64 ((gD .i64 ((gD .i64 ((n7)+(an)))+(ao)))+(aK)),om,kr,?_,?_⟩
     · exact od
     · exact(aj.trans ar)
    ·
     refine WP.skip<|WP.region<|oX 1<|ov 33 (iN (.ofNat (o+1))) ?_ (fun _ _ _=>by rw[<-gU (show o+1<9223372036854775808 by omega)];kernel_rfl)
     refine oN 1<|⟨l.l.length-(o+1),om,rfl,rfl,o+1,gD .i64 ((gD .i64 ((gD .i64 ((n6)+(1)))+(a35)))+(a49)),gD .i64 ((gD .i64 ((n7)+(an)))+(ao)),om,kr,?_,?_⟩
     · exact od
     · exact aj
   ·
    refine WP.exit<|sr<|oW 4 ⟨rfl,rfl,[iN n6,iN n7],kr,?_⟩
    exact⟨⟨_,_,rfl⟩,od,wD⟩
  ·
   exact⟨0,0,0,om,kr,Nat.le_refl _,HE.refl _ _⟩
theorem RW(l:List RStep):∀s∈l,sizeOf s<sizeOf l:=fun _ h=>List.sizeOf_lt_of_mem h
theorem V9(l:SV RStep)(d:Int)(hp:Ht)(nx:Nat)(hl:jt ju 8 (fun hp nx y=>j4 hp nx y) hp nx l):WF ex 54 [l.v,iN d] hp nx (fO nx hp (fun v=>∃a b:Int,v=.tuple ⟨[iN a,iN b]⟩)):=by
 have h:∀(k:Nat),∀(l:SV RStep) (d:Int) (hp:Ht) (nx:Nat),(∀s∈l.l,sizeOf s<k)->jt ju 8 (fun hp nx y=>j4 hp nx y) hp nx l->WF ex 54 [l.v,iN d] hp nx (fO nx hp (fun v=>∃a b:Int,v=.tuple ⟨[iN a,iN b]⟩)):=by
  intro k
  induction k using Nat.strongRecOn with
  |_ k ih=>intro l d hp nx hk hl;exact RV k ih l d hp nx hk hl
 exact h _ l d hp nx (RW _) hl
theorem T9(l:SV RStep)(hp:Ht)(nx:Nat)(hl:jt ju 8 (fun hp nx y=>j4 hp nx y) hp nx l):WF ex 23 [l.v] hp nx (fO nx hp Xc):=by
 obtain⟨a1,c2,hR⟩:=hl.1.shape
 have lW:=hl.1.2.2
 rw[hR]
 refine wd Tryz.f23 21 [.tmp 2] fun hE=>sr<|oN 1<|sr<|oX 1<|WO.cons (WC.call 7 54 ([l.v,iN 0]) (fun _ _ _=>by(try rw[hR]);kernel_rfl) ((V9 l (0) hp (nx) (hl.mono (fun _ h he hn=>h.mono he hn) hE)).mono ?_))
 rintro _ DP Ie ⟨⟨j,o,rfl⟩,ME,qm⟩
 refine oN 5<|sr<|oX 2 ?_
 refine oq 12 (EH l.l.length 20) fun ow sj=>oX 1<|gT 13 ow (iN j) ?_
 obtain⟨nC,I,rH⟩:=qo j 80
 refine Ru 13 ow I ?_
 obtain⟨CA,J,A_⟩:=nA sj rH
 refine pA 16 J<|oX 1<|gT 17 CA (iN o) ?_
 obtain⟨sF,R,vt⟩:=qo o 300
 refine Ru 17 CA R ?_
 refine mI 20 (nA A_ vt) fun C U=>oW 1 ⟨rfl,rfl,[.bool C],kr,?_⟩
 exact⟨⟨_,rfl,fun _=>trivial⟩,od,(hE.trans qm)⟩
theorem MZ(k:Nat)(ih:∀j,j<k->∀(l:SV RPart) (hp:Ht) (nx:Nat),(∀s∈l.l,sizeOf s<j)->jt jJ 3 (fun hp nx y=>kL hp nx y) hp nx l->WF ex 21 [l.v] hp nx (fO nx hp zF))(l:SV RPart)(hp:Ht)(nx:Nat)(hk:∀s∈l.l,sizeOf s<k)(hl:jt jJ 3 (fun hp nx y=>kL hp nx y) hp nx l):WF ex 21 [l.v] hp nx (fO nx hp zF):=by
 obtain⟨a1,c2,hR⟩:=hl.1.shape
 have lW:=hl.1.2.2
 rw[hR]
 refine wd Tryz.f21 27 [.tmp 2] fun hE=>sr<|oN 1<|sr<|oN 3<|WP.seq<|sr<|oN 1<|WP.block ?_
 refine my [0,3,4] (fun m hs ns vs=>∃(fV:Nat) (J:Int),fV+m=l.l.length/\vs=[.slice a1 (l.l.length) c2,iN J,iN (.ofNat fV)]/\nx<=ns/\HE (nx) hp hs) ?_ (l.l.length) ?_
 ·
  rintro xn pT ja _ ⟨fV,J,tP,rfl,oe,jm⟩ tQ
  have j2:=hE.trans jm
  refine WP.seq<|sr<|oX 3 ?_
  obtain⟨nC,ab,rH⟩:=kV fV l.l.length
  refine ob 10 ab<|oX 1<|gT 11 nC (iN J) ?_
  obtain⟨CA,ad,A_⟩:=qo J 256
  refine Ru 11 nC ad ?_
  obtain⟨sF,ae,vt⟩:=nA rH A_
  refine pA 14 ae<|WO.nil<|cq vt (fun af=>?_) (fun af=>?_)
  ·
   refine WP.skip<|WP.seq<|WP.block<|WP.region<|oX 3 ?_
   have I:fV<l.l.length:=by omega
   refine WO.cons (WC.iy hR hl.1 (fV) yO qZ (I)<|oX 1 ?_)
   obtain⟨C,o⟩:=gE I
   obtain⟨a21,aa,R⟩:=(hl.2 C (List.mem_of_getElem? o)).fW.1.shape
   have ag:=(hl.2 C (List.mem_of_getElem? o)).fW.1.2.2
   refine WO.cons (WC.sC (gb a1) (0+(fV)*3+2) (.slice a21 (C.fW.l.length) aa) kr pr ((hl.1.mono j2 nR).pq hR (zl I)) (pF (hl.1.mono j2 nR).1 o (by decide) (by rw[<-R];rfl))<|WO.cons (WC.call 23 21 ([C.fW.v]) (fun _ _ _=>by(try rw[R]);kernel_rfl) ((ih _ (hk _ (List.mem_of_getElem? o)) C.fW pT (ja) (fun s hs=>RPart.Cq hs) ((hl.2 C (List.mem_of_getElem? o)).fW.mono (fun _ h he hn=>h.mono he hn) j2)).mono ?_)))
   rintro _ ai aj ⟨⟨z28,rfl⟩,ah,U⟩
   refine oN 2<|WP.region<|oX 1<|ov 16 (iN (.ofNat (fV+1))) ?_ (fun _ _ _=>by rw[<-gU (show fV+1<9223372036854775808 by omega)];kernel_rfl)
   refine oN 1<|⟨l.l.length-(fV+1),om,rfl,rfl,fV+1,gD .i64 ((J)+(z28)),om,kr,?_,?_⟩
   · exact od
   · exact(jm.trans U oe)
  ·
   refine WP.exit<|sr<|oW 3 ⟨rfl,rfl,[iN ((bif ru (257) (J)then(257)else(J)))],kr,?_⟩
   exact⟨⟨_,rfl⟩,od,j2⟩
 ·
  exact⟨0,(.ofNat (l.l.length)),om,kr,Nat.le_refl _,HE.refl _ _⟩
theorem Qq(l:SV RPart)(hp:Ht)(nx:Nat)(hl:jt jJ 3 (fun hp nx y=>kL hp nx y) hp nx l):WF ex 21 [l.v] hp nx (fO nx hp zF):=by
 have h:∀(k:Nat),∀(l:SV RPart) (hp:Ht) (nx:Nat),(∀s∈l.l,sizeOf s<k)->jt jJ 3 (fun hp nx y=>kL hp nx y) hp nx l->WF ex 21 [l.v] hp nx (fO nx hp zF):=by
  intro k
  induction k using Nat.strongRecOn with
  |_ k ih=>intro l hp nx hk hl;exact MZ k ih l hp nx hk hl
 exact h _ l hp nx (fun _ h=>List.sizeOf_lt_of_mem h) hl
theorem M0(k:Nat)(ih:∀j,j<k->∀(l:SV RPart) (d:Int) (hp:Ht) (nx:Nat),(∀s∈l.l,sizeOf s<j)->jt jJ 3 (fun hp nx y=>kL hp nx y) hp nx l->WF ex 22 [l.v,iN d] hp nx (fO nx hp zF))(l:SV RPart)(d:Int)(hp:Ht)(nx:Nat)(hk:∀s∈l.l,sizeOf s<k)(hl:jt jJ 3 (fun hp nx y=>kL hp nx y) hp nx l):WF ex 22 [l.v,iN d] hp nx (fO nx hp zF):=by
 obtain⟨a1,c2,hR⟩:=hl.1.shape
 have lW:=hl.1.2.2
 rw[hR]
 refine wd Tryz.f22 36 [.tmp 4] fun hE=>sr<|oN 1<|sr<|oN 1<|WP.seq<|sr<|oN 1<|WP.block ?_
 refine my [0,1,5,6] (fun m hs ns vs=>∃(fV:Nat) (R:Int),fV+m=l.l.length/\vs=[.slice a1 (l.l.length) c2,iN d,iN R,iN (.ofNat fV)]/\nx<=ns/\HE (nx) hp hs) ?_ (l.l.length) ?_
 ·
  rintro xn pT ja _ ⟨fV,R,tP,rfl,oe,jm⟩ tQ
  have j2:=hE.trans jm
  refine WP.seq<|sr<|oX 3 ?_
  refine oq 10 (kV fV l.l.length) fun nC rH=>oX 1<|gT 11 nC (iN d) ?_
  refine qw 11 nC (nz 0 d) fun CA A_=>?_
  refine mI 14 (nA rH A_) fun sF vt=>WO.nil<|cq vt (fun ab=>?_) (fun ab=>?_)
  ·
   refine WP.skip<|WP.seq<|WP.block<|sr<|oX 2 ?_
   have I:fV<l.l.length:=by omega
   refine WO.cons (WC.iy hR hl.1 (fV) yO qZ (I)<|oX 1 ?_)
   obtain⟨C,o⟩:=gE I
   obtain⟨a21,U,J⟩:=(hl.2 C (List.mem_of_getElem? o)).fW.1.shape
   have ad:=(hl.2 C (List.mem_of_getElem? o)).fW.1.2.2
   refine WO.cons (WC.sC (gb a1) (0+(fV)*3+2) (.slice a21 (C.fW.l.length) U) kr pr ((hl.1.mono j2 nR).pq hR (zl I)) (pF (hl.1.mono j2 nR).1 o (by decide) (by rw[<-J];rfl))<|oX 1 ?_)
   refine oq 23 (Mv C.fW.l.length 0) fun uB uC=>WO.nil<|cq uC (fun xU=>?_) (fun xU=>?_)
   ·
    refine WP.region<|oX 3 ?_
    have rJ:fV<l.l.length:=by omega
    refine WO.cons (WC.iy hR hl.1 (fV) yO qZ (rJ)<|oX 1<|WO.cons (WC.sC (gb a1) (0+(fV)*3+2) (.slice a21 (C.fW.l.length) U) kr pr ((hl.1.mono j2 nR).pq hR (zl rJ)) (pF (hl.1.mono j2 nR).1 o (by decide) (by rw[<-J];rfl))<|oX 2<|WO.cons (WC.call 32 22 ([C.fW.v,iN (gD .i64 ((d)-(1)))]) (fun _ _ _=>by(try rw[J]);kernel_rfl) ((ih _ (hk _ (List.mem_of_getElem? o)) C.fW (gD .i64 ((d)-(1))) pT (ja) (fun s hs=>RPart.Cq hs) ((hl.2 C (List.mem_of_getElem? o)).fW.mono (fun _ h he hn=>h.mono he hn) j2)).mono ?_))))
    rintro _ af ag ⟨⟨z32,rfl⟩,ae,aa⟩
    refine oN 3<|WP.region<|oX 1<|ov 16 (iN (.ofNat (fV+1))) ?_ (fun _ _ _=>by rw[<-gU (show fV+1<9223372036854775808 by omega)];kernel_rfl)
    refine oN 1<|⟨l.l.length-(fV+1),om,rfl,rfl,fV+1,(bif ru (R) (gD .i64 ((1)+(z32)))then(gD .i64 ((1)+(z32)))else(R)),om,kr,?_,?_⟩
    · exact od
    · exact(jm.trans aa oe)
   ·
    refine WP.skip<|WP.region<|oX 1<|ov 16 (iN (.ofNat (fV+1))) ?_ (fun _ _ _=>by rw[<-gU (show fV+1<9223372036854775808 by omega)];kernel_rfl)
    refine oN 1<|⟨l.l.length-(fV+1),om,rfl,rfl,fV+1,R,om,kr,?_,?_⟩
    · exact oe
    · exact jm
  ·
   refine WP.exit<|sr<|oW 2 ⟨rfl,rfl,[iN R],kr,?_⟩
   exact⟨⟨_,rfl⟩,od,j2⟩
 ·
  exact⟨0,0,om,kr,Nat.le_refl _,HE.refl _ _⟩
theorem Qr(l:SV RPart)(d:Int)(hp:Ht)(nx:Nat)(hl:jt jJ 3 (fun hp nx y=>kL hp nx y) hp nx l):WF ex 22 [l.v,iN d] hp nx (fO nx hp zF):=by
 have h:∀(k:Nat),∀(l:SV RPart) (d:Int) (hp:Ht) (nx:Nat),(∀s∈l.l,sizeOf s<k)->jt jJ 3 (fun hp nx y=>kL hp nx y) hp nx l->WF ex 22 [l.v,iN d] hp nx (fO nx hp zF):=by
  intro k
  induction k using Nat.strongRecOn with
  |_ k ih=>intro l d hp nx hk hl;exact M0 k ih l d hp nx hk hl
 exact h _ l d hp nx (fun _ h=>List.sizeOf_lt_of_mem h) hl
theorem M1(C:j7)(hp:Ht)(nx:Nat)(o:oJ hp nx C):WF ex 6 [.agg (iz C).toArray] hp nx (fO nx hp Xc):=by
 refine wd Tryz.f6 81 [.tmp 2] fun hE=>sr<|oB (.agg (iz C).toArray) (iz C) fun jN iY iA=>?_
 refine oN 1<|sr<|oX 1 ?_
 obtain⟨br,bs,aG⟩:=o.iB.shape
 have bd:=o.iB.2.2
 refine oZ nx (0+1) (.slice br (C.iB.l.length) bs) we iA (by rw[<-aG];rfl)<|oX 2 ?_
 obtain⟨aN,ow,aH⟩:=o.jP.shape
 have bf:=o.jP.2.2
 refine oZ nx (0+2) (.slice aN (C.jP.l.length) ow) CF iA (by rw[<-aH];rfl)<|oX 1<|ov 11 (iN (.ofNat (C.iB.l.length+C.jP.l.length))) ?_ (fun _ _ _=>by rw[<-gU (show C.iB.l.length+C.jP.l.length<9223372036854775808 by omega)];kernel_rfl)
 refine oX 1 ?_
 obtain⟨U,sF,I⟩:=o.fE.1.shape
 have bg:=o.fE.1.2.2
 refine oZ nx (0+3) (.slice U (C.fE.l.length) sF) rI iA (by rw[<-I];rfl)<|oX 1<|ov 15 (iN (.ofNat (C.iB.l.length+C.jP.l.length+C.fE.l.length))) ?_ (fun _ _ _=>by rw[<-gU (show C.iB.l.length+C.jP.l.length+C.fE.l.length<9223372036854775808 by omega)];kernel_rfl)
 refine oX 1 ?_
 obtain⟨a17,aP,aI⟩:=o.kI.shape
 have bh:=o.kI.2.2
 refine oZ nx (0+4) (.slice a17 (C.kI.l.length) aP) FA iA (by rw[<-aI];rfl)<|oX 1<|ov 19 (iN (.ofNat (C.iB.l.length+C.jP.l.length+C.fE.l.length+C.kI.l.length))) ?_ (fun _ _ _=>by rw[<-gU (show C.iB.l.length+C.jP.l.length+C.fE.l.length+C.kI.l.length<9223372036854775808 by omega)];kernel_rfl)
 refine oX 1 ?_
 obtain⟨a20,sk,aJ⟩:=o.js.shape
 have bj:=o.js.2.2
 refine oZ nx (0+5) (.slice a20 (C.js.l.length) sk) FB iA (by rw[<-aJ];rfl)<|oX 1<|ov 23 (iN (.ofNat (C.iB.l.length+C.jP.l.length+C.fE.l.length+C.kI.l.length+C.js.l.length))) ?_ (fun _ _ _=>by rw[<-gU (show C.iB.l.length+C.jP.l.length+C.fE.l.length+C.kI.l.length+C.js.l.length<9223372036854775808 by omega)];kernel_rfl)
 refine oX 1 ?_
 obtain⟨a23,uB,aK⟩:=o.iw.shape
 have bk:=o.iw.2.2
 refine oZ nx (0+6) (.slice a23 (C.iw.l.length) uB) CG iA (by rw[<-aK];rfl)<|oX 1<|ov 27 (iN (.ofNat (C.iB.l.length+C.jP.l.length+C.fE.l.length+C.kI.l.length+C.js.l.length+C.iw.l.length))) ?_ (fun _ _ _=>by rw[<-gU (show C.iB.l.length+C.jP.l.length+C.fE.l.length+C.kI.l.length+C.js.l.length+C.iw.l.length<9223372036854775808 by omega)];kernel_rfl)
 refine oX 1 ?_
 obtain⟨a26,aQ,aL⟩:=o.kR.shape
 have bl:=o.kR.2.2
 refine oZ nx (0+7) (.slice a26 (C.kR.l.length) aQ) FC iA (by rw[<-aL];rfl)<|oX 1<|ov 31 (iN (.ofNat (C.iB.l.length+C.jP.l.length+C.fE.l.length+C.kI.l.length+C.js.l.length+C.iw.l.length+C.kR.l.length))) ?_ (fun _ _ _=>by rw[<-gU (show C.iB.l.length+C.jP.l.length+C.fE.l.length+C.kI.l.length+C.js.l.length+C.iw.l.length+C.kR.l.length<9223372036854775808 by omega)];kernel_rfl)
 refine oN 1<|WP.seq<|sr<|oN 1<|WP.block ?_
 refine my [1,3,4] (fun m hs ns vs=>∃(j:Nat) (ae:Int),j+m=C.fE.l.length/\vs=[pt nx 0,iN ae,iN (.ofNat j)]/\nx+1<=ns/\HE (nx+1) jN hs) ?_ (C.fE.l.length) ?_
 ·
  rintro bB vv an _ ⟨j,ae,bc,rfl,aF,ak⟩ bq
  have aa:=(hE.trans iY).trans ak
  have ad:=ak.get iA
  refine WP.seq<|sr<|oX 2<|oZ nx (0+3) (.slice U (C.fE.l.length) sF) rI ad (by rw[<-I];rfl)<|oX 1 ?_
  refine oq 36 (kV j C.fE.l.length) fun aB aT=>oX 1<|gT 37 aB (iN ae) ?_
  refine qw 37 aB (qo ae 200) fun bG aU=>?_
  refine mI 40 (nA aT aU) fun bH aV=>WO.nil<|cq aV (fun a6=>?_) (fun a6=>?_)
  ·
   refine WP.skip<|WP.seq<|WP.block<|WP.seq<|WP.sM [⟨[0,1,2,3,4,5,6,7,8,9,10,11,12,13,14],[0,1,2,3,4,5,6,7,8,9,10,11,12,13,14],some 15⟩,⟨[16],[0,1,2,3,4,5,6,7,8,16],some 17⟩,⟨[],[],none⟩] kr _ rfl<|WD.ln<|nv 43 (iN ae)<|nv 44 (pt nx (0+3))<|WN.ic rfl (WC.jX nx (0+3) (.slice U (C.fE.l.length) sF) kr rI ad (by rw[<-I];rfl)<|nv 46 (iN (.ofNat j)) ?_)
   have ab:j<C.fE.l.length:=by omega
   refine WN.ic rfl (WC.iy I o.fE.1 (j) wg nQ (ab)<|nv 48 (pt (gb U) (0+(j)*5+3)) ?_)
   obtain⟨J,R⟩:=gE ab
   obtain⟨ar,av,aj⟩:=(o.fE.2 J (List.mem_of_getElem? R)).jr.shape
   have bn:=(o.fE.2 J (List.mem_of_getElem? R)).jr.2.2
   refine WN.ic rfl (WC.sC (gb U) (0+(j)*5+3) (.slice ar (J.jr.l.length) av) kr yN ((o.fE.1.mono aa nR).pq I (zl ab)) (pF (o.fE.1.mono aa nR).1 R (by decide) (by rw[<-aj];rfl))<|nv 50 (iN (.ofNat (J.jr.l.length)))<|nv 51 (iN (gD .i64 ((ae)+(.ofNat (J.jr.l.length)))))<|nv 52 (pt nx (0+3))<|WN.ic rfl (WC.jX nx (0+3) (.slice U (C.fE.l.length) sF) kr rI ad (by rw[<-I];rfl)<|nv 54 (iN (.ofNat j)) ?_))
   have ag:j<C.fE.l.length:=by omega
   refine WN.ic rfl (WC.iy I o.fE.1 (j) wg nQ (ag)<|nv 56 (pt (gb U) (0+(j)*5+1)) ?_)
   obtain⟨au,aw,af⟩:=(o.fE.2 J (List.mem_of_getElem? R)).jI.1.shape
   have bo:=(o.fE.2 J (List.mem_of_getElem? R)).jI.1.2.2
   refine WN.ic rfl (WC.sC (gb U) (0+(j)*5+1) (.slice au (J.jI.l.length) aw) kr pr ((o.fE.1.mono aa nR).pq I (zl ag)) (pF (o.fE.1.mono aa nR).1 R (by decide) (by rw[<-af];rfl))<|WN.nil ⟨?_,?_⟩)
   ·
    refine ci (ae)<|cv (pt nx (0+3)) (iW ..)<|qe nx (0+3) (.slice U (C.fE.l.length) sF) rI ad (by rw[<-I];rfl) (I▸o.fE.1.kO 8)<|ci (.ofNat j)<|DM I o.fE.1 (j) wg nQ (ab)<|cv (pt (gb U) (0+(j)*5+3)) (iW ..)<|co (.slice ar (J.jr.l.length) av) (kB ex.T vv.get 107 (pt (gb U) (0+(j)*5+3))) (uf yN ((o.fE.1.mono aa nR).pq I (zl ab)) (pF (o.fE.1.mono aa nR).1 R (by decide) (by rw[<-aj];rfl))) (aj▸(o.fE.2 J (List.mem_of_getElem? R)).jr.kO 8)<|ci (.ofNat (J.jr.l.length))<|ci (gD .i64 ((ae)+(.ofNat (J.jr.l.length))))<|cv (pt nx (0+3)) (iW ..)<|qe nx (0+3) (.slice U (C.fE.l.length) sF) rI ad (by rw[<-I];rfl) (I▸o.fE.1.kO 8)<|ci (.ofNat j)<|DM I o.fE.1 (j) wg nQ (ag)<|cv (pt (gb U) (0+(j)*5+1)) (iW ..)<|co (.slice au (J.jI.l.length) aw) (kB ex.T vv.get 106 (pt (gb U) (0+(j)*5+1))) (uf pr ((o.fE.1.mono aa nR).pq I (zl ag)) (pF (o.fE.1.mono aa nR).1 R (by decide) (by rw[<-af];rfl))) (af▸(o.fE.2 J (List.mem_of_getElem? R)).jI.1.kO 8) ?_
    exact jh.nil
   refine WC.at rfl (WC.call 58 21 ([J.jI.v]) (fun _ _ _=>by(try rw[af]);kernel_rfl) ((Qq J.jI vv (an) ((o.fE.2 J (List.mem_of_getElem? R)).jI.mono (fun _ h he hn=>h.mono he hn) aa)).mono ?_))
   rintro _ az aM ⟨⟨z59,rfl⟩,bt,al⟩
   have ai:=aa.trans al
   have ax:=al.get ad
   refine WD.ln<|nv 59 (iN (gD .i64 ((gD .i64 ((ae)+(.ofNat (J.jr.l.length))))+(z59))))<|WN.nil ⟨?_,?_⟩
   ·
    refine ci (ae)<|cv (pt nx (0+3)) (iW ..)<|qe nx (0+3) (.slice U (C.fE.l.length) sF) rI ax (by rw[<-I];rfl) (I▸o.fE.1.kO 8)<|ci (.ofNat j)<|DM I o.fE.1 (j) wg nQ (ab)<|cv (pt (gb U) (0+(j)*5+3)) (iW ..)<|co (.slice ar (J.jr.l.length) av) (kB ex.T az.get 107 (pt (gb U) (0+(j)*5+3))) (uf yN ((o.fE.1.mono ai nR).pq I (zl ab)) (pF (o.fE.1.mono aa nR).1 R (by decide) (by rw[<-aj];rfl))) (aj▸(o.fE.2 J (List.mem_of_getElem? R)).jr.kO 8)<|ci (.ofNat (J.jr.l.length))<|ci (gD .i64 ((ae)+(.ofNat (J.jr.l.length))))<|cv (iN (gD .i64 ((gD .i64 ((ae)+(.ofNat (J.jr.l.length))))+(z59)))) (iQ ..) ?_
    exact jh.nil
   refine WC.at rfl (WC.val 3 (iN (gD .i64 ((gD .i64 ((ae)+(.ofNat (J.jr.l.length))))+(z59)))) kf<|WD.last<|WN.nil ⟨?_,?_⟩)
   ·
    exact jh.nil
   refine sr<|oX 1<|oZ nx (0+3) (.slice U (C.fE.l.length) sF) rI ax (by rw[<-I];rfl)<|oX 1 ?_
   have aq:j<C.fE.l.length:=by omega
   refine WO.cons (WC.iy I o.fE.1 (j) wg nQ (aq)<|oX 1<|WO.cons (WC.sC (gb U) (0+(j)*5+1) (.slice au (J.jI.l.length) aw) kr pr ((o.fE.1.mono ai nR).pq I (zl aq)) (pF (o.fE.1.mono ai nR).1 R (by decide) (by rw[<-af];rfl))<|WO.cons (WC.call 66 22 ([J.jI.v,iN 17]) (fun _ _ _=>by(try rw[af]);kernel_rfl) ((Qr J.jI (17) az (aM) ((o.fE.2 J (List.mem_of_getElem? R)).jI.mono (fun _ h he hn=>h.mono he hn) ai)).mono ?_))))
   rintro _ bx bC ⟨⟨a_,rfl⟩,bu,ay⟩
   refine oq 67 (nz 16 a_) fun bI aW=>WO.nil<|cq aW (fun a7=>?_) (fun a7=>?_)
   ·
    refine sr<|oW 1 ⟨rfl,rfl,[.bool false],kr,?_⟩
    exact⟨⟨_,rfl,fun _=>trivial⟩,od,(ai.trans ay)⟩
   ·
    refine WP.skip<|WP.region<|oX 1<|ov 42 (iN (.ofNat (j+1))) ?_ (fun _ _ _=>by rw[<-gU (show j+1<9223372036854775808 by omega)];kernel_rfl)
    refine oN 1<|⟨C.fE.l.length-(j+1),om,rfl,rfl,j+1,gD .i64 ((gD .i64 ((ae)+(.ofNat (J.jr.l.length))))+(z59)),om,kr,?_,?_⟩
    · exact od
    · exact((ak.trans al aF).trans ay)
  ·
   refine WP.exit<|sr<|oX 1 ?_
   refine oq 69 (qo ae 200) fun ao aX=>oX 1<|gT 70 ao (pt nx 0)<|lr 70 ao nx 0 (.string (C.lL)) MX ad rfl<|gT 70 ao (iN (.ofNat ((C.lL).data.toList.length))) ?_
   refine qw 70 ao (EH ((C.lL).data.toList.length) 100) fun bJ aY=>?_
   refine mI 75 (nA aX aY) fun ah aD=>oX 1<|gT 76 ah (pt nx (0+8)) ?_
   obtain⟨aO,aR,aA⟩:=o.nH.1.shape
   have bp:=o.nH.1.2.2
   refine lr 76 ah nx (0+8) (.slice aO (C.nH.l.length) aR) uN ad (by rw[<-aA];rfl)<|WO.cons (WC.gq (ah) (GI (ah) (True) (an) vv) (.bool ah) (g:=aaj (.tmp 76)) rfl kr (by cases ah<;>rfl) (fun h=>by obtain rfl:ah=true:=(by simpa using h);have bL:=(aD).1 rfl;exact WC.call 79 23 ([C.nH.v]) (fun _ _ _=>by(try rw[aA]);kernel_rfl) ((T9 C.nH vv (an) (o.nH.mono (fun _ h he hn=>h.mono he hn) aa)).mono fun v fe fg ⟨⟨c,bA,hc⟩,hn,he⟩=>⟨_,_,_,rfl,⟨c,bA,hc⟩,hn,he⟩)) (fun h=>GI.off h) ?_)
   rintro _ bz bD ⟨⟨aC,rfl,bE⟩,bw,aE⟩
   have aZ:aC=true↔(aC=true):=Iff.rfl
   refine mI 80 (nA aD aZ) fun aS bK=>oW 1 ⟨rfl,rfl,[.bool aS],kr,?_⟩
   exact⟨⟨_,rfl,fun _=>trivial⟩,od,(aa.trans aE)⟩
 ·
  exact⟨0,(.ofNat (C.iB.l.length+C.jP.l.length+C.fE.l.length+C.kI.l.length+C.js.l.length+C.iw.l.length+C.kR.l.length)),om,kr,Nat.le_refl _,HE.refl _ _⟩
end
end Sw
namespace Sw
noncomputable section
open Go Go.Proofs Go.RowKit
set_option maxRecDepth 100000
set_option maxHeartbeats 1600000
def sb(n:Nat)(sub:List RPart->Nat×Nat)(s:Nat×Nat)(p:RPart):Nat×Nat:=if p.fW.l.length=0\/n=0\/256<s.2 then s else(max s.1 ((sub p.fW.l).1+1),s.2+(sub p.fW.l).2)
def sI:Nat->List RPart->Nat×Nat
 |0,l=>l.foldl (sb 0 fun _=>(0,0)) (0,l.length)
 |n+1,l=>l.foldl (sb (n+1) (sI n)) (0,l.length)
theorem RX(n:Nat)(l:List RPart):sI n l=l.foldl (sb n (sI (n-1))) (0,l.length):=by
 cases n with
 |zero=>
  show l.foldl (sb 0 fun _=>(0,0)) (0,l.length)=_
  congr 1;funext s p;simp[sb]
 |succ n=>rfl
theorem BA{α β:Type}{f:β->α->β}{b:β}{l:List α}{i:Nat}{x:α}(h:l[i]?=some x):(l.take (i+1)).foldl f b=f ((l.take i).foldl f b) x:=by
 rw[List.take_add_one,h];simp[List.foldl_append]
theorem maxOf(a b:Nat):Int.ofNat (max a b)=bif ru (.ofNat a) (.ofNat b)then .ofNat b else .ofNat a:=by
 cases h:ru (.ofNat a) (.ofNat b)with
 |true=>have:=so.1 h;simp only[cond_true];congr 1;simp only[Int.ofNat_eq_natCast]at this;omega
 |false=>
  have:¬(Int.ofNat a<Int.ofNat b):=fun k=>by rw[so.2 k]at h;cases h
  simp only[cond_false];congr 1;simp only[Int.ofNat_eq_natCast]at this;omega
def T_(r:Nat×Nat)(B D:Nat):Value->Prop:=fun v=>∃a b:Nat,v=.tuple ⟨[iN (.ofNat a),iN (.ofNat b)]⟩/\(a,b)=r/\a<=B/\b<=D
def tE:Nat->List RPart->Prop
 |0,l=>l=[]
 |n+1,l=>∀p∈l,tE n p.fW.l
def yP(d:j5):Prop:=d.jr.l.length<=64/\(sI 17 d.jI.l).1<=16/\(sI 17 d.jI.l).2<=256
def vA(C:j7):Prop:=(C.iB.l.length<=40/\C.jP.l.length<=512/\C.fE.l.length<=8/\C.kI.l.length<=32/\C.js.l.length<=32/\C.iw.l.length<=32/\C.kR.l.length<=32)/\∀d∈C.fE.l,yP d
theorem yQ:ex.T.agg 109=some true:=kr
theorem Dj:ex.T.agg 144=some true:=kr
theorem Ki:ex.T.zero 109=some (.agg ⟨[.string (⟨#[]⟩),.slice none (0) 0,iN 0,.slice none (0) 0,iN 0]⟩):=kr
theorem Kj:ex.T.zero 144=some (.agg ⟨[iN 0,iN 0,.slice none (0) 0]⟩):=kr
theorem Im(n:Nat)(ih:∀m,m+1=n->∀(l:SV RPart) (hp:Ht) (nx:Nat),jt jJ 3 (fun hp nx y=>kL hp nx y) hp nx l->WF ex 166 [l.v,iN (.ofNat m)] hp nx (fO nx hp (T_ (sI m l.l) m (281474976710656+257*m))))(ay:n<=17)(l:SV RPart)(hp:Ht)(nx:Nat)(hl:jt jJ 3 (fun hp nx y=>kL hp nx y) hp nx l):WF ex 166 [l.v,iN (.ofNat n)] hp nx (fO nx hp (T_ (sI n l.l) n (281474976710656+257*n))):=by
 obtain⟨a1,c2,hR⟩:=hl.1.shape
 have lW:=hl.1.2.2
 rw[hR]
 refine wd Tryz.f166 48 [.tmp 4,.tmp 5] fun hE=>sr<|oN 2<|sr<|oN 3<|WP.seq<|sr<|oN 3<|WP.block ?_
 refine my [1,4,5,12,13,14] (fun m hs ns vs=>∃(fV:Nat) (a0:Nat) (j:Nat),fV+m=l.l.length/\vs=[iN (.ofNat n),iN (.ofNat a0),iN (.ofNat j),.slice a1 (l.l.length) c2,iN (.ofNat (l.l.length)),iN (.ofNat fV)]/\nx<=ns/\HE (nx) hp hs/\((a0,j)=(l.l.take fV).foldl (sb n (sI (n-1))) (0,l.l.length))/\(a0<=n)/\(j<=281474976710656+257*n)) ?_ (l.l.length) ?_
 ·
  rintro xn pT ja _ ⟨fV,a0,j,tP,rfl,oe,jm,aa,ag,ah⟩ tQ
  have j2:=hE.trans jm
  refine sr ?_
  refine oq 15 (kV fV l.l.length) fun nC rH=>WO.nil<|WP.seq<|cq rH (fun wQ=>?_) (fun wQ=>?_)
  ·
   refine WP.skip<|WP.seq<|WP.block<|sr ?_
   have mY:fV<l.l.length:=by omega
   refine WO.cons (WC.iy hR hl.1 (fV) yO qZ (mY) ?_)
   obtain⟨lu,ku⟩:=gE mY
   refine WO.cons (WC.ly hR (hl.1.mono j2 nR) ku Dj qZ<|oA [iN 0,iN 0,.slice none (0) 0] Kj fun aB tR ai=>?_)
   refine oS ja (0) (.agg (jJ lu).toArray) (jJ lu) (jJ lu) qZ rfl (Bool.and_eq_true_iff.2 ⟨rfl,F6 _ (hl.2 lu (List.mem_of_getElem? ku))⟩) ai fun ak R J aA=>?_
   have U:=(jm.trans tR oe).trans R
   refine WO.nil<|WP.seq<|sr<|oX 1 ?_
   obtain⟨a35,ad,C⟩:=(hl.2 lu (List.mem_of_getElem? ku)).fW.1.shape
   have av:=(hl.2 lu (List.mem_of_getElem? ku)).fW.1.2.2
   refine oZ ja (0+2) (.slice a35 (lu.fW.l.length) ad) pr J (by rw[<-C];rfl)<|oX 1 ?_
   refine oq 21 (w5 lu.fW.l.length 0) fun ae al=>oX 1<|gF 22 ae (iN (.ofNat n)) ?_
   refine mX 22 ae (w5 n 0) fun aE an=>?_
   refine mj 25 (nO al an) fun af ao=>oX 1<|gF 26 af (iN (.ofNat j)) ?_
   refine mX 26 af (nc 256 j) fun aF aq=>?_
   refine mj 29 (nO ao aq) fun aG ar=>WO.nil<|cq ar (fun au=>?_) (fun au=>?_)
   ·
    refine WP.exit<|WP.region<|ov 45 (iN (.ofNat (fV+1))) ?_ (fun _ _ _=>by rw[<-gU (show fV+1<9223372036854775808 by omega)];kernel_rfl)
    refine oN 1<|⟨l.l.length-(fV+1),om,rfl,rfl,fV+1,a0,j,om,kr,?_,?_,?_,?_,?_⟩
    · exact od
    · exact U
    · rw[BA ku,<-aa];exact(if_pos (by show _\/_\/_;omega)).symm
    · exact ag
    · exact ah
   ·
    refine WP.skip<|sr<|oX 1<|oZ ja (0+2) (.slice a35 (lu.fW.l.length) ad) pr J (by rw[<-C];rfl)<|oX 1<|ov 34 (iN (.ofNat (n-1))) ?_ (fun _ _ _=>by rw[<-Av (show n<9223372036854775808 by omega) om];kernel_rfl)
    refine WO.cons (WC.call 35 166 ([lu.fW.v,iN (.ofNat (n-1))]) (fun _ _ _=>by(try rw[C]);kernel_rfl) ((ih (n-1) om lu.fW ak (ja+1) ((hl.2 lu (List.mem_of_getElem? ku)).fW.mono (fun _ h he hn=>h.mono he hn) ((j2.trans tR).trans R))).mono ?_))
    rintro _ aC aD ⟨⟨o,I,rfl,ab,aw,ax⟩,az,aj⟩
    refine oN 5<|WP.region<|oX 2<|ov 40 (iN (.ofNat (o+1))) ?_ (fun _ _ _=>by rw[<-gU (show o+1<9223372036854775808 by omega)];kernel_rfl)
    refine ov 41 (iN (.ofNat (max (a0) (o+1)))) ?_ (fun _ _ _=>by rw[maxOf (a0) (o+1)];kernel_rfl)
    refine oX 2<|ov 44 (iN (.ofNat (j+I))) ?_ (fun _ _ _=>by rw[<-gU (show j+I<9223372036854775808 by omega)];kernel_rfl)
    refine oN 2<|WP.region<|ov 45 (iN (.ofNat (fV+1))) ?_ (fun _ _ _=>by rw[<-gU (show fV+1<9223372036854775808 by omega)];kernel_rfl)
    refine oN 1<|⟨l.l.length-(fV+1),om,rfl,rfl,fV+1,(max (a0) (o+1)),j+I,om,kr,?_,?_,?_,?_,?_⟩
    · exact od
    · exact(U.trans aj)
    · rw[BA ku,<-aa];unfold sb;rw[if_neg (by show¬(_\/_\/_);omega),<-ab]
    · first|omega|(dsimp only;omega)
    · first|omega|(dsimp only;omega)
  ·
   refine WP.exit<|sr<|oW 4 ⟨rfl,rfl,[iN (.ofNat a0),iN (.ofNat j)],kr,?_⟩
   have hi:fV=l.l.length:=by omega
   rw[hi,List.take_length]at aa
   exact⟨⟨a0,j,rfl,by rw[RX];exact aa,ag,ah⟩,od,j2⟩
 ·
  exact⟨0,0,l.l.length,om,kr,Nat.le_refl _,HE.refl _ _,rfl,(Nat.zero_le _),(by have:=hl.1.2.2;omega)⟩
theorem Ua(n:Nat)(hn:n<=17)(l:SV RPart)(hp:Ht)(nx:Nat)(hl:jt jJ 3 (fun hp nx y=>kL hp nx y) hp nx l):WF ex 166 [l.v,iN (.ofNat n)] hp nx (fO nx hp (T_ (sI n l.l) n (281474976710656+257*n))):=by
 induction n generalizing l hp nx with
 |zero=>exact Im 0 (fun m h=>by omega) hn l hp nx hl
 |succ n ih=>exact Im (n+1) (fun m h l hp nx hl=>by obtain rfl:m=n:=om;exact ih om l hp nx hl) hn l hp nx hl
theorem V_(C:j7)(hp:Ht)(nx:Nat)(I:oJ hp nx C):WF ex 96 [.agg (iz C).toArray] hp nx (fO nx hp (gk (vA C))):=by
 refine wd Tryz.f96 73 [.tmp 2] fun hE=>sr<|oB (.agg (iz C).toArray) (iz C) fun jN iY iA=>?_
 have l_:=hE.trans iY
 refine oN 1<|WP.seq<|sr<|oX 1 ?_
 obtain⟨bw,bB,aF⟩:=I.iB.shape
 have bl:=I.iB.2.2
 refine oZ nx (0+1) (.slice bw (C.iB.l.length) bB) we iA (by rw[<-aF];rfl)<|oX 1 ?_
 refine oq 10 (nc 40 C.iB.l.length) fun ae aX=>oX 1<|gF 11 ae (pt nx (0+2)) ?_
 obtain⟨a12,nC,aG⟩:=I.jP.shape
 have bn:=I.jP.2.2
 refine pj 11 ae nx (0+2) (.slice a12 (C.jP.l.length) nC) CF iA (by rw[<-aG];rfl)<|gF 11 ae (iN (.ofNat (C.jP.l.length))) ?_
 refine mX 11 ae (nc 512 C.jP.l.length) fun sF vt=>?_
 refine mj 16 (nO aX vt) fun af aY=>oX 1<|gF 17 af (pt nx (0+3)) ?_
 obtain⟨a17,ao,U⟩:=I.fE.1.shape
 have bo:=I.fE.1.2.2
 refine pj 17 af nx (0+3) (.slice a17 (C.fE.l.length) ao) rI iA (by rw[<-U];rfl)<|gF 17 af (iN (.ofNat (C.fE.l.length))) ?_
 refine mX 17 af (nc 8 C.fE.l.length) fun xW EO=>?_
 refine mj 22 (nO aY EO) fun sk vp=>oX 1<|gF 23 sk (pt nx (0+4)) ?_
 obtain⟨a22,EJ,aH⟩:=I.kI.shape
 have bp:=I.kI.2.2
 refine pj 23 sk nx (0+4) (.slice a22 (C.kI.l.length) EJ) FA iA (by rw[<-aH];rfl)<|gF 23 sk (iN (.ofNat (C.kI.l.length))) ?_
 refine mX 23 sk (nc 32 C.kI.l.length) fun bM aZ=>?_
 refine mj 28 (nO vp aZ) fun ag a6=>oX 1<|gF 29 ag (pt nx (0+5)) ?_
 obtain⟨aR,aS,aI⟩:=I.js.shape
 have bq:=I.js.2.2
 refine pj 29 ag nx (0+5) (.slice aR (C.js.l.length) aS) FB iA (by rw[<-aI];rfl)<|gF 29 ag (iN (.ofNat (C.js.l.length))) ?_
 refine mX 29 ag (nc 32 C.js.l.length) fun bN a7=>?_
 refine mj 34 (nO a6 a7) fun ah a_=>oX 1<|gF 35 ah (pt nx (0+6)) ?_
 obtain⟨a32,aT,aJ⟩:=I.iw.shape
 have br:=I.iw.2.2
 refine pj 35 ah nx (0+6) (.slice a32 (C.iw.l.length) aT) CG iA (by rw[<-aJ];rfl)<|gF 35 ah (iN (.ofNat (C.iw.l.length))) ?_
 refine mX 35 ah (nc 32 C.iw.l.length) fun bO bc=>?_
 refine mj 40 (nO a_ bc) fun ai bd=>oX 1<|gF 41 ai (pt nx (0+7)) ?_
 obtain⟨a37,aU,aK⟩:=I.kR.shape
 have bs:=I.kR.2.2
 refine pj 41 ai nx (0+7) (.slice a37 (C.kR.l.length) aU) FC iA (by rw[<-aK];rfl)<|gF 41 ai (iN (.ofNat (C.kR.l.length))) ?_
 refine mX 41 ai (nc 32 C.kR.l.length) fun bP bf=>?_
 refine mj 46 (nO bd bf) fun bQ bg=>WO.nil<|cq bg (fun aA=>?_) (fun aA=>?_)
 ·
  refine sr<|oW 1 ⟨rfl,rfl,[.bool false],kr,?_⟩
  exact⟨⟨false,rfl,fun h=>(by cases h),fun h=>(by have h:=h.1;omega)⟩,od,l_⟩
 ·
  refine WP.skip<|WP.seq<|sr<|oX 1<|oZ nx (0+3) (.slice a17 (C.fE.l.length) ao) rI iA (by rw[<-U];rfl)<|oN 2<|WP.block ?_
  refine my [48,49,50] (fun m hs ns vs=>∃(o:Nat),o+m=C.fE.l.length/\vs=[.slice a17 (C.fE.l.length) ao,iN (.ofNat (C.fE.l.length)),iN (.ofNat o)]/\nx+1<=ns/\HE (nx+1) jN hs/\(∀(j:Nat) (d:j5),j<o->C.fE.l[j]?=some d->yP d)) ?_ (C.fE.l.length) ?_
  ·
   rintro bK bH aa _ ⟨o,bk,rfl,Dh,oO,hinv⟩ bu
   have ab:=l_.trans oO
   refine sr ?_
   refine oq 51 (kV o C.fE.l.length) fun bR bh=>WO.nil<|WP.seq<|cq bh (fun bj=>?_) (fun bj=>?_)
   ·
    refine WP.skip<|WP.seq<|WP.block<|sr ?_
    have ak:o<C.fE.l.length:=by omega
    refine WO.cons (WC.iy U I.fE.1 (o) wg nQ (ak) ?_)
    obtain⟨J,R⟩:=gE ak
    refine WO.cons (WC.ly U (I.fE.1.mono ab nR) R yQ nQ<|oA [.string (⟨#[]⟩),.slice none (0) 0,iN 0,.slice none (0) 0,iN 0] Ki fun bI au aD=>?_)
    refine oS aa (0) (.agg (iI J).toArray) (iI J) (iI J) nQ rfl (Bool.and_eq_true_iff.2 ⟨rfl,Bu _ (I.fE.2 J (List.mem_of_getElem? R))⟩) aD fun aE av ar bG=>?_
    have aq:=(ab.trans au).trans av
    refine WO.nil<|sr<|oX 1 ?_
    obtain⟨a80,aV,aw⟩:=(I.fE.2 J (List.mem_of_getElem? R)).jI.1.shape
    have bt:=(I.fE.2 J (List.mem_of_getElem? R)).jI.1.2.2
    refine oZ aa (0+1) (.slice a80 (J.jI.l.length) aV) pr ar (by rw[<-aw];rfl)<|WO.cons (WC.call 57 166 ([J.jI.v,iN 17]) (fun _ _ _=>by(try rw[aw]);kernel_rfl) ((Ua 17 (by decide) J.jI aE (aa+1) ((I.fE.2 J (List.mem_of_getElem? R)).jI.mono (fun _ h he hn=>h.mono he hn) aq)).mono ?_))
    rintro _ bJ bL ⟨⟨ay,az,rfl,aj,bC,bD⟩,bE,ad⟩
    refine oN 5<|sr<|oX 1 ?_
    obtain⟨aB,aC,ax⟩:=(I.fE.2 J (List.mem_of_getElem? R)).jr.shape
    have aW:=(I.fE.2 J (List.mem_of_getElem? R)).jr.2.2
    refine oZ aa (0+3) (.slice aB (J.jr.l.length) aC) yN (ad.get ar) (by rw[<-ax];rfl)<|oX 1 ?_
    refine oq 63 (nc 64 J.jr.l.length) fun al aL=>oX 1<|gF 64 al (iN (.ofNat ay)) ?_
    refine mX 64 al (nc 16 ay) fun bx aM=>?_
    refine mj 67 (nO aL aM) fun an aN=>oX 1<|gF 68 an (iN (.ofNat az)) ?_
    refine mX 68 an (nc 256 az) fun bz aO=>?_
    refine mj 71 (nO aN aO) fun bA aP=>WO.nil<|cq aP (fun aQ=>?_) (fun aQ=>?_)
    ·
     refine sr<|oW 1 ⟨rfl,rfl,[.bool false],kr,?_⟩
     exact⟨⟨false,rfl,fun h=>(by cases h),fun h=>(by have h:=h.2 _ (List.mem_of_getElem? R);unfold yP at h;rw[<-aj]at h;simp only at h;omega)⟩,od,(aq.trans ad)⟩
    ·
     refine WP.skip<|WP.region<|ov 72 (iN (.ofNat (o+1))) ?_ (fun _ _ _=>by rw[<-gU (show o+1<9223372036854775808 by omega)];kernel_rfl)
     refine oN 1<|⟨C.fE.l.length-(o+1),om,rfl,rfl,o+1,om,kr,?_,?_,?_⟩
     · exact od
     · exact(((oO.trans au Dh).trans av).trans ad)
     · intro j d hj hd;rcases Nat.lt_succ_iff_lt_or_eq.1 hj with hj|rfl
       · exact hinv j d hj hd
       · rw[R]at hd;cases hd;unfold yP;rw[<-aj];simp only;omega
   ·
    refine WP.exit<|sr<|oW 1 ⟨rfl,rfl,[.bool true],kr,?_⟩
    refine⟨⟨true,rfl,fun _=>⟨by have:=aA;omega,fun d hd=>?_⟩,fun _=>rfl⟩,od,ab⟩
    obtain⟨j,hj⟩:=List.getElem?_of_mem hd
    exact hinv j d (by have:=(List.getElem?_eq_some_iff.1 hj).1;omega) hj
  ·
   exact⟨0,om,kr,Nat.le_refl _,HE.refl _ _,(fun j d h=>absurd h (Nat.not_lt_zero _))⟩
end
end Sw
namespace Sw
noncomputable section
open Go Go.RowKit
structure MK{α:Type}(T:Ty)(kt:TypeId)(ek:α->Value):Prop where
 key:∀x,uU T 8 kt (ek x)=true
 eq:∀x y,∃b,rE T kt (ek x) (ek y)=some b/\(b=true↔x=y)
 same:∀x,Bn (ek x) (ek x)=true
def kK{α:Type}(ek:α->Value)(L:List α)(g:α->Value)(es:List MapEntry):Prop:=es.map (fun e=>(e.key,e.val))=L.map fun x=>(ek x,g x)
def xY{α:Type}(L:List α)(x:α):List α:=@ite _ (x∈L) (Classical.propDecidable _) L (L++[x])
theorem Js{α:Type}{L:List α}{x:α}(h:x∈L):xY L x=L:=by unfold xY;exact if_pos h
theorem GW{α:Type}{L:List α}{x:α}(h:x∉L):xY L x=L++[x]:=by unfold xY;exact if_neg h
theorem Ub{α:Type}{L:List α}{x y:α}:y∈xY L x↔y∈L\/y=x:=by
 by_cases h:x∈L
 · rw[Js h];constructor
   · exact .inl
   · rintro(h1|rfl)
     · exact h1
     · exact h
 · rw[GW h];simp
def kZ{α:Type}(L:List α):List α:=L.foldl xY []
theorem Io{α:Type}(L:List α)(x:α):kZ (L++[x])=xY (kZ L) x:=by simp[kZ,List.foldl_append]
theorem EW{α:Type}{y:α}(L:List α):y∈kZ L↔y∈L:=by
 have:∀(L A:List α),y∈L.foldl xY A↔y∈A\/y∈L:=by
  intro L
  induction L with
  |nil=>intro A;simp
  |cons x L ih=>intro A;rw[List.foldl_cons,ih,Ub,List.mem_cons,or_assoc]
 rw[kZ,this];simp
theorem Qs{α:Type}{L:List α}(h:L.Nodup)(x:α):(xY L x).Nodup:=by
 by_cases hx:x∈L
 · rw[Js hx];exact h
 · rw[GW hx];exact List.nodup_append.2 ⟨h,by simp,fun a j b hb=>by rw[List.mem_singleton.1 hb];rintro rfl;exact hx j⟩
theorem qL{α:Type}(L:List α):(kZ L).Nodup:=by
 have:∀(L A:List α),A.Nodup->(L.foldl xY A).Nodup:=by
  intro L
  induction L with
  |nil=>intro A h;exact h
  |cons x L ih=>intro A h;exact ih _ (Qs h x)
 exact this L [] (by simp)
section
variable {α:Type}{T:Ty}{kt el t:TypeId}{ek:α->Value}
theorem Dk(K:MK T kt ek)(x:α):∀(L:List α) (g:α->Value) (es:List MapEntry) (n:Nat),kK ek L g es->
 (x∉L/\r7 (rE T kt (ek x)) es n=some none)\/(x∈L/\∃i e,r7 (rE T kt (ek x)) es n=some (some (n+i,e))/\e.key=ek x/\e.val=g x/\
   ∀v,∃o C j,L=o++x::C/\x∉o/\AG (fun e=>⟨ek x,v,e.born⟩) es i=j/\j.map (fun e=>(e.key,e.val))=o.map (fun y=>(ek y,g y))++(ek x,v)::C.map fun y=>(ek y,g y))
 |[],g,es,n,h=>by
  have:es=[]:=by simpa[kK]using h
  subst this
  exact .inl ⟨by simp,rfl⟩
 |y::L,g,[],n,h=>by simp[kK]at h
 |y::L,g,e::es,n,h=>by
  have aa:(e.key,e.val)=(ek y,g y)/\kK ek L g es:=by simpa[kK]using h
  obtain⟨h1,h2⟩:=aa
  have hk:e.key=ek y:=congrArg Prod.fst h1
  have ab:e.val=g y:=congrArg Prod.snd h1
  obtain⟨b,hb,I⟩:=K.eq x y
  cases b with
  |true=>
   obtain rfl:=I.1 rfl
   refine .inr ⟨List.mem_cons_self ..,0,e,?_,hk,ab,fun v=>⟨[],L,_,rfl,by simp,rfl,?_⟩⟩
   · simp only[r7,hk,hb,Nat.add_zero]
   · simp only[AG,List.map_cons,List.map_nil,List.nil_append];rw[show es.map (fun e=>(e.key,e.val))=_ from h2]
  |false=>
   have jG:¬x=y:=fun k=>absurd (I.2 k) (by decide)
   have e1:r7 (rE T kt (ek x)) (e::es) n=r7 (rE T kt (ek x)) es (n+1):=by simp only[r7,hk,hb]
   rcases Dk K x L g es (n+1) h2 with⟨J,R⟩|⟨J,i,U,R,ad,ae,af⟩
   · exact .inl ⟨by simp[jG,J],by rw[e1,R]⟩
   · refine .inr ⟨List.mem_cons_of_mem _ J,i+1,U,by rw[e1,R];congr 3;omega,ad,ae,fun v=>?_⟩
     obtain⟨o,C,j,ag,ah,q3,ai⟩:=af v
     refine⟨y::o,C,e::j,by rw[ag];rfl,by simp[jG,ah],by simp only[AG,q3],?_⟩
     rw[List.map_cons,ai,List.map_cons,h1];rfl
variable {hp:Hp}{L:List α}{g:α->Value}{es:List MapEntry}{c b:Nat}
theorem Ip(K:MK T kt ek)(hu:T.ji t=some (.map kt el))(hb:hp b=some (.map es c))(j:kK ek L g es){x:α}(hx:x∈L):o8 T hp t (.map (some b)) (ek x) false=some (g x):=by
 rcases Dk K x L g es 0 j with⟨h1,_⟩|⟨_,i,e,h2,h3,h4,_⟩
 · exact absurd hx h1
 · simp only[o8,hu,mapOf,hb,K.key,cond_true,h2,cond_false,h4]
theorem Gd(K:MK T kt ek)(hu:T.ji t=some (.map kt el))(hb:hp b=some (.map es c))(j:kK ek L g es){z:Value}(o:T.zero el=some z){x:α}(hx:x∉L):o8 T hp t (.map (some b)) (ek x) false=some z:=by
 rcases Dk K x L g es 0 j with⟨_,h2⟩|⟨h1,_⟩
 · simp only[o8,hu,mapOf,hb,K.key,cond_true,h2,o,cond_false]
 · exact absurd h1 hx
theorem uO(K:MK T kt ek)(hu:T.ji t=some (.map kt el))(o:T.zero el=some (.bool false))(hb:hp b=some (.map es c))(j:kK ek L (fun _=>.bool true) es)(x:α){r:Bool}(hr:r=@decide (x∈L) (Classical.propDecidable _)):
 o8 T hp t (.map (some b)) (ek x) false=some (.bool r):=by
 by_cases hx:x∈L
 · rw[Ip K hu hb j hx,hr];simp[hx]
 · rw[Gd K hu hb j o hx,hr];simp[hx]
theorem B3{f:α->Nat}(K:MK T kt ek)(hu:T.ji t=some (.map kt el))(o:T.zero el=some (.int .i64 0))(hb:hp b=some (.map es c))(j:kK ek L (fun x=>.int .i64 (.ofNat (f x))) es)(h0:∀x,x∉L->f x=0)(x:α):
 o8 T hp t (.map (some b)) (ek x) false=some (.int .i64 (.ofNat (f x))):=by
 by_cases hx:x∈L
 · exact Ip K hu hb j hx
 · rw[Gd K hu hb j o hx,h0 x hx];rfl
theorem KS{g':α->Value}(K:MK T kt ek)(hu:T.ji t=some (.map kt el))(hb:hp b=some (.map es c))(J:kK ek L g es)(I:L.Nodup)(x:α)(v:Value)(h1:g' x=v)(h2:∀y,y≠x->g' y=g y):
 ∃j ab,s5 T hp t (.map (some b)) (ek x) v=some [(b,some (.map j ab))]/\kK ek (xY L x) g' j:=by
 have other:∀L':List α,x∉L'->L'.map (fun y=>(ek y,g y))=L'.map fun y=>(ek y,g' y):=fun L' h=>List.map_congr_left fun y hy=>by rw[h2 y fun e=>h (e▸hy)]
 rcases Dk K x L g es 0 J with⟨o,C⟩|⟨o,i,e,C,ad,ai,ae⟩
 · refine⟨es++[⟨ek x,v,c⟩],c+1,by simp only[s5,hu,hb,K.key,cond_true,C],?_⟩
   rw[GW o,kK,List.map_append,List.map_append,show es.map (fun e=>(e.key,e.val))=_ from J,other _ o]
   simp[h1]
 · obtain⟨ah,aa,j,U,af,q3,ag⟩:=ae v
   rw[Nat.zero_add]at C
   refine⟨j,c,by simp only[s5,hu,hb,K.key,cond_true,C,ad,K.same,q3],?_⟩
   have R:x∉aa:=by
    rw[U]at I
    exact(List.nodup_cons.1 (List.nodup_append.1 I).2.1).1
   rw[Js o,kK,ag,other _ af,other _ R,U]
   simp[h1]
end
theorem kK.len{α:Type}{ek:α->Value}{L:List α}{g:α->Value}{es:List MapEntry}(h:kK ek L g es):es.length=L.length:=by
 simpa using congrArg List.length h
theorem M3{α:Type}{T:Ty}{hp:Hp}{t kt el:TypeId}{b c:Nat}{ek:α->Value}{L:List α}{g:α->Value}{es:List MapEntry}(hu:T.ji t=some (.map kt el))(hb:hp b=some (.map es c))(j:kK ek L g es):Gt T hp t (.map (some b))=some (.int .i64 (.ofNat L.length)):=by
 rw[<-j.len]
 simp only[Gt,hu,hb]
section
variable {e:Env}{fm:Fm}{to:Tm}{ds:List Deferred}{hp:Ht}{nx:Nat}{gW:List Nat}{Q:St->Prop}{all:List Oper}{d:Tmp}{ty:TypeId}{pos:String}{j1:Array Edge}
theorem mapped(hp:Ht)(nx:Nat)(o:jM Tm):∃j,hp.set nx (some o)=j/\HE nx hp j/\j.get nx=some o:=⟨_,rfl,HE.set _ _ (Nat.le_refl _),Tr.hY ..⟩
theorem WC.makeMap{t:TypeId}(hl:e.low=0)(q:Q ⟨to.set d (.map (some nx)),ds,hp.set nx (some (.map [] 0)),nx+1,gW⟩):WC e fm (iH all ⟨some d,.makeMap t none,ty,pos,j1,none⟩) ⟨to,ds,hp,nx,gW⟩ Q:=
 .W9 d (CZ e.T t none nx) hl (fun _ _ _=>rfl) rfl q
theorem WC.mapUpdate{α:Type}{ek:α->Value}{L:List α}{g g':α->Value}{es:List MapEntry}{c:Nat}{t kt el:TypeId}{m k v:Operand}(b:Nat)(x:α)(val:Value)(hl:e.low=0)(hm:(aaj m).run to=.map (some b))(hk:(aaj k).run to=ek x)(R:(aaj v).run to=val)
 (K:MK e.T kt ek) (hu:e.T.ji t=some (.map kt el)) (hb:hp.get b=some (.map es c)) (J:kK ek L g es) (I:L.Nodup) (h1:g' x=val) (h2:∀y,y≠x->g' y=g y)
 (q:∀j o fe,HE b hp fe->fe.get b=some (.map j o)->(∀c,c≠b->fe.get c=hp.get c)->kK ek (xY L x) g' j->Q ⟨to,ds,fe,nx,gW⟩):
 WC e fm (iH all ⟨none,.mapUpdate t m k v,ty,pos,j1,none⟩) ⟨to,ds,hp,nx,gW⟩ Q:=by
 obtain⟨j,o,U,aa⟩:=KS (hp:=hp.get) K hu hb J I x val h1 h2
 refine .Tw [(b,some (.map j o))] hl (fun rec cs C=>?_) (q j o _ (HE.set _ _ (Nat.le_refl _)) (Tr.hY ..) (fun c hc=>Tr.gC _ _ hc) aa)
 have:(iH all ⟨none,.mapUpdate t m k v,ty,pos,j1,none⟩).run e rec fm to ds hp nx cs C=yp (s5 e.T hp.get t ((aaj m).run to) ((aaj k).run to) ((aaj v).run to)) (tw (fun t _=>t) e.low to ds hp nx cs C):=by
  cases m<;>cases k<;>cases v<;>rfl
 rw[this,hm,hk,R,U];rfl
end
theorem kK.nil{α:Type}{ek:α->Value}{g:α->Value}:kK ek [] g []:=rfl
theorem XA{T:Ty}{kt:TypeId}(hu:T.ji kt=some (.int .i64)):MK T kt (fun x:Int=>.int .i64 x):=
 ⟨fun x=>by simp only[uU,hu],fun x y=>⟨km x y,by simp only[rE,hu];rfl,lH⟩,fun x=>by show(vO .i64 .i64&&km x x)=true;rw[lH.2 rfl];rfl⟩
theorem XB{T:Ty}{kt:TypeId}(hu:T.ji kt=some .string):MK T kt (fun x:ByteArray=>.string x):=
 ⟨fun x=>by simp only[uU,hu],fun x y=>⟨wm (strs x) (strs y),by simp only[rE,hu],qU⟩,fun x=>by show wm (strs x) (strs x)=true;exact qU.2 rfl⟩
def pU(s:ByteArray)(i:Nat):Nat:=((strs s).getD i 0).toNat
theorem RY(s:ByteArray)(i:Nat):pU s i<256:=UInt8.toNat_lt _
theorem xZ{T:Ty}{t:TypeId}{s:ByteArray}{i:Nat}{k:IntKind}(hu:T.ji t=some .string)(hi:i<s.data.toList.length):wH T t (.string s) (.int k (.ofNat i))=some (.int .u8 (.ofNat (pU s i))):=by
 have:Lw s i=some ((strs s).getD i 0):=by
  show s.data.toList[i]?=_
  unfold strs
  rw[List.getElem?_eq_getElem hi,List.getD_eq_getElem?_getD,List.getElem?_eq_getElem hi];rfl
 simp only[wH,hu,this,Option.map_some]
 rfl
theorem M4{a b:ByteArray}(h1:(strs a).length<1073741824)(h2:(strs b).length<1073741824):D4 .add a b=some (.string ⟨(strs a++strs b).toArray⟩):=by
 simp only[D4,mq.2 h1,mq.2 h2,Bool.and_self,cond_true]
theorem Jt{T:Ty}{t el:TypeId}{b o len i s:Nat}{k:IntKind}(hu:T.ji t=some (.array len el))(hs:T.size el=some s)(hi:i<len):lh T t (.pointer (some ⟨b,o,none⟩)) (.int k (.ofNat i))=some (.pointer (some ⟨b,o+i*s,none⟩)):=by
 simp only[lh,hu,uH,mq.2 hi,cond_true,hs,Option.map_some,Int.toNat]
theorem B4:∀l:List Int,Cg (l.map (.int .i64)) (l.map (.int .i64))=true
 |[]=>rfl
 |x::l=>by
  have h1:Eb (.int .i64 x) (.int .i64 x)=true:=by show(vO .i64 .i64&&km x x)=true;rw[lH.2 rfl];rfl
  simp only[List.map_cons,Cg,h1,B4 l,Bool.and_self]
end
end Sw
namespace Sw
noncomputable section
open Go Go.Proofs Go.RowKit
set_option maxRecDepth 100000
set_option maxHeartbeats 1600000
def EX(n:Nat):Nat:=if(97<=n/\n<=122)\/(65<=n/\n<=90)then 2 else if 48<=n/\n<=57 then 3 else if n∈[123,125,40,41,91,93,59,44,61,60,62]then 4 else if n∈[32,9,10,13]then 1 else 0
def EY:List Value:=(List.range 256).map fun n=>.int .u8 (.ofNat (EX n))
def Uc:List Value:=(List.range 256).map fun _=>.int .u8 0
theorem Wa{n:Nat}(h:n<256):EY[0+n*1]?=some (.int .u8 (.ofNat (EX n))):=by
 rw[Nat.zero_add,Nat.mul_one]
 unfold EY
 rw[List.getElem?_map,List.getElem?_range h];rfl
def x_:Prop:=∀(hp:Ht) (nx:Nat),WF ex 415 [] hp nx (fO nx hp (fun v=>v=.agg EY.toArray))
def wh:Prop:=∀(a b:ByteArray) (hp:Ht) (nx:Nat),(strs a).length<4294967281->WF ex 348 [.string a,.string b] hp nx (fO nx hp (gk (Lib.contains (strs a) (strs b)=true)))
def Iq:ByteArray:=⟨#[32,99,111,117,114,115,101,32,109,97,116,115,32,115,116,97,114,116,32,112,97,115,115,32,101,110,100,32,108,101,103,32,116,111,32,100,105,115,116,97,110,99,101,32,103,117,110,32,99,104,105,112,32,115,108,111,116,32,108,97,112,115,32,108,97,112,32,99,117,116,111,102,102,32,101,120,116,114,97,32,119,97,118,101,32,111,102,102,101,110,99,101,32,111,117,116,32,99,97,116,101,103,111,114,121,32,112,114,105,122,101,32,97,108,108,32,116,105,101,115,32,105,102,32,101,108,115,101,32,97,110,100,32,111,114,32,110,111,116,32,111,108,100,101,114,32,121,111,117,110,103,101,114,32,98,105,98,32,100,114,97,119,32,102,105,101,108,100,32,115,104,111,114,116,32,102,97,117,108,116,115,32,109,105,115,115,101,115,32,115,116,114,97,121,115,32,119,105,110,100,111,119,32,114,101,115,105,100,117,97,108,32,100,114,105,102,116,32,112,114,111,116,101,115,116,32,102,101,101,32,100,101,97,100,108,105,110,101,32]⟩
def Ir(s:ByteArray):ByteArray:=⟨(strs (⟨(strs (⟨#[32]⟩:ByteArray)++strs s).toArray⟩:ByteArray)++strs (⟨#[32]⟩:ByteArray)).toArray⟩
def M5(s:ByteArray)(i:Nat):Prop:=EX (pU s i)≠2/\(i=0\/EX (pU s i)≠3/\pU s i≠95)
def Vm(s:ByteArray):Prop:=(∀i,i<s.data.toList.length->¬M5 s i)/\s≠⟨#[]⟩
def XC(s:ByteArray):Prop:=Vm s/\Lib.contains (strs Iq) (strs (Ir s))=true
def M6(s:ByteArray)(i:Nat):Prop:=((pU s i<97\/122<pU s i)/\(pU s i<48\/57<pU s i))/\pU s i≠95
def Is(s:ByteArray):Prop:=(1<=s.data.toList.length/\s.data.toList.length<=24/\97<=pU s 0/\pU s 0<=122)/\(∀i,i<s.data.toList.length->¬M6 s i)/\¬XC s
theorem XD:ex.T.agg 5=some false:=kr
theorem Wb:ex.T.size 5=some 1:=kr
theorem RZ:ex.T.size 608=some 256:=kr
theorem R0:ex.T.ji 608=some (.array 256 5):=kr
theorem CI:ex.T.ji 9=some .string:=kr
theorem Qt:ex.T.zero 608=some (.agg (Uc).toArray):=kr
theorem R1(pP:x_)(w:ByteArray)(hp:Ht)(nx:Nat)(hs:w.data.toList.length<4611686018427387904):WF ex 347 [.string (w)] hp nx (fO nx hp (gk (Vm w))):=by
 refine wd Tryz.f347 36 [.tmp 2] fun hE=>sr<|oN 1<|sr<|WO.cons (WC.call 6 415 ([]) kf ((pP hp (nx)).mono ?_))
 rintro _ aR oG ⟨rfl,aQ,iY⟩
 refine oA (Uc) Qt fun aA jm an=>?_
 refine WO.cons (WC.vi oG (0) (.agg EY.toArray) (Uc) (EY) (EY) 256 rfl kr kr RZ rfl kr an rfl rfl kr ?_)
 obtain⟨au,ab,aq,ao,aK⟩:=stored aA oG (.cells (EY) gl.plain)
 rw[ab];clear ab
 refine WO.nil<|WP.seq<|sr<|oN 3<|WP.block ?_
 refine my [0,3,8,9] (fun m hs ns vs=>∃(o:Nat),o+m=w.data.toList.length/\vs=[.string (w),pt oG 0,iN (.ofNat ((w).data.toList.length)),iN (.ofNat o)]/\oG+1<=ns/\HE (oG+1) au hs/\(∀j,j<o->¬M5 w j)) ?_ (w.data.toList.length) ?_
 ·
  rintro aM av aN _ ⟨o,aI,rfl,ar,R,hinv⟩ aJ
  have aa:=(((hE.trans iY).trans jm).trans aq).trans R
  refine sr ?_
  refine oq 10 (kV o ((w).data.toList.length)) fun aO aB=>WO.nil<|WP.seq<|cq aB (fun aH=>?_) (fun aH=>?_)
  ·
   refine WP.skip<|WP.seq<|WP.block<|sr<|oN 2<|sr<|oX 2 ?_
   have ae:o<((w).data.toList.length):=by omega
   refine WO.cons (WC.opt (v:=.int .u8 (.ofNat (pU w (o)))) 14 (wH ex.T 9 (.string (w)) (iN (.ofNat (o)))) kf (xZ (k:=.i64) CI ae)<|WO.cons (WC.opt (v:=pt oG (0+((pU w (o)))*1)) 15 (lh ex.T 608 (pt oG 0) (.int .u8 (.ofNat ((pU w (o)))))) kf (Jt (k:=.u8) R0 Wb (RY _ _))<|WO.cons (WC.opt (v:=.int .u8 (.ofNat (EX ((pU w (o)))))) 16 (kB ex.T av.get 5 (pt oG (0+((pU w (o)))*1))) kf (ko XD (R.get ao) (Wa (RY _ _)))<|oN 1<|sr<|oX 1 ?_)))
   refine oq 18 (Mv (EX ((pU w (o)))) 2) fun C aj=>oX 1<|gT 19 C (iN (.ofNat o)) ?_
   refine qw 19 C (w5 o 0) fun I ak=>gT 19 C (.bool I)<|og 22 (C&&!I) (.int .u8 (.ofNat (EX ((pU w (o)))))) ((bif C then .bool I else undef)) (by cases C<;>cases I<;>rfl) (fun h=>by obtain⟨rfl,rfl⟩:=xQ h;exact fun _ _ _=>by kernel_rfl) ?_
   obtain⟨J,aw,al⟩:=Mv (EX ((pU w (o)))) 3
   refine og 22 (C&&!I) (.bool J) ((bif C then .bool I else undef)) (by cases C<;>cases I<;>rfl) (fun h=>by obtain⟨rfl,rfl⟩:=xQ h;exact fun _ _ _=>by subst aw;kernel_rfl) ?_
   refine og 22 (C&&!I) (.bool J) ((bif C then .bool I else undef)) (by cases C<;>cases I<;>rfl) (fun h=>by obtain⟨rfl,rfl⟩:=xQ h;exact fun _ _ _=>by kernel_rfl) ?_
   refine og 25 (C&&!I&&J) (.string (w)) ((bif C&&!I then .bool J else undef)) (by cases C<;>cases I<;>cases J<;>rfl) (fun h=>by obtain⟨rfl,rfl,rfl⟩:C=true/\I=false/\J=true:=(by simpa[and_assoc]using h);exact fun _ _ _=>by kernel_rfl) ?_
   refine og 25 (C&&!I&&J) (iN (.ofNat o)) ((bif C&&!I then .bool J else undef)) (by cases C<;>cases I<;>cases J<;>rfl) (fun h=>by obtain⟨rfl,rfl,rfl⟩:C=true/\I=false/\J=true:=(by simpa[and_assoc]using h);exact fun _ _ _=>by kernel_rfl) ?_
   have af:(C&&!I&&J)=true->o<((w).data.toList.length):=fun h=>by obtain⟨rfl,rfl,rfl⟩:C=true/\I=false/\J=true:=(by simpa[and_assoc]using h);have aS:=(aj).1 rfl;have aT:¬(((o:Nat):Int)=(0)):=(fun k=>absurd ((ak).2 k) (by decide));have aU:=(al).1 rfl;omega
   refine wq 25 (C&&!I&&J) (.int .u8 (.ofNat (pU w (o)))) ((bif C&&!I then .bool J else undef)) (by cases C<;>cases I<;>cases J<;>rfl) (fun h=>by obtain⟨rfl,rfl,rfl⟩:C=true/\I=false/\J=true:=(by simpa[and_assoc]using h);exact WC.opt (v:=.int .u8 (.ofNat (pU w (o)))) 28 (wH ex.T 9 (.string (w)) (iN (.ofNat (o)))) kf (xZ (k:=.i64) CI (af rfl)) rfl) ?_
   obtain⟨ag,ax,aC⟩:=Mv (pU w (o)) 95
   refine og 25 (C&&!I&&J) (.bool ag) ((bif C&&!I then .bool J else undef)) (by cases C<;>cases I<;>cases J<;>rfl) (fun h=>by obtain⟨rfl,rfl,rfl⟩:C=true/\I=false/\J=true:=(by simpa[and_assoc]using h);exact fun _ _ _=>by subst ax;kernel_rfl) ?_
   obtain⟨U,ay,aD⟩:=nA al aC
   refine wq 22 (C&&!I) (.bool U) ((bif C then .bool I else undef)) (by cases C<;>cases I<;>rfl) (fun h=>by obtain⟨rfl,rfl⟩:=xQ h;exact WC.opt (v:=.bool U) 30 (lA (.bool J) ((bif true&&!false&&J then .bool ag else undef)) (.bool false)) kf (by rw[ay];exact s_ (fun h=>by obtain rfl:J=true:=h;rfl)) rfl) ?_
   obtain⟨ah,az,aE⟩:=nO ak aD
   refine EI 19 C (.bool ah) (by rintro rfl;exact WC.opt (v:=.bool ah) 31 (lA (.bool I) (.bool true) ((bif true&&!I then .bool U else undef))) kf (by rw[az];exact lE (fun h=>by obtain rfl:I=false:=h;rfl)) rfl) ?_
   refine mI 32 (nA aj aE) fun aP aF=>WO.nil<|cq aF (fun ad=>?_) (fun ad=>?_)
   ·
    refine sr<|oW 1 ⟨rfl,rfl,[.bool false],kr,?_⟩
    exact⟨⟨false,rfl,fun h=>(by cases h),fun h=>(by have aL:=ad;exact absurd (show M5 w o by unfold M5;omega) (h.1 o om))⟩,od,aa⟩
   ·
    refine WP.skip<|WP.region<|ov 33 (iN (.ofNat (o+1))) ?_ (fun _ _ _=>by rw[<-gU (show o+1<9223372036854775808 by omega)];kernel_rfl)
    refine oN 1<|⟨w.data.toList.length-(o+1),om,rfl,rfl,o+1,om,kr,?_,?_,?_⟩
    · exact ar
    · exact R
    · intro j hj;rcases Nat.lt_succ_iff_lt_or_eq.1 hj with hj|rfl
      · exact hinv j hj
      · have aL:=ad;unfold M5;omega
  ·
   refine WP.exit<|sr<|oX 1 ?_
   refine oq 35 (@nb (!(wm (strs w) (strs ⟨#[]⟩))) (w≠⟨#[]⟩) (Rr)) fun ai aG=>oW 1 ⟨rfl,rfl,[.bool ai],kr,?_⟩
   exact⟨⟨ai,rfl,aG.trans ⟨fun h=>⟨fun j hj=>hinv j om,h⟩,fun h=>h.2⟩⟩,od,aa⟩
 ·
  exact⟨0,om,kr,Nat.le_refl _,HE.refl _ _,(fun j h=>absurd h (Nat.not_lt_zero _))⟩
theorem Qu(pP:x_)(qt:wh)(w:ByteArray)(hp:Ht)(nx:Nat)(hs:w.data.toList.length<1000):WF ex 262 [.string (w)] hp nx (fO nx hp (gk (XC w))):=by
 refine wd Tryz.f262 11 [.tmp 2] fun hE=>sr<|oN 1<|sr<|oX 1<|oD 4 (R1 pP w hp (nx) om) fun j o C oG aa iY=>?_
 refine oX 1<|gT 5 j (.string (w))<|wq 5 (j) (.string ((⟨(strs (⟨#[32]⟩:ByteArray)++strs (w:ByteArray)).toArray⟩:ByteArray))) (.bool j) (by cases j<;>rfl) (fun h=>by obtain rfl:=h;have J:=(o).1 rfl;exact WC.opt (v:=.string ((⟨(strs (⟨#[32]⟩:ByteArray)++strs (w:ByteArray)).toArray⟩:ByteArray))) 7 (D4 .add (⟨#[32]⟩) (w)) kf (M4 (by decide) (by show w.data.toList.length<_;omega)) rfl) ?_
 refine wq 5 (j) (.string ((⟨(strs ((⟨(strs (⟨#[32]⟩:ByteArray)++strs (w:ByteArray)).toArray⟩:ByteArray):ByteArray)++strs (⟨#[32]⟩:ByteArray)).toArray⟩:ByteArray))) (.bool j) (by cases j<;>rfl) (fun h=>by obtain rfl:=h;have J:=(o).1 rfl;exact WC.opt (v:=.string ((⟨(strs ((⟨(strs (⟨#[32]⟩:ByteArray)++strs (w:ByteArray)).toArray⟩:ByteArray):ByteArray)++strs (⟨#[32]⟩:ByteArray)).toArray⟩:ByteArray))) 8 (D4 .add ((⟨(strs (⟨#[32]⟩:ByteArray)++strs (w:ByteArray)).toArray⟩:ByteArray)) (⟨#[32]⟩)) kf (M4 (by show(strs (⟨#[32]⟩:ByteArray)++strs w).length<_;rw[List.length_append];show 1+w.data.toList.length<_;omega) (by decide)) rfl) ?_
 refine WO.cons (WC.gq (j) (GB (j) (Lib.contains (strs Iq) (strs (Ir w))=true) (oG) C) (.bool j) (g:=aaj (.tmp 5)) rfl kr (by cases j<;>rfl) (fun h=>by obtain rfl:j=true:=(by simpa using h);have J:=(o).1 rfl;exact WC.call 9 348 ([.string Iq,.string (Ir w)]) kf ((qt Iq (Ir w) C (oG) (by decide)).mono fun v fe fg ⟨⟨c,U,hc⟩,hn,he⟩=>⟨_,_,_,rfl,⟨c,U,hc⟩,hn,he⟩)) (fun h=>GB.off h) ?_)
 rintro _ ab ad ⟨⟨ow,rfl,sj⟩,R,I⟩
 refine mI 10 (nA o sj) fun sF vt=>oW 1 ⟨rfl,rfl,[.bool sF],kr,?_⟩
 refine⟨⟨sF,rfl,?_⟩,od,((hE.trans iY).trans I)⟩
 exact vt
theorem zk(pP:x_)(qt:wh)(w:ByteArray)(hp:Ht)(nx:Nat):WF ex 167 [.string (w)] hp nx (fO nx hp (gk (Is w))):=by
 refine wd Tryz.f167 53 [.tmp 2] fun hE=>sr<|oN 1<|WP.seq<|sr<|oX 2 ?_
 refine oq 7 (AW ((w).data.toList.length) 1) fun c1 p1=>oX 1<|gF 8 c1 (.string (w))<|gF 8 c1 (iN (.ofNat ((w).data.toList.length))) ?_
 refine mX 8 c1 (nc 24 ((w).data.toList.length)) fun c2 aR=>?_
 refine mj 12 (nO p1 aR) fun J aB=>oX 1<|gF 13 J (.string (w)) ?_
 have al:(!J)=true->0<((w).data.toList.length):=fun h=>by obtain rfl:J=false:=(by simpa using h);have aV:¬((((((w).data.toList.length):Nat):Int)<(1))\/((24)<((((w).data.toList.length):Nat):Int))):=(fun k=>absurd ((aB).2 k) (by decide));omega
 refine zQ 13 J (.int .u8 (.ofNat (pU w (0)))) (by rintro rfl;exact WC.opt (v:=.int .u8 (.ofNat (pU w (0)))) 15 (wH ex.T 9 (.string (w)) (iN (.ofNat (0)))) kf (xZ (k:=.i64) CI (al rfl)) rfl) ?_
 refine mX 13 J (AW (pU w (0)) 97) fun a6 aS=>?_
 refine mj 17 (nO aB aS) fun R aI=>oX 1<|gF 18 R (.string (w)) ?_
 have an:(!R)=true->0<((w).data.toList.length):=fun h=>by obtain rfl:R=false:=(by simpa using h);have aV:¬(((((((w).data.toList.length):Nat):Int)<(1))\/((24)<((((w).data.toList.length):Nat):Int)))\/((((pU w (0)):Nat):Int)<(97))):=(fun k=>absurd ((aI).2 k) (by decide));omega
 refine zQ 18 R (.int .u8 (.ofNat (pU w (0)))) (by rintro rfl;exact WC.opt (v:=.int .u8 (.ofNat (pU w (0)))) 20 (wH ex.T 9 (.string (w)) (iN (.ofNat (0)))) kf (xZ (k:=.i64) CI (an rfl)) rfl) ?_
 refine mX 18 R (nc 122 (pU w (0))) fun a7 aT=>?_
 refine mj 22 (nO aI aT) fun a8 aU=>WO.nil<|cq aU (fun aj=>?_) (fun aj=>?_)
 ·
  refine sr<|oW 1 ⟨rfl,rfl,[.bool false],kr,?_⟩
  exact⟨⟨false,rfl,fun h=>(by cases h),fun h=>(by have h:=h.1;omega)⟩,nR,hE⟩
 ·
  refine WP.skip<|WP.seq<|sr<|oN 3<|WP.block ?_
  refine my [0,24,25] (fun m hs ns vs=>∃(o:Nat),o+m=w.data.toList.length/\vs=[.string (w),iN (.ofNat ((w).data.toList.length)),iN (.ofNat o)]/\nx<=ns/\HE (nx) hp hs/\(∀j,j<o->¬M6 w j)) ?_ (w.data.toList.length) ?_
  ·
   rintro aP aq ar _ ⟨o,aK,rfl,ao,aa,hinv⟩ aL
   have U:=hE.trans aa
   refine sr ?_
   refine oq 26 (kV o ((w).data.toList.length)) fun sk vp=>WO.nil<|WP.seq<|cq vp (fun aJ=>?_) (fun aJ=>?_)
   ·
    refine WP.skip<|WP.seq<|WP.block<|sr<|oN 2<|sr<|oX 2 ?_
    have ad:o<((w).data.toList.length):=by omega
    refine WO.cons (WC.opt (v:=.int .u8 (.ofNat (pU w (o)))) 30 (wH ex.T 9 (.string (w)) (iN (.ofNat (o)))) kf (xZ (k:=.i64) CI ad)<|oN 1<|sr<|oX 1 ?_)
    refine oq 32 (AW (pU w (o)) 97) fun ae aw=>oX 1<|gF 33 ae (.int .u8 (.ofNat (pU w (o)))) ?_
    refine mX 33 ae (nc 122 (pU w (o))) fun aW ax=>?_
    refine mj 36 (nO aw ax) fun C ay=>oX 1<|gT 37 C (.int .u8 (.ofNat (pU w (o)))) ?_
    refine qw 37 C (AW (pU w (o)) 48) fun I az=>gT 37 C (.bool I)<|og 40 (C&&!I) (.int .u8 (.ofNat (pU w (o)))) ((bif C then .bool I else undef)) (by cases C<;>cases I<;>rfl) (fun h=>by obtain⟨rfl,rfl⟩:=xQ h;exact fun _ _ _=>by kernel_rfl) ?_
    obtain⟨af,au,aA⟩:=nc 57 (pU w (o))
    refine og 40 (C&&!I) (.bool af) ((bif C then .bool I else undef)) (by cases C<;>cases I<;>rfl) (fun h=>by obtain⟨rfl,rfl⟩:=xQ h;exact fun _ _ _=>by subst au;kernel_rfl) ?_
    obtain⟨ag,av,aC⟩:=nO az aA
    refine EI 37 C (.bool ag) (by rintro rfl;exact WC.opt (v:=.bool ag) 43 (lA (.bool I) (.bool true) ((bif true&&!I then .bool af else undef))) kf (by rw[av];exact lE (fun h=>by obtain rfl:I=false:=h;rfl)) rfl) ?_
    refine mI 44 (nA ay aC) fun ah aD=>oX 1<|gT 45 ah (.int .u8 (.ofNat (pU w (o)))) ?_
    refine qw 45 ah (Mv (pU w (o)) 95) fun aX aE=>?_
    refine mI 48 (nA aD aE) fun aY aF=>WO.nil<|cq aF (fun ab=>?_) (fun ab=>?_)
    ·
     refine sr<|oW 1 ⟨rfl,rfl,[.bool false],kr,?_⟩
     exact⟨⟨false,rfl,fun h=>(by cases h),fun h=>(by have aO:=ab;exact absurd (show M6 w o by unfold M6;omega) (h.2.1 o om))⟩,od,U⟩
    ·
     refine WP.skip<|WP.region<|ov 49 (iN (.ofNat (o+1))) ?_ (fun _ _ _=>by rw[<-gU (show o+1<9223372036854775808 by omega)];kernel_rfl)
     refine oN 1<|⟨w.data.toList.length-(o+1),om,rfl,rfl,o+1,om,kr,?_,?_,?_⟩
     · exact ao
     · exact aa
     · intro j hj;rcases Nat.lt_succ_iff_lt_or_eq.1 hj with hj|rfl
       · exact hinv j hj
       · have aO:=ab;unfold M6;omega
   ·
    refine WP.exit<|sr<|oX 1<|oD 51 (Qu pP qt w aq (ar) om) fun aZ aG aN aQ aM ak=>?_
    refine oq 52 (nN aG) fun ai aH=>oW 1 ⟨rfl,rfl,[.bool ai],kr,?_⟩
    exact⟨⟨ai,rfl,aH.trans ⟨fun h=>⟨by have:=aj;omega,fun j hj=>hinv j om,h⟩,fun h=>h.2.2⟩⟩,od,(U.trans ak)⟩
  ·
   exact⟨0,om,kr,Nat.le_refl _,HE.refl _ _,(fun j h=>absurd h (Nat.not_lt_zero _))⟩
end
end Sw
