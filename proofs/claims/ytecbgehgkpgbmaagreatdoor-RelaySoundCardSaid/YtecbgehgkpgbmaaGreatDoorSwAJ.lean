/- A part of the proof that the law returns true for every input that its row speaks of. No condition is added. -/
import Derived.Test.YtecbgehgkpgbmaaGreatDoorSwAI
import Derived.Test.YtecbgehgkpgbmaaGreatDoorSwAG
import Derived.Test.YtecbgehgkpgbmaaGreatDoorSwAF
import Derived.Lib.IndexMore
namespace Sw
noncomputable section
open Go Go.Proofs Go.RowKit
set_option maxRecDepth 100000
set_option maxHeartbeats 1600000
theorem gB.atV{α:Type}{enc:α->List Value}{n G:Nat}{O:Ht}{s:SV α}{v:Value}(h:gB enc n O G s)(e:s.v=v):gB enc n O G ⟨v,s.l⟩:=by subst e;exact h
inductive vi:List (List fQ)->List fQ->Prop where
 |one (x:List fQ):vi [x] x
 |snoc {W:List (List fQ)} {J y J':List fQ}:vi W J->Ns J y J'->vi (W++[y]) J'
theorem UZ{W:List (SV fQ)}{i:Nat}{x:SV fQ}(hi:i=0)(hx:W[i]?=some x):vi ((W.take (i+1)).map (·.l)) x.l:=by
 subst hi;rw[List.take_add_one,hx];exact .one _
theorem SH{W:List (SV fQ)}{i:Nat}{x:SV fQ}{J J':List fQ}(hi:i≠0)(h:(i=0/\J=[])\/vi ((W.take i).map (·.l)) J)(hx:W[i]?=some x)(b:Ns J x.l J'):vi ((W.take (i+1)).map (·.l)) J':=by
 rcases h with h|h
 · exact absurd h.1 hi
 · rw[List.take_add_one,hx,Option.toList_some,List.map_append]
   exact .snoc h b
def Wo(W:List (List fQ))(l:List fQ):Prop:=(W=[]/\l=[])\/vi W l
theorem Xf(aj:zH)(W:SV (SV fQ))(O:Ht)(G:Nat)(o:jC lL 1 (fun O G y=>gB fj 2 O G y) O G W):WF ex 30 [W.v,.func (.func 31) #[] #[]] O G (fun v e9 e_=>IU (Wo (W.l.map (·.l))) v e9 e_/\G<=e_/\HE G O e9):=by
 obtain⟨a1,c2,h_⟩:=o.1.shape
 have mc:=o.1.2.2
 rw[h_]
 refine wd Tryz.f30 31 [.tmp 4,.tmp 5] fun hE=>sr<|oN 2<|WP.seq<|sr<|oN 3<|WP.block ?_
 refine mu [1,4,8,9,10] (fun m hs ns vs=>∃(fW:Nat) (J:SV fQ),fW+m=W.l.length/\vs=[.func (.func 31) #[] #[],J.v,.slice a1 (W.l.length) c2,Y (.ofNat (W.l.length)),Y (.ofNat fW)]/\G<=ns/\HE (G) O hs/\(gB fj 2 hs ns J)/\((fW=0/\J.l=[])\/vi ((W.l.take fW).map (·.l)) J.l)) ?_ (W.l.length) ?_
 ·
  rintro ya ql jd _ ⟨fW,J,uz,rfl,oR,jt,C,B⟩ uA
  have j9:=hE.trans jt nR
  have j:=ff nR oR
  have S:=HE.refl (jd) ql
  have ad:=fg (jd)
  refine sr ?_
  refine oq 11 (kT fW W.l.length) fun r5 vh=>WO.nil<|WP.seq<|cq vh (fun ah=>?_) (fun ah=>?_)
  ·
   refine WP.skip<|WP.seq<|WP.block<|sr<|oX 1 ?_
   have u:fW<W.l.length:=by omega
   refine WO.cons (WC.iy h_ o.1 (fW) Be qT (u) ?_)
   obtain⟨b,e⟩:=gE u
   obtain⟨a21,N,p⟩:=(o.2 b (fa e)).shape
   have ai:=(o.2 b (fa e)).2.2
   refine WO.cons (WC.lz (.slice a21 (b.l.length) N) h_ (o.1.mono j9 j) e (by rw[<-p];rfl) ox<|oN 2<|WP.seq<|sr<|oX 1 ?_)
   refine oq 16 (vY fW 0) fun uL uC=>WO.nil<|cq uC (fun yH=>?_) (fun yH=>?_)
   ·
    refine sr<|oN 2<|WP.exit<|WP.region<|ov 29 (Y (.ofNat (fW+1))) ?_ (fun _ _ _=>by rw[<-gQ (show fW+1<9223372036854775808 by omega)];kernel_rfl)
    refine oN 1<|⟨W.l.length-(fW+1),om,rfl,rfl,fW+1,⟨.slice a21 (b.l.length) N,b.l⟩,om,U,?_,?_,?_,?_⟩
    · exact oR
    · exact jt
    · exact gB.atV ((o.2 b (fa e)).mono j9 j) p
    · exact .inr (show vi _ b.l from UZ om e)
   ·
    refine WP.skip<|sr<|oX 3<|WO.cons (WC.call 22 31 ([J.v,b.v]) (fun _ _ _=>by(try rw[p]);kernel_rfl) ((Q6 aj J b ql (jd) (C.mono S ad) ((o.2 b (fa e)).mono j9 j)).mono ?_))
    rintro _ wa L ⟨⟨A,z28,rfl,z,K⟩,F,E⟩
    have R:=j9.trans E j
    have X:=jt.trans E oR
    have ae:=ff oR F
    have ab:=ff j F
    have aa:=HE.refl (L) wa
    have af:=fg (L)
    refine oN 5<|sr<|oX 1 ?_
    refine oq 26 (qS z28 0) fun ak ag=>WO.nil<|cq ag (fun M=>?_) (fun M=>?_)
    ·
     refine sr<|oW 4 ⟨rfl,rfl,[A.v,Y z28],U,?_⟩
     exact⟨⟨A,z28,rfl,z,K.elim (fun h=>absurd h.1 M) .inr⟩,ab,R⟩
    ·
     refine WP.skip<|WP.region<|ov 29 (Y (.ofNat (fW+1))) ?_ (fun _ _ _=>by rw[<-gQ (show fW+1<9223372036854775808 by omega)];kernel_rfl)
     refine oN 1<|⟨W.l.length-(fW+1),om,rfl,rfl,fW+1,A,om,U,?_,?_,?_,?_⟩
     · exact ae
     · exact X
     · exact(z.mono aa af)
     · rcases K with⟨_,D⟩|⟨h1,_⟩
       · exact .inr (SH om B e D)
       · exact absurd (show(z28:Int)≠0 by omega) M
  ·
   refine WP.exit<|sr<|oW 3 ⟨rfl,rfl,[J.v,Y 0],U,?_⟩
   have hT:W.l.take fW=W.l:=fJ om
   rw[hT]at B
   refine⟨⟨J,0,rfl,C,.inl ⟨rfl,B.imp (fun h=>⟨?_,h.2⟩) id⟩⟩,j,j9⟩
   rw[List.eq_nil_of_length_eq_zero (show W.l.length=0 by omega)];rfl
 ·
  exact⟨0,⟨.slice none 0 0,[]⟩,om,U,fg _,HE.refl _ _,tB,.inl ⟨rfl,rfl⟩⟩
end
end Sw
namespace Sw
noncomputable section
namespace Pub
open Classical
structure YA{K:Type}(lt:K->K->Prop):Prop where
 irr:∀x,¬lt x x
 tr:∀{x y z},lt x y->lt y z->lt x z
 zR:∀x y,lt x y\/x=y\/lt y x
section
variable {K uI:Type}{lt:K->K->Prop}
theorem YA.eq(h:YA lt){x y:K}(a:¬lt x y)(b:¬lt y x):x=y:=by
 rcases h.zR x y with k|k|k
 · exact absurd k a
 · exact k
 · exact absurd k b
def Nx{E:Type}(lt:K->K->Prop)(k:K)(l:List (K×E)):Prop:=∀p∈l,lt k p.1
def Wp{E:Type}(lt:K->K->Prop):List (K×E)->Prop
 |[]=>True
 |x::l=>Nx lt x.1 l/\Wp lt l
theorem Nx.cons{E:Type}{k:K}{x:K×E}{l:List (K×E)}(h:Nx lt k (x::l)):lt k x.1/\Nx lt k l:=⟨h x (fz ..),fun p O=>h p (fG _ O)⟩
theorem Nx.mk{E:Type}{k:K}{x:K×E}{l:List (K×E)}(h:lt k x.1)(hl:Nx lt k l):Nx lt k (x::l):=fun p O=>by
 rcases fT.1 O with rfl|O
 · exact h
 · exact hl p O
theorem Wp.sub{E:Type}{l b:List (K×E)}(h:Wp lt l)(hs:b.Sublist l):Wp lt b:=by
 induction hs with
 |slnil=>trivial
 |cons a _ ih=>exact ih h.2
 |cons_cons a hs ih=>exact⟨fun p O=>h.1 p (hs.subset O),ih h.2⟩
end
end Pub
end
end Sw
namespace Sw
noncomputable section
open Go Go.RowKit
section
variable {e:Env}{fm:Fm}{I:Tm}{ds:List Deferred}{O:Ht}{G:Nat}{gX:List Nat}{Q:St->Prop}{all:List Oper}{i j:Nat}{w:Bool}{d:Tmp}{ty:TypeId}{pos:String}{j7:Array Edge}{l:List Cl}{s t:TypeId}{x:Operand}
theorem WC.conv(v:Value){y:Value}(hx:(f_ x).run I=y)(h:uS e.T O.get s t y G=some (v,[],0))(q:Q ⟨I.set d v,ds,O,G,gX⟩):WC e fm (iQ all ⟨some d,.convert s t x,ty,pos,j7,none⟩) ⟨I,ds,O,G,gX⟩ Q:=by
 refine .val d v (fun rec Z k=>?_) q
 subst hx
 have:(iQ all ⟨some d,.convert s t x,ty,pos,j7,none⟩).run e rec fm I ds O G Z k=qO (uS e.T O.get s t ((f_ x).run I) G) (tW (fun t v=>t.set d v) e.low I ds O G Z k):=rfl
 rw[this,h];rfl
end
def Z7(a b:ByteArray):Prop:=H8 (strs a) (strs b)=true
def vw(v:Value)(n i l:Nat):Value:=match v with
 |.slice (some ⟨b,o,none⟩) _ c=>.slice (some ⟨b,o+i*n,none⟩) l (c-i)
 |_=>.slice none 0 0
theorem YB(k:Nat)(v:Value)(n i l:Nat):lx k (vw v n i l) (vw v n i l)=true:=by
 unfold vw
 split
 · exact u9 ..
 · exact xW ..
def U0{α:Type}(enc:α->List Value)(n:Nat)(O:Ht)(G b o:Nat)(x:α):Prop:=b<G/\∃m cells,O.get b=some (.cells cells m)/\lQ n (cells.drop o)=some (enc x)
theorem U0.mono{α:Type}{enc:α->List Value}{n:Nat}{O e9:Ht}{G e_ b o:Nat}{x:α}(h:U0 enc n O G b o x)(he:HE G O e9)(hn:G<=e_):U0 enc n e9 e_ b o x:=by
 obtain⟨h1,m,cells,D,h3⟩:=h
 exact⟨by omega,m,cells,he.get D h1,h3⟩
section
variable {α:Type}{enc:α->List Value}{n:Nat}{O e9:Ht}{G e_:Nat}{s:SV α}{T:Ty}{t el i l p:Nat}
theorem SI{b:Nat}{Z:List Value}{m:gm}(h:O.get b=some (.cells Z m))(hm:m.mP=none\/m.unit=n):Bl O.get b n=true:=by
 unfold Bl
 rw[h]
 rcases hm with hm|hm
 · simp only[hm]
 · cases hg:m.mP with
   |none=>simp only[hg]
   |some g=>simp only[hg,hm];exact Nat.beq_refl _
theorem YC(h:gB enc n O G s):vw s.v n 0 s.l.length=s.v:=by
 rcases h.2.1 with⟨h1,D|⟨q,D⟩⟩|⟨b,cap,m,h1,_⟩
 · rw[h1,D];rfl
 · rw[h1,D];show Value.slice (some ⟨q,0+0*n,none⟩) 0 (0-0)=_;simp
 · rw[h1];show Value.slice (some ⟨b,0+0*n,none⟩) s.l.length (cap-0)=_;simp
theorem Ny{a b:Nat}(h:a<=b):Nat.ble a b=true:=gl h
theorem U1(h:gB enc n O G s)(hu:T.jo t=some (.slice el))(hs:T.size el=some n)(e:i+l<=s.l.length)(o:p<=l):sT T O.get t (vw s.v n i l) none (some (.int .i64 (.ofNat p))) none=some (vw s.v n i p):=by
 rcases h.2.1 with⟨h1,D|⟨q,D⟩⟩|⟨b,cap,m,h1,D,h3,h4,u,j⟩
 · rw[h1]at e
   have hl:l=0:=by simp at e;omega
   have Es:p=0:=by omega
   subst hl Es
   rw[D]
   show sT T O.get t (.slice none 0 0) none (some (.int .i64 (.ofNat 0))) none=some (.slice none 0 0)
   simp only[sT,hu,hs,Option.bind_some];rfl
 · rw[h1]at e
   have hl:l=0:=by simp at e;omega
   have hi:i=0:=by simp at e;omega
   have Es:p=0:=by omega
   subst hl Es hi
   rw[D]
   show sT T O.get t (.slice (some ⟨q,0+0*n,none⟩) 0 (0-0)) none (some (.int .i64 (.ofNat 0))) none=some (.slice (some ⟨q,0+0*n,none⟩) 0 (0-0))
   have e0:Nat.ble 0 0=true:=rfl
   simp[sT,hu,hs,wB,xS,Jn,e0]
 · rw[h1]
   show sT T O.get t (.slice (some ⟨b,0+i*n,none⟩) l (cap-i)) none (some (.int .i64 (.ofNat p))) none=some (.slice (some ⟨b,0+i*n,none⟩) p (cap-i))
   have e1:Nat.ble l (cap-i)=true:=Ny (by omega)
   have e2:Nat.ble p (cap-i)=true:=Ny (by omega)
   have e3:Nat.ble 0 p=true:=Ny (by omega)
   simp[sT,hu,hs,e1,SI h4 j,wB,xS,Jn,e2]
theorem SJ(h:gB enc n O G s)(hu:T.jo t=some (.slice el))(hs:T.size el=some n)(b:p<=s.l.length):sT T O.get t s.v none (some (.int .i64 (.ofNat p))) none=some (vw s.v n 0 p):=by
 have:=U1 (i:=0) h hu hs (show 0+s.l.length<=s.l.length by omega) b
 rwa[YC h]at this
end
def HC(B G:Nat)(O e9:Ht):Prop:=∀c Z m,B<=c->c<G->O.get c=some (.cells Z m)->e9.get c=some (.cells Z m)
theorem HE.hc{B G:Nat}{O e9:Ht}(h:HE G O e9):HC B G O e9:=fun _ _ _ _ D h3=>h.get h3 D
def FD{α:Type}(B:Nat)(enc:α->List Value)(n:Nat)(O:Ht)(G:Nat)(s:SV α):Prop:=gB enc n O G s/\∀b l c,s.v=.slice (some ⟨b,0,none⟩) l c->0<c->B<=b
section
variable {α:Type}{enc:α->List Value}{n B B' gr:Nat}{O e9:Ht}{G e_:Nat}{s J:SV α}
theorem FD.mono(h:FD B enc n O G s)(hc:HC B G O e9)(hn:G<=e_):FD B enc n e9 e_ s:=by
 refine⟨⟨h.1.1,?_,h.1.2.2⟩,h.2⟩
 rcases h.1.2.1 with k|⟨b,cap,m,h1,D,h3,h4,e⟩
 · exact .inl k
 · exact .inr ⟨b,cap,m,h1,D,by omega,hc b _ _ (h.2 b _ _ h1 D) h3 h4,e⟩
theorem FD.le(h:FD B enc n O G s)(hb:B'<=B):FD B' enc n O G s:=⟨h.1,fun b l c e h0=>ff hb (h.2 b l c e h0)⟩
theorem FD.nil:FD B enc n O G ⟨.slice none 0 0,[]⟩:=⟨⟨(fun _ h=>by cases h),.inl ⟨rfl,.inl rfl⟩,by show(0:Nat)<_;decide⟩,(fun b l c e=>by cases e)⟩
def FE(enc:α->List Value)(n B:Nat)(O:Ht)(G:Nat)(J:SV α):Prop:=
 mD enc n B O G J\/(J.l=[]/\∃b,J.v=.slice (some ⟨b,0,none⟩) 0 0/\B<=b/\b<G/\O.get b=some (.cells [] gm.plain))
theorem FE.mono(h:FE enc n B O G J)(he:HE G O e9)(hn:G<=e_):FE enc n B e9 e_ J:=by
 rcases h with h|⟨h1,b,D,h3,h4,e⟩
 · exact .inl (h.mono he hn)
 · exact .inr ⟨h1,b,D,h3,by omega,he.get e h4⟩
theorem FE.ok(h:FE enc n B O G J)(he:∀x∈J.l,(enc x).length=n)(hs:J.l.length<281474976710656):gB enc n O G J:=by
 rcases h with h|⟨h1,b,D,_⟩
 · exact h.ok he hs
 · exact⟨he,.inl ⟨h1,.inr ⟨b,D⟩⟩,hs⟩
theorem FE.append{T:Ty}{st xt el:Nat}{x z:Value}{inf:TypeInfo}(j:List α)(h:FE enc n B O G J)(hlen:∀y∈J.l,(enc y).length=n)(hu:T.jo st=some (.slice el))(hs:T.size el=some n)(E:T.zero el=some z)(hi:T.kn el=some inf)
 (hx:pR T xt x=some (j.length,false)) (m:lU O.get (j.length*n) x=some (j.flatMap enc)) (o:uR n x=true) (S:∀y∈j,(enc y).length=n) (u:(j.flatMap enc).all one=true) (K:0<n)
 (b2:inf.bytes<=1024) (p:J.l.length+j.length<=1048576) (M:B<=G):
 ∃v' jJ k,jU T O.get st xt J.v x G=some (v',jJ,k)/\FE enc n B (jm jJ O) (G+k) ⟨v',J.l++j⟩/\HE B O (jm jJ O):=by
 have b1:(J.l.length+j.length)*inf.bytes<=70368744177664:=ff (Nat.mul_le_mul p b2) (by decide)
 rcases h with h|⟨h1,b,D,h3,h4,L⟩
 · obtain⟨v',jJ,k,W,X,q3⟩:=h.zh j hlen hu hs E hi hx m o S u K b1 (by omega) (by omega) M
   exact⟨v',jJ,k,W,.inl X,q3⟩
 · rw[h1]at b1 p
   have b1:(0+j.length)*inf.bytes<=70368744177664:=b1
   have p:0+j.length<=70368744177664:=by simp at p;omega
   rcases gp j.length with hm|hm
   · obtain rfl:=List.eq_nil_of_length_eq_zero hm
     have R:pR T xt x=some (0,false):=hx
     have A:lU O.get (0*n) x=some []:=m
     have F:(0+0)*inf.bytes<=70368744177664:=by simp
     refine⟨.slice (some ⟨b,0,none⟩) 0 0,[],0,?_,.inr ⟨by rw[h1];rfl,b,rfl,h3,h4,L⟩,HE.refl _ _⟩
     rw[D]
     simp only[jU,hu,hs,E,hi,R,mg,cond_false,o,cond_true,A,Option.bind_some,List.all_nil,Nat.ble_eq_true_of_le F,Nat.ble_eq_true_of_le (show inf.bytes<=1073741824 by omega),Nat.ble_eq_true_of_le (show 0+0<=70368744177664 by omega),Bool.and_true,Nat.ble_eq_true_of_le (show 0+0<=0 by omega)]
   · have C:Nat.ble (0+j.length) 0=false:=by
      cases hb:Nat.ble (0+j.length) 0 with
      |false=>rfl
      |true=>have:=fk hb;omega
     have e1:jU T O.get st xt (.slice (some ⟨b,0,none⟩) 0 0) x G=pZ O.get (some ⟨b,0,none⟩) 0 n (j.flatMap enc) j.length G:=by
      simp only[jU,hu,hs,E,hi,hx,mg,cond_false,o,cond_true,m,Option.bind_some,u,Nat.ble_eq_true_of_le b1,Nat.ble_eq_true_of_le (show inf.bytes<=1073741824 by omega),Nat.ble_eq_true_of_le p,Bool.and_true,C]
     have e2:pZ O.get (some ⟨b,0,none⟩) 0 n (j.flatMap enc) j.length G=some (.slice (some ⟨G+1,0,none⟩) (0+j.length) (0+j.length),
      [(G,some (jT.group [⟨G+1,0,(j.flatMap enc).length⟩])),(G+1,some (jT.cells (j.flatMap enc) ⟨false,some G,0,n⟩))],2):=by
      simp only[tJ,L,Nat.zero_mul,y4,Option.bind_some,List.nil_append];rfl
     rw[D]
     refine⟨_,_,_,e1.trans e2,.inl (.inr ⟨by rw[h1];simpa using hm,G+1,G,by rw[h1];simp,?_,⟨[⟨G+1,0,_⟩],(Tr.gG _ _ (by omega)).trans (Tr.ig ..),fun e he=>?_⟩,by omega,by omega,by omega,M⟩),fun c hc=>?_⟩
     · rw[h1];exact Tr.ig ..
     · rw[List.mem_singleton.1 he,h1]
       refine⟨by simp,by show B<=G+1;omega,by show G+1<_;omega,by show G+1≠G;omega,fun l N=>?_⟩
       have:=N.symm.trans (Tr.ig ..)
       cases this
     · exact(Tr.gG _ _ (by omega)).trans (Tr.gG _ _ (by omega))
theorem mh.hc{C:Nat}(h:mh enc n B gr O G J)(he:∀c,c<G->(J.l≠[]->c≠gr)->e9.get c=O.get c):HC C G O e9:=by
 intro c Z m _ hc hg
 refine(he c hc fun hj k=>?_).trans hg
 rcases h with h|⟨_,_,_,_,_,h4,_⟩
 · exact hj h.1
 · rw[k,h4]at hg;cases hg
end
section
variable {e:Env}{fm:Fm}{I:Tm}{ds:List Deferred}{O:Ht}{G:Nat}{gX:List Nat}{Q:St->Prop}{all:List Oper}{d:Tmp}{ty:TypeId}{pos:String}{j7:Array Edge}
end
inductive YD{α β:Type}(nA:α->ByteArray)(nB:β->ByteArray)(A:List α)(B:List β):Nat->Nat->Nat->Nat->Prop
 |left {i k:Nat} (x:α) (hx:A[i]?=some x) (h:∀y,B[k]?=some y->Z7 (nA x) (nB y)):YD nA nB A B i k 1 0
 |right {i k:Nat} (y:β) (hy:B[k]?=some y) (h:∀x,A[i]?=some x->Z7 (nB y) (nA x)):YD nA nB A B i k 0 1
 |both {i k:Nat} (x:α) (y:β) (hx:A[i]?=some x) (hy:B[k]?=some y) (h:nA x=nB y):YD nA nB A B i k 1 1
end
end Sw
namespace Sw
noncomputable section
open Go Go.Proofs Go.RowKit
set_option maxRecDepth 100000
set_option maxHeartbeats 1600000
theorem SK(K:SV Int)(l:Nat)(n:Int)(O:Ht)(G:Nat)(hK:gB encI 1 O G K)(hl:l<=K.l.length)(a:Option Addr)(c:Nat)(A:K.v=.slice a K.l.length c)(S:lx 8 (.slice a l c) (.slice a l c)=true):WF ex 103 [.slice a (l) c,Y n] O G (fL G O (qf (K.l.take l) (fun x=>n=x))):=by
 refine wd Tryz.f103 19 [.tmp 4] fun hE=>?_
 have J:=hK.2.2
 refine sr<|oN 1<|WP.seq<|sr<|oN 3<|WP.block ?_
 refine mu [0,1,7,8] (fun m hs ns vs=>∃(b:Nat),b+m=l/\vs=[.slice a (l) c,Y n,Y (.ofNat (l)),Y (.ofNat b)]/\G<=ns/\HE (G) O hs/\(∀(j:Nat) (y:Int),j<b->(K.l.take l)[j]?=some y->¬n=y)) ?_ (l) ?_
 ·
  rintro W R X _ ⟨b,F,rfl,Nh,pP,hinv⟩ L
  have p:=hE.trans pP
  refine sr ?_
  refine oq 9 (kT b l) fun M B=>WO.nil<|WP.seq<|cq B (fun E=>?_) (fun E=>?_)
  ·
   refine WP.skip<|WP.seq<|WP.block<|sr<|oN 2<|sr<|oX 3 ?_
   have e:b<l:=by omega
   refine WO.cons (WC.ix (k:=.i64) a (l) c (b) 1 U U lP kH ((hK.mono p nR).BA A (fb (zl e) hl)) (e) ?_)
   obtain⟨z,o⟩:=gE (fb e hl)
   refine WO.cons (WC.lz (Y z) A (hK.mono p nR) o rfl fy ?_)
   refine oq 16 (sZ n z) fun N C=>WO.nil<|cq C (fun u=>?_) (fun u=>?_)
   ·
    refine sr<|oW 2 ⟨rfl,rfl,[Y (.ofNat b)],U,?_⟩
    exact⟨.inr ⟨b,z,rfl,(by rw[List.getElem?_take_of_lt om];exact o),u,hinv⟩,od,p⟩
   ·
    refine WP.skip<|WP.region<|ov 18 (Y (.ofNat (b+1))) ?_ (fun _ _ _=>by rw[<-gQ (show b+1<9223372036854775808 by omega)];kernel_rfl)
    refine oN 1<|⟨l-(b+1),om,rfl,rfl,b+1,om,U,?_,?_,?_⟩
    · exact Nh
    · exact pP
    · intro j y hj hy;rcases fE.1 hj with hj|rfl;exact hinv j y hj hy;rw[List.getElem?_take_of_lt om,o]at hy;cases hy;exact u
  ·
   refine WP.exit<|sr<|oW 1 ⟨rfl,rfl,[Y (-1)],U,?_⟩
   refine⟨.inl ⟨rfl,fun y hy=>?_⟩,od,p⟩
   obtain⟨j,hj⟩:=fS hy
   exact hinv j y (by have:=(fp.1 hj).1;rw[List.length_take]at this;omega) hj
 ·
  exact⟨0,om,U,fg _,HE.refl _ _,(fun j y h=>absurd h (fK _))⟩
end
end Sw
namespace Sw
noncomputable section
open Go Go.Proofs Go.RowKit
set_option maxRecDepth 100000
set_option maxHeartbeats 1600000
inductive kd where
 |cond (c:RCond)
 |step (s:RStep)
instance :Inhabited kd:=⟨.cond default⟩
def fv:kd->Value
 |.cond c=>.iface 553 (.agg (iw c).toArray)
 |.step s=>.iface 469 (.agg (jG s).toArray)
def mw(x:kd):List Value:=[fv x]
def my(O:Ht)(G:Nat):kd->Prop
 |.cond c=>lM O G c
 |.step s=>j_ O G s
theorem my.mono{O e9:Ht}{G e_:Nat}{x:kd}(h:my O G x)(he:HE G O e9)(hn:G<=e_:=by omega):my e9 e_ x:=by
 cases x with
 |cond c=>exact lM.mono h he hn
 |step s=>exact j_.mono h he hn
theorem YE(x:kd):one (fv x)=true:=by cases x<;>rfl
def yb:kd->Nat
 |.cond c=>sizeOf c
 |.step s=>sizeOf s
def re:kd->Prop
 |.cond c=>ml c
 |.step s=>pN s
def qN:kd->List kd
 |.cond c=>c.fY.l.map .cond
 |.step s=>s.mj.l.map .step++s.nU.l.map .step
theorem rN{O:Ht}{G:Nat}{f:kd}(h:my O G f):∀x∈qN f,my O G x:=by
 intro x hx
 cases f with
 |cond c=>
  obtain⟨y,hy,rfl⟩:=fU.1 hx
  exact(lM.fY h).2 y hy
 |step s=>
  rcases fR.1 hx with hx|hx
  · obtain⟨y,hy,rfl⟩:=List.mem_map.1 hx
    exact(j_.mj h).2 y hy
  · obtain⟨y,hy,rfl⟩:=List.mem_map.1 hx
    exact(j_.nU h).2 y hy
theorem we{f x:kd}(hx:x∈qN f):yb x<yb f:=by
 cases f with
 |cond c=>
  obtain⟨y,hy,rfl⟩:=fU.1 hx
  exact RCond.C5 hy
 |step s=>
  rcases fR.1 hx with hx|hx
  · obtain⟨y,hy,rfl⟩:=List.mem_map.1 hx
    exact RStep.PF hy
  · obtain⟨y,hy,rfl⟩:=List.mem_map.1 hx
    exact RStep.PG hy
theorem qA{O:Ht}{G:Nat}{f:kd}(h:my O G f):(qN f).length<=2932031007403:=by
 cases f with
 |cond c=>have:=lM.len h;simp only[qN,List.length_map];omega
 |step s=>have:=j_.len h;simp only[qN,List.length_map,List.length_append];omega
theorem pV:ex.T.agg 106=some false:=U
theorem zr:ex.T.agg 107=some false:=U
theorem s7:ex.T.agg 147=some false:=U
theorem xM:ex.T.agg 149=some true:=U
theorem wP:ex.T.agg 22=some false:=U
theorem Di:ex.T.agg 23=some false:=U
theorem r6:ex.T.agg 24=some false:=U
theorem Ge:ex.T.agg 25=some false:=U
theorem Gf:ex.T.agg 26=some false:=U
theorem Dj:ex.T.agg 27=some false:=U
theorem Gg:ex.T.agg 28=some false:=U
theorem vu:ex.T.agg 29=some false:=U
theorem Nz:ex.T.agg 9=some false:=U
theorem oz:ex.T.size 109=some 5:=U
theorem rO:ex.T.size 144=some 3:=U
theorem sK:ex.T.size 149=some 4:=U
theorem uM:ex.T.size 151=some 8:=U
theorem zt:ex.T.jo 106=some (.slice 144):=U
theorem NA:ex.T.jo 147=some (.slice 149):=U
theorem wQ:ex.T.jo 24=some (.slice 109):=U
theorem Dk:ex.T.jo 29=some (.slice 151):=U
theorem Xh(c:RCond)(O:Ht)(G:Nat)(hc:lM O G c):WF ex 104 [.agg (iw c).toArray] O G (fL G O (gi (nV c))):=by
 refine wd Tryz.f104 22 [.tmp 2] fun hE=>sr<|oB (.agg (iw c).toArray) (iw c) fun jy iI ia=>?_
 refine oN 1<|sr<|oX 1<|oZ G 0 (Y c.jk) fy ia rfl ?_
 obtain⟨m,C,E⟩:=sZ c.jk 0
 refine ob 5 C<|oX 1<|gT 6 m (pt G (0+1))<|lG 6 m G (0+1) (Y c.se) fy ia rfl ?_
 refine qH 6 m (sZ c.se 0) fun L F=>?_
 refine nh 10 (nA E F) fun e u=>oX 1<|gT 11 e (pt G (0+2))<|lG 11 e G (0+2) (Y c.fN) fy ia rfl ?_
 refine qH 11 e (sZ c.fN 0) fun J y=>?_
 refine nh 15 (nA u y) fun nZ rZ=>oX 1<|gT 16 nZ (pt G (0+3)) ?_
 obtain⟨p,De,o⟩:=hc.fY.1.shape
 have B:=hc.fY.1.2.2
 refine lG 16 nZ G (0+3) (.slice p (c.fY.l.length) De) s7 ia (by rw[<-o];rfl)<|gT 16 nZ (Y (.ofNat (c.fY.l.length))) ?_
 refine qH 16 nZ (vY c.fY.l.length 0) fun K z=>?_
 refine nh 21 (nA rZ z) fun j A=>oW 1 ⟨rfl,rfl,[.bool j],U,?_⟩
 refine⟨⟨j,rfl,?_⟩,od,(hE.trans iI)⟩
 exact A.trans ⟨fun⟨⟨⟨a,b⟩,c⟩,d⟩=>⟨a,b,c,fZ om⟩,fun⟨a,b,c,d⟩=>⟨⟨⟨a,b⟩,c⟩,by rw[d];rfl⟩⟩
theorem I0(k:Nat)(ih:∀(c:RCond) (d:Int) (O:Ht) (G:Nat),sizeOf c<k->lM O G c->WF ex 105 [.agg (iw c).toArray,Y d] O G (fL G O An))(c:RCond)(d:Int)(O:Ht)(G:Nat)(hk:sizeOf c<k+1)(hc:lM O G c):WF ex 105 [.agg (iw c).toArray,Y d] O G (fL G O An):=by
 refine wd Tryz.f105 31 [.tmp 4] fun hE=>sr<|oB (.agg (iw c).toArray) (iw c) fun jy iI ia=>?_
 have lq:=hE.trans iI
 refine oN 1<|WP.seq<|sr<|oX 1 ?_
 refine oq 8 (mE 16 d) fun ae aa=>WO.nil<|cq aa (fun M=>?_) (fun M=>?_)
 ·
  refine sr<|oW 1 ⟨rfl,rfl,[Y 1000],U,?_⟩
  exact⟨⟨_,rfl⟩,od,lq⟩
 ·
  refine WP.skip<|sr<|oN 1<|WP.seq<|sr<|oN 1<|WP.block ?_
  refine mu [1,2,5,6] (fun m hs ns vs=>∃(hR:Nat) (u:Int),hR+m=c.fY.l.length/\vs=[Y d,pt G 0,Y u,Y (.ofNat hR)]/\G+1<=ns/\HE (G+1) jy hs) ?_ (c.fY.l.length) ?_
  ·
   rintro Fx E F _ ⟨hR,u,N,rfl,C,j⟩ Cb
   have e:=lq.trans j
   have y:=j.get ia
   refine WP.seq<|sr<|oX 2 ?_
   obtain⟨a22,Fv,b⟩:=hc.fY.1.shape
   have R:=hc.fY.1.2.2
   refine oZ G (0+3) (.slice a22 (c.fY.l.length) Fv) s7 y (by rw[<-b];rfl)<|oX 1 ?_
   refine oq 13 (kT hR c.fY.l.length) fun A J=>oX 1<|gT 14 A (Y u) ?_
   refine qH 14 A (pS u 256) fun ab K=>?_
   refine nh 17 (nA J K) fun ad L=>WO.nil<|cq L (fun wZ=>?_) (fun wZ=>?_)
   ·
    refine WP.skip<|WP.seq<|WP.block<|WP.region<|oX 2<|oZ G (0+3) (.slice a22 (c.fY.l.length) Fv) s7 y (by rw[<-b];rfl)<|oX 1 ?_
    have p:hR<c.fY.l.length:=by omega
    refine WO.cons (WC.iy b hc.fY.1 (hR) NA sK (p) ?_)
    obtain⟨z,o⟩:=gE p
    refine WO.cons (WC.ly b (hc.fY.1.mono e nR) o xM sK<|oX 2<|WO.cons (WC.call 28 105 ([.agg (iw z).toArray,Y (gy .i64 ((d)+(1)))]) kf ((ih z (gy .i64 ((d)+(1))) E (F) (by have:=RCond.C5 (fa o);omega) ((hc.fY.2 z (fa o)).mono e)).mono ?_)))
    rintro _ W X ⟨⟨z37,rfl⟩,S,B⟩
    refine oN 2<|WP.region<|oX 1<|ov 19 (Y (.ofNat (hR+1))) ?_ (fun _ _ _=>by rw[<-gQ (show hR+1<9223372036854775808 by omega)];kernel_rfl)
    refine oN 1<|⟨c.fY.l.length-(hR+1),om,rfl,rfl,hR+1,gy .i64 ((u)+(z37)),om,U,?_,?_⟩
    · exact od
    · exact(j.trans B C)
   ·
    refine WP.exit<|sr<|oW 2 ⟨rfl,rfl,[Y u],U,?_⟩
    exact⟨⟨_,rfl⟩,od,e⟩
  ·
   exact⟨0,1,om,U,fg _,HE.refl _ _⟩
theorem Lw(c:RCond)(d:Int)(O:Ht)(G:Nat)(hc:lM O G c):WF ex 105 [.agg (iw c).toArray,Y d] O G (fL G O An):=by
 have h:∀(k:Nat) (c:RCond) (d:Int) (O:Ht) (G:Nat),sizeOf c<k->lM O G c->WF ex 105 [.agg (iw c).toArray,Y d] O G (fL G O An):=by
  intro k
  induction k with
  |zero=>intro _ _ _ _ h;exact absurd h (fK _)
  |succ k ih=>intro c d O G hk hc;exact I0 k ih c d O G hk hc
 exact h _ c d O G (fo _) hc
theorem SL(k:Nat)(ih:∀j,j<k->∀(l:SV RStep) (d:Int) (O:Ht) (G:Nat),(∀s∈l.l,sizeOf s<j)->jC jG 8 (fun O G y=>j_ O G y) O G l->WF ex 54 [l.v,Y d] O G (fL G O (fun v=>∃a b:Int,v=.tuple ⟨[Y a,Y b]⟩)))(l:SV RStep)(d:Int)(O:Ht)(G:Nat)(hk:∀s∈l.l,sizeOf s<k)(hl:jC jG 8 (fun O G y=>j_ O G y) O G l):WF ex 54 [l.v,Y d] O G (fL G O (fun v=>∃a b:Int,v=.tuple ⟨[Y a,Y b]⟩)):=by
 obtain⟨a1,c2,h_⟩:=hl.1.shape
 have mc:=hl.1.2.2
 rw[h_]
 refine wd Tryz.f54 84 [.tmp 4,.tmp 5] fun hE=>sr<|oN 2<|WP.seq<|sr<|oX 2 ?_
 refine oq 15 (nQ 0 l.l.length) fun c4 p4=>oX 1<|gT 16 c4 (Y d) ?_
 refine qH 16 c4 (mE 16 d) fun aQ aH=>?_
 refine nh 19 (nA p4 aH) fun aR aI=>WO.nil<|cq aI (fun aJ=>?_) (fun aJ=>?_)
 ·
  refine sr<|oW 2 ⟨rfl,rfl,[Y 1000,Y 1000],U,?_⟩
  exact⟨⟨_,_,rfl⟩,nR,hE⟩
 ·
  refine WP.skip<|sr<|oN 1<|sr<|oN 1<|WP.seq<|sr<|oN 1<|WP.block ?_
  refine mu [0,1,6,7,8] (fun m hs ns vs=>∃(e:Nat) (n6:Int) (n7:Int),e+m=l.l.length/\vs=[.slice a1 (l.l.length) c2,Y d,Y n6,Y n7,Y (.ofNat e)]/\G<=ns/\HE (G) O hs) ?_ (l.l.length) ?_
  ·
   rintro aP zq vE _ ⟨e,n6,n7,ay,rfl,ad,J⟩ aK
   have xb:=hE.trans J
   refine WP.seq<|sr<|oX 3 ?_
   refine oq 23 (kT e l.l.length) fun aa an=>oX 1<|gT 24 aa (Y n6) ?_
   refine qH 24 aa (pS n6 64) fun aL ao=>?_
   refine nh 27 (nA an ao) fun yI FA=>oX 1<|gT 28 yI (Y n7) ?_
   refine qH 28 yI (pS n7 256) fun sJ v_=>?_
   refine nh 31 (nA FA v_) fun aM aq=>WO.nil<|cq aq (fun av=>?_) (fun av=>?_)
   ·
    refine WP.skip<|WP.seq<|WP.block<|sr<|oX 2 ?_
    have A:e<l.l.length:=by omega
    refine WO.cons (WC.iy h_ hl.1 (e) Dk uM (A)<|oX 1 ?_)
    obtain⟨o,p⟩:=gE A
    obtain⟨a28,ak,R⟩:=(hl.2 o (fa p)).mj.1.shape
    have az:=(hl.2 o (fa p)).mj.1.2.2
    refine WO.cons (WC.sv (ga a1) (0+(e)*8+6) (.slice a28 (o.mj.l.length) ak) U vu ((hl.1.mono xb nR).pw h_ (zl A)) (nE (hl.1.mono xb nR).1 p (by decide) (by rw[<-R];rfl))<|oX 2<|WO.cons (WC.call 42 54 ([o.mj.v,Y (gy .i64 ((d)+(1)))]) (fun _ _ _=>by(try rw[R]);kernel_rfl) ((ih _ (hk _ (fa p)) o.mj (gy .i64 ((d)+(1))) zq (vE) (fun s hs=>RStep.PF hs) ((hl.2 o (fa p)).mj.mono (fun _ h he hn=>h.mono he hn) xb)).mono ?_)))
    rintro _ wa ag ⟨⟨a35,W,rfl⟩,aB,K⟩
    have u:=xb.trans K
    refine oN 5<|sr<|oX 2 ?_
    have C:e<l.l.length:=by omega
    refine WO.cons (WC.iy h_ hl.1 (e) Dk uM (C)<|oX 1 ?_)
    obtain⟨aj,al,S⟩:=(hl.2 o (fa p)).nU.1.shape
    have aA:=(hl.2 o (fa p)).nU.1.2.2
    refine WO.cons (WC.sv (ga a1) (0+(e)*8+7) (.slice aj (o.nU.l.length) al) U vu ((hl.1.mono u nR).pw h_ (zl C)) (nE (hl.1.mono u nR).1 p (by decide) (by rw[<-S];rfl))<|oX 2<|WO.cons (WC.call 53 54 ([o.nU.v,Y (gy .i64 ((d)+(1)))]) (fun _ _ _=>by(try rw[S]);kernel_rfl) ((ih _ (hk _ (fa p)) o.nU (gy .i64 ((d)+(1))) wa (ag) (fun s hs=>RStep.PG hs) ((hl.2 o (fa p)).nU.mono (fun _ h he hn=>h.mono he hn) u)).mono ?_)))
    rintro _ ae ah ⟨⟨a49,X,rfl⟩,aC,L⟩
    have z:=u.trans L
    refine oN 5<|sr<|oN 7<|sr<|oN 6<|sr<|oX 2 ?_
    have E:e<l.l.length:=by omega
    refine WO.cons (WC.iy h_ hl.1 (e) Dk uM (E)<|oX 1<|WO.cons (WC.Fq (ga a1) (0+(e)*8+2) (iw o.je) U xM sK ((hl.1.mono z nR).pw h_ (zl E)) (M5 (hl.1.mono z nR).1 p (by decide) rfl)<|WO.cons (WC.call 72 104 ([.agg (iw o.je).toArray]) kf ((Xh o.je ae (ah) ((hl.2 o (fa p)).je.mono z)).mono ?_))))
    rintro _ af ai ⟨⟨aN,rfl,ar⟩,aD,M⟩
    have B:=z.trans M
    have N:=((J.trans K ad).trans L).trans M
    refine oq 73 (nN ar) fun aO au=>WO.nil<|cq au (fun aw=>?_) (fun aw=>?_)
    ·
     refine WP.region<|oX 3 ?_
     have F:e<l.l.length:=by omega
     refine WO.cons (WC.iy h_ hl.1 (e) Dk uM (F)<|oX 1<|WO.cons (WC.Fq (ga a1) (0+(e)*8+2) (iw o.je) U xM sK ((hl.1.mono B nR).pw h_ (zl F)) (M5 (hl.1.mono B nR).1 p (by decide) rfl)<|WO.cons (WC.call 80 105 ([.agg (iw o.je).toArray,Y 0]) kf ((Lw o.je (0) af (ai) ((hl.2 o (fa p)).je.mono B)).mono ?_))))
     rintro _ aF aG ⟨⟨ax,rfl⟩,aE,ab⟩
     refine oN 2<|WP.region<|oX 1<|ov 33 (Y (.ofNat (e+1))) ?_ (fun _ _ _=>by rw[<-gQ (show e+1<9223372036854775808 by omega)];kernel_rfl)
     refine oN 1<|⟨l.l.length-(e+1),om,rfl,rfl,e+1,gy .i64 ((gy .i64 ((gy .i64 ((n6)+(1)))+(a35)))+(a49)),gy .i64 ((gy .i64 ((gy .i64 ((n7)+(W)))+(X)))+(ax)),om,U,?_,?_⟩
     · exact od
     · exact(N.trans ab)
    ·
     refine WP.skip<|WP.region<|oX 1<|ov 33 (Y (.ofNat (e+1))) ?_ (fun _ _ _=>by rw[<-gQ (show e+1<9223372036854775808 by omega)];kernel_rfl)
     refine oN 1<|⟨l.l.length-(e+1),om,rfl,rfl,e+1,gy .i64 ((gy .i64 ((gy .i64 ((n6)+(1)))+(a35)))+(a49)),gy .i64 ((gy .i64 ((n7)+(W)))+(X)),om,U,?_,?_⟩
     · exact od
     · exact N
   ·
    refine WP.exit<|sr<|oW 4 ⟨rfl,rfl,[Y n6,Y n7],U,?_⟩
    exact⟨⟨_,_,rfl⟩,od,xb⟩
  ·
   exact⟨0,0,0,om,U,fg _,HE.refl _ _⟩
theorem SM(l:List RStep):∀s∈l,sizeOf s<sizeOf l:=fun _ h=>List.sizeOf_lt_of_mem h
theorem Xi(l:SV RStep)(d:Int)(O:Ht)(G:Nat)(hl:jC jG 8 (fun O G y=>j_ O G y) O G l):WF ex 54 [l.v,Y d] O G (fL G O (fun v=>∃a b:Int,v=.tuple ⟨[Y a,Y b]⟩)):=by
 have h:∀(k:Nat),∀(l:SV RStep) (d:Int) (O:Ht) (G:Nat),(∀s∈l.l,sizeOf s<k)->jC jG 8 (fun O G y=>j_ O G y) O G l->WF ex 54 [l.v,Y d] O G (fL G O (fun v=>∃a b:Int,v=.tuple ⟨[Y a,Y b]⟩)):=by
  intro k
  induction k using Nat.strongRecOn with
  |_ k ih=>intro l d O G hk hl;exact SL k ih l d O G hk hl
 exact h _ l d O G (SM _) hl
theorem U2(l:SV RStep)(O:Ht)(G:Nat)(hl:jC jG 8 (fun O G y=>j_ O G y) O G l):WF ex 23 [l.v] O G (fL G O Yg):=by
 obtain⟨a1,c2,h_⟩:=hl.1.shape
 have mc:=hl.1.2.2
 rw[h_]
 refine wd Tryz.f23 21 [.tmp 2] fun hE=>sr<|oN 1<|sr<|oX 1<|WO.cons (WC.call 7 54 ([l.v,Y 0]) (fun _ _ _=>by(try rw[h_]);kernel_rfl) ((Xi l (0) O (G) (hl.mono (fun _ h he hn=>h.mono he hn) hE)).mono ?_))
 rintro _ Ev IQ ⟨⟨b,e,rfl⟩,Nh,pP⟩
 refine oN 5<|sr<|oX 2 ?_
 refine oq 12 (Hv l.l.length 20) fun nZ rZ=>oX 1<|gT 13 nZ (Y b) ?_
 obtain⟨nI,m,rY⟩:=pS b 80
 refine Sf 13 nZ m ?_
 obtain⟨De,o,BO⟩:=nA rZ rY
 refine pA 16 o<|oX 1<|gT 17 De (Y e) ?_
 obtain⟨r5,p,vh⟩:=pS e 300
 refine Sf 17 De p ?_
 refine nh 20 (nA BO vh) fun j u=>oW 1 ⟨rfl,rfl,[.bool j],U,?_⟩
 exact⟨⟨_,rfl,fun _=>trivial⟩,od,(hE.trans pP)⟩
theorem NB(k:Nat)(ih:∀j,j<k->∀(l:SV RPart) (O:Ht) (G:Nat),(∀s∈l.l,sizeOf s<j)->jC jQ 3 (fun O G y=>kV O G y) O G l->WF ex 21 [l.v] O G (fL G O An))(l:SV RPart)(O:Ht)(G:Nat)(hk:∀s∈l.l,sizeOf s<k)(hl:jC jQ 3 (fun O G y=>kV O G y) O G l):WF ex 21 [l.v] O G (fL G O An):=by
 obtain⟨a1,c2,h_⟩:=hl.1.shape
 have mc:=hl.1.2.2
 rw[h_]
 refine wd Tryz.f21 27 [.tmp 2] fun hE=>sr<|oN 1<|sr<|oN 3<|WP.seq<|sr<|oN 1<|WP.block ?_
 refine mu [0,3,4] (fun m hs ns vs=>∃(fW:Nat) (p:Int),fW+m=l.l.length/\vs=[.slice a1 (l.l.length) c2,Y p,Y (.ofNat fW)]/\G<=ns/\HE (G) O hs) ?_ (l.l.length) ?_
 ·
  rintro ya ql jd _ ⟨fW,p,uz,rfl,oR,jt⟩ uA
  have j9:=hE.trans jt
  refine WP.seq<|sr<|oX 3 ?_
  obtain⟨nI,B,rY⟩:=kT fW l.l.length
  refine ob 10 B<|oX 1<|gT 11 nI (Y p) ?_
  obtain⟨De,C,BO⟩:=pS p 256
  refine Sf 11 nI C ?_
  obtain⟨r5,E,vh⟩:=nA rY BO
  refine pA 14 E<|WO.nil<|cq vh (fun F=>?_) (fun F=>?_)
  ·
   refine WP.skip<|WP.seq<|WP.block<|WP.region<|oX 3 ?_
   have o:fW<l.l.length:=by omega
   refine WO.cons (WC.iy h_ hl.1 (fW) zt rO (o)<|oX 1 ?_)
   obtain⟨e,b⟩:=gE o
   obtain⟨a21,A,u⟩:=(hl.2 e (fa b)).fY.1.shape
   have J:=(hl.2 e (fa b)).fY.1.2.2
   refine WO.cons (WC.sv (ga a1) (0+(fW)*3+2) (.slice a21 (e.fY.l.length) A) U pV ((hl.1.mono j9 nR).pw h_ (zl o)) (nE (hl.1.mono j9 nR).1 b (by decide) (by rw[<-u];rfl))<|WO.cons (WC.call 23 21 ([e.fY.v]) (fun _ _ _=>by(try rw[u]);kernel_rfl) ((ih _ (hk _ (fa b)) e.fY ql (jd) (fun s hs=>RPart.C5 hs) ((hl.2 e (fa b)).fY.mono (fun _ h he hn=>h.mono he hn) j9)).mono ?_)))
   rintro _ L M ⟨⟨z28,rfl⟩,K,z⟩
   refine oN 2<|WP.region<|oX 1<|ov 16 (Y (.ofNat (fW+1))) ?_ (fun _ _ _=>by rw[<-gQ (show fW+1<9223372036854775808 by omega)];kernel_rfl)
   refine oN 1<|⟨l.l.length-(fW+1),om,rfl,rfl,fW+1,gy .i64 ((p)+(z28)),om,U,?_,?_⟩
   · exact od
   · exact(jt.trans z oR)
  ·
   refine WP.exit<|sr<|oW 3 ⟨rfl,rfl,[Y ((bif rU (257) (p)then(257)else(p)))],U,?_⟩
   exact⟨⟨_,rfl⟩,od,j9⟩
 ·
  exact⟨0,(.ofNat (l.l.length)),om,U,fg _,HE.refl _ _⟩
theorem Q8(l:SV RPart)(O:Ht)(G:Nat)(hl:jC jQ 3 (fun O G y=>kV O G y) O G l):WF ex 21 [l.v] O G (fL G O An):=by
 have h:∀(k:Nat),∀(l:SV RPart) (O:Ht) (G:Nat),(∀s∈l.l,sizeOf s<k)->jC jQ 3 (fun O G y=>kV O G y) O G l->WF ex 21 [l.v] O G (fL G O An):=by
  intro k
  induction k using Nat.strongRecOn with
  |_ k ih=>intro l O G hk hl;exact NB k ih l O G hk hl
 exact h _ l O G (fun _ h=>List.sizeOf_lt_of_mem h) hl
theorem NC(k:Nat)(ih:∀j,j<k->∀(l:SV RPart) (d:Int) (O:Ht) (G:Nat),(∀s∈l.l,sizeOf s<j)->jC jQ 3 (fun O G y=>kV O G y) O G l->WF ex 22 [l.v,Y d] O G (fL G O An))(l:SV RPart)(d:Int)(O:Ht)(G:Nat)(hk:∀s∈l.l,sizeOf s<k)(hl:jC jQ 3 (fun O G y=>kV O G y) O G l):WF ex 22 [l.v,Y d] O G (fL G O An):=by
 obtain⟨a1,c2,h_⟩:=hl.1.shape
 have mc:=hl.1.2.2
 rw[h_]
 refine wd Tryz.f22 36 [.tmp 4] fun hE=>sr<|oN 1<|sr<|oN 1<|WP.seq<|sr<|oN 1<|WP.block ?_
 refine mu [0,1,5,6] (fun m hs ns vs=>∃(fW:Nat) (u:Int),fW+m=l.l.length/\vs=[.slice a1 (l.l.length) c2,Y d,Y u,Y (.ofNat fW)]/\G<=ns/\HE (G) O hs) ?_ (l.l.length) ?_
 ·
  rintro ya ql jd _ ⟨fW,u,uz,rfl,oR,jt⟩ uA
  have j9:=hE.trans jt
  refine WP.seq<|sr<|oX 3 ?_
  refine oq 10 (kT fW l.l.length) fun nI rY=>oX 1<|gT 11 nI (Y d) ?_
  refine qH 11 nI (mE 0 d) fun De BO=>?_
  refine nh 14 (nA rY BO) fun r5 vh=>WO.nil<|cq vh (fun B=>?_) (fun B=>?_)
  ·
   refine WP.skip<|WP.seq<|WP.block<|sr<|oX 2 ?_
   have o:fW<l.l.length:=by omega
   refine WO.cons (WC.iy h_ hl.1 (fW) zt rO (o)<|oX 1 ?_)
   obtain⟨e,b⟩:=gE o
   obtain⟨a21,z,p⟩:=(hl.2 e (fa b)).fY.1.shape
   have C:=(hl.2 e (fa b)).fY.1.2.2
   refine WO.cons (WC.sv (ga a1) (0+(fW)*3+2) (.slice a21 (e.fY.l.length) z) U pV ((hl.1.mono j9 nR).pw h_ (zl o)) (nE (hl.1.mono j9 nR).1 b (by decide) (by rw[<-p];rfl))<|oX 1 ?_)
   refine oq 23 (M8 e.fY.l.length 0) fun uL uC=>WO.nil<|cq uC (fun yH=>?_) (fun yH=>?_)
   ·
    refine WP.region<|oX 3 ?_
    have r7:fW<l.l.length:=by omega
    refine WO.cons (WC.iy h_ hl.1 (fW) zt rO (r7)<|oX 1<|WO.cons (WC.sv (ga a1) (0+(fW)*3+2) (.slice a21 (e.fY.l.length) z) U pV ((hl.1.mono j9 nR).pw h_ (zl r7)) (nE (hl.1.mono j9 nR).1 b (by decide) (by rw[<-p];rfl))<|oX 2<|WO.cons (WC.call 32 22 ([e.fY.v,Y (gy .i64 ((d)-(1)))]) (fun _ _ _=>by(try rw[p]);kernel_rfl) ((ih _ (hk _ (fa b)) e.fY (gy .i64 ((d)-(1))) ql (jd) (fun s hs=>RPart.C5 hs) ((hl.2 e (fa b)).fY.mono (fun _ h he hn=>h.mono he hn) j9)).mono ?_))))
    rintro _ F J ⟨⟨z32,rfl⟩,E,A⟩
    refine oN 3<|WP.region<|oX 1<|ov 16 (Y (.ofNat (fW+1))) ?_ (fun _ _ _=>by rw[<-gQ (show fW+1<9223372036854775808 by omega)];kernel_rfl)
    refine oN 1<|⟨l.l.length-(fW+1),om,rfl,rfl,fW+1,(bif rU (u) (gy .i64 ((1)+(z32)))then(gy .i64 ((1)+(z32)))else(u)),om,U,?_,?_⟩
    · exact od
    · exact(jt.trans A oR)
   ·
    refine WP.skip<|WP.region<|oX 1<|ov 16 (Y (.ofNat (fW+1))) ?_ (fun _ _ _=>by rw[<-gQ (show fW+1<9223372036854775808 by omega)];kernel_rfl)
    refine oN 1<|⟨l.l.length-(fW+1),om,rfl,rfl,fW+1,u,om,U,?_,?_⟩
    · exact oR
    · exact jt
  ·
   refine WP.exit<|sr<|oW 2 ⟨rfl,rfl,[Y u],U,?_⟩
   exact⟨⟨_,rfl⟩,od,j9⟩
 ·
  exact⟨0,0,om,U,fg _,HE.refl _ _⟩
theorem Q9(l:SV RPart)(d:Int)(O:Ht)(G:Nat)(hl:jC jQ 3 (fun O G y=>kV O G y) O G l):WF ex 22 [l.v,Y d] O G (fL G O An):=by
 have h:∀(k:Nat),∀(l:SV RPart) (d:Int) (O:Ht) (G:Nat),(∀s∈l.l,sizeOf s<k)->jC jQ 3 (fun O G y=>kV O G y) O G l->WF ex 22 [l.v,Y d] O G (fL G O An):=by
  intro k
  induction k using Nat.strongRecOn with
  |_ k ih=>intro l d O G hk hl;exact NC k ih l d O G hk hl
 exact h _ l d O G (fun _ h=>List.sizeOf_lt_of_mem h) hl
theorem ND(C:ka)(O:Ht)(G:Nat)(e:pc O G C):WF ex 6 [.agg (iT C).toArray] O G (fL G O Yg):=by
 refine wd Tryz.f6 81 [.tmp 2] fun hE=>sr<|oB (.agg (iT C).toArray) (iT C) fun jy iI ia=>?_
 refine oN 1<|sr<|oX 1 ?_
 obtain⟨a6,a7,ao⟩:=e.iD.shape
 have aP:=e.iD.2.2
 refine oZ G (0+1) (.slice a6 (C.iD.l.length) a7) wP ia (by rw[<-ao];rfl)<|oX 2 ?_
 obtain⟨ay,nZ,aq⟩:=e.jY.shape
 have aQ:=e.jY.2.2
 refine oZ G (0+2) (.slice ay (C.jY.l.length) nZ) Di ia (by rw[<-aq];rfl)<|oX 1<|ov 11 (Y (.ofNat (C.iD.l.length+C.jY.l.length))) ?_ (fun _ _ _=>by rw[<-gQ (show C.iD.l.length+C.jY.l.length<9223372036854775808 by omega)];kernel_rfl)
 refine oX 1 ?_
 obtain⟨u,r5,j⟩:=e.fD.1.shape
 have aR:=e.fD.1.2.2
 refine oZ G (0+3) (.slice u (C.fD.l.length) r5) r6 ia (by rw[<-j];rfl)<|oX 1<|ov 15 (Y (.ofNat (C.iD.l.length+C.jY.l.length+C.fD.l.length))) ?_ (fun _ _ _=>by rw[<-gQ (show C.iD.l.length+C.jY.l.length+C.fD.l.length<9223372036854775808 by omega)];kernel_rfl)
 refine oX 1 ?_
 obtain⟨a17,aA,ar⟩:=e.kS.shape
 have aS:=e.kS.2.2
 refine oZ G (0+4) (.slice a17 (C.kS.l.length) aA) Ge ia (by rw[<-ar];rfl)<|oX 1<|ov 19 (Y (.ofNat (C.iD.l.length+C.jY.l.length+C.fD.l.length+C.kS.l.length))) ?_ (fun _ _ _=>by rw[<-gQ (show C.iD.l.length+C.jY.l.length+C.fD.l.length+C.kS.l.length<9223372036854775808 by omega)];kernel_rfl)
 refine oX 1 ?_
 obtain⟨a20,sJ,au⟩:=e.jB.shape
 have aT:=e.jB.2.2
 refine oZ G (0+5) (.slice a20 (C.jB.l.length) sJ) Gf ia (by rw[<-au];rfl)<|oX 1<|ov 23 (Y (.ofNat (C.iD.l.length+C.jY.l.length+C.fD.l.length+C.kS.l.length+C.jB.l.length))) ?_ (fun _ _ _=>by rw[<-gQ (show C.iD.l.length+C.jY.l.length+C.fD.l.length+C.kS.l.length+C.jB.l.length<9223372036854775808 by omega)];kernel_rfl)
 refine oX 1 ?_
 obtain⟨a23,uL,av⟩:=e.iC.shape
 have aU:=e.iC.2.2
 refine oZ G (0+6) (.slice a23 (C.iC.l.length) uL) Dj ia (by rw[<-av];rfl)<|oX 1<|ov 27 (Y (.ofNat (C.iD.l.length+C.jY.l.length+C.fD.l.length+C.kS.l.length+C.jB.l.length+C.iC.l.length))) ?_ (fun _ _ _=>by rw[<-gQ (show C.iD.l.length+C.jY.l.length+C.fD.l.length+C.kS.l.length+C.jB.l.length+C.iC.l.length<9223372036854775808 by omega)];kernel_rfl)
 refine oX 1 ?_
 obtain⟨a26,aB,aw⟩:=e.ln.shape
 have aV:=e.ln.2.2
 refine oZ G (0+7) (.slice a26 (C.ln.l.length) aB) Gg ia (by rw[<-aw];rfl)<|oX 1<|ov 31 (Y (.ofNat (C.iD.l.length+C.jY.l.length+C.fD.l.length+C.kS.l.length+C.jB.l.length+C.iC.l.length+C.ln.l.length))) ?_ (fun _ _ _=>by rw[<-gQ (show C.iD.l.length+C.jY.l.length+C.fD.l.length+C.kS.l.length+C.jB.l.length+C.iC.l.length+C.ln.l.length<9223372036854775808 by omega)];kernel_rfl)
 refine oN 1<|WP.seq<|sr<|oN 1<|WP.block ?_
 refine mu [1,3,4] (fun m hs ns vs=>∃(b:Nat) (B:Int),b+m=C.fD.l.length/\vs=[pt G 0,Y B,Y (.ofNat b)]/\G+1<=ns/\HE (G+1) jy hs) ?_ (C.fD.l.length) ?_
 ·
  rintro bj wa R _ ⟨b,B,aO,rfl,an,M⟩ aZ
  have y:=(hE.trans iI).trans M
  have A:=M.get ia
  refine WP.seq<|sr<|oX 2<|oZ G (0+3) (.slice u (C.fD.l.length) r5) r6 A (by rw[<-j];rfl)<|oX 1 ?_
  refine oq 36 (kT b C.fD.l.length) fun ai aE=>oX 1<|gT 37 ai (Y B) ?_
  refine qH 37 ai (pS B 200) fun bo aF=>?_
  refine nh 40 (nA aE aF) fun bp aG=>WO.nil<|cq aG (fun aL=>?_) (fun aL=>?_)
  ·
   refine WP.skip<|WP.seq<|WP.block<|WP.seq<|WP.qZ [⟨[0,1,2,3,4,5,6,7,8,9,10,11,12,13,14],[0,1,2,3,4,5,6,7,8,9,10,11,12,13,14],some 15⟩,⟨[16],[0,1,2,3,4,5,6,7,8,16],some 17⟩,⟨[],[],none⟩] U _ rfl<|WD.kZ<|nv 43 (Y B)<|nv 44 (pt G (0+3))<|WN.hZ rfl (WC.jW G (0+3) (.slice u (C.fD.l.length) r5) U r6 A (by rw[<-j];rfl)<|nv 46 (Y (.ofNat b)) ?_)
   have z:b<C.fD.l.length:=by omega
   refine WN.hZ rfl (WC.iy j e.fD.1 (b) wQ oz (z)<|nv 48 (pt (ga u) (0+(b)*5+3)) ?_)
   obtain⟨o,p⟩:=gE z
   obtain⟨X,ab,L⟩:=(e.fD.2 o (fa p)).jx.shape
   have aW:=(e.fD.2 o (fa p)).jx.2.2
   refine WN.hZ rfl (WC.sv (ga u) (0+(b)*5+3) (.slice X (o.jx.l.length) ab) U zr ((e.fD.1.mono y nR).pw j (zl z)) (nE (e.fD.1.mono y nR).1 p (by decide) (by rw[<-L];rfl))<|nv 50 (Y (.ofNat (o.jx.l.length)))<|nv 51 (Y (gy .i64 ((B)+(.ofNat (o.jx.l.length)))))<|nv 52 (pt G (0+3))<|WN.hZ rfl (WC.jW G (0+3) (.slice u (C.fD.l.length) r5) U r6 A (by rw[<-j];rfl)<|nv 54 (Y (.ofNat b)) ?_))
   have F:b<C.fD.l.length:=by omega
   refine WN.hZ rfl (WC.iy j e.fD.1 (b) wQ oz (F)<|nv 56 (pt (ga u) (0+(b)*5+1)) ?_)
   obtain⟨aa,ad,E⟩:=(e.fD.2 o (fa p)).jP.1.shape
   have aX:=(e.fD.2 o (fa p)).jP.1.2.2
   refine WN.hZ rfl (WC.sv (ga u) (0+(b)*5+1) (.slice aa (o.jP.l.length) ad) U pV ((e.fD.1.mono y nR).pw j (zl F)) (nE (e.fD.1.mono y nR).1 p (by decide) (by rw[<-E];rfl))<|WN.nil ⟨?_,?_⟩)
   ·
    refine ci (B)<|cv (pt G (0+3)) (iR ..)<|qk G (0+3) (.slice u (C.fD.l.length) r5) r6 A (by rw[<-j];rfl) (j▸e.fD.1.jA 8)<|ci (.ofNat b)<|y0 j e.fD.1 (b) wQ oz (z)<|cv (pt (ga u) (0+(b)*5+3)) (iR ..)<|co (.slice X (o.jx.l.length) ab) (kh ex.T wa.get 107 (pt (ga u) (0+(b)*5+3))) (tK zr ((e.fD.1.mono y nR).pw j (zl z)) (nE (e.fD.1.mono y nR).1 p (by decide) (by rw[<-L];rfl))) (L▸(e.fD.2 o (fa p)).jx.jA 8)<|ci (.ofNat (o.jx.l.length))<|ci (gy .i64 ((B)+(.ofNat (o.jx.l.length))))<|cv (pt G (0+3)) (iR ..)<|qk G (0+3) (.slice u (C.fD.l.length) r5) r6 A (by rw[<-j];rfl) (j▸e.fD.1.jA 8)<|ci (.ofNat b)<|y0 j e.fD.1 (b) wQ oz (F)<|cv (pt (ga u) (0+(b)*5+1)) (iR ..)<|co (.slice aa (o.jP.l.length) ad) (kh ex.T wa.get 106 (pt (ga u) (0+(b)*5+1))) (tK pV ((e.fD.1.mono y nR).pw j (zl F)) (nE (e.fD.1.mono y nR).1 p (by decide) (by rw[<-E];rfl))) (E▸(e.fD.2 o (fa p)).jP.1.jA 8) ?_
    exact jc.nil
   refine WC.at rfl (WC.call 58 21 ([o.jP.v]) (fun _ _ _=>by(try rw[E]);kernel_rfl) ((Q8 o.jP wa (R) ((e.fD.2 o (fa p)).jP.mono (fun _ h he hn=>h.mono he hn) y)).mono ?_))
   rintro _ ag ax ⟨⟨z59,rfl⟩,a_,N⟩
   have K:=y.trans N
   have ae:=N.get A
   refine WD.kZ<|nv 59 (Y (gy .i64 ((gy .i64 ((B)+(.ofNat (o.jx.l.length))))+(z59))))<|WN.nil ⟨?_,?_⟩
   ·
    refine ci (B)<|cv (pt G (0+3)) (iR ..)<|qk G (0+3) (.slice u (C.fD.l.length) r5) r6 ae (by rw[<-j];rfl) (j▸e.fD.1.jA 8)<|ci (.ofNat b)<|y0 j e.fD.1 (b) wQ oz (z)<|cv (pt (ga u) (0+(b)*5+3)) (iR ..)<|co (.slice X (o.jx.l.length) ab) (kh ex.T ag.get 107 (pt (ga u) (0+(b)*5+3))) (tK zr ((e.fD.1.mono K nR).pw j (zl z)) (nE (e.fD.1.mono y nR).1 p (by decide) (by rw[<-L];rfl))) (L▸(e.fD.2 o (fa p)).jx.jA 8)<|ci (.ofNat (o.jx.l.length))<|ci (gy .i64 ((B)+(.ofNat (o.jx.l.length))))<|cv (Y (gy .i64 ((gy .i64 ((B)+(.ofNat (o.jx.l.length))))+(z59)))) (iF ..) ?_
    exact jc.nil
   refine WC.at rfl (WC.val 3 (Y (gy .i64 ((gy .i64 ((B)+(.ofNat (o.jx.l.length))))+(z59)))) kf<|WD.last<|WN.nil ⟨?_,?_⟩)
   ·
    exact jc.nil
   refine sr<|oX 1<|oZ G (0+3) (.slice u (C.fD.l.length) r5) r6 ae (by rw[<-j];rfl)<|oX 1 ?_
   have W:b<C.fD.l.length:=by omega
   refine WO.cons (WC.iy j e.fD.1 (b) wQ oz (W)<|oX 1<|WO.cons (WC.sv (ga u) (0+(b)*5+1) (.slice aa (o.jP.l.length) ad) U pV ((e.fD.1.mono K nR).pw j (zl W)) (nE (e.fD.1.mono K nR).1 p (by decide) (by rw[<-E];rfl))<|WO.cons (WC.call 66 22 ([o.jP.v,Y 17]) (fun _ _ _=>by(try rw[E]);kernel_rfl) ((Q9 o.jP (17) ag (ax) ((e.fD.2 o (fa p)).jP.mono (fun _ h he hn=>h.mono he hn) K)).mono ?_))))
   rintro _ bf bk ⟨⟨aN,rfl⟩,bc,af⟩
   refine oq 67 (mE 16 aN) fun bq aH=>WO.nil<|cq aH (fun aM=>?_) (fun aM=>?_)
   ·
    refine sr<|oW 1 ⟨rfl,rfl,[.bool false],U,?_⟩
    exact⟨⟨_,rfl,fun _=>trivial⟩,od,(K.trans af)⟩
   ·
    refine WP.skip<|WP.region<|oX 1<|ov 42 (Y (.ofNat (b+1))) ?_ (fun _ _ _=>by rw[<-gQ (show b+1<9223372036854775808 by omega)];kernel_rfl)
    refine oN 1<|⟨C.fD.l.length-(b+1),om,rfl,rfl,b+1,gy .i64 ((gy .i64 ((B)+(.ofNat (o.jx.l.length))))+(z59)),om,U,?_,?_⟩
    · exact od
    · exact((M.trans N an).trans af)
  ·
   refine WP.exit<|sr<|oX 1 ?_
   refine oq 69 (pS B 200) fun S aI=>oX 1<|gT 70 S (pt G 0)<|lG 70 S G 0 (.string (C.lV)) Nz A rfl<|gT 70 S (Y (.ofNat ((C.lV).data.toList.length))) ?_
   refine qH 70 S (Hv ((C.lV).data.toList.length) 100) fun br aJ=>?_
   refine nh 75 (nA aI aJ) fun J ak=>oX 1<|gT 76 J (pt G (0+8)) ?_
   obtain⟨az,aC,ah⟩:=e.n_.1.shape
   have aY:=e.n_.1.2.2
   refine lG 76 J G (0+8) (.slice az (C.n_.l.length) aC) vu A (by rw[<-ah];rfl)<|WO.cons (WC.gq (J) (GI (J) (True) (R) wa) (.bool J) (g:=f_ (.tmp 76)) rfl U (by cases J<;>rfl) (fun h=>by obtain rfl:J=true:=(by simpa using h);have bt:=(ak).1 rfl;exact WC.call 79 23 ([C.n_.v]) (fun _ _ _=>by(try rw[ah]);kernel_rfl) ((U2 C.n_ wa (R) (e.n_.mono (fun _ h he hn=>h.mono he hn) y)).mono fun v e9 e_ ⟨⟨c,bh,hc⟩,hn,he⟩=>⟨_,_,_,rfl,⟨c,bh,hc⟩,hn,he⟩)) (fun h=>GI.off h) ?_)
   rintro _ bg bl ⟨⟨aj,rfl,bn⟩,bd,al⟩
   have aK:aj=true↔(aj=true):=gk
   refine nh 80 (nA ak aK) fun aD bs=>oW 1 ⟨rfl,rfl,[.bool aD],U,?_⟩
   exact⟨⟨_,rfl,fun _=>trivial⟩,od,(y.trans al)⟩
 ·
  exact⟨0,(.ofNat (C.iD.l.length+C.jY.l.length+C.fD.l.length+C.kS.l.length+C.jB.l.length+C.iC.l.length+C.ln.l.length)),om,U,fg _,HE.refl _ _⟩
end
end Sw
namespace Sw
noncomputable section
open Go Go.Proofs Go.RowKit
set_option maxRecDepth 100000
set_option maxHeartbeats 1600000
def sD(n:Nat)(sub:List RPart->Nat×Nat)(s:Nat×Nat)(p:RPart):Nat×Nat:=if p.fY.l.length=0\/n=0\/256<s.2 then s else(max s.1 ((sub p.fY.l).1+1),s.2+(sub p.fY.l).2)
def s8:Nat->List RPart->Nat×Nat
 |0,l=>l.foldl (sD 0 fun _=>(0,0)) (0,l.length)
 |n+1,l=>l.foldl (sD (n+1) (s8 n)) (0,l.length)
theorem SN(n:Nat)(l:List RPart):s8 n l=l.foldl (sD n (s8 (n-1))) (0,l.length):=by
 cases n with
 |zero=>
  show l.foldl (sD 0 fun _=>(0,0)) (0,l.length)=_
  congr 1;funext s p;simp[sD]
 |succ n=>rfl
theorem Cc{α β:Type}{f:β->α->β}{b:β}{l:List α}{i:Nat}{x:α}(h:l[i]?=some x):(l.take (i+1)).foldl f b=f ((l.take i).foldl f b) x:=by
 rw[List.take_add_one,h];simp[List.foldl_append]
theorem maxOf(a b:Nat):Int.ofNat (max a b)=bif rU (.ofNat a) (.ofNat b)then .ofNat b else .ofNat a:=by
 cases h:rU (.ofNat a) (.ofNat b)with
 |true=>have:=sM.1 h;simp only[cond_true];congr 1;simp only[Int.ofNat_eq_natCast]at this;omega
 |false=>
  have:¬(Int.ofNat a<Int.ofNat b):=fun k=>by rw[sM.2 k]at h;cases h
  simp only[cond_false];congr 1;simp only[Int.ofNat_eq_natCast]at this;omega
def U3(r:Nat×Nat)(B uI:Nat):Value->Prop:=fun v=>∃a b:Nat,v=.tuple ⟨[Y (.ofNat a),Y (.ofNat b)]⟩/\(a,b)=r/\a<=B/\b<=uI
def uj:Nat->List RPart->Prop
 |0,l=>l=[]
 |n+1,l=>∀p∈l,uj n p.fY.l
def zu(d:kc):Prop:=d.jx.l.length<=64/\(s8 17 d.jP.l).1<=16/\(s8 17 d.jP.l).2<=256
def wg(C:ka):Prop:=(C.iD.l.length<=40/\C.jY.l.length<=512/\C.fD.l.length<=8/\C.kS.l.length<=32/\C.jB.l.length<=32/\C.iC.l.length<=32/\C.ln.l.length<=32)/\∀d∈C.fD.l,zu d
theorem zv:ex.T.agg 109=some true:=U
theorem DX:ex.T.agg 144=some true:=U
theorem KV:ex.T.zero 109=some (.agg ⟨[.string (⟨#[]⟩),.slice none (0) 0,Y 0,.slice none (0) 0,Y 0]⟩):=U
theorem KW:ex.T.zero 144=some (.agg ⟨[Y 0,Y 0,.slice none (0) 0]⟩):=U
theorem I1(n:Nat)(ih:∀m,m+1=n->∀(l:SV RPart) (O:Ht) (G:Nat),jC jQ 3 (fun O G y=>kV O G y) O G l->WF ex 166 [l.v,Y (.ofNat m)] O G (fL G O (U3 (s8 m l.l) m (281474976710656+257*m))))(ag:n<=17)(l:SV RPart)(O:Ht)(G:Nat)(hl:jC jQ 3 (fun O G y=>kV O G y) O G l):WF ex 166 [l.v,Y (.ofNat n)] O G (fL G O (U3 (s8 n l.l) n (281474976710656+257*n))):=by
 obtain⟨a1,c2,h_⟩:=hl.1.shape
 have mc:=hl.1.2.2
 rw[h_]
 refine wd Tryz.f166 48 [.tmp 4,.tmp 5] fun hE=>sr<|oN 2<|sr<|oN 3<|WP.seq<|sr<|oN 3<|WP.block ?_
 refine mu [1,4,5,12,13,14] (fun m hs ns vs=>∃(fW:Nat) (a0:Nat) (b:Nat),fW+m=l.l.length/\vs=[Y (.ofNat n),Y (.ofNat a0),Y (.ofNat b),.slice a1 (l.l.length) c2,Y (.ofNat (l.l.length)),Y (.ofNat fW)]/\G<=ns/\HE (G) O hs/\((a0,b)=(l.l.take fW).foldl (sD n (s8 (n-1))) (0,l.l.length))/\(a0<=n)/\(b<=281474976710656+257*n)) ?_ (l.l.length) ?_
 ·
  rintro ya ql jd _ ⟨fW,a0,b,uz,rfl,oR,jt,A,J,K⟩ uA
  have j9:=hE.trans jt
  refine sr ?_
  refine oq 15 (kT fW l.l.length) fun nI rY=>WO.nil<|WP.seq<|cq rY (fun xq=>?_) (fun xq=>?_)
  ·
   refine WP.skip<|WP.seq<|WP.block<|sr ?_
   have nL:fW<l.l.length:=by omega
   refine WO.cons (WC.iy h_ hl.1 (fW) zt rO (nL) ?_)
   obtain⟨lH,kM⟩:=gE nL
   refine WO.cons (WC.ly h_ (hl.1.mono j9 nR) kM DX rO<|oA [Y 0,Y 0,.slice none (0) 0] KW fun aj uB L=>?_)
   refine oS jd (0) (.agg (jQ lH).toArray) (jQ lH) (jQ lH) rO rfl (fe.2 ⟨rfl,GL _ (hl.2 lH (fa kM))⟩) L fun N u p ai=>?_
   have z:=(jt.trans uB oR).trans u
   refine WO.nil<|WP.seq<|sr<|oX 1 ?_
   obtain⟨a35,C,j⟩:=(hl.2 lH (fa kM)).fY.1.shape
   have ad:=(hl.2 lH (fa kM)).fY.1.2.2
   refine oZ jd (0+2) (.slice a35 (lH.fY.l.length) C) pV p (by rw[<-j];rfl)<|oX 1 ?_
   refine oq 21 (vY lH.fY.l.length 0) fun E R=>oX 1<|gF 22 E (Y (.ofNat n)) ?_
   refine nH 22 E (vY n 0) fun an S=>?_
   refine mI 25 (nO R S) fun F W=>oX 1<|gF 26 F (Y (.ofNat b)) ?_
   refine nH 26 F (nQ 256 b) fun ao X=>?_
   refine mI 29 (nO W X) fun aq aa=>WO.nil<|cq aa (fun ab=>?_) (fun ab=>?_)
   ·
    refine WP.exit<|WP.region<|ov 45 (Y (.ofNat (fW+1))) ?_ (fun _ _ _=>by rw[<-gQ (show fW+1<9223372036854775808 by omega)];kernel_rfl)
    refine oN 1<|⟨l.l.length-(fW+1),om,rfl,rfl,fW+1,a0,b,om,U,?_,?_,?_,?_,?_⟩
    · exact od
    · exact z
    · rw[Cc kM,<-A];exact(if_pos (by show _\/_\/_;omega)).symm
    · exact J
    · exact K
   ·
    refine WP.skip<|sr<|oX 1<|oZ jd (0+2) (.slice a35 (lH.fY.l.length) C) pV p (by rw[<-j];rfl)<|oX 1<|ov 34 (Y (.ofNat (n-1))) ?_ (fun _ _ _=>by rw[<-Bb (show n<9223372036854775808 by omega) om];kernel_rfl)
    refine WO.cons (WC.call 35 166 ([lH.fY.v,Y (.ofNat (n-1))]) (fun _ _ _=>by(try rw[j]);kernel_rfl) ((ih (n-1) om lH.fY N (jd+1) ((hl.2 lH (fa kM)).fY.mono (fun _ h he hn=>h.mono he hn) ((j9.trans uB).trans u))).mono ?_))
    rintro _ ak al ⟨⟨e,o,rfl,B,ae,af⟩,ah,M⟩
    refine oN 5<|WP.region<|oX 2<|ov 40 (Y (.ofNat (e+1))) ?_ (fun _ _ _=>by rw[<-gQ (show e+1<9223372036854775808 by omega)];kernel_rfl)
    refine ov 41 (Y (.ofNat (max (a0) (e+1)))) ?_ (fun _ _ _=>by rw[maxOf (a0) (e+1)];kernel_rfl)
    refine oX 2<|ov 44 (Y (.ofNat (b+o))) ?_ (fun _ _ _=>by rw[<-gQ (show b+o<9223372036854775808 by omega)];kernel_rfl)
    refine oN 2<|WP.region<|ov 45 (Y (.ofNat (fW+1))) ?_ (fun _ _ _=>by rw[<-gQ (show fW+1<9223372036854775808 by omega)];kernel_rfl)
    refine oN 1<|⟨l.l.length-(fW+1),om,rfl,rfl,fW+1,(max (a0) (e+1)),b+o,om,U,?_,?_,?_,?_,?_⟩
    · exact od
    · exact(z.trans M)
    · rw[Cc kM,<-A];unfold sD;rw[if_neg (by show¬(_\/_\/_);omega),<-B]
    · first|omega|(dsimp only;omega)
    · first|omega|(dsimp only;omega)
  ·
   refine WP.exit<|sr<|oW 4 ⟨rfl,rfl,[Y (.ofNat a0),Y (.ofNat b)],U,?_⟩
   have hi:fW=l.l.length:=by omega
   rw[hi,List.take_length]at A
   exact⟨⟨a0,b,rfl,by rw[SN];exact A,J,K⟩,od,j9⟩
 ·
  exact⟨0,0,l.l.length,om,U,fg _,HE.refl _ _,rfl,(gI _),(by have:=hl.1.2.2;omega)⟩
theorem U4(n:Nat)(hn:n<=17)(l:SV RPart)(O:Ht)(G:Nat)(hl:jC jQ 3 (fun O G y=>kV O G y) O G l):WF ex 166 [l.v,Y (.ofNat n)] O G (fL G O (U3 (s8 n l.l) n (281474976710656+257*n))):=by
 induction n generalizing l O G with
 |zero=>exact I1 0 (fun m h=>by omega) hn l O G hl
 |succ n ih=>exact I1 (n+1) (fun m h l O G hl=>by obtain rfl:m=n:=om;exact ih om l O G hl) hn l O G hl
theorem Xj(C:ka)(O:Ht)(G:Nat)(e:pc O G C):WF ex 96 [.agg (iT C).toArray] O G (fL G O (gi (wg C))):=by
 refine wd Tryz.f96 73 [.tmp 2] fun hE=>sr<|oB (.agg (iT C).toArray) (iT C) fun jy iI ia=>?_
 have lq:=hE.trans iI
 refine oN 1<|WP.seq<|sr<|oX 1 ?_
 obtain⟨bd,bj,an⟩:=e.iD.shape
 have aV:=e.iD.2.2
 refine oZ G (0+1) (.slice bd (C.iD.l.length) bj) wP ia (by rw[<-an];rfl)<|oX 1 ?_
 refine oq 10 (nQ 40 C.iD.l.length) fun B aI=>oX 1<|gF 11 B (pt G (0+2)) ?_
 obtain⟨a12,nI,ao⟩:=e.jY.shape
 have aW:=e.jY.2.2
 refine nS 11 B G (0+2) (.slice a12 (C.jY.l.length) nI) Di ia (by rw[<-ao];rfl)<|gF 11 B (Y (.ofNat (C.jY.l.length))) ?_
 refine nH 11 B (nQ 512 C.jY.l.length) fun r5 vh=>?_
 refine mI 16 (nO aI vh) fun E aJ=>oX 1<|gF 17 E (pt G (0+3)) ?_
 obtain⟨a17,S,u⟩:=e.fD.1.shape
 have aX:=e.fD.1.2.2
 refine nS 17 E G (0+3) (.slice a17 (C.fD.l.length) S) r6 ia (by rw[<-u];rfl)<|gF 17 E (Y (.ofNat (C.fD.l.length))) ?_
 refine nH 17 E (nQ 8 C.fD.l.length) fun yI FA=>?_
 refine mI 22 (nO aJ FA) fun sJ v_=>oX 1<|gF 23 sJ (pt G (0+4)) ?_
 obtain⟨a22,Fv,aq⟩:=e.kS.shape
 have aY:=e.kS.2.2
 refine nS 23 sJ G (0+4) (.slice a22 (C.kS.l.length) Fv) Ge ia (by rw[<-aq];rfl)<|gF 23 sJ (Y (.ofNat (C.kS.l.length))) ?_
 refine nH 23 sJ (nQ 32 C.kS.l.length) fun bu aK=>?_
 refine mI 28 (nO v_ aK) fun F aL=>oX 1<|gF 29 F (pt G (0+5)) ?_
 obtain⟨aC,aD,ar⟩:=e.jB.shape
 have aZ:=e.jB.2.2
 refine nS 29 F G (0+5) (.slice aC (C.jB.l.length) aD) Gf ia (by rw[<-ar];rfl)<|gF 29 F (Y (.ofNat (C.jB.l.length))) ?_
 refine nH 29 F (nQ 32 C.jB.l.length) fun bw aM=>?_
 refine mI 34 (nO aL aM) fun J aN=>oX 1<|gF 35 J (pt G (0+6)) ?_
 obtain⟨a32,aE,au⟩:=e.iC.shape
 have a6:=e.iC.2.2
 refine nS 35 J G (0+6) (.slice a32 (C.iC.l.length) aE) Dj ia (by rw[<-au];rfl)<|gF 35 J (Y (.ofNat (C.iC.l.length))) ?_
 refine nH 35 J (nQ 32 C.iC.l.length) fun bx aO=>?_
 refine mI 40 (nO aN aO) fun K aP=>oX 1<|gF 41 K (pt G (0+7)) ?_
 obtain⟨a37,aF,av⟩:=e.ln.shape
 have a7:=e.ln.2.2
 refine nS 41 K G (0+7) (.slice a37 (C.ln.l.length) aF) Gg ia (by rw[<-av];rfl)<|gF 41 K (Y (.ofNat (C.ln.l.length))) ?_
 refine nH 41 K (nQ 32 C.ln.l.length) fun bz aQ=>?_
 refine mI 46 (nO aP aQ) fun bA aR=>WO.nil<|cq aR (fun ah=>?_) (fun ah=>?_)
 ·
  refine sr<|oW 1 ⟨rfl,rfl,[.bool false],U,?_⟩
  exact⟨⟨false,rfl,fun h=>(by cases h),fun h=>(by have h:=h.1;omega)⟩,od,lq⟩
 ·
  refine WP.skip<|WP.seq<|sr<|oX 1<|oZ G (0+3) (.slice a17 (C.fD.l.length) S) r6 ia (by rw[<-u];rfl)<|oN 2<|WP.block ?_
  refine mu [48,49,50] (fun m hs ns vs=>∃(b:Nat),b+m=C.fD.l.length/\vs=[.slice a17 (C.fD.l.length) S,Y (.ofNat (C.fD.l.length)),Y (.ofNat b)]/\G+1<=ns/\HE (G+1) jy hs/\(∀(j:Nat) (d:kc),j<b->C.fD.l[j]?=some d->zu d)) ?_ (C.fD.l.length) ?_
  ·
   rintro bs bp y _ ⟨b,aU,rfl,CG,oY,hinv⟩ bc
   have z:=lq.trans oY
   refine sr ?_
   refine oq 51 (kT b C.fD.l.length) fun bB aS=>WO.nil<|WP.seq<|cq aS (fun aT=>?_) (fun aT=>?_)
   ·
    refine WP.skip<|WP.seq<|WP.block<|sr ?_
    have M:b<C.fD.l.length:=by omega
    refine WO.cons (WC.iy u e.fD.1 (b) wQ oz (M) ?_)
    obtain⟨o,p⟩:=gE M
    refine WO.cons (WC.ly u (e.fD.1.mono z nR) p zv oz<|oA [.string (⟨#[]⟩),.slice none (0) 0,Y 0,.slice none (0) 0,Y 0] KV fun bq aa ak=>?_)
    refine oS y (0) (.agg (iS o).toArray) (iS o) (iS o) oz rfl (fe.2 ⟨rfl,B8 _ (e.fD.2 o (fa p))⟩) ak fun al ab X bo=>?_
    have W:=(z.trans aa).trans ab
    refine WO.nil<|sr<|oX 1 ?_
    obtain⟨a80,aG,ad⟩:=(e.fD.2 o (fa p)).jP.1.shape
    have a_:=(e.fD.2 o (fa p)).jP.1.2.2
    refine oZ y (0+1) (.slice a80 (o.jP.l.length) aG) pV X (by rw[<-ad];rfl)<|WO.cons (WC.call 57 166 ([o.jP.v,Y 17]) (fun _ _ _=>by(try rw[ad]);kernel_rfl) ((U4 17 (by decide) o.jP al (y+1) ((e.fD.2 o (fa p)).jP.mono (fun _ h he hn=>h.mono he hn) W)).mono ?_))
    rintro _ br bt ⟨⟨af,ag,rfl,L,bk,bl⟩,bn,A⟩
    refine oN 5<|sr<|oX 1 ?_
    obtain⟨ai,aj,ae⟩:=(e.fD.2 o (fa p)).jx.shape
    have aH:=(e.fD.2 o (fa p)).jx.2.2
    refine oZ y (0+3) (.slice ai (o.jx.l.length) aj) zr (A.get X) (by rw[<-ae];rfl)<|oX 1 ?_
    refine oq 63 (nQ 64 o.jx.l.length) fun N aw=>oX 1<|gF 64 N (Y (.ofNat af)) ?_
    refine nH 64 N (nQ 16 af) fun bf ax=>?_
    refine mI 67 (nO aw ax) fun R ay=>oX 1<|gF 68 R (Y (.ofNat ag)) ?_
    refine nH 68 R (nQ 256 ag) fun bg az=>?_
    refine mI 71 (nO ay az) fun bh aA=>WO.nil<|cq aA (fun aB=>?_) (fun aB=>?_)
    ·
     refine sr<|oW 1 ⟨rfl,rfl,[.bool false],U,?_⟩
     exact⟨⟨false,rfl,fun h=>(by cases h),fun h=>(by have h:=h.2 _ (fa p);unfold zu at h;rw[<-L]at h;simp only at h;omega)⟩,od,(W.trans A)⟩
    ·
     refine WP.skip<|WP.region<|ov 72 (Y (.ofNat (b+1))) ?_ (fun _ _ _=>by rw[<-gQ (show b+1<9223372036854775808 by omega)];kernel_rfl)
     refine oN 1<|⟨C.fD.l.length-(b+1),om,rfl,rfl,b+1,om,U,?_,?_,?_⟩
     · exact od
     · exact(((oY.trans aa CG).trans ab).trans A)
     · intro j d hj hd;rcases Nat.lt_succ_iff_lt_or_eq.1 hj with hj|rfl
       · exact hinv j d hj hd
       · rw[p]at hd;cases hd;unfold zu;rw[<-L];simp only;omega
   ·
    refine WP.exit<|sr<|oW 1 ⟨rfl,rfl,[.bool true],U,?_⟩
    refine⟨⟨true,rfl,fun _=>⟨by have:=ah;omega,fun d hd=>?_⟩,fun _=>rfl⟩,od,z⟩
    obtain⟨j,hj⟩:=fS hd
    exact hinv j d (by have:=(fp.1 hj).1;omega) hj
  ·
   exact⟨0,om,U,fg _,HE.refl _ _,(fun j d h=>absurd h (fK _))⟩
end
end Sw
namespace Sw
noncomputable section
open Go Go.RowKit
structure MK{α:Type}(T:Ty)(kt:TypeId)(ek:α->Value):Prop where
 key:∀x,vH T 8 kt (ek x)=true
 eq:∀x y,∃b,rV T kt (ek x) (ek y)=some b/\(b=true↔x=y)
 same:∀x,BZ (ek x) (ek x)=true
def kU{α:Type}(ek:α->Value)(L:List α)(g:α->Value)(es:List MapEntry):Prop:=es.map (fun e=>(e.key,e.val))=L.map fun x=>(ek x,g x)
def yK{α:Type}(L:List α)(x:α):List α:=@ite _ (x∈L) (Classical.propDecidable _) L (L++[x])
theorem J7{α:Type}{L:List α}{x:α}(h:x∈L):yK L x=L:=by unfold yK;exact if_pos h
theorem HB{α:Type}{L:List α}{x:α}(h:x∉L):yK L x=L++[x]:=by unfold yK;exact if_neg h
theorem U5{α:Type}{L:List α}{x y:α}:y∈yK L x↔y∈L\/y=x:=by
 by_cases h:x∈L
 · rw[J7 h];constructor
   · exact .inl
   · rintro(h1|rfl)
     · exact h1
     · exact h
 · rw[HB h];simp
def lC{α:Type}(L:List α):List α:=L.foldl yK []
theorem I2{α:Type}(L:List α)(x:α):lC (L++[x])=yK (lC L) x:=by simp[lC,List.foldl_append]
theorem FF{α:Type}{y:α}(L:List α):y∈lC L↔y∈L:=by
 have:∀(L A:List α),y∈L.foldl yK A↔y∈A\/y∈L:=by
  intro L
  induction L with
  |nil=>intro A;simp
  |cons x L ih=>intro A;rw[List.foldl_cons,ih,U5,List.mem_cons,or_assoc]
 rw[lC,this];simp
theorem Q_{α:Type}{L:List α}(h:L.Nodup)(x:α):(yK L x).Nodup:=by
 by_cases hx:x∈L
 · rw[J7 hx];exact h
 · rw[HB hx];exact List.nodup_append.2 ⟨h,by simp,fun a e b hb=>by rw[List.mem_singleton.1 hb];rintro rfl;exact hx e⟩
theorem rf{α:Type}(L:List α):(lC L).Nodup:=by
 have:∀(L A:List α),A.Nodup->(L.foldl yK A).Nodup:=by
  intro L
  induction L with
  |nil=>intro A h;exact h
  |cons x L ih=>intro A h;exact ih _ (Q_ h x)
 exact this L [] (by simp)
section
variable {α:Type}{T:Ty}{kt el t:TypeId}{ek:α->Value}
theorem DY(K:MK T kt ek)(x:α):∀(L:List α) (g:α->Value) (es:List MapEntry) (n:Nat),kU ek L g es->
 (x∉L/\sB (rV T kt (ek x)) es n=some none)\/(x∈L/\∃i e,sB (rV T kt (ek x)) es n=some (some (n+i,e))/\e.key=ek x/\e.val=g x/\
   ∀v,∃m o j,L=m++x::o/\x∉m/\Bn (fun e=>⟨ek x,v,e.born⟩) es i=j/\j.map (fun e=>(e.key,e.val))=m.map (fun y=>(ek y,g y))++(ek x,v)::o.map fun y=>(ek y,g y))
 |[],g,es,n,h=>by
  have:es=[]:=by simpa[kU]using h
  subst this
  exact .inl ⟨by simp,rfl⟩
 |y::L,g,[],n,h=>by simp[kU]at h
 |y::L,g,e::es,n,h=>by
  have B:(e.key,e.val)=(ek y,g y)/\kU ek L g es:=by simpa[kU]using h
  obtain⟨h1,D⟩:=B
  have hk:e.key=ek y:=congrArg Prod.fst h1
  have C:e.val=g y:=congrArg Prod.snd h1
  obtain⟨b,hb,p⟩:=K.eq x y
  cases b with
  |true=>
   obtain rfl:=p.1 rfl
   refine .inr ⟨fz ..,0,e,?_,hk,C,fun v=>⟨[],L,_,rfl,by simp,rfl,?_⟩⟩
   · simp only[sB,hk,hb,Nat.add_zero]
   · simp only[Bn,List.map_cons,List.map_nil,List.nil_append];rw[show es.map (fun e=>(e.key,e.val))=_ from D]
  |false=>
   have jI:¬x=y:=fun k=>absurd (p.2 k) (by decide)
   have e1:sB (rV T kt (ek x)) (e::es) n=sB (rV T kt (ek x)) es (n+1):=by simp only[sB,hk,hb]
   rcases DY K x L g es (n+1) D with⟨u,z⟩|⟨u,i,A,z,E,F,J⟩
   · exact .inl ⟨by simp[jI,u],by rw[e1,z]⟩
   · refine .inr ⟨List.mem_cons_of_mem _ u,i+1,A,by rw[e1,z];congr 3;omega,E,F,fun v=>?_⟩
     obtain⟨m,o,j,M,N,q3,R⟩:=J v
     refine⟨y::m,o,e::j,by rw[M];rfl,by simp[jI,N],by simp only[Bn,q3],?_⟩
     rw[List.map_cons,R,List.map_cons,h1];rfl
variable {O:Hp}{L:List α}{g:α->Value}{es:List MapEntry}{c b:Nat}
theorem I3(K:MK T kt ek)(hu:T.jo t=some (.map kt el))(hb:O b=some (.map es c))(j:kU ek L g es){x:α}(hx:x∈L):pD T O t (.map (some b)) (ek x) false=some (g x):=by
 rcases DY K x L g es 0 j with⟨h1,_⟩|⟨_,i,e,D,h3,h4,_⟩
 · exact absurd hx h1
 · simp only[pD,hu,mapOf,hb,K.key,cond_true,D,cond_false,h4]
theorem GR(K:MK T kt ek)(hu:T.jo t=some (.map kt el))(hb:O b=some (.map es c))(e:kU ek L g es){z:Value}(j:T.zero el=some z){x:α}(hx:x∉L):pD T O t (.map (some b)) (ek x) false=some z:=by
 rcases DY K x L g es 0 e with⟨_,D⟩|⟨h1,_⟩
 · simp only[pD,hu,mapOf,hb,K.key,cond_true,D,j,cond_false]
 · exact absurd h1 hx
theorem vv(K:MK T kt ek)(hu:T.jo t=some (.map kt el))(j:T.zero el=some (.bool false))(hb:O b=some (.map es c))(e:kU ek L (fun _=>.bool true) es)(x:α){r:Bool}(hr:r=@decide (x∈L) (Classical.propDecidable _)):
 pD T O t (.map (some b)) (ek x) false=some (.bool r):=by
 by_cases hx:x∈L
 · rw[I3 K hu hb e hx,hr];simp[hx]
 · rw[GR K hu hb e j hx,hr];simp[hx]
theorem CI{f:α->Nat}(K:MK T kt ek)(hu:T.jo t=some (.map kt el))(j:T.zero el=some (.int .i64 0))(hb:O b=some (.map es c))(e:kU ek L (fun x=>.int .i64 (.ofNat (f x))) es)(h0:∀x,x∉L->f x=0)(x:α):
 pD T O t (.map (some b)) (ek x) false=some (.int .i64 (.ofNat (f x))):=by
 by_cases hx:x∈L
 · exact I3 K hu hb e hx
 · rw[GR K hu hb e j hx,h0 x hx];rfl
theorem Lx{g':α->Value}(K:MK T kt ek)(hu:T.jo t=some (.map kt el))(hb:O b=some (.map es c))(u:kU ek L g es)(p:L.Nodup)(x:α)(v:Value)(h1:g' x=v)(D:∀y,y≠x->g' y=g y):
 ∃j C,tF T O t (.map (some b)) (ek x) v=some [(b,some (.map j C))]/\kU ek (yK L x) g' j:=by
 have other:∀L':List α,x∉L'->L'.map (fun y=>(ek y,g y))=L'.map fun y=>(ek y,g' y):=fun L' h=>List.map_congr_left fun y hy=>by rw[D y fun e=>h (e▸hy)]
 rcases DY K x L g es 0 u with⟨m,o⟩|⟨m,i,e,o,E,R,F⟩
 · refine⟨es++[⟨ek x,v,c⟩],c+1,by simp only[tF,hu,hb,K.key,cond_true,o],?_⟩
   rw[HB m,kU,List.map_append,List.map_append,show es.map (fun e=>(e.key,e.val))=_ from u,other _ m]
   simp[h1]
 · obtain⟨N,B,j,A,J,q3,M⟩:=F v
   rw[Nat.zero_add]at o
   refine⟨j,c,by simp only[tF,hu,hb,K.key,cond_true,o,E,K.same,q3],?_⟩
   have z:x∉B:=by
    rw[A]at p
    exact(List.nodup_cons.1 (List.nodup_append.1 p).2.1).1
   rw[J7 m,kU,M,other _ J,other _ z,A]
   simp[h1]
end
theorem kU.len{α:Type}{ek:α->Value}{L:List α}{g:α->Value}{es:List MapEntry}(h:kU ek L g es):es.length=L.length:=by
 simpa using congrArg List.length h
theorem NF{α:Type}{T:Ty}{O:Hp}{t kt el:TypeId}{b c:Nat}{ek:α->Value}{L:List α}{g:α->Value}{es:List MapEntry}(hu:T.jo t=some (.map kt el))(hb:O b=some (.map es c))(e:kU ek L g es):G_ T O t (.map (some b))=some (.int .i64 (.ofNat L.length)):=by
 rw[<-e.len]
 simp only[G_,hu,hb]
section
variable {e:Env}{fm:Fm}{I:Tm}{ds:List Deferred}{O:Ht}{G:Nat}{gX:List Nat}{Q:St->Prop}{all:List Oper}{d:Tmp}{ty:TypeId}{pos:String}{j7:Array Edge}
theorem mapped(O:Ht)(G:Nat)(o:jT Tm):∃b,O.set G (some o)=b/\HE G O b/\b.get G=some o:=⟨_,rfl,HE.set _ _ (fg _),Tr.ig ..⟩
theorem WC.makeMap{t:TypeId}(hl:e.low=0)(q:Q ⟨I.set d (.map (some G)),ds,O.set G (some (.map [] 0)),G+1,gX⟩):WC e fm (iQ all ⟨some d,.makeMap t none,ty,pos,j7,none⟩) ⟨I,ds,O,G,gX⟩ Q:=
 .Yb d (DF e.T t none G) hl (fun _ _ _=>rfl) rfl q
theorem WC.mapUpdate{α:Type}{ek:α->Value}{L:List α}{g g':α->Value}{es:List MapEntry}{c:Nat}{t kt el:TypeId}{m k v:Operand}(b:Nat)(x:α)(val:Value)(hl:e.low=0)(hm:(f_ m).run I=.map (some b))(hk:(f_ k).run I=ek x)(A:(f_ v).run I=val)
 (K:MK e.T kt ek) (hu:e.T.jo t=some (.map kt el)) (hb:O.get b=some (.map es c)) (z:kU ek L g es) (u:L.Nodup) (h1:g' x=val) (D:∀y,y≠x->g' y=g y)
 (q:∀j o e9,HE b O e9->e9.get b=some (.map j o)->(∀c,c≠b->e9.get c=O.get c)->kU ek (yK L x) g' j->Q ⟨I,ds,e9,G,gX⟩):
 WC e fm (iQ all ⟨none,.mapUpdate t m k v,ty,pos,j7,none⟩) ⟨I,ds,O,G,gX⟩ Q:=by
 obtain⟨j,o,B,C⟩:=Lx (O:=O.get) K hu hb z u x val h1 D
 refine .Uw [(b,some (.map j o))] hl (fun rec Z p=>?_) (q j o _ (HE.set _ _ (fg _)) (Tr.ig ..) (fun c hc=>Tr.gG _ _ hc) C)
 have:(iQ all ⟨none,.mapUpdate t m k v,ty,pos,j7,none⟩).run e rec fm I ds O G Z p=y6 (tF e.T O.get t ((f_ m).run I) ((f_ k).run I) ((f_ v).run I)) (tW (fun t _=>t) e.low I ds O G Z p):=by
  cases m<;>cases k<;>cases v<;>rfl
 rw[this,hm,hk,A,B];rfl
end
theorem kU.nil{α:Type}{ek:α->Value}{g:α->Value}:kU ek [] g []:=rfl
theorem YF{T:Ty}{kt:TypeId}(hu:T.jo kt=some (.int .i64)):MK T kt (fun x:Int=>.int .i64 x):=
 ⟨fun x=>by simp only[vH,hu],fun x y=>⟨kN x y,by simp only[rV,hu];rfl,lS⟩,fun x=>by show(wD .i64 .i64&&kN x x)=true;rw[lS.2 rfl];rfl⟩
theorem YG{T:Ty}{kt:TypeId}(hu:T.jo kt=some .string):MK T kt (fun x:ByteArray=>.string x):=
 ⟨fun x=>by simp only[vH,hu],fun x y=>⟨wV (strs x) (strs y),by simp only[rV,hu],rJ⟩,fun x=>by show wV (strs x) (strs x)=true;exact rJ.2 rfl⟩
def qm(s:ByteArray)(i:Nat):Nat:=((strs s).getD i 0).toNat
theorem SO(s:ByteArray)(i:Nat):qm s i<256:=UInt8.toNat_lt _
theorem yL{T:Ty}{t:TypeId}{s:ByteArray}{i:Nat}{k:IntKind}(hu:T.jo t=some .string)(hi:i<s.data.toList.length):xf T t (.string s) (.int k (.ofNat i))=some (.int .u8 (.ofNat (qm s i))):=by
 have:Md s i=some ((strs s).getD i 0):=by
  show s.data.toList[i]?=_
  unfold strs
  rw[List.getElem?_eq_getElem hi,List.getD_eq_getElem?_getD,List.getElem?_eq_getElem hi];rfl
 simp only[xf,hu,this,Option.map_some]
 rfl
theorem NG{a b:ByteArray}(h1:(strs a).length<1073741824)(D:(strs b).length<1073741824):EK .add a b=some (.string ⟨(strs a++strs b).toArray⟩):=by
 simp only[EK,mN.2 h1,mN.2 D,Bool.and_self,cond_true]
theorem J8{T:Ty}{t el:TypeId}{b o len i s:Nat}{k:IntKind}(hu:T.jo t=some (.array len el))(hs:T.size el=some s)(hi:i<len):mQ T t (.pointer (some ⟨b,o,none⟩)) (.int k (.ofNat i))=some (.pointer (some ⟨b,o+i*s,none⟩)):=by
 simp only[mQ,hu,vl,mN.2 hi,cond_true,hs,Option.map_some,Int.toNat]
theorem CJ:∀l:List Int,CW (l.map (.int .i64)) (l.map (.int .i64))=true
 |[]=>rfl
 |x::l=>by
  have h1:ET (.int .i64 x) (.int .i64 x)=true:=by show(wD .i64 .i64&&kN x x)=true;rw[lS.2 rfl];rfl
  simp only[List.map_cons,CW,h1,CJ l,Bool.and_self]
end
end Sw
namespace Sw
noncomputable section
open Go Go.Proofs Go.RowKit
set_option maxRecDepth 100000
set_option maxHeartbeats 1600000
def FG(n:Nat):Nat:=if(97<=n/\n<=122)\/(65<=n/\n<=90)then 2 else if 48<=n/\n<=57 then 3 else if n∈[123,125,40,41,91,93,59,44,61,60,62]then 4 else if n∈[32,9,10,13]then 1 else 0
def FH:List Value:=(List.range 256).map fun n=>.int .u8 (.ofNat (FG n))
def U6:List Value:=(List.range 256).map fun _=>.int .u8 0
theorem Xk{n:Nat}(h:n<256):FH[0+n*1]?=some (.int .u8 (.ofNat (FG n))):=by
 rw[Nat.zero_add,Nat.mul_one]
 unfold FH
 rw[List.getElem?_map,List.getElem?_range h];rfl
def yM:Prop:=∀(O:Ht) (G:Nat),WF ex 415 [] O G (fL G O (fun v=>v=.agg FH.toArray))
def wR:Prop:=∀(a b:ByteArray) (O:Ht) (G:Nat),(strs a).length<4294967281->WF ex 348 [.string a,.string b] O G (fL G O (gi (Lib.contains (strs a) (strs b)=true)))
def I4:ByteArray:=⟨#[32,99,111,117,114,115,101,32,109,97,116,115,32,115,116,97,114,116,32,112,97,115,115,32,101,110,100,32,108,101,103,32,116,111,32,100,105,115,116,97,110,99,101,32,103,117,110,32,99,104,105,112,32,115,108,111,116,32,108,97,112,115,32,108,97,112,32,99,117,116,111,102,102,32,101,120,116,114,97,32,119,97,118,101,32,111,102,102,101,110,99,101,32,111,117,116,32,99,97,116,101,103,111,114,121,32,112,114,105,122,101,32,97,108,108,32,116,105,101,115,32,105,102,32,101,108,115,101,32,97,110,100,32,111,114,32,110,111,116,32,111,108,100,101,114,32,121,111,117,110,103,101,114,32,98,105,98,32,100,114,97,119,32,102,105,101,108,100,32,115,104,111,114,116,32,102,97,117,108,116,115,32,109,105,115,115,101,115,32,115,116,114,97,121,115,32,119,105,110,100,111,119,32,114,101,115,105,100,117,97,108,32,100,114,105,102,116,32,112,114,111,116,101,115,116,32,102,101,101,32,100,101,97,100,108,105,110,101,32]⟩
def I5(s:ByteArray):ByteArray:=⟨(strs (⟨(strs (⟨#[32]⟩:ByteArray)++strs s).toArray⟩:ByteArray)++strs (⟨#[32]⟩:ByteArray)).toArray⟩
def NH(s:ByteArray)(i:Nat):Prop:=FG (qm s i)≠2/\(i=0\/FG (qm s i)≠3/\qm s i≠95)
def Wq(s:ByteArray):Prop:=(∀i,i<s.data.toList.length->¬NH s i)/\s≠⟨#[]⟩
def YH(s:ByteArray):Prop:=Wq s/\Lib.contains (strs I4) (strs (I5 s))=true
def NI(s:ByteArray)(i:Nat):Prop:=((qm s i<97\/122<qm s i)/\(qm s i<48\/57<qm s i))/\qm s i≠95
def I6(s:ByteArray):Prop:=(1<=s.data.toList.length/\s.data.toList.length<=24/\97<=qm s 0/\qm s 0<=122)/\(∀i,i<s.data.toList.length->¬NI s i)/\¬YH s
theorem YI:ex.T.agg 5=some false:=U
theorem Xl:ex.T.size 5=some 1:=U
theorem SP:ex.T.size 608=some 256:=U
theorem SQ:ex.T.jo 608=some (.array 256 5):=U
theorem Dl:ex.T.jo 9=some .string:=U
theorem Ra:ex.T.zero 608=some (.agg (U6).toArray):=U
theorem SR(qB:yM)(w:ByteArray)(O:Ht)(G:Nat)(hs:w.data.toList.length<4611686018427387904):WF ex 347 [.string (w)] O G (fL G O (gi (Wq w))):=by
 refine wd Tryz.f347 36 [.tmp 2] fun hE=>sr<|oN 1<|sr<|WO.cons (WC.call 6 415 ([]) kf ((qB O (G)).mono ?_))
 rintro _ aC o_ ⟨rfl,aB,iI⟩
 refine oA (U6) Ra fun ah jt R=>?_
 refine WO.cons (WC.u_ o_ (0) (.agg FH.toArray) (U6) (FH) (FH) 256 rfl U U SP rfl U R rfl rfl U ?_)
 obtain⟨aa,A,W,S,av⟩:=stored ah o_ (.cells (FH) gm.plain)
 rw[A];clear A
 refine WO.nil<|WP.seq<|sr<|oN 3<|WP.block ?_
 refine mu [0,3,8,9] (fun m hs ns vs=>∃(b:Nat),b+m=w.data.toList.length/\vs=[.string (w),pt o_ 0,Y (.ofNat ((w).data.toList.length)),Y (.ofNat b)]/\o_+1<=ns/\HE (o_+1) aa hs/\(∀j,j<b->¬NH w j)) ?_ (w.data.toList.length) ?_
 ·
  rintro ax ab ay _ ⟨b,ar,rfl,X,u,hinv⟩ au
  have z:=(((hE.trans iI).trans jt).trans W).trans u
  refine sr ?_
  refine oq 10 (kT b ((w).data.toList.length)) fun az ai=>WO.nil<|WP.seq<|cq ai (fun aq=>?_) (fun aq=>?_)
  ·
   refine WP.skip<|WP.seq<|WP.block<|sr<|oN 2<|sr<|oX 2 ?_
   have C:b<((w).data.toList.length):=by omega
   refine WO.cons (WC.mq (v:=.int .u8 (.ofNat (qm w (b)))) 14 (xf ex.T 9 (.string (w)) (Y (.ofNat (b)))) kf (yL (k:=.i64) Dl C)<|WO.cons (WC.mq (v:=pt o_ (0+((qm w (b)))*1)) 15 (mQ ex.T 608 (pt o_ 0) (.int .u8 (.ofNat ((qm w (b)))))) kf (J8 (k:=.u8) SQ Xl (SO _ _))<|WO.cons (WC.mq (v:=.int .u8 (.ofNat (FG ((qm w (b)))))) 16 (kh ex.T ab.get 5 (pt o_ (0+((qm w (b)))*1))) kf (ki YI (u.get S) (Xk (SO _ _)))<|oN 1<|sr<|oX 1 ?_)))
   refine oq 18 (M8 (FG ((qm w (b)))) 2) fun e L=>oX 1<|gT 19 e (Y (.ofNat b)) ?_
   refine qH 19 e (vY b 0) fun o M=>gT 19 e (.bool o)<|og 22 (e&&!o) (.int .u8 (.ofNat (FG ((qm w (b)))))) ((bif e then .bool o else undef)) (by cases e<;>cases o<;>rfl) (fun h=>by obtain⟨rfl,rfl⟩:=yD h;exact fun _ _ _=>by kernel_rfl) ?_
   obtain⟨p,ad,N⟩:=M8 (FG ((qm w (b)))) 3
   refine og 22 (e&&!o) (.bool p) ((bif e then .bool o else undef)) (by cases e<;>cases o<;>rfl) (fun h=>by obtain⟨rfl,rfl⟩:=yD h;exact fun _ _ _=>by subst ad;kernel_rfl) ?_
   refine og 22 (e&&!o) (.bool p) ((bif e then .bool o else undef)) (by cases e<;>cases o<;>rfl) (fun h=>by obtain⟨rfl,rfl⟩:=yD h;exact fun _ _ _=>by kernel_rfl) ?_
   refine og 25 (e&&!o&&p) (.string (w)) ((bif e&&!o then .bool p else undef)) (by cases e<;>cases o<;>cases p<;>rfl) (fun h=>by obtain⟨rfl,rfl,rfl⟩:e=true/\o=false/\p=true:=(by simpa[and_assoc]using h);exact fun _ _ _=>by kernel_rfl) ?_
   refine og 25 (e&&!o&&p) (Y (.ofNat b)) ((bif e&&!o then .bool p else undef)) (by cases e<;>cases o<;>cases p<;>rfl) (fun h=>by obtain⟨rfl,rfl,rfl⟩:e=true/\o=false/\p=true:=(by simpa[and_assoc]using h);exact fun _ _ _=>by kernel_rfl) ?_
   have E:(e&&!o&&p)=true->b<((w).data.toList.length):=fun h=>by obtain⟨rfl,rfl,rfl⟩:e=true/\o=false/\p=true:=(by simpa[and_assoc]using h);have aD:=(L).1 rfl;have aE:¬(((b:Nat):Int)=(0)):=(fun k=>absurd ((M).2 k) (by decide));have aF:=(N).1 rfl;omega
   refine wW 25 (e&&!o&&p) (.int .u8 (.ofNat (qm w (b)))) ((bif e&&!o then .bool p else undef)) (by cases e<;>cases o<;>cases p<;>rfl) (fun h=>by obtain⟨rfl,rfl,rfl⟩:e=true/\o=false/\p=true:=(by simpa[and_assoc]using h);exact WC.mq (v:=.int .u8 (.ofNat (qm w (b)))) 28 (xf ex.T 9 (.string (w)) (Y (.ofNat (b)))) kf (yL (k:=.i64) Dl (E rfl)) rfl) ?_
   obtain⟨F,ae,aj⟩:=M8 (qm w (b)) 95
   refine og 25 (e&&!o&&p) (.bool F) ((bif e&&!o then .bool p else undef)) (by cases e<;>cases o<;>cases p<;>rfl) (fun h=>by obtain⟨rfl,rfl,rfl⟩:e=true/\o=false/\p=true:=(by simpa[and_assoc]using h);exact fun _ _ _=>by subst ae;kernel_rfl) ?_
   obtain⟨y,af,ak⟩:=nA N aj
   refine wW 22 (e&&!o) (.bool y) ((bif e then .bool o else undef)) (by cases e<;>cases o<;>rfl) (fun h=>by obtain⟨rfl,rfl⟩:=yD h;exact WC.mq (v:=.bool y) 30 (lu (.bool p) ((bif true&&!false&&p then .bool F else undef)) (.bool false)) kf (by rw[af];exact tL (fun h=>by obtain rfl:p=true:=h;rfl)) rfl) ?_
   obtain⟨J,ag,al⟩:=nO M ak
   refine Fu 19 e (.bool J) (by rintro rfl;exact WC.mq (v:=.bool J) 31 (lu (.bool o) (.bool true) ((bif true&&!o then .bool y else undef))) kf (by rw[ag];exact lg (fun h=>by obtain rfl:o=false:=h;rfl)) rfl) ?_
   refine nh 32 (nA L al) fun aA an=>WO.nil<|cq an (fun B=>?_) (fun B=>?_)
   ·
    refine sr<|oW 1 ⟨rfl,rfl,[.bool false],U,?_⟩
    exact⟨⟨false,rfl,fun h=>(by cases h),fun h=>(by have aw:=B;exact absurd (show NH w b by unfold NH;omega) (h.1 b om))⟩,od,z⟩
   ·
    refine WP.skip<|WP.region<|ov 33 (Y (.ofNat (b+1))) ?_ (fun _ _ _=>by rw[<-gQ (show b+1<9223372036854775808 by omega)];kernel_rfl)
    refine oN 1<|⟨w.data.toList.length-(b+1),om,rfl,rfl,b+1,om,U,?_,?_,?_⟩
    · exact X
    · exact u
    · intro j hj;rcases Nat.lt_succ_iff_lt_or_eq.1 hj with hj|rfl
      · exact hinv j hj
      · have aw:=B;unfold NH;omega
  ·
   refine WP.exit<|sr<|oX 1 ?_
   refine oq 35 (@nb (!(wV (strs w) (strs ⟨#[]⟩))) (w≠⟨#[]⟩) (Sd)) fun K ao=>oW 1 ⟨rfl,rfl,[.bool K],U,?_⟩
   exact⟨⟨K,rfl,ao.trans ⟨fun h=>⟨fun j hj=>hinv j om,h⟩,fun h=>h.2⟩⟩,od,z⟩
 ·
  exact⟨0,om,U,fg _,HE.refl _ _,(fun j h=>absurd h (fK _))⟩
theorem Rb(qB:yM)(qV:wR)(w:ByteArray)(O:Ht)(G:Nat)(hs:w.data.toList.length<1000):WF ex 262 [.string (w)] O G (fL G O (gi (YH w))):=by
 refine wd Tryz.f262 11 [.tmp 2] fun hE=>sr<|oN 1<|sr<|oX 1<|oD 4 (SR qB w O (G) om) fun b e j o_ y iI=>?_
 refine oX 1<|gT 5 b (.string (w))<|wW 5 (b) (.string ((⟨(strs (⟨#[32]⟩:ByteArray)++strs (w:ByteArray)).toArray⟩:ByteArray))) (.bool b) (by cases b<;>rfl) (fun h=>by obtain rfl:=h;have o:=(e).1 rfl;exact WC.mq (v:=.string ((⟨(strs (⟨#[32]⟩:ByteArray)++strs (w:ByteArray)).toArray⟩:ByteArray))) 7 (EK .add (⟨#[32]⟩) (w)) kf (NG (by decide) (by show w.data.toList.length<_;omega)) rfl) ?_
 refine wW 5 (b) (.string ((⟨(strs ((⟨(strs (⟨#[32]⟩:ByteArray)++strs (w:ByteArray)).toArray⟩:ByteArray):ByteArray)++strs (⟨#[32]⟩:ByteArray)).toArray⟩:ByteArray))) (.bool b) (by cases b<;>rfl) (fun h=>by obtain rfl:=h;have o:=(e).1 rfl;exact WC.mq (v:=.string ((⟨(strs ((⟨(strs (⟨#[32]⟩:ByteArray)++strs (w:ByteArray)).toArray⟩:ByteArray):ByteArray)++strs (⟨#[32]⟩:ByteArray)).toArray⟩:ByteArray))) 8 (EK .add ((⟨(strs (⟨#[32]⟩:ByteArray)++strs (w:ByteArray)).toArray⟩:ByteArray)) (⟨#[32]⟩)) kf (NG (by show(strs (⟨#[32]⟩:ByteArray)++strs w).length<_;rw[List.length_append];show 1+w.data.toList.length<_;omega) (by decide)) rfl) ?_
 refine WO.cons (WC.gq (b) (GB (b) (Lib.contains (strs I4) (strs (I5 w))=true) (o_) j) (.bool b) (g:=f_ (.tmp 5)) rfl U (by cases b<;>rfl) (fun h=>by obtain rfl:b=true:=(by simpa using h);have o:=(e).1 rfl;exact WC.call 9 348 ([.string I4,.string (I5 w)]) kf ((qV I4 (I5 w) j (o_) (by decide)).mono fun v e9 e_ ⟨⟨c,u,hc⟩,hn,he⟩=>⟨_,_,_,rfl,⟨c,u,hc⟩,hn,he⟩)) (fun h=>GB.off h) ?_)
 rintro _ z A ⟨⟨nZ,rfl,rZ⟩,p,m⟩
 refine nh 10 (nA e rZ) fun r5 vh=>oW 1 ⟨rfl,rfl,[.bool r5],U,?_⟩
 refine⟨⟨r5,rfl,?_⟩,od,((hE.trans iI).trans m)⟩
 exact vh
theorem zW(qB:yM)(qV:wR)(w:ByteArray)(O:Ht)(G:Nat):WF ex 167 [.string (w)] O G (fL G O (gi (I6 w))):=by
 refine wd Tryz.f167 53 [.tmp 2] fun hE=>sr<|oN 1<|WP.seq<|sr<|oX 2 ?_
 refine oq 7 (zm ((w).data.toList.length) 1) fun c1 p1=>oX 1<|gF 8 c1 (.string (w))<|gF 8 c1 (Y (.ofNat ((w).data.toList.length))) ?_
 refine nH 8 c1 (nQ 24 ((w).data.toList.length)) fun c2 aC=>?_
 refine mI 12 (nO p1 aC) fun p ai=>oX 1<|gF 13 p (.string (w)) ?_
 have N:(!p)=true->0<((w).data.toList.length):=fun h=>by obtain rfl:p=false:=(by simpa using h);have aG:¬((((((w).data.toList.length):Nat):Int)<(1))\/((24)<((((w).data.toList.length):Nat):Int))):=(fun k=>absurd ((ai).2 k) (by decide));omega
 refine xY 13 p (.int .u8 (.ofNat (qm w (0)))) (by rintro rfl;exact WC.mq (v:=.int .u8 (.ofNat (qm w (0)))) 15 (xf ex.T 9 (.string (w)) (Y (.ofNat (0)))) kf (yL (k:=.i64) Dl (N rfl)) rfl) ?_
 refine nH 13 p (zm (qm w (0)) 97) fun aL aD=>?_
 refine mI 17 (nO ai aD) fun u ar=>oX 1<|gF 18 u (.string (w)) ?_
 have R:(!u)=true->0<((w).data.toList.length):=fun h=>by obtain rfl:u=false:=(by simpa using h);have aG:¬(((((((w).data.toList.length):Nat):Int)<(1))\/((24)<((((w).data.toList.length):Nat):Int)))\/((((qm w (0)):Nat):Int)<(97))):=(fun k=>absurd ((ar).2 k) (by decide));omega
 refine xY 18 u (.int .u8 (.ofNat (qm w (0)))) (by rintro rfl;exact WC.mq (v:=.int .u8 (.ofNat (qm w (0)))) 20 (xf ex.T 9 (.string (w)) (Y (.ofNat (0)))) kf (yL (k:=.i64) Dl (R rfl)) rfl) ?_
 refine nH 18 u (nQ 122 (qm w (0))) fun aM aE=>?_
 refine mI 22 (nO ar aE) fun aN aF=>WO.nil<|cq aF (fun L=>?_) (fun L=>?_)
 ·
  refine sr<|oW 1 ⟨rfl,rfl,[.bool false],U,?_⟩
  exact⟨⟨false,rfl,fun h=>(by cases h),fun h=>(by have h:=h.1;omega)⟩,nR,hE⟩
 ·
  refine WP.skip<|WP.seq<|sr<|oN 3<|WP.block ?_
  refine mu [0,24,25] (fun m hs ns vs=>∃(b:Nat),b+m=w.data.toList.length/\vs=[.string (w),Y (.ofNat ((w).data.toList.length)),Y (.ofNat b)]/\G<=ns/\HE (G) O hs/\(∀j,j<b->¬NI w j)) ?_ (w.data.toList.length) ?_
  ·
   rintro aA W X _ ⟨b,av,rfl,S,z,hinv⟩ aw
   have y:=hE.trans z
   refine sr ?_
   refine oq 26 (kT b ((w).data.toList.length)) fun sJ v_=>WO.nil<|WP.seq<|cq v_ (fun au=>?_) (fun au=>?_)
   ·
    refine WP.skip<|WP.seq<|WP.block<|sr<|oN 2<|sr<|oX 2 ?_
    have B:b<((w).data.toList.length):=by omega
    refine WO.cons (WC.mq (v:=.int .u8 (.ofNat (qm w (b)))) 30 (xf ex.T 9 (.string (w)) (Y (.ofNat (b)))) kf (yL (k:=.i64) Dl B)<|oN 1<|sr<|oX 1 ?_)
    refine oq 32 (zm (qm w (b)) 97) fun C ad=>oX 1<|gF 33 C (.int .u8 (.ofNat (qm w (b)))) ?_
    refine nH 33 C (nQ 122 (qm w (b))) fun aH ae=>?_
    refine mI 36 (nO ad ae) fun e af=>oX 1<|gT 37 e (.int .u8 (.ofNat (qm w (b)))) ?_
    refine qH 37 e (zm (qm w (b)) 48) fun o ag=>gT 37 e (.bool o)<|og 40 (e&&!o) (.int .u8 (.ofNat (qm w (b)))) ((bif e then .bool o else undef)) (by cases e<;>cases o<;>rfl) (fun h=>by obtain⟨rfl,rfl⟩:=yD h;exact fun _ _ _=>by kernel_rfl) ?_
    obtain⟨E,aa,ah⟩:=nQ 57 (qm w (b))
    refine og 40 (e&&!o) (.bool E) ((bif e then .bool o else undef)) (by cases e<;>cases o<;>rfl) (fun h=>by obtain⟨rfl,rfl⟩:=yD h;exact fun _ _ _=>by subst aa;kernel_rfl) ?_
    obtain⟨F,ab,aj⟩:=nO ag ah
    refine Fu 37 e (.bool F) (by rintro rfl;exact WC.mq (v:=.bool F) 43 (lu (.bool o) (.bool true) ((bif true&&!o then .bool E else undef))) kf (by rw[ab];exact lg (fun h=>by obtain rfl:o=false:=h;rfl)) rfl) ?_
    refine nh 44 (nA af aj) fun J ak=>oX 1<|gT 45 J (.int .u8 (.ofNat (qm w (b)))) ?_
    refine qH 45 J (M8 (qm w (b)) 95) fun aI al=>?_
    refine nh 48 (nA ak al) fun aJ an=>WO.nil<|cq an (fun A=>?_) (fun A=>?_)
    ·
     refine sr<|oW 1 ⟨rfl,rfl,[.bool false],U,?_⟩
     exact⟨⟨false,rfl,fun h=>(by cases h),fun h=>(by have az:=A;exact absurd (show NI w b by unfold NI;omega) (h.2.1 b om))⟩,od,y⟩
    ·
     refine WP.skip<|WP.region<|ov 49 (Y (.ofNat (b+1))) ?_ (fun _ _ _=>by rw[<-gQ (show b+1<9223372036854775808 by omega)];kernel_rfl)
     refine oN 1<|⟨w.data.toList.length-(b+1),om,rfl,rfl,b+1,om,U,?_,?_,?_⟩
     · exact S
     · exact z
     · intro j hj;rcases Nat.lt_succ_iff_lt_or_eq.1 hj with hj|rfl
       · exact hinv j hj
       · have az:=A;unfold NI;omega
   ·
    refine WP.exit<|sr<|oX 1<|oD 51 (Rb qB qV w W (X) om) fun aK ao ay aB ax M=>?_
    refine oq 52 (nN ao) fun K aq=>oW 1 ⟨rfl,rfl,[.bool K],U,?_⟩
    exact⟨⟨K,rfl,aq.trans ⟨fun h=>⟨by have:=L;omega,fun j hj=>hinv j om,h⟩,fun h=>h.2.2⟩⟩,od,(y.trans M)⟩
  ·
   exact⟨0,om,U,fg _,HE.refl _ _,(fun j h=>absurd h (fK _))⟩
end
end Sw
namespace Sw
noncomputable section
open Go Go.Proofs Go.RowKit
set_option maxRecDepth 100000
set_option maxHeartbeats 1600000
theorem u5{α β:Type}{k:α->β}{l:List α}{i:Nat}{x:α}(h:l[i]?=some x):lC ((l.take (i+1)).map k)=yK (lC ((l.take i).map k)) (k x):=by
 rw[List.take_add_one,h,Option.toList_some,List.map_append];exact I2 _ _
def pr(L:List ByteArray):Prop:=(∀s∈L,I6 s)/\L.Nodup
theorem AY{α:Type}{N:α->ByteArray}{l:List α}{i:Nat}{x:α}(hx:l[i]?=some x)(h:pr ((l.take i).map N))(q:¬(¬I6 (N x)\/N x∈lC ((l.take i).map N))):pr ((l.take (i+1)).map N):=by
 rw[FF]at q
 rw[List.take_add_one,hx,Option.toList_some,List.map_append]
 refine⟨fun s hs=>?_,List.nodup_append.2 ⟨h.2,by simp,fun a e b hb=>?_⟩⟩
 · rcases List.mem_append.1 hs with hs|hs
   · exact h.1 s hs
   · rw[List.mem_singleton.1 hs];exact fu.1 fun k=>q (.inl k)
 · rw[List.mem_singleton.1 hb];rintro rfl;exact q (.inr e)
theorem Cd{α:Type}{N:α->ByteArray}{l:List α}{i:Nat}{x:α}(hx:l[i]?=some x)(q:¬I6 (N x)\/N x∈lC ((l.take i).map N)):¬pr (l.map N):=by
 intro h
 rw[FF]at q
 rcases q with q|q
 · exact q (h.1 _ (fU.2 ⟨x,fa hx,rfl⟩))
 · have hi:=(List.getElem?_eq_some_iff.1 hx).1
   have e:l=l.take i++x::l.drop (i+1):=by
    have:=List.take_append_drop i l
    rw[List.drop_eq_getElem_cons hi]at this
    rw[(List.getElem?_eq_some_iff.1 hx).2]at this
    exact this.symm
   have D:=h.2
   rw[e,List.map_append,List.nodup_append]at D
   exact D.2.2 _ q _ (fU.2 ⟨x,fz ..,rfl⟩) rfl
def BP(C:ka):Prop:=((((I6 C.lV/\pr (C.iD.l.map (·.lV)))/\pr (C.fD.l.map (·.lV)))/\pr (C.kS.l.map (·.lV)))/\pr (C.jB.l.map (·.lV)))/\pr (C.iC.l.map (·.lV))
theorem zY:MK ex.T 9 (fun x:ByteArray=>.string x):=YG U
theorem Ce:ex.T.jo 458=some (.map 9 4):=U
theorem PQ:ex.T.zero 4=some (.bool false):=U
theorem HD:ex.T.agg 140=some true:=U
theorem HF:ex.T.agg 146=some true:=U
theorem DZ:ex.T.agg 355=some true:=U
theorem D0:ex.T.agg 359=some true:=U
theorem yc:ex.T.size 140=some 2:=U
theorem FI:ex.T.size 146=some 2:=U
theorem yd:ex.T.size 355=some 4:=U
theorem ye:ex.T.size 359=some 3:=U
theorem Dm:ex.T.jo 22=some (.slice 140):=U
theorem PR:ex.T.jo 25=some (.slice 146):=U
theorem PS:ex.T.jo 26=some (.slice 355):=U
theorem PT:ex.T.jo 27=some (.slice 359):=U
theorem SS:ex.T.zero 140=some (.agg ⟨[.string (⟨#[]⟩),Y 0]⟩):=U
theorem SU:ex.T.zero 146=some (.agg ⟨[.string (⟨#[]⟩),Y 0]⟩):=U
theorem SX:ex.T.zero 355=some (.agg ⟨[.string (⟨#[]⟩),Y 0,Y 0,.bool false]⟩):=U
theorem SY:ex.T.zero 359=some (.agg ⟨[.string (⟨#[]⟩),Y 0,Y 0]⟩):=U
theorem YJ{p:Prop}(h:p:=by
 obtain⟨a1,c2,h_⟩:=hK.shape
 have mc:=hK.2.2
 rw[h_]
 refine GM mL fun hE=>sr<|oN 1<|sr<|WO.cons (WC.makeMap rfl ?_)
 obtain⟨zV,zZ,pP,uE⟩:=mapped O (G) (.map [] 0)
 rw[zZ];clear zZ
 refine oN 1<|WP.seq<|sr<|oN 3<|WP.block ?_
 refine mu [1,5,10,11,12] (fun m hs ns vs=>∃(hR:Nat) (s9:List MapEntry) (wh:Nat),hR+m=K.l.length/\vs=[.func (.func f) #[] b,.map (some G),.slice a1 (K.l.length) c2,Y (.ofNat (K.l.length)),Y (.ofNat hR)]/\G+1<=ns/\HE G O hs/\hs.get G=some (.map s9 wh)/\(pr ((K.l.take hR).map N))/\(kU (fun x:ByteArray=>.string x) (lC ((K.l.take hR).map N)) (fun _=>.bool true) s9)) ?_ (K.l.length) ?_
 ·
  rintro Fx D4 s_ _ ⟨hR,s9,wh,I7,rfl,xI,jE,zw,hinv,wi⟩ Cb
  refine sr ?_
  refine oq 13 (kT hR K.l.length) fun uL uC=>WO.nil<|WP.seq<|cq uC (fun yH=>?_) (fun yH=>?_)
  ·
   refine WP.skip<|WP.seq<|WP.block<|sr ?_
   have r7:hR<K.l.length:=by omega
   refine WO.cons (WC.iy h_ hK (hR) nM pq (r7) ?_)
   obtain⟨lF,pL⟩:=gE r7
   refine WO.cons (WC.ly h_ (hK.mono jE nR) pL tj pq<|oA [.string (⟨#[]⟩),Y 0] Sy fun wa s6 uZ=>?_)
   refine oS s_ (0) (.agg (pK lF).toArray) (pK lF) (pK lF) pq rfl rfl uZ fun xK u4 xL BQ=>?_
   have wj:=(jE.trans s6).trans u4
   refine WO.nil<|sr<|oX 1<|WO.cons (WC.iz s_ (0) (pK lF) U tj pq xL rfl<|WO.cons (WC.call 18 f ((.agg (pK lF).toArray)::b.toList) kf ((hf hR lF pL xK (s_+1) om wj).mono ?_)))
   rintro _ pU o4 ⟨rfl,CG,oY⟩
   refine oN 1<|WP.seq<|sr<|oX 1<|oD 20 (zW qB qV (N lF) pU (o4)) fun SZ NJ vC J9 Rc tc=>?_
   have w_:=(wj.trans oY).trans tc
   have yJ:=tc.get (oY.get ((BQ G om).trans (s6.get zw)))
   refine oq 21 (nN NJ) fun xu FJ=>oX 1<|gF 22 xu (.map (some G))<|gF 22 xu (.string ((N lF))) ?_
   obtain⟨AA,NK,IZ⟩:=@nb (@decide ((N lF)∈(lC ((K.l.take hR).map N))) (Classical.propDecidable _)) ((N lF)∈(lC ((K.l.take hR).map N))) (@decide_eq_true_iff _ (Classical.propDecidable _))
   refine xY 22 xu (.bool AA) (by rintro rfl;exact WC.mq (v:=.bool AA) 25 (pD ex.T vC.get 458 (.map (some G)) ((fun x:ByteArray=>.string x) (N lF)) false) kf (vv (O:=vC.get) zY Ce PQ yJ wi (N lF) NK) rfl) ?_
   refine mI 26 (nO FJ IZ) fun PO Dh=>WO.nil<|cq Dh (fun tP=>?_) (fun tP=>?_)
   ·
    refine sr<|oW 1 ⟨rfl,rfl,[.bool false],U,?_⟩
    exact⟨⟨false,rfl,fun h=>(by cases h),fun h=>absurd h (Cd pL tP)⟩,od,w_⟩
   ·
    refine WP.skip<|WP.region<|oX 2<|WO.cons (WC.mapUpdate (g:=(fun _=>.bool true)) (g':=(fun _=>.bool true)) G (N lF) (.bool true) rfl U U U zY Ce yJ wi (rf _) rfl (fun _ _=>rfl) ?_)
    rintro HG jN J4 xN HH U7 HI
    refine WO.nil<|WP.region<|ov 29 (Y (.ofNat (hR+1))) ?_ (fun _ _ _=>by rw[<-gQ (show hR+1<9223372036854775808 by omega)];kernel_rfl)
    refine oN 1<|⟨K.l.length-(hR+1),om,rfl,rfl,hR+1,HG,jN,om,U,?_,?_,?_,?_,?_⟩
    · exact od
    · exact(w_.trans xN)
    · exact HH
    · exact AY pL hinv tP
    · rw[u5 pL];exact HI
  ·
   refine WP.exit<|sr<|oW 1 ⟨rfl,rfl,[.bool true],U,?_⟩
   have hT:K.l.take hR=K.l:=fJ om
   rw[hT]at hinv
   exact⟨⟨true,rfl,fun _=>hinv,fun _=>rfl⟩,od,jE⟩
 ·
  exact⟨0,([]:List MapEntry),0,om,U,fg _,(hE.trans pP),uE,⟨(fun _ h=>by cases h),List.nodup_nil⟩,(show kU _ (lC ((K.l.take 0).map N)) _ _ from kU.nil)⟩):p:=h
theorem OV(qB:yM)(qV:wR)(N:tZ->ByteArray)(K:SV tZ)(f:FuncId)(b:Array Value)(O:Ht)(G:Nat)(hK:gB pn 2 O G K)(hf:∀(i:Nat) (x:tZ),K.l[i]?=some x->∀(e9:Ht) (e_:Nat),G<=e_->HE G O e9->WF ex f ((.agg (pn x).toArray)::b.toList) e9 e_ (fL e_ e9 (fun v=>v=.string (N x)))):WF ex 168 [K.v,.func (.func f) #[] b] O G (fL G O (gi (pr (K.l.map N)))):=by
 have mL:=fF (e:=ex) 168 Tryz.f168 30 [.tmp 4]
 have nM:=@Dm
 have pq:=@yc
 have tj:=@HD
 have Sy:=@SS
 let pK:=pn
 exact YJ
theorem NL{p:Prop}(h:p:=by
 refine GM mL fun hE=>sr<|oB (.agg (pK x).toArray) (pK x) fun jy iI ia=>?_
 refine oN 1<|sr<|oX 1<|oZ G 0 (.string (x.lV)) Nz ia rfl<|oW 1 ⟨rfl,rfl,[.string (x.lV)],U,?_⟩
 exact⟨rfl,od,(hE.trans iI)⟩):p:=h
theorem S4(x:tZ)(O:Ht)(G:Nat):WF ex 169 [.agg (pn x).toArray] O G (fL G O (fun v=>v=.string x.lV)):=by
 have mL:=fF (e:=ex) 169 Tryz.f169 5 [.tmp 2]
 let pK:=pn
 exact NL
theorem HJ(qB:yM)(qV:wR)(N:kc->ByteArray)(K:SV kc)(f:FuncId)(b:Array Value)(O:Ht)(G:Nat)(hK:jC iS 5 (fun O G y=>lZ O G y) O G K)(hf:∀(i:Nat) (x:kc),K.l[i]?=some x->∀(e9:Ht) (e_:Nat),G<=e_->HE G O e9->WF ex f ((.agg (iS x).toArray)::b.toList) e9 e_ (fL e_ e9 (fun v=>v=.string (N x)))):WF ex 170 [K.v,.func (.func f) #[] b] O G (fL G O (gi (pr (K.l.map N)))):=by
 obtain⟨a1,c2,h_⟩:=hK.1.shape
 have mc:=hK.1.2.2
 rw[h_]
 refine wd Tryz.f170 30 [.tmp 4] fun hE=>sr<|oN 1<|sr<|WO.cons (WC.makeMap rfl ?_)
 obtain⟨zV,zZ,pP,uE⟩:=mapped O (G) (.map [] 0)
 rw[zZ];clear zZ
 refine oN 1<|WP.seq<|sr<|oN 3<|WP.block ?_
 refine mu [1,5,10,11,12] (fun m hs ns vs=>∃(hR:Nat) (s9:List MapEntry) (wh:Nat),hR+m=K.l.length/\vs=[.func (.func f) #[] b,.map (some G),.slice a1 (K.l.length) c2,Y (.ofNat (K.l.length)),Y (.ofNat hR)]/\G+1<=ns/\HE G O hs/\hs.get G=some (.map s9 wh)/\(pr ((K.l.take hR).map N))/\(kU (fun x:ByteArray=>.string x) (lC ((K.l.take hR).map N)) (fun _=>.bool true) s9)) ?_ (K.l.length) ?_
 ·
  rintro Fx D4 s_ _ ⟨hR,s9,wh,I7,rfl,xI,jE,zw,hinv,wi⟩ Cb
  refine sr ?_
  refine oq 13 (kT hR K.l.length) fun uL uC=>WO.nil<|WP.seq<|cq uC (fun yH=>?_) (fun yH=>?_)
  ·
   refine WP.skip<|WP.seq<|WP.block<|sr ?_
   have r7:hR<K.l.length:=by omega
   refine WO.cons (WC.iy h_ hK.1 (hR) wQ oz (r7) ?_)
   obtain⟨lF,pL⟩:=gE r7
   refine WO.cons (WC.ly h_ (hK.1.mono jE nR) pL zv oz<|oA [.string (⟨#[]⟩),.slice none (0) 0,Y 0,.slice none (0) 0,Y 0] KV fun wa s6 uZ=>?_)
   refine oS s_ (0) (.agg (iS lF).toArray) (iS lF) (iS lF) oz rfl (fe.2 ⟨rfl,B8 _ (hK.2 lF (fa pL))⟩) uZ fun xK u4 xL BQ=>?_
   have wj:=(jE.trans s6).trans u4
   refine WO.nil<|sr<|oX 1<|WO.cons (WC.iz s_ (0) (iS lF) U zv oz xL rfl<|WO.cons (WC.call 18 f ((.agg (iS lF).toArray)::b.toList) kf ((hf hR lF pL xK (s_+1) om wj).mono ?_)))
   rintro _ pU o4 ⟨rfl,CG,oY⟩
   refine oN 1<|WP.seq<|sr<|oX 1<|oD 20 (zW qB qV (N lF) pU (o4)) fun SZ NJ vC J9 Rc tc=>?_
   have w_:=(wj.trans oY).trans tc
   have yJ:=tc.get (oY.get ((BQ G om).trans (s6.get zw)))
   refine oq 21 (nN NJ) fun xu FJ=>oX 1<|gF 22 xu (.map (some G))<|gF 22 xu (.string ((N lF))) ?_
   obtain⟨AA,NK,IZ⟩:=@nb (@decide ((N lF)∈(lC ((K.l.take hR).map N))) (Classical.propDecidable _)) ((N lF)∈(lC ((K.l.take hR).map N))) (@decide_eq_true_iff _ (Classical.propDecidable _))
   refine xY 22 xu (.bool AA) (by rintro rfl;exact WC.mq (v:=.bool AA) 25 (pD ex.T vC.get 458 (.map (some G)) ((fun x:ByteArray=>.string x) (N lF)) false) kf (vv (O:=vC.get) zY Ce PQ yJ wi (N lF) NK) rfl) ?_
   refine mI 26 (nO FJ IZ) fun PO Dh=>WO.nil<|cq Dh (fun tP=>?_) (fun tP=>?_)
   ·
    refine sr<|oW 1 ⟨rfl,rfl,[.bool false],U,?_⟩
    exact⟨⟨false,rfl,fun h=>(by cases h),fun h=>absurd h (Cd pL tP)⟩,od,w_⟩
   ·
    refine WP.skip<|WP.region<|oX 2<|WO.cons (WC.mapUpdate (g:=(fun _=>.bool true)) (g':=(fun _=>.bool true)) G (N lF) (.bool true) rfl U U U zY Ce yJ wi (rf _) rfl (fun _ _=>rfl) ?_)
    rintro HG jN J4 xN HH U7 HI
    refine WO.nil<|WP.region<|ov 29 (Y (.ofNat (hR+1))) ?_ (fun _ _ _=>by rw[<-gQ (show hR+1<9223372036854775808 by omega)];kernel_rfl)
    refine oN 1<|⟨K.l.length-(hR+1),om,rfl,rfl,hR+1,HG,jN,om,U,?_,?_,?_,?_,?_⟩
    · exact od
    · exact(w_.trans xN)
    · exact HH
    · exact AY pL hinv tP
    · rw[u5 pL];exact HI
  ·
   refine WP.exit<|sr<|oW 1 ⟨rfl,rfl,[.bool true],U,?_⟩
   have hT:K.l.take hR=K.l:=fJ om
   rw[hT]at hinv
   exact⟨⟨true,rfl,fun _=>hinv,fun _=>rfl⟩,od,jE⟩
 ·
  exact⟨0,([]:List MapEntry),0,om,U,fg _,(hE.trans pP),uE,⟨(fun _ h=>by cases h),List.nodup_nil⟩,(show kU _ (lC ((K.l.take 0).map N)) _ _ from kU.nil)⟩
theorem S5(x:kc)(O:Ht)(G:Nat)(hx:lZ O G x):WF ex 171 [.agg (iS x).toArray] O G (fL G O (fun v=>v=.string x.lV)):=by
 have mL:=fF (e:=ex) 171 Tryz.f171 5 [.tmp 2]
 let pK:=iS
 exact NL
theorem NM(qB:yM)(qV:wR)(N:q_->ByteArray)(K:SV q_)(f:FuncId)(b:Array Value)(O:Ht)(G:Nat)(hK:gB nT 2 O G K)(hf:∀(i:Nat) (x:q_),K.l[i]?=some x->∀(e9:Ht) (e_:Nat),G<=e_->HE G O e9->WF ex f ((.agg (nT x).toArray)::b.toList) e9 e_ (fL e_ e9 (fun v=>v=.string (N x)))):WF ex 172 [K.v,.func (.func f) #[] b] O G (fL G O (gi (pr (K.l.map N)))):=by
 have mL:=fF (e:=ex) 172 Tryz.f172 30 [.tmp 4]
 have nM:=@PR
 have pq:=@FI
 have tj:=@HF
 have Sy:=@SU
 let pK:=nT
 exact YJ
theorem S6(x:q_)(O:Ht)(G:Nat):WF ex 173 [.agg (nT x).toArray] O G (fL G O (fun v=>v=.string x.lV)):=by
 have mL:=fF (e:=ex) 173 Tryz.f173 5 [.tmp 2]
 let pK:=nT
 exact NL
theorem I8(qB:yM)(qV:wR)(N:mV->ByteArray)(K:SV mV)(f:FuncId)(b:Array Value)(O:Ht)(G:Nat)(hK:gB kl 4 O G K)(hf:∀(i:Nat) (x:mV),K.l[i]?=some x->∀(e9:Ht) (e_:Nat),G<=e_->HE G O e9->WF ex f ((.agg (kl x).toArray)::b.toList) e9 e_ (fL e_ e9 (fun v=>v=.string (N x)))):WF ex 174 [K.v,.func (.func f) #[] b] O G (fL G O (gi (pr (K.l.map N)))):=by
 obtain⟨a1,c2,h_⟩:=hK.shape
 have mc:=hK.2.2
 rw[h_]
 refine wd Tryz.f174 30 [.tmp 4] fun hE=>sr<|oN 1<|sr<|WO.cons (WC.makeMap rfl ?_)
 obtain⟨zV,zZ,pP,uE⟩:=mapped O (G) (.map [] 0)
 rw[zZ];clear zZ
 refine oN 1<|WP.seq<|sr<|oN 3<|WP.block ?_
 refine mu [1,5,10,11,12] (fun m hs ns vs=>∃(hR:Nat) (s9:List MapEntry) (wh:Nat),hR+m=K.l.length/\vs=[.func (.func f) #[] b,.map (some G),.slice a1 (K.l.length) c2,Y (.ofNat (K.l.length)),Y (.ofNat hR)]/\G+1<=ns/\HE G O hs/\hs.get G=some (.map s9 wh)/\(pr ((K.l.take hR).map N))/\(kU (fun x:ByteArray=>.string x) (lC ((K.l.take hR).map N)) (fun _=>.bool true) s9)) ?_ (K.l.length) ?_
 ·
  rintro Fx D4 s_ _ ⟨hR,s9,wh,I7,rfl,xI,jE,zw,hinv,wi⟩ Cb
  refine sr ?_
  refine oq 13 (kT hR K.l.length) fun uL uC=>WO.nil<|WP.seq<|cq uC (fun yH=>?_) (fun yH=>?_)
  ·
   refine WP.skip<|WP.seq<|WP.block<|sr ?_
   have r7:hR<K.l.length:=by omega
   refine WO.cons (WC.iy h_ hK (hR) PS yd (r7) ?_)
   obtain⟨lF,pL⟩:=gE r7
   refine WO.cons (WC.ly h_ (hK.mono jE nR) pL DZ yd<|oA [.string (⟨#[]⟩),Y 0,Y 0,.bool false] SX fun wa s6 uZ=>?_)
   refine oS s_ (0) (.agg (kl lF).toArray) (kl lF) (kl lF) yd rfl rfl uZ fun xK u4 xL BQ=>?_
   have wj:=(jE.trans s6).trans u4
   refine WO.nil<|sr<|oX 1<|WO.cons (WC.iz s_ (0) (kl lF) U DZ yd xL rfl<|WO.cons (WC.call 18 f ((.agg (kl lF).toArray)::b.toList) kf ((hf hR lF pL xK (s_+1) om wj).mono ?_)))
   rintro _ pU o4 ⟨rfl,CG,oY⟩
   refine oN 1<|WP.seq<|sr<|oX 1<|oD 20 (zW qB qV (N lF) pU (o4)) fun SZ NJ vC J9 Rc tc=>?_
   have w_:=(wj.trans oY).trans tc
   have yJ:=tc.get (oY.get ((BQ G om).trans (s6.get zw)))
   refine oq 21 (nN NJ) fun xu FJ=>oX 1<|gF 22 xu (.map (some G))<|gF 22 xu (.string ((N lF))) ?_
   obtain⟨AA,NK,IZ⟩:=@nb (@decide ((N lF)∈(lC ((K.l.take hR).map N))) (Classical.propDecidable _)) ((N lF)∈(lC ((K.l.take hR).map N))) (@decide_eq_true_iff _ (Classical.propDecidable _))
   refine xY 22 xu (.bool AA) (by rintro rfl;exact WC.mq (v:=.bool AA) 25 (pD ex.T vC.get 458 (.map (some G)) ((fun x:ByteArray=>.string x) (N lF)) false) kf (vv (O:=vC.get) zY Ce PQ yJ wi (N lF) NK) rfl) ?_
   refine mI 26 (nO FJ IZ) fun PO Dh=>WO.nil<|cq Dh (fun tP=>?_) (fun tP=>?_)
   ·
    refine sr<|oW 1 ⟨rfl,rfl,[.bool false],U,?_⟩
    exact⟨⟨false,rfl,fun h=>(by cases h),fun h=>absurd h (Cd pL tP)⟩,od,w_⟩
   ·
    refine WP.skip<|WP.region<|oX 2<|WO.cons (WC.mapUpdate (g:=(fun _=>.bool true)) (g':=(fun _=>.bool true)) G (N lF) (.bool true) rfl U U U zY Ce yJ wi (rf _) rfl (fun _ _=>rfl) ?_)
    rintro HG jN J4 xN HH U7 HI
    refine WO.nil<|WP.region<|ov 29 (Y (.ofNat (hR+1))) ?_ (fun _ _ _=>by rw[<-gQ (show hR+1<9223372036854775808 by omega)];kernel_rfl)
    refine oN 1<|⟨K.l.length-(hR+1),om,rfl,rfl,hR+1,HG,jN,om,U,?_,?_,?_,?_,?_⟩
    · exact od
    · exact(w_.trans xN)
    · exact HH
    · exact AY pL hinv tP
    · rw[u5 pL];exact HI
  ·
   refine WP.exit<|sr<|oW 1 ⟨rfl,rfl,[.bool true],U,?_⟩
   have hT:K.l.take hR=K.l:=fJ om
   rw[hT]at hinv
   exact⟨⟨true,rfl,fun _=>hinv,fun _=>rfl⟩,od,jE⟩
 ·
  exact⟨0,([]:List MapEntry),0,om,U,fg _,(hE.trans pP),uE,⟨(fun _ h=>by cases h),List.nodup_nil⟩,(show kU _ (lC ((K.l.take 0).map N)) _ _ from kU.nil)⟩
theorem S7(x:mV)(O:Ht)(G:Nat):WF ex 175 [.agg (kl x).toArray] O G (fL G O (fun v=>v=.string x.lV)):=by
 have mL:=fF (e:=ex) 175 Tryz.f175 5 [.tmp 2]
 let pK:=kl
 exact NL
theorem HK(qB:yM)(qV:wR)(N:l_->ByteArray)(K:SV l_)(f:FuncId)(b:Array Value)(O:Ht)(G:Nat)(hK:gB j1 3 O G K)(hf:∀(i:Nat) (x:l_),K.l[i]?=some x->∀(e9:Ht) (e_:Nat),G<=e_->HE G O e9->WF ex f ((.agg (j1 x).toArray)::b.toList) e9 e_ (fL e_ e9 (fun v=>v=.string (N x)))):WF ex 176 [K.v,.func (.func f) #[] b] O G (fL G O (gi (pr (K.l.map N)))):=by
 obtain⟨a1,c2,h_⟩:=hK.shape
 have mc:=hK.2.2
 rw[h_]
 refine wd Tryz.f176 30 [.tmp 4] fun hE=>sr<|oN 1<|sr<|WO.cons (WC.makeMap rfl ?_)
 obtain⟨zV,zZ,pP,uE⟩:=mapped O (G) (.map [] 0)
 rw[zZ];clear zZ
 refine oN 1<|WP.seq<|sr<|oN 3<|WP.block ?_
 refine mu [1,5,10,11,12] (fun m hs ns vs=>∃(hR:Nat) (s9:List MapEntry) (wh:Nat),hR+m=K.l.length/\vs=[.func (.func f) #[] b,.map (some G),.slice a1 (K.l.length) c2,Y (.ofNat (K.l.length)),Y (.ofNat hR)]/\G+1<=ns/\HE G O hs/\hs.get G=some (.map s9 wh)/\(pr ((K.l.take hR).map N))/\(kU (fun x:ByteArray=>.string x) (lC ((K.l.take hR).map N)) (fun _=>.bool true) s9)) ?_ (K.l.length) ?_
 ·
  rintro Fx D4 s_ _ ⟨hR,s9,wh,I7,rfl,xI,jE,zw,hinv,wi⟩ Cb
  refine sr ?_
  refine oq 13 (kT hR K.l.length) fun uL uC=>WO.nil<|WP.seq<|cq uC (fun yH=>?_) (fun yH=>?_)
  ·
   refine WP.skip<|WP.seq<|WP.block<|sr ?_
   have r7:hR<K.l.length:=by omega
   refine WO.cons (WC.iy h_ hK (hR) PT ye (r7) ?_)
   obtain⟨lF,pL⟩:=gE r7
   refine WO.cons (WC.ly h_ (hK.mono jE nR) pL D0 ye<|oA [.string (⟨#[]⟩),Y 0,Y 0] SY fun wa s6 uZ=>?_)
   refine oS s_ (0) (.agg (j1 lF).toArray) (j1 lF) (j1 lF) ye rfl rfl uZ fun xK u4 xL BQ=>?_
   have wj:=(jE.trans s6).trans u4
   refine WO.nil<|sr<|oX 1<|WO.cons (WC.iz s_ (0) (j1 lF) U D0 ye xL rfl<|WO.cons (WC.call 18 f ((.agg (j1 lF).toArray)::b.toList) kf ((hf hR lF pL xK (s_+1) om wj).mono ?_)))
   rintro _ pU o4 ⟨rfl,CG,oY⟩
   refine oN 1<|WP.seq<|sr<|oX 1<|oD 20 (zW qB qV (N lF) pU (o4)) fun SZ NJ vC J9 Rc tc=>?_
   have w_:=(wj.trans oY).trans tc
   have yJ:=tc.get (oY.get ((BQ G om).trans (s6.get zw)))
   refine oq 21 (nN NJ) fun xu FJ=>oX 1<|gF 22 xu (.map (some G))<|gF 22 xu (.string ((N lF))) ?_
   obtain⟨AA,NK,IZ⟩:=@nb (@decide ((N lF)∈(lC ((K.l.take hR).map N))) (Classical.propDecidable _)) ((N lF)∈(lC ((K.l.take hR).map N))) (@decide_eq_true_iff _ (Classical.propDecidable _))
   refine xY 22 xu (.bool AA) (by rintro rfl;exact WC.mq (v:=.bool AA) 25 (pD ex.T vC.get 458 (.map (some G)) ((fun x:ByteArray=>.string x) (N lF)) false) kf (vv (O:=vC.get) zY Ce PQ yJ wi (N lF) NK) rfl) ?_
   refine mI 26 (nO FJ IZ) fun PO Dh=>WO.nil<|cq Dh (fun tP=>?_) (fun tP=>?_)
   ·
    refine sr<|oW 1 ⟨rfl,rfl,[.bool false],U,?_⟩
    exact⟨⟨false,rfl,fun h=>(by cases h),fun h=>absurd h (Cd pL tP)⟩,od,w_⟩
   ·
    refine WP.skip<|WP.region<|oX 2<|WO.cons (WC.mapUpdate (g:=(fun _=>.bool true)) (g':=(fun _=>.bool true)) G (N lF) (.bool true) rfl U U U zY Ce yJ wi (rf _) rfl (fun _ _=>rfl) ?_)
    rintro HG jN J4 xN HH U7 HI
    refine WO.nil<|WP.region<|ov 29 (Y (.ofNat (hR+1))) ?_ (fun _ _ _=>by rw[<-gQ (show hR+1<9223372036854775808 by omega)];kernel_rfl)
    refine oN 1<|⟨K.l.length-(hR+1),om,rfl,rfl,hR+1,HG,jN,om,U,?_,?_,?_,?_,?_⟩
    · exact od
    · exact(w_.trans xN)
    · exact HH
    · exact AY pL hinv tP
    · rw[u5 pL];exact HI
  ·
   refine WP.exit<|sr<|oW 1 ⟨rfl,rfl,[.bool true],U,?_⟩
   have hT:K.l.take hR=K.l:=fJ om
   rw[hT]at hinv
   exact⟨⟨true,rfl,fun _=>hinv,fun _=>rfl⟩,od,jE⟩
 ·
  exact⟨0,([]:List MapEntry),0,om,U,fg _,(hE.trans pP),uE,⟨(fun _ h=>by cases h),List.nodup_nil⟩,(show kU _ (lC ((K.l.take 0).map N)) _ _ from kU.nil)⟩
theorem S8(x:l_)(O:Ht)(G:Nat):WF ex 177 [.agg (j1 x).toArray] O G (fL G O (fun v=>v=.string x.lV)):=by
 have mL:=fF (e:=ex) 177 Tryz.f177 5 [.tmp 2]
 let pK:=j1
 exact NL
theorem U8(qB:yM)(qV:wR)(C:ka)(O:Ht)(G:Nat)(b:pc O G C):WF ex 97 [.agg (iT C).toArray] O G (fL G O (gi (BP C))):=by
 refine wd Tryz.f97 31 [.tmp 2] fun hE=>sr<|oB (.agg (iT C).toArray) (iT C) fun jy iI ia=>?_
 have lq:=hE.trans iI nR
 have aF:=ff nR (fh (G))
 refine oN 1<|sr<|oX 1<|oZ G 0 (.string (C.lV)) Nz ia rfl<|oD 5 (zW qB qV C.lV jy (G+1)) fun nZ rZ aE aG ae W=>?_
 have F:=lq.trans W aF
 have M:=W.get ia (fo (G))
 have av:=fb (fo (G)) ae
 have z:=ff aF ae
 refine oX 1<|gT 6 nZ (pt G (0+1)) ?_
 obtain⟨a17,aW,an⟩:=b.iD.shape
 have bd:=b.iD.2.2
 refine lG 6 nZ G (0+1) (.slice a17 (C.iD.l.length) aW) wP M (by rw[<-an];rfl)<|WO.cons (WC.gq (nZ) (GB (nZ) (pr (C.iD.l.map (·.lV))) (aG) aE) (.bool nZ) (g:=f_ (.tmp 6)) rfl U (by cases nZ<;>rfl) (fun h=>by obtain rfl:nZ=true:=(by simpa using h);have aC:=(rZ).1 rfl;exact WC.call 9 168 ([C.iD.v,.func (.func 169) #[] #[]]) (fun _ _ _=>by(try rw[an]);kernel_rfl) ((OV qB qV (·.lV) C.iD 169 #[] aE (aG) (b.iD.mono F z) (fun i x hx e9 e_ hn he=>S4 x e9 e_)).mono fun v e9 e_ ⟨⟨c,p,hc⟩,hn,he⟩=>⟨_,_,_,rfl,⟨c,p,hc⟩,hn,he⟩)) (fun h=>GB.off h) ?_)
 rintro _ ai ay ⟨⟨uL,rfl,uC⟩,af,X⟩
 have y:=F.trans X z
 have N:=X.get M av
 have aw:=fb av af
 have u:=ff z af
 refine nh 10 (nA rZ uC) fun e aH=>oX 1<|gT 11 e (pt G (0+3)) ?_
 obtain⟨aS,aX,ao⟩:=b.fD.1.shape
 have bf:=b.fD.1.2.2
 refine lG 11 e G (0+3) (.slice aS (C.fD.l.length) aX) r6 N (by rw[<-ao];rfl)<|WO.cons (WC.gq (e) (GB (e) (pr (C.fD.l.map (·.lV))) (ay) ai) (.bool e) (g:=f_ (.tmp 11)) rfl U (by cases e<;>rfl) (fun h=>by obtain rfl:e=true:=(by simpa using h);have aC:=(aH).1 rfl;exact WC.call 14 170 ([C.fD.v,.func (.func 171) #[] #[]]) (fun _ _ _=>by(try rw[ao]);kernel_rfl) ((HJ qB qV (·.lV) C.fD 171 #[] ai (ay) (b.fD.mono (fun _ h he hn=>h.mono he hn) y u) (fun i x hx e9 e_ hn he=>S5 x e9 e_ (((b.fD.mono (fun _ h he hn=>h.mono he hn) y u).2 x (fa hx)).mono he hn))).mono fun v e9 e_ ⟨⟨c,p,hc⟩,hn,he⟩=>⟨_,_,_,rfl,⟨c,p,hc⟩,hn,he⟩)) (fun h=>GB.off h) ?_)
 rintro _ aj az ⟨⟨bn,rfl,a6⟩,ag,aa⟩
 have J:=y.trans aa u
 have R:=aa.get N aw
 have ax:=fb aw ag
 have A:=ff u ag
 refine nh 15 (nA aH a6) fun j aI=>oX 1<|gT 16 j (pt G (0+4)) ?_
 obtain⟨aT,aY,aq⟩:=b.kS.shape
 have bg:=b.kS.2.2
 refine lG 16 j G (0+4) (.slice aT (C.kS.l.length) aY) Ge R (by rw[<-aq];rfl)<|WO.cons (WC.gq (j) (GB (j) (pr (C.kS.l.map (·.lV))) (az) aj) (.bool j) (g:=f_ (.tmp 16)) rfl U (by cases j<;>rfl) (fun h=>by obtain rfl:j=true:=(by simpa using h);have aC:=(aI).1 rfl;exact WC.call 19 172 ([C.kS.v,.func (.func 173) #[] #[]]) (fun _ _ _=>by(try rw[aq]);kernel_rfl) ((NM qB qV (·.lV) C.kS 173 #[] aj (az) (b.kS.mono J A) (fun i x hx e9 e_ hn he=>S6 x e9 e_)).mono fun v e9 e_ ⟨⟨c,p,hc⟩,hn,he⟩=>⟨_,_,_,rfl,⟨c,p,hc⟩,hn,he⟩)) (fun h=>GB.off h) ?_)
 rintro _ ak aA ⟨⟨bo,rfl,a7⟩,ah,ab⟩
 have K:=J.trans ab A
 have S:=ab.get R ax
 have aR:=fb ax ah
 have B:=ff A ah
 refine nh 20 (nA aI a7) fun m aJ=>oX 1<|gT 21 m (pt G (0+5)) ?_
 obtain⟨aU,aZ,ar⟩:=b.jB.shape
 have bh:=b.jB.2.2
 refine lG 21 m G (0+5) (.slice aU (C.jB.l.length) aZ) Gf S (by rw[<-ar];rfl)<|WO.cons (WC.gq (m) (GB (m) (pr (C.jB.l.map (·.lV))) (aA) ak) (.bool m) (g:=f_ (.tmp 21)) rfl U (by cases m<;>rfl) (fun h=>by obtain rfl:m=true:=(by simpa using h);have aC:=(aJ).1 rfl;exact WC.call 24 174 ([C.jB.v,.func (.func 175) #[] #[]]) (fun _ _ _=>by(try rw[ar]);kernel_rfl) ((I8 qB qV (·.lV) C.jB 175 #[] ak (aA) (b.jB.mono K B) (fun i x hx e9 e_ hn he=>S7 x e9 e_)).mono fun v e9 e_ ⟨⟨c,p,hc⟩,hn,he⟩=>⟨_,_,_,rfl,⟨c,p,hc⟩,hn,he⟩)) (fun h=>GB.off h) ?_)
 rintro _ al aB ⟨⟨bp,rfl,a8⟩,aO,ad⟩
 have L:=K.trans ad B
 have aM:=ad.get S aR
 have E:=ff B aO
 refine nh 25 (nA aJ a8) fun o aK=>oX 1<|gT 26 o (pt G (0+6)) ?_
 obtain⟨aV,xu,au⟩:=b.iC.shape
 have bj:=b.iC.2.2
 refine lG 26 o G (0+6) (.slice aV (C.iC.l.length) xu) Dj aM (by rw[<-au];rfl)<|WO.cons (WC.gq (o) (GB (o) (pr (C.iC.l.map (·.lV))) (aB) al) (.bool o) (g:=f_ (.tmp 26)) rfl U (by cases o<;>rfl) (fun h=>by obtain rfl:o=true:=(by simpa using h);have aC:=(aK).1 rfl;exact WC.call 29 176 ([C.iC.v,.func (.func 177) #[] #[]]) (fun _ _ _=>by(try rw[au]);kernel_rfl) ((HK qB qV (·.lV) C.iC 177 #[] al (aB) (b.iC.mono L E) (fun i x hx e9 e_ hn he=>S8 x e9 e_)).mono fun v e9 e_ ⟨⟨c,p,hc⟩,hn,he⟩=>⟨_,_,_,rfl,⟨c,p,hc⟩,hn,he⟩)) (fun h=>GB.off h) ?_)
 rintro _ bk bl ⟨⟨jN,rfl,a_⟩,aP,aN⟩
 have aL:=L.trans aN E
 have aQ:=ff E aP
 refine nh 30 (nA aK a_) fun aD bc=>oW 1 ⟨rfl,rfl,[.bool aD],U,?_⟩
 refine⟨⟨aD,rfl,?_⟩,aQ,aL⟩
 exact bc
end
end Sw
