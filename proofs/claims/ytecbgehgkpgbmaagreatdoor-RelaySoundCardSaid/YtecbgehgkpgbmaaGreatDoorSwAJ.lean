/- A part of the proof that the law returns true for every input that its row speaks of. No condition is added. -/
import Derived.Test.YtecbgehgkpgbmaaGreatDoorSwAI
import Derived.Test.YtecbgehgkpgbmaaGreatDoorSwAG
import Derived.Test.YtecbgehgkpgbmaaGreatDoorSwAF
import Derived.Lib.IndexMore
namespace Sw
noncomputable section
open Go Go.Proofs Go.RowKit
set_option maxRecDepth 100000
set_option maxHeartbeats 1600000
theorem gx.atV{α:Type}{enc:α->List Value}{n G:Nat}{O:Ht}{s:SV α}{v:Value}(h:gx enc n O G s)(e:s.v=v):gx enc n O G ⟨v,s.l⟩:=by subst e;exact h
inductive uX:List (List fL)->List fL->Prop where
 |one (x:List fL):uX [x] x
 |snoc {W:List (List fL)} {J y J':List fL}:uX W J->M8 J y J'->uX (W++[y]) J'
theorem UD{W:List (SV fL)}{i:Nat}{x:SV fL}(hi:i=0)(hx:W[i]?=some x):uX ((W.take (i+1)).map (·.l)) x.l:=by
 subst hi;rw[List.take_add_one,hx];exact .one _
theorem Sh{W:List (SV fL)}{i:Nat}{x:SV fL}{J J':List fL}(hi:i≠0)(h:(i=0/\J=[])\/uX ((W.take i).map (·.l)) J)(hx:W[i]?=some x)(b:M8 J x.l J'):uX ((W.take (i+1)).map (·.l)) J':=by
 rcases h with h|h
 · exact absurd h.1 hi
 · rw[List.take_add_one,hx,Option.toList_some,List.map_append]
   exact .snoc h b
def V4(W:List (List fL))(l:List fL):Prop:=(W=[]/\l=[])\/uX W l
theorem WU(ai:zr)(W:SV (SV fL))(O:Ht)(G:Nat)(o:ju lC 1 (fun O G y=>gx fc 2 O G y) O G W):WF ex 30 [W.v,.func (.func 31) #[] #[]] O G (fun v eZ e5=>Iy (V4 (W.l.map (·.l))) v eZ e5/\G<=e5/\HE G O eZ):=by
 obtain⟨a1,c2,hR⟩:=o.1.shape
 have lU:=o.1.2.2
 rw[hR]
 refine wd Tryz.f30 31 [.tmp 4,.tmp 5] fun hE=>sr<|oN 2<|WP.seq<|sr<|oN 3<|WP.block ?_
 refine mg [1,4,8,9,10] (fun m hs ns vs=>∃(fR:Nat) (J:SV fL),fR+m=W.l.length/\vs=[.func (.func 31) #[] #[],J.v,.slice a1 (W.l.length) c2,Y (.ofNat (W.l.length)),Y (.ofNat fR)]/\G<=ns/\HE (G) O hs/\(gx fc 2 hs ns J)/\((fR=0/\J.l=[])\/uX ((W.l.take fR).map (·.l)) J.l)) ?_ (W.l.length) ?_
 ·
  rintro xM p_ iY _ ⟨fR,J,ui,rfl,oF,jl,C,B⟩ uj
  have j2:=hE.trans jl nR
  have j:=e8 nR oF
  have S:=HE.refl (iY) p_
  have ac:=e9 (iY)
  refine sr ?_
  refine oq 11 (kL fR W.l.length) fun rO uW=>WO.nil<|WP.seq<|cq uW (fun ag=>?_) (fun ag=>?_)
  ·
   refine WP.skip<|WP.seq<|WP.block<|sr<|oX 1 ?_
   have u:fR<W.l.length:=by omega
   refine WO.cons (WC.iy hR o.1 (fR) AW qH (u) ?_)
   obtain⟨b,e⟩:=gE u
   obtain⟨a21,N,p⟩:=(o.2 b (cs e)).shape
   have ah:=(o.2 b (cs e)).2.2
   refine WO.cons (WC.lz (.slice a21 (b.l.length) N) hR (o.1.mono j2 j) e (by rw[<-p];rfl) nY<|oN 2<|WP.seq<|sr<|oX 1 ?_)
   refine oq 16 (vK fR 0) fun ux ul=>WO.nil<|cq ul (fun yq=>?_) (fun yq=>?_)
   ·
    refine sr<|oN 2<|WP.exit<|WP.region<|ov 29 (Y (.ofNat (fR+1))) ?_ (fun _ _ _=>by rw[<-gM (show fR+1<9223372036854775808 by omega)];kernel_rfl)
    refine oN 1<|⟨W.l.length-(fR+1),om,rfl,rfl,fR+1,⟨.slice a21 (b.l.length) N,b.l⟩,om,U,?_,?_,?_,?_⟩
    · exact oF
    · exact jl
    · exact gx.atV ((o.2 b (cs e)).mono j2 j) p
    · exact .inr (show uX _ b.l from UD om e)
   ·
    refine WP.skip<|sr<|oX 3<|WO.cons (WC.call 22 31 ([J.v,b.v]) (fun _ _ _=>by(try rw[p]);kernel_rfl) ((QL ai J b p_ (iY) (C.mono S ac) ((o.2 b (cs e)).mono j2 j)).mono ?_))
    rintro _ vO L ⟨⟨A,z28,rfl,z,K⟩,F,E⟩
    have R:=j2.trans E j
    have X:=jl.trans E oF
    have ad:=e8 oF F
    have ab:=e8 j F
    have aa:=HE.refl (L) vO
    have ae:=e9 (L)
    refine oN 5<|sr<|oX 1 ?_
    refine oq 26 (qG z28 0) fun aj af=>WO.nil<|cq af (fun M=>?_) (fun M=>?_)
    ·
     refine sr<|oW 4 ⟨rfl,rfl,[A.v,Y z28],U,?_⟩
     exact⟨⟨A,z28,rfl,z,K.elim (fun h=>absurd h.1 M) .inr⟩,ab,R⟩
    ·
     refine WP.skip<|WP.region<|ov 29 (Y (.ofNat (fR+1))) ?_ (fun _ _ _=>by rw[<-gM (show fR+1<9223372036854775808 by omega)];kernel_rfl)
     refine oN 1<|⟨W.l.length-(fR+1),om,rfl,rfl,fR+1,A,om,U,?_,?_,?_,?_⟩
     · exact ad
     · exact X
     · exact(z.mono aa ae)
     · rcases K with⟨_,D⟩|⟨h1,_⟩
       · exact .inr (Sh om B e D)
       · exact absurd (show(z28:Int)≠0 by omega) M
  ·
   refine WP.exit<|sr<|oW 3 ⟨rfl,rfl,[J.v,Y 0],U,?_⟩
   have hT:W.l.take fR=W.l:=fy om
   rw[hT]at B
   refine⟨⟨J,0,rfl,C,.inl ⟨rfl,B.imp (fun h=>⟨?_,h.2⟩) id⟩⟩,j,j2⟩
   rw[List.eq_nil_of_length_eq_zero (show W.l.length=0 by omega)];rfl
 ·
  exact⟨0,⟨.slice none 0 0,[]⟩,om,U,e9 _,HE.refl _ _,tf,.inl ⟨rfl,rfl⟩⟩
end
end Sw
namespace Sw
noncomputable section
namespace Pub
open Classical
structure Yf{K:Type}(lt:K->K->Prop):Prop where
 irr:∀x,¬lt x x
 tr:∀{x y z},lt x y->lt y z->lt x z
 zC:∀x y,lt x y\/x=y\/lt y x
section
variable {K uu:Type}{lt:K->K->Prop}
theorem Yf.eq(h:Yf lt){x y:K}(a:¬lt x y)(b:¬lt y x):x=y:=by
 rcases h.zC x y with k|k|k
 · exact absurd k a
 · exact k
 · exact absurd k b
def Nc{E:Type}(lt:K->K->Prop)(k:K)(l:List (K×E)):Prop:=∀p∈l,lt k p.1
def V5{E:Type}(lt:K->K->Prop):List (K×E)->Prop
 |[]=>True
 |x::l=>Nc lt x.1 l/\V5 lt l
theorem Nc.cons{E:Type}{k:K}{x:K×E}{l:List (K×E)}(h:Nc lt k (x::l)):lt k x.1/\Nc lt k l:=⟨h x (fh ..),fun p O=>h p (fw _ O)⟩
theorem Nc.mk{E:Type}{k:K}{x:K×E}{l:List (K×E)}(h:lt k x.1)(hl:Nc lt k l):Nc lt k (x::l):=fun p O=>by
 rcases fM.1 O with rfl|O
 · exact h
 · exact hl p O
theorem V5.sub{E:Type}{l b:List (K×E)}(h:V5 lt l)(hs:b.Sublist l):V5 lt b:=by
 induction hs with
 |slnil=>trivial
 |cons a _ ih=>exact ih h.2
 |cons_cons a hs ih=>exact⟨fun p O=>h.1 p (hs.subset O),ih h.2⟩
end
end Pub
end
end Sw
namespace Sw
noncomputable section
open Go Go.RowKit
section
variable {e:Env}{fm:Fm}{I:Tm}{ds:List Deferred}{O:Ht}{G:Nat}{gS:List Nat}{Q:St->Prop}{all:List Oper}{i j:Nat}{w:Bool}{d:Tmp}{ty:TypeId}{pos:String}{j0:Array Edge}{l:List Cl}{s t:TypeId}{x:Operand}
theorem WC.conv(v:Value){y:Value}(hx:(fV x).run I=y)(h:uE e.T O.get s t y G=some (v,[],0))(q:Q ⟨I.set d v,ds,O,G,gS⟩):WC e fm (iJ all ⟨some d,.convert s t x,ty,pos,j0,none⟩) ⟨I,ds,O,G,gS⟩ Q:=by
 refine .val d v (fun rec Z k=>?_) q
 subst hx
 have:(iJ all ⟨some d,.convert s t x,ty,pos,j0,none⟩).run e rec fm I ds O G Z k=qB (uE e.T O.get s t ((fV x).run I) G) (tK (fun t v=>t.set d v) e.low I ds O G Z k):=rfl
 rw[this,h];rfl
end
def ZM(a b:ByteArray):Prop:=HM (strs a) (strs b)=true
def vw(v:Value)(n i l:Nat):Value:=match v with
 |.slice (some ⟨b,o,none⟩) _ c=>.slice (some ⟨b,o+i*n,none⟩) l (c-i)
 |_=>.slice none 0 0
theorem Yg(k:Nat)(v:Value)(n i l:Nat):lg k (vw v n i l) (vw v n i l)=true:=by
 unfold vw
 split
 · exact uQ ..
 · exact xH ..
def UE{α:Type}(enc:α->List Value)(n:Nat)(O:Ht)(G b o:Nat)(x:α):Prop:=b<G/\∃m cells,O.get b=some (.cells cells m)/\lH n (cells.drop o)=some (enc x)
theorem UE.mono{α:Type}{enc:α->List Value}{n:Nat}{O eZ:Ht}{G e5 b o:Nat}{x:α}(h:UE enc n O G b o x)(he:HE G O eZ)(hn:G<=e5):UE enc n eZ e5 b o x:=by
 obtain⟨h1,m,cells,D,h3⟩:=h
 exact⟨by omega,m,cells,he.get D h1,h3⟩
section
variable {α:Type}{enc:α->List Value}{n:Nat}{O eZ:Ht}{G e5:Nat}{s:SV α}{T:Ty}{t el i l p:Nat}
theorem Si{b:Nat}{Z:List Value}{m:gi}(h:O.get b=some (.cells Z m))(hm:m.mG=none\/m.unit=n):A6 O.get b n=true:=by
 unfold A6
 rw[h]
 rcases hm with hm|hm
 · simp only[hm]
 · cases hg:m.mG with
   |none=>simp only[hg]
   |some g=>simp only[hg,hm];exact Nat.beq_refl _
theorem Yh(h:gx enc n O G s):vw s.v n 0 s.l.length=s.v:=by
 rcases h.2.1 with⟨h1,D|⟨q,D⟩⟩|⟨b,cap,m,h1,_⟩
 · rw[h1,D];rfl
 · rw[h1,D];show Value.slice (some ⟨q,0+0*n,none⟩) 0 (0-0)=_;simp
 · rw[h1];show Value.slice (some ⟨b,0+0*n,none⟩) s.l.length (cap-0)=_;simp
theorem Nd{a b:Nat}(h:a<=b):Nat.ble a b=true:=gh h
theorem UF(h:gx enc n O G s)(hu:T.jh t=some (.slice el))(hs:T.size el=some n)(e:i+l<=s.l.length)(o:p<=l):sH T O.get t (vw s.v n i l) none (some (.int .i64 (.ofNat p))) none=some (vw s.v n i p):=by
 rcases h.2.1 with⟨h1,D|⟨q,D⟩⟩|⟨b,cap,m,h1,D,h3,h4,u,j⟩
 · rw[h1]at e
   have hl:l=0:=by simp at e;omega
   have Eb:p=0:=by omega
   subst hl Eb
   rw[D]
   show sH T O.get t (.slice none 0 0) none (some (.int .i64 (.ofNat 0))) none=some (.slice none 0 0)
   simp only[sH,hu,hs,Option.bind_some];rfl
 · rw[h1]at e
   have hl:l=0:=by simp at e;omega
   have hi:i=0:=by simp at e;omega
   have Eb:p=0:=by omega
   subst hl Eb hi
   rw[D]
   show sH T O.get t (.slice (some ⟨q,0+0*n,none⟩) 0 (0-0)) none (some (.int .i64 (.ofNat 0))) none=some (.slice (some ⟨q,0+0*n,none⟩) 0 (0-0))
   have e0:Nat.ble 0 0=true:=rfl
   simp[sH,hu,hs,we,xD,I5,e0]
 · rw[h1]
   show sH T O.get t (.slice (some ⟨b,0+i*n,none⟩) l (cap-i)) none (some (.int .i64 (.ofNat p))) none=some (.slice (some ⟨b,0+i*n,none⟩) p (cap-i))
   have e1:Nat.ble l (cap-i)=true:=Nd (by omega)
   have e2:Nat.ble p (cap-i)=true:=Nd (by omega)
   have e3:Nat.ble 0 p=true:=Nd (by omega)
   simp[sH,hu,hs,e1,Si h4 j,we,xD,I5,e2]
theorem Sj(h:gx enc n O G s)(hu:T.jh t=some (.slice el))(hs:T.size el=some n)(b:p<=s.l.length):sH T O.get t s.v none (some (.int .i64 (.ofNat p))) none=some (vw s.v n 0 p):=by
 have:=UF (i:=0) h hu hs (show 0+s.l.length<=s.l.length by omega) b
 rwa[Yh h]at this
end
def HC(B G:Nat)(O eZ:Ht):Prop:=∀c Z m,B<=c->c<G->O.get c=some (.cells Z m)->eZ.get c=some (.cells Z m)
theorem HE.hc{B G:Nat}{O eZ:Ht}(h:HE G O eZ):HC B G O eZ:=fun _ _ _ _ D h3=>h.get h3 D
def Fj{α:Type}(B:Nat)(enc:α->List Value)(n:Nat)(O:Ht)(G:Nat)(s:SV α):Prop:=gx enc n O G s/\∀b l c,s.v=.slice (some ⟨b,0,none⟩) l c->0<c->B<=b
section
variable {α:Type}{enc:α->List Value}{n B B' gr:Nat}{O eZ:Ht}{G e5:Nat}{s J:SV α}
theorem Fj.mono(h:Fj B enc n O G s)(hc:HC B G O eZ)(hn:G<=e5):Fj B enc n eZ e5 s:=by
 refine⟨⟨h.1.1,?_,h.1.2.2⟩,h.2⟩
 rcases h.1.2.1 with k|⟨b,cap,m,h1,D,h3,h4,e⟩
 · exact .inl k
 · exact .inr ⟨b,cap,m,h1,D,by omega,hc b _ _ (h.2 b _ _ h1 D) h3 h4,e⟩
theorem Fj.le(h:Fj B enc n O G s)(hb:B'<=B):Fj B' enc n O G s:=⟨h.1,fun b l c e h0=>e8 hb (h.2 b l c e h0)⟩
theorem Fj.nil:Fj B enc n O G ⟨.slice none 0 0,[]⟩:=⟨⟨(fun _ h=>by cases h),.inl ⟨rfl,.inl rfl⟩,by show(0:Nat)<_;decide⟩,(fun b l c e=>by cases e)⟩
def Fk(enc:α->List Value)(n B:Nat)(O:Ht)(G:Nat)(J:SV α):Prop:=
 mq enc n B O G J\/(J.l=[]/\∃b,J.v=.slice (some ⟨b,0,none⟩) 0 0/\B<=b/\b<G/\O.get b=some (.cells [] gi.plain))
theorem Fk.mono(h:Fk enc n B O G J)(he:HE G O eZ)(hn:G<=e5):Fk enc n B eZ e5 J:=by
 rcases h with h|⟨h1,b,D,h3,h4,e⟩
 · exact .inl (h.mono he hn)
 · exact .inr ⟨h1,b,D,h3,by omega,he.get e h4⟩
theorem Fk.ok(h:Fk enc n B O G J)(he:∀x∈J.l,(enc x).length=n)(hs:J.l.length<281474976710656):gx enc n O G J:=by
 rcases h with h|⟨h1,b,D,_⟩
 · exact h.ok he hs
 · exact⟨he,.inl ⟨h1,.inr ⟨b,D⟩⟩,hs⟩
theorem Fk.append{T:Ty}{st xt el:Nat}{x z:Value}{inf:TypeInfo}(j:List α)(h:Fk enc n B O G J)(hlen:∀y∈J.l,(enc y).length=n)(hu:T.jh st=some (.slice el))(hs:T.size el=some n)(E:T.zero el=some z)(hi:T.kd el=some inf)
 (hx:pE T xt x=some (j.length,false)) (m:lL O.get (j.length*n) x=some (j.flatMap enc)) (o:uD n x=true) (S:∀y∈j,(enc y).length=n) (u:(j.flatMap enc).all one=true) (K:0<n)
 (b2:inf.bytes<=1024) (p:J.l.length+j.length<=1048576) (M:B<=G):
 ∃v' jC k,jN T O.get st xt J.v x G=some (v',jC,k)/\Fk enc n B (jg jC O) (G+k) ⟨v',J.l++j⟩/\HE B O (jg jC O):=by
 have b1:(J.l.length+j.length)*inf.bytes<=70368744177664:=e8 (gR p b2) (by decide)
 rcases h with h|⟨h1,b,D,h3,h4,L⟩
 · obtain⟨v',jC,k,W,X,q3⟩:=h.yY j hlen hu hs E hi hx m o S u K b1 (by omega) (by omega) M
   exact⟨v',jC,k,W,.inl X,q3⟩
 · rw[h1]at b1 p
   have b1:(0+j.length)*inf.bytes<=70368744177664:=b1
   have p:0+j.length<=70368744177664:=by simp at p;omega
   rcases gu j.length with hm|hm
   · obtain rfl:=List.eq_nil_of_length_eq_zero hm
     have R:pE T xt x=some (0,false):=hx
     have A:lL O.get (0*n) x=some []:=m
     have F:(0+0)*inf.bytes<=70368744177664:=by simp
     refine⟨.slice (some ⟨b,0,none⟩) 0 0,[],0,?_,.inr ⟨by rw[h1];rfl,b,rfl,h3,h4,L⟩,HE.refl _ _⟩
     rw[D]
     simp only[jN,hu,hs,E,hi,R,lX,cond_false,o,cond_true,A,Option.bind_some,List.all_nil,Nat.ble_eq_true_of_le F,Nat.ble_eq_true_of_le (show inf.bytes<=1073741824 by omega),Nat.ble_eq_true_of_le (show 0+0<=70368744177664 by omega),Bool.and_true,Nat.ble_eq_true_of_le (show 0+0<=0 by omega)]
   · have C:Nat.ble (0+j.length) 0=false:=by
      cases hb:Nat.ble (0+j.length) 0 with
      |false=>rfl
      |true=>have:=fa hb;omega
     have e1:jN T O.get st xt (.slice (some ⟨b,0,none⟩) 0 0) x G=pM O.get (some ⟨b,0,none⟩) 0 n (j.flatMap enc) j.length G:=by
      simp only[jN,hu,hs,E,hi,hx,lX,cond_false,o,cond_true,m,Option.bind_some,u,Nat.ble_eq_true_of_le b1,Nat.ble_eq_true_of_le (show inf.bytes<=1073741824 by omega),Nat.ble_eq_true_of_le p,Bool.and_true,C]
     have e2:pM O.get (some ⟨b,0,none⟩) 0 n (j.flatMap enc) j.length G=some (.slice (some ⟨G+1,0,none⟩) (0+j.length) (0+j.length),
      [(G,some (jM.group [⟨G+1,0,(j.flatMap enc).length⟩])),(G+1,some (jM.cells (j.flatMap enc) ⟨false,some G,0,n⟩))],2):=by
      simp only[tw,L,Nat.zero_mul,yM,Option.bind_some,List.nil_append];rfl
     rw[D]
     refine⟨_,_,_,e1.trans e2,.inl (.inr ⟨by rw[h1];simpa using hm,G+1,G,by rw[h1];simp,?_,⟨[⟨G+1,0,_⟩],(Tr.gA _ _ (by omega)).trans (Tr.ia ..),fun e he=>?_⟩,by omega,by omega,by omega,M⟩),fun c hc=>?_⟩
     · rw[h1];exact Tr.ia ..
     · rw[List.mem_singleton.1 he,h1]
       refine⟨by simp,by show B<=G+1;omega,by show G+1<_;omega,by show G+1≠G;omega,fun l N=>?_⟩
       have:=N.symm.trans (Tr.ia ..)
       cases this
     · exact(Tr.gA _ _ (by omega)).trans (Tr.gA _ _ (by omega))
theorem lY.hc{C:Nat}(h:lY enc n B gr O G J)(he:∀c,c<G->(J.l≠[]->c≠gr)->eZ.get c=O.get c):HC C G O eZ:=by
 intro c Z m _ hc hg
 refine(he c hc fun hj k=>?_).trans hg
 rcases h with h|⟨_,_,_,_,_,h4,_⟩
 · exact hj h.1
 · rw[k,h4]at hg;cases hg
end
section
variable {e:Env}{fm:Fm}{I:Tm}{ds:List Deferred}{O:Ht}{G:Nat}{gS:List Nat}{Q:St->Prop}{all:List Oper}{d:Tmp}{ty:TypeId}{pos:String}{j0:Array Edge}
end
inductive Yi{α β:Type}(nA:α->ByteArray)(nB:β->ByteArray)(A:List α)(B:List β):Nat->Nat->Nat->Nat->Prop
 |left {i k:Nat} (x:α) (hx:A[i]?=some x) (h:∀y,B[k]?=some y->ZM (nA x) (nB y)):Yi nA nB A B i k 1 0
 |right {i k:Nat} (y:β) (hy:B[k]?=some y) (h:∀x,A[i]?=some x->ZM (nB y) (nA x)):Yi nA nB A B i k 0 1
 |both {i k:Nat} (x:α) (y:β) (hx:A[i]?=some x) (hy:B[k]?=some y) (h:nA x=nB y):Yi nA nB A B i k 1 1
end
end Sw
namespace Sw
noncomputable section
open Go Go.Proofs Go.RowKit
set_option maxRecDepth 100000
set_option maxHeartbeats 1600000
theorem Sk(K:SV Int)(l:Nat)(n:Int)(O:Ht)(G:Nat)(hK:gx encI 1 O G K)(hl:l<=K.l.length)(a:Option Addr)(c:Nat)(A:K.v=.slice a K.l.length c)(S:lg 8 (.slice a l c) (.slice a l c)=true):WF ex 103 [.slice a (l) c,Y n] O G (fG G O (pW (K.l.take l) (fun x=>n=x))):=by
 refine wd Tryz.f103 19 [.tmp 4] fun hE=>?_
 have J:=hK.2.2
 refine sr<|oN 1<|WP.seq<|sr<|oN 3<|WP.block ?_
 refine mg [0,1,7,8] (fun m hs ns vs=>∃(b:Nat),b+m=l/\vs=[.slice a (l) c,Y n,Y (.ofNat (l)),Y (.ofNat b)]/\G<=ns/\HE (G) O hs/\(∀(j:Nat) (y:Int),j<b->(K.l.take l)[j]?=some y->¬n=y)) ?_ (l) ?_
 ·
  rintro W R X _ ⟨b,F,rfl,MX,pC,hinv⟩ L
  have p:=hE.trans pC
  refine sr ?_
  refine oq 9 (kL b l) fun M B=>WO.nil<|WP.seq<|cq B (fun E=>?_) (fun E=>?_)
  ·
   refine WP.skip<|WP.seq<|WP.block<|sr<|oN 2<|sr<|oX 3 ?_
   have e:b<l:=by omega
   refine WO.cons (WC.ix (k:=.i64) a (l) c (b) 1 U U lG kp ((hK.mono p nR).Bk A (e4 (zl e) hl)) (e) ?_)
   obtain⟨z,o⟩:=gE (e4 e hl)
   refine WO.cons (WC.lz (Y z) A (hK.mono p nR) o rfl ft ?_)
   refine oq 16 (sN n z) fun N C=>WO.nil<|cq C (fun u=>?_) (fun u=>?_)
   ·
    refine sr<|oW 2 ⟨rfl,rfl,[Y (.ofNat b)],U,?_⟩
    exact⟨.inr ⟨b,z,rfl,(by rw[List.getElem?_take_of_lt om];exact o),u,hinv⟩,od,p⟩
   ·
    refine WP.skip<|WP.region<|ov 18 (Y (.ofNat (b+1))) ?_ (fun _ _ _=>by rw[<-gM (show b+1<9223372036854775808 by omega)];kernel_rfl)
    refine oN 1<|⟨l-(b+1),om,rfl,rfl,b+1,om,U,?_,?_,?_⟩
    · exact MX
    · exact pC
    · intro j y hj hy;rcases fo.1 hj with hj|rfl;exact hinv j y hj hy;rw[List.getElem?_take_of_lt om,o]at hy;cases hy;exact u
  ·
   refine WP.exit<|sr<|oW 1 ⟨rfl,rfl,[Y (-1)],U,?_⟩
   refine⟨.inl ⟨rfl,fun y hy=>?_⟩,od,p⟩
   obtain⟨j,hj⟩:=fJ hy
   exact hinv j y (by have:=(fe.1 hj).1;rw[List.length_take]at this;omega) hj
 ·
  exact⟨0,om,U,e9 _,HE.refl _ _,(fun j y h=>absurd h (fz _))⟩
end
end Sw
namespace Sw
noncomputable section
open Go Go.Proofs Go.RowKit
set_option maxRecDepth 100000
set_option maxHeartbeats 1600000
inductive j7 where
 |cond (c:RCond)
 |step (s:RStep)
instance :Inhabited j7:=⟨.cond default⟩
def fv:j7->Value
 |.cond c=>.iface 553 (.agg (ij c).toArray)
 |.step s=>.iface 469 (.agg (jz s).toArray)
def mh(x:j7):List Value:=[fv x]
def mi(O:Ht)(G:Nat):j7->Prop
 |.cond c=>lD O G c
 |.step s=>j3 O G s
theorem mi.mono{O eZ:Ht}{G e5:Nat}{x:j7}(h:mi O G x)(he:HE G O eZ)(hn:G<=e5:=by omega):mi eZ e5 x:=by
 cases x with
 |cond c=>exact lD.mono h he hn
 |step s=>exact j3.mono h he hn
theorem Yj(x:j7):one (fv x)=true:=by cases x<;>rfl
def xN:j7->Nat
 |.cond c=>sizeOf c
 |.step s=>sizeOf s
def qQ:j7->Prop
 |.cond c=>ma c
 |.step s=>pB s
def qA:j7->List j7
 |.cond c=>c.fT.l.map .cond
 |.step s=>s.l_.l.map .step++s.nH.l.map .step
theorem rf{O:Ht}{G:Nat}{f:j7}(h:mi O G f):∀x∈qA f,mi O G x:=by
 intro x hx
 cases f with
 |cond c=>
  obtain⟨y,hy,rfl⟩:=fO.1 hx
  exact(lD.fT h).2 y hy
 |step s=>
  rcases fI.1 hx with hx|hx
  · obtain⟨y,hy,rfl⟩:=List.mem_map.1 hx
    exact(j3.l_ h).2 y hy
  · obtain⟨y,hy,rfl⟩:=List.mem_map.1 hx
    exact(j3.nH h).2 y hy
theorem vP{f x:j7}(hx:x∈qA f):xN x<xN f:=by
 cases f with
 |cond c=>
  obtain⟨y,hy,rfl⟩:=fO.1 hx
  exact RCond.CP hy
 |step s=>
  rcases fI.1 hx with hx|hx
  · obtain⟨y,hy,rfl⟩:=List.mem_map.1 hx
    exact RStep.Pk hy
  · obtain⟨y,hy,rfl⟩:=List.mem_map.1 hx
    exact RStep.Pl hy
theorem qm{O:Ht}{G:Nat}{f:j7}(h:mi O G f):(qA f).length<=2932031007403:=by
 cases f with
 |cond c=>have:=lD.len h;simp only[qA,List.length_map];omega
 |step s=>have:=j3.len h;simp only[qA,List.length_map,List.length_append];omega
theorem pI:ex.T.agg 106=some false:=U
theorem y_:ex.T.agg 107=some false:=U
theorem sP:ex.T.agg 147=some false:=U
theorem xx:ex.T.agg 149=some true:=U
theorem wA:ex.T.agg 22=some false:=U
theorem C2:ex.T.agg 23=some false:=U
theorem rP:ex.T.agg 24=some false:=U
theorem FY:ex.T.agg 25=some false:=U
theorem FZ:ex.T.agg 26=some false:=U
theorem C3:ex.T.agg 27=some false:=U
theorem F0:ex.T.agg 28=some false:=U
theorem vd:ex.T.agg 29=some false:=U
theorem Nf:ex.T.agg 9=some false:=U
theorem n9:ex.T.size 109=some 5:=U
theorem rq:ex.T.size 144=some 3:=U
theorem sx:ex.T.size 149=some 4:=U
theorem uy:ex.T.size 151=some 8:=U
theorem zc:ex.T.jh 106=some (.slice 144):=U
theorem Ng:ex.T.jh 147=some (.slice 149):=U
theorem wB:ex.T.jh 24=some (.slice 109):=U
theorem C4:ex.T.jh 29=some (.slice 151):=U
theorem WX(c:RCond)(O:Ht)(G:Nat)(hc:lD O G c):WF ex 104 [.agg (ij c).toArray] O G (fG G O (ga (nI c))):=by
 refine wd Tryz.f104 22 [.tmp 2] fun hE=>sr<|oB (.agg (ij c).toArray) (ij c) fun jq iC hU=>?_
 refine oN 1<|sr<|oX 1<|oZ G 0 (Y c.je) ft hU rfl ?_
 obtain⟨m,C,E⟩:=sN c.je 0
 refine ob 5 C<|oX 1<|gT 6 m (pt G (0+1))<|lu 6 m G (0+1) (Y c.rW) ft hU rfl ?_
 refine qu 6 m (sN c.rW 0) fun L F=>?_
 refine mT 10 (nA E F) fun e u=>oX 1<|gT 11 e (pt G (0+2))<|lu 11 e G (0+2) (Y c.fN) ft hU rfl ?_
 refine qu 11 e (sN c.fN 0) fun J y=>?_
 refine mT 15 (nA u y) fun nM rN=>oX 1<|gT 16 nM (pt G (0+3)) ?_
 obtain⟨p,CY,o⟩:=hc.fT.1.shape
 have B:=hc.fT.1.2.2
 refine lu 16 nM G (0+3) (.slice p (c.fT.l.length) CY) sP hU (by rw[<-o];rfl)<|gT 16 nM (Y (.ofNat (c.fT.l.length))) ?_
 refine qu 16 nM (vK c.fT.l.length 0) fun K z=>?_
 refine mT 21 (nA rN z) fun j A=>oW 1 ⟨rfl,rfl,[.bool j],U,?_⟩
 refine⟨⟨j,rfl,?_⟩,od,(hE.trans iC)⟩
 exact A.trans ⟨fun⟨⟨⟨a,b⟩,c⟩,d⟩=>⟨a,b,c,fP om⟩,fun⟨a,b,c,d⟩=>⟨⟨⟨a,b⟩,c⟩,by rw[d];rfl⟩⟩
theorem IF(k:Nat)(ih:∀(c:RCond) (d:Int) (O:Ht) (G:Nat),sizeOf c<k->lD O G c->WF ex 105 [.agg (ij c).toArray,Y d] O G (fG G O z7))(c:RCond)(d:Int)(O:Ht)(G:Nat)(hk:sizeOf c<k+1)(hc:lD O G c):WF ex 105 [.agg (ij c).toArray,Y d] O G (fG G O z7):=by
 refine wd Tryz.f105 31 [.tmp 4] fun hE=>sr<|oB (.agg (ij c).toArray) (ij c) fun jq iC hU=>?_
 have kW:=hE.trans iC
 refine oN 1<|WP.seq<|sr<|oX 1 ?_
 refine oq 8 (mr 16 d) fun ad aa=>WO.nil<|cq aa (fun M=>?_) (fun M=>?_)
 ·
  refine sr<|oW 1 ⟨rfl,rfl,[Y 1000],U,?_⟩
  exact⟨⟨_,rfl⟩,od,kW⟩
 ·
  refine WP.skip<|sr<|oN 1<|WP.seq<|sr<|oN 1<|WP.block ?_
  refine mg [1,2,5,6] (fun m hs ns vs=>∃(gY:Nat) (u:Int),gY+m=c.fT.l.length/\vs=[Y d,pt G 0,Y u,Y (.ofNat gY)]/\G+1<=ns/\HE (G+1) jq hs) ?_ (c.fT.l.length) ?_
  ·
   rintro Fc E F _ ⟨gY,u,N,rfl,C,j⟩ BU
   have e:=kW.trans j
   have y:=j.get hU
   refine WP.seq<|sr<|oX 2 ?_
   obtain⟨a22,Fa,b⟩:=hc.fT.1.shape
   have R:=hc.fT.1.2.2
   refine oZ G (0+3) (.slice a22 (c.fT.l.length) Fa) sP y (by rw[<-b];rfl)<|oX 1 ?_
   refine oq 13 (kL gY c.fT.l.length) fun A J=>oX 1<|gT 14 A (Y u) ?_
   refine qu 14 A (pF u 256) fun ab K=>?_
   refine mT 17 (nA J K) fun ac L=>WO.nil<|cq L (fun wJ=>?_) (fun wJ=>?_)
   ·
    refine WP.skip<|WP.seq<|WP.block<|WP.region<|oX 2<|oZ G (0+3) (.slice a22 (c.fT.l.length) Fa) sP y (by rw[<-b];rfl)<|oX 1 ?_
    have p:gY<c.fT.l.length:=by omega
    refine WO.cons (WC.iy b hc.fT.1 (gY) Ng sx (p) ?_)
    obtain⟨z,o⟩:=gE p
    refine WO.cons (WC.ly b (hc.fT.1.mono e nR) o xx sx<|oX 2<|WO.cons (WC.call 28 105 ([.agg (ij z).toArray,Y (gn .i64 ((d)+(1)))]) kf ((ih z (gn .i64 ((d)+(1))) E (F) (by have:=RCond.CP (cs o);omega) ((hc.fT.2 z (cs o)).mono e)).mono ?_)))
    rintro _ W X ⟨⟨z37,rfl⟩,S,B⟩
    refine oN 2<|WP.region<|oX 1<|ov 19 (Y (.ofNat (gY+1))) ?_ (fun _ _ _=>by rw[<-gM (show gY+1<9223372036854775808 by omega)];kernel_rfl)
    refine oN 1<|⟨c.fT.l.length-(gY+1),om,rfl,rfl,gY+1,gn .i64 ((u)+(z37)),om,U,?_,?_⟩
    · exact od
    · exact(j.trans B C)
   ·
    refine WP.exit<|sr<|oW 2 ⟨rfl,rfl,[Y u],U,?_⟩
    exact⟨⟨_,rfl⟩,od,e⟩
  ·
   exact⟨0,1,om,U,e9 _,HE.refl _ _⟩
theorem Ld(c:RCond)(d:Int)(O:Ht)(G:Nat)(hc:lD O G c):WF ex 105 [.agg (ij c).toArray,Y d] O G (fG G O z7):=by
 have h:∀(k:Nat) (c:RCond) (d:Int) (O:Ht) (G:Nat),sizeOf c<k->lD O G c->WF ex 105 [.agg (ij c).toArray,Y d] O G (fG G O z7):=by
  intro k
  induction k with
  |zero=>intro _ _ _ _ h;exact absurd h (fz _)
  |succ k ih=>intro c d O G hk hc;exact IF k ih c d O G hk hc
 exact h _ c d O G (fb _) hc
theorem Sm(k:Nat)(ih:∀j,j<k->∀(l:SV RStep) (d:Int) (O:Ht) (G:Nat),(∀s∈l.l,sizeOf s<j)->ju jz 8 (fun O G y=>j3 O G y) O G l->WF ex 54 [l.v,Y d] O G (fG G O (fun v=>∃a b:Int,v=.tuple ⟨[Y a,Y b]⟩)))(l:SV RStep)(d:Int)(O:Ht)(G:Nat)(hk:∀s∈l.l,sizeOf s<k)(hl:ju jz 8 (fun O G y=>j3 O G y) O G l):WF ex 54 [l.v,Y d] O G (fG G O (fun v=>∃a b:Int,v=.tuple ⟨[Y a,Y b]⟩)):=by
 obtain⟨a1,c2,hR⟩:=hl.1.shape
 have lU:=hl.1.2.2
 rw[hR]
 refine wd Tryz.f54 84 [.tmp 4,.tmp 5] fun hE=>sr<|oN 2<|WP.seq<|sr<|oX 2 ?_
 refine oq 15 (nE 0 l.l.length) fun c4 p4=>oX 1<|gT 16 c4 (Y d) ?_
 refine qu 16 c4 (mr 16 d) fun aN aE=>?_
 refine mT 19 (nA p4 aE) fun aO aF=>WO.nil<|cq aF (fun aG=>?_) (fun aG=>?_)
 ·
  refine sr<|oW 2 ⟨rfl,rfl,[Y 1000,Y 1000],U,?_⟩
  exact⟨⟨_,_,rfl⟩,nR,hE⟩
 ·
  refine WP.skip<|sr<|oN 1<|sr<|oN 1<|WP.seq<|sr<|oN 1<|WP.block ?_
  refine mg [0,1,6,7,8] (fun m hs ns vs=>∃(e:Nat) (n6:Int) (n7:Int),e+m=l.l.length/\vs=[.slice a1 (l.l.length) c2,Y d,Y n6,Y n7,Y (.ofNat e)]/\G<=ns/\HE (G) O hs) ?_ (l.l.length) ?_
  ·
   rintro aM y9 vl _ ⟨e,n6,n7,av,rfl,ac,J⟩ aH
   have wS:=hE.trans J
   refine WP.seq<|sr<|oX 3 ?_
   refine oq 23 (kL e l.l.length) fun aa al=>oX 1<|gT 24 aa (Y n6) ?_
   refine qu 24 aa (pF n6 64) fun aI am=>?_
   refine mT 27 (nA al am) fun yr Fg=>oX 1<|gT 28 yr (Y n7) ?_
   refine qu 28 yr (pF n7 256) fun sw vN=>?_
   refine mT 31 (nA Fg vN) fun aJ an=>WO.nil<|cq an (fun aq=>?_) (fun aq=>?_)
   ·
    refine WP.skip<|WP.seq<|WP.block<|sr<|oX 2 ?_
    have A:e<l.l.length:=by omega
    refine WO.cons (WC.iy hR hl.1 (e) C4 uy (A)<|oX 1 ?_)
    obtain⟨o,p⟩:=gE A
    obtain⟨a28,aj,R⟩:=(hl.2 o (cs p)).l_.1.shape
    have aw:=(hl.2 o (cs p)).l_.1.2.2
    refine WO.cons (WC.sb (fW a1) (0+(e)*8+6) (.slice a28 (o.l_.l.length) aj) U vd ((hl.1.mono wS nR).pd hR (zl A)) (nj (hl.1.mono wS nR).1 p (by decide) (by rw[<-R];rfl))<|oX 2<|WO.cons (WC.call 42 54 ([o.l_.v,Y (gn .i64 ((d)+(1)))]) (fun _ _ _=>by(try rw[R]);kernel_rfl) ((ih _ (hk _ (cs p)) o.l_ (gn .i64 ((d)+(1))) y9 (vl) (fun s hs=>RStep.Pk hs) ((hl.2 o (cs p)).l_.mono (fun _ h he hn=>h.mono he hn) wS)).mono ?_)))
    rintro _ vO af ⟨⟨a35,W,rfl⟩,ay,K⟩
    have u:=wS.trans K
    refine oN 5<|sr<|oX 2 ?_
    have C:e<l.l.length:=by omega
    refine WO.cons (WC.iy hR hl.1 (e) C4 uy (C)<|oX 1 ?_)
    obtain⟨ai,ak,S⟩:=(hl.2 o (cs p)).nH.1.shape
    have ax:=(hl.2 o (cs p)).nH.1.2.2
    refine WO.cons (WC.sb (fW a1) (0+(e)*8+7) (.slice ai (o.nH.l.length) ak) U vd ((hl.1.mono u nR).pd hR (zl C)) (nj (hl.1.mono u nR).1 p (by decide) (by rw[<-S];rfl))<|oX 2<|WO.cons (WC.call 53 54 ([o.nH.v,Y (gn .i64 ((d)+(1)))]) (fun _ _ _=>by(try rw[S]);kernel_rfl) ((ih _ (hk _ (cs p)) o.nH (gn .i64 ((d)+(1))) vO (af) (fun s hs=>RStep.Pl hs) ((hl.2 o (cs p)).nH.mono (fun _ h he hn=>h.mono he hn) u)).mono ?_)))
    rintro _ ad ag ⟨⟨a49,X,rfl⟩,az,L⟩
    have z:=u.trans L
    refine oN 5<|sr<|oN 7<|sr<|oN 6<|sr<|oX 2 ?_
    have E:e<l.l.length:=by omega
    refine WO.cons (WC.iy hR hl.1 (e) C4 uy (E)<|oX 1<|WO.cons (WC.E7 (fW a1) (0+(e)*8+2) (ij o.iZ) U xx sx ((hl.1.mono z nR).pd hR (zl E)) (ML (hl.1.mono z nR).1 p (by decide) rfl)<|WO.cons (WC.call 72 104 ([.agg (ij o.iZ).toArray]) kf ((WX o.iZ ad (ag) ((hl.2 o (cs p)).iZ.mono z)).mono ?_))))
    rintro _ ae ah ⟨⟨aK,rfl,ao⟩,aA,M⟩
    have B:=z.trans M
    have N:=((J.trans K ac).trans L).trans M
    refine oq 73 (nN ao) fun aL ap=>WO.nil<|cq ap (fun ar=>?_) (fun ar=>?_)
    ·
     refine WP.region<|oX 3 ?_
     have F:e<l.l.length:=by omega
     refine WO.cons (WC.iy hR hl.1 (e) C4 uy (F)<|oX 1<|WO.cons (WC.E7 (fW a1) (0+(e)*8+2) (ij o.iZ) U xx sx ((hl.1.mono B nR).pd hR (zl F)) (ML (hl.1.mono B nR).1 p (by decide) rfl)<|WO.cons (WC.call 80 105 ([.agg (ij o.iZ).toArray,Y 0]) kf ((Ld o.iZ (0) ae (ah) ((hl.2 o (cs p)).iZ.mono B)).mono ?_))))
     rintro _ aC aD ⟨⟨au,rfl⟩,aB,ab⟩
     refine oN 2<|WP.region<|oX 1<|ov 33 (Y (.ofNat (e+1))) ?_ (fun _ _ _=>by rw[<-gM (show e+1<9223372036854775808 by omega)];kernel_rfl)
     refine oN 1<|⟨l.l.length-(e+1),om,rfl,rfl,e+1,gn .i64 ((gn .i64 ((gn .i64 ((n6)+(1)))+(a35)))+(a49)),gn .i64 ((gn .i64 ((gn .i64 ((n7)+(W)))+(X)))+(au)),om,U,?_,?_⟩
     · exact od
     · exact(N.trans ab)
    ·
     refine WP.skip<|WP.region<|oX 1<|ov 33 (Y (.ofNat (e+1))) ?_ (fun _ _ _=>by rw[<-gM (show e+1<9223372036854775808 by omega)];kernel_rfl)
     refine oN 1<|⟨l.l.length-(e+1),om,rfl,rfl,e+1,gn .i64 ((gn .i64 ((gn .i64 ((n6)+(1)))+(a35)))+(a49)),gn .i64 ((gn .i64 ((n7)+(W)))+(X)),om,U,?_,?_⟩
     · exact od
     · exact N
   ·
    refine WP.exit<|sr<|oW 4 ⟨rfl,rfl,[Y n6,Y n7],U,?_⟩
    exact⟨⟨_,_,rfl⟩,od,wS⟩
  ·
   exact⟨0,0,0,om,U,e9 _,HE.refl _ _⟩
theorem Sn(l:List RStep):∀s∈l,sizeOf s<sizeOf l:=fun _ h=>gj h
theorem WY(l:SV RStep)(d:Int)(O:Ht)(G:Nat)(hl:ju jz 8 (fun O G y=>j3 O G y) O G l):WF ex 54 [l.v,Y d] O G (fG G O (fun v=>∃a b:Int,v=.tuple ⟨[Y a,Y b]⟩)):=by
 have h:∀(k:Nat),∀(l:SV RStep) (d:Int) (O:Ht) (G:Nat),(∀s∈l.l,sizeOf s<k)->ju jz 8 (fun O G y=>j3 O G y) O G l->WF ex 54 [l.v,Y d] O G (fG G O (fun v=>∃a b:Int,v=.tuple ⟨[Y a,Y b]⟩)):=by
  intro k
  induction k using Nat.strongRecOn with
  |_ k ih=>intro l d O G hk hl;exact Sm k ih l d O G hk hl
 exact h _ l d O G (Sn _) hl
theorem UG(l:SV RStep)(O:Ht)(G:Nat)(hl:ju jz 8 (fun O G y=>j3 O G y) O G l):WF ex 23 [l.v] O G (fG G O XW):=by
 obtain⟨a1,c2,hR⟩:=hl.1.shape
 have lU:=hl.1.2.2
 rw[hR]
 refine wd Tryz.f23 21 [.tmp 2] fun hE=>sr<|oN 1<|sr<|oX 1<|WO.cons (WC.call 7 54 ([l.v,Y 0]) (fun _ _ _=>by(try rw[hR]);kernel_rfl) ((WY l (0) O (G) (hl.mono (fun _ h he hn=>h.mono he hn) hE)).mono ?_))
 rintro _ Ee Iv ⟨⟨b,e,rfl⟩,MX,pC⟩
 refine oN 5<|sr<|oX 2 ?_
 refine oq 12 (G_ l.l.length 20) fun nM rN=>oX 1<|gT 13 nM (Y b) ?_
 obtain⟨nu,m,rM⟩:=pF b 80
 refine RV 13 nM m ?_
 obtain⟨CY,o,By⟩:=nA rN rM
 refine pA 16 o<|oX 1<|gT 17 CY (Y e) ?_
 obtain⟨rO,p,uW⟩:=pF e 300
 refine RV 17 CY p ?_
 refine mT 20 (nA By uW) fun j u=>oW 1 ⟨rfl,rfl,[.bool j],U,?_⟩
 exact⟨⟨_,rfl,fun _=>trivial⟩,od,(hE.trans pC)⟩
theorem Nh(k:Nat)(ih:∀j,j<k->∀(l:SV RPart) (O:Ht) (G:Nat),(∀s∈l.l,sizeOf s<j)->ju jJ 3 (fun O G y=>kN O G y) O G l->WF ex 21 [l.v] O G (fG G O z7))(l:SV RPart)(O:Ht)(G:Nat)(hk:∀s∈l.l,sizeOf s<k)(hl:ju jJ 3 (fun O G y=>kN O G y) O G l):WF ex 21 [l.v] O G (fG G O z7):=by
 obtain⟨a1,c2,hR⟩:=hl.1.shape
 have lU:=hl.1.2.2
 rw[hR]
 refine wd Tryz.f21 27 [.tmp 2] fun hE=>sr<|oN 1<|sr<|oN 3<|WP.seq<|sr<|oN 1<|WP.block ?_
 refine mg [0,3,4] (fun m hs ns vs=>∃(fR:Nat) (p:Int),fR+m=l.l.length/\vs=[.slice a1 (l.l.length) c2,Y p,Y (.ofNat fR)]/\G<=ns/\HE (G) O hs) ?_ (l.l.length) ?_
 ·
  rintro xM p_ iY _ ⟨fR,p,ui,rfl,oF,jl⟩ uj
  have j2:=hE.trans jl
  refine WP.seq<|sr<|oX 3 ?_
  obtain⟨nu,B,rM⟩:=kL fR l.l.length
  refine ob 10 B<|oX 1<|gT 11 nu (Y p) ?_
  obtain⟨CY,C,By⟩:=pF p 256
  refine RV 11 nu C ?_
  obtain⟨rO,E,uW⟩:=nA rM By
  refine pA 14 E<|WO.nil<|cq uW (fun F=>?_) (fun F=>?_)
  ·
   refine WP.skip<|WP.seq<|WP.block<|WP.region<|oX 3 ?_
   have o:fR<l.l.length:=by omega
   refine WO.cons (WC.iy hR hl.1 (fR) zc rq (o)<|oX 1 ?_)
   obtain⟨e,b⟩:=gE o
   obtain⟨a21,A,u⟩:=(hl.2 e (cs b)).fT.1.shape
   have J:=(hl.2 e (cs b)).fT.1.2.2
   refine WO.cons (WC.sb (fW a1) (0+(fR)*3+2) (.slice a21 (e.fT.l.length) A) U pI ((hl.1.mono j2 nR).pd hR (zl o)) (nj (hl.1.mono j2 nR).1 b (by decide) (by rw[<-u];rfl))<|WO.cons (WC.call 23 21 ([e.fT.v]) (fun _ _ _=>by(try rw[u]);kernel_rfl) ((ih _ (hk _ (cs b)) e.fT p_ (iY) (fun s hs=>RPart.CP hs) ((hl.2 e (cs b)).fT.mono (fun _ h he hn=>h.mono he hn) j2)).mono ?_)))
   rintro _ L M ⟨⟨z28,rfl⟩,K,z⟩
   refine oN 2<|WP.region<|oX 1<|ov 16 (Y (.ofNat (fR+1))) ?_ (fun _ _ _=>by rw[<-gM (show fR+1<9223372036854775808 by omega)];kernel_rfl)
   refine oN 1<|⟨l.l.length-(fR+1),om,rfl,rfl,fR+1,gn .i64 ((p)+(z28)),om,U,?_,?_⟩
   · exact od
   · exact(jl.trans z oF)
  ·
   refine WP.exit<|sr<|oW 3 ⟨rfl,rfl,[Y ((bif rI (257) (p)then(257)else(p)))],U,?_⟩
   exact⟨⟨_,rfl⟩,od,j2⟩
 ·
  exact⟨0,(.ofNat (l.l.length)),om,U,e9 _,HE.refl _ _⟩
theorem QN(l:SV RPart)(O:Ht)(G:Nat)(hl:ju jJ 3 (fun O G y=>kN O G y) O G l):WF ex 21 [l.v] O G (fG G O z7):=by
 have h:∀(k:Nat),∀(l:SV RPart) (O:Ht) (G:Nat),(∀s∈l.l,sizeOf s<k)->ju jJ 3 (fun O G y=>kN O G y) O G l->WF ex 21 [l.v] O G (fG G O z7):=by
  intro k
  induction k using Nat.strongRecOn with
  |_ k ih=>intro l O G hk hl;exact Nh k ih l O G hk hl
 exact h _ l O G (fun _ h=>gj h) hl
theorem Ni(k:Nat)(ih:∀j,j<k->∀(l:SV RPart) (d:Int) (O:Ht) (G:Nat),(∀s∈l.l,sizeOf s<j)->ju jJ 3 (fun O G y=>kN O G y) O G l->WF ex 22 [l.v,Y d] O G (fG G O z7))(l:SV RPart)(d:Int)(O:Ht)(G:Nat)(hk:∀s∈l.l,sizeOf s<k)(hl:ju jJ 3 (fun O G y=>kN O G y) O G l):WF ex 22 [l.v,Y d] O G (fG G O z7):=by
 obtain⟨a1,c2,hR⟩:=hl.1.shape
 have lU:=hl.1.2.2
 rw[hR]
 refine wd Tryz.f22 36 [.tmp 4] fun hE=>sr<|oN 1<|sr<|oN 1<|WP.seq<|sr<|oN 1<|WP.block ?_
 refine mg [0,1,5,6] (fun m hs ns vs=>∃(fR:Nat) (u:Int),fR+m=l.l.length/\vs=[.slice a1 (l.l.length) c2,Y d,Y u,Y (.ofNat fR)]/\G<=ns/\HE (G) O hs) ?_ (l.l.length) ?_
 ·
  rintro xM p_ iY _ ⟨fR,u,ui,rfl,oF,jl⟩ uj
  have j2:=hE.trans jl
  refine WP.seq<|sr<|oX 3 ?_
  refine oq 10 (kL fR l.l.length) fun nu rM=>oX 1<|gT 11 nu (Y d) ?_
  refine qu 11 nu (mr 0 d) fun CY By=>?_
  refine mT 14 (nA rM By) fun rO uW=>WO.nil<|cq uW (fun B=>?_) (fun B=>?_)
  ·
   refine WP.skip<|WP.seq<|WP.block<|sr<|oX 2 ?_
   have o:fR<l.l.length:=by omega
   refine WO.cons (WC.iy hR hl.1 (fR) zc rq (o)<|oX 1 ?_)
   obtain⟨e,b⟩:=gE o
   obtain⟨a21,z,p⟩:=(hl.2 e (cs b)).fT.1.shape
   have C:=(hl.2 e (cs b)).fT.1.2.2
   refine WO.cons (WC.sb (fW a1) (0+(fR)*3+2) (.slice a21 (e.fT.l.length) z) U pI ((hl.1.mono j2 nR).pd hR (zl o)) (nj (hl.1.mono j2 nR).1 b (by decide) (by rw[<-p];rfl))<|oX 1 ?_)
   refine oq 23 (MO e.fT.l.length 0) fun ux ul=>WO.nil<|cq ul (fun yq=>?_) (fun yq=>?_)
   ·
    refine WP.region<|oX 3 ?_
    have rQ:fR<l.l.length:=by omega
    refine WO.cons (WC.iy hR hl.1 (fR) zc rq (rQ)<|oX 1<|WO.cons (WC.sb (fW a1) (0+(fR)*3+2) (.slice a21 (e.fT.l.length) z) U pI ((hl.1.mono j2 nR).pd hR (zl rQ)) (nj (hl.1.mono j2 nR).1 b (by decide) (by rw[<-p];rfl))<|oX 2<|WO.cons (WC.call 32 22 ([e.fT.v,Y (gn .i64 ((d)-(1)))]) (fun _ _ _=>by(try rw[p]);kernel_rfl) ((ih _ (hk _ (cs b)) e.fT (gn .i64 ((d)-(1))) p_ (iY) (fun s hs=>RPart.CP hs) ((hl.2 e (cs b)).fT.mono (fun _ h he hn=>h.mono he hn) j2)).mono ?_))))
    rintro _ F J ⟨⟨z32,rfl⟩,E,A⟩
    refine oN 3<|WP.region<|oX 1<|ov 16 (Y (.ofNat (fR+1))) ?_ (fun _ _ _=>by rw[<-gM (show fR+1<9223372036854775808 by omega)];kernel_rfl)
    refine oN 1<|⟨l.l.length-(fR+1),om,rfl,rfl,fR+1,(bif rI (u) (gn .i64 ((1)+(z32)))then(gn .i64 ((1)+(z32)))else(u)),om,U,?_,?_⟩
    · exact od
    · exact(jl.trans A oF)
   ·
    refine WP.skip<|WP.region<|oX 1<|ov 16 (Y (.ofNat (fR+1))) ?_ (fun _ _ _=>by rw[<-gM (show fR+1<9223372036854775808 by omega)];kernel_rfl)
    refine oN 1<|⟨l.l.length-(fR+1),om,rfl,rfl,fR+1,u,om,U,?_,?_⟩
    · exact oF
    · exact jl
  ·
   refine WP.exit<|sr<|oW 2 ⟨rfl,rfl,[Y u],U,?_⟩
   exact⟨⟨_,rfl⟩,od,j2⟩
 ·
  exact⟨0,0,om,U,e9 _,HE.refl _ _⟩
theorem QO(l:SV RPart)(d:Int)(O:Ht)(G:Nat)(hl:ju jJ 3 (fun O G y=>kN O G y) O G l):WF ex 22 [l.v,Y d] O G (fG G O z7):=by
 have h:∀(k:Nat),∀(l:SV RPart) (d:Int) (O:Ht) (G:Nat),(∀s∈l.l,sizeOf s<k)->ju jJ 3 (fun O G y=>kN O G y) O G l->WF ex 22 [l.v,Y d] O G (fG G O z7):=by
  intro k
  induction k using Nat.strongRecOn with
  |_ k ih=>intro l d O G hk hl;exact Ni k ih l d O G hk hl
 exact h _ l d O G (fun _ h=>gj h) hl
theorem Nj(C:j4)(O:Ht)(G:Nat)(e:oV O G C):WF ex 6 [.agg (iM C).toArray] O G (fG G O XW):=by
 refine wd Tryz.f6 81 [.tmp 2] fun hE=>sr<|oB (.agg (iM C).toArray) (iM C) fun jq iC hU=>?_
 refine oN 1<|sr<|oX 1 ?_
 obtain⟨aX,aY,am⟩:=e.iv.shape
 have aM:=e.iv.2.2
 refine oZ G (0+1) (.slice aX (C.iv.l.length) aY) wA hU (by rw[<-am];rfl)<|oX 2 ?_
 obtain⟨av,nM,an⟩:=e.jR.shape
 have aN:=e.jR.2.2
 refine oZ G (0+2) (.slice av (C.jR.l.length) nM) C2 hU (by rw[<-an];rfl)<|oX 1<|ov 11 (Y (.ofNat (C.iv.l.length+C.jR.l.length))) ?_ (fun _ _ _=>by rw[<-gM (show C.iv.l.length+C.jR.l.length<9223372036854775808 by omega)];kernel_rfl)
 refine oX 1 ?_
 obtain⟨u,rO,j⟩:=e.fu.1.shape
 have aO:=e.fu.1.2.2
 refine oZ G (0+3) (.slice u (C.fu.l.length) rO) rP hU (by rw[<-j];rfl)<|oX 1<|ov 15 (Y (.ofNat (C.iv.l.length+C.jR.l.length+C.fu.l.length))) ?_ (fun _ _ _=>by rw[<-gM (show C.iv.l.length+C.jR.l.length+C.fu.l.length<9223372036854775808 by omega)];kernel_rfl)
 refine oX 1 ?_
 obtain⟨a17,ax,ao⟩:=e.kK.shape
 have aP:=e.kK.2.2
 refine oZ G (0+4) (.slice a17 (C.kK.l.length) ax) FY hU (by rw[<-ao];rfl)<|oX 1<|ov 19 (Y (.ofNat (C.iv.l.length+C.jR.l.length+C.fu.l.length+C.kK.l.length))) ?_ (fun _ _ _=>by rw[<-gM (show C.iv.l.length+C.jR.l.length+C.fu.l.length+C.kK.l.length<9223372036854775808 by omega)];kernel_rfl)
 refine oX 1 ?_
 obtain⟨a20,sw,ap⟩:=e.jt.shape
 have aQ:=e.jt.2.2
 refine oZ G (0+5) (.slice a20 (C.jt.l.length) sw) FZ hU (by rw[<-ap];rfl)<|oX 1<|ov 23 (Y (.ofNat (C.iv.l.length+C.jR.l.length+C.fu.l.length+C.kK.l.length+C.jt.l.length))) ?_ (fun _ _ _=>by rw[<-gM (show C.iv.l.length+C.jR.l.length+C.fu.l.length+C.kK.l.length+C.jt.l.length<9223372036854775808 by omega)];kernel_rfl)
 refine oX 1 ?_
 obtain⟨a23,ux,aq⟩:=e.iu.shape
 have aR:=e.iu.2.2
 refine oZ G (0+6) (.slice a23 (C.iu.l.length) ux) C3 hU (by rw[<-aq];rfl)<|oX 1<|ov 27 (Y (.ofNat (C.iv.l.length+C.jR.l.length+C.fu.l.length+C.kK.l.length+C.jt.l.length+C.iu.l.length))) ?_ (fun _ _ _=>by rw[<-gM (show C.iv.l.length+C.jR.l.length+C.fu.l.length+C.kK.l.length+C.jt.l.length+C.iu.l.length<9223372036854775808 by omega)];kernel_rfl)
 refine oX 1 ?_
 obtain⟨a26,ay,ar⟩:=e.kV.shape
 have aS:=e.kV.2.2
 refine oZ G (0+7) (.slice a26 (C.kV.l.length) ay) F0 hU (by rw[<-ar];rfl)<|oX 1<|ov 31 (Y (.ofNat (C.iv.l.length+C.jR.l.length+C.fu.l.length+C.kK.l.length+C.jt.l.length+C.iu.l.length+C.kV.l.length))) ?_ (fun _ _ _=>by rw[<-gM (show C.iv.l.length+C.jR.l.length+C.fu.l.length+C.kK.l.length+C.jt.l.length+C.iu.l.length+C.kV.l.length<9223372036854775808 by omega)];kernel_rfl)
 refine oN 1<|WP.seq<|sr<|oN 1<|WP.block ?_
 refine mg [1,3,4] (fun m hs ns vs=>∃(b:Nat) (B:Int),b+m=C.fu.l.length/\vs=[pt G 0,Y B,Y (.ofNat b)]/\G+1<=ns/\HE (G+1) jq hs) ?_ (C.fu.l.length) ?_
 ·
  rintro be vO R _ ⟨b,B,aL,rfl,al,M⟩ aW
  have y:=(hE.trans iC).trans M
  have A:=M.get hU
  refine WP.seq<|sr<|oX 2<|oZ G (0+3) (.slice u (C.fu.l.length) rO) rP A (by rw[<-j];rfl)<|oX 1 ?_
  refine oq 36 (kL b C.fu.l.length) fun ah aB=>oX 1<|gT 37 ah (Y B) ?_
  refine qu 37 ah (pF B 200) fun bj aC=>?_
  refine mT 40 (nA aB aC) fun bk aD=>WO.nil<|cq aD (fun aI=>?_) (fun aI=>?_)
  ·
   refine WP.skip<|WP.seq<|WP.block<|WP.seq<|WP.qN [⟨[0,1,2,3,4,5,6,7,8,9,10,11,12,13,14],[0,1,2,3,4,5,6,7,8,9,10,11,12,13,14],some 15⟩,⟨[16],[0,1,2,3,4,5,6,7,8,16],some 17⟩,⟨[],[],none⟩] U _ rfl<|WD.kQ<|nv 43 (Y B)<|nv 44 (pt G (0+3))<|WN.hQ rfl (WC.jP G (0+3) (.slice u (C.fu.l.length) rO) U rP A (by rw[<-j];rfl)<|nv 46 (Y (.ofNat b)) ?_)
   have z:b<C.fu.l.length:=by omega
   refine WN.hQ rfl (WC.iy j e.fu.1 (b) wB n9 (z)<|nv 48 (pt (fW u) (0+(b)*5+3)) ?_)
   obtain⟨o,p⟩:=gE z
   obtain⟨X,ab,L⟩:=(e.fu.2 o (cs p)).jp.shape
   have aT:=(e.fu.2 o (cs p)).jp.2.2
   refine WN.hQ rfl (WC.sb (fW u) (0+(b)*5+3) (.slice X (o.jp.l.length) ab) U y_ ((e.fu.1.mono y nR).pd j (zl z)) (nj (e.fu.1.mono y nR).1 p (by decide) (by rw[<-L];rfl))<|nv 50 (Y (.ofNat (o.jp.l.length)))<|nv 51 (Y (gn .i64 ((B)+(.ofNat (o.jp.l.length)))))<|nv 52 (pt G (0+3))<|WN.hQ rfl (WC.jP G (0+3) (.slice u (C.fu.l.length) rO) U rP A (by rw[<-j];rfl)<|nv 54 (Y (.ofNat b)) ?_))
   have F:b<C.fu.l.length:=by omega
   refine WN.hQ rfl (WC.iy j e.fu.1 (b) wB n9 (F)<|nv 56 (pt (fW u) (0+(b)*5+1)) ?_)
   obtain⟨aa,ac,E⟩:=(e.fu.2 o (cs p)).jI.1.shape
   have aU:=(e.fu.2 o (cs p)).jI.1.2.2
   refine WN.hQ rfl (WC.sb (fW u) (0+(b)*5+1) (.slice aa (o.jI.l.length) ac) U pI ((e.fu.1.mono y nR).pd j (zl F)) (nj (e.fu.1.mono y nR).1 p (by decide) (by rw[<-E];rfl))<|WN.nil ⟨?_,?_⟩)
   ·
    refine ci (B)<|cv (pt G (0+3)) (iK ..)<|p7 G (0+3) (.slice u (C.fu.l.length) rO) rP A (by rw[<-j];rfl) (j▸e.fu.1.js 8)<|ci (.ofNat b)<|yL j e.fu.1 (b) wB n9 (z)<|cv (pt (fW u) (0+(b)*5+3)) (iK ..)<|co (.slice X (o.jp.l.length) ab) (j9 ex.T vO.get 107 (pt (fW u) (0+(b)*5+3))) (tx y_ ((e.fu.1.mono y nR).pd j (zl z)) (nj (e.fu.1.mono y nR).1 p (by decide) (by rw[<-L];rfl))) (L▸(e.fu.2 o (cs p)).jp.js 8)<|ci (.ofNat (o.jp.l.length))<|ci (gn .i64 ((B)+(.ofNat (o.jp.l.length))))<|cv (pt G (0+3)) (iK ..)<|p7 G (0+3) (.slice u (C.fu.l.length) rO) rP A (by rw[<-j];rfl) (j▸e.fu.1.js 8)<|ci (.ofNat b)<|yL j e.fu.1 (b) wB n9 (F)<|cv (pt (fW u) (0+(b)*5+1)) (iK ..)<|co (.slice aa (o.jI.l.length) ac) (j9 ex.T vO.get 106 (pt (fW u) (0+(b)*5+1))) (tx pI ((e.fu.1.mono y nR).pd j (zl F)) (nj (e.fu.1.mono y nR).1 p (by decide) (by rw[<-E];rfl))) (E▸(e.fu.2 o (cs p)).jI.1.js 8) ?_
    exact iX.nil
   refine WC.at rfl (WC.call 58 21 ([o.jI.v]) (fun _ _ _=>by(try rw[E]);kernel_rfl) ((QN o.jI vO (R) ((e.fu.2 o (cs p)).jI.mono (fun _ h he hn=>h.mono he hn) y)).mono ?_))
   rintro _ af au ⟨⟨z59,rfl⟩,aZ,N⟩
   have K:=y.trans N
   have ad:=N.get A
   refine WD.kQ<|nv 59 (Y (gn .i64 ((gn .i64 ((B)+(.ofNat (o.jp.l.length))))+(z59))))<|WN.nil ⟨?_,?_⟩
   ·
    refine ci (B)<|cv (pt G (0+3)) (iK ..)<|p7 G (0+3) (.slice u (C.fu.l.length) rO) rP ad (by rw[<-j];rfl) (j▸e.fu.1.js 8)<|ci (.ofNat b)<|yL j e.fu.1 (b) wB n9 (z)<|cv (pt (fW u) (0+(b)*5+3)) (iK ..)<|co (.slice X (o.jp.l.length) ab) (j9 ex.T af.get 107 (pt (fW u) (0+(b)*5+3))) (tx y_ ((e.fu.1.mono K nR).pd j (zl z)) (nj (e.fu.1.mono y nR).1 p (by decide) (by rw[<-L];rfl))) (L▸(e.fu.2 o (cs p)).jp.js 8)<|ci (.ofNat (o.jp.l.length))<|ci (gn .i64 ((B)+(.ofNat (o.jp.l.length))))<|cv (Y (gn .i64 ((gn .i64 ((B)+(.ofNat (o.jp.l.length))))+(z59)))) (iz ..) ?_
    exact iX.nil
   refine WC.at rfl (WC.val 3 (Y (gn .i64 ((gn .i64 ((B)+(.ofNat (o.jp.l.length))))+(z59)))) kf<|WD.last<|WN.nil ⟨?_,?_⟩)
   ·
    exact iX.nil
   refine sr<|oX 1<|oZ G (0+3) (.slice u (C.fu.l.length) rO) rP ad (by rw[<-j];rfl)<|oX 1 ?_
   have W:b<C.fu.l.length:=by omega
   refine WO.cons (WC.iy j e.fu.1 (b) wB n9 (W)<|oX 1<|WO.cons (WC.sb (fW u) (0+(b)*5+1) (.slice aa (o.jI.l.length) ac) U pI ((e.fu.1.mono K nR).pd j (zl W)) (nj (e.fu.1.mono K nR).1 p (by decide) (by rw[<-E];rfl))<|WO.cons (WC.call 66 22 ([o.jI.v,Y 17]) (fun _ _ _=>by(try rw[E]);kernel_rfl) ((QO o.jI (17) af (au) ((e.fu.2 o (cs p)).jI.mono (fun _ h he hn=>h.mono he hn) K)).mono ?_))))
   rintro _ a_ bf ⟨⟨aK,rfl⟩,a6,ae⟩
   refine oq 67 (mr 16 aK) fun bl aE=>WO.nil<|cq aE (fun aJ=>?_) (fun aJ=>?_)
   ·
    refine sr<|oW 1 ⟨rfl,rfl,[.bool false],U,?_⟩
    exact⟨⟨_,rfl,fun _=>trivial⟩,od,(K.trans ae)⟩
   ·
    refine WP.skip<|WP.region<|oX 1<|ov 42 (Y (.ofNat (b+1))) ?_ (fun _ _ _=>by rw[<-gM (show b+1<9223372036854775808 by omega)];kernel_rfl)
    refine oN 1<|⟨C.fu.l.length-(b+1),om,rfl,rfl,b+1,gn .i64 ((gn .i64 ((B)+(.ofNat (o.jp.l.length))))+(z59)),om,U,?_,?_⟩
    · exact od
    · exact((M.trans N al).trans ae)
  ·
   refine WP.exit<|sr<|oX 1 ?_
   refine oq 69 (pF B 200) fun S aF=>oX 1<|gT 70 S (pt G 0)<|lu 70 S G 0 (.string (C.lM)) Nf A rfl<|gT 70 S (Y (.ofNat ((C.lM).data.toList.length))) ?_
   refine qu 70 S (G_ ((C.lM).data.toList.length) 100) fun bn aG=>?_
   refine mT 75 (nA aF aG) fun J aj=>oX 1<|gT 76 J (pt G (0+8)) ?_
   obtain⟨aw,az,ag⟩:=e.nQ.1.shape
   have aV:=e.nQ.1.2.2
   refine lu 76 J G (0+8) (.slice aw (C.nQ.l.length) az) vd A (by rw[<-ag];rfl)<|WO.cons (WC.gq (J) (GI (J) (True) (R) vO) (.bool J) (g:=fV (.tmp 76)) rfl U (by cases J<;>rfl) (fun h=>by obtain rfl:J=true:=(by simpa using h);have bp:=(aj).1 rfl;exact WC.call 79 23 ([C.nQ.v]) (fun _ _ _=>by(try rw[ag]);kernel_rfl) ((UG C.nQ vO (R) (e.nQ.mono (fun _ h he hn=>h.mono he hn) y)).mono fun v eZ e5 ⟨⟨c,bd,hc⟩,hn,he⟩=>⟨_,_,_,rfl,⟨c,bd,hc⟩,hn,he⟩)) (fun h=>GI.off h) ?_)
   rintro _ bc bg ⟨⟨ai,rfl,bh⟩,a7,ak⟩
   have aH:ai=true↔(ai=true):=gf
   refine mT 80 (nA aj aH) fun aA bo=>oW 1 ⟨rfl,rfl,[.bool aA],U,?_⟩
   exact⟨⟨_,rfl,fun _=>trivial⟩,od,(y.trans ak)⟩
 ·
  exact⟨0,(.ofNat (C.iv.l.length+C.jR.l.length+C.fu.l.length+C.kK.l.length+C.jt.l.length+C.iu.l.length+C.kV.l.length)),om,U,e9 _,HE.refl _ _⟩
end
end Sw
namespace Sw
noncomputable section
open Go Go.Proofs Go.RowKit
set_option maxRecDepth 100000
set_option maxHeartbeats 1600000
def sk(n:Nat)(sub:List RPart->Nat×Nat)(s:Nat×Nat)(p:RPart):Nat×Nat:=if p.fT.l.length=0\/n=0\/256<s.2 then s else(max s.1 ((sub p.fT.l).1+1),s.2+(sub p.fT.l).2)
def sQ:Nat->List RPart->Nat×Nat
 |0,l=>l.foldl (sk 0 fun _=>(0,0)) (0,l.length)
 |n+1,l=>l.foldl (sk (n+1) (sQ n)) (0,l.length)
theorem Sp(n:Nat)(l:List RPart):sQ n l=l.foldl (sk n (sQ (n-1))) (0,l.length):=by
 cases n with
 |zero=>
  show l.foldl (sk 0 fun _=>(0,0)) (0,l.length)=_
  congr 1;funext s p;simp[sk]
 |succ n=>rfl
theorem BV{α β:Type}{f:β->α->β}{b:β}{l:List α}{i:Nat}{x:α}(h:l[i]?=some x):(l.take (i+1)).foldl f b=f ((l.take i).foldl f b) x:=by
 rw[List.take_add_one,h];simp[List.foldl_append]
theorem maxOf(a b:Nat):Int.ofNat (max a b)=bif rI (.ofNat a) (.ofNat b)then .ofNat b else .ofNat a:=by
 cases h:rI (.ofNat a) (.ofNat b)with
 |true=>have:=sA.1 h;simp only[cond_true];congr 1;simp only[Int.ofNat_eq_natCast]at this;omega
 |false=>
  have:¬(Int.ofNat a<Int.ofNat b):=fun k=>by rw[sA.2 k]at h;cases h
  simp only[cond_false];congr 1;simp only[Int.ofNat_eq_natCast]at this;omega
def UH(r:Nat×Nat)(B uu:Nat):Value->Prop:=fun v=>∃a b:Nat,v=.tuple ⟨[Y (.ofNat a),Y (.ofNat b)]⟩/\(a,b)=r/\a<=B/\b<=uu
def tY:Nat->List RPart->Prop
 |0,l=>l=[]
 |n+1,l=>∀p∈l,tY n p.fT.l
def zd(d:j6):Prop:=d.jp.l.length<=64/\(sQ 17 d.jI.l).1<=16/\(sQ 17 d.jI.l).2<=256
def vQ(C:j4):Prop:=(C.iv.l.length<=40/\C.jR.l.length<=512/\C.fu.l.length<=8/\C.kK.l.length<=32/\C.jt.l.length<=32/\C.iu.l.length<=32/\C.kV.l.length<=32)/\∀d∈C.fu.l,zd d
theorem ze:ex.T.agg 109=some true:=U
theorem DH:ex.T.agg 144=some true:=U
theorem KB:ex.T.zero 109=some (.agg ⟨[.string (⟨#[]⟩),.slice none (0) 0,Y 0,.slice none (0) 0,Y 0]⟩):=U
theorem KD:ex.T.zero 144=some (.agg ⟨[Y 0,Y 0,.slice none (0) 0]⟩):=U
theorem IG(n:Nat)(ih:∀m,m+1=n->∀(l:SV RPart) (O:Ht) (G:Nat),ju jJ 3 (fun O G y=>kN O G y) O G l->WF ex 166 [l.v,Y (.ofNat m)] O G (fG G O (UH (sQ m l.l) m (281474976710656+257*m))))(af:n<=17)(l:SV RPart)(O:Ht)(G:Nat)(hl:ju jJ 3 (fun O G y=>kN O G y) O G l):WF ex 166 [l.v,Y (.ofNat n)] O G (fG G O (UH (sQ n l.l) n (281474976710656+257*n))):=by
 obtain⟨a1,c2,hR⟩:=hl.1.shape
 have lU:=hl.1.2.2
 rw[hR]
 refine wd Tryz.f166 48 [.tmp 4,.tmp 5] fun hE=>sr<|oN 2<|sr<|oN 3<|WP.seq<|sr<|oN 3<|WP.block ?_
 refine mg [1,4,5,12,13,14] (fun m hs ns vs=>∃(fR:Nat) (a0:Nat) (b:Nat),fR+m=l.l.length/\vs=[Y (.ofNat n),Y (.ofNat a0),Y (.ofNat b),.slice a1 (l.l.length) c2,Y (.ofNat (l.l.length)),Y (.ofNat fR)]/\G<=ns/\HE (G) O hs/\((a0,b)=(l.l.take fR).foldl (sk n (sQ (n-1))) (0,l.l.length))/\(a0<=n)/\(b<=281474976710656+257*n)) ?_ (l.l.length) ?_
 ·
  rintro xM p_ iY _ ⟨fR,a0,b,ui,rfl,oF,jl,A,J,K⟩ uj
  have j2:=hE.trans jl
  refine sr ?_
  refine oq 15 (kL fR l.l.length) fun nu rM=>WO.nil<|WP.seq<|cq rM (fun w9=>?_) (fun w9=>?_)
  ·
   refine WP.skip<|WP.seq<|WP.block<|sr ?_
   have nz:fR<l.l.length:=by omega
   refine WO.cons (WC.iy hR hl.1 (fR) zc rq (nz) ?_)
   obtain⟨lv,kB⟩:=gE nz
   refine WO.cons (WC.ly hR (hl.1.mono j2 nR) kB DH rq<|oA [Y 0,Y 0,.slice none (0) 0] KD fun ai uk L=>?_)
   refine oS iY (0) (.agg (jJ lv).toArray) (jJ lv) (jJ lv) rq rfl (e7.2 ⟨rfl,Gq _ (hl.2 lv (cs kB))⟩) L fun N u p ah=>?_
   have z:=(jl.trans uk oF).trans u
   refine WO.nil<|WP.seq<|sr<|oX 1 ?_
   obtain⟨a35,C,j⟩:=(hl.2 lv (cs kB)).fT.1.shape
   have ac:=(hl.2 lv (cs kB)).fT.1.2.2
   refine oZ iY (0+2) (.slice a35 (lv.fT.l.length) C) pI p (by rw[<-j];rfl)<|oX 1 ?_
   refine oq 21 (vK lv.fT.l.length 0) fun E R=>oX 1<|gF 22 E (Y (.ofNat n)) ?_
   refine nm 22 E (vK n 0) fun al S=>?_
   refine mz 25 (nO R S) fun F W=>oX 1<|gF 26 F (Y (.ofNat b)) ?_
   refine nm 26 F (nE 256 b) fun am X=>?_
   refine mz 29 (nO W X) fun an aa=>WO.nil<|cq aa (fun ab=>?_) (fun ab=>?_)
   ·
    refine WP.exit<|WP.region<|ov 45 (Y (.ofNat (fR+1))) ?_ (fun _ _ _=>by rw[<-gM (show fR+1<9223372036854775808 by omega)];kernel_rfl)
    refine oN 1<|⟨l.l.length-(fR+1),om,rfl,rfl,fR+1,a0,b,om,U,?_,?_,?_,?_,?_⟩
    · exact od
    · exact z
    · rw[BV kB,<-A];exact(if_pos (by show _\/_\/_;omega)).symm
    · exact J
    · exact K
   ·
    refine WP.skip<|sr<|oX 1<|oZ iY (0+2) (.slice a35 (lv.fT.l.length) C) pI p (by rw[<-j];rfl)<|oX 1<|ov 34 (Y (.ofNat (n-1))) ?_ (fun _ _ _=>by rw[<-AT (show n<9223372036854775808 by omega) om];kernel_rfl)
    refine WO.cons (WC.call 35 166 ([lv.fT.v,Y (.ofNat (n-1))]) (fun _ _ _=>by(try rw[j]);kernel_rfl) ((ih (n-1) om lv.fT N (iY+1) ((hl.2 lv (cs kB)).fT.mono (fun _ h he hn=>h.mono he hn) ((j2.trans uk).trans u))).mono ?_))
    rintro _ aj ak ⟨⟨e,o,rfl,B,ad,ae⟩,ag,M⟩
    refine oN 5<|WP.region<|oX 2<|ov 40 (Y (.ofNat (e+1))) ?_ (fun _ _ _=>by rw[<-gM (show e+1<9223372036854775808 by omega)];kernel_rfl)
    refine ov 41 (Y (.ofNat (max (a0) (e+1)))) ?_ (fun _ _ _=>by rw[maxOf (a0) (e+1)];kernel_rfl)
    refine oX 2<|ov 44 (Y (.ofNat (b+o))) ?_ (fun _ _ _=>by rw[<-gM (show b+o<9223372036854775808 by omega)];kernel_rfl)
    refine oN 2<|WP.region<|ov 45 (Y (.ofNat (fR+1))) ?_ (fun _ _ _=>by rw[<-gM (show fR+1<9223372036854775808 by omega)];kernel_rfl)
    refine oN 1<|⟨l.l.length-(fR+1),om,rfl,rfl,fR+1,(max (a0) (e+1)),b+o,om,U,?_,?_,?_,?_,?_⟩
    · exact od
    · exact(z.trans M)
    · rw[BV kB,<-A];unfold sk;rw[if_neg (by show¬(_\/_\/_);omega),<-B]
    · first|omega|(dsimp only;omega)
    · first|omega|(dsimp only;omega)
  ·
   refine WP.exit<|sr<|oW 4 ⟨rfl,rfl,[Y (.ofNat a0),Y (.ofNat b)],U,?_⟩
   have hi:fR=l.l.length:=by omega
   rw[hi,List.take_length]at A
   exact⟨⟨a0,b,rfl,by rw[Sp];exact A,J,K⟩,od,j2⟩
 ·
  exact⟨0,0,l.l.length,om,U,e9 _,HE.refl _ _,rfl,(gG _),(by have:=hl.1.2.2;omega)⟩
theorem UI(n:Nat)(hn:n<=17)(l:SV RPart)(O:Ht)(G:Nat)(hl:ju jJ 3 (fun O G y=>kN O G y) O G l):WF ex 166 [l.v,Y (.ofNat n)] O G (fG G O (UH (sQ n l.l) n (281474976710656+257*n))):=by
 induction n generalizing l O G with
 |zero=>exact IG 0 (fun m h=>by omega) hn l O G hl
 |succ n ih=>exact IG (n+1) (fun m h l O G hl=>by obtain rfl:m=n:=om;exact ih om l O G hl) hn l O G hl
theorem WZ(C:j4)(O:Ht)(G:Nat)(e:oV O G C):WF ex 96 [.agg (iM C).toArray] O G (fG G O (ga (vQ C))):=by
 refine wd Tryz.f96 73 [.tmp 2] fun hE=>sr<|oB (.agg (iM C).toArray) (iM C) fun jq iC hU=>?_
 have kW:=hE.trans iC
 refine oN 1<|WP.seq<|sr<|oX 1 ?_
 obtain⟨a7,be,al⟩:=e.iv.shape
 have aS:=e.iv.2.2
 refine oZ G (0+1) (.slice a7 (C.iv.l.length) be) wA hU (by rw[<-al];rfl)<|oX 1 ?_
 refine oq 10 (nE 40 C.iv.l.length) fun B aF=>oX 1<|gF 11 B (pt G (0+2)) ?_
 obtain⟨a12,nu,am⟩:=e.jR.shape
 have aT:=e.jR.2.2
 refine nF 11 B G (0+2) (.slice a12 (C.jR.l.length) nu) C2 hU (by rw[<-am];rfl)<|gF 11 B (Y (.ofNat (C.jR.l.length))) ?_
 refine nm 11 B (nE 512 C.jR.l.length) fun rO uW=>?_
 refine mz 16 (nO aF uW) fun E aG=>oX 1<|gF 17 E (pt G (0+3)) ?_
 obtain⟨a17,S,u⟩:=e.fu.1.shape
 have aU:=e.fu.1.2.2
 refine nF 17 E G (0+3) (.slice a17 (C.fu.l.length) S) rP hU (by rw[<-u];rfl)<|gF 17 E (Y (.ofNat (C.fu.l.length))) ?_
 refine nm 17 E (nE 8 C.fu.l.length) fun yr Fg=>?_
 refine mz 22 (nO aG Fg) fun sw vN=>oX 1<|gF 23 sw (pt G (0+4)) ?_
 obtain⟨a22,Fa,an⟩:=e.kK.shape
 have aV:=e.kK.2.2
 refine nF 23 sw G (0+4) (.slice a22 (C.kK.l.length) Fa) FY hU (by rw[<-an];rfl)<|gF 23 sw (Y (.ofNat (C.kK.l.length))) ?_
 refine nm 23 sw (nE 32 C.kK.l.length) fun bq aH=>?_
 refine mz 28 (nO vN aH) fun F aI=>oX 1<|gF 29 F (pt G (0+5)) ?_
 obtain⟨az,aA,ao⟩:=e.jt.shape
 have aW:=e.jt.2.2
 refine nF 29 F G (0+5) (.slice az (C.jt.l.length) aA) FZ hU (by rw[<-ao];rfl)<|gF 29 F (Y (.ofNat (C.jt.l.length))) ?_
 refine nm 29 F (nE 32 C.jt.l.length) fun br aJ=>?_
 refine mz 34 (nO aI aJ) fun J aK=>oX 1<|gF 35 J (pt G (0+6)) ?_
 obtain⟨a32,aB,ap⟩:=e.iu.shape
 have aX:=e.iu.2.2
 refine nF 35 J G (0+6) (.slice a32 (C.iu.l.length) aB) C3 hU (by rw[<-ap];rfl)<|gF 35 J (Y (.ofNat (C.iu.l.length))) ?_
 refine nm 35 J (nE 32 C.iu.l.length) fun bs aL=>?_
 refine mz 40 (nO aK aL) fun K aM=>oX 1<|gF 41 K (pt G (0+7)) ?_
 obtain⟨a37,aC,aq⟩:=e.kV.shape
 have aY:=e.kV.2.2
 refine nF 41 K G (0+7) (.slice a37 (C.kV.l.length) aC) F0 hU (by rw[<-aq];rfl)<|gF 41 K (Y (.ofNat (C.kV.l.length))) ?_
 refine nm 41 K (nE 32 C.kV.l.length) fun bt aN=>?_
 refine mz 46 (nO aM aN) fun bu aO=>WO.nil<|cq aO (fun ag=>?_) (fun ag=>?_)
 ·
  refine sr<|oW 1 ⟨rfl,rfl,[.bool false],U,?_⟩
  exact⟨⟨false,rfl,fun h=>(by cases h),fun h=>(by have h:=h.1;omega)⟩,od,kW⟩
 ·
  refine WP.skip<|WP.seq<|sr<|oX 1<|oZ G (0+3) (.slice a17 (C.fu.l.length) S) rP hU (by rw[<-u];rfl)<|oN 2<|WP.block ?_
  refine mg [48,49,50] (fun m hs ns vs=>∃(b:Nat),b+m=C.fu.l.length/\vs=[.slice a17 (C.fu.l.length) S,Y (.ofNat (C.fu.l.length)),Y (.ofNat b)]/\G+1<=ns/\HE (G+1) jq hs/\(∀(j:Nat) (d:j6),j<b->C.fu.l[j]?=some d->zd d)) ?_ (C.fu.l.length) ?_
  ·
   rintro bo bk y _ ⟨b,aR,rfl,Cp,oJ,hinv⟩ a6
   have z:=kW.trans oJ
   refine sr ?_
   refine oq 51 (kL b C.fu.l.length) fun bw aP=>WO.nil<|WP.seq<|cq aP (fun aQ=>?_) (fun aQ=>?_)
   ·
    refine WP.skip<|WP.seq<|WP.block<|sr ?_
    have M:b<C.fu.l.length:=by omega
    refine WO.cons (WC.iy u e.fu.1 (b) wB n9 (M) ?_)
    obtain⟨o,p⟩:=gE M
    refine WO.cons (WC.ly u (e.fu.1.mono z nR) p ze n9<|oA [.string (⟨#[]⟩),.slice none (0) 0,Y 0,.slice none (0) 0,Y 0] KB fun bl aa aj=>?_)
    refine oS y (0) (.agg (iL o).toArray) (iL o) (iL o) n9 rfl (e7.2 ⟨rfl,BQ _ (e.fu.2 o (cs p))⟩) aj fun ak ab X bj=>?_
    have W:=(z.trans aa).trans ab
    refine WO.nil<|sr<|oX 1 ?_
    obtain⟨a80,aD,ac⟩:=(e.fu.2 o (cs p)).jI.1.shape
    have aZ:=(e.fu.2 o (cs p)).jI.1.2.2
    refine oZ y (0+1) (.slice a80 (o.jI.l.length) aD) pI X (by rw[<-ac];rfl)<|WO.cons (WC.call 57 166 ([o.jI.v,Y 17]) (fun _ _ _=>by(try rw[ac]);kernel_rfl) ((UI 17 (by decide) o.jI ak (y+1) ((e.fu.2 o (cs p)).jI.mono (fun _ h he hn=>h.mono he hn) W)).mono ?_))
    rintro _ bn bp ⟨⟨ae,af,rfl,L,bf,bg⟩,bh,A⟩
    refine oN 5<|sr<|oX 1 ?_
    obtain⟨ah,ai,ad⟩:=(e.fu.2 o (cs p)).jp.shape
    have aE:=(e.fu.2 o (cs p)).jp.2.2
    refine oZ y (0+3) (.slice ah (o.jp.l.length) ai) y_ (A.get X) (by rw[<-ad];rfl)<|oX 1 ?_
    refine oq 63 (nE 64 o.jp.l.length) fun N ar=>oX 1<|gF 64 N (Y (.ofNat ae)) ?_
    refine nm 64 N (nE 16 ae) fun a_ au=>?_
    refine mz 67 (nO ar au) fun R av=>oX 1<|gF 68 R (Y (.ofNat af)) ?_
    refine nm 68 R (nE 256 af) fun bc aw=>?_
    refine mz 71 (nO av aw) fun bd ax=>WO.nil<|cq ax (fun ay=>?_) (fun ay=>?_)
    ·
     refine sr<|oW 1 ⟨rfl,rfl,[.bool false],U,?_⟩
     exact⟨⟨false,rfl,fun h=>(by cases h),fun h=>(by have h:=h.2 _ (cs p);unfold zd at h;rw[<-L]at h;simp only at h;omega)⟩,od,(W.trans A)⟩
    ·
     refine WP.skip<|WP.region<|ov 72 (Y (.ofNat (b+1))) ?_ (fun _ _ _=>by rw[<-gM (show b+1<9223372036854775808 by omega)];kernel_rfl)
     refine oN 1<|⟨C.fu.l.length-(b+1),om,rfl,rfl,b+1,om,U,?_,?_,?_⟩
     · exact od
     · exact(((oJ.trans aa Cp).trans ab).trans A)
     · intro j d hj hd;rcases Nat.lt_succ_iff_lt_or_eq.1 hj with hj|rfl
       · exact hinv j d hj hd
       · rw[p]at hd;cases hd;unfold zd;rw[<-L];simp only;omega
   ·
    refine WP.exit<|sr<|oW 1 ⟨rfl,rfl,[.bool true],U,?_⟩
    refine⟨⟨true,rfl,fun _=>⟨by have:=ag;omega,fun d hd=>?_⟩,fun _=>rfl⟩,od,z⟩
    obtain⟨j,hj⟩:=fJ hd
    exact hinv j d (by have:=(fe.1 hj).1;omega) hj
  ·
   exact⟨0,om,U,e9 _,HE.refl _ _,(fun j d h=>absurd h (fz _))⟩
end
end Sw
namespace Sw
noncomputable section
open Go Go.RowKit
structure MK{α:Type}(T:Ty)(kt:TypeId)(ek:α->Value):Prop where
 key:∀x,vn T 8 kt (ek x)=true
 eq:∀x y,∃b,rJ T kt (ek x) (ek y)=some b/\(b=true↔x=y)
 same:∀x,BJ (ek x) (ek x)=true
def kM{α:Type}(ek:α->Value)(L:List α)(g:α->Value)(es:List MapEntry):Prop:=es.map (fun e=>(e.key,e.val))=L.map fun x=>(ek x,g x)
def yv{α:Type}(L:List α)(x:α):List α:=@ite _ (x∈L) (Classical.propDecidable _) L (L++[x])
theorem JJ{α:Type}{L:List α}{x:α}(h:x∈L):yv L x=L:=by unfold yv;exact if_pos h
theorem Hh{α:Type}{L:List α}{x:α}(h:x∉L):yv L x=L++[x]:=by unfold yv;exact if_neg h
theorem UJ{α:Type}{L:List α}{x y:α}:y∈yv L x↔y∈L\/y=x:=by
 by_cases h:x∈L
 · rw[JJ h];constructor
   · exact .inl
   · rintro(h1|rfl)
     · exact h1
     · exact h
 · rw[Hh h];simp
def lj{α:Type}(L:List α):List α:=L.foldl yv []
theorem IH{α:Type}(L:List α)(x:α):lj (L++[x])=yv (lj L) x:=by simp[lj,List.foldl_append]
theorem Fl{α:Type}{y:α}(L:List α):y∈lj L↔y∈L:=by
 have:∀(L A:List α),y∈L.foldl yv A↔y∈A\/y∈L:=by
  intro L
  induction L with
  |nil=>intro A;simp
  |cons x L ih=>intro A;rw[List.foldl_cons,ih,UJ,List.mem_cons,or_assoc]
 rw[lj,this];simp
theorem QP{α:Type}{L:List α}(h:L.Nodup)(x:α):(yv L x).Nodup:=by
 by_cases hx:x∈L
 · rw[JJ hx];exact h
 · rw[Hh hx];exact List.nodup_append.2 ⟨h,by simp,fun a e b hb=>by rw[List.mem_singleton.1 hb];rintro rfl;exact hx e⟩
theorem qR{α:Type}(L:List α):(lj L).Nodup:=by
 have:∀(L A:List α),A.Nodup->(L.foldl yv A).Nodup:=by
  intro L
  induction L with
  |nil=>intro A h;exact h
  |cons x L ih=>intro A h;exact ih _ (QP h x)
 exact this L [] (by simp)
section
variable {α:Type}{T:Ty}{kt el t:TypeId}{ek:α->Value}
theorem DI(K:MK T kt ek)(x:α):∀(L:List α) (g:α->Value) (es:List MapEntry) (n:Nat),kM ek L g es->
 (x∉L/\si (rJ T kt (ek x)) es n=some none)\/(x∈L/\∃i e,si (rJ T kt (ek x)) es n=some (some (n+i,e))/\e.key=ek x/\e.val=g x/\
   ∀v,∃m o j,L=m++x::o/\x∉m/\A8 (fun e=>⟨ek x,v,e.born⟩) es i=j/\j.map (fun e=>(e.key,e.val))=m.map (fun y=>(ek y,g y))++(ek x,v)::o.map fun y=>(ek y,g y))
 |[],g,es,n,h=>by
  have:es=[]:=by simpa[kM]using h
  subst this
  exact .inl ⟨by simp,rfl⟩
 |y::L,g,[],n,h=>by simp[kM]at h
 |y::L,g,e::es,n,h=>by
  have B:(e.key,e.val)=(ek y,g y)/\kM ek L g es:=by simpa[kM]using h
  obtain⟨h1,D⟩:=B
  have hk:e.key=ek y:=congrArg Prod.fst h1
  have C:e.val=g y:=congrArg Prod.snd h1
  obtain⟨b,hb,p⟩:=K.eq x y
  cases b with
  |true=>
   obtain rfl:=p.1 rfl
   refine .inr ⟨fh ..,0,e,?_,hk,C,fun v=>⟨[],L,_,rfl,by simp,rfl,?_⟩⟩
   · simp only[si,hk,hb,Nat.add_zero]
   · simp only[A8,List.map_cons,List.map_nil,List.nil_append];rw[show es.map (fun e=>(e.key,e.val))=_ from D]
  |false=>
   have jB:¬x=y:=fun k=>absurd (p.2 k) (by decide)
   have e1:si (rJ T kt (ek x)) (e::es) n=si (rJ T kt (ek x)) es (n+1):=by simp only[si,hk,hb]
   rcases DI K x L g es (n+1) D with⟨u,z⟩|⟨u,i,A,z,E,F,J⟩
   · exact .inl ⟨by simp[jB,u],by rw[e1,z]⟩
   · refine .inr ⟨List.mem_cons_of_mem _ u,i+1,A,by rw[e1,z];congr 3;omega,E,F,fun v=>?_⟩
     obtain⟨m,o,j,M,N,q3,R⟩:=J v
     refine⟨y::m,o,e::j,by rw[M];rfl,by simp[jB,N],by simp only[A8,q3],?_⟩
     rw[List.map_cons,R,List.map_cons,h1];rfl
variable {O:Hp}{L:List α}{g:α->Value}{es:List MapEntry}{c b:Nat}
theorem II(K:MK T kt ek)(hu:T.jh t=some (.map kt el))(hb:O b=some (.map es c))(j:kM ek L g es){x:α}(hx:x∈L):pj T O t (.map (some b)) (ek x) false=some (g x):=by
 rcases DI K x L g es 0 j with⟨h1,_⟩|⟨_,i,e,D,h3,h4,_⟩
 · exact absurd hx h1
 · simp only[pj,hu,mapOf,hb,K.key,cond_true,D,cond_false,h4]
theorem Gw(K:MK T kt ek)(hu:T.jh t=some (.map kt el))(hb:O b=some (.map es c))(e:kM ek L g es){z:Value}(j:T.zero el=some z){x:α}(hx:x∉L):pj T O t (.map (some b)) (ek x) false=some z:=by
 rcases DI K x L g es 0 e with⟨_,D⟩|⟨h1,_⟩
 · simp only[pj,hu,mapOf,hb,K.key,cond_true,D,j,cond_false]
 · exact absurd h1 hx
theorem ve(K:MK T kt ek)(hu:T.jh t=some (.map kt el))(j:T.zero el=some (.bool false))(hb:O b=some (.map es c))(e:kM ek L (fun _=>.bool true) es)(x:α){r:Bool}(hr:r=@decide (x∈L) (Classical.propDecidable _)):
 pj T O t (.map (some b)) (ek x) false=some (.bool r):=by
 by_cases hx:x∈L
 · rw[II K hu hb e hx,hr];simp[hx]
 · rw[Gw K hu hb e j hx,hr];simp[hx]
theorem Cr{f:α->Nat}(K:MK T kt ek)(hu:T.jh t=some (.map kt el))(j:T.zero el=some (.int .i64 0))(hb:O b=some (.map es c))(e:kM ek L (fun x=>.int .i64 (.ofNat (f x))) es)(h0:∀x,x∉L->f x=0)(x:α):
 pj T O t (.map (some b)) (ek x) false=some (.int .i64 (.ofNat (f x))):=by
 by_cases hx:x∈L
 · exact II K hu hb e hx
 · rw[Gw K hu hb e j hx,h0 x hx];rfl
theorem Le{g':α->Value}(K:MK T kt ek)(hu:T.jh t=some (.map kt el))(hb:O b=some (.map es c))(u:kM ek L g es)(p:L.Nodup)(x:α)(v:Value)(h1:g' x=v)(D:∀y,y≠x->g' y=g y):
 ∃j C,tn T O t (.map (some b)) (ek x) v=some [(b,some (.map j C))]/\kM ek (yv L x) g' j:=by
 have other:∀L':List α,x∉L'->L'.map (fun y=>(ek y,g y))=L'.map fun y=>(ek y,g' y):=fun L' h=>List.map_congr_left fun y hy=>by rw[D y fun e=>h (e▸hy)]
 rcases DI K x L g es 0 u with⟨m,o⟩|⟨m,i,e,o,E,R,F⟩
 · refine⟨es++[⟨ek x,v,c⟩],c+1,by simp only[tn,hu,hb,K.key,cond_true,o],?_⟩
   rw[Hh m,kM,List.map_append,List.map_append,show es.map (fun e=>(e.key,e.val))=_ from u,other _ m]
   simp[h1]
 · obtain⟨N,B,j,A,J,q3,M⟩:=F v
   rw[Nat.zero_add]at o
   refine⟨j,c,by simp only[tn,hu,hb,K.key,cond_true,o,E,K.same,q3],?_⟩
   have z:x∉B:=by
    rw[A]at p
    exact(List.nodup_cons.1 (List.nodup_append.1 p).2.1).1
   rw[JJ m,kM,M,other _ J,other _ z,A]
   simp[h1]
end
theorem kM.len{α:Type}{ek:α->Value}{L:List α}{g:α->Value}{es:List MapEntry}(h:kM ek L g es):es.length=L.length:=by
 simpa using congrArg List.length h
theorem Nk{α:Type}{T:Ty}{O:Hp}{t kt el:TypeId}{b c:Nat}{ek:α->Value}{L:List α}{g:α->Value}{es:List MapEntry}(hu:T.jh t=some (.map kt el))(hb:O b=some (.map es c))(e:kM ek L g es):GP T O t (.map (some b))=some (.int .i64 (.ofNat L.length)):=by
 rw[<-e.len]
 simp only[GP,hu,hb]
section
variable {e:Env}{fm:Fm}{I:Tm}{ds:List Deferred}{O:Ht}{G:Nat}{gS:List Nat}{Q:St->Prop}{all:List Oper}{d:Tmp}{ty:TypeId}{pos:String}{j0:Array Edge}
theorem mapped(O:Ht)(G:Nat)(o:jM Tm):∃b,O.set G (some o)=b/\HE G O b/\b.get G=some o:=⟨_,rfl,HE.set _ _ (e9 _),Tr.ia ..⟩
theorem WC.makeMap{t:TypeId}(hl:e.low=0)(q:Q ⟨I.set d (.map (some G)),ds,O.set G (some (.map [] 0)),G+1,gS⟩):WC e fm (iJ all ⟨some d,.makeMap t none,ty,pos,j0,none⟩) ⟨I,ds,O,G,gS⟩ Q:=
 .XR d (Dp e.T t none G) hl (fun _ _ _=>rfl) rfl q
theorem WC.mapUpdate{α:Type}{ek:α->Value}{L:List α}{g g':α->Value}{es:List MapEntry}{c:Nat}{t kt el:TypeId}{m k v:Operand}(b:Nat)(x:α)(val:Value)(hl:e.low=0)(hm:(fV m).run I=.map (some b))(hk:(fV k).run I=ek x)(A:(fV v).run I=val)
 (K:MK e.T kt ek) (hu:e.T.jh t=some (.map kt el)) (hb:O.get b=some (.map es c)) (z:kM ek L g es) (u:L.Nodup) (h1:g' x=val) (D:∀y,y≠x->g' y=g y)
 (q:∀j o eZ,HE b O eZ->eZ.get b=some (.map j o)->(∀c,c≠b->eZ.get c=O.get c)->kM ek (yv L x) g' j->Q ⟨I,ds,eZ,G,gS⟩):
 WC e fm (iJ all ⟨none,.mapUpdate t m k v,ty,pos,j0,none⟩) ⟨I,ds,O,G,gS⟩ Q:=by
 obtain⟨j,o,B,C⟩:=Le (O:=O.get) K hu hb z u x val h1 D
 refine .Ub [(b,some (.map j o))] hl (fun rec Z p=>?_) (q j o _ (HE.set _ _ (e9 _)) (Tr.ia ..) (fun c hc=>Tr.gA _ _ hc) C)
 have:(iJ all ⟨none,.mapUpdate t m k v,ty,pos,j0,none⟩).run e rec fm I ds O G Z p=yO (tn e.T O.get t ((fV m).run I) ((fV k).run I) ((fV v).run I)) (tK (fun t _=>t) e.low I ds O G Z p):=by
  cases m<;>cases k<;>cases v<;>rfl
 rw[this,hm,hk,A,B];rfl
end
theorem kM.nil{α:Type}{ek:α->Value}{g:α->Value}:kM ek [] g []:=rfl
theorem Yk{T:Ty}{kt:TypeId}(hu:T.jh kt=some (.int .i64)):MK T kt (fun x:Int=>.int .i64 x):=
 ⟨fun x=>by simp only[vn,hu],fun x y=>⟨kC x y,by simp only[rJ,hu];rfl,lJ⟩,fun x=>by show(wh .i64 .i64&&kC x x)=true;rw[lJ.2 rfl];rfl⟩
theorem Yl{T:Ty}{kt:TypeId}(hu:T.jh kt=some .string):MK T kt (fun x:ByteArray=>.string x):=
 ⟨fun x=>by simp only[vn,hu],fun x y=>⟨wF (strs x) (strs y),by simp only[rJ,hu],qZ⟩,fun x=>by show wF (strs x) (strs x)=true;exact qZ.2 rfl⟩
def qa(s:ByteArray)(i:Nat):Nat:=((strs s).getD i 0).toNat
theorem Sq(s:ByteArray)(i:Nat):qa s i<256:=UInt8.toNat_lt _
theorem yw{T:Ty}{t:TypeId}{s:ByteArray}{i:Nat}{k:IntKind}(hu:T.jh t=some .string)(hi:i<s.data.toList.length):wW T t (.string s) (.int k (.ofNat i))=some (.int .u8 (.ofNat (qa s i))):=by
 have:LR s i=some ((strs s).getD i 0):=by
  show s.data.toList[i]?=_
  unfold strs
  rw[List.getElem?_eq_getElem hi,List.getD_eq_getElem?_getD,List.getElem?_eq_getElem hi];rfl
 simp only[wW,hu,this,Option.map_some]
 rfl
theorem Nl{a b:ByteArray}(h1:(strs a).length<1073741824)(D:(strs b).length<1073741824):Eu .add a b=some (.string ⟨(strs a++strs b).toArray⟩):=by
 simp only[Eu,mE.2 h1,mE.2 D,Bool.and_self,cond_true]
theorem JK{T:Ty}{t el:TypeId}{b o len i s:Nat}{k:IntKind}(hu:T.jh t=some (.array len el))(hs:T.size el=some s)(hi:i<len):mH T t (.pointer (some ⟨b,o,none⟩)) (.int k (.ofNat i))=some (.pointer (some ⟨b,o+i*s,none⟩)):=by
 simp only[mH,hu,u4,mE.2 hi,cond_true,hs,Option.map_some,Int.toNat]
theorem Cs:∀l:List Int,CG (l.map (.int .i64)) (l.map (.int .i64))=true
 |[]=>rfl
 |x::l=>by
  have h1:EC (.int .i64 x) (.int .i64 x)=true:=by show(wh .i64 .i64&&kC x x)=true;rw[lJ.2 rfl];rfl
  simp only[List.map_cons,CG,h1,Cs l,Bool.and_self]
end
end Sw
namespace Sw
noncomputable section
open Go Go.Proofs Go.RowKit
set_option maxRecDepth 100000
set_option maxHeartbeats 1600000
def Fo(n:Nat):Nat:=if(97<=n/\n<=122)\/(65<=n/\n<=90)then 2 else if 48<=n/\n<=57 then 3 else if n∈[123,125,40,41,91,93,59,44,61,60,62]then 4 else if n∈[32,9,10,13]then 1 else 0
def Fp:List Value:=(List.range 256).map fun n=>.int .u8 (.ofNat (Fo n))
def UK:List Value:=(List.range 256).map fun _=>.int .u8 0
theorem W0{n:Nat}(h:n<256):Fp[0+n*1]?=some (.int .u8 (.ofNat (Fo n))):=by
 rw[Nat.zero_add,Nat.mul_one]
 unfold Fp
 rw[List.getElem?_map,List.getElem?_range h];rfl
def yx:Prop:=∀(O:Ht) (G:Nat),WF ex 415 [] O G (fG G O (fun v=>v=.agg Fp.toArray))
def wC:Prop:=∀(a b:ByteArray) (O:Ht) (G:Nat),(strs a).length<4294967281->WF ex 348 [.string a,.string b] O G (fG G O (ga (Lib.contains (strs a) (strs b)=true)))
def IJ:ByteArray:=⟨#[32,99,111,117,114,115,101,32,109,97,116,115,32,115,116,97,114,116,32,112,97,115,115,32,101,110,100,32,108,101,103,32,116,111,32,100,105,115,116,97,110,99,101,32,103,117,110,32,99,104,105,112,32,115,108,111,116,32,108,97,112,115,32,108,97,112,32,99,117,116,111,102,102,32,101,120,116,114,97,32,119,97,118,101,32,111,102,102,101,110,99,101,32,111,117,116,32,99,97,116,101,103,111,114,121,32,112,114,105,122,101,32,97,108,108,32,116,105,101,115,32,105,102,32,101,108,115,101,32,97,110,100,32,111,114,32,110,111,116,32,111,108,100,101,114,32,121,111,117,110,103,101,114,32,98,105,98,32,100,114,97,119,32,102,105,101,108,100,32,115,104,111,114,116,32,102,97,117,108,116,115,32,109,105,115,115,101,115,32,115,116,114,97,121,115,32,119,105,110,100,111,119,32,114,101,115,105,100,117,97,108,32,100,114,105,102,116,32,112,114,111,116,101,115,116,32,102,101,101,32,100,101,97,100,108,105,110,101,32]⟩
def IK(s:ByteArray):ByteArray:=⟨(strs (⟨(strs (⟨#[32]⟩:ByteArray)++strs s).toArray⟩:ByteArray)++strs (⟨#[32]⟩:ByteArray)).toArray⟩
def Nn(s:ByteArray)(i:Nat):Prop:=Fo (qa s i)≠2/\(i=0\/Fo (qa s i)≠3/\qa s i≠95)
def V6(s:ByteArray):Prop:=(∀i,i<s.data.toList.length->¬Nn s i)/\s≠⟨#[]⟩
def Ym(s:ByteArray):Prop:=V6 s/\Lib.contains (strs IJ) (strs (IK s))=true
def No(s:ByteArray)(i:Nat):Prop:=((qa s i<97\/122<qa s i)/\(qa s i<48\/57<qa s i))/\qa s i≠95
def IL(s:ByteArray):Prop:=(1<=s.data.toList.length/\s.data.toList.length<=24/\97<=qa s 0/\qa s 0<=122)/\(∀i,i<s.data.toList.length->¬No s i)/\¬Ym s
theorem Yn:ex.T.agg 5=some false:=U
theorem W1:ex.T.size 5=some 1:=U
theorem Sr:ex.T.size 608=some 256:=U
theorem Ss:ex.T.jh 608=some (.array 256 5):=U
theorem C5:ex.T.jh 9=some .string:=U
theorem QQ:ex.T.zero 608=some (.agg (UK).toArray):=U
theorem Su(qn:yx)(w:ByteArray)(O:Ht)(G:Nat)(hs:w.data.toList.length<4611686018427387904):WF ex 347 [.string (w)] O G (fG G O (ga (V6 w))):=by
 refine wd Tryz.f347 36 [.tmp 2] fun hE=>sr<|oN 1<|sr<|WO.cons (WC.call 6 415 ([]) kf ((qn O (G)).mono ?_))
 rintro _ az oT ⟨rfl,ay,iC⟩
 refine oA (UK) QQ fun ag jl R=>?_
 refine WO.cons (WC.uR oT (0) (.agg Fp.toArray) (UK) (Fp) (Fp) 256 rfl U U Sr rfl U R rfl rfl U ?_)
 obtain⟨aa,A,W,S,aq⟩:=stored ag oT (.cells (Fp) gi.plain)
 rw[A];clear A
 refine WO.nil<|WP.seq<|sr<|oN 3<|WP.block ?_
 refine mg [0,3,8,9] (fun m hs ns vs=>∃(b:Nat),b+m=w.data.toList.length/\vs=[.string (w),pt oT 0,Y (.ofNat ((w).data.toList.length)),Y (.ofNat b)]/\oT+1<=ns/\HE (oT+1) aa hs/\(∀j,j<b->¬Nn w j)) ?_ (w.data.toList.length) ?_
 ·
  rintro au ab av _ ⟨b,ao,rfl,X,u,hinv⟩ ap
  have z:=(((hE.trans iC).trans jl).trans W).trans u
  refine sr ?_
  refine oq 10 (kL b ((w).data.toList.length)) fun aw ah=>WO.nil<|WP.seq<|cq ah (fun an=>?_) (fun an=>?_)
  ·
   refine WP.skip<|WP.seq<|WP.block<|sr<|oN 2<|sr<|oX 2 ?_
   have C:b<((w).data.toList.length):=by omega
   refine WO.cons (WC.me (v:=.int .u8 (.ofNat (qa w (b)))) 14 (wW ex.T 9 (.string (w)) (Y (.ofNat (b)))) kf (yw (k:=.i64) C5 C)<|WO.cons (WC.me (v:=pt oT (0+((qa w (b)))*1)) 15 (mH ex.T 608 (pt oT 0) (.int .u8 (.ofNat ((qa w (b)))))) kf (JK (k:=.u8) Ss W1 (Sq _ _))<|WO.cons (WC.me (v:=.int .u8 (.ofNat (Fo ((qa w (b)))))) 16 (j9 ex.T ab.get 5 (pt oT (0+((qa w (b)))*1))) kf (j_ Yn (u.get S) (W0 (Sq _ _)))<|oN 1<|sr<|oX 1 ?_)))
   refine oq 18 (MO (Fo ((qa w (b)))) 2) fun e L=>oX 1<|gT 19 e (Y (.ofNat b)) ?_
   refine qu 19 e (vK b 0) fun o M=>gT 19 e (.bool o)<|og 22 (e&&!o) (.int .u8 (.ofNat (Fo ((qa w (b)))))) ((bif e then .bool o else undef)) (by cases e<;>cases o<;>rfl) (fun h=>by obtain⟨rfl,rfl⟩:=yl h;exact fun _ _ _=>by kernel_rfl) ?_
   obtain⟨p,ac,N⟩:=MO (Fo ((qa w (b)))) 3
   refine og 22 (e&&!o) (.bool p) ((bif e then .bool o else undef)) (by cases e<;>cases o<;>rfl) (fun h=>by obtain⟨rfl,rfl⟩:=yl h;exact fun _ _ _=>by subst ac;kernel_rfl) ?_
   refine og 22 (e&&!o) (.bool p) ((bif e then .bool o else undef)) (by cases e<;>cases o<;>rfl) (fun h=>by obtain⟨rfl,rfl⟩:=yl h;exact fun _ _ _=>by kernel_rfl) ?_
   refine og 25 (e&&!o&&p) (.string (w)) ((bif e&&!o then .bool p else undef)) (by cases e<;>cases o<;>cases p<;>rfl) (fun h=>by obtain⟨rfl,rfl,rfl⟩:e=true/\o=false/\p=true:=(by simpa[and_assoc]using h);exact fun _ _ _=>by kernel_rfl) ?_
   refine og 25 (e&&!o&&p) (Y (.ofNat b)) ((bif e&&!o then .bool p else undef)) (by cases e<;>cases o<;>cases p<;>rfl) (fun h=>by obtain⟨rfl,rfl,rfl⟩:e=true/\o=false/\p=true:=(by simpa[and_assoc]using h);exact fun _ _ _=>by kernel_rfl) ?_
   have E:(e&&!o&&p)=true->b<((w).data.toList.length):=fun h=>by obtain⟨rfl,rfl,rfl⟩:e=true/\o=false/\p=true:=(by simpa[and_assoc]using h);have aA:=(L).1 rfl;have aB:¬(((b:Nat):Int)=(0)):=(fun k=>absurd ((M).2 k) (by decide));have aC:=(N).1 rfl;omega
   refine wG 25 (e&&!o&&p) (.int .u8 (.ofNat (qa w (b)))) ((bif e&&!o then .bool p else undef)) (by cases e<;>cases o<;>cases p<;>rfl) (fun h=>by obtain⟨rfl,rfl,rfl⟩:e=true/\o=false/\p=true:=(by simpa[and_assoc]using h);exact WC.me (v:=.int .u8 (.ofNat (qa w (b)))) 28 (wW ex.T 9 (.string (w)) (Y (.ofNat (b)))) kf (yw (k:=.i64) C5 (E rfl)) rfl) ?_
   obtain⟨F,ad,ai⟩:=MO (qa w (b)) 95
   refine og 25 (e&&!o&&p) (.bool F) ((bif e&&!o then .bool p else undef)) (by cases e<;>cases o<;>cases p<;>rfl) (fun h=>by obtain⟨rfl,rfl,rfl⟩:e=true/\o=false/\p=true:=(by simpa[and_assoc]using h);exact fun _ _ _=>by subst ad;kernel_rfl) ?_
   obtain⟨y,ae,aj⟩:=nA N ai
   refine wG 22 (e&&!o) (.bool y) ((bif e then .bool o else undef)) (by cases e<;>cases o<;>rfl) (fun h=>by obtain⟨rfl,rfl⟩:=yl h;exact WC.me (v:=.bool y) 30 (kZ (.bool p) ((bif true&&!false&&p then .bool F else undef)) (.bool false)) kf (by rw[ae];exact tz (fun h=>by obtain rfl:p=true:=h;rfl)) rfl) ?_
   obtain⟨J,af,ak⟩:=nO M aj
   refine E_ 19 e (.bool J) (by rintro rfl;exact WC.me (v:=.bool J) 31 (kZ (.bool o) (.bool true) ((bif true&&!o then .bool y else undef))) kf (by rw[af];exact kS (fun h=>by obtain rfl:o=false:=h;rfl)) rfl) ?_
   refine mT 32 (nA L ak) fun ax al=>WO.nil<|cq al (fun B=>?_) (fun B=>?_)
   ·
    refine sr<|oW 1 ⟨rfl,rfl,[.bool false],U,?_⟩
    exact⟨⟨false,rfl,fun h=>(by cases h),fun h=>(by have ar:=B;exact absurd (show Nn w b by unfold Nn;omega) (h.1 b om))⟩,od,z⟩
   ·
    refine WP.skip<|WP.region<|ov 33 (Y (.ofNat (b+1))) ?_ (fun _ _ _=>by rw[<-gM (show b+1<9223372036854775808 by omega)];kernel_rfl)
    refine oN 1<|⟨w.data.toList.length-(b+1),om,rfl,rfl,b+1,om,U,?_,?_,?_⟩
    · exact X
    · exact u
    · intro j hj;rcases Nat.lt_succ_iff_lt_or_eq.1 hj with hj|rfl
      · exact hinv j hj
      · have ar:=B;unfold Nn;omega
  ·
   refine WP.exit<|sr<|oX 1 ?_
   refine oq 35 (@nb (!(wF (strs w) (strs ⟨#[]⟩))) (w≠⟨#[]⟩) (RT)) fun K am=>oW 1 ⟨rfl,rfl,[.bool K],U,?_⟩
   exact⟨⟨K,rfl,am.trans ⟨fun h=>⟨fun j hj=>hinv j om,h⟩,fun h=>h.2⟩⟩,od,z⟩
 ·
  exact⟨0,om,U,e9 _,HE.refl _ _,(fun j h=>absurd h (fz _))⟩
theorem QR(qn:yx)(qJ:wC)(w:ByteArray)(O:Ht)(G:Nat)(hs:w.data.toList.length<1000):WF ex 262 [.string (w)] O G (fG G O (ga (Ym w))):=by
 refine wd Tryz.f262 11 [.tmp 2] fun hE=>sr<|oN 1<|sr<|oX 1<|oD 4 (Su qn w O (G) om) fun b e j oT y iC=>?_
 refine oX 1<|gT 5 b (.string (w))<|wG 5 (b) (.string ((⟨(strs (⟨#[32]⟩:ByteArray)++strs (w:ByteArray)).toArray⟩:ByteArray))) (.bool b) (by cases b<;>rfl) (fun h=>by obtain rfl:=h;have o:=(e).1 rfl;exact WC.me (v:=.string ((⟨(strs (⟨#[32]⟩:ByteArray)++strs (w:ByteArray)).toArray⟩:ByteArray))) 7 (Eu .add (⟨#[32]⟩) (w)) kf (Nl (by decide) (by show w.data.toList.length<_;omega)) rfl) ?_
 refine wG 5 (b) (.string ((⟨(strs ((⟨(strs (⟨#[32]⟩:ByteArray)++strs (w:ByteArray)).toArray⟩:ByteArray):ByteArray)++strs (⟨#[32]⟩:ByteArray)).toArray⟩:ByteArray))) (.bool b) (by cases b<;>rfl) (fun h=>by obtain rfl:=h;have o:=(e).1 rfl;exact WC.me (v:=.string ((⟨(strs ((⟨(strs (⟨#[32]⟩:ByteArray)++strs (w:ByteArray)).toArray⟩:ByteArray):ByteArray)++strs (⟨#[32]⟩:ByteArray)).toArray⟩:ByteArray))) 8 (Eu .add ((⟨(strs (⟨#[32]⟩:ByteArray)++strs (w:ByteArray)).toArray⟩:ByteArray)) (⟨#[32]⟩)) kf (Nl (by show(strs (⟨#[32]⟩:ByteArray)++strs w).length<_;rw[List.length_append];show 1+w.data.toList.length<_;omega) (by decide)) rfl) ?_
 refine WO.cons (WC.gq (b) (GB (b) (Lib.contains (strs IJ) (strs (IK w))=true) (oT) j) (.bool b) (g:=fV (.tmp 5)) rfl U (by cases b<;>rfl) (fun h=>by obtain rfl:b=true:=(by simpa using h);have o:=(e).1 rfl;exact WC.call 9 348 ([.string IJ,.string (IK w)]) kf ((qJ IJ (IK w) j (oT) (by decide)).mono fun v eZ e5 ⟨⟨c,u,hc⟩,hn,he⟩=>⟨_,_,_,rfl,⟨c,u,hc⟩,hn,he⟩)) (fun h=>GB.off h) ?_)
 rintro _ z A ⟨⟨nM,rfl,rN⟩,p,m⟩
 refine mT 10 (nA e rN) fun rO uW=>oW 1 ⟨rfl,rfl,[.bool rO],U,?_⟩
 refine⟨⟨rO,rfl,?_⟩,od,((hE.trans iC).trans m)⟩
 exact uW
theorem zF(qn:yx)(qJ:wC)(w:ByteArray)(O:Ht)(G:Nat):WF ex 167 [.string (w)] O G (fG G O (ga (IL w))):=by
 refine wd Tryz.f167 53 [.tmp 2] fun hE=>sr<|oN 1<|WP.seq<|sr<|oX 2 ?_
 refine oq 7 (y5 ((w).data.toList.length) 1) fun c1 p1=>oX 1<|gF 8 c1 (.string (w))<|gF 8 c1 (Y (.ofNat ((w).data.toList.length))) ?_
 refine nm 8 c1 (nE 24 ((w).data.toList.length)) fun c2 az=>?_
 refine mz 12 (nO p1 az) fun p ah=>oX 1<|gF 13 p (.string (w)) ?_
 have N:(!p)=true->0<((w).data.toList.length):=fun h=>by obtain rfl:p=false:=(by simpa using h);have aD:¬((((((w).data.toList.length):Nat):Int)<(1))\/((24)<((((w).data.toList.length):Nat):Int))):=(fun k=>absurd ((ah).2 k) (by decide));omega
 refine xJ 13 p (.int .u8 (.ofNat (qa w (0)))) (by rintro rfl;exact WC.me (v:=.int .u8 (.ofNat (qa w (0)))) 15 (wW ex.T 9 (.string (w)) (Y (.ofNat (0)))) kf (yw (k:=.i64) C5 (N rfl)) rfl) ?_
 refine nm 13 p (y5 (qa w (0)) 97) fun aI aA=>?_
 refine mz 17 (nO ah aA) fun u ao=>oX 1<|gF 18 u (.string (w)) ?_
 have R:(!u)=true->0<((w).data.toList.length):=fun h=>by obtain rfl:u=false:=(by simpa using h);have aD:¬(((((((w).data.toList.length):Nat):Int)<(1))\/((24)<((((w).data.toList.length):Nat):Int)))\/((((qa w (0)):Nat):Int)<(97))):=(fun k=>absurd ((ao).2 k) (by decide));omega
 refine xJ 18 u (.int .u8 (.ofNat (qa w (0)))) (by rintro rfl;exact WC.me (v:=.int .u8 (.ofNat (qa w (0)))) 20 (wW ex.T 9 (.string (w)) (Y (.ofNat (0)))) kf (yw (k:=.i64) C5 (R rfl)) rfl) ?_
 refine nm 18 u (nE 122 (qa w (0))) fun aJ aB=>?_
 refine mz 22 (nO ao aB) fun aK aC=>WO.nil<|cq aC (fun L=>?_) (fun L=>?_)
 ·
  refine sr<|oW 1 ⟨rfl,rfl,[.bool false],U,?_⟩
  exact⟨⟨false,rfl,fun h=>(by cases h),fun h=>(by have h:=h.1;omega)⟩,nR,hE⟩
 ·
  refine WP.skip<|WP.seq<|sr<|oN 3<|WP.block ?_
  refine mg [0,24,25] (fun m hs ns vs=>∃(b:Nat),b+m=w.data.toList.length/\vs=[.string (w),Y (.ofNat ((w).data.toList.length)),Y (.ofNat b)]/\G<=ns/\HE (G) O hs/\(∀j,j<b->¬No w j)) ?_ (w.data.toList.length) ?_
  ·
   rintro ax W X _ ⟨b,aq,rfl,S,z,hinv⟩ ar
   have y:=hE.trans z
   refine sr ?_
   refine oq 26 (kL b ((w).data.toList.length)) fun sw vN=>WO.nil<|WP.seq<|cq vN (fun ap=>?_) (fun ap=>?_)
   ·
    refine WP.skip<|WP.seq<|WP.block<|sr<|oN 2<|sr<|oX 2 ?_
    have B:b<((w).data.toList.length):=by omega
    refine WO.cons (WC.me (v:=.int .u8 (.ofNat (qa w (b)))) 30 (wW ex.T 9 (.string (w)) (Y (.ofNat (b)))) kf (yw (k:=.i64) C5 B)<|oN 1<|sr<|oX 1 ?_)
    refine oq 32 (y5 (qa w (b)) 97) fun C ac=>oX 1<|gF 33 C (.int .u8 (.ofNat (qa w (b)))) ?_
    refine nm 33 C (nE 122 (qa w (b))) fun aE ad=>?_
    refine mz 36 (nO ac ad) fun e ae=>oX 1<|gT 37 e (.int .u8 (.ofNat (qa w (b)))) ?_
    refine qu 37 e (y5 (qa w (b)) 48) fun o af=>gT 37 e (.bool o)<|og 40 (e&&!o) (.int .u8 (.ofNat (qa w (b)))) ((bif e then .bool o else undef)) (by cases e<;>cases o<;>rfl) (fun h=>by obtain⟨rfl,rfl⟩:=yl h;exact fun _ _ _=>by kernel_rfl) ?_
    obtain⟨E,aa,ag⟩:=nE 57 (qa w (b))
    refine og 40 (e&&!o) (.bool E) ((bif e then .bool o else undef)) (by cases e<;>cases o<;>rfl) (fun h=>by obtain⟨rfl,rfl⟩:=yl h;exact fun _ _ _=>by subst aa;kernel_rfl) ?_
    obtain⟨F,ab,ai⟩:=nO af ag
    refine E_ 37 e (.bool F) (by rintro rfl;exact WC.me (v:=.bool F) 43 (kZ (.bool o) (.bool true) ((bif true&&!o then .bool E else undef))) kf (by rw[ab];exact kS (fun h=>by obtain rfl:o=false:=h;rfl)) rfl) ?_
    refine mT 44 (nA ae ai) fun J aj=>oX 1<|gT 45 J (.int .u8 (.ofNat (qa w (b)))) ?_
    refine qu 45 J (MO (qa w (b)) 95) fun aF ak=>?_
    refine mT 48 (nA aj ak) fun aG al=>WO.nil<|cq al (fun A=>?_) (fun A=>?_)
    ·
     refine sr<|oW 1 ⟨rfl,rfl,[.bool false],U,?_⟩
     exact⟨⟨false,rfl,fun h=>(by cases h),fun h=>(by have aw:=A;exact absurd (show No w b by unfold No;omega) (h.2.1 b om))⟩,od,y⟩
    ·
     refine WP.skip<|WP.region<|ov 49 (Y (.ofNat (b+1))) ?_ (fun _ _ _=>by rw[<-gM (show b+1<9223372036854775808 by omega)];kernel_rfl)
     refine oN 1<|⟨w.data.toList.length-(b+1),om,rfl,rfl,b+1,om,U,?_,?_,?_⟩
     · exact S
     · exact z
     · intro j hj;rcases Nat.lt_succ_iff_lt_or_eq.1 hj with hj|rfl
       · exact hinv j hj
       · have aw:=A;unfold No;omega
   ·
    refine WP.exit<|sr<|oX 1<|oD 51 (QR qn qJ w W (X) om) fun aH am av ay au M=>?_
    refine oq 52 (nN am) fun K an=>oW 1 ⟨rfl,rfl,[.bool K],U,?_⟩
    exact⟨⟨K,rfl,an.trans ⟨fun h=>⟨by have:=L;omega,fun j hj=>hinv j om,h⟩,fun h=>h.2.2⟩⟩,od,(y.trans M)⟩
  ·
   exact⟨0,om,U,e9 _,HE.refl _ _,(fun j h=>absurd h (fz _))⟩
end
end Sw
namespace Sw
noncomputable section
open Go Go.Proofs Go.RowKit
set_option maxRecDepth 100000
set_option maxHeartbeats 1600000
theorem uN{α β:Type}{k:α->β}{l:List α}{i:Nat}{x:α}(h:l[i]?=some x):lj ((l.take (i+1)).map k)=yv (lj ((l.take i).map k)) (k x):=by
 rw[List.take_add_one,h,Option.toList_some,List.map_append];exact IH _ _
def pc(L:List ByteArray):Prop:=(∀s∈L,IL s)/\L.Nodup
theorem AI{α:Type}{N:α->ByteArray}{l:List α}{i:Nat}{x:α}(hx:l[i]?=some x)(h:pc ((l.take i).map N))(q:¬(¬IL (N x)\/N x∈lj ((l.take i).map N))):pc ((l.take (i+1)).map N):=by
 rw[Fl]at q
 rw[List.take_add_one,hx,Option.toList_some,List.map_append]
 refine⟨fun s hs=>?_,List.nodup_append.2 ⟨h.2,by simp,fun a e b hb=>?_⟩⟩
 · rcases List.mem_append.1 hs with hs|hs
   · exact h.1 s hs
   · rw[List.mem_singleton.1 hs];exact fg.1 fun k=>q (.inl k)
 · rw[List.mem_singleton.1 hb];rintro rfl;exact q (.inr e)
theorem BW{α:Type}{N:α->ByteArray}{l:List α}{i:Nat}{x:α}(hx:l[i]?=some x)(q:¬IL (N x)\/N x∈lj ((l.take i).map N)):¬pc (l.map N):=by
 intro h
 rw[Fl]at q
 rcases q with q|q
 · exact q (h.1 _ (fO.2 ⟨x,cs hx,rfl⟩))
 · have hi:=(List.getElem?_eq_some_iff.1 hx).1
   have e:l=l.take i++x::l.drop (i+1):=by
    have:=List.take_append_drop i l
    rw[List.drop_eq_getElem_cons hi]at this
    rw[(List.getElem?_eq_some_iff.1 hx).2]at this
    exact this.symm
   have D:=h.2
   rw[e,List.map_append,List.nodup_append]at D
   exact D.2.2 _ q _ (fO.2 ⟨x,fh ..,rfl⟩) rfl
def Bz(C:j4):Prop:=((((IL C.lM/\pc (C.iv.l.map (·.lM)))/\pc (C.fu.l.map (·.lM)))/\pc (C.kK.l.map (·.lM)))/\pc (C.jt.l.map (·.lM)))/\pc (C.iu.l.map (·.lM))
theorem zG:MK ex.T 9 (fun x:ByteArray=>.string x):=Yl U
theorem BX:ex.T.jh 458=some (.map 9 4):=U
theorem Pv:ex.T.zero 4=some (.bool false):=U
theorem Hi:ex.T.agg 140=some true:=U
theorem Hj:ex.T.agg 146=some true:=U
theorem DJ:ex.T.agg 355=some true:=U
theorem DK:ex.T.agg 359=some true:=U
theorem xO:ex.T.size 140=some 2:=U
theorem Fq:ex.T.size 146=some 2:=U
theorem xP:ex.T.size 355=some 4:=U
theorem xQ:ex.T.size 359=some 3:=U
theorem C6:ex.T.jh 22=some (.slice 140):=U
theorem Pw:ex.T.jh 25=some (.slice 146):=U
theorem Px:ex.T.jh 26=some (.slice 355):=U
theorem Py:ex.T.jh 27=some (.slice 359):=U
theorem Sv:ex.T.zero 140=some (.agg ⟨[.string (⟨#[]⟩),Y 0]⟩):=U
theorem Sx:ex.T.zero 146=some (.agg ⟨[.string (⟨#[]⟩),Y 0]⟩):=U
theorem Sy:ex.T.zero 355=some (.agg ⟨[.string (⟨#[]⟩),Y 0,Y 0,.bool false]⟩):=U
theorem Sz:ex.T.zero 359=some (.agg ⟨[.string (⟨#[]⟩),Y 0,Y 0]⟩):=U
theorem Yo{p:Prop}(h:p:=by
 obtain⟨a1,c2,hR⟩:=hK.shape
 have lU:=hK.2.2
 rw[hR]
 refine Gr mC fun hE=>sr<|oN 1<|sr<|WO.cons (WC.makeMap rfl ?_)
 obtain⟨zE,zH,pC,uo⟩:=mapped O (G) (.map [] 0)
 rw[zH];clear zH
 refine oN 1<|WP.seq<|sr<|oN 3<|WP.block ?_
 refine mg [1,5,10,11,12] (fun m hs ns vs=>∃(gY:Nat) (sR:List MapEntry) (vR:Nat),gY+m=K.l.length/\vs=[.func (.func f) #[] b,.map (some G),.slice a1 (K.l.length) c2,Y (.ofNat (K.l.length)),Y (.ofNat gY)]/\G+1<=ns/\HE G O hs/\hs.get G=some (.map sR vR)/\(pc ((K.l.take gY).map N))/\(kM (fun x:ByteArray=>.string x) (lj ((K.l.take gY).map N)) (fun _=>.bool true) sR)) ?_ (K.l.length) ?_
 ·
  rintro Fc DL sS _ ⟨gY,sR,vR,IN,rfl,xq,jx,zf,hinv,vS⟩ BU
  refine sr ?_
  refine oq 13 (kL gY K.l.length) fun ux ul=>WO.nil<|WP.seq<|cq ul (fun yq=>?_) (fun yq=>?_)
  ·
   refine WP.skip<|WP.seq<|WP.block<|sr ?_
   have rQ:gY<K.l.length:=by omega
   refine WO.cons (WC.iy hR hK (gY) nC pa (rQ) ?_)
   obtain⟨lr,pw⟩:=gE rQ
   refine WO.cons (WC.ly hR (hK.mono jx nR) pw sY pa<|oA [.string (⟨#[]⟩),Y 0] R_ fun vO sO uL=>?_)
   refine oS sS (0) (.agg (pu lr).toArray) (pu lr) (pu lr) pa rfl rfl uL fun xv uM xw BA=>?_
   have vT:=(jx.trans sO).trans uM
   refine WO.nil<|sr<|oX 1<|WO.cons (WC.im sS (0) (pu lr) U sY pa xw rfl<|WO.cons (WC.call 18 f ((.agg (pu lr).toArray)::b.toList) kf ((hf gY lr pw xv (sS+1) om vT).mono ?_)))
   rintro _ pH oK ⟨rfl,Cp,oJ⟩
   refine oN 1<|WP.seq<|sr<|oX 1<|oD 20 (zF qn qJ (N lr) pH (oK)) fun SA Np vj JL QS sT=>?_
   have wQ:=(vT.trans oJ).trans sT
   have yu:=sT.get (oJ.get ((BA G om).trans (sO.get zf)))
   refine oq 21 (nN Np) fun w_ Fs=>oX 1<|gF 22 w_ (.map (some G))<|gF 22 w_ (.string ((N lr))) ?_
   obtain⟨Ak,Nq,ID⟩:=@nb (@decide ((N lr)∈(lj ((K.l.take gY).map N))) (Classical.propDecidable _)) ((N lr)∈(lj ((K.l.take gY).map N))) (@decide_eq_true_iff _ (Classical.propDecidable _))
   refine xJ 22 w_ (.bool Ak) (by rintro rfl;exact WC.me (v:=.bool Ak) 25 (pj ex.T vj.get 458 (.map (some G)) ((fun x:ByteArray=>.string x) (N lr)) false) kf (ve (O:=vj.get) zG BX Pv yu vS (N lr) Nq) rfl) ?_
   refine mz 26 (nO Fs ID) fun Pu C1=>WO.nil<|cq C1 (fun tD=>?_) (fun tD=>?_)
   ·
    refine sr<|oW 1 ⟨rfl,rfl,[.bool false],U,?_⟩
    exact⟨⟨false,rfl,fun h=>(by cases h),fun h=>absurd h (BW pw tD)⟩,od,wQ⟩
   ·
    refine WP.skip<|WP.region<|oX 2<|WO.cons (WC.mapUpdate (g:=(fun _=>.bool true)) (g':=(fun _=>.bool true)) G (N lr) (.bool true) rfl U U U zG BX yu vS (qR _) rfl (fun _ _=>rfl) ?_)
    rintro Hk jG JG xy Hl UL Hm
    refine WO.nil<|WP.region<|ov 29 (Y (.ofNat (gY+1))) ?_ (fun _ _ _=>by rw[<-gM (show gY+1<9223372036854775808 by omega)];kernel_rfl)
    refine oN 1<|⟨K.l.length-(gY+1),om,rfl,rfl,gY+1,Hk,jG,om,U,?_,?_,?_,?_,?_⟩
    · exact od
    · exact(wQ.trans xy)
    · exact Hl
    · exact AI pw hinv tD
    · rw[uN pw];exact Hm
  ·
   refine WP.exit<|sr<|oW 1 ⟨rfl,rfl,[.bool true],U,?_⟩
   have hT:K.l.take gY=K.l:=fy om
   rw[hT]at hinv
   exact⟨⟨true,rfl,fun _=>hinv,fun _=>rfl⟩,od,jx⟩
 ·
  exact⟨0,([]:List MapEntry),0,om,U,e9 _,(hE.trans pC),uo,⟨(fun _ h=>by cases h),List.nodup_nil⟩,(show kM _ (lj ((K.l.take 0).map N)) _ _ from kM.nil)⟩):p:=h
theorem OB(qn:yx)(qJ:wC)(N:tN->ByteArray)(K:SV tN)(f:FuncId)(b:Array Value)(O:Ht)(G:Nat)(hK:gx o9 2 O G K)(hf:∀(i:Nat) (x:tN),K.l[i]?=some x->∀(eZ:Ht) (e5:Nat),G<=e5->HE G O eZ->WF ex f ((.agg (o9 x).toArray)::b.toList) eZ e5 (fG e5 eZ (fun v=>v=.string (N x)))):WF ex 168 [K.v,.func (.func f) #[] b] O G (fG G O (ga (pc (K.l.map N)))):=by
 have mC:=fF (e:=ex) 168 Tryz.f168 30 [.tmp 4]
 have nC:=@C6
 have pa:=@xO
 have sY:=@Hi
 have R_:=@Sv
 let pu:=o9
 exact Yo
theorem Nr{p:Prop}(h:p:=by
 refine Gr mC fun hE=>sr<|oB (.agg (pu x).toArray) (pu x) fun jq iC hU=>?_
 refine oN 1<|sr<|oX 1<|oZ G 0 (.string (x.lM)) Nf hU rfl<|oW 1 ⟨rfl,rfl,[.string (x.lM)],U,?_⟩
 exact⟨rfl,od,(hE.trans iC)⟩):p:=h
theorem SB(x:tN)(O:Ht)(G:Nat):WF ex 169 [.agg (o9 x).toArray] O G (fG G O (fun v=>v=.string x.lM)):=by
 have mC:=fF (e:=ex) 169 Tryz.f169 5 [.tmp 2]
 let pu:=o9
 exact Nr
theorem Ho(qn:yx)(qJ:wC)(N:j6->ByteArray)(K:SV j6)(f:FuncId)(b:Array Value)(O:Ht)(G:Nat)(hK:ju iL 5 (fun O G y=>lQ O G y) O G K)(hf:∀(i:Nat) (x:j6),K.l[i]?=some x->∀(eZ:Ht) (e5:Nat),G<=e5->HE G O eZ->WF ex f ((.agg (iL x).toArray)::b.toList) eZ e5 (fG e5 eZ (fun v=>v=.string (N x)))):WF ex 170 [K.v,.func (.func f) #[] b] O G (fG G O (ga (pc (K.l.map N)))):=by
 obtain⟨a1,c2,hR⟩:=hK.1.shape
 have lU:=hK.1.2.2
 rw[hR]
 refine wd Tryz.f170 30 [.tmp 4] fun hE=>sr<|oN 1<|sr<|WO.cons (WC.makeMap rfl ?_)
 obtain⟨zE,zH,pC,uo⟩:=mapped O (G) (.map [] 0)
 rw[zH];clear zH
 refine oN 1<|WP.seq<|sr<|oN 3<|WP.block ?_
 refine mg [1,5,10,11,12] (fun m hs ns vs=>∃(gY:Nat) (sR:List MapEntry) (vR:Nat),gY+m=K.l.length/\vs=[.func (.func f) #[] b,.map (some G),.slice a1 (K.l.length) c2,Y (.ofNat (K.l.length)),Y (.ofNat gY)]/\G+1<=ns/\HE G O hs/\hs.get G=some (.map sR vR)/\(pc ((K.l.take gY).map N))/\(kM (fun x:ByteArray=>.string x) (lj ((K.l.take gY).map N)) (fun _=>.bool true) sR)) ?_ (K.l.length) ?_
 ·
  rintro Fc DL sS _ ⟨gY,sR,vR,IN,rfl,xq,jx,zf,hinv,vS⟩ BU
  refine sr ?_
  refine oq 13 (kL gY K.l.length) fun ux ul=>WO.nil<|WP.seq<|cq ul (fun yq=>?_) (fun yq=>?_)
  ·
   refine WP.skip<|WP.seq<|WP.block<|sr ?_
   have rQ:gY<K.l.length:=by omega
   refine WO.cons (WC.iy hR hK.1 (gY) wB n9 (rQ) ?_)
   obtain⟨lr,pw⟩:=gE rQ
   refine WO.cons (WC.ly hR (hK.1.mono jx nR) pw ze n9<|oA [.string (⟨#[]⟩),.slice none (0) 0,Y 0,.slice none (0) 0,Y 0] KB fun vO sO uL=>?_)
   refine oS sS (0) (.agg (iL lr).toArray) (iL lr) (iL lr) n9 rfl (e7.2 ⟨rfl,BQ _ (hK.2 lr (cs pw))⟩) uL fun xv uM xw BA=>?_
   have vT:=(jx.trans sO).trans uM
   refine WO.nil<|sr<|oX 1<|WO.cons (WC.im sS (0) (iL lr) U ze n9 xw rfl<|WO.cons (WC.call 18 f ((.agg (iL lr).toArray)::b.toList) kf ((hf gY lr pw xv (sS+1) om vT).mono ?_)))
   rintro _ pH oK ⟨rfl,Cp,oJ⟩
   refine oN 1<|WP.seq<|sr<|oX 1<|oD 20 (zF qn qJ (N lr) pH (oK)) fun SA Np vj JL QS sT=>?_
   have wQ:=(vT.trans oJ).trans sT
   have yu:=sT.get (oJ.get ((BA G om).trans (sO.get zf)))
   refine oq 21 (nN Np) fun w_ Fs=>oX 1<|gF 22 w_ (.map (some G))<|gF 22 w_ (.string ((N lr))) ?_
   obtain⟨Ak,Nq,ID⟩:=@nb (@decide ((N lr)∈(lj ((K.l.take gY).map N))) (Classical.propDecidable _)) ((N lr)∈(lj ((K.l.take gY).map N))) (@decide_eq_true_iff _ (Classical.propDecidable _))
   refine xJ 22 w_ (.bool Ak) (by rintro rfl;exact WC.me (v:=.bool Ak) 25 (pj ex.T vj.get 458 (.map (some G)) ((fun x:ByteArray=>.string x) (N lr)) false) kf (ve (O:=vj.get) zG BX Pv yu vS (N lr) Nq) rfl) ?_
   refine mz 26 (nO Fs ID) fun Pu C1=>WO.nil<|cq C1 (fun tD=>?_) (fun tD=>?_)
   ·
    refine sr<|oW 1 ⟨rfl,rfl,[.bool false],U,?_⟩
    exact⟨⟨false,rfl,fun h=>(by cases h),fun h=>absurd h (BW pw tD)⟩,od,wQ⟩
   ·
    refine WP.skip<|WP.region<|oX 2<|WO.cons (WC.mapUpdate (g:=(fun _=>.bool true)) (g':=(fun _=>.bool true)) G (N lr) (.bool true) rfl U U U zG BX yu vS (qR _) rfl (fun _ _=>rfl) ?_)
    rintro Hk jG JG xy Hl UL Hm
    refine WO.nil<|WP.region<|ov 29 (Y (.ofNat (gY+1))) ?_ (fun _ _ _=>by rw[<-gM (show gY+1<9223372036854775808 by omega)];kernel_rfl)
    refine oN 1<|⟨K.l.length-(gY+1),om,rfl,rfl,gY+1,Hk,jG,om,U,?_,?_,?_,?_,?_⟩
    · exact od
    · exact(wQ.trans xy)
    · exact Hl
    · exact AI pw hinv tD
    · rw[uN pw];exact Hm
  ·
   refine WP.exit<|sr<|oW 1 ⟨rfl,rfl,[.bool true],U,?_⟩
   have hT:K.l.take gY=K.l:=fy om
   rw[hT]at hinv
   exact⟨⟨true,rfl,fun _=>hinv,fun _=>rfl⟩,od,jx⟩
 ·
  exact⟨0,([]:List MapEntry),0,om,U,e9 _,(hE.trans pC),uo,⟨(fun _ h=>by cases h),List.nodup_nil⟩,(show kM _ (lj ((K.l.take 0).map N)) _ _ from kM.nil)⟩
theorem SC(x:j6)(O:Ht)(G:Nat)(hx:lQ O G x):WF ex 171 [.agg (iL x).toArray] O G (fG G O (fun v=>v=.string x.lM)):=by
 have mC:=fF (e:=ex) 171 Tryz.f171 5 [.tmp 2]
 let pu:=iL
 exact Nr
theorem Ns(qn:yx)(qJ:wC)(N:qP->ByteArray)(K:SV qP)(f:FuncId)(b:Array Value)(O:Ht)(G:Nat)(hK:gx nG 2 O G K)(hf:∀(i:Nat) (x:qP),K.l[i]?=some x->∀(eZ:Ht) (e5:Nat),G<=e5->HE G O eZ->WF ex f ((.agg (nG x).toArray)::b.toList) eZ e5 (fG e5 eZ (fun v=>v=.string (N x)))):WF ex 172 [K.v,.func (.func f) #[] b] O G (fG G O (ga (pc (K.l.map N)))):=by
 have mC:=fF (e:=ex) 172 Tryz.f172 30 [.tmp 4]
 have nC:=@Pw
 have pa:=@Fq
 have sY:=@Hj
 have R_:=@Sx
 let pu:=nG
 exact Yo
theorem SD(x:qP)(O:Ht)(G:Nat):WF ex 173 [.agg (nG x).toArray] O G (fG G O (fun v=>v=.string x.lM)):=by
 have mC:=fF (e:=ex) 173 Tryz.f173 5 [.tmp 2]
 let pu:=nG
 exact Nr
theorem IP(qn:yx)(qJ:wC)(N:mM->ByteArray)(K:SV mM)(f:FuncId)(b:Array Value)(O:Ht)(G:Nat)(hK:gx kb 4 O G K)(hf:∀(i:Nat) (x:mM),K.l[i]?=some x->∀(eZ:Ht) (e5:Nat),G<=e5->HE G O eZ->WF ex f ((.agg (kb x).toArray)::b.toList) eZ e5 (fG e5 eZ (fun v=>v=.string (N x)))):WF ex 174 [K.v,.func (.func f) #[] b] O G (fG G O (ga (pc (K.l.map N)))):=by
 obtain⟨a1,c2,hR⟩:=hK.shape
 have lU:=hK.2.2
 rw[hR]
 refine wd Tryz.f174 30 [.tmp 4] fun hE=>sr<|oN 1<|sr<|WO.cons (WC.makeMap rfl ?_)
 obtain⟨zE,zH,pC,uo⟩:=mapped O (G) (.map [] 0)
 rw[zH];clear zH
 refine oN 1<|WP.seq<|sr<|oN 3<|WP.block ?_
 refine mg [1,5,10,11,12] (fun m hs ns vs=>∃(gY:Nat) (sR:List MapEntry) (vR:Nat),gY+m=K.l.length/\vs=[.func (.func f) #[] b,.map (some G),.slice a1 (K.l.length) c2,Y (.ofNat (K.l.length)),Y (.ofNat gY)]/\G+1<=ns/\HE G O hs/\hs.get G=some (.map sR vR)/\(pc ((K.l.take gY).map N))/\(kM (fun x:ByteArray=>.string x) (lj ((K.l.take gY).map N)) (fun _=>.bool true) sR)) ?_ (K.l.length) ?_
 ·
  rintro Fc DL sS _ ⟨gY,sR,vR,IN,rfl,xq,jx,zf,hinv,vS⟩ BU
  refine sr ?_
  refine oq 13 (kL gY K.l.length) fun ux ul=>WO.nil<|WP.seq<|cq ul (fun yq=>?_) (fun yq=>?_)
  ·
   refine WP.skip<|WP.seq<|WP.block<|sr ?_
   have rQ:gY<K.l.length:=by omega
   refine WO.cons (WC.iy hR hK (gY) Px xP (rQ) ?_)
   obtain⟨lr,pw⟩:=gE rQ
   refine WO.cons (WC.ly hR (hK.mono jx nR) pw DJ xP<|oA [.string (⟨#[]⟩),Y 0,Y 0,.bool false] Sy fun vO sO uL=>?_)
   refine oS sS (0) (.agg (kb lr).toArray) (kb lr) (kb lr) xP rfl rfl uL fun xv uM xw BA=>?_
   have vT:=(jx.trans sO).trans uM
   refine WO.nil<|sr<|oX 1<|WO.cons (WC.im sS (0) (kb lr) U DJ xP xw rfl<|WO.cons (WC.call 18 f ((.agg (kb lr).toArray)::b.toList) kf ((hf gY lr pw xv (sS+1) om vT).mono ?_)))
   rintro _ pH oK ⟨rfl,Cp,oJ⟩
   refine oN 1<|WP.seq<|sr<|oX 1<|oD 20 (zF qn qJ (N lr) pH (oK)) fun SA Np vj JL QS sT=>?_
   have wQ:=(vT.trans oJ).trans sT
   have yu:=sT.get (oJ.get ((BA G om).trans (sO.get zf)))
   refine oq 21 (nN Np) fun w_ Fs=>oX 1<|gF 22 w_ (.map (some G))<|gF 22 w_ (.string ((N lr))) ?_
   obtain⟨Ak,Nq,ID⟩:=@nb (@decide ((N lr)∈(lj ((K.l.take gY).map N))) (Classical.propDecidable _)) ((N lr)∈(lj ((K.l.take gY).map N))) (@decide_eq_true_iff _ (Classical.propDecidable _))
   refine xJ 22 w_ (.bool Ak) (by rintro rfl;exact WC.me (v:=.bool Ak) 25 (pj ex.T vj.get 458 (.map (some G)) ((fun x:ByteArray=>.string x) (N lr)) false) kf (ve (O:=vj.get) zG BX Pv yu vS (N lr) Nq) rfl) ?_
   refine mz 26 (nO Fs ID) fun Pu C1=>WO.nil<|cq C1 (fun tD=>?_) (fun tD=>?_)
   ·
    refine sr<|oW 1 ⟨rfl,rfl,[.bool false],U,?_⟩
    exact⟨⟨false,rfl,fun h=>(by cases h),fun h=>absurd h (BW pw tD)⟩,od,wQ⟩
   ·
    refine WP.skip<|WP.region<|oX 2<|WO.cons (WC.mapUpdate (g:=(fun _=>.bool true)) (g':=(fun _=>.bool true)) G (N lr) (.bool true) rfl U U U zG BX yu vS (qR _) rfl (fun _ _=>rfl) ?_)
    rintro Hk jG JG xy Hl UL Hm
    refine WO.nil<|WP.region<|ov 29 (Y (.ofNat (gY+1))) ?_ (fun _ _ _=>by rw[<-gM (show gY+1<9223372036854775808 by omega)];kernel_rfl)
    refine oN 1<|⟨K.l.length-(gY+1),om,rfl,rfl,gY+1,Hk,jG,om,U,?_,?_,?_,?_,?_⟩
    · exact od
    · exact(wQ.trans xy)
    · exact Hl
    · exact AI pw hinv tD
    · rw[uN pw];exact Hm
  ·
   refine WP.exit<|sr<|oW 1 ⟨rfl,rfl,[.bool true],U,?_⟩
   have hT:K.l.take gY=K.l:=fy om
   rw[hT]at hinv
   exact⟨⟨true,rfl,fun _=>hinv,fun _=>rfl⟩,od,jx⟩
 ·
  exact⟨0,([]:List MapEntry),0,om,U,e9 _,(hE.trans pC),uo,⟨(fun _ h=>by cases h),List.nodup_nil⟩,(show kM _ (lj ((K.l.take 0).map N)) _ _ from kM.nil)⟩
theorem SF(x:mM)(O:Ht)(G:Nat):WF ex 175 [.agg (kb x).toArray] O G (fG G O (fun v=>v=.string x.lM)):=by
 have mC:=fF (e:=ex) 175 Tryz.f175 5 [.tmp 2]
 let pu:=kb
 exact Nr
theorem Hq(qn:yx)(qJ:wC)(N:lR->ByteArray)(K:SV lR)(f:FuncId)(b:Array Value)(O:Ht)(G:Nat)(hK:gx jU 3 O G K)(hf:∀(i:Nat) (x:lR),K.l[i]?=some x->∀(eZ:Ht) (e5:Nat),G<=e5->HE G O eZ->WF ex f ((.agg (jU x).toArray)::b.toList) eZ e5 (fG e5 eZ (fun v=>v=.string (N x)))):WF ex 176 [K.v,.func (.func f) #[] b] O G (fG G O (ga (pc (K.l.map N)))):=by
 obtain⟨a1,c2,hR⟩:=hK.shape
 have lU:=hK.2.2
 rw[hR]
 refine wd Tryz.f176 30 [.tmp 4] fun hE=>sr<|oN 1<|sr<|WO.cons (WC.makeMap rfl ?_)
 obtain⟨zE,zH,pC,uo⟩:=mapped O (G) (.map [] 0)
 rw[zH];clear zH
 refine oN 1<|WP.seq<|sr<|oN 3<|WP.block ?_
 refine mg [1,5,10,11,12] (fun m hs ns vs=>∃(gY:Nat) (sR:List MapEntry) (vR:Nat),gY+m=K.l.length/\vs=[.func (.func f) #[] b,.map (some G),.slice a1 (K.l.length) c2,Y (.ofNat (K.l.length)),Y (.ofNat gY)]/\G+1<=ns/\HE G O hs/\hs.get G=some (.map sR vR)/\(pc ((K.l.take gY).map N))/\(kM (fun x:ByteArray=>.string x) (lj ((K.l.take gY).map N)) (fun _=>.bool true) sR)) ?_ (K.l.length) ?_
 ·
  rintro Fc DL sS _ ⟨gY,sR,vR,IN,rfl,xq,jx,zf,hinv,vS⟩ BU
  refine sr ?_
  refine oq 13 (kL gY K.l.length) fun ux ul=>WO.nil<|WP.seq<|cq ul (fun yq=>?_) (fun yq=>?_)
  ·
   refine WP.skip<|WP.seq<|WP.block<|sr ?_
   have rQ:gY<K.l.length:=by omega
   refine WO.cons (WC.iy hR hK (gY) Py xQ (rQ) ?_)
   obtain⟨lr,pw⟩:=gE rQ
   refine WO.cons (WC.ly hR (hK.mono jx nR) pw DK xQ<|oA [.string (⟨#[]⟩),Y 0,Y 0] Sz fun vO sO uL=>?_)
   refine oS sS (0) (.agg (jU lr).toArray) (jU lr) (jU lr) xQ rfl rfl uL fun xv uM xw BA=>?_
   have vT:=(jx.trans sO).trans uM
   refine WO.nil<|sr<|oX 1<|WO.cons (WC.im sS (0) (jU lr) U DK xQ xw rfl<|WO.cons (WC.call 18 f ((.agg (jU lr).toArray)::b.toList) kf ((hf gY lr pw xv (sS+1) om vT).mono ?_)))
   rintro _ pH oK ⟨rfl,Cp,oJ⟩
   refine oN 1<|WP.seq<|sr<|oX 1<|oD 20 (zF qn qJ (N lr) pH (oK)) fun SA Np vj JL QS sT=>?_
   have wQ:=(vT.trans oJ).trans sT
   have yu:=sT.get (oJ.get ((BA G om).trans (sO.get zf)))
   refine oq 21 (nN Np) fun w_ Fs=>oX 1<|gF 22 w_ (.map (some G))<|gF 22 w_ (.string ((N lr))) ?_
   obtain⟨Ak,Nq,ID⟩:=@nb (@decide ((N lr)∈(lj ((K.l.take gY).map N))) (Classical.propDecidable _)) ((N lr)∈(lj ((K.l.take gY).map N))) (@decide_eq_true_iff _ (Classical.propDecidable _))
   refine xJ 22 w_ (.bool Ak) (by rintro rfl;exact WC.me (v:=.bool Ak) 25 (pj ex.T vj.get 458 (.map (some G)) ((fun x:ByteArray=>.string x) (N lr)) false) kf (ve (O:=vj.get) zG BX Pv yu vS (N lr) Nq) rfl) ?_
   refine mz 26 (nO Fs ID) fun Pu C1=>WO.nil<|cq C1 (fun tD=>?_) (fun tD=>?_)
   ·
    refine sr<|oW 1 ⟨rfl,rfl,[.bool false],U,?_⟩
    exact⟨⟨false,rfl,fun h=>(by cases h),fun h=>absurd h (BW pw tD)⟩,od,wQ⟩
   ·
    refine WP.skip<|WP.region<|oX 2<|WO.cons (WC.mapUpdate (g:=(fun _=>.bool true)) (g':=(fun _=>.bool true)) G (N lr) (.bool true) rfl U U U zG BX yu vS (qR _) rfl (fun _ _=>rfl) ?_)
    rintro Hk jG JG xy Hl UL Hm
    refine WO.nil<|WP.region<|ov 29 (Y (.ofNat (gY+1))) ?_ (fun _ _ _=>by rw[<-gM (show gY+1<9223372036854775808 by omega)];kernel_rfl)
    refine oN 1<|⟨K.l.length-(gY+1),om,rfl,rfl,gY+1,Hk,jG,om,U,?_,?_,?_,?_,?_⟩
    · exact od
    · exact(wQ.trans xy)
    · exact Hl
    · exact AI pw hinv tD
    · rw[uN pw];exact Hm
  ·
   refine WP.exit<|sr<|oW 1 ⟨rfl,rfl,[.bool true],U,?_⟩
   have hT:K.l.take gY=K.l:=fy om
   rw[hT]at hinv
   exact⟨⟨true,rfl,fun _=>hinv,fun _=>rfl⟩,od,jx⟩
 ·
  exact⟨0,([]:List MapEntry),0,om,U,e9 _,(hE.trans pC),uo,⟨(fun _ h=>by cases h),List.nodup_nil⟩,(show kM _ (lj ((K.l.take 0).map N)) _ _ from kM.nil)⟩
theorem SG(x:lR)(O:Ht)(G:Nat):WF ex 177 [.agg (jU x).toArray] O G (fG G O (fun v=>v=.string x.lM)):=by
 have mC:=fF (e:=ex) 177 Tryz.f177 5 [.tmp 2]
 let pu:=jU
 exact Nr
theorem UM(qn:yx)(qJ:wC)(C:j4)(O:Ht)(G:Nat)(b:oV O G C):WF ex 97 [.agg (iM C).toArray] O G (fG G O (ga (Bz C))):=by
 refine wd Tryz.f97 31 [.tmp 2] fun hE=>sr<|oB (.agg (iM C).toArray) (iM C) fun jq iC hU=>?_
 have kW:=hE.trans iC nR
 have aC:=e8 nR (e_ (G))
 refine oN 1<|sr<|oX 1<|oZ G 0 (.string (C.lM)) Nf hU rfl<|oD 5 (zF qn qJ C.lM jq (G+1)) fun nM rN aB aD ad W=>?_
 have F:=kW.trans W aC
 have M:=W.get hU (fb (G))
 have aq:=e4 (fb (G)) ad
 have z:=e8 aC ad
 refine oX 1<|gT 6 nM (pt G (0+1)) ?_
 obtain⟨a17,aT,al⟩:=b.iv.shape
 have a8:=b.iv.2.2
 refine lu 6 nM G (0+1) (.slice a17 (C.iv.l.length) aT) wA M (by rw[<-al];rfl)<|WO.cons (WC.gq (nM) (GB (nM) (pc (C.iv.l.map (·.lM))) (aD) aB) (.bool nM) (g:=fV (.tmp 6)) rfl U (by cases nM<;>rfl) (fun h=>by obtain rfl:nM=true:=(by simpa using h);have az:=(rN).1 rfl;exact WC.call 9 168 ([C.iv.v,.func (.func 169) #[] #[]]) (fun _ _ _=>by(try rw[al]);kernel_rfl) ((OB qn qJ (·.lM) C.iv 169 #[] aB (aD) (b.iv.mono F z) (fun i x hx eZ e5 hn he=>SB x eZ e5)).mono fun v eZ e5 ⟨⟨c,p,hc⟩,hn,he⟩=>⟨_,_,_,rfl,⟨c,p,hc⟩,hn,he⟩)) (fun h=>GB.off h) ?_)
 rintro _ ah av ⟨⟨ux,rfl,ul⟩,ae,X⟩
 have y:=F.trans X z
 have N:=X.get M aq
 have ar:=e4 aq ae
 have u:=e8 z ae
 refine mT 10 (nA rN ul) fun e aE=>oX 1<|gT 11 e (pt G (0+3)) ?_
 obtain⟨aP,aU,am⟩:=b.fu.1.shape
 have a_:=b.fu.1.2.2
 refine lu 11 e G (0+3) (.slice aP (C.fu.l.length) aU) rP N (by rw[<-am];rfl)<|WO.cons (WC.gq (e) (GB (e) (pc (C.fu.l.map (·.lM))) (av) ah) (.bool e) (g:=fV (.tmp 11)) rfl U (by cases e<;>rfl) (fun h=>by obtain rfl:e=true:=(by simpa using h);have az:=(aE).1 rfl;exact WC.call 14 170 ([C.fu.v,.func (.func 171) #[] #[]]) (fun _ _ _=>by(try rw[am]);kernel_rfl) ((Ho qn qJ (·.lM) C.fu 171 #[] ah (av) (b.fu.mono (fun _ h he hn=>h.mono he hn) y u) (fun i x hx eZ e5 hn he=>SC x eZ e5 (((b.fu.mono (fun _ h he hn=>h.mono he hn) y u).2 x (cs hx)).mono he hn))).mono fun v eZ e5 ⟨⟨c,p,hc⟩,hn,he⟩=>⟨_,_,_,rfl,⟨c,p,hc⟩,hn,he⟩)) (fun h=>GB.off h) ?_)
 rintro _ ai aw ⟨⟨bh,rfl,aX⟩,af,aa⟩
 have J:=y.trans aa u
 have R:=aa.get N ar
 have au:=e4 ar af
 have A:=e8 u af
 refine mT 15 (nA aE aX) fun j aF=>oX 1<|gT 16 j (pt G (0+4)) ?_
 obtain⟨aQ,aV,an⟩:=b.kK.shape
 have bc:=b.kK.2.2
 refine lu 16 j G (0+4) (.slice aQ (C.kK.l.length) aV) FY R (by rw[<-an];rfl)<|WO.cons (WC.gq (j) (GB (j) (pc (C.kK.l.map (·.lM))) (aw) ai) (.bool j) (g:=fV (.tmp 16)) rfl U (by cases j<;>rfl) (fun h=>by obtain rfl:j=true:=(by simpa using h);have az:=(aF).1 rfl;exact WC.call 19 172 ([C.kK.v,.func (.func 173) #[] #[]]) (fun _ _ _=>by(try rw[an]);kernel_rfl) ((Ns qn qJ (·.lM) C.kK 173 #[] ai (aw) (b.kK.mono J A) (fun i x hx eZ e5 hn he=>SD x eZ e5)).mono fun v eZ e5 ⟨⟨c,p,hc⟩,hn,he⟩=>⟨_,_,_,rfl,⟨c,p,hc⟩,hn,he⟩)) (fun h=>GB.off h) ?_)
 rintro _ aj ax ⟨⟨bj,rfl,aY⟩,ag,ab⟩
 have K:=J.trans ab A
 have S:=ab.get R au
 have aO:=e4 au ag
 have B:=e8 A ag
 refine mT 20 (nA aF aY) fun m aG=>oX 1<|gT 21 m (pt G (0+5)) ?_
 obtain⟨aR,aW,ao⟩:=b.jt.shape
 have bd:=b.jt.2.2
 refine lu 21 m G (0+5) (.slice aR (C.jt.l.length) aW) FZ S (by rw[<-ao];rfl)<|WO.cons (WC.gq (m) (GB (m) (pc (C.jt.l.map (·.lM))) (ax) aj) (.bool m) (g:=fV (.tmp 21)) rfl U (by cases m<;>rfl) (fun h=>by obtain rfl:m=true:=(by simpa using h);have az:=(aG).1 rfl;exact WC.call 24 174 ([C.jt.v,.func (.func 175) #[] #[]]) (fun _ _ _=>by(try rw[ao]);kernel_rfl) ((IP qn qJ (·.lM) C.jt 175 #[] aj (ax) (b.jt.mono K B) (fun i x hx eZ e5 hn he=>SF x eZ e5)).mono fun v eZ e5 ⟨⟨c,p,hc⟩,hn,he⟩=>⟨_,_,_,rfl,⟨c,p,hc⟩,hn,he⟩)) (fun h=>GB.off h) ?_)
 rintro _ ak ay ⟨⟨bk,rfl,aZ⟩,aL,ac⟩
 have L:=K.trans ac B
 have aJ:=ac.get S aO
 have E:=e8 B aL
 refine mT 25 (nA aG aZ) fun o aH=>oX 1<|gT 26 o (pt G (0+6)) ?_
 obtain⟨aS,w_,ap⟩:=b.iu.shape
 have be:=b.iu.2.2
 refine lu 26 o G (0+6) (.slice aS (C.iu.l.length) w_) C3 aJ (by rw[<-ap];rfl)<|WO.cons (WC.gq (o) (GB (o) (pc (C.iu.l.map (·.lM))) (ay) ak) (.bool o) (g:=fV (.tmp 26)) rfl U (by cases o<;>rfl) (fun h=>by obtain rfl:o=true:=(by simpa using h);have az:=(aH).1 rfl;exact WC.call 29 176 ([C.iu.v,.func (.func 177) #[] #[]]) (fun _ _ _=>by(try rw[ap]);kernel_rfl) ((Hq qn qJ (·.lM) C.iu 177 #[] ak (ay) (b.iu.mono L E) (fun i x hx eZ e5 hn he=>SG x eZ e5)).mono fun v eZ e5 ⟨⟨c,p,hc⟩,hn,he⟩=>⟨_,_,_,rfl,⟨c,p,hc⟩,hn,he⟩)) (fun h=>GB.off h) ?_)
 rintro _ bf bg ⟨⟨jG,rfl,a6⟩,aM,aK⟩
 have aI:=L.trans aK E
 have aN:=e8 E aM
 refine mT 30 (nA aH a6) fun aA a7=>oW 1 ⟨rfl,rfl,[.bool aA],U,?_⟩
 refine⟨⟨aA,rfl,?_⟩,aN,aI⟩
 exact a7
end
end Sw
