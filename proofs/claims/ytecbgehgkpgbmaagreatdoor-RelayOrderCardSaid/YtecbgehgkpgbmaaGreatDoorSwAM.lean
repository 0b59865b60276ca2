/- A part of the proof that the law returns true for every input that its row speaks of. No condition is added. -/
import Derived.Test.YtecbgehgkpgbmaaGreatDoorSwAJ
import Derived.Test.YtecbgehgkpgbmaaGreatDoorSwAF
import Derived.Test.YtecbgehgkpgbmaaGreatDoorSwAL
import Derived.Test.YtecbgehgkpgbmaaGreatDoorSwAG
namespace Sw
noncomputable section
open Go Go.RowKit
theorem tE.nil:∀n,tE n []
 |0=>rfl
 |_+1=>fun _ h=>by cases h
theorem tE.up:∀{n:Nat} {l:List RPart},tE n l->tE (n+1) l
 |0,l,h=>fun p hp=>by rw[show l=[]from h]at hp;cases hp
 |_+1,_,h=>fun p hp=>tE.up (h p hp)
theorem tE.le{n m:Nat}{l:List RPart}(h:tE n l)(hm:n<=m):tE m l:=by
 induction m with
 |zero=>obtain rfl:n=0:=by omega
        exact h
 |succ m ih=>
  rcases Nat.lt_or_ge m n with k|k
  · obtain rfl:n=m+1:=by omega
    exact h
  · exact(ih k).up
theorem Nt(n:Nat)(sub:List RPart->Nat×Nat)(s:Nat×Nat)(p:RPart):s.1<=(sb n sub s p).1/\s.2<=(sb n sub s p).2:=by
 unfold sb;split
 · exact⟨Nat.le_refl _,Nat.le_refl _⟩
 · constructor<;>simp only<;>omega
theorem Nu(n:Nat)(sub:List RPart->Nat×Nat):∀(l:List RPart) (s:Nat×Nat),s.1<=(l.foldl (sb n sub) s).1/\s.2<=(l.foldl (sb n sub) s).2
 |[],s=>⟨Nat.le_refl _,Nat.le_refl _⟩
 |p::l,s=>by
  have h1:=Nt n sub s p
  have h2:=Nu n sub l (sb n sub s p)
  rw[List.foldl_cons];omega
theorem Kt{n:Nat}(hn:n≠0)(sub:List RPart->Nat×Nat):∀(l:List RPart) (s:Nat×Nat) (p:RPart),p∈l->p.fW.l.length≠0->(l.foldl (sb n sub) s).2<=256->
 (sub p.fW.l).1+1<=(l.foldl (sb n sub) s).1/\(sub p.fW.l).2<=(l.foldl (sb n sub) s).2
 |q::l,s,p,hp,h0,hb=>by
  rw[List.foldl_cons]at hb⊢
  have h2:=Nu n sub l (sb n sub s q)
  rcases List.mem_cons.1 hp with rfl|hp
  · have h1:=Nt n sub s p
    have:sb n sub s p=(max s.1 ((sub p.fW.l).1+1),s.2+(sub p.fW.l).2):=if_neg (by omega)
    rw[this]at h2 hb⊢
    simp only at h2;omega
  · exact Kt hn sub l _ p hp h0 hb
theorem Ku:∀(n:Nat) (l:List RPart),(sI n l).2<=256->(sI n l).1<n->tE ((sI n l).1+1) l
 |0,_,_,h=>absurd h (Nat.not_lt_zero _)
 |n+1,l,h2,h1=>fun p hp=>by
  by_cases h0:p.fW.l.length=0
  · rw[List.eq_nil_of_length_eq_zero h0];exact tE.nil _
  · have k:=Kt (n:=n+1) (by omega) (sI n) l (0,l.length) p hp h0 h2
    have e:sI (n+1) l=l.foldl (sb (n+1) (sI n)) (0,l.length):=rfl
    rw[<-e]at k
    exact(Ku n p.fW.l (by omega) (by omega)).le k.1
theorem yP.le{d:j5}(h:yP d):tE 17 d.jI.l:=(Ku 17 _ h.2.2 (by have:=h.2.1;omega)).le (by have:=h.2.1;omega)
theorem Pb{C:j7}(h:vA C):∀d∈C.fE.l,tE 17 d.jI.l:=fun d hd=>(h.2 d hd).le
def CN(uE out:List Int):List Int:=if 256<out.length then out else out++uE
def yi(uE:List Int):Nat->List Int->List Int
 |0,out=>out
 |k+1,out=>CN uE (yi uE k out)
def Ak(sub:List RPart->List Int)(p:RPart):List Int:=if 0<p.kc then sub p.fW.l else [p.iX]
def uv(p:RPart):Nat:=(bif ru p.kc 1 then(1:Int)else p.kc).toNat
theorem Hf(p:RPart):((uv p:Nat):Int)=bif ru p.kc 1 then(1:Int)else p.kc:=by
 unfold uv
 cases h:ru p.kc 1 with
 |true=>rfl
 |false=>
  have:¬p.kc<1:=fun k=>by rw[so.2 k]at h;cases h
  simp only[cond_false];omega
def wj(sub:List RPart->List Int)(out:List Int)(p:RPart):List Int:=yi (Ak sub p) (uv p) out
def mG:Nat->List RPart->List Int
 |0,_=>[]
 |n+1,l=>l.foldl (wj (mG n)) []
theorem ID{n:Nat}{l:List RPart}(h:tE n l):mG n l=l.foldl (wj (mG (n-1))) []:=by
 cases n with
 |zero=>rw[show l=[]from h];rfl
 |succ n=>rfl
theorem E9{uE:List Int}{k:Nat}{out:List Int}(h:256<(yi uE k out).length):∀m,yi uE (k+m) out=yi uE k out
 |0=>rfl
 |m+1=>by
  show CN uE (yi uE (k+m) out)=_
  rw[E9 h m];exact if_pos h
theorem Uv{uE out:List Int}(h:256<out.length)(k:Nat):yi uE k out=out:=by
 have:=E9 (uE:=uE) (k:=0) (out:=out) h k
 rwa[Nat.zero_add]at this
theorem Ge{sub:List RPart->List Int}:∀(l:List RPart) {out:List Int},256<out.length->l.foldl (wj sub) out=out
 |[],_,_=>rfl
 |p::l,out,h=>by rw[List.foldl_cons,wj,Uv h,Ge l h]
theorem Sn{α β:Type}{f:β->α->β}{b:β}{l:List α}{i:Nat}{x:α}(hx:l[i]?=some x):l.foldl f b=(l.drop (i+1)).foldl f (f ((l.take i).foldl f b) x):=by
 have hi:=(List.getElem?_eq_some_iff.1 hx).1
 have e:l=l.take i++x::l.drop (i+1):=by
  have:=List.take_append_drop i l
  rw[List.drop_eq_getElem_cons hi,(List.getElem?_eq_some_iff.1 hx).2]at this
  exact this.symm
 conv=>lhs;rw[e]
 rw[List.foldl_append,List.foldl_cons]
theorem Nv{n:Nat}{l:List RPart}{i j:Nat}{p:RPart}{J:List Int}(h:tE n l)(hx:l[i]?=some p)(o:J=yi (Ak (mG (n-1)) p) j ((l.take i).foldl (wj (mG (n-1))) []))(hj:j<=uv p)(hb:256<J.length):J=mG n l:=by
 subst o
 rw[ID h,Sn hx,wj]
 obtain⟨m,hm⟩:∃m,uv p=j+m:=⟨uv p-j,by omega⟩
 rw[hm,E9 hb,Ge _ hb]
theorem Nw(uE:List Int)(B:Nat)(h:256+uE.length<=B):∀(k:Nat) (out:List Int),out.length<=B->(yi uE k out).length<=B
 |0,_,h0=>h0
 |k+1,out,h0=>by
  show(CN uE (yi uE k out)).length<=B
  unfold CN;split
  · exact Nw uE B h k out h0
  · rw[List.length_append];omega
theorem Gf:∀(n:Nat) (l:List RPart),(mG n l).length<=257*n
 |0,_=>Nat.le_refl _
 |n+1,l=>by
  have:∀(l:List RPart) (out:List Int),out.length<=257*(n+1)->(l.foldl (wj (mG n)) out).length<=257*(n+1):=by
   intro l
   induction l with
   |nil=>intro out h;exact h
   |cons p l ih=>
    intro out h
    refine ih _ (Nw _ _ ?_ _ _ h)
    unfold Ak;split
    · have:=Gf n p.fW.l;omega
    · simp;omega
  exact this l [] (Nat.zero_le _)
theorem Kv{n:Nat}{l:List RPart}{i:Nat}{p:RPart}(h:tE n l)(hx:l[i]?=some p):(Ak (mG (n-1)) p).length<=257*n/\256+(Ak (mG (n-1)) p).length<=257*n:=by
 have hn:n≠0:=by
  rintro rfl
  rw[show l=[]from h]at hx;cases hx
 unfold Ak;split
 · have:=Gf (n-1) p.fW.l;omega
 · simp;omega
theorem tE.sub{n:Nat}{l:List RPart}{i:Nat}{p:RPart}(h:tE n l)(hx:l[i]?=some p):n=(n-1)+1/\tE (n-1) p.fW.l:=by
 cases n with
 |zero=>rw[show l=[]from h]at hx;cases hx
 |succ n=>exact⟨rfl,h p (List.mem_of_getElem? hx)⟩
end
end Sw
namespace Sw
noncomputable section
open Go Go.RowKit
section
variable {α:Type}{enc:α->List Value}{n B gr:Nat}{hp fe:Ht}{nx fg:Nat}{J:SV α}
theorem lU.yF{T:Ty}{st xt el:TypeId}{w z:Value}{inf:TypeInfo}(j:List α)(h:lU enc n B gr hp nx J)(hlen:∀y∈J.l,(enc y).length=n)(hu:T.ji st=some (.slice el))(hs:T.size el=some n)(ai:T.zero el=some z)(hi:T.info el=some inf)
 (hx:pn T xt w=some (j.length,false)) (C:lK hp.get (j.length*n) w=some (j.flatMap enc)) (aa:tZ n w=true) (ah:∀y∈j,(enc y).length=n) (ad:(j.flatMap enc).all one=true) (al:0<n)
 (b1:(J.l.length+j.length)*inf.bytes<=70368744177664) (b2:inf.bytes<=1073741824) (ab:J.l.length+j.length<=70368744177664) (af:B<=nx):
 ∃v' jA k ae,jZ T hp.get st xt J.v w nx=some (v',jA,k)/\lU enc n B ae (jg jA hp) (nx+k) ⟨v',J.l++j⟩/\(∀c,c<nx->(J.l≠[]->c≠gr)->(jg jA hp).get c=hp.get c):=by
 have hl:=nm J.l hlen
 have ao:=nm j ah
 have I:(J.l++j).flatMap enc=J.l.flatMap enc++j.flatMap enc:=by simp
 have R:(J.l++j).length=J.l.length+j.length:=by simp
 have ak:∃a,J.v=.slice a J.l.length J.l.length:=by
  rcases h with⟨h1,h2⟩|⟨b,ms,h1,_⟩
  · exact⟨none,by rw[h2,h1];rfl⟩
  · exact⟨_,h1⟩
 by_cases h2:j=[]
 · obtain⟨a,aj⟩:=ak
   subst h2
   have o:Nat.ble (J.l.length+0) J.l.length=true:=Nat.ble_eq_true_of_le (by omega)
   refine⟨J.v,[],0,gr,?_,?_,fun c _ _=>rfl⟩
   · rw[aj]
     simp only[List.length_nil,Nat.add_zero,List.flatMap_nil]at hx C b1 ab o
     simp only[jZ,hu,hs,ai,hi,hx,ml,cond_false,aa,cond_true,C,Option.bind_some,List.all_nil,Nat.ble_eq_true_of_le b1,Nat.ble_eq_true_of_le b2,Nat.ble_eq_true_of_le ab,Bool.and_true,o,Nat.add_zero]
   · show lU enc n B gr hp nx ⟨J.v,J.l++[]⟩
     rw[List.append_nil];exact h
 · have hm:0<j.length:=List.length_pos_iff.2 h2
   have o:Nat.ble (J.l.length+j.length) J.l.length=false:=by
    cases hb:Nat.ble (J.l.length+j.length) J.l.length with
    |false=>rfl
    |true=>have:=Nat.le_of_ble_eq_true hb;omega
   have e1:∀a',jZ T hp.get st xt (.slice a' J.l.length J.l.length) w nx=pC hp.get a' J.l.length n (j.flatMap enc) j.length nx:=fun a'=>by
    simp only[jZ,hu,hs,ai,hi,hx,ml,cond_false,aa,cond_true,C,Option.bind_some,ad,Nat.ble_eq_true_of_le b1,Nat.ble_eq_true_of_le b2,Nat.ble_eq_true_of_le ab,Bool.and_true,o]
   rcases h with⟨h1,h2⟩|⟨b,ms,h1,h2,hb,hg,qF,jz,an,h3,h4⟩
   · have h0:J.l.length=0:=by rw[h1];rfl
     have e2:=e1 none
     rw[h0]at e2
     rw[h2]
     refine⟨_,_,_,nx,e2,.inr ⟨nx+1,_,by rw[R,h0],by rw[R];omega,?_,(Tr.gC _ _ (by omega)).trans (Tr.hY ..),fun e he=>?_,by omega,by omega,by omega,af⟩,fun c hc _=>?_⟩
     · rw[I,h1];exact Tr.hY ..
     · rw[List.mem_singleton.1 he,I,h1];simp
     · exact(Tr.gC _ _ (by omega)).trans (Tr.gC _ _ (by omega))
   · have U:∀e∈ms,beyond (0+0+J.l.length*n) e=false:=fun e he=>by
      have:=qF e he
      cases ag:beyond (0+0+J.l.length*n) e with
      |false=>rfl
      |true=>
       unfold beyond at ag
       have:=mq.1 ag
       omega
     have f1:ms.filter (beyond (0+0+J.l.length*n))=[]:=by
      rw[List.filter_eq_nil_iff];intro e he;rw[U e he];simp
     have f2:(ms.filter fun e=>!(beyond (0+0+J.l.length*n) e))=ms:=by
      rw[List.filter_eq_self];intro e he;rw[U e he];rfl
     have e2:pC hp.get (some ⟨b,0,none⟩) J.l.length n (j.flatMap enc) j.length nx=some (.slice (some ⟨nx,0,none⟩) (J.l.length+j.length) (J.l.length+j.length),
      [(gr,some (jM.group (ms++[⟨nx,0,(J.l.flatMap enc++j.flatMap enc).length⟩]))),(nx,some (jM.cells (J.l.flatMap enc++j.flatMap enc) ⟨false,some gr,0,n⟩))],1):=by
      simp only[s9,hb,Au _ _ hl,Option.bind_some,hg,nT,f1,List.all_nil,Bool.not_false,Nat.beq_refl,Bool.and_true,cond_true,mN,List.map_nil,List.nil_append,f2]
     have jG:J.l≠[]:=fun k=>by rw[k]at h2;simp at h2
     rw[h1]
     refine⟨_,_,_,gr,(e1 _).trans e2,.inr ⟨nx,_,by rw[R],by rw[R];omega,?_,(Tr.gC _ _ (by omega)).trans (Tr.hY ..),fun e he=>?_,by omega,af,by omega,h4⟩,fun c hc hd=>?_⟩
     · rw[I];exact Tr.hY ..
     · rw[I]
       rcases List.mem_append.1 he with he|he
       · have:=qF e he;rw[List.length_append];omega
       · rw[List.mem_singleton.1 he];simp
     · exact(Tr.gC _ _ (by omega)).trans (Tr.gC _ _ (hd jG))
theorem gA.Sp{β:Type}{Nx:β->List Value}{n2:Nat}{s:SV β}(h:gA Nx n2 hp nx s)(hg:lU enc n B gr hp nx J)(he:∀c,c<nx->(J.l≠[]->c≠gr)->fe.get c=hp.get c)(hn:nx<=fg):gA Nx n2 fe fg s:=by
 refine⟨h.1,?_,h.2.2⟩
 rcases h.2.1 with h|⟨q,cap,m,h1,h2,h3,h4,j⟩
 · exact .inl h
 · refine .inr ⟨q,cap,m,h1,h2,by omega,(he q h3 fun k=>?_).trans h4,j⟩
   rcases hg with hg|⟨b,ms,_,_,_,hg,_⟩
   · exact absurd hg.1 k
   · rintro rfl;rw[hg]at h4;cases h4
end
section
variable {e:Env}{fm:Fm}{to:Tm}{ds:List Deferred}{hp:Ht}{nx:Nat}{gW:List Nat}{Q:St->Prop}{all:List Oper}{d:Tmp}{ty:TypeId}{pos:String}{j1:Array Edge}
theorem WC.Ny{α:Type}{enc:α->List Value}{st xt el:TypeId}{x y:Operand}{B n gr:Nat}{z w:Value}{inf:TypeInfo}{J:SV α}(j:List α)(hl:e.low=0)(hx:(aaj x).run to=J.v)(hy:(aaj y).run to=w)
 (h:lU enc n B gr hp nx J) (hlen:∀y∈J.l,(enc y).length=n) (hu:e.T.ji st=some (.slice el)) (hs:e.T.size el=some n) (ag:e.T.zero el=some z) (hi:e.T.info el=some inf)
 (ae:pn e.T xt w=some (j.length,false)) (I:lK hp.get (j.length*n) w=some (j.flatMap enc)) (R:tZ n w=true) (aa:∀y∈j,(enc y).length=n) (C:(j.flatMap enc).all one=true) (U:0<n)
 (b1:(J.l.length+j.length)*inf.bytes<=70368744177664) (b2:inf.bytes<=1073741824) (ab:J.l.length+j.length<=70368744177664) (ad:B<=nx)
 {qP:Array TypeId} (af:qP=#[st,xt]) (q:∀(J':SV α) fe fg o,J'.l=J.l++j->nx<=fg->(∀c,c<nx->(J.l≠[]->c≠gr)->fe.get c=hp.get c)->HE B hp fe->lU enc n B o fe fg J'->Q ⟨to.set d J'.v,ds,fe,fg,gW⟩):
 WC e fm (iH all ⟨some d,.call {callee:=.builtin .append,args:=#[x,y],argTypes:=qP},ty,pos,j1,none⟩) ⟨to,ds,hp,nx,gW⟩ Q:=by
 subst af
 obtain⟨v',jA,k,o,h1,h2,h3⟩:=h.yF j hlen hu hs ag hi ae I R aa C U b1 b2 ab ad
 refine .Mk d (jZ e.T hp.get st xt J.v w nx) hl (fun _ _ _=>?_) h1 (q ⟨v',J.l++j⟩ _ _ o rfl (by omega) h3 (fun c hc=>h3 c (by omega) fun hj=>?_) h2)
 · rw[<-hx,<-hy];rfl
 · rcases h with h|⟨_,_,_,_,_,_,_,_,_,_,ah⟩
   · exact absurd h.1 hj
   · omega
end
theorem Dx:∀l:List Int,(l.flatMap encI).all one=true
 |[]=>rfl
 |x::l=>by rw[List.flatMap_cons,List.all_append,Dx l];rfl
end
end Sw
namespace Sw
noncomputable section
open Go Go.Proofs Go.RowKit
set_option maxRecDepth 100000
set_option maxHeartbeats 1600000
theorem sc.XJ{n:Nat}{M:Int}{p:RPart}(h:sc n M p):p.kc<=64:=by
 cases n with
 |zero=>exact h.elim
 |succ n=>rcases h with⟨h,_⟩|⟨_,h,_⟩<;>omega
theorem Nz{p:RPart}(h:p.kc<=64):uv p<=64:=by
 have:=Hf p
 cases k:ru p.kc 1 with
 |true=>rw[k]at this;simp only[cond_true]at this;omega
 |false=>rw[k]at this;simp only[cond_false]at this;omega
theorem sc.sub{n:Nat}{M:Int}{p:RPart}(h:sc n M p):∀q∈p.fW.l,sc (n-1) M q:=by
 cases n with
 |zero=>exact h.elim
 |succ n=>
  rcases h with⟨_,_,h⟩|⟨_,_,_,_,h⟩
  · intro q j;rw[List.eq_nil_of_length_eq_zero h]at j;cases j
  · exact h
def JF(L:List Int)(hp:Ht)(nx:Nat)(v:Value)(fe:Ht)(fg:Nat):Prop:=∃J:SV Int,v=J.v/\J.l=L/\gA encI 1 fe fg J/\nx<=fg/\HE nx hp fe
theorem JG:∃i,ex.T.info 3=some i/\i.bytes=8:=by
 cases h:ex.T.info 3 with
 |none=>exact absurd (show(ex.T.info 3).isSome=true by kernel_rfl) (by rw[h];decide)
 |some i=>
  refine⟨i,rfl,?_⟩
  have:((ex.T.info 3).map fun i=>i.bytes)=some 8:=by kernel_rfl
  rw[h]at this
  exact Option.some.inj this
theorem NA{w:Value}{a:Option Addr}{n c:Nat}(h:w=.slice a n c):pn ex.T 42 w=some (n,false):=by
 subst h
 have:ex.T.ji 42=some (.slice 3):=by kernel_rfl
 simp only[pn,this]
theorem Gg(n:Nat)(M:Int)(hn:n<=17)(l:SV RPart)(hH:tE n l.l)(b4:∀p∈l.l,sc n M p)(ih:n≠0->∀(l:SV RPart) (hp:Ht) (nx:Nat),tE (n-1) l.l->(∀p∈l.l,sc (n-1) M p)->jt jJ 3 (fun hp nx y=>kL hp nx y) hp nx l->WF ex 204 [l.v] hp nx (JF (mG (n-1) l.l) hp nx))(hp:Ht)(nx:Nat)(hl:jt jJ 3 (fun hp nx y=>kL hp nx y) hp nx l):WF ex 204 [l.v] hp nx (JF (mG n l.l) hp nx):=by
 obtain⟨a1,c2,hR⟩:=hl.1.shape
 have lW:=hl.1.2.2
 rw[hR]
 refine wd Tryz.f204 36 [.tmp 2] fun hE=>sr<|oN 1<|WP.seq<|sr<|oN 3<|WP.block ?_
 refine my [2,6,7,8] (fun m hs ns vs=>∃(fV:Nat) (J:SV Int) (gr:Nat),fV+m=l.l.length/\vs=[J.v,.slice a1 (l.l.length) c2,iN (.ofNat (l.l.length)),iN (.ofNat fV)]/\nx<=ns/\HE nx hp hs/\(lU encI 1 nx gr hs ns J)/\(J.l=(l.l.take fV).foldl (wj (mG (n-1))) [])/\(J.l.length<=257*n)) ?_ (l.l.length) ?_
 ·
  rintro xn pT ja _ ⟨fV,J,gr,tP,rfl,oe,jm,b3,aT,bV⟩ tQ
  have ao:=Nat.le_trans nR oe
  have b8:=HE.refl (ja) pT
  have bp:=Nat.le_refl (ja)
  have bA:=b3.ok (fun _ _=>rfl) om
  have b9:=HE.refl (ja) pT
  have cr:=Nat.le_refl (ja)
  refine sr ?_
  refine oq 9 (kV fV l.l.length) fun c8 cI=>WO.nil<|WP.seq<|cq cI (fun cL=>?_) (fun cL=>?_)
  ·
   refine WP.skip<|WP.seq<|WP.block<|sr ?_
   have aN:fV<l.l.length:=by omega
   refine WO.cons (WC.iy hR hl.1 (fV) yO qZ (aN) ?_)
   obtain⟨j,o⟩:=gE aN
   refine WO.cons (WC.ly hR (hl.1.mono jm ao) o Dj qZ<|oA [iN 0,iN 0,.slice none (0) 0] Kj fun c5 bf b5=>?_)
   have bY:=jm.trans bf ao
   have b_:=b8.trans bf bp
   have bq:=Nat.le_trans bp (Nat.le_succ (ja))
   have ct:=Nat.le_trans oe (Nat.le_succ (ja))
   have bn:=Nat.le_trans ao (Nat.le_succ (ja))
   refine oS ja (0) (.agg (jJ j).toArray) (jJ j) (jJ j) qZ rfl (Bool.and_eq_true_iff.2 ⟨rfl,F6 _ (hl.2 j (List.mem_of_getElem? o))⟩) b5 fun c6 bg a_ c3=>?_
   have bZ:=bY.trans bg om
   have ca:=b_.trans bg om
   refine WO.nil<|sr<|oX 1<|oZ ja 0 (iN j.iX) fP a_ rfl<|oL [iN j.iX] fun aH aB b6=>?_
   have ay:=bZ.trans aB bn
   have aj:=aB.get a_ (Nat.lt_succ_self (ja))
   have cj:=Nat.lt_of_lt_of_le (Nat.lt_succ_self (ja)) (Nat.le_succ (ja+1))
   have bk:=ca.trans aB bq
   have aJ:=Nat.le_trans bq (Nat.le_succ (ja+1))
   have br:=Nat.le_trans ct (Nat.le_succ (ja+1))
   have aq:=Nat.le_trans bn (Nat.le_succ (ja+1))
   refine oN 1<|WP.seq<|sr<|oX 1<|oZ ja (0+1) (iN j.kc) fP aj rfl ?_
   refine oq 17 (nz 0 j.kc) fun c9 cJ=>WO.nil<|cq cJ (fun bo=>?_) (fun bo=>?_)
   ·
    refine WP.region<|oX 1 ?_
    obtain⟨a60,cA,bl⟩:=(hl.2 j (List.mem_of_getElem? o)).fW.1.shape
    have cP:=(hl.2 j (List.mem_of_getElem? o)).fW.1.2.2
    refine oZ ja (0+2) (.slice a60 (j.fW.l.length) cA) pr aj (by rw[<-bl];rfl)<|WO.cons (WC.call 20 204 ([j.fW.v]) (fun _ _ _=>by(try rw[bl]);kernel_rfl) ((ih (fun h0=>by have:=(hH.sub o).1;omega) j.fW aH (ja+1+1) (hH.sub o).2 (b4 _ (List.mem_of_getElem? o)).sub ((hl.2 j (List.mem_of_getElem? o)).fW.mono (fun _ h he hn=>h.mono he hn) ay aq)).mono ?_))
    rintro _ bh ar ⟨aW,rfl,bB,aY,aF,aC⟩
    have b0:=ay.trans aC aq
    have b7:=aC.get aj cj
    have cb:=bk.trans aC aJ
    have cu:=Nat.le_trans aJ aF
    have cw:=Nat.le_trans br aF
    have cf:=Nat.le_trans aq aF
    have cc:=HE.refl (ar) bh
    have cx:=Nat.le_refl (ar)
    refine oN 1<|sr<|oX 1<|oZ ja (0+1) (iN j.kc) fP b7 rfl<|oN 2<|WP.block ?_
    obtain⟨W,a8,ah,aZ⟩:∃W:SV Int,W.v=aW.v/\W.l=Ak (mG (n-1)) j/\gA encI 1 bh (ar) W:=⟨aW,rfl,bB.trans (if_pos (by have:=bo;omega)).symm,(aY.mono cc cx)⟩
    have a7:=Kv hH o
    rw[<-ah]at a7
    have cD:=Hf j
    have aX:=(b3.mono cb cu)
    have aE:=(b4 _ (List.mem_of_getElem? o)).XJ
    have cC:=Nz aE
    refine my [2,5,6,7,8,23,24] (fun m hs ns vs=>∃(R:Nat) (I:SV Int) (af:Nat),R+m=uv j/\vs=[I.v,aW.v,.slice a1 (l.l.length) c2,iN (.ofNat (l.l.length)),iN (.ofNat fV),iN ((bif ru (j.kc) (1)then(1)else(j.kc))),iN (.ofNat R)]/\ar<=ns/\HE nx hp hs/\(lU encI 1 nx af hs ns I)/\(I.l=yi W.l R J.l)/\(gA encI 1 hs ns W)/\(I.l.length<=257*n)) ?_ (uv j) ?_
    ·
     rintro c7 bj au _ ⟨R,I,af,cO,rfl,aG,aD,U,aa,aA,az⟩ cR
     have cy:=Nat.le_trans cw aG
     have ch:=Nat.le_trans cf aG
     have aI:=HE.refl (au) bj
     have aK:=Nat.le_refl (au)
     have ai:=U.ok (fun _ _=>rfl) om
     have cd:=HE.refl (au) bj
     have cz:=Nat.le_refl (au)
     refine sr ?_
     refine oq 25 (AW R (bif ru (j.kc) (1)then(1)else(j.kc))) fun c_ cK=>WO.nil<|WP.seq<|cq cK (fun cM=>?_) (fun cM=>?_)
     ·
      refine WP.skip<|WP.seq<|WP.block<|WP.seq<|sr<|oX 1 ?_
      obtain⟨cS,cU,bM⟩:=ai.shape
      have cE:=ai.2.2
      refine ov 27 (iN (.ofNat (I.l.length))) ?_ (fun _ _ _=>by rw[bM];kernel_rfl)
      refine oq 28 (nc 256 I.l.length) fun cV ck=>WO.nil<|cq ck (fun av=>?_) (fun av=>?_)
      ·
       refine sr<|oW 2 ⟨rfl,rfl,[I.v],kr,?_⟩
       exact⟨I,rfl,Nv hH o (by rw[aa,<-ah,aT]) om (by have:=av;omega),(ai.mono cd cz),ch,aD⟩
      ·
       refine WP.skip<|WP.region<|oX 2 ?_
       obtain⟨cG,aU,bc⟩:=JG
       obtain⟨cT,cW,ab⟩:=aA.shape
       refine WO.cons (WC.Ny (enc:=encI) (J:=I) (w:=W.v) W.l rfl kr (by rw[a8];kernel_rfl) (U.mono aI aK) (fun _ _=>rfl) lD kj Ay aU (NA ab) (by rw[ab];exact aA.src ab) (by rw[ab];rfl) (fun _ _=>rfl) (Dx _) (by decide) (by rw[bc];omega) om om om rfl ?_)
       rintro bW bH aR bs aL aO bC bE bx
       have a6:=aA.Sp (U.mono aI aK) bC aO
       have bu:=aD.trans bE om
       have bP:=Nat.le_trans aG aO
       have bJ:=HE.refl (aR) bH
       have bQ:=Nat.le_refl (aR)
       refine oN 1<|WP.region<|ov 33 (iN (.ofNat (R+1))) ?_ (fun _ _ _=>by rw[<-gU (show R+1<9223372036854775808 by omega)];kernel_rfl)
       refine oN 1<|⟨uv j-(R+1),om,rfl,rfl,R+1,bW,bs,om,kr,?_,?_,?_,?_,?_,?_⟩
       · exact bP
       · exact bu
       · exact(bx.mono bJ bQ)
       · rw[aL,aa];exact(if_neg (by rw[<-aa];have:=av;omega)).symm
       · exact a6
       · rw[aL,List.length_append];have:=av;omega
     ·
      refine WP.exit<|WP.region<|ov 34 (iN (.ofNat (fV+1))) ?_ (fun _ _ _=>by rw[<-gU (show fV+1<9223372036854775808 by omega)];kernel_rfl)
      refine oN 1<|⟨l.l.length-(fV+1),om,rfl,rfl,fV+1,I,af,om,kr,?_,?_,?_,?_,?_⟩
      · exact cy
      · exact aD
      · exact(U.mono aI aK)
      · have hj:R=uv j:=by omega
        rw[BA o,<-aT,aa,hj,ah];rfl
      · exact az
    ·
     exact⟨0,J,gr,om,kr,Nat.le_refl _,b0,(aX),rfl,aZ,bV⟩
   ·
    refine WP.skip<|sr<|oX 1<|oZ ja (0+1) (iN j.kc) fP aj rfl<|oN 2<|WP.block ?_
    obtain⟨W,a8,ah,aZ⟩:∃W:SV Int,W.v=.slice (some ⟨(ja+1),0,none⟩) (1) 1/\W.l=Ak (mG (n-1)) j/\gA encI 1 aH (ja+1+1) W:=⟨(⟨.slice (some ⟨(ja+1),0,none⟩) 1 1,[j.iX]⟩:SV Int),rfl,(if_neg (by have:=bo;omega)).symm,(gA.mO (enc:=encI) (by simp[encI]) b6 rfl (by decide) om (by simp):gA encI 1 aH (ja+1+1) (⟨.slice (some ⟨(ja+1),0,none⟩) 1 1,[j.iX]⟩:SV Int))⟩
    have a7:=Kv hH o
    rw[<-ah]at a7
    have cD:=Hf j
    have aX:=(b3.mono bk aJ)
    have aE:=(b4 _ (List.mem_of_getElem? o)).XJ
    have cC:=Nz aE
    refine my [2,5,6,7,8,23,24] (fun m hs ns vs=>∃(C:Nat) (I:SV Int) (af:Nat),C+m=uv j/\vs=[I.v,.slice (some ⟨(ja+1),0,none⟩) (1) 1,.slice a1 (l.l.length) c2,iN (.ofNat (l.l.length)),iN (.ofNat fV),iN ((bif ru (j.kc) (1)then(1)else(j.kc))),iN (.ofNat C)]/\ja+1+1<=ns/\HE nx hp hs/\(lU encI 1 nx af hs ns I)/\(I.l=yi W.l C J.l)/\(gA encI 1 hs ns W)/\(I.l.length<=257*n)) ?_ (uv j) ?_
    ·
     rintro cQ aQ ae _ ⟨C,I,af,cB,rfl,al,ak,U,aa,aA,az⟩ cN
     have bR:=Nat.le_trans br al
     have bO:=Nat.le_trans aq al
     have an:=HE.refl (ae) aQ
     have ax:=Nat.le_refl (ae)
     have ag:=U.ok (fun _ _=>rfl) om
     have bK:=HE.refl (ae) aQ
     have bS:=Nat.le_refl (ae)
     refine sr ?_
     refine oq 25 (AW C (bif ru (j.kc) (1)then(1)else(j.kc))) fun cX cm=>WO.nil<|WP.seq<|cq cm (fun cp=>?_) (fun cp=>?_)
     ·
      refine WP.skip<|WP.seq<|WP.block<|WP.seq<|sr<|oX 1 ?_
      obtain⟨a146,cY,bN⟩:=ag.shape
      have cF:=ag.2.2
      refine ov 27 (iN (.ofNat (I.l.length))) ?_ (fun _ _ _=>by rw[bN];kernel_rfl)
      refine oq 28 (nc 256 I.l.length) fun cZ cn=>WO.nil<|cq cn (fun aw=>?_) (fun aw=>?_)
      ·
       refine sr<|oW 2 ⟨rfl,rfl,[I.v],kr,?_⟩
       exact⟨I,rfl,Nv hH o (by rw[aa,<-ah,aT]) om (by have:=aw;omega),(ag.mono bK bS),bO,ak⟩
      ·
       refine WP.skip<|WP.region<|oX 2 ?_
       obtain⟨cH,aV,bd⟩:=JG
       obtain⟨a164,c0,ad⟩:=aA.shape
       refine WO.cons (WC.Ny (enc:=encI) (J:=I) (w:=W.v) W.l rfl kr (by rw[a8];kernel_rfl) (U.mono an ax) (fun _ _=>rfl) lD kj Ay aV (NA ad) (by rw[ad];exact aA.src ad) (by rw[ad];rfl) (fun _ _=>rfl) (Dx _) (by decide) (by rw[bd];omega) om om om rfl ?_)
       rintro bX bI aS bt aM aP bD bG bz
       have a6:=aA.Sp (U.mono an ax) bD aP
       have bw:=ak.trans bG om
       have bT:=Nat.le_trans al aP
       have bL:=HE.refl (aS) bI
       have bU:=Nat.le_refl (aS)
       refine oN 1<|WP.region<|ov 33 (iN (.ofNat (C+1))) ?_ (fun _ _ _=>by rw[<-gU (show C+1<9223372036854775808 by omega)];kernel_rfl)
       refine oN 1<|⟨uv j-(C+1),om,rfl,rfl,C+1,bX,bt,om,kr,?_,?_,?_,?_,?_,?_⟩
       · exact bT
       · exact bw
       · exact(bz.mono bL bU)
       · rw[aM,aa];exact(if_neg (by rw[<-aa];have:=aw;omega)).symm
       · exact a6
       · rw[aM,List.length_append];have:=aw;omega
     ·
      refine WP.exit<|WP.region<|ov 34 (iN (.ofNat (fV+1))) ?_ (fun _ _ _=>by rw[<-gU (show fV+1<9223372036854775808 by omega)];kernel_rfl)
      refine oN 1<|⟨l.l.length-(fV+1),om,rfl,rfl,fV+1,I,af,om,kr,?_,?_,?_,?_,?_⟩
      · exact bR
      · exact ak
      · exact(U.mono an ax)
      · have hj:C=uv j:=by omega
        rw[BA o,<-aT,aa,hj,ah];rfl
      · exact az
    ·
     exact⟨0,J,gr,om,kr,Nat.le_refl _,ay,(aX),rfl,aZ,bV⟩
  ·
   refine WP.exit<|sr<|oW 2 ⟨rfl,rfl,[J.v],kr,?_⟩
   have hT:l.l.take fV=l.l:=List.take_of_length_le om
   rw[hT,<-ID hH]at aT
   exact⟨J,rfl,aT,(bA.mono b9 cr),ao,jm⟩
 ·
  exact⟨0,⟨.slice none 0 0,[]⟩,0,om,kr,Nat.le_refl _,hE,lU.nil,rfl,(Nat.zero_le _)⟩
theorem Sq(n:Nat)(M:Int)(hn:n<=17)(l:SV RPart)(hH:tE n l.l)(j:∀p∈l.l,sc n M p)(hp:Ht)(nx:Nat)(hl:jt jJ 3 (fun hp nx y=>kL hp nx y) hp nx l):WF ex 204 [l.v] hp nx (JF (mG n l.l) hp nx):=by
 induction n generalizing l hp nx with
 |zero=>exact Gg 0 M hn l hH j (fun h=>absurd rfl h) hp nx hl
 |succ n ih=>exact Gg (n+1) M hn l hH j (fun _ l hp nx hH j hl=>ih om l hH j hp nx hl) hp nx hl
end
end Sw
namespace Sw
noncomputable section
open Go Go.RowKit
theorem Hg{n:Nat}(h:n<9223372036854775808):gD .i64 ((.ofNat n)-(1))=((n:Nat):Int)-1:=by
 cases n with
 |zero=>rfl
 |succ n=>exact(Av (i:=n+1) (j:=1) h (by omega)).trans (by show Int.ofNat (n+1-1)=_;simp)
theorem JH{uE out:List Int}{P:Int->Prop}(hl:∀r∈uE,P r)(h:∀r∈out,P r):∀k,∀r∈yi uE k out,P r
 |0=>h
 |k+1=>by
  show∀r∈CN uE (yi uE k out),P r
  unfold CN;split
  · exact JH hl h k
  · intro r hr
    rcases List.mem_append.1 hr with hr|hr
    · exact JH hl h k r hr
    · exact hl r hr
theorem IF{M:Int}:∀(n:Nat) (l:List RPart),(∀p∈l,sc n M p)->∀r∈mG n l,0<=r/\r<=M
 |0,_,_=>fun r h=>by cases h
 |n+1,l,j=>by
  have:∀(l:List RPart) (out:List Int),(∀p∈l,sc (n+1) M p)->(∀r∈out,0<=r/\r<=M)->∀r∈l.foldl (wj (mG n)) out,0<=r/\r<=M:=by
   intro l
   induction l with
   |nil=>intro out _ h;exact h
   |cons p l ih=>
    intro out j h
    refine ih _ (fun q o=>j q (List.mem_cons_of_mem _ o)) (JH ?_ h _)
    have hp:=j p (List.mem_cons_self ..)
    unfold Ak;split
    · exact IF n _ hp.sub
    · intro r hr
      rw[List.mem_singleton.1 hr]
      rcases hp with⟨_,h,_⟩|⟨_,h,_⟩
      · exact h
      · omega
  exact this l [] j (fun r h=>by cases h)
theorem Ox{β:Type}{l:List β}{i:Nat}{x:β}(h:l[i]?=some x):kZ (l.take (i+1))=xY (kZ (l.take i)) x:=by
 rw[List.take_add_one,h,Option.toList_some];exact Io _ _
theorem Uw{l:List Int}{i:Nat}{x:Int}(h:l[i]?=some x):List.count x (l.take (i+1))=List.count x (l.take i)+1:=by
 rw[List.take_add_one,h,Option.toList_some,List.count_append];simp
theorem Sr{l:List Int}{i:Nat}{x z:Int}(h:l[i]?=some x)(j:z≠x):List.count z (l.take (i+1))=List.count z (l.take i):=by
 rw[List.take_add_one,h,Option.toList_some,List.count_append,List.count_eq_zero_of_not_mem (l:=[x]) (by simpa using j)];rfl
theorem Ux{l:List Int}(z:Int)(h:z∉kZ l):List.count z l=0:=List.count_eq_zero_of_not_mem fun k=>h ((EW l).2 k)
def pg(l:List Int)(i:Nat)(z:Int):Nat:=List.count z (l.take i)
theorem Wi(l:List Int)(i:Nat)(z:Int):pg l i z<=l.length:=by
 unfold pg
 have h1:=List.count_le_length (a:=z) (l:=l.take i)
 rw[List.length_take]at h1;omega
theorem Uy{l:List Int}{i:Nat}(h:l.length<=i)(z:Int):pg l i z=List.count z l:=by unfold pg;rw[List.take_of_length_le h]
theorem E_{l:List Int}{i:Nat}(z:Int)(h:z∉kZ (l.take i)):pg l i z=0:=Ux z h
theorem Ss{l:List Int}{i:Nat}{x:Int}(h:l[i]?=some x):Value.int .i64 (.ofNat (pg l (i+1) x))=.int .i64 (.ofNat (pg l i x+1)):=by unfold pg;rw[Uw h]
theorem QD{l:List Int}{i:Nat}{x z:Int}(h:l[i]?=some x)(j:z≠x):Value.int .i64 (.ofNat (pg l (i+1) z))=.int .i64 (.ofNat (pg l i z)):=by unfold pg;rw[Sr h j]
end
end Sw
namespace Sw
noncomputable section
open Go Go.Proofs Go.RowKit
set_option maxRecDepth 100000
set_option maxHeartbeats 1600000
theorem IG:MK ex.T 3 (fun x:Int=>iN x):=XA kr
theorem Lh:ex.T.ji 326=some (.map 3 3):=kr
theorem XK:ex.T.zero 3=some (iN 0):=kr
def XL(C:j7)(j:List lZ)(R:List Int)(i:Nat):Prop:=∃m k,R[i]?=some m/\C.iB.l[m.toNat]?=some k/\((¬(k.jf=1↔((i:Nat):Int)=0)\/¬(k.jf=3↔((i:Nat):Int)=((R.length:Nat):Int)-1))\/(((0:Int)<((i:Nat):Int))/\∃q,R[i-1]?=some q/\¬(⟨q,m⟩:lZ)∈j))
def Zf(C:j7)(j:List lZ)(R:List Int)(x:Int):Prop:=0<=x/\∃k,C.iB.l[x.toNat]?=some k/\((((List.count x R:Nat):Int)=0\/k.jf≠2)\/¬(⟨x,x⟩:lZ)∈j)
def Zg(R:List Int)(x:ou):Prop:=x.AV<=((List.count x.iX R:Nat):Int)
def CO(C:j7)(j:List lZ)(d:j5):Prop:=(((2<=(mG 17 d.jI.l).length/\(mG 17 d.jI.l).length<=256)/\∀i,i<(mG 17 d.jI.l).length->¬XL C j (mG 17 d.jI.l) i)/\¬Zf C j (mG 17 d.jI.l) d.jO)/\∀x∈d.jr.l,(Zg (mG 17 d.jI.l)) x
def IH(C:j7):List lZ:=kZ (C.jP.l.map xy)
section
open Classical
def mr(C:j7):Int:=if¬vA C then 2 else if¬Bb C then 70 else if¬B5 C then 71 else if qg (C.nH.l.map .step)≠0 then qg (C.nH.l.map .step)else if¬∀d∈C.fE.l,(CO C (IH C)) d then 72 else 0
end
theorem Hh:ex.T.agg 326=some false:=kr
theorem Su:ex.T.size 326=some 1:=kr
theorem Sv:ex.T.zero 326=some (.map none):=kr
theorem Oy(L:List Int)(F:Int->Nat)(x:ou)(j bm:Nat)(es:List MapEntry)(aa:Nat)(hp:Ht)(nx:Nat)(ab:hp.get j=some (.cells [.map (some bm)] gl.plain))(ae:j<nx)(hm:hp.get bm=some (.map es aa))(lm:bm<nx)(ad:kK (fun x:Int=>iN x) L (fun z=>iN (.ofNat (F z))) es)(J:∀z,z∉L->F z=0):WF ex 205 [.agg (lN x).toArray,pt j 0] hp nx (fO nx hp (gk (x.AV<=((F x.iX:Nat):Int)))):=by
 refine WF.body (fi:=⟨Tryz.f205.body.getD .skip,11,[.tmp 3]⟩) kr kr kr rfl ?_
 have hE:=HE.refl nx hp
 refine sr ?_
 refine WO.cons (WC.box (.agg (lN x).toArray) (lN x) rfl kr rfl ?_)
 obtain⟨jN,o,iY,iA⟩:=boxed hp (nx) (lN x)
 rw[o];clear o
 have l_:=hE.trans iY nR
 have R:=iY.get ab ae
 have U:=iY.get hm lm
 have C:=Nat.le_trans nR (Nat.le_succ (nx))
 refine ov 3 (.bool false) ?_
 refine WO.nil ?_
 refine sr ?_
 refine WO.cons (WC.jX j (0) (.map (some bm)) kr Hh R rfl ?_)
 refine ov 5 (pt nx 0) ?_
 refine WO.cons (WC.jX nx 0 (iN x.iX) kr fP iA rfl ?_)
 refine WO.cons (WC.opt (v:=iN (.ofNat (F (x.iX)))) 7 (o8 ex.T jN.get 326 (.map (some bm)) ((fun x:Int=>iN x) (x.iX)) false) kf (B3 (hp:=jN.get) (f:=F) IG Lh XK U ad J (x.iX)) ?_)
 refine ov 8 (pt nx (0+1)) ?_
 refine WO.cons (WC.jX nx (0+1) (iN x.AV) kr fP iA rfl ?_)
 obtain⟨ow,I,sj⟩:=@nb (DA (x.AV) (.ofNat (F (x.iX)))) ((x.AV)<=(((F (x.iX)):Nat):Int)) (yC)
 refine ov 10 (.bool ow) ?_ (fun _ _ _=>by subst I;kernel_rfl)
 refine ov 3 (.bool ow) ?_
 refine WO.nil ?_
 refine WP.ret ⟨rfl,rfl,[.bool ow],kr,?_⟩
 refine⟨⟨ow,rfl,?_⟩,C,l_⟩
 exact sj
theorem QE(C:j7)(d:j5)(aC ct:Nat)(c6:List MapEntry)(au:List lZ)(c7:BD (gD .i64 ((.ofNat (C.iB.l.length))-(1))) d)(hH:tE 17 d.jI.l)(hp:Ht)(nx:Nat)(ax:oJ hp nx C)(hd:lO hp nx d)(eu:hp.get aC=some (.map c6 ct))(cz:aC<nx)(cu:kK (fun x:lZ=>.agg (pL x).toArray) au (fun _=>.bool true) c6)(eV:au.Nodup):WF ex 102 [.agg (iz C).toArray,.agg (iI d).toArray,.map (some aC)] hp nx (fO nx hp (gk (CO C au d))):=by
 refine WF.body (fi:=⟨Tryz.f102.body.getD .skip,105,[.tmp 6]⟩) kr kr kr rfl ?_
 have hE:=HE.refl nx hp
 refine sr ?_
 refine WO.cons (WC.box (.agg (iz C).toArray) (iz C) rfl kr rfl ?_)
 obtain⟨jN,cx,iY,iA⟩:=boxed hp (nx) (iz C)
 rw[cx];clear cx
 have l_:=hE.trans iY nR
 have et:=iY.get eu cz
 have cB:=Nat.lt_of_lt_of_le cz (Nat.le_succ (nx))
 have cA:=Nat.le_trans nR (Nat.le_succ (nx))
 refine WO.cons (WC.box (.agg (iI d).toArray) (iI d) rfl kr rfl ?_)
 obtain⟨A9,bT,yL,bO⟩:=boxed jN (nx+1) (iI d)
 rw[bT];clear bT
 have bM:=l_.trans yL cA
 have da:=yL.get et cB
 have bZ:=Nat.lt_of_lt_of_le cB (Nat.le_succ (nx+1))
 have db:=yL.get iA (Nat.lt_succ_self (nx))
 have b0:=Nat.lt_of_lt_of_le (Nat.lt_succ_self (nx)) (Nat.le_succ (nx+1))
 have bq:=Nat.le_trans cA (Nat.le_succ (nx+1))
 refine ov 6 (.bool false) ?_
 refine WO.nil ?_
 refine sr ?_
 refine ov 14 (pt (nx+1) (0+1)) ?_
 obtain⟨a21,eh,bS⟩:=hd.jI.1.shape
 have eI:=hd.jI.1.2.2
 refine WO.cons (WC.jX (nx+1) (0+1) (.slice a21 (d.jI.l.length) eh) kr pr bO (by rw[<-bS];rfl) ?_)
 refine WO.cons (WC.call 16 204 ([d.jI.v]) (fun _ _ _=>by(try rw[bS]);kernel_rfl) ((Sq 17 _ (by decide) d.jI hH (fun p hp=>c7.1.2 p hp) A9 (nx+1+1) (hd.jI.mono (fun _ h he hn=>h.mono he hn) bM bq)).mono ?_))
 rintro _ bp U ⟨R,rfl,aq,ar,aQ,aP⟩
 have bN:=bM.trans aP bq
 have dc:=aP.get da bZ
 have b3:=Nat.lt_of_lt_of_le bZ aQ
 have dd:=aP.get db b0
 have b4:=Nat.lt_of_lt_of_le b0 aQ
 have de:=aP.get bO (Nat.lt_succ_self (nx+1))
 have b5:=Nat.lt_of_lt_of_le (Nat.lt_succ_self (nx+1)) aQ
 have br:=Nat.le_trans bq aQ
 have dA:=HE.refl (U) bp
 have b7:=Nat.le_refl (U)
 have cw:∀r∈R.l,0<=r/\r<((C.iB.l.length:Nat):Int):=fun r hr=>by
  have h1:=IF 17 _ (fun p hp=>c7.1.2 p hp) r (by rw[<-aq];exact hr)
  have h2:=ax.iB.2.2
  rw[Hg om]at h1;omega
 obtain⟨aB,aJ,aI⟩:=ar.shape
 have eJ:=ar.2.2
 rw[aI]
 refine ov 7 (.slice aB (R.l.length) aJ) ?_
 refine WO.nil ?_
 refine sr ?_
 refine ov 17 (.slice aB (R.l.length) aJ) ?_
 refine ov 18 (iN (.ofNat (R.l.length))) ?_
 obtain⟨z,cp⟩:∃z:Int,z=gD .i64 ((.ofNat (R.l.length))-(1)):=⟨_,rfl⟩
 have eW:=ar.2.2
 have cy:z=((R.l.length:Nat):Int)-1:=by rw[cp];exact Hg om
 refine ov 19 (iN z) ?_ (fun _ _ _=>by rw[cp];kernel_rfl)
 refine ov 8 (iN z) ?_
 refine WO.nil ?_
 refine WP.seq ?_
 refine sr ?_
 refine ov 20 (iN z) ?_
 obtain⟨an,ej,eB⟩:=@nb (ru (z) (1)) ((z)<(1)) (so)
 refine ov 21 (.bool an) ?_ (fun _ _ _=>by subst ej;kernel_rfl)
 refine ov 22 (.bool an) ?_
 refine og 22 (!an) (iN z) (.bool an) (by cases an<;>rfl) (fun h=>by obtain rfl:=bF h;exact fun _ _ _=>by kernel_rfl) ?_
 obtain⟨bJ,en,eC⟩:=@nb (DA (256) (z)) ((256)<=(z)) (yC)
 refine og 22 (!an) (.bool bJ) (.bool an) (by cases an<;>rfl) (fun h=>by obtain rfl:=bF h;exact fun _ _ _=>by subst en;kernel_rfl) ?_
 obtain⟨ei,eo,eD⟩:=@nb ((an||bJ)) (((z)<(1))\/((256)<=(z))) (by rw[Bool.or_eq_true,eB,eC])
 refine WO.cons (WC.opt (v:=.bool ei) 25 (lA (.bool an) (.bool true) ((bif !an then .bool bJ else undef))) kf (by rw[eo];exact lE (fun h=>by obtain rfl:an=false:=h;rfl)) ?_)
 refine WO.nil ?_
 refine cq eD (fun b6=>?_) (fun b6=>?_)
 ·
  refine sr ?_
  refine ov 6 (.bool false) ?_
  refine WO.nil ?_
  refine WP.ret ⟨rfl,rfl,[.bool false],kr,?_⟩
  exact⟨⟨false,rfl,fun h=>(by cases h),fun h=>(by have h:=h.1.1.1;rw[<-aq]at h;omega)⟩,br,bN⟩
 ·
  refine WP.skip ?_
  refine sr ?_
  refine WO.cons (WC.makeMap rfl ?_)
  obtain⟨qq,bU,aF,df⟩:=mapped bp (U) (.map [] 0)
  rw[bU];clear bU
  have c8:=bN.trans aF br
  have dg:=aF.get dc b3
  have dF:=Nat.lt_of_lt_of_le b3 (Nat.le_succ (U))
  have dh:=aF.get dd b4
  have dG:=Nat.lt_of_lt_of_le b4 (Nat.le_succ (U))
  have di:=aF.get de b5
  have dH:=Nat.lt_of_lt_of_le b5 (Nat.le_succ (U))
  have dB:=dA.trans aF b7
  have b8:=Nat.le_trans b7 (Nat.le_succ (U))
  have bY:=Nat.le_trans br (Nat.le_succ (U))
  refine WO.cons (WC.alloc _ [.map none] rfl Sv rfl ?_)
  obtain⟨dz,bV,av,dj⟩:=boxed qq (U+1) [.map none]
  rw[bV];clear bV
  have c9:=c8.trans av bY
  have dm:=av.get dg dF
  have dn:=av.get dh dG
  have dp:=av.get di dH
  have dq:=av.get df (Nat.lt_succ_self (U))
  have dI:=Nat.lt_of_lt_of_le (Nat.lt_succ_self (U)) (Nat.le_succ (U+1))
  have dC:=dB.trans av b8
  have ef:=Nat.le_trans b8 (Nat.le_succ (U+1))
  have dE:=Nat.le_trans bY (Nat.le_succ (U+1))
  refine WO.cons (WC.vi (U+1) (0) (.map (some U)) [.map none] [.map (some U)] [.map (some U)] 1 rfl kr kr Su rfl rfl dj rfl rfl rfl ?_)
  obtain⟨eP,bW,bP,dr,aR⟩:=stored dz (U+1) (.cells [.map (some U)] gl.plain)
  rw[bW];clear bW
  have c_:=c9.trans bP om
  have dD:=dC.trans bP om
  have dt:=(aR aC om).trans dm
  have du:=(aR nx om).trans dn
  have dv:=(aR (nx+1) om).trans dp
  have dw:=(aR U om).trans dq
  refine WO.nil ?_
  refine WP.seq ?_
  refine sr ?_
  refine ov 27 (.slice aB (R.l.length) aJ) ?_
  refine ov 28 (iN (.ofNat (R.l.length))) ?_
  refine ov 29 (iN 0) ?_
  refine WO.nil ?_
  refine WP.block ?_
  refine my [2,3,4,7,8,9,27,28,29] (fun m hs ns vs=>∃(I:Nat) (bo:List MapEntry) (bK:Nat),I+m=R.l.length/\vs=[.map (some aC),pt nx 0,pt (nx+1) 0,.slice aB (R.l.length) aJ,iN z,pt (U+1) 0,.slice aB (R.l.length) aJ,iN (.ofNat (R.l.length)),iN (.ofNat I)]/\U+1+1<=ns/\HE nx hp hs/\hs.get aC=some (.map c6 ct)/\hs.get nx=some (.cells (iz C) gl.plain)/\hs.get (nx+1)=some (.cells (iI d) gl.plain)/\hs.get U=some (.map bo bK)/\hs.get (U+1)=some (.cells [.map (some U)] gl.plain)/\HE (U) bp hs/\(∀j,j<I->¬XL C au R.l j)/\(kK (fun x:Int=>iN x) (kZ (R.l.take I)) (fun z=>iN (.ofNat ((pg R.l I) z))) bo)) ?_ (R.l.length) ?_
  ·
   rintro eQ ak dJ _ ⟨I,bo,bK,eF,rfl,aH,aj,bs,aX,aY,az,aA,aZ,hinv,aO⟩ eL
   have bE:=Nat.lt_of_lt_of_le dI aH
   have bG:=Nat.lt_of_lt_of_le (Nat.lt_succ_self (U+1)) aH
   have bH:=Nat.le_trans ef aH
   have ah:=Nat.le_trans dE aH
   refine sr ?_
   obtain⟨cC,cI,dK⟩:=@nb (ru (.ofNat I) (.ofNat (R.l.length))) (((I:Nat):Int)<((R.l.length:Nat):Int)) (so)
   refine ov 30 (.bool cC) ?_ (fun _ _ _=>by subst cI;kernel_rfl)
   refine WO.nil ?_
   refine WP.seq ?_
   refine cq dK (fun ee=>?_) (fun ee=>?_)
   ·
    refine WP.skip ?_
    refine WP.seq ?_
    refine WP.block ?_
    refine sr ?_
    refine ov 31 (iN (.ofNat I)) ?_
    have a8:I<R.l.length:=by omega
    refine WO.cons (WC.iy aI ar (I) lD kj (a8) ?_)
    obtain⟨ae,al⟩:=gE a8
    refine WO.cons (WC.lz (iN ae) aI (ar.mono aZ bH) al rfl fP ?_)
    refine ov 10 (iN (.ofNat I)) ?_
    refine ov 11 (iN ae) ?_
    refine WO.nil ?_
    refine sr ?_
    refine ov 34 (pt nx (0+1)) ?_
    obtain⟨bc,cD,aS⟩:=ax.iB.shape
    have ey:=ax.iB.2.2
    refine WO.cons (WC.jX nx (0+1) (.slice bc (C.iB.l.length) cD) kr we aX (by rw[<-aS];rfl) ?_)
    have bX:=cw ae (List.mem_of_getElem? al)
    obtain⟨aw,bC⟩:∃k:Nat,ae=.ofNat k:=⟨(ae).toNat,(Int.toNat_of_nonneg bX.1).symm⟩
    have a7:aw=(ae).toNat:=by rw[bC];rfl
    refine ov 36 (iN (.ofNat aw)) ?_ (fun _ _ _=>by rw[<-bC];kernel_rfl)
    have aG:aw<C.iB.l.length:=by omega
    refine WO.cons (WC.iy aS ax.iB (aw) CJ xq (aG) ?_)
    refine ov 38 (pt (gb bc) (0+(aw)*2+1)) ?_
    obtain⟨ag,aU⟩:=gE aG
    refine WO.cons (WC.sC (gb bc) (0+(aw)*2+1) (iN ag.jf) kr fP ((ax.iB.mono aj ah).pq aS (zl aG)) (pF (ax.iB.mono aj ah).1 aU (by decide) rfl) ?_)
    refine ov 12 (iN ag.jf) ?_
    refine WO.nil ?_
    refine WP.seq ?_
    refine sr ?_
    refine ov 40 (iN ag.jf) ?_
    obtain⟨aK,cJ,dL⟩:=@nb (km (ag.jf) (1)) ((ag.jf)=(1)) (lH)
    refine ov 41 (.bool aK) ?_ (fun _ _ _=>by subst cJ;kernel_rfl)
    refine ov 42 (iN (.ofNat I)) ?_
    obtain⟨aD,cK,dM⟩:=@nb (km (.ofNat I) (0)) (((I:Nat):Int)=(0)) (lH)
    refine ov 43 (.bool aD) ?_ (fun _ _ _=>by subst cK;kernel_rfl)
    obtain⟨af,cL,dN⟩:=@nb (!(bif aK then aD else !aD)) (¬(((ag.jf)=(1))↔(((I:Nat):Int)=(0)))) (by rw[<-dL,<-dM];cases aK<;>cases aD<;>simp)
    refine ov 44 (.bool af) ?_ (fun _ _ _=>by subst cL;cases aK<;>cases aD<;>kernel_rfl)
    refine ov 45 (.bool af) ?_
    refine og 45 (!af) (iN ag.jf) (.bool af) (by cases af<;>rfl) (fun h=>by obtain rfl:=bF h;exact fun _ _ _=>by kernel_rfl) ?_
    obtain⟨aL,cM,dO⟩:=@nb (km (ag.jf) (3)) ((ag.jf)=(3)) (lH)
    refine og 45 (!af) (.bool aL) (.bool af) (by cases af<;>rfl) (fun h=>by obtain rfl:=bF h;exact fun _ _ _=>by subst cM;kernel_rfl) ?_
    refine og 45 (!af) (iN (.ofNat I)) (.bool af) (by cases af<;>rfl) (fun h=>by obtain rfl:=bF h;exact fun _ _ _=>by kernel_rfl) ?_
    refine og 45 (!af) (iN z) (.bool af) (by cases af<;>rfl) (fun h=>by obtain rfl:=bF h;exact fun _ _ _=>by kernel_rfl) ?_
    obtain⟨aE,cN,dP⟩:=@nb (km (.ofNat I) (z)) (((I:Nat):Int)=(z)) (lH)
    refine og 45 (!af) (.bool aE) (.bool af) (by cases af<;>rfl) (fun h=>by obtain rfl:=bF h;exact fun _ _ _=>by subst cN;kernel_rfl) ?_
    obtain⟨bd,cO,dQ⟩:=@nb (!(bif aL then aE else !aE)) (¬(((ag.jf)=(3))↔(((I:Nat):Int)=(z)))) (by rw[<-dO,<-dP];cases aL<;>cases aE<;>simp)
    refine og 45 (!af) (.bool bd) (.bool af) (by cases af<;>rfl) (fun h=>by obtain rfl:=bF h;exact fun _ _ _=>by subst cO;cases aL<;>cases aE<;>kernel_rfl) ?_
    obtain⟨J,cP,bt⟩:=@nb ((af||bd)) ((¬(((ag.jf)=(1))↔(((I:Nat):Int)=(0))))\/(¬(((ag.jf)=(3))↔(((I:Nat):Int)=(z))))) (by rw[Bool.or_eq_true,dN,dQ])
    refine WO.cons (WC.opt (v:=.bool J) 52 (lA (.bool af) (.bool true) ((bif !af then .bool bd else undef))) kf (by rw[cP];exact lE (fun h=>by obtain rfl:af=false:=h;rfl)) ?_)
    refine ov 53 (.bool J) ?_
    refine og 53 (!J) (iN (.ofNat I)) (.bool J) (by cases J<;>rfl) (fun h=>by obtain rfl:=bF h;exact fun _ _ _=>by kernel_rfl) ?_
    obtain⟨aa,cQ,bu⟩:=@nb (ru (0) (.ofNat I)) ((0)<((I:Nat):Int)) (so)
    refine og 53 (!J) (.bool aa) (.bool J) (by cases J<;>rfl) (fun h=>by obtain rfl:=bF h;exact fun _ _ _=>by subst cQ;kernel_rfl) ?_
    refine og 53 (!J) (.bool aa) (.bool J) (by cases J<;>rfl) (fun h=>by obtain rfl:=bF h;exact fun _ _ _=>by kernel_rfl) ?_
    refine og 56 (!J&&aa) (.map (some aC)) ((bif !J then .bool aa else undef)) (by cases J<;>cases aa<;>rfl) (fun h=>by obtain⟨rfl,rfl⟩:=sD h;exact fun _ _ _=>by kernel_rfl) ?_
    refine og 56 (!J&&aa) (.slice aB (R.l.length) aJ) ((bif !J then .bool aa else undef)) (by cases J<;>cases aa<;>rfl) (fun h=>by obtain⟨rfl,rfl⟩:=sD h;exact fun _ _ _=>by kernel_rfl) ?_
    refine og 56 (!J&&aa) (iN (.ofNat I)) ((bif !J then .bool aa else undef)) (by cases J<;>cases aa<;>rfl) (fun h=>by obtain⟨rfl,rfl⟩:=sD h;exact fun _ _ _=>by kernel_rfl) ?_
    refine og 56 (!J&&aa) (iN (.ofNat (I-1))) ((bif !J then .bool aa else undef)) (by cases J<;>cases aa<;>rfl) (fun h=>by obtain⟨rfl,rfl⟩:=sD h;have eb:=nf bt;have ec:=(bu).1 rfl;exact fun _ _ _=>by rw[<-Av (show I<9223372036854775808 by omega) om];kernel_rfl) ?_
    have bR:(!J&&aa)=true->I-1<R.l.length:=fun h=>by obtain⟨rfl,rfl⟩:J=false/\aa=true:=(by simpa[and_assoc]using h);have eb:¬((¬(((ag.jf)=(1))↔(((I:Nat):Int)=(0))))\/(¬(((ag.jf)=(3))↔(((I:Nat):Int)=(z))))):=(fun k=>absurd ((bt).2 k) (by decide));have ec:=(bu).1 rfl;omega
    refine wq 56 (!J&&aa) (pt (gb aB) (0+(I-1)*1)) ((bif !J then .bool aa else undef)) (by cases J<;>cases aa<;>rfl) (fun h=>by obtain⟨rfl,rfl⟩:=sD h;exact WC.iy aI ar (I-1) lD kj ((bR rfl)) rfl) ?_
    obtain⟨ai,aV⟩:∃bL,R.l[I-1]?=some bL:=⟨_,List.getElem?_eq_getElem om⟩
    refine wq 56 (!J&&aa) (iN ai) ((bif !J then .bool aa else undef)) (by cases J<;>cases aa<;>rfl) (fun h=>by obtain⟨rfl,rfl⟩:=sD h;exact WC.lz (iN ai) aI (ar.mono aZ bH) aV rfl fP rfl) ?_
    refine og 56 (!J&&aa) (iN ae) ((bif !J then .bool aa else undef)) (by cases J<;>cases aa<;>rfl) (fun h=>by obtain⟨rfl,rfl⟩:=sD h;exact fun _ _ _=>by kernel_rfl) ?_
    refine og 56 (!J&&aa) (.agg ⟨[iN ai,iN ae]⟩) ((bif !J then .bool aa else undef)) (by cases J<;>cases aa<;>rfl) (fun h=>by obtain⟨rfl,rfl⟩:=sD h;exact fun _ _ _=>by kernel_rfl) ?_
    obtain⟨bf,cR,dR⟩:=@nb (@decide ((⟨ai,ae⟩:lZ)∈au) (Classical.propDecidable _)) ((⟨ai,ae⟩:lZ)∈au) (@decide_eq_true_iff _ (Classical.propDecidable _))
    refine wq 56 (!J&&aa) (.bool bf) ((bif !J then .bool aa else undef)) (by cases J<;>cases aa<;>rfl) (fun h=>by obtain⟨rfl,rfl⟩:=sD h;exact WC.opt (v:=.bool bf) 65 (o8 ex.T ak.get 245 (.map (some aC)) ((fun x:lZ=>.agg (pL x).toArray) (⟨ai,ae⟩:lZ)) false) kf (uO (hp:=ak.get) IC IB O4 bs cu (⟨ai,ae⟩:lZ) cR) rfl) ?_
    obtain⟨bg,cS,dS⟩:=@nb (!bf) (¬((⟨ai,ae⟩:lZ)∈au)) (by rw[Bool.not_eq_true',<-Bool.not_eq_true,dR])
    refine og 56 (!J&&aa) (.bool bg) ((bif !J then .bool aa else undef)) (by cases J<;>cases aa<;>rfl) (fun h=>by obtain⟨rfl,rfl⟩:=sD h;exact fun _ _ _=>by subst cS;kernel_rfl) ?_
    obtain⟨aM,cT,dT⟩:=@nb ((aa&&bg)) (((0)<((I:Nat):Int))/\(¬((⟨ai,ae⟩:lZ)∈au))) (by rw[Bool.and_eq_true,bu,dS])
    refine wq 53 (!J) (.bool aM) (.bool J) (by cases J<;>rfl) (fun h=>by obtain rfl:=bF h;exact WC.opt (v:=.bool aM) 67 (lA (.bool aa) ((bif !false&&aa then .bool bg else undef)) (.bool false)) kf (by rw[cT];exact s_ (fun h=>by obtain rfl:aa=true:=h;rfl)) rfl) ?_
    obtain⟨cE,cU,dU⟩:=@nb ((J||aM)) (((¬(((ag.jf)=(1))↔(((I:Nat):Int)=(0))))\/(¬(((ag.jf)=(3))↔(((I:Nat):Int)=(z)))))\/(((0)<((I:Nat):Int))/\(¬((⟨ai,ae⟩:lZ)∈au)))) (by rw[Bool.or_eq_true,bt,dT])
    refine WO.cons (WC.opt (v:=.bool cE) 68 (lA (.bool J) (.bool true) ((bif !J then .bool aM else undef))) kf (by rw[cU];exact lE (fun h=>by obtain rfl:J=false:=h;rfl)) ?_)
    refine WO.nil ?_
    refine cq dU (fun bz=>?_) (fun bz=>?_)
    ·
     refine sr ?_
     refine ov 6 (.bool false) ?_
     refine WO.nil ?_
     refine WP.ret ⟨rfl,rfl,[.bool false],kr,?_⟩
     refine⟨⟨false,rfl,fun h=>(by cases h),fun h=>absurd (h.1.1.2 I (by rw[<-aq];omega)) (fun k=>k ?_)⟩,ah,aj⟩
     rw[<-aq];refine⟨ae,ag,al,by rw[<-a7];exact aU,?_⟩
     rcases bz with(h3|h3)|⟨h3,h4⟩
     · exact .inl (.inl h3)
     · exact .inl (.inr (by rw[<-cy];exact h3))
     · exact .inr ⟨h3,ai,aV,h4⟩
    ·
     refine WP.skip ?_
     refine WP.region ?_
     refine WO.cons (WC.jX (U+1) (0) (.map (some U)) kr Hh aA rfl ?_)
     refine ov 70 (iN ae) ?_
     refine WO.cons (WC.opt (v:=iN (.ofNat ((pg R.l I) ae))) 71 (o8 ex.T ak.get 326 (.map (some U)) ((fun x:Int=>iN x) ae) false) kf (B3 (hp:=ak.get) (f:=(pg R.l I)) IG Lh XK az aO E_ ae) ?_)
     have eO:(pg R.l I) ae<=R.l.length:=Wi _ _ _
     refine ov 72 (iN (.ofNat (((pg R.l I) ae)+1))) ?_ (fun _ _ _=>by rw[<-gU (show((pg R.l I) ae)+1<9223372036854775808 by omega)];kernel_rfl)
     refine WO.cons (WC.mapUpdate (g:=(fun z=>iN (.ofNat ((pg R.l I) z)))) (g':=(fun z=>iN (.ofNat ((pg R.l (I+1)) z)))) U ae (iN (.ofNat (((pg R.l I) ae)+1))) rfl kr kr kr IG Lh az aO (qL _) (Ss al) (fun z cp=>QD al cp) ?_)
     rintro b9 cF eG bB cc ay cb
     have b_:=aj.trans bB om
     have cn:=aZ.trans bB om
     have cd:=(ay aC om).trans bs
     have cf:=(ay nx om).trans aX
     have ch:=(ay (nx+1) om).trans aY
     have cj:=(ay (U+1) om).trans aA
     refine WO.nil ?_
     refine WP.region ?_
     refine ov 73 (iN (.ofNat (I+1))) ?_ (fun _ _ _=>by rw[<-gU (show I+1<9223372036854775808 by omega)];kernel_rfl)
     refine ov 29 (iN (.ofNat (I+1))) ?_
     refine WO.nil ?_
     refine⟨R.l.length-(I+1),om,rfl,rfl,I+1,b9,cF,om,kr,?_,?_,?_,?_,?_,?_,?_,?_,?_,?_⟩
     · exact aH
     · exact b_
     · exact cd
     · exact cf
     · exact ch
     · exact cc
     · exact cj
     · exact cn
     · intro j hj;rcases Nat.lt_succ_iff_lt_or_eq.1 hj with hj|rfl
       · exact hinv j hj
       · rintro ⟨m,k,h1,h2,h3⟩
         rw[al]at h1;cases h1
         rw[<-a7,aU]at h2;cases h2
         refine bz ?_
         rcases h3 with(h3|h3)|⟨h3,q,h4,eM⟩
         · exact .inl (.inl h3)
         · exact .inl (.inr (by rw[cy];exact h3))
         · rw[aV]at h4;cases h4;exact .inr ⟨h3,eM⟩
     · rw[Ox al];exact cb
   ·
    refine WP.exit ?_
    refine WP.seq ?_
    refine sr ?_
    have bA:∀z,pg R.l I z=List.count z R.l:=Uy om
    have eE:R.l.take I=R.l:=List.take_of_length_le om
    obtain⟨eR,ew⟩:∃r,R.l[0]?=some r:=⟨_,List.getElem?_eq_getElem (by have:=b6;omega)⟩
    have eN:=cw eR (List.mem_of_getElem? ew)
    have ep:=c7.1.1.2
    have eU:=ax.iB.2.2
    rw[Hg om]at ep
    refine ov 74 (pt (nx+1) (0+4)) ?_
    refine WO.cons (WC.jX (nx+1) (0+4) (iN d.jO) kr fP aY rfl ?_)
    refine ov 13 (iN d.jO) ?_
    refine WO.nil ?_
    refine sr ?_
    refine ov 76 (iN d.jO) ?_
    obtain⟨o,cV,bw⟩:=@nb (DA (0) (d.jO)) ((0)<=(d.jO)) (yC)
    refine ov 77 (.bool o) ?_ (fun _ _ _=>by subst cV;kernel_rfl)
    refine ov 78 (.bool o) ?_
    refine wq 78 (o) (.map (some U)) (.bool o) (by cases o<;>rfl) (fun h=>by obtain rfl:=h;exact WC.jX (U+1) (0) (.map (some U)) kr Hh aA rfl rfl) ?_
    refine og 78 (o) (iN d.jO) (.bool o) (by cases o<;>rfl) (fun h=>by obtain rfl:=h;exact fun _ _ _=>by kernel_rfl) ?_
    refine wq 78 (o) (iN (.ofNat ((pg R.l I) (d.jO)))) (.bool o) (by cases o<;>rfl) (fun h=>by obtain rfl:=h;exact WC.opt (v:=iN (.ofNat ((pg R.l I) (d.jO)))) 81 (o8 ex.T ak.get 326 (.map (some U)) ((fun x:Int=>iN x) (d.jO)) false) kf (B3 (hp:=ak.get) (f:=(pg R.l I)) IG Lh XK az aO E_ (d.jO)) rfl) ?_
    obtain⟨ab,cW,bx⟩:=@nb (km (.ofNat ((pg R.l I) (d.jO))) (0)) (((((pg R.l I) (d.jO)):Nat):Int)=(0)) (lH)
    refine og 78 (o) (.bool ab) (.bool o) (by cases o<;>rfl) (fun h=>by obtain rfl:=h;exact fun _ _ _=>by subst cW;kernel_rfl) ?_
    refine og 78 (o) (.bool ab) (.bool o) (by cases o<;>rfl) (fun h=>by obtain rfl:=h;exact fun _ _ _=>by kernel_rfl) ?_
    refine og 83 (o&&!ab) (pt nx (0+1)) ((bif o then .bool ab else undef)) (by cases o<;>cases ab<;>rfl) (fun h=>by obtain⟨rfl,rfl⟩:=xQ h;exact fun _ _ _=>by kernel_rfl) ?_
    obtain⟨a159,bI,aT⟩:=ax.iB.shape
    have ez:=ax.iB.2.2
    refine wq 83 (o&&!ab) (.slice a159 (C.iB.l.length) bI) ((bif o then .bool ab else undef)) (by cases o<;>cases ab<;>rfl) (fun h=>by obtain⟨rfl,rfl⟩:=xQ h;exact WC.jX nx (0+1) (.slice a159 (C.iB.l.length) bI) kr we aX (by rw[<-aT];rfl) rfl) ?_
    obtain⟨kx,bQ⟩:∃k:Nat,k=(d.jO).toNat:=⟨_,rfl⟩
    have dx:0<=d.jO->d.jO=.ofNat kx:=fun h=>by rw[bQ];exact(Int.toNat_of_nonneg h).symm
    have dy:kx<C.iB.l.length:=by omega
    refine og 83 (o&&!ab) (iN (.ofNat kx)) ((bif o then .bool ab else undef)) (by cases o<;>cases ab<;>rfl) (fun h=>by obtain⟨rfl,rfl⟩:=xQ h;have eb:=(bw).1 rfl;have ec:=nf bx;exact fun _ _ _=>by rw[<-dx om];kernel_rfl) ?_
    have a_:(o&&!ab)=true->kx<C.iB.l.length:=fun h=>by obtain⟨rfl,rfl⟩:o=true/\ab=false:=(by simpa[and_assoc]using h);have eb:=(bw).1 rfl;have ec:¬(((((pg R.l I) (d.jO)):Nat):Int)=(0)):=(fun k=>absurd ((bx).2 k) (by decide));exact dy
    refine wq 83 (o&&!ab) (pt (gb a159) (0+(kx)*2)) ((bif o then .bool ab else undef)) (by cases o<;>cases ab<;>rfl) (fun h=>by obtain⟨rfl,rfl⟩:=xQ h;exact WC.iy aT ax.iB (kx) CJ xq ((a_ rfl)) rfl) ?_
    refine og 83 (o&&!ab) (pt (gb a159) (0+(kx)*2+1)) ((bif o then .bool ab else undef)) (by cases o<;>cases ab<;>rfl) (fun h=>by obtain⟨rfl,rfl⟩:=xQ h;exact fun _ _ _=>by kernel_rfl) ?_
    obtain⟨ao,aW⟩:∃bL,C.iB.l[kx]?=some bL:=⟨_,List.getElem?_eq_getElem om⟩
    refine wq 83 (o&&!ab) (iN ao.jf) ((bif o then .bool ab else undef)) (by cases o<;>cases ab<;>rfl) (fun h=>by obtain⟨rfl,rfl⟩:=xQ h;exact WC.sC (gb a159) (0+(kx)*2+1) (iN ao.jf) kr fP ((ax.iB.mono aj ah).pq aT (zl ((a_ rfl)))) (pF (ax.iB.mono aj ah).1 aW (by decide) rfl) rfl) ?_
    obtain⟨bh,cX,dV⟩:=@nb ((!(km (ao.jf) (2)))) ((ao.jf)≠(2)) (Fu)
    refine og 83 (o&&!ab) (.bool bh) ((bif o then .bool ab else undef)) (by cases o<;>cases ab<;>rfl) (fun h=>by obtain⟨rfl,rfl⟩:=xQ h;exact fun _ _ _=>by subst cX;kernel_rfl) ?_
    obtain⟨ad,cY,dW⟩:=@nb ((ab||bh)) ((((((pg R.l I) (d.jO)):Nat):Int)=(0))\/((ao.jf)≠(2))) (by rw[Bool.or_eq_true,bx,dV])
    refine wq 78 (o) (.bool ad) (.bool o) (by cases o<;>rfl) (fun h=>by obtain rfl:=h;exact WC.opt (v:=.bool ad) 91 (lA (.bool ab) (.bool true) ((bif true&&!ab then .bool bh else undef))) kf (by rw[cY];exact lE (fun h=>by obtain rfl:ab=false:=h;rfl)) rfl) ?_
    refine og 78 (o) (.bool ad) (.bool o) (by cases o<;>rfl) (fun h=>by obtain rfl:=h;exact fun _ _ _=>by kernel_rfl) ?_
    refine og 92 (o&&!ad) (.map (some aC)) ((bif o then .bool ad else undef)) (by cases o<;>cases ad<;>rfl) (fun h=>by obtain⟨rfl,rfl⟩:=xQ h;exact fun _ _ _=>by kernel_rfl) ?_
    refine og 92 (o&&!ad) (iN d.jO) ((bif o then .bool ad else undef)) (by cases o<;>cases ad<;>rfl) (fun h=>by obtain⟨rfl,rfl⟩:=xQ h;exact fun _ _ _=>by kernel_rfl) ?_
    refine og 92 (o&&!ad) (iN d.jO) ((bif o then .bool ad else undef)) (by cases o<;>cases ad<;>rfl) (fun h=>by obtain⟨rfl,rfl⟩:=xQ h;exact fun _ _ _=>by kernel_rfl) ?_
    refine og 92 (o&&!ad) (.agg ⟨[iN d.jO,iN d.jO]⟩) ((bif o then .bool ad else undef)) (by cases o<;>cases ad<;>rfl) (fun h=>by obtain⟨rfl,rfl⟩:=xQ h;exact fun _ _ _=>by kernel_rfl) ?_
    obtain⟨bj,cZ,dX⟩:=@nb (@decide ((⟨d.jO,d.jO⟩:lZ)∈au) (Classical.propDecidable _)) ((⟨d.jO,d.jO⟩:lZ)∈au) (@decide_eq_true_iff _ (Classical.propDecidable _))
    refine wq 92 (o&&!ad) (.bool bj) ((bif o then .bool ad else undef)) (by cases o<;>cases ad<;>rfl) (fun h=>by obtain⟨rfl,rfl⟩:=xQ h;exact WC.opt (v:=.bool bj) 97 (o8 ex.T ak.get 245 (.map (some aC)) ((fun x:lZ=>.agg (pL x).toArray) (⟨d.jO,d.jO⟩:lZ)) false) kf (uO (hp:=ak.get) IC IB O4 bs cu (⟨d.jO,d.jO⟩:lZ) cZ) rfl) ?_
    obtain⟨bk,c0,dY⟩:=@nb (!bj) (¬((⟨d.jO,d.jO⟩:lZ)∈au)) (by rw[Bool.not_eq_true',<-Bool.not_eq_true,dX])
    refine og 92 (o&&!ad) (.bool bk) ((bif o then .bool ad else undef)) (by cases o<;>cases ad<;>rfl) (fun h=>by obtain⟨rfl,rfl⟩:=xQ h;exact fun _ _ _=>by subst c0;kernel_rfl) ?_
    obtain⟨aN,c3,dZ⟩:=@nb ((ad||bk)) (((((((pg R.l I) (d.jO)):Nat):Int)=(0))\/((ao.jf)≠(2)))\/(¬((⟨d.jO,d.jO⟩:lZ)∈au))) (by rw[Bool.or_eq_true,dW,dY])
    refine wq 78 (o) (.bool aN) (.bool o) (by cases o<;>rfl) (fun h=>by obtain rfl:=h;exact WC.opt (v:=.bool aN) 99 (lA (.bool ad) (.bool true) ((bif true&&!ad then .bool bk else undef))) kf (by rw[c3];exact lE (fun h=>by obtain rfl:ad=false:=h;rfl)) rfl) ?_
    obtain⟨cG,c5,d_⟩:=@nb ((o&&aN)) (((0)<=(d.jO))/\(((((((pg R.l I) (d.jO)):Nat):Int)=(0))\/((ao.jf)≠(2)))\/(¬((⟨d.jO,d.jO⟩:lZ)∈au)))) (by rw[Bool.and_eq_true,bw,dZ])
    refine WO.cons (WC.opt (v:=.bool cG) 100 (lA (.bool o) ((bif o then .bool aN else undef)) (.bool false)) kf (by rw[c5];exact s_ (fun h=>by obtain rfl:o=true:=h;rfl)) ?_)
    refine WO.nil ?_
    refine cq d_ (fun a6=>?_) (fun a6=>?_)
    ·
     refine sr ?_
     refine ov 6 (.bool false) ?_
     refine WO.nil ?_
     refine WP.ret ⟨rfl,rfl,[.bool false],kr,?_⟩
     refine⟨⟨false,rfl,fun h=>(by cases h),fun h=>absurd ?_ h.1.2⟩,ah,aj⟩
     rw[<-aq];exact⟨a6.1,ao,by rw[<-bQ];exact aW,by have h2:=a6.2;rwa[bA]at h2⟩
    ·
     refine WP.skip ?_
     refine sr ?_
     refine ov 101 (pt (nx+1) (0+3)) ?_
     obtain⟨a173,cH,bD⟩:=hd.jr.shape
     have eA:=hd.jr.2.2
     refine WO.cons (WC.jX (nx+1) (0+3) (.slice a173 (d.jr.l.length) cH) kr yN aY (by rw[<-bD];rfl) ?_)
     refine ov 103 (.func (.func 205) #[] #[pt (U+1) 0]) ?_
     refine WO.cons (WC.call 104 183 ([d.jr.v,.func (.func 205) #[] #[pt (U+1) 0]]) (fun _ _ _=>by(try rw[bD]);kernel_rfl) ((E5 (fun x:ou=>x.AV<=(((pg R.l I) x.iX:Nat):Int)) d.jr 205 #[pt (U+1) 0] ak (dJ) (hd.jr.mono aj ah) (fun i x hx fe fg hn he=>Oy _ (pg R.l I) x (U+1) U _ _ fe fg (he.get aA bG) (Nat.lt_of_lt_of_le bG hn) (he.get az bE) (Nat.lt_of_lt_of_le bE hn) aO E_)).mono ?_))
     rintro _ eH eK ⟨⟨bn,rfl,ea⟩,cm,ck⟩
     have ca:=aj.trans ck ah
     have cr:=Nat.le_trans ah cm
     refine ov 6 (.bool bn) ?_
     refine WO.nil ?_
     refine WP.ret ⟨rfl,rfl,[.bool bn],kr,?_⟩
     refine⟨⟨bn,rfl,ea.trans ⟨fun h=>⟨⟨⟨by rw[<-aq];have:=b6;omega,fun j hj=>by rw[<-aq]at hj⊢;exact hinv j om⟩,?_⟩,fun x hx=>by have h:=h x hx;simp only[bA]at h;rw[<-aq];exact h⟩,fun h x hx=>by have h:=h.2 x hx;rw[<-aq]at h;simp only[bA];exact h⟩⟩,cr,ca⟩
     rw[<-aq];rintro ⟨h1,k,h2,h3⟩;rw[<-bQ,aW]at h2;cases h2;exact a6 ⟨h1,by rw[bA];exact h3⟩
  ·
   exact⟨0,([]:List MapEntry),0,om,kr,Nat.le_refl _,c_,dt,du,dv,dw,dr,dD,(fun j h=>absurd h (Nat.not_lt_zero _)),(show kK _ (kZ (R.l.take 0)) _ _ from kK.nil)⟩
end
end Sw
namespace Sw
noncomputable section
open Go Go.Proofs Go.RowKit
set_option maxRecDepth 100000
set_option maxHeartbeats 1600000
theorem B5.Zh{C:j7}(h:B5 C):∀x∈C.fE.l,(BD (gD .i64 ((.ofNat (C.iB.l.length))-(1)))) x:=h.1.1.1.1.1.1.1.1.1.1.2
section
variable {C:j7}
theorem Uz(h:¬vA C):mr C=2:=if_pos h
theorem Sx(h:¬¬vA C)(h2:¬Bb C):mr C=70:=(if_neg h).trans (if_pos h2)
theorem Sy(h:¬¬vA C)(h2:¬¬Bb C)(h3:¬B5 C):mr C=71:=(if_neg h).trans ((if_neg h2).trans (if_pos h3))
theorem UA(h:¬¬vA C)(h2:¬¬Bb C)(h3:¬¬B5 C)(h4:qg (C.nH.l.map .step)≠0):mr C=qg (C.nH.l.map .step):=(if_neg h).trans ((if_neg h2).trans ((if_neg h3).trans (if_pos h4)))
theorem Sz(h:¬¬vA C)(h2:¬¬Bb C)(h3:¬¬B5 C)(h4:¬qg (C.nH.l.map .step)≠0)(j:¬∀d∈C.fE.l,(CO C (IH C)) d):mr C=72:=(if_neg h).trans ((if_neg h2).trans ((if_neg h3).trans ((if_neg h4).trans (if_pos j))))
theorem UB(h:¬¬vA C)(h2:¬¬Bb C)(h3:¬¬B5 C)(h4:¬qg (C.nH.l.map .step)≠0)(j:¬¬∀d∈C.fE.l,(CO C (IH C)) d):mr C=0:=(if_neg h).trans ((if_neg h2).trans ((if_neg h3).trans ((if_neg h4).trans (if_neg j))))
end
theorem NB:ex.T.agg 245=some false:=kr
theorem wk:ex.T.agg 33=some true:=kr
theorem SA:ex.T.size 245=some 1:=kr
theorem uw:ex.T.size 33=some 16:=kr
theorem SB:ex.T.zero 245=some (.map none):=kr
theorem QF(C:j7)(d:j5)(J I j aa:Nat)(ab:List MapEntry)(o:List lZ)(ao:BD (gD .i64 ((.ofNat (C.iB.l.length))-(1))) d)(hH:tE 17 d.jI.l)(hp:Ht)(nx:Nat)(an:oJ hp nx C)(hd:lO hp nx d)(ag:hp.get J=some (.cells (iz C) gl.plain))(aj:J<nx)(af:hp.get I=some (.cells [.map (some j)] gl.plain))(ai:I<nx)(ah:hp.get j=some (.map ab aa))(ak:j<nx)(ad:kK (fun x:lZ=>.agg (pL x).toArray) o (fun _=>.bool true) ab)(ae:o.Nodup):WF ex 101 [.agg (iI d).toArray,pt J 0,pt I 0] hp nx (fO nx hp (gk (CO C o d))):=by
 refine wd Tryz.f101 9 [.tmp 4] fun hE=>sr<|oB (.agg (iI d).toArray) (iI d) fun jN iY iA=>?_
 have l_:=hE.trans iY
 refine oN 1<|sr<|WO.cons (WC.jb J (0) (iz C) kr wk uw (iY.get ag aj) rfl<|WO.cons (WC.jb nx (0) (iI d) kr yQ nQ iA rfl<|oZ I (0) (.map (some j)) NB (iY.get af ai) rfl<|WO.cons (WC.call 8 102 ([.agg (iz C).toArray,.agg (iI d).toArray,.map (some j)]) kf ((QE C d j _ _ o ao hH jN (nx+1) (an.mono l_) (hd.mono l_) (iY.get ah ak) om ad ae).mono ?_))))
 rintro _ ar au ⟨⟨R,rfl,al⟩,aq,U⟩
 refine oW 1 ⟨rfl,rfl,[.bool R],kr,?_⟩
 refine⟨⟨R,rfl,?_⟩,od,(l_.trans U)⟩
 exact al
theorem SC(pP:x_)(qt:wh)(C:j7)(hp:Ht)(nx:Nat)(o:oJ hp nx C)(hlen:C.nH.l.length<=2932031007403):WF ex 52 [.agg (iz C).toArray] hp nx (fO nx hp (fun v=>v=iN (mr C))):=by
 refine wd Tryz.f52 44 [.tmp 2] fun hE=>sr<|oB (.agg (iz C).toArray) (iz C) fun jN iY iA=>?_
 have l_:=hE.trans iY
 refine oN 1<|WP.seq<|WP.block<|sr<|WO.cons (WC.jb nx (0) (iz C) kr wk uw iA rfl<|WO.cons (WC.call 8 96 ([.agg (iz C).toArray]) kf ((V_ C jN (nx+1) (o.mono l_)).mono ?_)))
 rintro _ bo bq ⟨⟨ow,rfl,sj⟩,bQ,aD⟩
 have ae:=l_.trans aD
 have az:=aD.get iA
 refine oq 9 (nN sj) fun bY br=>oN 1<|cq br (fun bx=>?_) (fun bx=>?_)
 ·
  refine sr<|oW 1 ⟨rfl,rfl,[iN 2],kr,?_⟩
  exact⟨congrArg (Value.int .i64) (show mr C=2 from Uz (by assumption)).symm,od,ae⟩
 ·
  refine sr<|WO.cons (WC.jb nx (0) (iz C) kr wk uw az rfl<|WO.cons (WC.call 12 97 ([.agg (iz C).toArray]) kf ((Ue pP qt C bo (bq) (o.mono ae)).mono ?_)))
  rintro _ a7 bc ⟨⟨uB,rfl,uC⟩,bR,aE⟩
  have af:=ae.trans aE
  have aA:=aE.get az
  refine oq 13 (nN uC) fun bZ bs=>oN 1<|cq bs (fun bz=>?_) (fun bz=>?_)
  ·
   refine sr<|oW 1 ⟨rfl,rfl,[iN 70],kr,?_⟩
   exact⟨congrArg (Value.int .i64) (show mr C=70 from Sx (by assumption) (by assumption)).symm,od,af⟩
  ·
   refine sr<|WO.cons (WC.jb nx (0) (iz C) kr wk uw aA rfl<|WO.cons (WC.call 16 98 ([.agg (iz C).toArray]) kf ((QB C (Pb (Classical.not_not.1 (by assumption:¬¬vA C))) a7 (bc) (o.mono af)).mono ?_)))
   rintro _ a8 bd ⟨⟨b0,rfl,bt⟩,bS,aF⟩
   have ag:=af.trans aF
   have aB:=aF.get aA
   refine oq 17 (nN bt) fun b3 bu=>oN 1<|cq bu (fun bA=>?_) (fun bA=>?_)
   ·
    refine sr<|oW 1 ⟨rfl,rfl,[iN 71],kr,?_⟩
    exact⟨congrArg (Value.int .i64) (show mr C=71 from Sy (by assumption) (by assumption) (by assumption)).symm,od,ag⟩
   ·
    refine WP.skip<|WP.seq<|sr<|oX 1 ?_
    obtain⟨a44,bl,aH⟩:=o.nH.1.shape
    have bJ:=o.nH.1.2.2
    refine oZ nx (0+8) (.slice a44 (C.nH.l.length) bl) uN aB (by rw[<-aH];rfl)<|WO.cons (WC.call 20 99 ([C.nH.v]) (fun _ _ _=>by(try rw[aH]);kernel_rfl) ((Wh C.nH a8 (bd) (o.nH.mono (fun _ h he hn=>h.mono he hn) ag) hlen).mono ?_))
    rintro _ qq pd ⟨rfl,Dh,oO⟩
    have ax:=ag.trans oO
    refine oN 1<|sr<|oX 1 ?_
    refine oq 22 (qW (qg (C.nH.l.map .step)) 0) fun b4 bw=>WO.nil<|cq bw (fun bB=>?_) (fun bB=>?_)
    ·
     refine sr<|oW 2 ⟨rfl,rfl,[iN (qg (C.nH.l.map .step))],kr,?_⟩
     exact⟨congrArg (Value.int .i64) (show mr C=qg (C.nH.l.map .step)from UA (by assumption) (by assumption) (by assumption) (by assumption)).symm,od,ax⟩
    ·
     refine WP.skip<|sr<|WO.cons (WC.makeMap rfl ?_)
     obtain⟨bU,aI,qu,aV⟩:=mapped qq (pd) (.map [] 0)
     rw[aI];clear aI
     refine oA [.map none] SB fun bV ah aW=>?_
     refine oS (pd+1) (0) (.map (some pd)) [.map (some pd)] [.map (some pd)] SA rfl rfl aW fun bW aY aX aG=>?_
     have aC:=(aG nx om).trans (ah.get (qu.get (oO.get aB)))
     refine WO.nil<|WP.seq<|sr<|oX 1 ?_
     obtain⟨aQ,aR,ai⟩:=o.jP.shape
     have bK:=o.jP.2.2
     refine oZ nx (0+2) (.slice aQ (C.jP.l.length) aR) CF aC (by rw[<-ai];rfl)<|oN 2<|WP.block ?_
     refine my [1,3,26,27,28] (fun m hs ns vs=>∃(j:Nat) (ad:List MapEntry) (aw:Nat),j+m=C.jP.l.length/\vs=[pt nx 0,pt (pd+1) 0,.slice aQ (C.jP.l.length) aR,iN (.ofNat (C.jP.l.length)),iN (.ofNat j)]/\pd+1+1<=ns/\HE nx hp hs/\hs.get nx=some (.cells (iz C) gl.plain)/\hs.get pd=some (.map ad aw)/\hs.get (pd+1)=some (.cells [.map (some pd)] gl.plain)/\(kK (fun x:lZ=>.agg (pL x).toArray) (kZ ((C.jP.l.take j).map xy)) (fun _=>.bool true) ad)) ?_ (C.jP.l.length) ?_
     ·
      rintro bX a_ aa _ ⟨j,ad,aw,bC,rfl,bT,J,aj,au,av,ay⟩ bM
      refine sr ?_
      refine oq 29 (kV j C.jP.l.length) fun bN bf=>WO.nil<|WP.seq<|cq bf (fun bj=>?_) (fun bj=>?_)
      ·
       refine WP.skip<|WP.seq<|WP.block<|sr ?_
       have ab:j<C.jP.l.length:=by omega
       refine WO.cons (WC.iy ai o.jP (j) Ju tk (ab) ?_)
       obtain⟨I,ar⟩:=gE ab
       refine WO.cons (WC.ly ai (o.jP.mono J nR) ar Bd tk<|oA [iN 0,iN 0,iN 0,iN 0] Kp fun bE R aL=>?_)
       refine oS aa (0) (.agg (mi I).toArray) (mi I) (mi I) tk rfl rfl aL fun bG aN al U=>?_
       have an:=(U (pd+1) om).trans (R.get av)
       refine WO.nil<|WP.region<|oZ (pd+1) (0) (.map (some pd)) NB an rfl<|oX 1<|oZ aa 0 (iN I.lC) fP al rfl<|oX 1<|oZ aa (0+1) (iN I.pI) fP al rfl<|oX 1<|WO.cons (WC.mapUpdate (g:=(fun _=>.bool true)) (g':=(fun _=>.bool true)) pd (⟨I.lC,I.pI⟩:lZ) (.bool true) rfl kr kr kr IC IB ((U pd om).trans (R.get au)) ay (qL _) rfl (fun _ _=>rfl) ?_)
       rintro aJ aT bH aO aM ao aK
       refine WO.nil<|WP.region<|ov 38 (iN (.ofNat (j+1))) ?_ (fun _ _ _=>by rw[<-gU (show j+1<9223372036854775808 by omega)];kernel_rfl)
       refine oN 1<|⟨C.jP.l.length-(j+1),om,rfl,rfl,j+1,aJ,aT,om,kr,?_,?_,?_,?_,?_,?_⟩
       · exact od
       · exact(((J.trans R).trans aN).trans aO)
       · exact((ao nx om).trans ((U nx om).trans (R.get aj)))
       · exact aM
       · exact((ao (pd+1) om).trans an)
       · rw[uu ar];exact aK
      ·
       refine WP.exit<|WP.seq<|sr<|oX 1 ?_
       obtain⟨a146,aU,aq⟩:=o.fE.1.shape
       have bp:=o.fE.1.2.2
       refine oZ nx (0+3) (.slice a146 (C.fE.l.length) aU) rI aj (by rw[<-aq];rfl)<|oX 1 ?_
       have bn:C.jP.l.take j=C.jP.l:=List.take_of_length_le om
       have aS:=ay
       rw[bn]at aS
       have aZ:=Pb (Classical.not_not.1 (by assumption:¬¬vA C))
       have a6:=B5.Zh (Classical.not_not.1 (by assumption:¬¬B5 C))
       refine WO.cons (WC.call 42 100 ([C.fE.v,.func (.func 101) #[] #[pt nx 0,pt (pd+1) 0]]) (fun _ _ _=>by(try rw[aq]);kernel_rfl) ((CL (CO C (IH C)) C.fE 101 #[pt nx 0,pt (pd+1) 0] a_ (aa) (o.fE.mono (fun _ h he hn=>h.mono he hn) J) (fun i x hx fe fg hn he=>QF C x nx (pd+1) pd _ _ (IH C) (a6 x (List.mem_of_getElem? hx)) (aZ x (List.mem_of_getElem? hx)) fe fg ((o.mono J).mono he hn) (((o.fE.mono (fun _ h he hn=>h.mono he hn) J om).2 x (List.mem_of_getElem? hx)).mono he hn) (he.get aj) (Nat.lt_of_lt_of_le om hn) (he.get av) (Nat.lt_of_lt_of_le om hn) (he.get au) (Nat.lt_of_lt_of_le om hn) aS (qL _))).mono ?_))
       rintro _ bI bL ⟨⟨bO,rfl,bg⟩,bD,aP⟩
       have ak:=J.trans aP
       refine oq 43 (nN bg) fun bP bh=>WO.nil<|cq bh (fun bk=>?_) (fun bk=>?_)
       ·
        refine sr<|oW 1 ⟨rfl,rfl,[iN 72],kr,?_⟩
        exact⟨congrArg (Value.int .i64) (show mr C=72 from Sz (by assumption) (by assumption) (by assumption) (by assumption) (by assumption)).symm,od,ak⟩
       ·
        refine WP.skip<|sr<|oW 1 ⟨rfl,rfl,[iN 0],kr,?_⟩
        exact⟨congrArg (Value.int .i64) (show mr C=0 from UB (by assumption) (by assumption) (by assumption) (by assumption) (by assumption)).symm,od,ak⟩
     ·
      exact⟨0,([]:List MapEntry),0,om,kr,Nat.le_refl _,(((ax.trans qu).trans ah).trans aY),aC,((aG pd om).trans (ah.get aV)),aX,(show kK _ (kZ ((C.jP.l.take 0).map xy)) _ _ from kK.nil)⟩
end
end Sw
namespace Sw
noncomputable section
open Go Go.Proofs Go.RowKit
set_option maxRecDepth 100000
set_option maxHeartbeats 1600000
theorem Zi{K:SV Int}{hp:Ht}{nx l:Nat}(h:gA encI 1 hp nx K)(hl:l<=K.l.length):∃a c,vw K.v 1 0 l=.slice a l c/\K.v=.slice a K.l.length c/\kY 8 (.slice a l c) (.slice a l c)=true:=by
 have j:=Xw 8 K.v 1 0 l
 rcases h.2.1 with⟨h1,h2|⟨q,h2⟩⟩|⟨b,cap,m,h1,_⟩
 · rw[h1]at hl⊢;obtain rfl:l=0:=by simpa using hl
   rw[h2]at j⊢;exact⟨none,0,rfl,rfl,j⟩
 · rw[h1]at hl⊢;obtain rfl:l=0:=by simpa using hl
   rw[h2]at j⊢;exact⟨_,0,rfl,rfl,j⟩
 · rw[h1]at j⊢;exact⟨_,cap,rfl,rfl,j⟩
def uF(L:List Int):Prop:=(∀b∈L,1<=b/\b<=9999)/\L.Nodup
theorem SD{l:List Int}{i:Nat}{x:Int}(hx:l[i]?=some x)(h:uF (l.take i))(q:¬((x<1\/9999<x)\/x∈l.take i)):uF (l.take (i+1)):=by
 rw[List.take_add_one,hx,Option.toList_some]
 refine⟨fun b hb=>?_,List.nodup_append.2 ⟨h.2,by simp,fun a j b hb=>?_⟩⟩
 · rcases List.mem_append.1 hb with hb|hb
   · exact h.1 b hb
   · rw[List.mem_singleton.1 hb];omega
 · rw[List.mem_singleton.1 hb];rintro rfl;exact q (.inr j)
theorem UC{l:List Int}{i:Nat}{x:Int}(hx:l[i]?=some x)(q:(x<1\/9999<x)\/x∈l.take i):¬uF l:=by
 intro h
 rcases q with q|q
 · have:=h.1 x (List.mem_of_getElem? hx);omega
 · have hi:=(List.getElem?_eq_some_iff.1 hx).1
   have e:l=l.take i++x::l.drop (i+1):=by
    have:=List.take_append_drop i l
    rw[List.drop_eq_getElem_cons hi,(List.getElem?_eq_some_iff.1 hx).2]at this
    exact this.symm
   have h2:=h.2
   rw[e,List.nodup_append]at h2
   exact h2.2.2 _ q _ (List.mem_cons_self ..) rfl
def Bf(C:j7)(r:oT):Prop:=(2<=r.fZ.l.length/\r.fZ.l.length<=16)/\(0<=r.iX/\r.iX<((C.iB.l.length:Nat):Int))/\(∃k,C.iB.l[r.iX.toNat]?=some k/\k.jf=3)/\0<=r.uh/\r.uh<=1099511627776
section
open Classical
def ni(C:j7)(r:oT):Int:=if mr C≠0 then mr C else if¬Bf C r then 320 else if¬uF r.fZ.l then 320 else 0
variable {C:j7}{r:oT}
theorem Wj(h:mr C≠0):ni C r=mr C:=if_pos h
theorem Pc(h:¬mr C≠0)(h2:¬Bf C r):ni C r=320:=(if_neg h).trans (if_pos h2)
theorem Wk(h:¬mr C≠0)(h2:¬uF r.fZ.l):ni C r=320:=by
 by_cases h3:Bf C r
 · exact(if_neg h).trans ((if_neg (fun k=>k h3)).trans (if_pos h2))
 · exact Pc h h3
theorem Wl(h:¬mr C≠0)(h2:Bf C r)(h3:uF r.fZ.l):ni C r=0:=(if_neg h).trans ((if_neg (fun k=>k h2)).trans (if_neg (fun k=>k h3)))
end
theorem NC(K:SV Int)(l:Nat)(n:Int)(hp:Ht)(nx:Nat)(hK:gA encI 1 hp nx K)(hl:l<=K.l.length)(a:Option Addr)(c:Nat)(o:K.v=.slice a K.l.length c)(C:kY 8 (.slice a l c) (.slice a l c)=true):WF ex 53 [.slice a (l) c,iN n] hp nx (fO nx hp (gk (∃x∈K.l.take l,n=x))):=by
 refine wd Tryz.f53 9 [.tmp 4] fun hE=>sr<|oN 1<|sr<|oX 2<|WO.cons (WC.call 7 103 ([.slice a (l) c,iN n]) (fun _ _ _=>by(try rw[o]);kernel_rfl) ((RU K l n hp (nx) hK hl a c o C).mono ?_))
 rintro J aa oG ⟨Bl,U,iY⟩
 obtain⟨z5,rfl,I⟩:∃z:Int,J=iN z/\(0<=z↔∃x∈K.l.take l,n=x):=pM.sign Bl
 refine oq 8 (qo 0 z5) fun j R=>oW 1 ⟨rfl,rfl,[.bool j],kr,?_⟩
 refine⟨⟨j,rfl,?_⟩,od,(hE.trans iY)⟩
 exact R.trans I
theorem ND(K:SV Int)(l:Nat)(n:Int)(hp:Ht)(nx:Nat)(hK:gA encI 1 hp nx K)(hl:l<=K.l.length):WF ex 53 [vw K.v 1 (0) (l),iN n] hp nx (fO nx hp (gk (n∈K.l.take l))):=by
 obtain⟨a,c,h1,h2,h3⟩:=Zi hK hl
 rw[h1]
 exact(NC K l n hp nx hK hl a c h2 h3).mono fun v _ _ ⟨⟨c,j,o⟩,k⟩=>⟨⟨c,j,o.trans ⟨fun⟨x,hx,e⟩=>e▸hx,fun h=>⟨n,h,rfl⟩⟩⟩,k⟩
theorem KX(pP:x_)(qt:wh)(C:j7)(r:oT)(hp:Ht)(nx:Nat)(av:oJ hp nx C)(hr:ui hp nx r)(hlen:C.nH.l.length<=2932031007403):WF ex 20 [.agg (iz C).toArray,.agg (lV r).toArray] hp nx (fO nx hp (fun v=>v=iN (ni C r))):=by
 refine wd Tryz.f20 79 [.tmp 4] fun hE=>sr<|oB (.agg (iz C).toArray) (iz C) fun jN iY iA=>?_
 refine oB (.agg (lV r).toArray) (lV r) fun aV aC aN=>?_
 have az:=(hE.trans iY).trans aC
 have aA:=aC.get iA
 refine oN 1<|WP.seq<|sr<|WO.cons (WC.jb nx (0) (iz C) kr wk uw aA rfl<|WO.cons (WC.call 9 52 ([.agg (iz C).toArray]) kf ((SC pP qt C aV (nx+1+1) (av.mono az) hlen).mono ?_)))
 rintro _ aQ aH ⟨rfl,xV,jQ⟩
 have aa:=az.trans jQ
 have aB:=jQ.get aA
 have I:=jQ.get aN
 refine oN 1<|sr<|oX 1 ?_
 refine oq 11 (qW (mr C) 0) fun bD aW=>WO.nil<|cq aW (fun wv=>?_) (fun wv=>?_)
 ·
  refine sr<|oW 2 ⟨rfl,rfl,[iN (mr C)],kr,?_⟩
  exact⟨congrArg (Value.int .i64) (show ni C r=mr C from Wj wv).symm,od,aa⟩
 ·
  refine WP.skip<|WP.seq<|sr<|oX 1 ?_
  obtain⟨ad,ae,U⟩:=hr.fZ.shape
  have bs:=hr.fZ.2.2
  refine oZ (nx+1) 0 (.slice ad (r.fZ.l.length) ae) kq I (by rw[<-U];rfl)<|oX 1 ?_
  refine oq 16 (AW r.fZ.l.length 2) fun ao aX=>oX 1<|gF 17 ao (pt (nx+1) 0)<|pj 17 ao (nx+1) 0 (.slice ad (r.fZ.l.length) ae) kq I (by rw[<-U];rfl)<|gF 17 ao (iN (.ofNat (r.fZ.l.length))) ?_
  refine mX 17 ao (nc 16 r.fZ.l.length) fun bE aY=>?_
  refine mj 22 (nO aX aY) fun aw aZ=>oX 1<|gF 23 aw (pt (nx+1) (0+1))<|pj 23 aw (nx+1) (0+1) (iN r.iX) fP I rfl ?_
  refine mX 23 aw (nz r.iX 0) fun bG a6=>?_
  refine mj 27 (nO aZ a6) fun af a7=>oX 1<|gF 28 af (pt (nx+1) (0+1))<|pj 28 af (nx+1) (0+1) (iN r.iX) fP I rfl<|gF 28 af (pt nx (0+1)) ?_
  obtain⟨ai,aL,ah⟩:=av.iB.shape
  have bt:=av.iB.2.2
  refine pj 28 af nx (0+1) (.slice ai (C.iB.l.length) aL) we aB (by rw[<-ah];rfl)<|gF 28 af (iN (.ofNat (C.iB.l.length))) ?_
  refine mX 28 af (EH C.iB.l.length r.iX) fun bH a8=>?_
  refine mj 35 (nO a7 a8) fun o aj=>oX 1<|gF 36 o (pt nx (0+1))<|pj 36 o nx (0+1) (.slice ai (C.iB.l.length) aL) we aB (by rw[<-ah];rfl)<|gF 36 o (pt (nx+1) (0+1)) ?_
  obtain⟨kx,aE⟩:∃k:Nat,k=(r.iX).toNat:=⟨_,rfl⟩
  have aO:0<=r.iX->r.iX=.ofNat kx:=fun h=>by rw[aE];exact(Int.toNat_of_nonneg h).symm
  refine wq 36 (!o) (iN (.ofNat kx)) (.bool o) (by cases o<;>rfl) (fun h=>by obtain rfl:=bF h;have aS:=nf aj;exact WC.jX (nx+1) (0+1) (iN (.ofNat kx)) kr fP I (by rw[<-aO om];rfl) rfl) ?_
  have ag:(!o)=true->kx<C.iB.l.length:=fun h=>by obtain rfl:o=false:=(by simpa using h);have aS:¬((((((r.fZ.l.length:Nat):Int)<(2))\/((16)<((r.fZ.l.length:Nat):Int)))\/((r.iX)<(0)))\/(((C.iB.l.length:Nat):Int)<=(r.iX))):=(fun k=>absurd ((aj).2 k) (by decide));omega
  refine zQ 36 o (pt (gb ai) (0+(kx)*2)) (by rintro rfl;exact WC.iy ah av.iB (kx) CJ xq ((ag rfl)) rfl)<|gF 36 o (pt (gb ai) (0+(kx)*2+1)) ?_
  obtain⟨au,aG⟩:∃aT,(!o)=true->C.iB.l[kx]?=some aT:=⟨(C.iB.l[kx]?).getD default,fun h=>by rw[List.getElem?_eq_getElem (by obtain rfl:o=false:=(by simpa using h);exact(ag rfl))];rfl⟩
  have ar:=fun(a0:¬((((((r.fZ.l.length:Nat):Int)<(2))\/((16)<((r.fZ.l.length:Nat):Int)))\/((r.iX)<(0)))\/(((C.iB.l.length:Nat):Int)<=(r.iX))))=>aG (by first|(rw[show o=false from Bool.eq_false_iff.2 (fun k=>a0 ((aj).1 k))];rfl)|rw[show o=false from Bool.eq_false_iff.2 (fun k=>a0 ((aj).1 k))])
  refine zQ 36 o (iN au.jf) (by rintro rfl;exact WC.sC (gb ai) (0+(kx)*2+1) (iN au.jf) kr fP ((av.iB.mono aa nR).pq ah (zl ((ag rfl)))) (pF (av.iB.mono aa nR).1 (aG rfl) (by decide) rfl) rfl) ?_
  refine mX 36 o (qW au.jf 3) fun bI a_=>?_
  refine mj 45 (nO aj a_) fun ax bc=>oX 1<|gF 46 ax (pt (nx+1) (0+2))<|pj 46 ax (nx+1) (0+2) (iN r.uh) fP I rfl ?_
  refine mX 46 ax (nz r.uh 0) fun bJ bd=>?_
  refine mj 50 (nO bc bd) fun ay bf=>oX 1<|gF 51 ay (pt (nx+1) (0+2))<|pj 51 ay (nx+1) (0+2) (iN r.uh) fP I rfl ?_
  refine mX 51 ay (nz 1099511627776 r.uh) fun bK bg=>?_
  refine mj 55 (nO bf bg) fun bL bh=>WO.nil<|cq bh (fun bp=>?_) (fun bp=>?_)
  ·
   refine sr<|oW 1 ⟨rfl,rfl,[iN 320],kr,?_⟩
   have aF:=ar
   have aU:¬Bf C r:=by
    rintro ⟨h1,h2,⟨k,h3,h4⟩,bQ⟩
    have bw:=aF om
    rw[<-aE,bw]at h3;cases h3
    omega
   exact⟨congrArg (Value.int .i64) (show ni C r=320 from Pc (by assumption) aU).symm,od,aa⟩
  ·
   refine WP.skip<|WP.seq<|sr<|oX 1<|oZ (nx+1) 0 (.slice ad (r.fZ.l.length) ae) kq I (by rw[<-U];rfl)<|oN 2<|WP.block ?_
   refine my [3,57,58,59] (fun m hs ns vs=>∃(j:Nat),j+m=r.fZ.l.length/\vs=[pt (nx+1) 0,.slice ad (r.fZ.l.length) ae,iN (.ofNat (r.fZ.l.length)),iN (.ofNat j)]/\aH<=ns/\HE (aH) aQ hs/\(uF (r.fZ.l.take j))) ?_ (r.fZ.l.length) ?_
   ·
    rintro bB al aI _ ⟨j,br,rfl,aP,ak,hinv⟩ bu
    have ab:=aa.trans ak
    refine sr ?_
    refine oq 60 (kV j r.fZ.l.length) fun bM bj=>WO.nil<|WP.seq<|cq bj (fun bq=>?_) (fun bq=>?_)
    ·
     refine WP.skip<|WP.seq<|WP.block<|sr<|oX 1 ?_
     have aq:j<r.fZ.l.length:=by omega
     refine WO.cons (WC.iy U hr.fZ (j) lD kj (aq) ?_)
     obtain⟨R,an⟩:=gE aq
     refine WO.cons (WC.lz (iN R) U (hr.fZ.mono ab nR) an rfl fP<|oN 2<|sr<|oX 1 ?_)
     refine oq 65 (nz R 1) fun aM bk=>oX 1<|gF 66 aM (iN R) ?_
     refine mX 66 aM (nz 9999 R) fun bN bl=>?_
     refine mj 69 (nO bk bl) fun J aJ=>oX 1<|gF 70 J (pt (nx+1) 0)<|pj 70 J (nx+1) 0 (.slice ad (r.fZ.l.length) ae) kq (ak.get I) (by rw[<-U];rfl)<|gF 70 J (iN (.ofNat j))<|wq 70 (!J) (vw r.fZ.v 1 (0) (j)) (.bool J) (by cases J<;>rfl) (fun h=>by obtain rfl:=bF h;have aS:=nf aJ;exact WC.opt (v:=vw r.fZ.v 1 (0) (j)) 74 (sy ex.T al.get 42 (.slice ad (r.fZ.l.length) ae) none (some (iN (.ofNat (j)))) none) kf (by rw[<-U];exact RT (hr.fZ.mono ab nR) lD kj om) rfl) ?_
     refine gF 70 J (iN R)<|WO.cons (WC.gq (!J) (GB (!J) ((R)∈r.fZ.l.take (j)) (aI) al) (.bool J) (g:=aaj (.tmp 70)) rfl kr (by cases J<;>rfl) (fun h=>by obtain rfl:J=false:=(by simpa using h);have aS:¬(((R)<(1))\/((9999)<(R))):=(fun k=>absurd ((aJ).2 k) (by decide));exact WC.call 76 53 ([vw r.fZ.v 1 (0) (j),iN R]) kf ((ND r.fZ (j) (R) al (aI) (hr.fZ.mono ab) om).mono fun v fe fg ⟨⟨c,bA,hc⟩,hn,he⟩=>⟨_,_,_,rfl,⟨c,bA,hc⟩,hn,he⟩)) (fun h=>GB.off h) ?_)
     rintro _ bz bC ⟨⟨bO,rfl,bn⟩,bx,aD⟩
     refine mj 77 (nO aJ bn) fun bP bo=>WO.nil<|cq bo (fun aK=>?_) (fun aK=>?_)
     ·
      refine sr<|oW 1 ⟨rfl,rfl,[iN 320],kr,?_⟩
      exact⟨congrArg (Value.int .i64) (show ni C r=320 from Wk (by assumption) (UC an aK)).symm,od,(ab.trans aD)⟩
     ·
      refine WP.skip<|WP.region<|ov 78 (iN (.ofNat (j+1))) ?_ (fun _ _ _=>by rw[<-gU (show j+1<9223372036854775808 by omega)];kernel_rfl)
      refine oN 1<|⟨r.fZ.l.length-(j+1),om,rfl,rfl,j+1,om,kr,?_,?_,?_⟩
      · exact od
      · exact(ak.trans aD aP)
      · exact SD an hinv aK
    ·
     refine WP.exit<|sr<|oW 1 ⟨rfl,rfl,[iN 0],kr,?_⟩
     have hT:r.fZ.l.take j=r.fZ.l:=List.take_of_length_le om
     rw[hT]at hinv
     have aF:=ar om
     have aR:Bf C r:=⟨om,om,⟨au,by rw[<-aE];exact aF,om⟩,om⟩
     exact⟨congrArg (Value.int .i64) (show ni C r=0 from Wl (by assumption) aR hinv).symm,od,ab⟩
   ·
    exact⟨0,om,kr,Nat.le_refl _,HE.refl _ _,⟨(fun _ h=>by cases h),List.nodup_nil⟩⟩
end
end Sw
namespace Sw
noncomputable section
open Go Go.RowKit
section
variable {α:Type}{enc:α->List Value}{n nx b:Nat}{hp fe:Ht}{s:SV α}{L:List Nat}
theorem gA.SF(h:gA enc n hp nx s)(o:∀q∈L,∀m,hp.get q≠some (.cells (s.l.flatMap enc) m)):gA enc n (jU L hp) nx s:=by
 refine⟨h.1,?_,h.2.2⟩
 rcases h.2.1 with k|⟨q,cap,m,h1,h2,h3,h4,j⟩
 · exact .inl k
 · refine .inr ⟨q,cap,m,h1,h2,h3,?_,j⟩
   rw[rG L hp fun k=>o q k _ h4];exact h4
theorem gA.JI(h:gA enc n hp nx s)(hb:∀m,hp.get b≠some (.cells (s.l.flatMap enc) m))(o:∀q,q≠b->fe.get q=hp.get q):gA enc n fe nx s:=by
 refine⟨h.1,?_,h.2.2⟩
 rcases h.2.1 with k|⟨q,cap,m,h1,h2,h3,h4,j⟩
 · exact .inl k
 · refine .inr ⟨q,cap,m,h1,h2,h3,?_,j⟩
   rw[o q fun e=>hb m (e▸h4)];exact h4
theorem HE.Di{B:Nat}{h1 h2:Ht}(h:HE B h1 h2)(j:∀q∈L,B<=q):HE B h1 (Sw.jU L h2):=fun q o=>by
 rw[rG L h2 fun k=>by have:=j q k;omega];exact h q o
end
theorem uP{α:Type}{enc:α->List Value}{k:Nat}(j:∀x,(enc x).length=k){hp:Ht}{q:Nat}{cs:List Value}{o:gl}(h:hp.get q=some (.cells cs o))(l:List α)(jG:cs.length≠l.length*k)(m:gl):hp.get q≠some (.cells (l.flatMap enc) m):=fun e=>by
 rw[h]at e
 have e:cs=l.flatMap enc:=by injection e with e;injection e
 have e2:=nm l (fun x _=>j x)
 rw[<-e]at e2
 exact jG e2
theorem Bg{hp:Ht}{q:Nat}{r:sL Tm}(h:hp.get q=some (.loop r))(cs:List Value)(m:gl):hp.get q≠some (.cells cs m):=fun e=>by rw[h]at e;cases e
def wo(x:i_)(w:Nat):List jL:=match x.gI.l[w]? with
 |some o=>o.l
 |none=>[]
theorem Yr{x:i_}{w:Nat}{o:SV jL}(h:x.gI.l[w]?=some o):wo x w=o.l:=by unfold wo;rw[h]
def wT(K:kM)(w:Nat)(x:i_):List fT:=wa (pS K (wo x w))
def NF(w:Nat)(x:i_):Bool:=(wo x w).any (·.kl)
inductive u4(K:kM)(M:List i_):List Nat->List fT->Bool->Prop where
 |nil:u4 K M [] [] false
 |skip {l:List Nat} {S:List fT} {p:Bool} {w:Nat}:u4 K M l S p->(∃x∈M,wT K w x=[])->u4 K M (l++[w]) S (p||M.any (NF w))
 |add {l:List Nat} {S X S':List fT} {p:Bool} {w:Nat}:u4 K M l S p->(∀x∈M,wT K w x≠[])->(∀x∈M,Ah [pS K (wo x w)])->Vk (M.map (wT K w)) X->Ij S X S'->u4 K M (l++[w]) S' (p||M.any (NF w))
def wE(F:kU)(b:Int):Option i_:=F.fL.l.find? fun r=>decide (r.mR=b)
theorem QH{l:List i_}{b:Int}:∀{i:Nat} {r:i_},l[i]?=some r->r.mR=b->(∀(j:Nat) (y:i_),j<i->l[j]?=some y->y.mR≠b)->l.find? (fun r=>decide (r.mR=b))=some r:=by
 induction l with
 |nil=>intro i r h;simp at h
 |cons x l ih=>
  intro i r h hb hj
  cases i with
  |zero=>
   obtain rfl:x=r:=by simpa using h
   rw[List.find?_cons];simp[hb]
  |succ i=>
   have hx:x.mR≠b:=hj 0 x (Nat.succ_pos i) rfl
   rw[List.find?_cons]
   simp only[hx,decide_false]
   exact ih (i:=i) (by simpa using h) hb fun j y k e=>hj (j+1) y (by omega) (by simpa using e)
theorem zh.wE{F:kU}{b z:Int}{c:Bool}(h:zh F b z c):(c=false/\wE F b=none)\/∃(i:Nat) (r:i_),z=.ofNat i/\c=true/\F.fL.l[i]?=some r/\Sw.wE F b=some r:=by
 rcases h with⟨_,h2,h3⟩|⟨i,r,h1,h2,h3,h4,j⟩
 · exact .inl ⟨h2,List.find?_eq_none.2 fun x hx=>by simp[h3 x hx]⟩
 · exact .inr ⟨i,r,h1,h2,h3,QH h3 h4 j⟩
theorem tA.Zj{F:kU}(h:tA F){x:i_}(hx:x∈F.fL.l){o:SV jL}(C:o∈x.gI.l):∀y∈o.l,vn F.jv y:=by
 obtain⟨j,hj⟩:=List.getElem?_of_mem hx
 exact h.out j x hj o C
theorem tA.Wm{F:kU}(h:tA F){x:i_}(hx:x∈F.fL.l):x.gI.l.length=F.iD.l.length+1:=by
 obtain⟨j,hj⟩:=List.getElem?_of_mem hx
 exact(h.run j x hj).2.2
theorem XM{l:List Nat}{n:Nat}(h:n∈l):n<=l.sum:=by
 induction l with
 |nil=>cases h
 |cons x l ih=>
  rw[List.sum_cons]
  rcases List.mem_cons.1 h with rfl|h
  · omega
  · have:=ih h;omega
theorem Wn{x:i_}{o:SV jL}(j:o∈x.gI.l):o.l.length<=GS x:=
 XM (List.mem_map.2 ⟨o,j,rfl⟩)
inductive zt(C:j7)(F:kU)(r:oT):tN->Int->Prop where
 |pQ {T:tN}:ni C r≠0->T.o4.l=[]->zt C F r T (ni C r)
 |Pd {T:tN}:ni C r=0->¬tA F->T.o4.l=[]->zt C F r T 240
 |find {T:tN} {b:Int}:ni C r=0->tA F->b∈r.fZ.l->wE F b=none->T.o4.l=[]->zt C F r T 250
 |lim {T:tN} {z:Int}:ni C r=0->tA F->(∀b∈r.fZ.l,wE F b≠none)->(z=2\/z=10)->T.o4.l=[]->zt C F r T z
 |ok {T:tN} {M:List i_}:ni C r=0->tA F->M.map some=r.fZ.l.map (wE F)->u4 F.jv M (yM F (F.iD.l.length+1)) T.o4.l T.kl->zt C F r T 0
def TZ:List Value:=[.int .i64 0,.slice none 0 0,.bool false]
def NG(K:kM)(M:List i_)(C I j o R N:Nat)(ab:sL Tm)(aa:Nat->Prop)(l:List Nat)(a:Ht)(b:Nat):Prop:=
 ∃(J:SV fT) (U:Bool),a.get j=some (.cells [J.v] gl.plain)/\a.get o=some (.cells [.bool U] gl.plain)/\a.get C=some (.cells TZ gl.plain)/\a.get I=some (.cells [.int .i64 0] gl.plain)/\a.get R=some (.loop ab)/\u4 K M l J.l U/\gA fo 2 a b J/\(∀q,aa q->q<b/\q∉[C,I,j,o,R])/\N<=b
def Ys(j o C N:Nat)(I:sL Tm)(a:Ht)(b:Nat):Prop:=a.get j=some (.cells TZ gl.plain)/\(∃z:Int,(z=2\/z=10)/\a.get o=some (.cells [.int .i64 z] gl.plain))/\a.get C=some (.loop {I with state:=.done,pending:=some .ret})/\N<=b
theorem NG.mono{K:kM}{M:List i_}{R U j o aa N:Nat}{ab:sL Tm}(h1:R<N)(h2:U<N)(h3:j<N)(h4:o<N)(an:aa<N):∀(I:Nat->Prop) (l:List Nat) (a:Ht) (b:Nat) (c:Ht) (d:Nat),NG K M R U j o aa N ab I l a b->HE b a c->b<=d->NG K M R U j o aa N ab (fun q=>I q\/(b<=q/\q<d)) l c d:=by
 rintro I l a b c d ⟨J,al,ad,ae,af,ag,ah,ai,aj,ak,ao⟩ he hd
 refine⟨J,al,he.get ad (by omega),he.get ae (by omega),he.get af (by omega),he.get ag (by omega),he.get ah (by omega),ai,aj.mono he hd,fun q C=>?_,by omega⟩
 rcases C with C|C
 · have:=ak q C
   exact⟨by omega,this.2⟩
 · exact⟨C.2,by simp;omega⟩
theorem xz{l:List fT}{k:Nat}(hk:k=1\/k=3):k≠l.length*2:=by omega
theorem gA.NH{a:Ht}{b C I j o J:Nat}{s:SV fT}{U aa ah:Value}{r:sL Tm}{m15 m16 m6 m7:gl}(h:gA fo 2 a b s)(ab:a.get j=some (.cells [U] m15))(ad:a.get o=some (.cells [aa] m16))(ae:a.get C=some (.cells TZ m6))(af:a.get I=some (.cells [ah] m7))(ag:a.get J=some (.loop r)):gA fo 2 (jU [C,I,j,o,J] a) b s:=by
 refine h.SF fun q R m=>?_
 simp only[List.mem_cons,List.not_mem_nil,or_false]at R
 rcases R with rfl|rfl|rfl|rfl|rfl
 · exact uP (enc:=fo) (k:=2) (fun _=>rfl) ae _ (xz (.inr rfl)) m
 · exact uP (enc:=fo) (k:=2) (fun _=>rfl) af _ (xz (.inl rfl)) m
 · exact uP (enc:=fo) (k:=2) (fun _=>rfl) ab _ (xz (.inl rfl)) m
 · exact uP (enc:=fo) (k:=2) (fun _=>rfl) ad _ (xz (.inl rfl)) m
 · exact Bg ag _ m
end
end Sw
namespace Sw
noncomputable section
open Go Go.RowKit
section
variable {α β:Type}{enc:α->List Value}{Nx:β->List Value}{n n2 B gr nx fg:Nat}{hp fe:Ht}{J:SV α}{s:SV β}{L:List Nat}
theorem lU.ql(h:lU enc n B gr (jU L hp) nx J):lU enc n B gr hp nx J:=by
 have un:∀q o,(jU L hp).get q=some o->hp.get q=some o:=fun q o j=>by
  by_cases k:q∈L
  · rw[Ct L _ k]at j;cases j
  · rwa[rG L _ k]at j
 rcases h with h|⟨b,ms,h1,h2,h3,h4,C,I,R,U,aa⟩
 · exact .inl h
 · exact .inr ⟨b,ms,h1,h2,un _ _ h3,un _ _ h4,C,I,R,U,aa⟩
theorem lU.Di(h:lU enc n B gr hp nx J)(j:∀q∈L,q<B):lU enc n B gr (jU L hp) nx J:=by
 rcases h with h|⟨b,ms,h1,h2,h3,h4,o,C,I,R,U⟩
 · exact .inl h
 · refine .inr ⟨b,ms,h1,h2,?_,?_,o,C,I,R,U⟩
   · rw[rG L _ fun k=>by have:=j _ k;omega];exact h3
   · rw[rG L _ fun k=>by have:=j _ k;omega];exact h4
theorem gA.Pe(h:gA Nx n2 (jU L hp) nx s)(hg:lU enc n B gr hp nx J)(he:∀c,c<nx->(J.l≠[]->c≠gr)->fe.get c=hp.get c)(hn:nx<=fg):gA Nx n2 (jU L fe) fg s:=by
 refine⟨h.1,?_,h.2.2⟩
 rcases h.2.1 with h|⟨q,cap,m,h1,h2,h3,h4,o⟩
 · exact .inl h
 · have j:q∉L:=fun k=>by rw[Ct L _ k]at h4;cases h4
   rw[rG L _ j]at h4
   refine .inr ⟨q,cap,m,h1,h2,by omega,?_,o⟩
   rw[rG L _ j]
   refine(he q h3 fun k=>?_).trans h4
   rcases hg with hg|⟨b,ms,_,_,_,hg,_⟩
   · exact absurd hg.1 k
   · rintro rfl;rw[hg]at h4;cases h4
end
theorem II{C:j7}{r:oT}(h:ni C r=0):Bf C r/\uF r.fZ.l/\mr C=0:=by
 unfold ni at h
 by_cases h1:mr C≠0
 · rw[if_pos h1]at h;exact absurd h h1
 · rw[if_neg h1]at h
   by_cases h2:Bf C r
   · rw[if_neg (fun k=>k h2)]at h
     by_cases h3:uF r.fZ.l
     · exact⟨h2,h3,Classical.not_not.1 h1⟩
     · rw[if_pos h3]at h;cases h
   · rw[if_pos h2]at h;cases h
theorem Hi{F:kU}{B:List Int}{M:List i_}(h:M.map some=B.map (wE F)):∀b∈B,wE F b≠none:=by
 intro b hb k
 have:wE F b∈M.map some:=by rw[h];exact List.mem_map.2 ⟨b,hb,rfl⟩
 rw[k]at this
 simp at this
end
end Sw
