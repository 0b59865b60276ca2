/- A part of the proof that the law returns true for every input that its row speaks of. No condition is added. -/
import Derived.Test.YtecbgehgkpgbmaaGreatDoorSwAH
import Derived.Test.YtecbgehgkpgbmaaGreatDoorSwAG
import Derived.Test.YtecbgehgkpgbmaaGreatDoorSwAF
namespace Sw
noncomputable section
open Go Go.Proofs Go.RowKit
set_option maxRecDepth 100000
set_option maxHeartbeats 1600000
def uD(s:fQ):Prop:=-70368744177664<=s.hY/\s.gY<=70368744177664/\s.hY<=s.gY
def zH:Prop:=(∀(O:Ht) (G:Nat),WF ex 209 [.slice none 0 0,.func (.func 117) #[] #[]] O G (fun _ e9 e_=>e9=O/\e_=G))/\
 ∀(L:List fQ) (B b gr:Nat) (O:Ht) (G:Nat),0<L.length->L.length<=1048576->uh fj 2 B b gr O G L->
  WF ex 209 [.slice (some ⟨b,0,none⟩) L.length L.length,.func (.func 117) #[] #[]] O G (fun _ e9 e_=>e_=G/\uh fj 2 B b gr e9 e_ (wY L)/\HE B O e9)
def Touch(a b:fQ):Prop:=a=b\/b.hY<=gy .i64 (a.gY+1)
def both(a b:fQ):fQ:=⟨a.hY,(bif rU (a.gY) (b.gY)then(b.gY)else(a.gY))⟩
open Classical in
def sC(J:List fQ)(x:fQ):List fQ:=match J[J.length-1]? with
 |none=>J++[x]
 |some y=>if Touch y x then J.set (J.length-1) (both y x)else J++[x]
def jn(l:List fQ):List fQ:=l.foldl sC []
theorem Gc{l:List fQ}{i:Nat}{x:fQ}(h:l[i]?=some x):jn (l.take (i+1))=sC (jn (l.take i)) x:=by
 unfold jn
 rw[List.take_add_one,h,List.foldl_append];rfl
theorem SA(J:List fQ)(x:fQ):(sC J x).length<=J.length+1:=by
 unfold sC
 split
 · simp
 · split
   · simp
   · simp
theorem No(l:List fQ)(i:Nat):(jn (l.take i)).length<=i:=by
 induction i with
 |zero=>simp[jn]
 |succ i ih=>
  cases h:l[i]? with
  |none=>rw[List.take_add_one,h];simp;omega
  |some x=>rw[Gc h];have:=SA (jn (l.take i)) x;omega
def uY(l:List fQ):List fQ:=jn (wY l)
theorem Gd(l:List fQ):(wY l).length=l.length:=List.length_mergeSort ..
theorem KU(l:List fQ):(uY l).length<=l.length:=by
 have:=No (wY l) (wY l).length
 rw[List.take_length,Gd]at this
 exact this
def xE(W:List (List fQ)):Prop:=(∀y∈W,y.length<=4096)/\∀y∈W,∀s∈y,uD s
def Yv(P:Prop):Value->Prop:=fun v=>∃z:Int,v=Y z/\(z=0\/z=10\/z=2)/\(z=0->P)/\(P->z=0)
theorem OQ(x y:fQ):yq ex.T 12 104 (.agg (fj x).toArray) (.agg (fj y).toArray)=(bif (kN x.hY y.hY)then(bif (kN x.gY y.gY)then(some true)else(some false))else(some false)):=by kernel_rfl
theorem OR(x y:fQ):((kN x.hY y.hY)&&(kN x.gY y.gY))=true↔x=y:=by
 constructor
 · intro h;cases x;cases y;simp only[Bool.and_eq_true,lS,beq_iff_eq,rJ]at h;obtain h:=h;simp_all
 · rintro rfl;simp only[Bool.and_eq_true,lS,beq_iff_eq,rJ,and_self]
theorem OS(x y:fQ):yq ex.T 12 104 (.agg (fj x).toArray) (.agg (fj y).toArray)=some ((kN x.hY y.hY)&&(kN x.gY y.gY)):=by
 rw[OQ]
 (cases(kN x.hY y.hY))<;>(cases(kN x.gY y.gY))<;>rfl
theorem OT(xo yo:Operand)(x y:fQ){c:Bool}(e:c=@decide (x=y) (Classical.propDecidable _)):Ac ex.T .eql 104 xo yo (.agg (fj x).toArray) (.agg (fj y).toArray)=some (.bool c):=by
 have h1:Ac ex.T .eql 104 xo yo (.agg (fj x).toArray) (.agg (fj y).toArray)=(yq ex.T 12 104 (.agg (fj x).toArray) (.agg (fj y).toArray)).map .bool:=by kernel_rfl
 have D:((kN x.hY y.hY)&&(kN x.gY y.gY))=c:=by rw[e,Bool.eq_iff_iff,OR];exact(@decide_eq_true_iff _ (Classical.propDecidable _)).symm
 rw[h1,OS,D];rfl
theorem kC:ex.T.agg 104=some true:=U
theorem ox:ex.T.agg 48=some false:=U
theorem hU:ex.T.size 104=some 2:=U
theorem qT:ex.T.size 48=some 1:=U
theorem pG:ex.T.jo 48=some (.slice 104):=U
theorem Be:ex.T.jo 99=some (.slice 48):=U
theorem nu:ex.T.zero 104=some (.agg ⟨[Y 0,Y 0]⟩):=U
theorem Fy{p:Prop}(h:p:=by
 obtain⟨a1,c2,h_⟩:=hK.shape
 have mc:=hK.2.2
 rw[h_]
 refine GM mL fun hE=>sr<|oN 1<|WP.seq<|sr<|oN 3<|WP.block ?_
 refine mu [0,1,7,8] (fun m hs ns vs=>∃(fW:Nat),fW+m=K.l.length/\vs=[.slice a1 (K.l.length) c2,.func (.func f) #[] b,Y (.ofNat (K.l.length)),Y (.ofNat fW)]/\G<=ns/\HE (G) O hs/\(∀(j:Nat) (y:_),j<fW->K.l[j]?=some y->¬A y)) ?_ (K.l.length) ?_
 ·
  rintro ya ql jd _ ⟨fW,uz,rfl,oR,jt,hinv⟩ uA
  have j9:=hE.trans jt
  refine sr ?_
  refine oq 9 (kT fW K.l.length) fun nI rY=>WO.nil<|WP.seq<|cq rY (fun xq=>?_) (fun xq=>?_)
  ·
   refine WP.skip<|WP.seq<|WP.block<|sr<|oN 2<|sr<|oX 3 ?_
   have nL:fW<K.l.length:=by omega
   refine WO.cons (WC.iy h_ hK (fW) nM pq (nL) ?_)
   obtain⟨lH,kM⟩:=gE nL
   refine WO.cons (WC.ly h_ (hK.mono j9 nR) kM tj pq<|WO.cons (WC.call 16 f ((.agg (pK lH).toArray)::b.toList) kf ((hf fW lH kM ql (jd) om j9).mono ?_)))
   rintro _ JZ UI ⟨⟨Fv,rfl,Db⟩,UJ,uB⟩
   refine WO.nil<|cq Db (fun wZ=>?_) (fun wZ=>?_)
   ·
    refine sr<|oW 2 ⟨rfl,rfl,[Y (.ofNat fW)],U,?_⟩
    exact⟨.inr ⟨fW,lH,rfl,kM,wZ,hinv⟩,od,(j9.trans uB)⟩
   ·
    refine WP.skip<|WP.region<|ov 18 (Y (.ofNat (fW+1))) ?_ (fun _ _ _=>by rw[<-gQ (show fW+1<9223372036854775808 by omega)];kernel_rfl)
    refine oN 1<|⟨K.l.length-(fW+1),om,rfl,rfl,fW+1,om,U,?_,?_,?_⟩
    · exact od
    · exact(jt.trans uB oR)
    · intro j y hj hy;rcases fE.1 hj with hj|rfl;exact hinv j y hj hy;rw[kM]at hy;cases hy;exact wZ
  ·
   refine WP.exit<|sr<|oW 1 ⟨rfl,rfl,[Y (-1)],U,?_⟩
   refine⟨.inl ⟨rfl,fun y hy=>?_⟩,od,j9⟩
   obtain⟨j,hj⟩:=fS hy
   exact hinv j y (by have:=(fp.1 hj).1;omega) hj
 ·
  exact⟨0,om,U,fg _,HE.refl _ _,(fun j y h=>absurd h (fK _))⟩):p:=h
theorem J3{A:fQ->Prop}(K:SV fQ)(f:FuncId)(b:Array Value)(O:Ht)(G:Nat)(hK:gB fj 2 O G K)(hf:∀(i:Nat) (x:fQ),K.l[i]?=some x->∀(e9:Ht) (e_:Nat),G<=e_->HE G O e9->WF ex f ((.agg (fj x).toArray)::b.toList) e9 e_ (fL e_ e9 (gi (A x)))):WF ex 74 [K.v,.func (.func f) #[] b] O G (fL G O (qf K.l A)):=by
 have mL:=fF (e:=ex) 74 Tryz.f74 19 [.tmp 4]
 have nM:=@pG
 have pq:=@hU
 have tj:=@kC
 let pK:=fj
 exact Fy
theorem AB{A:fQ->Prop}(K:SV fQ)(f:FuncId)(b:Array Value)(O:Ht)(G:Nat)(hK:gB fj 2 O G K)(hf:∀(i:Nat) (x:fQ),K.l[i]?=some x->∀(e9:Ht) (e_:Nat),G<=e_->HE G O e9->WF ex f ((.agg (fj x).toArray)::b.toList) e9 e_ (fL e_ e9 (gi (A x)))):WF ex 38 [K.v,.func (.func f) #[] b] O G (fL G O (gi (∃x∈K.l,A x))):=by
 obtain⟨a1,c2,h_⟩:=hK.shape
 have mc:=hK.2.2
 rw[h_]
 refine wd Tryz.f38 9 [.tmp 4] fun hE=>sr<|oN 1<|sr<|oX 2<|WO.cons (WC.call 7 74 ([K.v,.func (.func f) #[] b]) (fun _ _ _=>by(try rw[h_]);kernel_rfl) ((J3 K f b O (G) hK hf).mono ?_))
 rintro Sv Ev IQ ⟨BX,Nh,pP⟩
 obtain⟨z8,rfl,Sx⟩:∃z:Int,Sv=Y z/\(0<=z↔∃x∈K.l,A x):=qf.sign BX
 obtain⟨nZ,e,rZ⟩:=pS 0 z8
 refine ob 8 e<|oW 1 ⟨rfl,rfl,[.bool nZ],U,?_⟩
 exact⟨⟨nZ,rfl,rZ.trans Sx⟩,od,(hE.trans pP)⟩
theorem Fz(s:fQ)(O:Ht)(G:Nat):WF ex 67 [.agg (fj s).toArray] O G (fL G O (MZ 10 (uD s))):=by
 refine wd Tryz.f67 18 [.tmp 2] fun hE=>sr<|oB (.agg (fj s).toArray) (fj s) fun jy iI ia=>?_
 have lq:=hE.trans iI
 refine oN 1<|WP.seq<|sr<|oX 1<|oZ G 0 (Y s.hY) fy ia rfl ?_
 refine oq 5 (mE s.hY (-70368744177664)) fun e u=>oX 1<|gF 6 e (pt G (0+1))<|nS 6 e G (0+1) (Y s.gY) fy ia rfl ?_
 refine nH 6 e (mE 70368744177664 s.gY) fun A y=>?_
 refine mI 10 (nO u y) fun b m=>oX 1<|gF 11 b (pt G 0)<|nS 11 b G 0 (Y s.hY) fy ia rfl<|gF 11 b (pt G (0+1))<|nS 11 b G (0+1) (Y s.gY) fy ia rfl ?_
 refine nH 11 b (mE s.gY s.hY) fun z o=>?_
 refine mI 17 (nO m o) fun nZ rZ=>WO.nil<|cq rZ (fun p=>?_) (fun p=>?_)
 ·
  refine sr<|oW 1 ⟨rfl,rfl,[Y 10],U,?_⟩
  refine⟨⟨10,rfl,⟨fun h=>absurd h (by decide),fun j=>?_⟩,.inr rfl⟩,od,lq⟩
  exact absurd j (by unfold uD;omega)
 ·
  refine WP.skip<|sr<|oW 1 ⟨rfl,rfl,[Y 0],U,?_⟩
  refine⟨⟨0,rfl,⟨fun _=>?_,fun _=>rfl⟩,.inl rfl⟩,od,lq⟩
  unfold uD;omega
theorem Ls(s:fQ)(O:Ht)(G:Nat):WF ex 114 [.agg (fj s).toArray] O G (fL G O (gi (¬uD s))):=by
 refine wd Tryz.f114 6 [.tmp 2] fun hE=>sr<|oB (.agg (fj s).toArray) (fj s) fun jy iI ia=>?_
 refine oN 1<|sr<|WO.cons (WC.iz G (0) (fj s) U kC hU ia rfl<|WO.cons (WC.call 4 67 ([.agg (fj s).toArray]) kf ((Fz s jy (G+1)).mono ?_)))
 rintro _ u y ⟨⟨z12,rfl,j,o⟩,p,e⟩
 refine oq 5 (qS z12 0) fun b m=>oW 1 ⟨rfl,rfl,[.bool b],U,?_⟩
 refine⟨⟨b,rfl,?_⟩,od,((hE.trans iI).trans e)⟩
 rw[m];exact not_congr j
theorem Ar(W:SV (SV fQ))(O:Ht)(G:Nat)(b:jC lL 1 (fun O G y=>gB fj 2 O G y) O G W):WF ex 64 [W.v] O G (fL G O (Yv (xE (W.l.map (·.l))))):=by
 obtain⟨a1,c2,h_⟩:=b.1.shape
 have mc:=b.1.2.2
 rw[h_]
 refine wd Tryz.f64 17 [.tmp 2] fun hE=>sr<|oN 1<|WP.seq<|sr<|oN 3<|WP.block ?_
 refine mu [5,6,7] (fun m hs ns vs=>∃(fW:Nat),fW+m=W.l.length/\vs=[.slice a1 (W.l.length) c2,Y (.ofNat (W.l.length)),Y (.ofNat fW)]/\G<=ns/\HE (G) O hs/\(∀(j:Nat) (y:SV fQ),j<fW->W.l[j]?=some y->y.l.length<=4096/\∀s∈y.l,uD s)) ?_ (W.l.length) ?_
 ·
  rintro ya ql jd _ ⟨fW,uz,rfl,oR,jt,e⟩ uA
  have j9:=hE.trans jt
  refine sr ?_
  refine oq 8 (kT fW W.l.length) fun nI rY=>WO.nil<|WP.seq<|cq rY (fun xq=>?_) (fun xq=>?_)
  ·
   refine WP.skip<|WP.seq<|WP.block<|sr ?_
   have nL:fW<W.l.length:=by omega
   refine WO.cons (WC.iy h_ b.1 (fW) Be qT (nL) ?_)
   obtain⟨lH,kM⟩:=gE nL
   obtain⟨C,yI,p⟩:=(b.2 lH (fa kM)).shape
   have K:=(b.2 lH (fa kM)).2.2
   refine WO.cons (WC.lz (.slice C (lH.l.length) yI) h_ (b.1.mono j9 nR) kM (by rw[<-p];rfl) ox<|oN 1<|WP.seq<|sr<|oX 2 ?_)
   refine oq 13 (nQ 4096 lH.l.length) fun R E=>WO.nil<|cq E (fun J=>?_) (fun J=>?_)
   ·
    refine sr<|oW 1 ⟨rfl,rfl,[Y 2],U,?_⟩
    refine⟨⟨2,rfl,by decide,fun h=>absurd h (by decide),fun h=>?_⟩,od,j9⟩
    exact absurd (h.1 _ (fU.2 ⟨_,fa kM,rfl⟩)) om
   ·
    refine WP.skip<|sr<|oX 1<|WO.cons (WC.call 15 38 ([lH.v,.func (.func 114) #[] #[]]) (fun _ _ _=>by(try rw[p]);kernel_rfl) ((AB (A:=fun s=>¬uD s) lH 114 #[] ql (jd) ((b.2 lH (fa kM)).mono j9) (fun i x hx e9 e_ hn he=>Ls x e9 e_)).mono ?_))
    rintro _ M N ⟨⟨S,rfl,F⟩,L,o⟩
    refine WO.nil<|cq F (fun u=>?_) (fun u=>?_)
    ·
     refine sr<|oW 1 ⟨rfl,rfl,[Y 10],U,?_⟩
     refine⟨⟨10,rfl,by decide,fun h=>absurd h (by decide),fun h=>?_⟩,od,(j9.trans o)⟩
     obtain⟨s,hs,hn⟩:=u
     exact absurd (h.2 _ (fU.2 ⟨_,fa kM,rfl⟩) s hs) hn
    ·
     refine WP.skip<|WP.region<|ov 16 (Y (.ofNat (fW+1))) ?_ (fun _ _ _=>by rw[<-gQ (show fW+1<9223372036854775808 by omega)];kernel_rfl)
     refine oN 1<|⟨W.l.length-(fW+1),om,rfl,rfl,fW+1,om,U,?_,?_,?_⟩
     · exact od
     · exact(jt.trans o oR)
     · intro j y hj hy
       rcases fE.1 hj with hj|rfl
       · exact e j y hj hy
       · rw[kM]at hy;cases hy
         exact⟨om,fun s hs=>fu.1 fun k=>u ⟨s,hs,k⟩⟩
  ·
   refine WP.exit<|sr<|oW 1 ⟨rfl,rfl,[Y 0],U,?_⟩
   refine⟨⟨0,rfl,.inl rfl,fun _=>⟨fun y hy=>?_,fun y hy s hs=>?_⟩,fun _=>rfl⟩,od,j9⟩
   · obtain⟨z,B,rfl⟩:=List.mem_map.1 hy
     obtain⟨j,hj⟩:=fS B
     exact(e j z (by have:=(fp.1 hj).1;omega) hj).1
   · obtain⟨z,B,rfl⟩:=List.mem_map.1 hy
     obtain⟨j,hj⟩:=fS B
     exact(e j z (by have:=(fp.1 hj).1;omega) hj).2 s hs
 ·
  exact⟨0,om,U,fg _,HE.refl _ _,(fun _ _ h=>absurd h (fK _))⟩
theorem UP(a b:fQ)(O:Ht)(G:Nat):WF ex 118 [.agg (fj a).toArray,.agg (fj b).toArray] O G (fL G O (gi (Touch a b))):=by
 refine wd Tryz.f118 16 [.tmp 4] fun hE=>sr<|oB (.agg (fj a).toArray) (fj a) fun jy iI ia=>?_
 refine oB (.agg (fj b).toArray) (fj b) fun C o j=>?_
 have m:=o.get ia
 refine oN 1<|sr<|WO.cons (WC.iz G (0) (fj a) U kC hU m rfl<|WO.cons (WC.iz (G+1) (0) (fj b) U kC hU j rfl ?_))
 obtain⟨e,u,y⟩:=@nb (@decide (a=b) (Classical.propDecidable _)) (a=b) (@decide_eq_true_iff _ (Classical.propDecidable _))
 refine WO.cons (WC.mq (v:=.bool e) 7 (Ac ex.T .eql 104 (.tmp 5) (.tmp 6) (.agg (fj a).toArray) (.agg (fj b).toArray)) kf (OT _ _ a b u)<|oX 1<|gF 8 e (pt (G+1) 0)<|nS 8 e (G+1) 0 (Y b.hY) fy j rfl<|gF 8 e (pt G (0+1))<|nS 8 e G (0+1) (Y a.gY) fy m rfl<|gF 8 e (Y (gy .i64 ((a.gY)+(1)))) ?_)
 refine nH 8 e (pS b.hY (gy .i64 ((a.gY)+(1)))) fun B z=>?_
 refine mI 15 (nO y z) fun p A=>oW 1 ⟨rfl,rfl,[.bool p],U,?_⟩
 refine⟨⟨p,rfl,?_⟩,od,((hE.trans iI).trans o)⟩
 exact A
theorem UQ(a b:fQ)(O:Ht)(G:Nat):WF ex 120 [.agg (fj a).toArray,.agg (fj b).toArray] O G (fL G O (wM (.agg (fj (both a b)).toArray))):=by
 refine wd Tryz.f120 13 [.cell 4 104] fun hE=>sr<|oB (.agg (fj a).toArray) (fj a) fun jy iI ia=>?_
 refine oB (.agg (fj b).toArray) (fj b) fun B j m=>?_
 refine oA [Y 0,Y 0] nu fun z jE o=>?_
 have e:=jE.get (j.get ia)
 refine WO.nil<|sr<|oX 1<|oZ G 0 (Y a.hY) fy e rfl<|oX 1<|oZ G (0+1) (Y a.gY) fy e rfl<|oX 1<|oZ (G+1) (0+1) (Y b.gY) fy (jE.get m) rfl<|oX 2<|oS (G+1+1) (0) (.agg ⟨[Y a.hY,Y ((bif rU (a.gY) (b.gY)then(b.gY)else(a.gY)))]⟩) [Y a.hY,Y ((bif rU (a.gY) (b.gY)then(b.gY)else(a.gY)))] [Y a.hY,Y ((bif rU (a.gY) (b.gY)then(b.gY)else(a.gY)))] hU rfl rfl o fun A u p y=>?_
 refine wr ⟨rfl,rfl,[.agg ⟨[Y a.hY,Y ((bif rU (a.gY) (b.gY)then(b.gY)else(a.gY)))]⟩],(sX (by rw[show(f_ (.tmp 4)).run _=pt (G+1+1) 0 from by kernel_rfl];exact jV kC hU p rfl)),?_⟩
 exact⟨rfl,od,((((hE.trans iI).trans j).trans jE).trans u)⟩
end
end Sw
namespace Sw
noncomputable section
open Go Go.Proofs Go.RowKit
set_option maxRecDepth 100000
set_option maxHeartbeats 1600000
theorem BN:∃i,ex.T.kn 104=some i/\i.bytes<=1024:=by
 cases h:ex.T.kn 104 with
 |none=>exact absurd (show(ex.T.kn 104).isSome=true by kernel_rfl) (by rw[h];decide)
 |some i=>
  refine⟨i,rfl,?_⟩
  have:((ex.T.kn 104).map fun i=>Nat.ble i.bytes 1024)=some true:=by kernel_rfl
  rw[h]at this
  exact fk (gb this)
theorem gB.cells{α:Type}{enc:α->List Value}{n:Nat}{O:Ht}{G:Nat}{s:SV α}(h:gB enc n O G s):s.v.cells.toList=[s.v]:=by
 obtain⟨a,c,e⟩:=h.shape
 rw[e];rfl
theorem uf(l:List fQ):∀y∈l,(fj y).length=2:=fun _ _=>rfl
def Yw(K:List fQ)(r:td Tm)(G:Nat)(i:Nat)(a:Ht)(c:Nat):Prop:=∃J:SV fQ,a.get G=some (.cells [J.v] gm.plain)/\J.l=K.take i/\mD fj 2 (G+3) a c J/\a.get (G+2)=some (.loop r)/\a.get (G+1)=some (.deferred (some []))/\G+3<=c
def Q2(K:List fQ)(f:FuncId)(m:Array Value)(O:Ht)(G:Nat):Prop:=∀(y:Value) (Inv:Nat->Ht->Nat->Prop) (j:Ht) (e:Nat),G<=e->HE G O j->Inv 0 j e->(∀i a b c d,Inv i a b->HE b a c->b<=d->Inv i c d)->
 (∀i x,K[i]?=some x->∀a b,e<=b->HE G O a->Inv i a b->WV ex y [.agg (fj x).toArray] a b (fun v c d=>v=.bool true/\b<=d/\HE G a c/\Inv (i+1) c d))->WF ex f (y::m.toList) j e (fun _ c d=>Inv K.length c d/\e<=d/\HE G O c)
theorem SB(K:SV fQ)(O:Ht)(G:Nat)(hK:gB fj 2 O G K):WF ex 116 [K.v] O G (fun v e9 e_=>∃b,v=.func (.func 210) #[] #[pt b 0]/\e9.get b=some (.cells [K.v] gm.plain)/\b<e_/\G<=e_/\HE G O e9):=by
 obtain⟨a1,c2,h_⟩:=hK.shape
 have mc:=hK.2.2
 rw[h_]
 refine wd Tryz.f116 4 [.tmp 2] fun hE=>sr<|oB (.slice a1 (K.l.length) c2) [.slice a1 (K.l.length) c2] fun zV pP uE=>?_
 refine oN 1<|sr<|oW 2 ⟨rfl,rfl,[.func (.func 210) #[] #[pt G 0]],U,?_⟩
 exact⟨_,rfl,uE,(fo (G)),od,(hE.trans pP)⟩
theorem Q3(K:SV fQ)(y:Value)(u:Nat)(Inv:Nat->Ht->Nat->Prop)(O:Ht)(G:Nat)(hK:gB fj 2 O G K)(M:O.get u=some (.cells [K.v] gm.plain))(jH:u<G)(F:Ht)(e:Nat)(h1:G<=e)(B:HE G O F)(ae:Inv 0 F e)(hm:∀i a b c d,Inv i a b->HE b a c->b<=d->Inv i c d)(hs:∀i x,K.l[i]?=some x->∀a b,e<=b->HE G O a->Inv i a b->WV ex y [.agg (fj x).toArray] a b (fun v c d=>v=.bool true/\b<=d/\HE G a c/\Inv (i+1) c d)):WF ex 210 [y,pt u 0] F e (fun _ c d=>Inv K.l.length c d/\e<=d/\HE G O c):=by
 refine wb ⟨Tryz.f210.body.getD .skip,16,[]⟩<|sr ?_
 obtain⟨a1,c2,h_⟩:=hK.shape
 have mc:=hK.2.2
 refine oZ u (0) (.slice a1 (K.l.length) c2) ox (B.get M jH) (by rw[<-h_];rfl)<|oN 2<|WP.block ?_
 refine mu [0,5,6,7] (fun m hs ns vs=>∃(fW:Nat),fW+m=K.l.length/\vs=[y,.slice a1 (K.l.length) c2,Y (.ofNat (K.l.length)),Y (.ofNat fW)]/\e<=ns/\HE G O hs/\hs.get u=some (.cells [K.v] gm.plain)/\(Inv fW hs ns)/\(e<=ns)) ?_ (K.l.length) ?_
 ·
  rintro ya ql jd _ ⟨fW,uz,rfl,oR,jt,aa,A,ak⟩ uA
  refine sr ?_
  refine oq 8 (kT fW K.l.length) fun aj ab=>WO.nil<|WP.seq<|cq ab (fun ad=>?_) (fun ad=>?_)
  ·
   refine WP.skip<|WP.seq<|WP.block<|sr ?_
   have p:fW<K.l.length:=by omega
   refine WO.cons (WC.iy h_ hK (fW) pG hU (p) ?_)
   obtain⟨j,J⟩:=gE p
   refine WO.cons (WC.ly h_ (hK.mono jt nR) J kC hU<|oA [Y 0,Y 0] nu fun ag o R=>?_)
   refine oS jd (0) (.agg (fj j).toArray) (fj j) (fj j) hU rfl rfl R fun X C S W=>?_
   have z:=(jt.trans o).trans C
   refine WO.nil<|sr<|oX 1<|WO.cons (WC.iz jd (0) (fj j) U kC hU S rfl<|WO.cons (WC.QU 13 y [.agg (fj j).toArray] kf ((hs _ j J X (jd+1) om z (hm _ _ _ _ _ A (((HE.refl (jd) ql).trans o).trans C) om)).mono ?_)))
   rintro _ ah ai ⟨rfl,af,E,N⟩
   refine oN 1<|WP.cond false U (fun L=>by cases L) (fun L=>?_)
   refine WP.skip<|WP.region<|ov 15 (Y (.ofNat (fW+1))) ?_ (fun _ _ _=>by rw[<-gQ (show fW+1<9223372036854775808 by omega)];kernel_rfl)
   refine oN 1<|⟨K.l.length-(fW+1),om,rfl,rfl,fW+1,om,U,?_,?_,?_,?_,?_⟩
   · exact od
   · exact(z.trans E)
   · exact(E.get ((W u om).trans (o.get aa)) jH)
   · exact N
   · first|omega|(dsimp only;omega)
  ·
   refine WP.exit<|⟨rfl,rfl,[],U,?_⟩
   have hi:fW=K.l.length:=by omega
   rw[hi]at A
   exact⟨A,(show e<=jd by omega),jt⟩
 ·
  exact⟨0,om,U,fg _,B,(B.get M jH),ae,nR⟩
theorem Np(K:SV fQ)(f:FuncId)(ad:Array Value)(O:Ht)(G:Nat)(hK:K.l.length<=1048576)(aT:Q2 K.l f ad O G):WF ex 284 [.slice none (0) 0,.func (.func f) #[] ad] O G (fun v e9 e_=>∃J:SV fQ,v=J.v/\J.l=K.l/\mD fj 2 G e9 e_ J/\G<=e_/\HE G O e9):=by
 refine WF.Zo (fi:=⟨Tryz.f284.body.getD .skip,13,[.tmp 4]⟩) U U U rfl rfl ?_
 have hE:=HE.refl G O
 refine sr<|oB (.slice none (0) 0) [.slice none (0) 0] fun jy iI ia=>?_
 have lq:=hE.trans iI nR
 refine oN 1<|WP.seq<|sr<|oN 1<|WP.block<|WP.M3 (.func (.func f) #[] ad) U fun F p=>?_
 obtain⟨m,B⟩:∃h:Ht,h=(jy.set (G+1) (some (.deferred (some [])))).set (G+1+1) (some (.loop F)):=⟨_,rfl⟩
 rw[<-B]
 have a8:m.get (G+1)=some (.deferred (some [])):=by rw[B];exact(Tr.gG _ _ om).trans (Tr.ig ..)
 have bg:m.get (G+2)=some (.loop F):=by rw[B];exact Tr.ig ..
 have af:HE (G+1) jy m:=by rw[B];exact(HE.set _ _ nR).trans (HE.set _ _ (fh _)) nR
 have a7:=af.get ia (fo (G))
 have a6:HE G O m:=lq.trans af om
 refine(WV.func (f:=f) (show WF ex f (.func (.yield (G+2)) #[] #[]::ad.toList) m (G+3) _ from(aT (.func (.yield (G+2)) #[] #[]) (Yw K.l F G) m (G+3) om a6 ?_ ?_ ?_))).mono ?_
 · exact⟨⟨.slice none 0 0,[]⟩,a7,by simp,mD.nil,bg,a8,om⟩
 · rintro i a b c d ⟨J,W,C,X,E,aa,bk⟩ he hle
   exact⟨J,he.get W om,C,X.mono he hle,he.get E om,he.get aa om,om⟩
 ·
  rintro i x hx a c hc ag ⟨J,W,C,X,E,aa,bk⟩
  have bt:=(fp.1 hx).1
  have bs:J.l.length=i:=by rw[C,List.length_take];omega
  refine WV.round (F.tmps.set 7 (.agg (fj x).toArray)) E rfl (by rw[p]) (by rw[p];rfl) ?_
  subst p
  have bj:=HE.refl (c) a
  have al:=fg (c)
  refine WP.region<|oA [Y 0,Y 0] nu fun zq xa ay=>?_
  have an:=ag.trans xa (show G<=c by omega)
  have az:=xa.get W (show G<c by omega)
  have aV:=fb (show G<c by omega) (fh (c))
  have aA:=xa.get E (show(G+2)<c by omega)
  have aW:=fb (show(G+2)<c by omega) (fh (c))
  have aB:=xa.get aa (show(G+1)<c by omega)
  have aX:=fb (show(G+1)<c by omega) (fh (c))
  have aR:=bj.trans xa al
  have aY:=ff al (fh (c))
  have aU:=ff (show G<=c by omega) (fh (c))
  refine oS c (0) (.agg (fj x).toArray) (fj x) (fj x) hU rfl rfl ay fun bn R aC u=>?_
  have ao:=an.trans R om
  have aS:=aR.trans R om
  have aD:=(u G om).trans az
  have aE:=(u (G+2) om).trans aA
  have uZ:=(u (G+1) om).trans aB
  refine WO.nil<|⟨rfl,aE,fun ai bc o=>?_⟩
  have aq:HE G O ai:=fun q e=>(o q om).trans (ao q e)
  have N:=(o G om).trans aD
  have aF:=(o (G+1) om).trans uZ
  have aG:=(o c om).trans aC
  have aw:=(X.mono aS aY).te (e9:=ai) (fun q e=>o q om)
  refine WP.block<|WP.region<|oZ G (0) (J.v) ox N rfl<|WO.cons (WC.iz c (0) (fj x) U kC hU aG rfl<|oL [Y x.hY,Y x.gY] fun xK u4 xL=>?_)
  have ar:=aq.trans u4 aU
  have aH:=u4.get N aV
  have aI:=u4.get bc aW
  have aJ:=u4.get aF aX
  have ax:=aw.mono u4 (fh (c+1))
  obtain⟨inf,pI,vL⟩:=BN
  refine WO.cons (WC.C4 (enc:=fj) (J:=J) x rfl U U ax (uf _) xL rfl pG hU nu pI rfl rfl vL om om rfl ?_)
  rintro ab jy o_ L yr ui ae
  have au:=ar.trans ui om
  have aK:=ui.get aH om
  have aL:=ui.get aI om
  have aM:=ui.get aJ om
  have M:=ae.ok (uf _) (by rw[L,List.length_append];simp;omega)
  refine oS G (0) (ab.v) [ab.v] [ab.v] qT M.cells (fe.2 ⟨rfl,by rw[List.all_cons,M.one];rfl⟩) aK fun bo aQ aN y=>?_
  have av:=au.trans aQ om
  have aO:=(y (G+2) om).trans aL
  have aP:=(y (G+1) om).trans aM
  refine WO.nil<|⟨rfl,aO,fun bw bd z=>⟨rfl,(show c<=o_ by omega),fun q e=>(z q om).trans ((av q e).trans (ag q e).symm),ab,(z G om).trans aN,?_,ae.te (fun q e=>(z q om).trans (y q om)),bd,(z (G+1) om).trans aP,(show G+3<=o_ by omega)⟩⟩
  rw[L,C,List.take_add_one,hx];rfl
 ·
  rintro _ S bl ⟨⟨J,W,C,X,E,aa,bk⟩,bu,a_⟩
  refine⟨F,0,E,(fun h=>by rw[p]at h;cases h),by rw[p];rfl,?_⟩
  obtain⟨j,aj⟩:∃h:Ht,h=S.set (G+1+1) (some (.loop {F with state:=.exhausted})):=⟨_,rfl⟩
  rw[<-aj]
  have A:∀q,q≠G+2->j.get q=S.get q:=fun q e=>by rw[aj];exact Tr.gG _ _ e
  have aZ:HE G O j:=fun q e=>(A q om).trans (a_ q e)
  have bq:=(A G om).trans W
  have bp:=(A (G+1) om).trans aa
  have br:=X.te (e9:=j) (fun q e=>A q om)
  refine sr<|oZ G (0) (J.v) ox bq rfl<|oW 1 ⟨rfl,_,rfl,bp,[J.v],U,?_⟩
  obtain⟨bh,ak⟩:∃h:Ht,h=j.set (G+1) (some (.deferred none)):=⟨_,rfl⟩
  show(fun v e9 e_=>∃J:SV fQ,v=J.v/\J.l=K.l/\mD fj 2 G e9 e_ J/\G<=e_/\HE G O e9) _ (j.set (G+1) (some (.deferred none))) bl
  rw[<-ak]
  have ah:∀q,q≠G+1->bh.get q=j.get q:=fun q e=>by rw[ak];exact Tr.gG _ _ e
  exact⟨J,rfl,by rw[C,List.take_length],(br.te (fun q e=>ah q om)).low om,om,fun q e=>(ah q om).trans (aZ q e)⟩
theorem Q4(K:SV fQ)(f:FuncId)(b:Array Value)(O:Ht)(G:Nat)(hK:K.l.length<=1048576)(e:Q2 K.l f b O G):WF ex 208 [.func (.func f) #[] b] O G (fun v e9 e_=>∃J:SV fQ,v=J.v/\J.l=K.l/\mD fj 2 G e9 e_ J/\G<=e_/\HE G O e9):=by
 refine wd Tryz.f208 5 [.tmp 2] fun hE=>sr<|oN 1<|sr<|oX 1<|WO.cons (WC.call 4 284 ([.slice none 0 0,.func (.func f) #[] b]) kf ((Np K f b O (G) om e).mono ?_))
 rintro _ p o_ ⟨J,rfl,m,j,o,iI⟩
 refine oW 1 ⟨rfl,rfl,[J.v],U,?_⟩
 exact⟨J,rfl,m,j,od,(hE.trans iI)⟩
theorem Lt(E:zH)(K:SV fQ)(f:FuncId)(o:Array Value)(O:Ht)(G:Nat)(hK:K.l.length<=1048576)(B:Q2 K.l f o O G):WF ex 115 [.func (.func f) #[] o,.func (.func 117) #[] #[]] O G (fun v e9 e_=>∃J:SV fQ,v=J.v/\J.l=wY K.l/\gB fj 2 e9 e_ J/\G<=e_/\HE G O e9):=by
 refine wd Tryz.f115 12 [.tmp 4] fun hE=>sr<|oN 1<|sr<|oX 1<|WO.cons (WC.call 7 208 ([.func (.func f) #[] o]) kf ((Q4 K f o O (G) om B).mono ?_))
 rintro _ u o_ ⟨J,rfl,e,F,S,iI⟩
 have p:=hE.trans iI
 refine oN 1<|WP.seq ?_
 rcases F with⟨b,j⟩|⟨b,m,N,j,C⟩
 ·
  rw[j]
  refine WP.region<|oX 2<|WO.cons (WC.call 10 209 ([.slice none 0 0,.func (.func 117) #[] #[]]) kf ((E.1 u (o_)).mono ?_))
  rintro _ W X ⟨rfl,rfl⟩
  refine WO.nil<|sr<|oW 2 ⟨rfl,rfl,[.slice none (0) 0],U,?_⟩
  exact⟨⟨.slice none 0 0,[]⟩,rfl,(by rw[<-e,b];simp[wY]),⟨fun _ _=>rfl,.inl ⟨rfl,.inl rfl⟩,by simp⟩,od,p⟩
 ·
  rw[j]
  refine WP.region<|oX 2<|WO.cons (WC.call 10 209 ([.slice (some ⟨m,0,none⟩) J.l.length J.l.length,.func (.func 117) #[] #[]]) kf ((E.2 J.l G m N u (o_) b (by rw[e];omega) C).mono ?_))
  rintro _ L R ⟨rfl,y,z⟩
  have A:HE G O L:=fun q M=>(z q M).trans (p q M)
  refine WO.nil<|sr<|oW 2 ⟨rfl,rfl,[.slice (some ⟨m,0,none⟩) (J.l.length) J.l.length],U,?_⟩
  exact⟨⟨.slice (some ⟨m,0,none⟩) J.l.length J.l.length,wY J.l⟩,rfl,(by show wY J.l=_;rw[e]),y.BC (fun _ _=>rfl) (Gd _) b (by rw[e];omega),od,A⟩
end
end Sw
namespace Sw
noncomputable section
open Go Go.Proofs Go.RowKit
set_option maxRecDepth 100000
set_option maxHeartbeats 1600000
theorem SC{J:List fQ}(h:J=[])(x:fQ):sC J x=J++[x]:=by subst h;rfl
theorem UR{J:List fQ}{x y:fQ}(hy:J[J.length-1]?=some y)(h:Touch y x):sC J x=J.set (J.length-1) (both y x):=by
 unfold sC;rw[hy];simp only;rw[if_pos h]
theorem SD{J:List fQ}{x y:fQ}(hy:J[J.length-1]?=some y)(h:¬Touch y x):sC J x=J++[x]:=by
 unfold sC;rw[hy];simp only;rw[if_neg h]
theorem W7(K:SV fQ)(O:Ht)(G:Nat)(hK:gB fj 2 O G K)(bk:K.l.length<=1048576):WF ex 119 [K.v,.func (.func 118) #[] #[],.func (.func 120) #[] #[]] O G (fun v e9 e_=>∃J:SV fQ,v=J.v/\J.l=jn K.l/\gB fj 2 e9 e_ J/\G<=e_/\HE G O e9):=by
 obtain⟨a1,c2,h_⟩:=hK.shape
 have mc:=hK.2.2
 rw[h_]
 refine wd Tryz.f119 46 [.tmp 6] fun hE=>sr<|oN 1<|WP.seq<|sr<|oN 3<|WP.block ?_
 refine mu [1,2,6,10,11,12] (fun m hs ns vs=>∃(fW:Nat) (J:SV fQ),fW+m=K.l.length/\vs=[.func (.func 118) #[] #[],.func (.func 120) #[] #[],J.v,.slice a1 (K.l.length) c2,Y (.ofNat (K.l.length)),Y (.ofNat fW)]/\G<=ns/\HE G O hs/\(J.l=jn (K.l.take fW))/\(mD fj 2 G hs ns J)) ?_ (K.l.length) ?_
 ·
  rintro ya ql jd _ ⟨fW,J,uz,rfl,oR,jt,F,aM⟩ uA
  have aR:=fg (jd)
  refine sr ?_
  refine oq 13 (kT fW K.l.length) fun De BO=>WO.nil<|WP.seq<|cq BO (fun aZ=>?_) (fun aZ=>?_)
  ·
   refine WP.skip<|WP.seq<|WP.block<|sr ?_
   have an:fW<K.l.length:=by omega
   refine WO.cons (WC.iy h_ hK (fW) pG hU (an) ?_)
   obtain⟨e,W⟩:=gE an
   refine WO.cons (WC.ly h_ (hK.mono jt nR) W kC hU<|oA [Y 0,Y 0] nu fun bc aA aN=>?_)
   have aS:=ff aR (fh (jd))
   refine oS jd (0) (.agg (fj e).toArray) (fj e) (fj e) hU rfl rfl aN fun C aB M a_=>?_
   have au:=(jt.trans aA).trans aB
   refine WO.nil<|WP.seq ?_
   have hlen:J.l.length<=fW:=by rw[F];exact No _ _
   have aV:=aM.mono (((HE.refl (jd) ql).trans aA).trans aB) aS
   rcases id aV with⟨al,az⟩|⟨al,j,aU,az,E⟩
   ·
    rw[az]
    have ay:mD fj 2 G C (jd+1) ⟨.slice none 0 0,J.l⟩:=.inl ⟨al,rfl⟩
    refine WP.region<|oN 4<|WP.seq<|WP.qZ [⟨[0,1,2,3,4,5,6,7,8],[0,1,2,3,4,5,6,7,8],some 9⟩,⟨[10],[10],none⟩] U _ rfl<|WD.kZ<|nv 19 (Y (-1))<|nv 20 (.bool false)<|nv 21 (.bool false)<|WN.hZ rfl (WC.DR (x:=.bool false) (g:=f_ (.tmp 21)) rfl U rfl<|WN.hZ rfl (WC.DR (x:=.bool false) (g:=f_ (.tmp 21)) rfl U rfl<|WN.hZ rfl (WC.DR (x:=.bool false) (g:=f_ (.tmp 21)) rfl U rfl<|WN.hZ rfl (WC.DR (x:=.bool false) (g:=f_ (.tmp 21)) rfl U rfl<|WN.hZ rfl (WC.DR (x:=.bool false) (g:=f_ (.tmp 21)) rfl U rfl<|WN.hZ rfl (WC.DR (x:=.bool false) (g:=f_ (.tmp 21)) rfl U rfl<|WN.nil ⟨?_,?_⟩))))))
    ·
     refine ci (-1)<|cv (.bool false) rfl<|cv (.bool false) rfl<|cg rfl 21 false (.bool false) (.bool false) rfl (fun h=>by cases h)<|cg rfl 21 false (.bool false) (.bool false) rfl (fun h=>by cases h)<|cg rfl 21 false (.bool false) (.bool false) rfl (fun h=>by cases h)<|cg rfl 21 false (.bool false) (.bool false) rfl (fun h=>by cases h)<|cg rfl 21 false (.bool false) (.bool false) rfl (fun h=>by cases h)<|cg rfl 21 false (.bool false) (.bool false) rfl (fun h=>by cases h) ?_
     exact jc.nil
    refine WC.at rfl (WC.DR (x:=.bool false) (g:=f_ (.tmp 21)) rfl U rfl<|WD.last<|nv 29 (.bool false)<|WN.nil ⟨?_,?_⟩)
    ·
     refine cv (.bool false) rfl ?_
     exact jc.nil
    refine WP.cond false U (fun aL=>by cases aL) (fun aL=>?_)
    refine WP.region<|oX 1<|WO.cons (WC.iz jd (0) (fj e) U kC hU M rfl<|oL [Y e.hY,Y e.gY] fun bd aC aO=>?_)
    obtain⟨inf,pI,vL⟩:=BN
    refine WO.cons (WC.C4 (enc:=fj) (J:=⟨.slice none 0 0,J.l⟩) e rfl U U (ay.mono aC (fh (jd+1))) (uf _) aO rfl pG hU nu pI rfl rfl vL (show J.l.length<=1048576 by omega) om rfl ?_)
    rintro ao jy o_ ad yr ui aw
    have aa:ao.l=sC J.l e:=by rw[ad];exact(SC al _).symm
    refine oN 1<|WP.region<|ov 44 (Y (.ofNat (fW+1))) ?_ (fun _ _ _=>by rw[<-gQ (show fW+1<9223372036854775808 by omega)];kernel_rfl)
    refine oN 1<|⟨K.l.length-(fW+1),om,rfl,rfl,fW+1,ao,om,U,?_,?_,?_,?_⟩
    · exact od
    · exact((au.trans aC).trans ui)
    · rw[Gc W,<-F];exact aa
    · exact aw
   ·
    rw[az]
    have ay:mD fj 2 G C (jd+1) ⟨.slice (some ⟨j,0,none⟩) J.l.length J.l.length,J.l⟩:=.inr ⟨al,j,aU,rfl,E⟩
    refine WP.region<|oX 2<|ov 18 (Y (.ofNat (J.l.length-1))) ?_ (fun _ _ _=>by rw[<-Bb (show J.l.length<9223372036854775808 by omega) om];kernel_rfl)
    refine oN 1<|WP.seq<|WP.qZ [⟨[0,1,2,3,4,5,6,7,8],[0,1,2,3,4,5,6,7,8],some 9⟩,⟨[10],[10],none⟩] U _ rfl<|WD.kZ<|nv 19 (Y (.ofNat (J.l.length-1))) ?_
    obtain⟨b,aJ,z⟩:=aag 0 (J.l.length-1)
    refine nv 20 (.bool b) ?_ (fun _ _ _=>by subst aJ;kernel_rfl)
    refine nv 21 (.bool b)<|ng rfl 21 (b) (.func (.func 118) #[] #[]) (.bool b) (by cases b<;>rfl) (fun h=>by obtain rfl:=h;exact fun _ _ _=>by kernel_rfl) ?_
    refine ng rfl 21 (b) (.slice (some ⟨j,0,none⟩) (J.l.length) J.l.length) (.bool b) (by cases b<;>rfl) (fun h=>by obtain rfl:=h;exact fun _ _ _=>by kernel_rfl) ?_
    refine ng rfl 21 (b) (Y (.ofNat (J.l.length-1))) (.bool b) (by cases b<;>rfl) (fun h=>by obtain rfl:=h;exact fun _ _ _=>by kernel_rfl) ?_
    have o:(b)=true->J.l.length-1<J.l.length:=fun h=>by obtain rfl:b=true:=(by simpa using h);have aF:=(z).1 rfl;omega
    refine xl rfl 21 (b) (.pointer (some ⟨(ga (some ⟨j,0,none⟩)),0+(J.l.length-1)*2,none⟩)) (.bool b) (by cases b<;>rfl) (fun h=>by obtain rfl:=h;have aF:=(z).1 rfl;exact WC.ix (k:=.i64) (some ⟨j,0,none⟩) (J.l.length) J.l.length (J.l.length-1) 2 U U pG hU ((E.BC (N:=J.l.length) (c:=J.l.length) (fun _ _=>rfl) rfl om om).BA rfl (zl ((gh (o rfl) rfl.symm)))) ((o rfl)) rfl) ?_
    obtain⟨A,ai⟩:∃aT,(b)=true->(⟨.slice (some ⟨j,0,none⟩) (J.l.length) J.l.length,J.l⟩:SV fQ).l[J.l.length-1]?=some aT:=⟨((⟨.slice (some ⟨j,0,none⟩) (J.l.length) J.l.length,J.l⟩:SV fQ).l[J.l.length-1]?).getD default,fun h=>by rw[List.getElem?_eq_getElem (by obtain rfl:b=true:=(by simpa using h);exact(Nat.lt_of_lt_of_eq (o rfl) rfl.symm))];rfl⟩
    have X:=fun(a0:((0)<=((J.l.length-1:Nat):Int)))=>ai (by first|(rw[show b=true from(z).2 a0];rfl)|rw[show b=true from(z).2 a0])
    refine xl rfl 21 (b) (.agg (fj A).toArray) (.bool b) (by cases b<;>rfl) (fun h=>by obtain rfl:=h;have aF:=(z).1 rfl;exact WC.Fq (ga (some ⟨j,0,none⟩)) (0+(J.l.length-1)*2) (fj A) U kC hU ((E.BC (N:=J.l.length) (c:=J.l.length) (fun _ _=>rfl) rfl om om).pw rfl (zl ((gh (o rfl) rfl.symm)))) (xF (E.BC (N:=J.l.length) (c:=J.l.length) (fun _ _=>rfl) rfl om om).1 (ai rfl)) rfl) ?_
    refine xl rfl 21 (b) (.agg (fj e).toArray) (.bool b) (by cases b<;>rfl) (fun h=>by obtain rfl:=h;exact WC.iz jd (0) (fj e) U kC hU M rfl rfl) ?_
    refine WN.nil ⟨?_,?_⟩
    ·
     refine ci (.ofNat (J.l.length-1))<|cv (.bool b) (iO 8 b) ?_ (fun _=>by subst aJ;kernel_rfl)
     refine cv (.bool b) (iO 8 b)<|cg rfl 21 (b) (.func (.func 118) #[] #[]) (.bool b) (by cases b<;>rfl) (fun h=>by obtain rfl:=h;exact mi (.func (.func 118) #[] #[]) (fun _=>by kernel_rfl) U) ?_
     refine cg rfl 21 (b) (.slice (some ⟨j,0,none⟩) (J.l.length) J.l.length) (.bool b) (by cases b<;>rfl) (fun h=>by obtain rfl:=h;exact mi (.slice (some ⟨j,0,none⟩) (J.l.length) J.l.length) (fun _=>by kernel_rfl) (u9 ..)) ?_
     refine cg rfl 21 (b) (Y (.ofNat (J.l.length-1))) (.bool b) (by cases b<;>rfl) (fun h=>by obtain rfl:=h;exact mi (Y (.ofNat (J.l.length-1))) (fun _=>by kernel_rfl) (iF ..)) ?_
     refine cg rfl 21 (b) (.pointer (some ⟨(ga (some ⟨j,0,none⟩)),0+(J.l.length-1)*2,none⟩)) (.bool b) (by cases b<;>rfl) (fun h=>by obtain rfl:=h;have aF:=(z).1 rfl;exact qJ (.pointer (some ⟨(ga (some ⟨j,0,none⟩)),0+(J.l.length-1)*2,none⟩)) (mQ ex.T 48 (.slice (some ⟨j,0,none⟩) (J.l.length) J.l.length) (Y (.ofNat (J.l.length-1)))) (fun _=>by kernel_rfl) (sW (k:=.i64) pG hU ((E.BC (N:=J.l.length) (c:=J.l.length) (fun _ _=>rfl) rfl om om).BA rfl (zl ((gh (o rfl) rfl.symm)))) ((o rfl))) (iR ..)) ?_
     refine cg rfl 21 (b) (.agg (fj A).toArray) (.bool b) (by cases b<;>rfl) (fun h=>by obtain rfl:=h;have aF:=(z).1 rfl;exact qJ (.agg (fj A).toArray) (kh ex.T C.get 104 (.pointer (some ⟨(ga (some ⟨j,0,none⟩)),0+(J.l.length-1)*2,none⟩))) (fun _=>by kernel_rfl) (AP kC hU ((E.BC (N:=J.l.length) (c:=J.l.length) (fun _ _=>rfl) rfl om om).pw rfl (zl ((gh (o rfl) rfl.symm)))) (xF (E.BC (N:=J.l.length) (c:=J.l.length) (fun _ _=>rfl) rfl om om).1 (ai rfl))) (zE A)) ?_
     refine cg rfl 21 (b) (.agg (fj e).toArray) (.bool b) (by cases b<;>rfl) (fun h=>by obtain rfl:=h;exact qJ (.agg (fj e).toArray) (kh ex.T C.get 104 (pt jd 0)) (fun _=>by kernel_rfl) (jV kC hU M rfl) (zE e)) ?_
     exact jc.nil
    refine WC.at rfl (WC.gq (b) (GB (b) (Touch A e) (jd+1) C) (.bool b) (g:=f_ (.tmp 21)) rfl U (by cases b<;>rfl) (fun h=>by obtain rfl:b=true:=(by simpa using h);have aF:=(z).1 rfl;exact WC.call 28 118 ([.agg (fj A).toArray,.agg (fj e).toArray]) kf ((UP A e C (jd+1)).mono fun v e9 e_ ⟨⟨c,bh,hc⟩,hn,he⟩=>⟨_,_,_,rfl,⟨c,bh,hc⟩,hn,he⟩)) (fun h=>GB.off h) ?_)
    rintro _ ah ak ⟨⟨aI,rfl,aX⟩,aD,S⟩
    have av:=au.trans S
    have af:=S.get M
    have ax:=ay.mono S aD
    have u:=E.mono S aD
    refine WD.last ?_
    obtain⟨aq,aK,aY⟩:=nA z aX
    refine WN.hZ rfl (WC.mq (v:=.bool aq) 29 (lu (.bool b) ((bif b then .bool aI else undef)) (.bool false)) kf (by rw[aK];exact tL (fun h=>by obtain rfl:b=true:=h;rfl))<|WN.nil ⟨?_,?_⟩)
    ·
     refine co (.bool aq) (lu (.bool b) ((bif b then .bool aI else undef)) (.bool false)) ((by rw[aK];exact tL (fun h=>by obtain rfl:b=true:=h;rfl))) (iO 8 aq) ?_
     exact jc.nil
    refine cq aY (fun aG=>?_) (fun aG=>?_)
    ·
     refine WP.qZ [⟨[0,1,2,3,4,5,6,7],[0,1,2,3,4,5,6,7],some 8⟩,⟨[9],[0,1,9],some 10⟩,⟨[],[],none⟩] U _ rfl<|WD.kZ<|nv 30 (.slice (some ⟨j,0,none⟩) (J.l.length) J.l.length)<|nv 31 (Y (.ofNat (J.l.length-1)))<|nv 32 (.func (.func 120) #[] #[])<|nv 33 (.slice (some ⟨j,0,none⟩) (J.l.length) J.l.length)<|nv 34 (Y (.ofNat (J.l.length-1))) ?_
     have p:J.l.length-1<J.l.length:=by omega
     refine WN.hZ rfl (WC.ix (k:=.i64) (some ⟨j,0,none⟩) (J.l.length) J.l.length (J.l.length-1) 2 U U pG hU ((u.BC (N:=J.l.length) (c:=J.l.length) (fun _ _=>rfl) rfl om om).BA rfl (zl ((gh p rfl.symm)))) (p) ?_)
     obtain⟨B,aj⟩:=gE ((gh p rfl.symm))
     refine WN.hZ rfl (WC.Fq (ga (some ⟨j,0,none⟩)) (0+(J.l.length-1)*2) (fj B) U kC hU ((u.BC (N:=J.l.length) (c:=J.l.length) (fun _ _=>rfl) rfl om om).pw rfl (zl ((gh p rfl.symm)))) (xF (u.BC (N:=J.l.length) (c:=J.l.length) (fun _ _=>rfl) rfl om om).1 aj)<|WN.hZ rfl (WC.iz jd (0) (fj e) U kC hU af rfl<|WN.nil ⟨?_,?_⟩))
     ·
      refine cv (.slice (some ⟨j,0,none⟩) (J.l.length) J.l.length) (u9 ..)<|ci (.ofNat (J.l.length-1))<|cv (.func (.func 120) #[] #[]) U<|cv (.slice (some ⟨j,0,none⟩) (J.l.length) J.l.length) (u9 ..)<|ci (.ofNat (J.l.length-1))<|co (.pointer (some ⟨(ga (some ⟨j,0,none⟩)),0+(J.l.length-1)*2,none⟩)) (mQ ex.T 48 (.slice (some ⟨j,0,none⟩) (J.l.length) J.l.length) (Y (.ofNat (J.l.length-1)))) (sW (k:=.i64) pG hU ((u.BC (N:=J.l.length) (c:=J.l.length) (fun _ _=>rfl) rfl om om).BA rfl (zl ((gh p rfl.symm)))) (p)) (iR ..)<|co (.agg (fj B).toArray) (kh ex.T ah.get 104 (.pointer (some ⟨(ga (some ⟨j,0,none⟩)),0+(J.l.length-1)*2,none⟩))) (AP kC hU ((u.BC (N:=J.l.length) (c:=J.l.length) (fun _ _=>rfl) rfl om om).pw rfl (zl ((gh p rfl.symm)))) (xF (u.BC (N:=J.l.length) (c:=J.l.length) (fun _ _=>rfl) rfl om om).1 aj)) (zE B)<|co (.agg (fj e).toArray) (kh ex.T ah.get 104 (pt jd 0)) (jV kC hU af rfl) (zE e) ?_
      exact jc.nil
     refine WC.at rfl (WC.call 38 120 ([.agg (fj B).toArray,.agg (fj e).toArray]) kf ((UQ B e ah (ak)).mono ?_))
     rintro _ bf bj ⟨rfl,aE,ag⟩
     have a8:=ax.mono ag aE
     have ab:=u.mono ag aE
     refine WD.kZ ?_
     have y:J.l.length-1<J.l.length:=by omega
     refine WN.hZ rfl (WC.ix (k:=.i64) (some ⟨j,0,none⟩) (J.l.length) J.l.length (J.l.length-1) 2 U U pG hU ((ab.BC (N:=J.l.length) (c:=J.l.length) (fun _ _=>rfl) rfl om om).BA rfl (zl ((gh y rfl.symm)))) (y)<|WN.nil ⟨?_,?_⟩)
     ·
      refine cv (.slice (some ⟨j,0,none⟩) (J.l.length) J.l.length) (u9 ..)<|ci (.ofNat (J.l.length-1))<|co (.pointer (some ⟨(ga (some ⟨j,0,none⟩)),0+(J.l.length-1)*2,none⟩)) (mQ ex.T 48 (.slice (some ⟨j,0,none⟩) (J.l.length) J.l.length) (Y (.ofNat (J.l.length-1)))) (sW (k:=.i64) pG hU ((ab.BC (N:=J.l.length) (c:=J.l.length) (fun _ _=>rfl) rfl om om).BA rfl (zl ((gh y rfl.symm)))) (y)) (iR ..) ?_
      exact jc.nil
     refine WC.at rfl (WC.Ye (.agg (fj (both B e)).toArray) (both B e) rfl U U ab (fun _ _=>rfl) (gh y rfl.symm) hU rfl rfl rfl ?_)
     rintro bg ar aP
     obtain⟨L,ae⟩:∃L',L'=J.l.set (J.l.length-1) (both B e):=⟨_,rfl⟩
     rw[<-ae]at ar
     have aQ:L.length=J.l.length:=by rw[ae,List.length_set]
     have aW:B=A:=gb (aj.symm.trans (X om))
     subst aW
     have aa:L=sC J.l e:=by rw[ae];exact(UR (X om) aG.2).symm
     refine WD.last<|WN.nil ⟨?_,?_⟩
     ·
      exact jc.nil
     refine WP.region<|ov 44 (Y (.ofNat (fW+1))) ?_ (fun _ _ _=>by rw[<-gQ (show fW+1<9223372036854775808 by omega)];kernel_rfl)
     refine oN 1<|⟨K.l.length-(fW+1),om,rfl,rfl,fW+1,⟨.slice (some ⟨j,0,none⟩) J.l.length J.l.length,L⟩,om,U,?_,?_,?_,?_⟩
     · exact od
     · exact((av.trans ag).trans aP)
     · rw[Gc W,<-F];exact aa
     · exact .inr ⟨(show 0<L.length by omega),j,aU,(by show Value.slice _ J.l.length J.l.length=Value.slice _ L.length L.length;rw[aQ]),ar⟩
    ·
     refine WP.region<|oX 1<|WO.cons (WC.iz jd (0) (fj e) U kC hU af rfl<|oL [Y e.hY,Y e.gY] fun a7 R aH=>?_)
     have a6:=u.mono R (fh (ak))
     obtain⟨inf,pI,vL⟩:=BN
     refine WO.cons (WC.C4 (enc:=fj) (J:=⟨.slice (some ⟨j,0,none⟩) J.l.length J.l.length,J.l⟩) e rfl U U (ax.mono R (fh (ak))) (uf _) aH rfl pG hU nu pI rfl rfl vL (show J.l.length<=1048576 by omega) om rfl ?_)
     rintro ao jy o_ ad yr ui aw
     have aa:ao.l=sC J.l e:=by rw[ad];exact(SD (X om) (fun h=>aG ⟨om,h⟩)).symm
     refine oN 1<|WP.region<|ov 44 (Y (.ofNat (fW+1))) ?_ (fun _ _ _=>by rw[<-gQ (show fW+1<9223372036854775808 by omega)];kernel_rfl)
     refine oN 1<|⟨K.l.length-(fW+1),om,rfl,rfl,fW+1,ao,om,U,?_,?_,?_,?_⟩
     · exact od
     · exact((av.trans R).trans ui)
     · rw[Gc W,<-F];exact aa
     · exact aw
  ·
   refine WP.exit<|sr<|oW 2 ⟨rfl,rfl,[J.v],U,?_⟩
   have hT:K.l.take fW=K.l:=fJ om
   rw[hT]at F
   exact⟨J,rfl,F,aM.ok (uf _) (by have:=No K.l K.l.length;rw[List.take_length]at this;rw[F];omega),od,jt⟩
 ·
  exact⟨0,⟨.slice none 0 0,[]⟩,om,U,fg _,hE,(by rw[List.take_zero];rfl),mD.nil⟩
end
end Sw
namespace Sw
noncomputable section
open Go Go.Proofs Go.RowKit
set_option maxRecDepth 100000
set_option maxHeartbeats 1600000
def IU(P:List fQ->Prop):Value->Ht->Nat->Prop:=fun v O G=>∃(J:SV fQ) (z:Int),v=.tuple ⟨[J.v,Y z]⟩/\gB fj 2 O G J/\((z=0/\P J.l)\/((z=2\/z=10)/\J.l=[]))
theorem tB{O:Ht}{G:Nat}:gB fj 2 O G ⟨.slice none 0 0,[]⟩:=mD.nil.ok (B:=0) (fun _ _=>rfl) (by decide)
def Yx(K:List fQ)(l:List fQ):Prop:=l=uY K/\xE [K]
def IV(A B:List fQ)(l:List fQ):Prop:=l=uY (A++B)/\l.length<=4096/\xE [A,B]
theorem PM:∃i,ex.T.kn 104=some i/\i.bytes<=1024:=by
 cases h:ex.T.kn 104 with
 |none=>exact absurd (show(ex.T.kn 104).isSome=true by kernel_rfl) (by rw[h];decide)
 |some i=>
  refine⟨i,rfl,?_⟩
  have:((ex.T.kn 104).map fun i=>Nat.ble i.bytes 1024)=some true:=by kernel_rfl
  rw[h]at this
  exact fk (gb this)
theorem W8{a:Option Addr}{k c:Nat}:pR ex.T 48 (.slice a k c)=some (k,false):=by
 have hu:ex.T.jo 48=some (.slice 104):=by kernel_rfl
 simp only[pR,hu]
def W9(W:SV (SV fQ)):Value->Ht->Nat->Prop:=fun v O G=>∃J:SV fQ,v=J.v/\J.l=W.l.flatMap (·.l)/\gB fj 2 O G J
theorem Df(M:zH)(K:SV fQ)(O:Ht)(G:Nat)(hK:gB fj 2 O G K)(X:K.l.length<=1048576):WF ex 65 [K.v] O G (fun v e9 e_=>∃J:SV fQ,v=J.v/\J.l=uY K.l/\gB fj 2 e9 e_ J/\G<=e_/\HE G O e9):=by
 obtain⟨a1,c2,h_⟩:=hK.shape
 have mc:=hK.2.2
 rw[h_]
 refine wd Tryz.f65 10 [.tmp 2] fun hE=>sr<|oN 1<|sr<|oX 1<|WO.cons (WC.call 5 116 ([K.v]) (fun _ _ _=>by(try rw[h_]);kernel_rfl) ((SB K O (G) (hK.mono hE)).mono ?_))
 rintro _ Ev IQ ⟨u,rfl,C,z,Nh,pP⟩
 have p:=hE.trans pP
 refine WO.cons (WC.call 6 115 ([.func (.func 210) #[] #[pt u 0],.func (.func 117) #[] #[]]) kf ((Lt M K 210 #[pt u 0] Ev (IQ) om (fun y Inv F L h1 E N hm hs=>Q3 K y u Inv Ev (IQ) (hK.mono p) C z F L h1 E N hm hs)).mono ?_))
 rintro _ CH US ⟨B,rfl,b,j,aai,xa⟩
 refine oN 1<|sr<|oN 1<|sr<|oX 2<|WO.cons (WC.call 9 119 ([B.v,.func (.func 118) #[] #[],.func (.func 120) #[] #[]]) kf ((W7 B CH (US) (j.mono (HE.refl (US) CH)) (by rw[b,Gd];omega)).mono ?_))
 rintro _ S W ⟨o,rfl,m,e,R,A⟩
 refine oW 1 ⟨rfl,rfl,[o.v],U,?_⟩
 exact⟨o,rfl,by rw[m,b];rfl,e,od,((p.trans xa).trans A)⟩
theorem Q5(F:zH)(K:SV fQ)(O:Ht)(G:Nat)(hK:gB fj 2 O G K)(S:K.l.length<=1048576):WF ex 40 [K.v] O G (fun v e9 e_=>IU (Yx K.l) v e9 e_/\G<=e_/\HE G O e9):=by
 obtain⟨a1,c2,h_⟩:=hK.shape
 have mc:=hK.2.2
 rw[h_]
 refine wd Tryz.f40 12 [.tmp 2,.tmp 3] fun hE=>sr<|oN 2<|WP.seq<|sr<|oX 1<|oL [.slice a1 (K.l.length) c2] fun Ev E C=>?_
 have m:=hE.trans E
 refine WO.cons (WC.call 6 64 ([(⟨.slice (some ⟨G,0,none⟩) 1 1,[K]⟩:SV (SV fQ)).v]) kf ((Ar (⟨.slice (some ⟨G,0,none⟩) 1 1,[K]⟩:SV (SV fQ)) Ev (G+1) ⟨(gB.ny (enc:=lL) (by simp[lL]) C (by show _=[K.v];rw[h_];done) (by decide) om (by simp)),fun y hy=>by rw[List.mem_singleton.1 hy];exact hK.mono m⟩).mono ?_))
 rintro _ A B ⟨⟨p,rfl,W,N,_⟩,J,u⟩
 have xb:=m.trans u
 refine oN 1<|sr<|oX 1 ?_
 refine oq 8 (qS p 0) fun yI FA=>WO.nil<|cq FA (fun o=>?_) (fun o=>?_)
 ·
  refine sr<|oW 3 ⟨rfl,rfl,[.slice none (0) 0,Y p],U,?_⟩
  exact⟨⟨⟨.slice none 0 0,[]⟩,_,rfl,tB,.inr ⟨om,rfl⟩⟩,od,xb⟩
 ·
  refine WP.skip<|sr<|oX 1<|WO.cons (WC.call 11 65 ([K.v]) (fun _ _ _=>by(try rw[h_]);kernel_rfl) ((Df F K A (B) (hK.mono xb) (by first|omega|(simp only[List.length_append, *];omega))).mono ?_))
  rintro _ M R ⟨j,rfl,e,b,L,z⟩
  refine oW 2 ⟨rfl,rfl,[j.v,Y 0],U,?_⟩
  exact⟨⟨j,0,rfl,b,.inl ⟨rfl,e,N (fu.1 o)⟩⟩,od,(xb.trans z)⟩
theorem IW(K:SV fQ)(O:Ht)(G:Nat)(hK:gB fj 2 O G K):WF ex 68 [K.v] O G (fun v e9 e_=>IU (fun l=>l=K.l/\l.length<=4096) v e9 e_/\G<=e_/\HE G O e9):=by
 obtain⟨a1,c2,h_⟩:=hK.shape
 have mc:=hK.2.2
 rw[h_]
 refine wd Tryz.f68 8 [.tmp 2,.tmp 3] fun hE=>sr<|oN 2<|WP.seq<|sr<|oX 2 ?_
 obtain⟨c4,b,p4⟩:=nQ 4096 K.l.length
 refine ob 6 b<|WO.nil<|cq p4 (fun q6=>?_) (fun q6=>?_)
 ·
  refine sr<|oW 2 ⟨rfl,rfl,[.slice none (0) 0,Y 2],U,?_⟩
  exact⟨⟨⟨.slice none 0 0,[]⟩,_,rfl,tB,.inr ⟨.inl rfl,rfl⟩⟩,nR,hE⟩
 ·
  refine WP.skip<|sr<|oW 3 ⟨rfl,rfl,[.slice a1 (K.l.length) c2,Y 0],U,?_⟩
  exact⟨⟨K,0,by rw[h_];rfl,hK.mono hE nR,.inl ⟨rfl,rfl,om⟩⟩,nR,hE⟩
theorem W_(n:Nat)(O:Ht)(G:Nat)(hn:n<=8192):WF ex 122 [.slice none (0) 0,Y (.ofNat n)] O G (fun v e9 e_=>Rm G 2 n e9 e_ v 0 []/\G<=e_/\HE G O e9):=by
 have mL:=fF (e:=ex) 122 Tryz.f122 27 [.tmp 4]
 have nM:=@PM
 have pq:=@pG
 have tj:=@hU
 have Sy:=@nu
 let pK:=(48:Nat)
 let Z6:=(2:Nat)
 exact Yt
theorem SF(W:SV (SV fQ))(O:Ht)(G:Nat)(p:jC lL 1 (fun O G y=>gB fj 2 O G y) O G W)(hs:(W.l.map (fun o=>o.l.length)).sum<=8192):WF ex 69 [W.v] O G (fun v e9 e_=>W9 W v e9 e_/\G<=e_/\HE G O e9):=by
 obtain⟨a1,c2,h_⟩:=p.1.shape
 have mc:=p.1.2.2
 rw[h_]
 refine wd Tryz.f69 36 [.tmp 2] fun hE=>sr<|oN 1<|sr<|oN 1<|WP.seq<|sr<|oN 3<|WP.block ?_
 refine mu [0,3,9,10,11] (fun m hs ns vs=>∃(fW:Nat) (j:Nat),fW+m=W.l.length/\vs=[.slice a1 (W.l.length) c2,Y (.ofNat j),.slice a1 (W.l.length) c2,Y (.ofNat (W.l.length)),Y (.ofNat fW)]/\G<=ns/\HE (G) O hs/\(j=((W.l.take fW).map (fun o=>o.l.length)).sum)) ?_ (W.l.length) ?_
 ·
  rintro ya ql jd _ ⟨fW,j,uz,rfl,oR,jt,F⟩ uA
  have j9:=hE.trans jt
  have S:=ff nR oR
  have aA:j<=8192:=by rw[F,List.map_take];exact ff (xk _ _) hs
  refine sr ?_
  refine oq 12 (kT fW W.l.length) fun nI rY=>WO.nil<|WP.seq<|cq rY (fun xq=>?_) (fun xq=>?_)
  ·
   refine WP.skip<|WP.seq<|WP.block<|sr ?_
   have nL:fW<W.l.length:=by omega
   refine WO.cons (WC.iy h_ p.1 (fW) Be qT (nL) ?_)
   obtain⟨lH,kM⟩:=gE nL
   obtain⟨aa,yI,R⟩:=(p.2 lH (fa kM)).shape
   have ak:=(p.2 lH (fa kM)).2.2
   refine WO.cons (WC.lz (.slice aa (lH.l.length) yI) h_ (p.1.mono j9 nR) kM (by rw[<-R];rfl) ox<|oN 1<|sr<|oX 3<|ov 18 (Y (.ofNat (j+lH.l.length))) ?_ (fun _ _ _=>by rw[<-gQ (show j+lH.l.length<9223372036854775808 by omega)];kernel_rfl))
   refine oN 1<|sr<|oX 1 ?_
   refine oq 20 (zm (j+lH.l.length) 0) fun ay ag=>WO.nil<|cq ag (fun J=>?_) (fun J=>?_)
   ·
    exact absurd J om
   ·
    refine WP.skip<|WP.region<|ov 22 (Y (.ofNat (fW+1))) ?_ (fun _ _ _=>by rw[<-gQ (show fW+1<9223372036854775808 by omega)];kernel_rfl)
    refine oN 1<|⟨W.l.length-(fW+1),om,rfl,rfl,fW+1,j+lH.l.length,om,U,?_,?_,?_⟩
    · exact oR
    · exact jt
    · rw[List.take_add_one,List.map_append,List.sum_append,kM]
      simp only[Option.toList_some,List.map_cons,List.map_nil,List.sum_cons,List.sum_nil]
      omega
  ·
   refine WP.exit<|sr<|oX 1<|WO.cons (WC.call 24 122 ([.slice none 0 0,Y (.ofNat j)]) kf ((W_ (j) ql (jd) om).mono ?_))
   rintro aw aq X ⟨J1,ao,K⟩
   have M:=J1.le S
   refine oN 1<|WP.seq<|sr<|oN 3<|WP.block ?_
   have ad:j=(W.l.map (fun o=>o.l.length)).sum:=by rw[F,List.take_of_length_le om]
   refine mu [6,25,26,27] (fun m hs ns vs=>∃(b:Nat) (E:Value),b+m=W.l.length/\vs=[E,.slice a1 (W.l.length) c2,Y (.ofNat (W.l.length)),Y (.ofNat b)]/\X<=ns/\HE G O hs/\(Rm G 2 j hs ns E (((W.l.take b).map (fun o=>o.l.length)).sum) ((W.l.take b).flatMap (fun o=>o.l.flatMap fj)))) ?_ (W.l.length) ?_
   ·
    rintro au ar av _ ⟨b,E,aj,rfl,L,u,B⟩ an
    refine sr ?_
    refine oq 28 (kT b W.l.length) fun az ah=>WO.nil<|WP.seq<|cq ah (fun ai=>?_) (fun ai=>?_)
    ·
     refine WP.skip<|WP.seq<|WP.block<|sr ?_
     have A:b<W.l.length:=by omega
     refine WO.cons (WC.iy h_ p.1 (b) Be qT (A) ?_)
     obtain⟨z,e⟩:=gE A
     obtain⟨a45,ab,C⟩:=(p.2 z (fa e)).shape
     have al:=(p.2 z (fa e)).2.2
     refine WO.cons (WC.lz (.slice a45 (z.l.length) ab) h_ (p.1.mono u nR) e (by rw[<-C];rfl) ox<|oN 1<|WP.region<|oX 2 ?_)
     obtain⟨inf,pI,vL⟩:=PM
     have af:((W.l.take b).map (fun o=>o.l.length)).sum+z.l.length<=j:=by
      have:=xk (W.l.map (fun o=>o.l.length)) (b+1)
      rw[<-List.map_take,List.take_add_one,List.map_append,List.sum_append,e]at this
      simp only[Option.toList_some,List.map_cons,List.map_nil,List.sum_cons,List.sum_nil]at this
      omega
     refine WO.cons (WC.PE (m:=z.l.length) rfl U U B pG hU nu pI W8 (((p.2 z (fa e)).mono u nR).src C) rfl (nF _ ((p.2 z (fa e)).mono u nR).1) (by simp[List.all_flatMap,fj,xX,Bz]) (by decide) af vL om rfl ?_)
     rintro ax aB ae N
     refine oN 1<|WP.region<|ov 34 (Y (.ofNat (b+1))) ?_ (fun _ _ _=>by rw[<-gQ (show b+1<9223372036854775808 by omega)];kernel_rfl)
     refine oN 1<|⟨W.l.length-(b+1),om,rfl,rfl,b+1,ax,om,U,?_,?_,?_⟩
     · exact L
     · exact(u.trans ae)
     · rw[List.take_add_one,e,List.map_append,List.sum_append,List.flatMap_append]
       simpa using N
    ·
     refine WP.exit<|sr<|oW 2 ⟨rfl,rfl,[E],U,?_⟩
     refine⟨⟨⟨E,W.l.flatMap (·.l)⟩,rfl,rfl,?_⟩,od,u⟩
     have hT:W.l.take b=W.l:=fJ om
     rw[hT]at B
     exact B.ok ad.symm (by rw[List.flatMap_assoc]) (by rw[List.length_flatMap,ad]) (fun x _=>rfl) om
   ·
    exact⟨0,aw,om,U,fg _,(j9.trans K),(by simpa using M)⟩
 ·
  exact⟨0,0,om,U,fg _,HE.refl _ _,(by simp)⟩
end
end Sw
namespace Sw
noncomputable section
open Go Go.Proofs Go.RowKit
set_option maxRecDepth 100000
set_option maxHeartbeats 1600000
theorem Nq(au:zH)(A B:SV fQ)(O:Ht)(G:Nat)(L:gB fj 2 O G A)(M:gB fj 2 O G B):WF ex 32 [A.v,B.v] O G (fun v e9 e_=>IU (IV A.l B.l) v e9 e_/\G<=e_/\HE G O e9):=by
 obtain⟨a1,c2,h_⟩:=L.shape
 have mc:=L.2.2
 rw[h_]
 obtain⟨a4,ao,F⟩:=M.shape
 have aB:=M.2.2
 rw[F]
 refine wd Tryz.f32 21 [.tmp 4,.tmp 5] fun hE=>sr<|oN 2<|WP.seq<|sr<|oX 2<|oL [.slice a1 (A.l.length) c2,.slice a4 (B.l.length) ao] fun ar aq ae=>?_
 have j9:=hE.trans aq
 refine WO.cons (WC.call 9 64 ([(⟨.slice (some ⟨G,0,none⟩) 2 2,[A,B]⟩:SV (SV fQ)).v]) kf ((Ar (⟨.slice (some ⟨G,0,none⟩) 2 2,[A,B]⟩:SV (SV fQ)) ar (G+1) ⟨(gB.ny (enc:=lL) (by simp[lL]) ae (by show _=[A.v,B.v];rw[h_];rw[F];done) (by decide) om (by simp)),fun y hy=>by rcases fT.1 hy with rfl|hy;exact L.mono j9;rw[List.mem_singleton.1 hy];exact M.mono j9⟩).mono ?_))
 rintro _ az e ⟨⟨ab,rfl,aG,aC,_⟩,av,ag⟩
 have o:=j9.trans ag
 refine oN 1<|sr<|oX 1 ?_
 refine oq 11 (qS ab 0) fun Fv Db=>WO.nil<|cq Db (fun aa=>?_) (fun aa=>?_)
 ·
  refine sr<|oW 3 ⟨rfl,rfl,[.slice none (0) 0,Y ab],U,?_⟩
  exact⟨⟨⟨.slice none 0 0,[]⟩,_,rfl,tB,.inr ⟨om,rfl⟩⟩,od,o⟩
 ·
  refine WP.skip<|sr<|oX 2<|oL [.slice a1 (A.l.length) c2,.slice a4 (B.l.length) ao] fun al ah af=>?_
  have b:=o.trans ah
  have m:=aC (fu.1 aa)
  have aE:=m.1 A.l (by simp)
  have aF:=m.1 B.l (by simp)
  refine WO.cons (WC.call 16 69 ([(⟨.slice (some ⟨e,0,none⟩) 2 2,[A,B]⟩:SV (SV fQ)).v]) kf ((SF (⟨.slice (some ⟨e,0,none⟩) 2 2,[A,B]⟩:SV (SV fQ)) al (e+1) ⟨(gB.ny (enc:=lL) (by simp[lL]) af (by show _=[A.v,B.v];rw[h_];rw[F];done) (by decide) om (by simp)),fun y hy=>by rcases fT.1 hy with rfl|hy;exact L.mono b;rw[List.mem_singleton.1 hy];exact M.mono b⟩ (by simp;omega)).mono ?_))
  rintro _ C J ⟨⟨j,rfl,N,p⟩,aw,ai⟩
  have z:j.l=A.l++B.l:=by rw[N];simp
  refine WO.cons (WC.call 17 65 ([j.v]) kf ((Df au j C (J) (p.mono (HE.refl (J) C)) (by rw[z,List.length_append];omega)).mono ?_))
  rintro _ E K ⟨W,rfl,R,u,ax,aj⟩
  refine WO.cons (WC.call 18 68 ([W.v]) kf ((IW W E (K) (u.mono (HE.refl (K) E))).mono ?_))
  rintro _ aA aD ⟨⟨X,ad,rfl,S,an⟩,ay,ak⟩
  refine oW 4 ⟨rfl,rfl,[X.v,Y ad],U,?_⟩
  refine⟨⟨X,ad,rfl,S,?_⟩,od,(((b.trans ai).trans aj).trans ak)⟩
  rcases an with⟨h0,h1,D⟩|⟨h0,h1⟩
  · exact .inl ⟨h0,by rw[h1,R,z],D,m⟩
  · exact .inr ⟨h0,h1⟩
end
end Sw
namespace Sw
noncomputable section
open Go Go.Proofs Go.RowKit
set_option maxRecDepth 100000
set_option maxHeartbeats 1600000
def AX(a b:fQ):fQ:=⟨gy .i64 (a.hY+b.hY),gy .i64 (a.gY+b.gY)⟩
def um(a b:List fQ):List fQ:=a.flatMap fun s=>b.map (AX s)
theorem FB(a b:List fQ):(um a b).length=a.length*b.length:=by
 induction a with
 |nil=>simp[um]
 |cons x a ih=>
  show(b.map (AX x)++um a b).length=_
  rw[List.length_append,ih,List.length_map,List.length_cons,Nat.succ_mul,Nat.add_comm]
theorem Xa{A B:List fQ}{i j:Nat}{x:fQ}(hi:i<A.length)(hj:j<B.length):(um (A.take i) B++(B.take j).map (AX x)).length<(um A B).length:=by
 rw[List.length_append,FB,FB,List.length_map,List.length_take,List.length_take,Nat.min_eq_left om,Nat.min_eq_left om]
 have h:=gJ B.length (show i+1<=A.length by omega)
 rw[Nat.succ_mul]at h
 omega
theorem SG{A B:List fQ}{i:Nat}{x:fQ}(h:A[i]?=some x):um (A.take (i+1)) B=um (A.take i) B++B.map (AX x):=by
 unfold um
 rw[List.take_add_one,h,List.flatMap_append];simp
theorem Xb(A B:SV fQ)(O:Ht)(G:Nat)(o:gB fj 2 O G A)(p:gB fj 2 O G B):WF ex 66 [A.v,B.v] O G (fun v e9 e_=>∃ba bb,v=.func (.func 121) #[] #[pt ba 0,pt bb 0]/\e9.get ba=some (.cells [A.v] gm.plain)/\e9.get bb=some (.cells [B.v] gm.plain)/\ba<e_/\bb<e_/\G<=ba/\G<=bb/\G<=e_/\HE G O e9):=by
 obtain⟨a1,c2,h_⟩:=o.shape
 have mc:=o.2.2
 rw[h_]
 obtain⟨a4,m,u⟩:=p.shape
 have z:=p.2.2
 rw[u]
 refine wd Tryz.f66 6 [.tmp 4] fun hE=>sr<|oB (.slice a1 (A.l.length) c2) [.slice a1 (A.l.length) c2] fun C jt e=>?_
 refine oB (.slice a4 (B.l.length) m) [.slice a4 (B.l.length) m] fun y b j=>?_
 refine oN 1<|sr<|oW 2 ⟨rfl,rfl,[.func (.func 121) #[] #[pt G 0,pt (G+1) 0]],U,?_⟩
 exact⟨_,_,rfl,(b.get e),j,od,(fo (G+1)),om,om,od,((hE.trans jt).trans b)⟩
theorem UT(A B:SV fQ)(y:Value)(z p u ba bb:Nat)(Inv:(Nat->Prop)->List fQ->Ht->Nat->Prop)(Stop:Ht->Nat->Prop)(af:Nat->Prop)(bg:af ba)(bh:af bb)(O:Ht)(G:Nat)(ax:gB fj 2 (j3 [z,p,u] O) G A)(ay:gB fj 2 (j3 [z,p,u] O) G B)(M:Ht)(j:Nat)(aI:M.get ba=some (.cells [A.v] gm.plain))(a_:M.get bb=some (.cells [B.v] gm.plain))(bd:ba<j)(bf:bb<j)(h1:G<=j)(bc:HE G (j3 [z,p,u] O) (j3 [z,p,u] M))(bw:Inv af [] M j)(hm:∀o l a b c d,Inv o l a b->HE b a c->b<=d->Inv (fun q=>o q\/(b<=q/\q<d)) l c d)(hs:∀o l x,l.length<(um A.l B.l).length->∀a b,j<=b->HE G (j3 [z,p,u] O) (j3 [z,p,u] a)->Inv o l a b->WV ex y [.agg (fj x).toArray] a b (fun v c d=>b<=d/\HE G (j3 [z,p,u] a) (j3 [z,p,u] c)/\(∀q,q<b->o q->c.get q=a.get q)/\∃t:Bool,v=.bool t/\(t=true->Inv o (l++[x]) c d)/\(t=false->Stop c d))):WF ex 121 [y,pt ba 0,pt bb 0] M j (fun _ c d=>j<=d/\HE G (j3 [z,p,u] O) (j3 [z,p,u] c)/\((∃o,Inv o (um A.l B.l) c d)\/Stop c d)):=by
 refine wb ⟨Tryz.f121.body.getD .skip,36,[]⟩<|sr ?_
 obtain⟨a1,c2,h_⟩:=ax.shape
 have mc:=ax.2.2
 refine oZ ba (0) (.slice a1 (A.l.length) c2) ox aI (by rw[<-h_];rfl)<|oN 2<|WP.block ?_
 refine mu [0,2,8,9,10] (fun m hs ns vs=>∃(fW:Nat),fW+m=A.l.length/\vs=[y,pt bb 0,.slice a1 (A.l.length) c2,Y (.ofNat (A.l.length)),Y (.ofNat fW)]/\j<=ns/\HE G (j3 [z,p,u] O) (j3 [z,p,u] hs)/\hs.get ba=some (.cells [A.v] gm.plain)/\hs.get bb=some (.cells [B.v] gm.plain)/\(∃o:Nat->Prop,o ba/\o bb/\Inv o (um (A.l.take fW) B.l) hs ns)/\(j<=ns)) ?_ (A.l.length) ?_
 ·
  rintro ya ql jd _ ⟨fW,uz,rfl,oR,jt,aY,aZ,ai,bI⟩ uA
  have aO:=fb bd oR
  have aP:=fb bf oR
  refine sr ?_
  refine oq 11 (kT fW A.l.length) fun bG bj=>WO.nil<|WP.seq<|cq bj (fun bn=>?_) (fun bn=>?_)
  ·
   refine WP.skip<|WP.seq<|WP.block<|sr ?_
   have ab:fW<A.l.length:=by omega
   refine WO.cons (WC.iy h_ ((ax.mono jt).qG) (fW) pG hU (ab) ?_)
   obtain⟨E,ar⟩:=gE ab
   refine WO.cons (WC.ly h_ ((ax.mono jt).qG) ar kC hU<|oA [Y 0,Y 0] nu fun bB K aJ=>?_)
   have aQ:=fb aO (fh (jd))
   have aR:=fb aP (fh (jd))
   refine oS jd (0) (.agg (fj E).toArray) (fj E) (fj E) hU rfl rfl aJ fun bC an aK aq=>?_
   have ak:=(aq bb om).trans (K.get aZ)
   refine WO.nil<|sr ?_
   obtain⟨aD,aE,W⟩:=ay.shape
   have bs:=ay.2.2
   refine oZ bb (0) (.slice aD (B.l.length) aE) ox ak (by rw[<-W];rfl)<|oN 2<|WP.block ?_
   refine mu [0,2,5,8,9,10,14,15,16] (fun m hs ns vs=>∃(e:Nat),e+m=B.l.length/\vs=[y,pt bb 0,pt jd 0,.slice a1 (A.l.length) c2,Y (.ofNat (A.l.length)),Y (.ofNat fW),.slice aD (B.l.length) aE,Y (.ofNat (B.l.length)),Y (.ofNat e)]/\jd+1<=ns/\HE G (j3 [z,p,u] O) (j3 [z,p,u] hs)/\hs.get ba=some (.cells [A.v] gm.plain)/\hs.get bb=some (.cells [B.v] gm.plain)/\hs.get jd=some (.cells (fj E) gm.plain)/\(∃o:Nat->Prop,o ba/\o bb/\o (jd)/\Inv o (um (A.l.take fW) B.l++(B.l.take e).map (AX E)) hs ns)/\(j<=ns)) ?_ (B.l.length) ?_
   ·
    rintro bE aM C _ ⟨e,bp,rfl,R,L,av,aw,a6,aj,bJ⟩ bt
    have aS:=fb aQ R
    have aT:=fb aR R
    have aU:=fb (fo (jd)) R
    refine sr ?_
    refine oq 17 (kT e B.l.length) fun bH bk=>WO.nil<|WP.seq<|cq bk (fun bo=>?_) (fun bo=>?_)
    ·
     refine WP.skip<|WP.seq<|WP.block<|sr ?_
     have ad:e<B.l.length:=by omega
     refine WO.cons (WC.iy W ((ay.mono L).qG) (e) pG hU (ad) ?_)
     obtain⟨F,au⟩:=gE ad
     refine WO.cons (WC.ly W ((ay.mono L).qG) au kC hU<|oA [Y 0,Y 0] nu fun bD J aL=>?_)
     have aV:=fb aS (fh (C))
     have aW:=fb aT (fh (C))
     have aX:=fb aU (fh (C))
     refine oS C (0) (.agg (fj F).toArray) (fj F) (fj F) hU rfl rfl aL fun aN ao al S=>?_
     have ah:=(L.trans (J.j3 (l:=[z,p,u]))).trans (ao.j3 (l:=[z,p,u]))
     have N:=(S jd om).trans (J.get a6)
     refine WO.nil<|sr<|oX 2<|oZ jd 0 (Y E.hY) fy N rfl<|oX 1<|oZ C 0 (Y F.hY) fy al rfl<|oX 2<|oZ jd (0+1) (Y E.gY) fy N rfl<|oX 1<|oZ C (0+1) (Y F.gY) fy al rfl<|oX 2 ?_
     obtain⟨o,aF,aG,aH,a8⟩:=aj
     refine WO.cons (WC.QU 32 y [.agg ⟨[Y (gy .i64 ((E.hY)+(F.hY))),Y (gy .i64 ((E.gY)+(F.gY)))]⟩] kf ((hs _ _ (AX E F) (Xa (x:=E) om om) aN (C+1) om ah (hm _ _ _ _ _ _ a8 (((HE.refl (C) aM).trans J).trans ao) om)).mono ?_))
     rintro _ br ae ⟨bq,aB,Nr,ag,rfl,az,aA⟩
     have aa:=ah.trans aB
     have aC:ag=true↔ag=true:=gk
     refine oq 33 (nN aC) fun bu a7=>WO.nil<|cq a7 (fun X=>?_) (fun X=>?_)
     ·
      refine WP.ret ⟨rfl,rfl,[],U,?_⟩
      exact⟨(show j<=ae by omega),aa,.inr (aA (by simpa using X))⟩
     ·
      refine WP.skip<|WP.region<|ov 34 (Y (.ofNat (e+1))) ?_ (fun _ _ _=>by rw[<-gQ (show e+1<9223372036854775808 by omega)];kernel_rfl)
      refine oN 1<|⟨B.l.length-(e+1),om,rfl,rfl,e+1,om,U,?_,?_,?_,?_,?_,?_,?_⟩
      · exact od
      · exact aa
      · exact((Nr _ aV (.inl aF)).trans ((S ba om).trans (J.get av)))
      · exact((Nr _ aW (.inl aG)).trans ((S bb om).trans (J.get aw)))
      · exact((Nr _ aX (.inl aH)).trans N)
      · rw[List.take_add_one,au];simp only[Option.toList_some,List.map_append,List.map_cons,List.map_nil,<-List.append_assoc];exact⟨_,.inl aF,.inl aG,.inl aH,az (fu.1 X)⟩
      · show j<=ae;omega
    ·
     refine WP.exit<|WP.region<|ov 35 (Y (.ofNat (fW+1))) ?_ (fun _ _ _=>by rw[<-gQ (show fW+1<9223372036854775808 by omega)];kernel_rfl)
     refine oN 1<|⟨A.l.length-(fW+1),om,rfl,rfl,fW+1,om,U,?_,?_,?_,?_,?_,?_⟩
     · exact od
     · exact L
     · exact av
     · exact aw
     · rw[SG ar];have hT:B.l.take e=B.l:=fJ om;rw[hT]at aj;exact aj.imp fun _ h=>⟨h.1,h.2.1,h.2.2.2⟩
     · first|omega|(dsimp only;omega)
   ·
    exact⟨0,om,U,fg _,((jt.trans (K.j3 (l:=[z,p,u]))).trans (an.j3 (l:=[z,p,u]))),((aq ba om).trans (K.get aY)),ak,aK,(by rw[List.take_zero,List.map_nil,List.append_nil];obtain⟨o,bA,hb,bz⟩:=ai;exact⟨_,.inl bA,.inl hb,.inr ⟨om,(fo (jd))⟩,hm _ _ _ _ _ _ bz (((HE.refl (jd) ql).trans K).trans an) od⟩),(show j<=jd+1 by omega)⟩
  ·
   refine WP.exit<|⟨rfl,rfl,[],U,?_⟩
   have hi:A.l.take fW=A.l:=fJ om
   rw[hi]at ai
   exact⟨(show j<=jd by omega),jt,.inl (ai.imp fun _ h=>h.2.2)⟩
 ·
  exact⟨0,om,U,fg _,bc,aI,a_,(by rw[List.take_zero];exact⟨_,bg,bh,bw⟩),nR⟩
end
end Sw
namespace Sw
noncomputable section
open Go Go.Proofs Go.RowKit
set_option maxRecDepth 100000
set_option maxHeartbeats 1600000
section
variable {α:Type}{enc:α->List Value}{n B gr G:Nat}{O e9:Ht}{J:SV α}
theorem mh.te(h:mh enc n B gr O G J)(he:∀c,B<=c->e9.get c=O.get c):mh enc n B gr e9 G J:=by
 rcases h with h|⟨b,ms,h1,D,h3,h4,m,o,e,p,j⟩
 · exact .inl h
 · exact .inr ⟨b,ms,h1,D,(he b e).trans h3,(he gr j).trans h4,m,o,e,p,j⟩
theorem mh.mP(h:mh enc n B gr O G J)(hj:J.l≠[]):B<=gr/\gr<G:=by
 rcases h with h|⟨b,ms,h1,D,h3,h4,m,o,p,e,j⟩
 · exact absurd h.1 hj
 · exact⟨j,e⟩
theorem gB.DW{s:SV α}{L:List Nat}(h:gB enc n O G s)(e:∀q∈L,∀m,O.get q≠some (.cells (s.l.flatMap enc) m)):gB enc n (j3 L O) G s:=by
 refine⟨h.1,?_,h.2.2⟩
 rcases h.2.1 with k|⟨q,cap,m,h1,D,h3,h4,b⟩
 · exact .inl k
 · refine .inr ⟨q,cap,m,h1,D,h3,?_,b⟩
   rw[rX L O fun k=>e q k _ h4];exact h4
theorem UU(l:List fQ):(l.flatMap fj).length=2*l.length:=by
 induction l with
 |nil=>rfl
 |cons x l ih=>rw[List.flatMap_cons,List.length_append,ih];show 2+_=_;simp;omega
theorem Dg{O:Ht}{q:Nat}{v:Value}{b:gm}(h:O.get q=some (.cells [v] b))(l:List fQ)(m:gm):O.get q≠some (.cells (l.flatMap fj) m):=fun k=>by
 rw[h]at k
 have e:[v]=l.flatMap fj:=by injection k with k;injection k
 have:=congrArg List.length e
 rw[UU]at this
 simp at this;omega
end
def FC(e j m N:Nat)(p:td Tm)(o:Nat->Prop)(l:List fQ)(a:Ht)(b:Nat):Prop:=∃(J:SV fQ) (gr:Nat),a.get e=some (.cells [J.v] gm.plain)/\a.get j=some (.cells [Y 0] gm.plain)/\a.get m=some (.loop p)/\J.l=l/\(∀s∈l,uD s)/\mh fj 2 N gr a b J/\(∀q,o q->q<b/\q∉[e,j,m]/\q≠gr)/\(gr=e\/(N<=gr/\gr<b))/\N<=b
def Xc(m e j N:Nat)(o:td Tm)(a:Ht)(b:Nat):Prop:=a.get m=some (.cells [.slice none 0 0] gm.plain)/\(∃z:Int,(z=2\/z=10)/\a.get e=some (.cells [Y z] gm.plain))/\a.get j=some (.loop {o with state:=.done,pending:=some .ret})/\N<=b
theorem FC.mono{p m o N:Nat}{u:td Tm}(h1:p<N)(D:m<N)(h3:o<N):∀(j:Nat->Prop) (l:List fQ) (a:Ht) (b:Nat) (c:Ht) (d:Nat),FC p m o N u j l a b->HE b a c->b<=d->FC p m o N u (fun q=>j q\/(b<=q/\q<d)) l c d:=by
 rintro j l a b c d ⟨J,gr,y,z,A,B,C,E,F,K,L⟩ he hd
 refine⟨J,gr,he.get y om,he.get z om,he.get A om,B,C,E.mono he hd,fun q e=>?_,om,om⟩
 rcases e with e|e
 · have:=F q e
   exact⟨om,this.2⟩
 · exact⟨e.2,by simp;omega,om⟩
def Ns(A B:List fQ)(l:List fQ):Prop:=l=uY (um (uY A) (uY B))/\l.length<=4096/\xE [A,B]/\∀s∈um (uY A) (uY B),uD s
theorem gB.Yy{O e9:Ht}{G b:Nat}{s:SV fQ}{v:Value}{u:gm}(h:gB fj 2 O G s)(p:O.get b=some (.cells [v] u))(o:∀q,q≠b->e9.get q=O.get q):gB fj 2 e9 G s:=by
 refine⟨h.1,?_,h.2.2⟩
 rcases h.2.1 with k|⟨q,cap,m,h1,D,h3,h4,j⟩
 · exact .inl k
 · refine .inr ⟨q,cap,m,h1,D,h3,?_,j⟩
   have:q≠b:=fun e=>by rw[e]at h4;exact Dg p _ _ h4
   rw[o q this];exact h4
theorem gB.aaj{O b:Ht}{G r:Nat}{s:SV fQ}(h:gB fj 2 O G s)(hd:O.get r=some (.deferred (some [])))(hx:b=O.set r (some (.deferred none))):gB fj 2 b G s:=by
 refine⟨h.1,?_,h.2.2⟩
 rcases h.2.1 with k|⟨q,cap,m,h1,D,h3,h4,j⟩
 · exact .inl k
 · refine .inr ⟨q,cap,m,h1,D,h3,?_,j⟩
   have:q≠r:=fun e=>by rw[e,hd]at h4;cases h4
   rw[hx,Tr.gG _ _ this];exact h4
theorem qc:ex.T.agg 51=some false:=U
theorem qU:ex.T.size 51=some 1:=U
theorem Hz:ex.T.zero 48=some (.slice none (0) 0):=U
theorem Nt:ex.T.zero 51=some (Y 0):=U
theorem Q6(eP:zH)(A B:SV fQ)(O:Ht)(G:Nat)(cH:gB fj 2 O G A)(cI:gB fj 2 O G B):WF ex 31 [A.v,B.v] O G (fun v e9 e_=>IU (Ns A.l B.l) v e9 e_/\G<=e_/\HE G O e9):=by
 obtain⟨a1,c2,h_⟩:=cH.shape
 have mc:=cH.2.2
 rw[h_]
 obtain⟨a4,c5,ck⟩:=cI.shape
 have nEQ:=cI.2.2
 rw[ck]
 refine WF.Wf (fi:=⟨Tryz.f31.body.getD .skip,42,[.cell 4 48,.cell 5 51]⟩) U U U rfl rfl ?_
 have hE:=HE.refl G O
 refine sr<|oA [.slice none (0) 0] Hz fun nE1 jt e4=>?_
 have eQ:=hE.trans jt nR
 have ct:=ff nR (fh (G))
 refine oA [Y 0] Nt fun nEN b_ e5=>?_
 have eR:=eQ.trans b_ ct
 have e6:=b_.get e4 (fo (G))
 have cw:=fb (fo (G)) (fh (G+1))
 have cu:=ff ct (fh (G+1))
 refine WO.nil<|WP.seq<|sr<|oX 2<|oL [.slice a1 (A.l.length) c2,.slice a4 (B.l.length) c5] fun nDX aZ e7=>?_
 have aU:=eR.trans aZ cu
 have e8:=aZ.get e6 cw
 have cx:=fb cw (fh (G+1+1))
 have nDH:=aZ.get e5 (fo (G+1))
 have cy:=fb (fo (G+1)) (fh (G+1+1))
 have aK:=ff cu (fh (G+1+1))
 refine WO.cons (WC.call 10 64 ([(⟨.slice (some ⟨(G+1+1),0,none⟩) 2 2,[A,B]⟩:SV (SV fQ)).v]) kf ((Ar (⟨.slice (some ⟨(G+1+1),0,none⟩) 2 2,[A,B]⟩:SV (SV fQ)) nDX (G+1+1+1) ⟨(gB.ny (enc:=lL) (by simp[lL]) e7 (by show _=[A.v,B.v];rw[h_];rw[ck];done) (by decide) om (by simp)),fun y hy=>by rcases fT.1 hy with rfl|hy;exact cH.mono aU aK;rw[List.mem_singleton.1 hy];exact cI.mono aU aK⟩).mono ?_))
 rintro _ nEO nD3 ⟨⟨p,rfl,nE3,hz,_⟩,a8,a6⟩
 have eU:=aU.trans a6 aK
 have nDI:=a6.get e8 cx
 have cz:=fb cx a8
 have nDJ:=a6.get nDH cy
 have cA:=fb cy a8
 have aL:=ff aK a8
 refine oS (G+1) (0) (Y p) [Y p] [Y p] qU rfl rfl nDJ fun pU nDP au nDT=>?_
 have aV:=eU.trans nDP om
 have b8:=(nDT G om).trans nDI
 refine WO.nil<|sr<|oZ (G+1) (0) (Y p) qc au rfl ?_
 refine oq 12 (qS p 0) fun nEV nEl=>WO.nil<|cq nEl (fun cE=>?_) (fun cE=>?_)
 ·
  refine WP.seq<|WP.qZ [⟨[0],[0],some 1⟩,⟨[],[0],some 2⟩,⟨[],[],none⟩] U _ rfl<|WD.kZ<|WN.hZ rfl (WC.jW (G+1) (0) (Y p) U qc au rfl<|WN.nil ⟨?_,?_⟩)
  ·
   refine qk (G+1) 0 (Y p) qc au rfl (iF ..) ?_
   exact jc.nil
  refine WC.at rfl (WC.u_ G (0) (.slice none (0) 0) [.slice none (0) 0] [.slice none (0) 0] [.slice none (0) 0] 1 rfl U U qT rfl rfl b8 rfl rfl rfl ?_)
  obtain⟨vC,cm,nDQ,nDK,nDU⟩:=stored pU G (.cells [.slice none (0) 0] gm.plain)
  rw[cm];clear cm
  have w_:=aV.trans nDQ om
  have yJ:=(nDU (G+1) om).trans au
  refine WD.kZ<|WN.nil ⟨?_,?_⟩
  ·
   refine qk (G+1) 0 (Y p) qc yJ rfl (iF ..) ?_
   exact jc.nil
  refine WC.at rfl (WC.u_ (G+1) (0) (Y p) [Y p] [Y p] [Y p] 1 rfl U U qU rfl rfl yJ rfl rfl rfl ?_)
  obtain⟨nEP,cn,nDR,nDL,nDV⟩:=stored vC (G+1) (.cells [Y p] gm.plain)
  rw[cn];clear cn
  have eV:=w_.trans nDR om
  have nDM:=(nDV G om).trans nDK
  refine WD.last<|WN.nil ⟨?_,?_⟩
  ·
   exact jc.nil
  refine WP.ret ⟨rfl,.inl ⟨rfl,[.slice none (0) 0,Y p],(qy (by rw[show(f_ (.tmp 4)).run _=pt G 0 from by kernel_rfl];exact ki ox nDM rfl) (by rw[show(f_ (.tmp 5)).run _=pt (G+1) 0 from by kernel_rfl];exact ki qc nDL rfl)),?_⟩⟩
  exact⟨⟨⟨.slice none 0 0,[]⟩,_,rfl,tB,.inr ⟨om,rfl⟩⟩,aL,eV⟩
 ·
  refine WP.skip<|sr<|oX 1 ?_
  have bX:=hz (fu.1 cE)
  have nD8:=bX.1 A.l (by simp)
  have nD9:=bX.1 B.l (by simp)
  refine WO.cons (WC.call 15 65 ([A.v]) (fun _ _ _=>by(try rw[h_]);kernel_rfl) ((Df eP A pU (nD3) (cH.mono aV aL) om).mono ?_))
  rintro _ J4 bf ⟨C,rfl,az,N,a_,a7⟩
  have bY:=aV.trans a7 aL
  have nDN:=a7.get b8 cz
  have cB:=fb cz a_
  have nDO:=a7.get au cA
  have cC:=fb cA a_
  have bd:=ff aL a_
  have nDY:=HE.refl (bf) J4
  have cF:=fg (bf)
  refine oX 1<|WO.cons (WC.call 17 65 ([B.v]) (fun _ _ _=>by(try rw[ck]);kernel_rfl) ((Df eP B J4 (bf) (cI.mono bY bd) om).mono ?_))
  rintro _ cf bg ⟨E,rfl,aA,R,aE,aD⟩
  have bZ:=bY.trans aD bd
  have b9:=aD.get nDN cB
  have bP:=fb cB aE
  have bq:=aD.get nDO cC
  have bQ:=fb cC aE
  have bH:=nDY.trans aD cF
  have aP:=ff cF aE
  have bN:=ff bd aE
  have bI:=HE.refl (bg) cf
  have aQ:=fg (bg)
  refine oN 2<|WP.seq<|sr<|oX 1 ?_
  obtain⟨nEE,nEG,eh⟩:=N.shape
  have nEh:=N.2.2
  refine ov 19 (Y (.ofNat (C.l.length))) ?_ (fun _ _ _=>by rw[eh];kernel_rfl)
  refine oX 1 ?_
  obtain⟨nEF,nEH,ei⟩:=R.shape
  have nEi:=R.2.2
  refine ov 21 (Y (.ofNat (E.l.length))) ?_ (fun _ _ _=>by rw[ei];kernel_rfl)
  refine oX 1 ?_
  refine oq 23 (mE 65536 (gy .i64 (.ofNat C.l.length*.ofNat E.l.length))) fun nEI nD4=>WO.nil<|cq nD4 (fun cD=>?_) (fun cD=>?_)
  ·
   refine sr<|oS G (0) (.slice none (0) 0) [.slice none (0) 0] [.slice none (0) 0] qT rfl rfl b9 fun nEt dR c0 dW=>?_
   have cJ:=bZ.trans dR om
   have c3:=(dW (G+1) om).trans bq
   refine oS (G+1) (0) (Y 2) [Y 2] [Y 2] qU rfl rfl c3 fun nEu dS c6 dX=>?_
   have cK:=cJ.trans dS om
   have c7:=(dX G om).trans c0
   refine wr ⟨rfl,.inl ⟨rfl,[.slice none (0) 0,Y 2],(qy (by rw[show(f_ (.tmp 4)).run _=pt G 0 from by kernel_rfl];exact ki ox c7 rfl) (by rw[show(f_ (.tmp 5)).run _=pt (G+1) 0 from by kernel_rfl];exact ki qc c6 rfl)),?_⟩⟩
   exact⟨⟨⟨.slice none 0 0,[]⟩,_,rfl,tB,.inr ⟨om,rfl⟩⟩,bN,cK⟩
  ·
   refine WP.skip<|WP.seq<|sr<|oX 2<|WO.cons (WC.call 26 66 ([C.v,E.v]) kf ((Xb C E cf (bg) (N.mono bH aP) (R.mono bI aQ)).mono ?_))
   rintro _ bB e ⟨ba,bb,rfl,nEa,nEb,cc,cd,nEY,nEZ,ak,W⟩
   have cL:=bZ.trans W bN
   have c8:=W.get b9 bP
   have eu:=fb bP ak
   have c9:=W.get bq bQ
   have aM:=fb bQ ak
   have d_:=bH.trans W aP
   have eE:=ff aP ak
   have ea:=bI.trans W aQ
   have eF:=ff aQ ak
   refine WO.nil<|WP.block ?_
   obtain⟨nEC,nEn⟩:∃q,q=e:=⟨_,rfl⟩
   refine WP.M3 (.func (.func 121) #[] #[pt ba 0,pt bb 0]) U fun aO aS=>?_
   obtain⟨af,bM⟩:∃h:Ht,h=(bB.set (e) (some (.deferred (some [])))).set (e+1) (some (.loop aO)):=⟨_,rfl⟩
   rw[<-bM]
   have eK:af.get (e)=some (.deferred (some [])):=by rw[bM];exact(Tr.gG _ _ om).trans (Tr.ig ..)
   have cb:af.get (e+1)=some (.loop aO):=by rw[bM];exact Tr.ig ..
   have av:HE (e) bB af:=by rw[bM];exact(HE.set _ _ nR).trans (HE.set _ _ (fh _)) nR
   have aY:=av.get c8 eu
   have aB:=av.get c9 aM
   have eW:=av.get nEa cc
   have eX:=av.get nEb cd
   have eI:HE G O af:=cL.trans av om
   have nEM:G+2<=e:=by have:=aM;omega
   have eY:gB fj 2 (j3 [G,((G+1)),(e+1)] af) (e+1+1) C:=(((N.mono d_ eE)).mono av om).DW (by
    intro q j m
    rcases fT.1 j with rfl|j
    · exact Dg aY _ _
    rcases fT.1 j with rfl|j
    · exact Dg aB _ _
    · rw[List.mem_singleton.1 j,cb];intro h;cases h)
   have eZ:gB fj 2 (j3 [G,((G+1)),(e+1)] af) (e+1+1) E:=(((R.mono ea eF)).mono av om).DW (by
    intro q j m
    rcases fT.1 j with rfl|j
    · exact Dg aY _ _
    rcases fT.1 j with rfl|j
    · exact Dg aB _ _
    · rw[List.mem_singleton.1 j,cb];intro h;cases h)
   have nEB:(um C.l E.l).length<=65536:=by
    have ha:C.l.length<=4096:=by rw[az];exact ff (KU _) nD8
    have hb:E.l.length<=4096:=by rw[aA];exact ff (KU _) nD9
    have hm:=Nat.mul_le_mul ha hb
    rw[FB]
    have hw:gy .i64 (.ofNat C.l.length*.ofNat E.l.length)=.ofNat (C.l.length*E.l.length):=wrapN (n:=C.l.length*E.l.length) om
    have j:=cD
    rw[hw]at j
    have nE2:¬(65536<((C.l.length*E.l.length:Nat):Int)):=j
    omega
   have BX:p=0:=fu.1 cE
   refine(WV.func (f:=121) (show WF ex 121 (.func (.yield (e+1)) #[] #[]::(#[pt ba 0,pt bb 0]:Array Value).toList) af (e+1+1) _ from(UT C E (.func (.yield (e+1)) #[] #[]) (G) ((G+1)) (e+1) ba bb (FC (G) ((G+1)) (e+1) (e+1+1) aO) (Xc (G) ((G+1)) (e+1) (e+1+1) aO) (fun q=>q=ba\/q=bb) (.inl rfl) (.inr rfl) af (e+1+1) eY eZ af (e+1+1) eW eX (by have:=cc;omega) (by have:=cd;omega) nR (HE.refl _ _) ?_ (FC.mono om om om) ?_))).mono ?_
   · refine⟨⟨.slice none 0 0,[]⟩,G,aY,(by rw[aB,BX]),cb,rfl,(fun _ h=>by cases h),mh.nil,fun q j=>?_,.inl rfl,Nat.le_refl _⟩
     have:=aM;have:=cc;have:=cd
     rcases j with rfl|rfl<;>exact⟨om,by simp;omega,om⟩
   ·
    rintro Pr l x jH a b hb nEX ⟨J,gr,cp,cr,bV,bc,k5,k6,en,k8,k9⟩
    have nEW:J.l.length<=65536:=by rw[bc];omega
    have nEd:G<(e+1+1):=by omega
    have nEc:((G+1))<(e+1+1):=by omega
    refine WV.round (aO.tmps.set 27 (.agg (fj x).toArray)) bV rfl (by rw[aS]) (by rw[aS];rfl) ?_
    subst aS
    have eb:=HE.refl (b) a
    have eG:=fg (b)
    refine WP.region<|oA [Y 0,Y 0] nu fun nEv X c_=>?_
    have cM:=(HE.refl b (j3 [G,((G+1)),(e+1),gr] a)).trans (X.j3 (l:=[G,((G+1)),(e+1),gr])) nR
    have da:=X.get cp (show G<b by omega)
    have bR:=fb (show G<b by omega) (fh (b))
    have db:=X.get cr (show(G+1)<b by omega)
    have bS:=fb (show(G+1)<b by omega) (fh (b))
    have dc:=X.get bV (show(e+1)<b by omega)
    have bT:=fb (show(e+1)<b by omega) (fh (b))
    have ec:=eb.trans X eG
    have aJ:=ff nR (fh (b))
    refine oS b (0) (.agg (fj x).toArray) (fj x) (fj x) hU rfl rfl c_ fun nEw bz dd aF=>?_
    have cN:=cM.trans (bz.j3 (l:=[G,((G+1)),(e+1),gr])) om
    have ee:=ec.trans bz om
    have de:=(aF G om).trans da
    have df:=(aF (G+1) om).trans db
    have dg:=(aF (e+1) om).trans dc
    refine WO.nil<|⟨rfl,dg,fun eL nEf aR=>?_⟩
    have nD_:mh fj 2 (e+1+1) gr eL (b+1) J:=(k6.mono ee (show b<=b+1 by omega)).te (fun q j=>aR q om)
    have cO:=cN.trans (HE.oH (B:=b+1) (l:=[G,((G+1)),(e+1),gr]) fun q _ j=>aR q fun h=>j (by rw[h];simp)) aJ
    have dh:=(aR G om).trans de
    have di:=(aR (G+1) om).trans df
    have br:=(aR b om).trans dd
    refine WP.block<|WP.seq<|sr<|WO.cons (WC.iz b (0) (fj x) U kC hU br rfl<|WO.cons (WC.call 29 67 ([.agg (fj x).toArray]) kf ((Fz x eL (b+1)).mono ?_)))
    rintro _ nEx u ⟨⟨o,rfl,ej,dV⟩,ab,F⟩
    have cP:=cO.trans (F.j3 (l:=[G,((G+1)),(e+1),gr])) aJ
    have dj:=F.get dh bR
    have ew:=fb bR ab
    have dm:=F.get di bS
    have ey:=fb bS ab
    have dn:=F.get nEf bT
    have ez:=fb bT ab
    have dp:=F.get br (fo (b))
    have ag:=ff aJ ab
    have cX:=nD_.mono F ab
    refine oS (G+1) (0) (Y o) [Y o] [Y o] qU rfl rfl dm fun bC nEo S ad=>?_
    have bk:=cP.trans (HE.oH (B:=u) (l:=[G,((G+1)),(e+1),gr]) fun q _ j=>ad q fun h=>j (by rw[h];simp)) ag
    have bo:=cX.te (e9:=bC) (fun q j=>ad q om)
    have aC:=(ad G om).trans dj
    have bs:=(ad (e+1) om).trans dn
    have dq:=(ad b om).trans dp
    refine WO.nil<|sr<|oZ (G+1) (0) (Y o) qc S rfl ?_
    refine oq 31 (qS o 0) fun nEJ nD5=>WO.nil<|cq nD5 (fun bj=>?_) (fun bj=>?_)
    ·
     refine WP.seq<|WP.qZ [⟨[0],[0],some 1⟩,⟨[],[0],some 2⟩,⟨[],[],none⟩] U _ rfl<|WD.kZ<|WN.hZ rfl (WC.jW (G+1) (0) (Y o) U qc S rfl<|WN.nil ⟨?_,?_⟩)
     ·
      refine qk (G+1) 0 (Y o) qc S rfl (iF ..) ?_
      exact jc.nil
     refine WC.at rfl (WC.u_ G (0) (.slice none (0) 0) [J.v] [.slice none (0) 0] [.slice none (0) 0] 1 rfl U U qT rfl rfl aC rfl rfl rfl ?_)
     obtain⟨bD,bK,nEp,dr,an⟩:=stored bC G (.cells [.slice none (0) 0] gm.plain)
     rw[bK];clear bK
     have cQ:=bk.trans (HE.oH (B:=u) (l:=[G,((G+1)),(e+1),gr]) fun q _ j=>an q fun h=>j (by rw[h];simp)) ag
     have cY:=bo.te (e9:=bD) (fun q j=>an q om)
     have bt:=(an (G+1) om).trans S
     have dt:=(an (e+1) om).trans bs
     refine WD.kZ<|WN.nil ⟨?_,?_⟩
     ·
      refine qk (G+1) 0 (Y o) qc bt rfl (iF ..) ?_
      exact jc.nil
     refine WC.at rfl (WC.u_ (G+1) (0) (Y o) [Y o] [Y o] [Y o] 1 rfl U U qU rfl rfl bt rfl rfl rfl ?_)
     obtain⟨dY,bL,nEq,du,ao⟩:=stored bD (G+1) (.cells [Y o] gm.plain)
     rw[bL];clear bL
     have bl:=cQ.trans (HE.oH (B:=u) (l:=[G,((G+1)),(e+1),gr]) fun q _ j=>ao q fun h=>j (by rw[h];simp)) ag
     have nEm:=cY.te (e9:=dY) (fun q j=>ao q om)
     have dv:=(ao G om).trans dr
     have dw:=(ao (e+1) om).trans dt
     refine WD.last<|WN.nil ⟨?_,?_⟩
     ·
      exact jc.nil
     refine WP.ret ⟨rfl,dw,fun nEg ca K=>⟨(show b<=u by omega),(HE.oH fun q j hn=>(K q (fun h=>hn (by rw[h];simp))).trans (bl.rK om (by simp at hn⊢;omega))),(fun q j b7=>by obtain⟨p1,bh,p3⟩:=en q b7;exact(K q (fun h=>bh (by rw[h];simp))).trans (bl.rK j (by simp at bh⊢;omega))),false,rfl,(fun h=>by cases h),fun _=>⟨(K _ om).trans dv,⟨o,.inr (dV.resolve_left bj),(K _ om).trans du⟩,ca,(show(e+1+1)<=u by omega)⟩⟩⟩
    ·
     refine WP.skip<|WP.region<|oZ G (0) (J.v) ox aC rfl<|WO.cons (WC.iz b (0) (fj x) U kC hU dq rfl<|oL [Y x.hY,Y x.gY] fun nEy aa dx=>?_)
     have cR:=bk.trans (aa.j3 (l:=[G,((G+1)),(e+1),gr])) ag
     have dy:=aa.get aC ew
     have dz:=aa.get S ey
     have dA:=aa.get bs ez
     have bO:=ff ag (fh (u))
     have cZ:=bo.mono aa (fh (u))
     obtain⟨inf,pI,vL⟩:=BN
     refine WO.cons (WC.M1 (enc:=fj) (J:=J) x rfl U U cZ (uf _) dx rfl pG hU nu pI rfl rfl vL om om rfl ?_)
     rintro cG jy o_ nD7 aW yr nEe ui eJ nDS
     have cS:=cR.trans (HE.oH (B:=u+1) (l:=[G,((G+1)),(e+1),gr]) fun q j hn=>nEe q j fun _ h=>hn (by rw[h];simp)) bO
     have ep:=ff bO yr
     have dB:=(ui _ om).trans dy
     have dC:=(ui _ om).trans dz
     have dD:=(ui _ om).trans dA
     have b6:=eJ.ok (uf _) (by rw[aW,List.length_append];simp;omega)
     refine oS G (0) (cG.v) [cG.v] [cG.v] qT b6.cells (fe.2 ⟨rfl,by rw[List.all_cons,b6.one];rfl⟩) dB fun dZ nEr dE aq=>?_
     have bn:=cS.trans (HE.oH (B:=o_) (l:=[G,((G+1)),(e+1),gr]) fun q _ j=>aq q fun h=>j (by rw[h];simp)) ep
     have bp:=eJ.te (e9:=dZ) (fun q j=>aq q om)
     have dF:=(aq (G+1) om).trans dC
     have dG:=(aq (e+1) om).trans dD
     refine WO.nil ?_
     have eM:o=0:=fu.1 bj
     refine⟨rfl,dG,fun nEg ca K=>⟨(show b<=o_ by omega),(HE.oH fun q j hn=>(K q (fun h=>hn (by rw[h];simp))).trans (bn.rK om (by simp at hn⊢;omega))),(fun q j b7=>by obtain⟨p1,bh,p3⟩:=en q b7;exact(K q (fun h=>bh (by rw[h];simp))).trans (bn.rK j (by simp at bh⊢;omega))),true,rfl,fun _=>⟨cG,nD7,(K _ om).trans dE,(by rw[(K _ om).trans dF,eM]),ca,by rw[aW,bc],?_,bp.te (fun q j=>K q om),fun q b7=>?_,.inr (bp.mP (by rw[aW];simp)),(show(e+1+1)<=o_ by omega)⟩,(fun h=>by cases h)⟩⟩
     · intro s hs;rcases fR.1 hs with hs|hs;exact k5 s hs;rw[List.mem_singleton.1 hs];exact ej.1 eM
     · obtain⟨p1,bh,p3⟩:=en q b7;exact⟨(show q<o_ by omega),bh,by rcases nDS with⟨_,h⟩|h;rw[h];exact p3;omega⟩
   ·
    rintro _ aI M ⟨nE0,bA,dQ⟩
    have nEd:G<(e+1+1):=by omega
    have nEc:((G+1))<(e+1+1):=by omega
    rcases dQ with⟨Pr,J,gr,cp,cr,bV,bc,k5,k6,en,k8,k9⟩|⟨cp,⟨z,nEk,cr⟩,bV,bc⟩
    ·
     refine⟨aO,0,bV,(fun h=>by rw[aS]at h;cases h),by rw[aS];rfl,?_⟩
     obtain⟨ae,aT⟩:∃h:Ht,h=aI.set (e+1) (some (.loop {aO with state:=.exhausted})):=⟨_,rfl⟩
     rw[<-aT]
     have L:∀q,q≠(e+1)->ae.get q=aI.get q:=fun q j=>by rw[aT];exact Tr.gG _ _ j
     have b0:HE G O ae:=fun q j=>(L q om).trans ((bA.rK om (by simp;omega)).trans (eI q j))
     have eo:=(L (G) om).trans cp
     have kE:=(L ((G+1)) om).trans cr
     have kD:=(L (e) om).trans ((bA.rK om (by simp;omega)).trans eK)
     have kG:=k6.te (e9:=ae) (fun q j=>L q om)
     have aX:=kG.ok (uf _) (by rw[bc];omega)
     refine sr ?_
     obtain⟨eN,eO,bJ⟩:=aX.shape
     have nEj:=aX.2.2
     refine oZ G (0) (.slice eN (J.l.length) eO) ox eo (by rw[<-bJ];rfl)<|WO.cons (WC.call 38 65 ([J.v]) (fun _ _ _=>by(try rw[bJ]);kernel_rfl) ((Df eP J ae (M) aX (by rw[bc];omega)).mono ?_))
     rintro _ bE aN ⟨bW,rfl,b5,bU,al,ai⟩
     have cT:=b0.trans ai (show G<=M by omega)
     have dH:=ai.get eo (show G<M by omega)
     have eA:=fb (show G<M by omega) al
     have dI:=ai.get kE (show(G+1)<M by omega)
     have eB:=fb (show(G+1)<M by omega) al
     have dJ:=ai.get kD (show e<M by omega)
     have eC:=fb (show e<M by omega) al
     have et:=ff (show G<=M by omega) al
     have ef:=HE.refl (aN) bE
     have eH:=fg (aN)
     refine WO.cons (WC.call 39 68 ([bW.v]) kf ((IW bW bE (aN) (bU.mono ef eH)).mono ?_))
     rintro _ nEz eD ⟨⟨ar,ay,rfl,ax,eg⟩,nEs,aj⟩
     have cU:=cT.trans aj et
     have bu:=aj.get dH eA
     have dK:=aj.get dI eB
     have dL:=aj.get dJ eC
     refine oX 2<|oS G (0) (ar.v) [ar.v] [ar.v] qT ax.cells (fe.2 ⟨rfl,by rw[List.all_cons,ax.one];rfl⟩) bu fun nEA dT dM aG=>?_
     have cV:=cU.trans dT om
     have bw:=(aG (G+1) om).trans dK
     have dN:=(aG e om).trans dL
     refine oS (G+1) (0) (Y ay) [Y ay] [Y ay] qU rfl rfl bw fun bG dU dO aH=>?_
     have cW:=cV.trans dU om
     have dP:=(aH G om).trans dM
     have bx:=(aH e om).trans dN
     refine WO.nil ?_
     obtain⟨cj,ah⟩:∃h:Ht,h=bG.set (e) (some (.deferred none)):=⟨_,rfl⟩
     have aw:∀q,q≠e->cj.get q=bG.get q:=fun q j=>by rw[ah];exact Tr.gG _ _ j
     have b4:=(aw (G) om).trans dP
     have b3:=(aw ((G+1)) om).trans dO
     refine WP.ret ⟨rfl,.inr ⟨e,rfl,bx,[ar.v,Y ay],(by rw[<-ah];exact qy (by rw[show(f_ (.tmp 4)).run _=pt G 0 from by kernel_rfl];exact ki ox b4 rfl) (by rw[show(f_ (.tmp 5)).run _=pt ((G+1)) 0 from by kernel_rfl];exact ki qc b3 rfl)),?_⟩⟩
     rw[<-ah]
     have nDW:=(((ax.Yy bu aG).Yy bw aH)).aaj bx ah
     refine⟨⟨ar,ay,rfl,nDW,?_⟩,(show G<=eD by omega),(fun q j=>(aw q om).trans (cW q j))⟩
     rcases eg with⟨h0,h1,D⟩|⟨h0,h1⟩
     · refine .inl ⟨h0,?_,D,bX,by rw[<-az,<-aA];exact k5⟩
       rw[h1,b5,bc,az,aA]
     · exact .inr ⟨h0,h1⟩
    ·
     refine⟨{aO with state:=.done,pending:=some .ret},1,bV,(fun h=>by cases h),rfl,?_⟩
     obtain⟨ae,aT⟩:∃h:Ht,h=aI.set (e+1) (some (.loop {({aO with state:=.done,pending:=some .ret}:td Tm)with state:=.exhausted})):=⟨_,rfl⟩
     rw[<-aT]
     have L:∀q,q≠(e+1)->ae.get q=aI.get q:=fun q j=>by rw[aT];exact Tr.gG _ _ j
     have b0:HE G O ae:=fun q j=>(L q om).trans ((bA.rK om (by simp;omega)).trans (eI q j))
     have eo:=(L (G) om).trans cp
     have kE:=(L ((G+1)) om).trans cr
     have kD:=(L (e) om).trans ((bA.rK om (by simp;omega)).trans eK)
     obtain⟨cj,ah⟩:∃h:Ht,h=ae.set (e) (some (.deferred none)):=⟨_,rfl⟩
     have aw:∀q,q≠e->cj.get q=ae.get q:=fun q j=>by rw[ah];exact Tr.gG _ _ j
     have b4:=(aw (G) om).trans eo
     have b3:=(aw ((G+1)) om).trans kE
     show Nat.ble 1 1=true/\_
     refine⟨rfl,.inr ⟨e,rfl,kD,[.slice none 0 0,Y z],(by rw[<-ah];exact qy (by rw[show(f_ (.tmp 4)).run _=pt G 0 from by kernel_rfl];exact ki ox b4 rfl) (by rw[show(f_ (.tmp 5)).run _=pt ((G+1)) 0 from by kernel_rfl];exact ki qc b3 rfl)),?_⟩⟩
     rw[<-ah]
     exact⟨⟨⟨.slice none 0 0,[]⟩,z,rfl,tB,.inr ⟨nEk,rfl⟩⟩,(show G<=M by omega),(fun q j=>(aw q om).trans (b0 q j))⟩
end
end Sw
namespace Sw
noncomputable section
open Go Go.Proofs Go.RowKit
set_option maxRecDepth 100000
set_option maxHeartbeats 1600000
def IX(K:kg)(i j:Nat):Int:=((K.gD.l[i]?.bind fun r=>r.l[j]?).getD 0)
theorem HA{K:kg}{i j:Nat}{r:SV Int}{z:Int}(h:K.gD.l[i]?=some r)(k:r.l[j]?=some z):IX K i j=z:=by
 unfold IX;rw[h];simp[k]
def qg(K:kg)(Eu:Int)(s:fQ):fQ:=if Eu=-1 then s else⟨gy .i64 (s.hY-IX K (Eu+1).toNat 0),gy .i64 (s.gY+IX K 0 (Eu+1).toNat)⟩
theorem J5(K:kg)(s:fQ)(O:Ht)(G:Nat)(hK:oy O G K):WF ex 113 [.agg (ji K).toArray,Y (-1),.agg (fj s).toArray] O G (fL G O (wM (.agg (fj s).toArray))):=by
 refine wd Tryz.f113 34 [.cell 6 104] fun hE=>sr<|oB (.agg (ji K).toArray) (ji K) fun jy iI ia=>?_
 refine oB (.agg (fj s).toArray) (fj s) fun A o e=>?_
 refine oA [Y 0,Y 0] nu fun y jE j=>?_
 refine WO.nil<|WP.seq<|sr<|oN 2<|WP.cond true U (fun b=>?_) (fun b=>by cases b)
 refine sr<|WO.cons (WC.iz (G+1) (0) (fj s) U kC hU (jE.get e) rfl<|oS (G+1+1) (0) (.agg (fj s).toArray) (fj s) (fj s) hU rfl rfl j fun z p m u=>?_)
 refine wr ⟨rfl,rfl,[.agg (fj s).toArray],(sX (by rw[show(f_ (.tmp 6)).run _=pt (G+1+1) 0 from by kernel_rfl];exact jV kC hU m rfl)),?_⟩
 exact⟨rfl,od,((((hE.trans iI).trans o).trans jE).trans p)⟩
theorem Nu(K:kg)(v:Nat)(s:fQ)(O:Ht)(G:Nat)(hK:oy O G K)(hc:ub K)(aj:v<K.fw.l.length):WF ex 113 [.agg (ji K).toArray,Y (.ofNat v),.agg (fj s).toArray] O G (fL G O (wM (.agg (fj (qg K (.ofNat v) s)).toArray))):=by
 refine wd Tryz.f113 34 [.cell 6 104] fun hE=>?_
 have au:=hc.Wm
 have av:=hc.Yp
 refine sr<|oB (.agg (ji K).toArray) (ji K) fun jy iI ia=>?_
 refine oB (.agg (fj s).toArray) (fj s) fun az W ae=>?_
 refine oA [Y 0,Y 0] nu fun ai jE af=>?_
 have o:=((hE.trans iI).trans W).trans jE
 have C:=jE.get (W.get ia)
 have E:=jE.get ae
 refine WO.nil<|WP.seq<|sr<|oX 1 ?_
 refine oq 9 (vY v (-1)) fun ay ak=>WO.nil<|cq ak (fun ad=>?_) (fun ad=>?_)
 ·
  exact absurd ad om
 ·
  refine WP.skip<|sr<|oX 1<|ov 12 (Y (.ofNat (v+1))) ?_ (fun _ _ _=>by rw[<-gQ (show v+1<9223372036854775808 by omega)];kernel_rfl)
  refine oN 1<|WP.seq<|WP.qZ [⟨[0,1,2,3,4,5,6,7,8,9,10,11,12,13,14,15,16,17,18,19,20],[0,1,2,3,4,5,6,7,8,9,10,11,12,13,14,15,16,17,18,19,20],some 21⟩,⟨[],[],none⟩] U _ rfl<|WD.kZ<|nv 13 (pt (G+1) 0)<|WN.hZ rfl (WC.jW (G+1) 0 (Y s.hY) U fy E rfl<|nv 15 (pt G (0+1)) ?_)
  obtain⟨a31,S,b⟩:=hK.gD.1.shape
  have ao:=hK.gD.1.2.2
  refine WN.hZ rfl (WC.jW G (0+1) (.slice a31 (K.gD.l.length) S) U sR C (by rw[<-b];rfl)<|nv 17 (Y (.ofNat (v+1))) ?_)
  have F:v+1<K.gD.l.length:=by omega
  refine WN.hZ rfl (WC.iy b hK.gD.1 (v+1) vt ud (F) ?_)
  obtain⟨y,j⟩:=gE F
  have al:y.l.length=K.fw.l.length+1:=(hc.row _ _ j).1
  obtain⟨a37,aa,A⟩:=(hK.gD.2 y (fa j)).shape
  have aq:=(hK.gD.2 y (fa j)).2.2
  refine WN.hZ rfl (WC.lz (.slice a37 (y.l.length) aa) b (hK.gD.1.mono o nR) j (by rw[<-A];rfl) lO ?_)
  have J:0<y.l.length:=by omega
  refine WN.hZ rfl (WC.iy A (hK.gD.2 y (fa j)) (0) lP kH (J) ?_)
  obtain⟨p,N⟩:=gE J
  refine WN.hZ rfl (WC.lz (Y p) A ((hK.gD.2 y (fa j)).mono o nR) N rfl fy<|nv 22 (Y (gy .i64 ((s.hY)-(p))))<|nv 23 (pt (G+1) (0+1))<|WN.hZ rfl (WC.jW (G+1) (0+1) (Y s.gY) U fy E rfl<|nv 25 (pt G (0+1))<|WN.hZ rfl (WC.jW G (0+1) (.slice a31 (K.gD.l.length) S) U sR C (by rw[<-b];rfl) ?_)))
  have L:0<K.gD.l.length:=by omega
  refine WN.hZ rfl (WC.iy b hK.gD.1 (0) vt ud (L) ?_)
  obtain⟨z,m⟩:=gE L
  have an:z.l.length=K.fw.l.length+1:=(hc.row _ _ m).1
  obtain⟨a46,ab,B⟩:=(hK.gD.2 z (fa m)).shape
  have ar:=(hK.gD.2 z (fa m)).2.2
  refine WN.hZ rfl (WC.lz (.slice a46 (z.l.length) ab) b (hK.gD.1.mono o nR) m (by rw[<-B];rfl) lO<|nv 29 (Y (.ofNat (v+1))) ?_)
  have M:v+1<z.l.length:=by omega
  refine WN.hZ rfl (WC.iy B (hK.gD.2 z (fa m)) (v+1) lP kH (M) ?_)
  obtain⟨u,R⟩:=gE M
  refine WN.hZ rfl (WC.lz (Y u) B ((hK.gD.2 z (fa m)).mono o nR) R rfl fy<|nv 32 (Y (gy .i64 ((s.gY)+(u))))<|nv 33 (.agg ⟨[Y (gy .i64 ((s.hY)-(p))),Y (gy .i64 ((s.gY)+(u)))]⟩)<|WN.nil ⟨?_,?_⟩)
  ·
   refine cv (pt (G+1) 0) (iR ..)<|qk (G+1) 0 (Y s.hY) fy E rfl (iF ..)<|cv (pt G (0+1)) (iR ..)<|qk G (0+1) (.slice a31 (K.gD.l.length) S) sR C (by rw[<-b];rfl) (b▸hK.gD.1.jA 8)<|ci (.ofNat (v+1))<|y0 b hK.gD.1 (v+1) vt ud (F)<|GN (.slice a37 (y.l.length) aa) b (hK.gD.1.mono o nR) j (by rw[<-A];rfl) lO (A▸(hK.gD.2 y (fa j)).jA 8)<|y0 A (hK.gD.2 y (fa j)) (0) lP kH (J)<|GN (Y p) A ((hK.gD.2 y (fa j)).mono o nR) N rfl fy (iF ..)<|ci (gy .i64 ((s.hY)-(p)))<|cv (pt (G+1) (0+1)) (iR ..)<|qk (G+1) (0+1) (Y s.gY) fy E rfl (iF ..)<|cv (pt G (0+1)) (iR ..) ?_
   refine qk G (0+1) (.slice a31 (K.gD.l.length) S) sR C (by rw[<-b];rfl) (b▸hK.gD.1.jA 8)<|y0 b hK.gD.1 (0) vt ud (L)<|GN (.slice a46 (z.l.length) ab) b (hK.gD.1.mono o nR) m (by rw[<-B];rfl) lO (B▸(hK.gD.2 z (fa m)).jA 8)<|ci (.ofNat (v+1))<|y0 B (hK.gD.2 z (fa m)) (v+1) lP kH (M)<|GN (Y u) B ((hK.gD.2 z (fa m)).mono o nR) R rfl fy (iF ..)<|ci (gy .i64 ((s.gY)+(u)))<|cv (.agg ⟨[Y (gy .i64 ((s.hY)-(p))),Y (gy .i64 ((s.gY)+(u)))]⟩) (wK 7 _ (by intro v aj;simp only[List.mem_cons,List.not_mem_nil,or_false]at aj;rcases aj with rfl|rfl<;>first|exact iF ..|exact iO ..)) ?_
   exact jc.nil
  refine WC.at rfl (WC.u_ (G+1+1) (0) (.agg ⟨[Y (gy .i64 ((s.hY)-(p))),Y (gy .i64 ((s.gY)+(u)))]⟩) [Y 0,Y 0] [Y (gy .i64 ((s.hY)-(p))),Y (gy .i64 ((s.gY)+(u)))] [Y (gy .i64 ((s.hY)-(p))),Y (gy .i64 ((s.gY)+(u)))] 2 rfl U U hU rfl rfl af rfl rfl rfl ?_)
  obtain⟨ax,X,ah,ag,aw⟩:=stored ai (G+1+1) (.cells [Y (gy .i64 ((s.hY)-(p))),Y (gy .i64 ((s.gY)+(u)))] gm.plain)
  rw[X];clear X
  refine WD.last<|WN.nil ⟨?_,?_⟩
  ·
   exact jc.nil
  refine WP.ret ⟨rfl,rfl,[.agg ⟨[Y (gy .i64 ((s.hY)-(p))),Y (gy .i64 ((s.gY)+(u)))]⟩],(sX (by rw[show(f_ (.tmp 6)).run _=pt (G+1+1) 0 from by kernel_rfl];exact jV kC hU ag rfl)),?_⟩
  refine⟨?_,od,(o.trans ah)⟩
  have e:qg K (.ofNat v) s=⟨gy .i64 (s.hY-p),gy .i64 (s.gY+u)⟩:=by
   have hs:((Int.ofNat v)+1).toNat=v+1:=rfl
   unfold qg;rw[if_neg (by show¬((Int.ofNat v)=-1);omega),hs,HA j N,HA m R]
  rw[e];rfl
end
end Sw
namespace Sw
noncomputable section
open Go Go.Proofs Go.RowKit
set_option maxRecDepth 100000
set_option maxHeartbeats 1600000
theorem Nv(K:kg)(Eu:Int)(s:fQ)(O:Ht)(G:Nat)(hK:oy O G K)(hc:ub K)(h1:-1<=Eu)(D:Eu<K.fw.l.length):WF ex 113 [.agg (ji K).toArray,Y Eu,.agg (fj s).toArray] O G (fL G O (wM (.agg (fj (qg K Eu s)).toArray))):=by
 by_cases h:Eu=-1
 · subst h
   have:=J5 K s O G hK
   unfold qg;rw[if_pos rfl];exact this
 · obtain⟨v,rfl⟩:=Int.eq_ofNat_of_zero_le (show 0<=Eu by omega)
   exact Nu K v s O G hK hc om
theorem Q7(K:kg)(o:jg)(O:Ht)(G:Nat)(hK:oy O G K)(hc:ub K)(C:uJ K o)(B:o.j2=false):WF ex 62 [.agg (ji K).toArray,.agg (gU o).toArray] O G (fL G O (wM (.tuple ⟨[.agg (fj (qg K o.lA ⟨o.hY,o.gY⟩)).toArray,Y 0]⟩))):=by
 refine wd Tryz.f62 26 [.cell 4 104,.tmp 5] fun hE=>?_
 have af:=C.2 B
 refine sr<|oB (.agg (ji K).toArray) (ji K) fun jy iI ia=>?_
 refine oB (.agg (gU o).toArray) (gU o) fun az z J=>?_
 refine oA [Y 0,Y 0] nu fun W jE L=>?_
 have m:=((hE.trans iI).trans z).trans jE
 have u:=jE.get (z.get ia)
 have y:=jE.get J
 refine oN 1<|WP.seq<|sr<|WO.cons (WC.iz G (0) (ji K) U xZ v8 u rfl<|WO.cons (WC.iz (G+1) (0) (gU o) U si lB y rfl<|WO.cons (WC.call 9 57 ([.agg (ji K).toArray,.agg (gU o).toArray]) kf ((Ca K o W (G+1+1+1) (hK.mono m)).mono ?_))))
 rintro _ X ab ⟨⟨z32,rfl,aa⟩,ak,j⟩
 have p:=m.trans j
 have e:=j.get y
 have b:=j.get L
 refine oN 1<|sr<|oX 1 ?_
 refine oq 11 (qS z32 0) fun ay ag=>WO.nil<|cq ag (fun E=>?_) (fun E=>?_)
 ·
  refine sr<|WO.cons (WC.iz (G+1+1) (0) [Y 0,Y 0] U kC hU b rfl<|oX 1<|oS (G+1+1) (0) (.agg ⟨[Y 0,Y 0]⟩) [Y 0,Y 0] [Y 0,Y 0] hU rfl rfl b fun ar ai M an=>?_)
  refine oW 1 ⟨rfl,rfl,[.agg ⟨[Y 0,Y 0]⟩,Y z32],(ou (by rw[show(f_ (.tmp 4)).run _=pt (G+1+1) 0 from by kernel_rfl];exact jV kC hU M rfl) U),?_⟩
  exact absurd ((aa).2 ⟨hc,C⟩) E
 ·
  refine WP.skip<|WP.seq<|sr<|oX 1 ?_
  obtain⟨ad,ae,ah⟩:=@nb (o.j2) (o.j2=true) (by first|done|exact gk)
  refine oZ (G+1) 0 (.bool ad) xp e (by rw[ae];rfl)<|WO.nil<|cq ah (fun F=>?_) (fun F=>?_)
  ·
   refine sr<|WO.cons (WC.iz (G+1+1) (0) [Y 0,Y 0] U kC hU b rfl<|oS (G+1+1) (0) (.agg ⟨[Y 0,Y 0]⟩) [Y 0,Y 0] [Y 0,Y 0] hU rfl rfl b fun au aj N ao=>?_)
   refine oW 1 ⟨rfl,rfl,[.agg ⟨[Y 0,Y 0]⟩,Y 230],(ou (by rw[show(f_ (.tmp 4)).run _=pt (G+1+1) 0 from by kernel_rfl];exact jV kC hU N rfl) U),?_⟩
   exact absurd F (by rw[B];simp)
  ·
   refine WP.skip<|sr<|WO.cons (WC.iz G (0) (ji K) U xZ v8 (j.get u) rfl<|oX 1<|oZ (G+1) (0+1) (Y o.lA) fy e rfl<|oX 1<|oZ (G+1) (0+2) (Y o.hY) fy e rfl<|oX 1<|oZ (G+1) (0+3) (Y o.gY) fy e rfl<|oX 1<|WO.cons (WC.call 25 113 ([.agg (ji K).toArray,Y o.lA,.agg ⟨[Y o.hY,Y o.gY]⟩]) kf ((Nv K (o.lA) (⟨o.hY,o.gY⟩:fQ) X (ab) (hK.mono p) hc af.1 af.2.1).mono ?_)))
   rintro _ av ax ⟨rfl,al,A⟩
   refine oS (G+1+1) (0) (.agg (fj (qg K (o.lA) (⟨o.hY,o.gY⟩:fQ))).toArray) (fj (qg K (o.lA) (⟨o.hY,o.gY⟩:fQ))) (fj (qg K (o.lA) (⟨o.hY,o.gY⟩:fQ))) hU rfl rfl (A.get b) fun aw S R aq=>?_
   refine oW 1 ⟨rfl,rfl,[.agg (fj (qg K (o.lA) (⟨o.hY,o.gY⟩:fQ))).toArray,Y 0],(ou (by rw[show(f_ (.tmp 4)).run _=pt (G+1+1) 0 from by kernel_rfl];exact jV kC hU R rfl) U),?_⟩
   exact⟨rfl,od,((p.trans A).trans S)⟩
end
end Sw
namespace Sw
noncomputable section
open Go Go.Proofs Go.RowKit
set_option maxRecDepth 100000
set_option maxHeartbeats 1600000
def o6(K:kg)(l:List jg):List fQ:=(l.filter fun o=>!o.j2).map fun o=>qg K o.lA ⟨o.hY,o.gY⟩
theorem Xd{K:kg}{l:List jg}{i:Nat}{o:jg}(h:l[i]?=some o)(b:o.j2=true):o6 K (l.take (i+1))=o6 K (l.take i):=by
 unfold o6;rw[List.take_add_one,h];simp[b]
theorem Yz{K:kg}{l:List jg}{i:Nat}{o:jg}(h:l[i]?=some o)(b:o.j2=false):o6 K (l.take (i+1))=o6 K (l.take i)++[qg K o.lA ⟨o.hY,o.gY⟩]:=by
 unfold o6;rw[List.take_add_one,h];simp[b]
theorem Nw{l:List jg}{i:Nat}{o:jg}(h:l[i]?=some o):(l.take (i+1)).any (·.j2)=((l.take i).any (·.j2)||o.j2):=by
 rw[List.take_add_one,h];simp
theorem PN(K:kg)(l:List jg):(o6 K l).length<=l.length:=by
 unfold o6;rw[List.length_map];exact List.length_filter_le ..
theorem UW(bD:zH)(F:jq)(l:SV jg)(O:Ht)(G:Nat)(bE:kB O G F)(hl:gB gU 4 O G l)(hc:ub F.fx)(bs:∀o∈l.l,uJ F.fx o)(bt:l.l.length<=1048576):WF ex 27 [.agg (gO F).toArray,l.v] O G (fun v e9 e_=>∃(J:SV fQ) (z:Int),v=.tuple ⟨[J.v,.bool (l.l.any (·.j2)),Y z]⟩/\gB fj 2 e9 e_ J/\((z=0/\Yx (o6 F.fx l.l) J.l)\/((z=2\/z=10)/\J.l=[]))/\G<=e_/\HE G O e9):=by
 obtain⟨a1,c2,h_⟩:=hl.shape
 have mc:=hl.2.2
 rw[h_]
 refine wd Tryz.f27 39 [.tmp 4,.tmp 5,.tmp 6] fun hE=>sr<|oB (.agg (gO F).toArray) (gO F) fun zV pP uE=>?_
 have AD:=hE.trans pP nR
 have As:=ff nR (fh (G))
 refine oN 3<|WP.seq<|sr<|oN 3<|WP.block ?_
 refine mu [2,4,5,11,12,13] (fun m hs ns vs=>∃(hR:Nat) (J:SV fQ) (ad:Bool),hR+m=l.l.length/\vs=[pt G 0,J.v,.bool ad,.slice a1 (l.l.length) c2,Y (.ofNat (l.l.length)),Y (.ofNat hR)]/\G+1<=ns/\HE G O hs/\hs.get G=some (.cells (gO F) gm.plain)/\(J.l=o6 F.fx (l.l.take hR))/\(ad=(l.l.take hR).any (·.j2))/\(mD fj 2 (G+1) hs ns J)) ?_ (l.l.length) ?_
 ·
  rintro Fx aj e _ ⟨hR,J,ad,bx,rfl,S,K,bj,y,ag,ae⟩ Cb
  have an:=fb (fo (G)) S
  have u:=ff As S
  have a7:=HE.refl (e) aj
  have ar:=fg (e)
  refine sr ?_
  refine oq 14 (kT hR l.l.length) fun Fv Db=>WO.nil<|WP.seq<|cq Db (fun bw=>?_) (fun bw=>?_)
  ·
   refine WP.skip<|WP.seq<|WP.block<|sr ?_
   have aa:hR<l.l.length:=by omega
   refine WO.cons (WC.iy h_ hl (hR) zp lB (aa) ?_)
   obtain⟨b,p⟩:=gE aa
   refine WO.cons (WC.ly h_ (hl.mono K u) p si lB<|oA [.bool false,Y 0,Y 0,Y 0] uK fun bG L aP=>?_)
   have aI:=K.trans L u
   have aQ:=L.get bj an
   have ao:=fb an (fh (e))
   have a8:=a7.trans L ar
   have X:=ff ar (fh (e))
   have au:=ff S (fh (e))
   have W:=ff u (fh (e))
   refine oS e (0) (.agg (gU b).toArray) (gU b) (gU b) lB rfl rfl aP fun a6 ah af aY=>?_
   have C:=aI.trans ah om
   have ak:=a8.trans ah om
   have E:=(aY G om).trans aQ
   refine WO.nil<|WP.seq<|sr<|oX 1 ?_
   obtain⟨bn,bp,bu⟩:=@nb (b.j2) (b.j2=true) (by first|done|exact gk)
   refine oZ e 0 (.bool bn) xp af (by rw[bp];rfl)<|WO.nil<|cq bu (fun A=>?_) (fun A=>?_)
   ·
    refine sr<|oN 1<|WP.exit<|WP.region<|ov 30 (Y (.ofNat (hR+1))) ?_ (fun _ _ _=>by rw[<-gQ (show hR+1<9223372036854775808 by omega)];kernel_rfl)
    refine oN 1<|⟨l.l.length-(hR+1),om,rfl,rfl,hR+1,J,true,om,U,?_,?_,?_,?_,?_,?_⟩
    · exact au
    · exact C
    · exact E
    · rw[Xd p A];exact y
    · rw[Nw p,A,Bool.or_true]
    · exact ae.mono ak X
   ·
    refine WP.skip<|sr<|oX 1<|WO.cons (WC.iz G 0 (ji F.fx) U xZ v8 E rfl<|WO.cons (WC.iz e (0) (gU b) U si lB af rfl<|WO.cons (WC.call 23 62 ([.agg (ji F.fx).toArray,.agg (gU b).toArray]) kf ((Q7 F.fx b a6 (e+1) (bE.fx.mono C W) hc (bs _ (fa p)) (gz.2 A)).mono ?_))))
    rintro _ bH j ⟨rfl,B,M⟩
    have aJ:=C.trans M W
    have aR:=M.get E ao
    have aq:=fb ao B
    have a_:=ak.trans M X
    have av:=ff X B
    have bk:=ff au B
    have al:=ff W B
    refine oX 3<|oA [Y 0,Y 0] nu fun bI N aS=>?_
    have aK:=aJ.trans N al
    have aT:=N.get aR aq
    have bh:=fb aq (fh (j))
    have bc:=a_.trans N av
    have aw:=ff av (fh (j))
    have bl:=ff bk (fh (j))
    have bg:=ff al (fh (j))
    refine oS j (0) (.agg (fj (qg F.fx b.lA ⟨b.hY,b.gY⟩)).toArray) (fj (qg F.fx b.lA ⟨b.hY,b.gY⟩)) (fj (qg F.fx b.lA ⟨b.hY,b.gY⟩)) hU rfl rfl aS fun bJ ai aU aZ=>?_
    have aL:=aK.trans ai om
    have bd:=bc.trans ai om
    have aV:=(aZ G om).trans aT
    refine oN 1<|WP.region<|oX 1<|WO.cons (WC.iz j (0) (fj (qg F.fx b.lA ⟨b.hY,b.gY⟩)) U kC hU aU rfl<|oL [Y ((qg F.fx b.lA ⟨b.hY,b.gY⟩).hY),Y ((qg F.fx b.lA ⟨b.hY,b.gY⟩).gY)] fun bK R aW=>?_)
    have aM:=aL.trans R bg
    have aX:=R.get aV bh
    have bf:=bd.trans R aw
    have aF:=ff aw (fh (j+1))
    have aG:=ff bl (fh (j+1))
    have bz:J.l.length<=hR:=by rw[y];exact ff (PN _ _) (by simp;omega)
    obtain⟨inf,pI,vL⟩:=BN
    refine WO.cons (WC.C4 (enc:=fj) (J:=J) (qg F.fx b.lA ⟨b.hY,b.gY⟩) rfl U U (ae.mono bf aF) (uf _) aW rfl pG hU nu pI rfl rfl vL om om rfl ?_)
    rintro bC jy o_ aN yr ui bq
    have ay:=aM.trans ui (fh G)
    have aB:=(ui _ (fo G)).trans aX
    have aH:=ff aG yr
    refine oN 1<|WP.region<|ov 30 (Y (.ofNat (hR+1))) ?_ (fun _ _ _=>by rw[<-gQ (show hR+1<9223372036854775808 by omega)];kernel_rfl)
    refine oN 1<|⟨l.l.length-(hR+1),om,rfl,rfl,hR+1,bC,ad,om,U,?_,?_,?_,?_,?_,?_⟩
    · exact aH
    · exact ay
    · exact aB
    · rw[Yz p (Bool.eq_false_iff.2 A),aN,y]
    · rw[Nw p,(Bool.eq_false_iff.2 A),Bool.or_false];exact ag
    · exact bq
  ·
   refine WP.exit<|sr<|oX 1 ?_
   have hT:l.l.take hR=l.l:=fJ om
   rw[hT]at y ag
   have aA:J.l.length<=1048576:=by rw[y];exact ff (PN _ _) bt
   refine WO.cons (WC.call 33 40 ([J.v]) kf ((Q5 bD J aj (e) (ae.ok (uf _) om) aA).mono ?_))
   rintro _ bA bB ⟨⟨ab,ax,rfl,aO,br⟩,aD,aC⟩
   have az:=K.trans aC u
   have aE:=ff u aD
   refine oN 5<|sr<|oW 6 ⟨rfl,rfl,[ab.v,.bool ad,Y ax],U,?_⟩
   exact⟨ab,ax,by rw[ag];rfl,aO,by rw[<-y];exact br,aE,az⟩
 ·
  exact⟨0,⟨.slice none 0 0,[]⟩,false,om,U,fg _,AD,uE,(by rw[List.take_zero];rfl),(by simp),mD.nil⟩
end
end Sw
namespace Sw
noncomputable section
open Go Go.Proofs Go.RowKit
set_option maxRecDepth 100000
set_option maxHeartbeats 1600000
theorem mr.qG{L:List Nat}{O:Ht}{G:Nat}{x:im}(h:mr (j3 L O) G x):mr O G x:=⟨h.lE.qG,h.fV.1.qG,fun y hy=>(h.fV.2 y hy).qG⟩
theorem oy.qG{L:List Nat}{O:Ht}{G:Nat}{x:kg}(h:oy (j3 L O) G x):oy O G x:=⟨h.fw.qG,h.gD.1.qG,fun y hy=>(h.gD.2 y hy).qG⟩
theorem kB.qG{L:List Nat}{O:Ht}{G:Nat}{x:jq}(h:kB (j3 L O) G x):kB O G x:=⟨h.fx.qG,h.gj.qG,h.fc.1.qG,fun y hy=>(h.fc.2 y hy).qG⟩
def Bf(w:Nat)(x:im):Prop:=∀o,x.fV.l[w]?=some o->o.l=[]
theorem IY{F:jq}{w:Nat}:(¬∃x∈F.fc.l,Bf w x)↔rL F w:=by
 unfold rL
 constructor
 · intro h r hr
   exact Classical.byContradiction fun k=>h ⟨r,hr,fun o b=>Classical.byContradiction fun h0=>k ⟨o,b,h0⟩⟩
 · rintro h ⟨x,hx,k⟩
   obtain⟨o,b,h0⟩:=h x hx
   exact h0 (k o b)
def vD(F:jq)(n:Nat):List Nat:=(List.range n).filter fun w=>@decide (rL F w) (Classical.propDecidable _)
theorem Xe{F:jq}{w:Nat}(h:rL F w):vD F (w+1)=vD F w++[w]:=by
 unfold vD;rw[List.range_succ,List.filter_append];simp[h]
theorem UX{F:jq}{w:Nat}(h:¬rL F w):vD F (w+1)=vD F w:=by
 unfold vD;rw[List.range_succ,List.filter_append];simp[h]
theorem UY(x:im)(w b:Nat)(O:Ht)(G:Nat)(hx:mr O G x)(hb:O.get b=some (.cells [Y (.ofNat w)] gm.plain))(jH:b<G):WF ex 60 [.agg (ja x).toArray,pt b 0] O G (fL G O (gi (Bf w x))):=by
 refine wd Tryz.f60 18 [.tmp 3] fun hE=>sr<|oB (.agg (ja x).toArray) (ja x) fun jy iI ia=>?_
 have lq:=hE.trans iI
 have B:=iI.get hb jH
 refine oN 1<|sr<|oZ b (0) (Y (.ofNat w)) fy B rfl<|oX 1 ?_
 obtain⟨y,z,j⟩:=hx.fV.1.shape
 have K:=hx.fV.1.2.2
 refine oZ G (0+2) (.slice y (x.fV.l.length) z) qz ia (by rw[<-j];rfl)<|oX 1 ?_
 refine oq 8 (Yi x.fV.l.length w) fun nI rY=>oX 1<|gF 9 nI (pt G (0+2))<|nS 9 nI G (0+2) (.slice y (x.fV.l.length) z) qz ia (by rw[<-j];rfl)<|nS 9 nI b (0) (Y (.ofNat w)) fy B rfl ?_
 have p:(!nI)=true->w<x.fV.l.length:=fun h=>by obtain rfl:nI=false:=(by simpa using h);have L:¬(((x.fV.l.length:Nat):Int)<=((w:Nat):Int)):=(fun k=>absurd ((rY).2 k) (by decide));omega
 refine xY 9 nI (pt (ga y) (0+(w)*1)) (by rintro rfl;exact WC.iy j hx.fV.1 (w) ue sI ((p rfl)) rfl) ?_
 obtain⟨e,m⟩:∃F,(!nI)=true->x.fV.l[w]?=some F:=⟨(x.fV.l[w]?).getD default,fun h=>by rw[List.getElem?_eq_getElem (by obtain rfl:nI=false:=(by simpa using h);exact(p rfl))];rfl⟩
 have u:=fun(a0:¬(((x.fV.l.length:Nat):Int)<=((w:Nat):Int)))=>m (by first|(rw[show nI=false from Bool.eq_false_iff.2 (fun k=>a0 ((rY).1 k))];rfl)|rw[show nI=false from Bool.eq_false_iff.2 (fun k=>a0 ((rY).1 k))])
 obtain⟨a17,A,E⟩:∃a c,(!nI)=true->e.v=.slice a e.l.length c:=by
  cases hb:(!nI)with
  |true=>obtain rfl:nI=false:=(by simpa using hb);obtain⟨a,c,h⟩:=(hx.fV.2 e (fa (m rfl))).shape;exact⟨a,c,fun _=>h⟩
  |false=>exact⟨none,0,fun h=>by cases h⟩
 refine xY 9 nI (.slice a17 (e.l.length) A) (by rintro rfl;exact WC.lz (.slice a17 (e.l.length) A) j (hx.fV.1.mono lq nR) (m rfl) (by rw[<-(E rfl)];rfl) uc rfl)<|gF 9 nI (Y (.ofNat (e.l.length))) ?_
 refine nH 9 nI (vY e.l.length 0) fun yI FA=>?_
 refine mI 17 (nO rY FA) fun sJ v_=>oW 1 ⟨rfl,rfl,[.bool sJ],U,?_⟩
 refine⟨⟨sJ,rfl,?_⟩,od,lq⟩
 rw[v_]
 constructor
 · rintro C o h1
   have hw:=(fp.1 h1).1
   rcases C with C|C
   · first|omega|(dsimp only;omega)
   · have h3:=u om
     rw[h3]at h1;cases h1
     exact fZ om
 · intro J
   by_cases hw:w<x.fV.l.length
   · have h3:=u om
     have h4:=J _ h3
     exact .inr (by rw[h4];rfl)
   · exact .inl om
theorem OU(F:jq)(O:Ht)(G:Nat)(e:kB O G F):WF ex 26 [.agg (gO F).toArray] O G (fun v e9 e_=>∃b,v=.func (.func 59) #[] #[pt b 0]/\e9.get b=some (.cells (gO F) gm.plain)/\b<e_/\G<=b/\G<=e_/\HE G O e9):=by
 refine wd Tryz.f26 4 [.tmp 2] fun hE=>sr<|oB (.agg (gO F).toArray) (gO F) fun jy iI ia=>?_
 refine oN 1<|sr<|oW 2 ⟨rfl,rfl,[.func (.func 59) #[] #[pt G 0]],U,?_⟩
 exact⟨_,rfl,ia,(fo (G)),om,od,(hE.trans iI)⟩
theorem Lu(F:jq)(y:Value)(L:List Nat)(z:Nat)(Inv:(Nat->Prop)->List Nat->Ht->Nat->Prop)(Stop:Ht->Nat->Prop)(ad:Nat->Prop)(aB:ad z)(O:Ht)(G:Nat)(M:kB (j3 L O) G F)(K:Ht)(o:Nat)(af:K.get z=some (.cells (gO F) gm.plain))(aA:z<o)(h1:G<=o)(az:HE G (j3 L O) (j3 L K))(aH:Inv ad [] K o)(hm:∀p l a b c d,Inv p l a b->HE b a c->b<=d->Inv (fun q=>p q\/(b<=q/\q<d)) l c d)(hs:∀p w,rL F w->w<=F.gj.l.length->∀a b,o<=b->HE G (j3 L O) (j3 L a)->Inv p (vD F w) a b->WV ex y [Y (.ofNat w)] a b (fun v c d=>b<=d/\HE G (j3 L a) (j3 L c)/\(∀q,q<b->p q->c.get q=a.get q)/\∃t:Bool,v=.bool t/\(t=true->Inv p (vD F w++[w]) c d)/\(t=false->Stop c d))):WF ex 59 [y,pt z 0] K o (fun _ c d=>o<=d/\HE G (j3 L O) (j3 L c)/\((∃p,Inv p (vD F (F.gj.l.length+1)) c d)\/Stop c d)):=by
 refine wb ⟨Tryz.f59.body.getD .skip,25,[]⟩<|sr<|oX 1 ?_
 obtain⟨a1,c2,h_⟩:=M.gj.shape
 have mc:=M.gj.2.2
 refine oZ z (0+2) (.slice a1 (F.gj.l.length) c2) x_ af (by rw[<-h_];rfl)<|oX 1<|ov 8 (Y (.ofNat (F.gj.l.length+1))) ?_ (fun _ _ _=>by rw[<-gQ (show F.gj.l.length+1<9223372036854775808 by omega)];kernel_rfl)
 refine oN 1<|WP.block ?_
 refine mu [0,1,8,9] (fun m hs ns vs=>∃(fW:Nat),fW+m=(F.gj.l.length+1)/\vs=[y,pt z 0,Y (.ofNat (F.gj.l.length+1)),Y (.ofNat fW)]/\o<=ns/\HE G (j3 L O) (j3 L hs)/\hs.get z=some (.cells (gO F) gm.plain)/\(∃p:Nat->Prop,p z/\Inv p (vD F fW) hs ns)/\(o<=ns)) ?_ ((F.gj.l.length+1)) ?_
 ·
  rintro ya ql jd _ ⟨fW,uz,rfl,oR,jt,av,R,aO⟩ uA
  have aq:=fb aA oR
  refine sr ?_
  refine oq 10 (kT fW (F.gj.l.length+1)) fun aM aC=>WO.nil<|WP.seq<|cq aC (fun aE=>?_) (fun aE=>?_)
  ·
   refine WP.skip<|WP.seq<|WP.block<|sr<|oX 1<|oA [Y 0] Bd fun aJ uB ak=>?_
   have ar:=fb aq (fh (jd))
   refine oS jd (0) (Y (.ofNat fW)) [Y (.ofNat fW)] [Y (.ofNat fW)] kH rfl rfl ak fun wa s6 uZ ao=>?_
   have C:=(jt.trans (uB.j3 (l:=L))).trans (s6.j3 (l:=L))
   have X:=(ao z om).trans (uB.get av)
   refine WO.nil<|sr<|oN 2<|sr<|oX 1 ?_
   obtain⟨a39,ax,aa⟩:=M.fc.1.shape
   have aF:=M.fc.1.2.2
   refine oZ z (0+3) (.slice a39 (F.fc.l.length) ax) ow X (by rw[<-aa];rfl)<|oX 1<|WO.cons (WC.call 16 61 ([F.fc.v,.func (.func 60) #[] #[pt jd 0]]) (fun _ _ _=>by(try rw[aa]);kernel_rfl) ((xJ (A:=Bf (fW)) F.fc 60 #[pt jd 0] wa (jd+1) ((M.mono C).qG.fc) (fun i x hx e9 e_ hn he=>UY x (fW) jd e9 e_ ((((M.mono C).qG.fc.2 x (fa hx))).mono he hn) (he.get uZ) (fb (fo (jd)) hn))).mono ?_))
   rintro _ u j ⟨⟨aN,rfl,aD⟩,an,B⟩
   have E:=C.trans (B.j3 (l:=L))
   have au:=fb ar an
   refine oq 17 (nN aD) fun e ag=>oX 1<|gT 18 e (y)<|lG 18 e jd (0) (Y (.ofNat fW)) fy (B.get uZ) rfl ?_
   obtain⟨p,S,ay⟩:=R
   have ae:Inv (fun q=>p q\/(jd<=q/\q<j)) (vD F fW) u (j):=hm _ _ _ _ _ _ ay ((((HE.refl (jd) ql).trans uB).trans s6).trans B) om
   have W:e=true↔¬(∃x∈F.fc.l,(Bf (fW)) x):=ag
   have J:e=true↔rL F fW:=W.trans IY
   have aP:=E
   refine WO.cons (WC.gq (e) (fun v c d=>∃t:Bool,v=(bif e then .bool t else undef)/\j<=d/\HE G (j3 L u) (j3 L c)/\(∀q,q<j->(fun q=>p q\/(jd<=q/\q<j)) q->c.get q=Tr.get u q)/\(e=true->t=true->Inv (fun q=>p q\/(jd<=q/\q<j)) (vD F fW++[fW]) c d)/\(e=true->t=false->Stop c d)/\(e=false->c=u/\d=j)) (.bool e) (g:=f_ (.tmp 18)) rfl U (by cases e<;>rfl) (fun hb=>?_) (fun hb=>⟨false,by rw[hb];rfl,fg _,HE.refl _ _,fun _ _ _=>rfl,fun k=>absurd (hb.symm.trans k) (by decide),fun k=>absurd (hb.symm.trans k) (by decide),fun _=>⟨rfl,rfl⟩⟩) ?_)
   · have hw:=J.1 hb
     obtain rfl:e=true:=(by simpa using hb)
     refine WC.QU 21 y [Y (.ofNat fW)] kf ((hs (fun q=>p q\/(jd<=q/\q<j)) fW hw om u (j) om E ae).mono ?_)
     rintro v c d ⟨h1,D,h3,t,aL,h4,aG⟩
     exact⟨_,_,_,rfl,t,aL,h1,D,h3,fun _=>h4,fun _=>aG,fun h=>absurd h (by decide)⟩
   rintro _ aK ab ⟨t61,rfl,aI,al,Nr,ah,aj,ai⟩
   have N:=E.trans al
   have aw:t61=true↔t61=true:=gk
   refine qH 18 e (nN aw) fun AA IZ=>?_
   refine nh 23 (nA ag IZ) fun PO Dh=>WO.nil<|cq Dh (fun tP=>?_) (fun tP=>?_)
   ·
    refine WP.ret ⟨rfl,rfl,[],U,?_⟩
    exact⟨(show o<=ab by omega),N,.inr (aj (W.2 tP.1) (gz.2 tP.2))⟩
   ·
    refine WP.skip<|WP.region<|ov 24 (Y (.ofNat (fW+1))) ?_ (fun _ _ _=>by rw[<-gQ (show fW+1<9223372036854775808 by omega)];kernel_rfl)
    refine oN 1<|⟨(F.gj.l.length+1)-(fW+1),om,rfl,rfl,fW+1,om,U,?_,?_,?_,?_,?_⟩
    · exact od
    · exact N
    · exact((Nr _ au (.inl S)).trans (B.get X))
    · by_cases hw:rL F fW
      · rw[Xe hw];exact⟨_,.inl S,ah (J.2 hw) (fu.1 fun k=>tP ⟨W.1 (J.2 hw),k⟩)⟩
      · obtain⟨h3,h4⟩:=ai (Bool.eq_false_iff.2 fun k=>hw (J.1 k))
        rw[UX hw,h3,h4];exact⟨_,.inl S,ae⟩
    · show o<=ab;omega
  ·
   refine WP.exit<|⟨rfl,rfl,[],U,?_⟩
   have hi:fW=F.gj.l.length+1:=by omega
   rw[hi]at R
   exact⟨(show o<=jd by omega),jt,.inl (R.imp fun _ h=>h.2)⟩
 ·
  exact⟨0,om,U,fg _,az,af,(⟨_,aB,aH⟩),nR⟩
end
end Sw
