/- A part of the proof that the law returns true for every input that its row speaks of. No condition is added. -/
import Derived.Test.YtecbgehgkpgbmaaGreatDoorSwAH
import Derived.Test.YtecbgehgkpgbmaaGreatDoorSwAG
import Derived.Test.YtecbgehgkpgbmaaGreatDoorSwAF
namespace Sw
noncomputable section
open Go Go.Proofs Go.RowKit
set_option maxRecDepth 100000
set_option maxHeartbeats 1600000
def um(s:fL):Prop:=-70368744177664<=s.g_/\s.gU<=70368744177664/\s.g_<=s.gU
def zr:Prop:=(∀(O:Ht) (G:Nat),WF ex 209 [.slice none 0 0,.func (.func 117) #[] #[]] O G (fun _ eZ e5=>eZ=O/\e5=G))/\
 ∀(L:List fL) (B b gr:Nat) (O:Ht) (G:Nat),0<L.length->L.length<=1048576->tW fc 2 B b gr O G L->
  WF ex 209 [.slice (some ⟨b,0,none⟩) L.length L.length,.func (.func 117) #[] #[]] O G (fun _ eZ e5=>e5=G/\tW fc 2 B b gr eZ e5 (wI L)/\HE B O eZ)
def Touch(a b:fL):Prop:=a=b\/b.g_<=gn .i64 (a.gU+1)
def both(a b:fL):fL:=⟨a.g_,(bif rI (a.gU) (b.gU)then(b.gU)else(a.gU))⟩
open Classical in
def sj(J:List fL)(x:fL):List fL:=match J[J.length-1]? with
 |none=>J++[x]
 |some y=>if Touch y x then J.set (J.length-1) (both y x)else J++[x]
def jn(l:List fL):List fL:=l.foldl sj []
theorem FW{l:List fL}{i:Nat}{x:fL}(h:l[i]?=some x):jn (l.take (i+1))=sj (jn (l.take i)) x:=by
 unfold jn
 rw[List.take_add_one,h,List.foldl_append];rfl
theorem Sb(J:List fL)(x:fL):(sj J x).length<=J.length+1:=by
 unfold sj
 split
 · simp
 · split
   · simp
   · simp
theorem M4(l:List fL)(i:Nat):(jn (l.take i)).length<=i:=by
 induction i with
 |zero=>simp[jn]
 |succ i ih=>
  cases h:l[i]? with
  |none=>rw[List.take_add_one,h];simp;omega
  |some x=>rw[FW h];have:=Sb (jn (l.take i)) x;omega
def uK(l:List fL):List fL:=jn (wI l)
theorem FX(l:List fL):(wI l).length=l.length:=List.length_mergeSort ..
theorem KA(l:List fL):(uK l).length<=l.length:=by
 have:=M4 (wI l) (wI l).length
 rw[List.take_length,FX]at this
 exact this
def xl(W:List (List fL)):Prop:=(∀y∈W,y.length<=4096)/\∀y∈W,∀s∈y,um s
def Ya(P:Prop):Value->Prop:=fun v=>∃z:Int,v=Y z/\(z=0\/z=10\/z=2)/\(z=0->P)/\(P->z=0)
theorem Ow(x y:fL):ya ex.T 12 104 (.agg (fc x).toArray) (.agg (fc y).toArray)=(bif (kC x.g_ y.g_)then(bif (kC x.gU y.gU)then(some true)else(some false))else(some false)):=by kernel_rfl
theorem Ox(x y:fL):((kC x.g_ y.g_)&&(kC x.gU y.gU))=true↔x=y:=by
 constructor
 · intro h;cases x;cases y;simp only[Bool.and_eq_true,lJ,beq_iff_eq,qZ]at h;obtain h:=h;simp_all
 · rintro rfl;simp only[Bool.and_eq_true,lJ,beq_iff_eq,qZ,and_self]
theorem Oy(x y:fL):ya ex.T 12 104 (.agg (fc x).toArray) (.agg (fc y).toArray)=some ((kC x.g_ y.g_)&&(kC x.gU y.gU)):=by
 rw[Ow]
 (cases(kC x.g_ y.g_))<;>(cases(kC x.gU y.gU))<;>rfl
theorem Oz(xo yo:Operand)(x y:fL){c:Bool}(e:c=@decide (x=y) (Classical.propDecidable _)):zN ex.T .eql 104 xo yo (.agg (fc x).toArray) (.agg (fc y).toArray)=some (.bool c):=by
 have h1:zN ex.T .eql 104 xo yo (.agg (fc x).toArray) (.agg (fc y).toArray)=(ya ex.T 12 104 (.agg (fc x).toArray) (.agg (fc y).toArray)).map .bool:=by kernel_rfl
 have D:((kC x.g_ y.g_)&&(kC x.gU y.gU))=c:=by rw[e,Bool.eq_iff_iff,Ox];exact(@decide_eq_true_iff _ (Classical.propDecidable _)).symm
 rw[h1,Oy,D];rfl
theorem kn:ex.T.agg 104=some true:=U
theorem nY:ex.T.agg 48=some false:=U
theorem gZ:ex.T.size 104=some 2:=U
theorem qH:ex.T.size 48=some 1:=U
theorem pn:ex.T.jh 48=some (.slice 104):=U
theorem AW:ex.T.jh 99=some (.slice 48):=U
theorem mY:ex.T.zero 104=some (.agg ⟨[Y 0,Y 0]⟩):=U
theorem Fe{p:Prop}(h:p:=by
 obtain⟨a1,c2,hR⟩:=hK.shape
 have lU:=hK.2.2
 rw[hR]
 refine Gr mC fun hE=>sr<|oN 1<|WP.seq<|sr<|oN 3<|WP.block ?_
 refine mg [0,1,7,8] (fun m hs ns vs=>∃(fR:Nat),fR+m=K.l.length/\vs=[.slice a1 (K.l.length) c2,.func (.func f) #[] b,Y (.ofNat (K.l.length)),Y (.ofNat fR)]/\G<=ns/\HE (G) O hs/\(∀(j:Nat) (y:_),j<fR->K.l[j]?=some y->¬A y)) ?_ (K.l.length) ?_
 ·
  rintro xM p_ iY _ ⟨fR,ui,rfl,oF,jl,hinv⟩ uj
  have j2:=hE.trans jl
  refine sr ?_
  refine oq 9 (kL fR K.l.length) fun nu rM=>WO.nil<|WP.seq<|cq rM (fun w9=>?_) (fun w9=>?_)
  ·
   refine WP.skip<|WP.seq<|WP.block<|sr<|oN 2<|sr<|oX 3 ?_
   have nz:fR<K.l.length:=by omega
   refine WO.cons (WC.iy hR hK (fR) nC pa (nz) ?_)
   obtain⟨lv,kB⟩:=gE nz
   refine WO.cons (WC.ly hR (hK.mono j2 nR) kB sY pa<|WO.cons (WC.call 16 f ((.agg (pu lv).toArray)::b.toList) kf ((hf fR lv kB p_ (iY) om j2).mono ?_)))
   rintro _ JD Un ⟨⟨Fa,rfl,CW⟩,Uo,uk⟩
   refine WO.nil<|cq CW (fun wJ=>?_) (fun wJ=>?_)
   ·
    refine sr<|oW 2 ⟨rfl,rfl,[Y (.ofNat fR)],U,?_⟩
    exact⟨.inr ⟨fR,lv,rfl,kB,wJ,hinv⟩,od,(j2.trans uk)⟩
   ·
    refine WP.skip<|WP.region<|ov 18 (Y (.ofNat (fR+1))) ?_ (fun _ _ _=>by rw[<-gM (show fR+1<9223372036854775808 by omega)];kernel_rfl)
    refine oN 1<|⟨K.l.length-(fR+1),om,rfl,rfl,fR+1,om,U,?_,?_,?_⟩
    · exact od
    · exact(jl.trans uk oF)
    · intro j y hj hy;rcases fo.1 hj with hj|rfl;exact hinv j y hj hy;rw[kB]at hy;cases hy;exact wJ
  ·
   refine WP.exit<|sr<|oW 1 ⟨rfl,rfl,[Y (-1)],U,?_⟩
   refine⟨.inl ⟨rfl,fun y hy=>?_⟩,od,j2⟩
   obtain⟨j,hj⟩:=fJ hy
   exact hinv j y (by have:=(fe.1 hj).1;omega) hj
 ·
  exact⟨0,om,U,e9 _,HE.refl _ _,(fun j y h=>absurd h (fz _))⟩):p:=h
theorem JF{A:fL->Prop}(K:SV fL)(f:FuncId)(b:Array Value)(O:Ht)(G:Nat)(hK:gx fc 2 O G K)(hf:∀(i:Nat) (x:fL),K.l[i]?=some x->∀(eZ:Ht) (e5:Nat),G<=e5->HE G O eZ->WF ex f ((.agg (fc x).toArray)::b.toList) eZ e5 (fG e5 eZ (ga (A x)))):WF ex 74 [K.v,.func (.func f) #[] b] O G (fG G O (pW K.l A)):=by
 have mC:=fF (e:=ex) 74 Tryz.f74 19 [.tmp 4]
 have nC:=@pn
 have pa:=@gZ
 have sY:=@kn
 let pu:=fc
 exact Fe
theorem Al{A:fL->Prop}(K:SV fL)(f:FuncId)(b:Array Value)(O:Ht)(G:Nat)(hK:gx fc 2 O G K)(hf:∀(i:Nat) (x:fL),K.l[i]?=some x->∀(eZ:Ht) (e5:Nat),G<=e5->HE G O eZ->WF ex f ((.agg (fc x).toArray)::b.toList) eZ e5 (fG e5 eZ (ga (A x)))):WF ex 38 [K.v,.func (.func f) #[] b] O G (fG G O (ga (∃x∈K.l,A x))):=by
 obtain⟨a1,c2,hR⟩:=hK.shape
 have lU:=hK.2.2
 rw[hR]
 refine wd Tryz.f38 9 [.tmp 4] fun hE=>sr<|oN 1<|sr<|oX 2<|WO.cons (WC.call 7 74 ([K.v,.func (.func f) #[] b]) (fun _ _ _=>by(try rw[hR]);kernel_rfl) ((JF K f b O (G) hK hf).mono ?_))
 rintro R8 Ee Iv ⟨BH,MX,pC⟩
 obtain⟨z8,rfl,R9⟩:∃z:Int,R8=Y z/\(0<=z↔∃x∈K.l,A x):=pW.sign BH
 obtain⟨nM,e,rN⟩:=pF 0 z8
 refine ob 8 e<|oW 1 ⟨rfl,rfl,[.bool nM],U,?_⟩
 exact⟨⟨nM,rfl,rN.trans R9⟩,od,(hE.trans pC)⟩
theorem Ff(s:fL)(O:Ht)(G:Nat):WF ex 67 [.agg (fc s).toArray] O G (fG G O (MF 10 (um s))):=by
 refine wd Tryz.f67 18 [.tmp 2] fun hE=>sr<|oB (.agg (fc s).toArray) (fc s) fun jq iC hU=>?_
 have kW:=hE.trans iC
 refine oN 1<|WP.seq<|sr<|oX 1<|oZ G 0 (Y s.g_) ft hU rfl ?_
 refine oq 5 (mr s.g_ (-70368744177664)) fun e u=>oX 1<|gF 6 e (pt G (0+1))<|nF 6 e G (0+1) (Y s.gU) ft hU rfl ?_
 refine nm 6 e (mr 70368744177664 s.gU) fun A y=>?_
 refine mz 10 (nO u y) fun b m=>oX 1<|gF 11 b (pt G 0)<|nF 11 b G 0 (Y s.g_) ft hU rfl<|gF 11 b (pt G (0+1))<|nF 11 b G (0+1) (Y s.gU) ft hU rfl ?_
 refine nm 11 b (mr s.gU s.g_) fun z o=>?_
 refine mz 17 (nO m o) fun nM rN=>WO.nil<|cq rN (fun p=>?_) (fun p=>?_)
 ·
  refine sr<|oW 1 ⟨rfl,rfl,[Y 10],U,?_⟩
  refine⟨⟨10,rfl,⟨fun h=>absurd h (by decide),fun j=>?_⟩,.inr rfl⟩,od,kW⟩
  exact absurd j (by unfold um;omega)
 ·
  refine WP.skip<|sr<|oW 1 ⟨rfl,rfl,[Y 0],U,?_⟩
  refine⟨⟨0,rfl,⟨fun _=>?_,fun _=>rfl⟩,.inl rfl⟩,od,kW⟩
  unfold um;omega
theorem K8(s:fL)(O:Ht)(G:Nat):WF ex 114 [.agg (fc s).toArray] O G (fG G O (ga (¬um s))):=by
 refine wd Tryz.f114 6 [.tmp 2] fun hE=>sr<|oB (.agg (fc s).toArray) (fc s) fun jq iC hU=>?_
 refine oN 1<|sr<|WO.cons (WC.im G (0) (fc s) U kn gZ hU rfl<|WO.cons (WC.call 4 67 ([.agg (fc s).toArray]) kf ((Ff s jq (G+1)).mono ?_)))
 rintro _ u y ⟨⟨z12,rfl,j,o⟩,p,e⟩
 refine oq 5 (qG z12 0) fun b m=>oW 1 ⟨rfl,rfl,[.bool b],U,?_⟩
 refine⟨⟨b,rfl,?_⟩,od,((hE.trans iC).trans e)⟩
 rw[m];exact not_congr j
theorem Ac(W:SV (SV fL))(O:Ht)(G:Nat)(b:ju lC 1 (fun O G y=>gx fc 2 O G y) O G W):WF ex 64 [W.v] O G (fG G O (Ya (xl (W.l.map (·.l))))):=by
 obtain⟨a1,c2,hR⟩:=b.1.shape
 have lU:=b.1.2.2
 rw[hR]
 refine wd Tryz.f64 17 [.tmp 2] fun hE=>sr<|oN 1<|WP.seq<|sr<|oN 3<|WP.block ?_
 refine mg [5,6,7] (fun m hs ns vs=>∃(fR:Nat),fR+m=W.l.length/\vs=[.slice a1 (W.l.length) c2,Y (.ofNat (W.l.length)),Y (.ofNat fR)]/\G<=ns/\HE (G) O hs/\(∀(j:Nat) (y:SV fL),j<fR->W.l[j]?=some y->y.l.length<=4096/\∀s∈y.l,um s)) ?_ (W.l.length) ?_
 ·
  rintro xM p_ iY _ ⟨fR,ui,rfl,oF,jl,e⟩ uj
  have j2:=hE.trans jl
  refine sr ?_
  refine oq 8 (kL fR W.l.length) fun nu rM=>WO.nil<|WP.seq<|cq rM (fun w9=>?_) (fun w9=>?_)
  ·
   refine WP.skip<|WP.seq<|WP.block<|sr ?_
   have nz:fR<W.l.length:=by omega
   refine WO.cons (WC.iy hR b.1 (fR) AW qH (nz) ?_)
   obtain⟨lv,kB⟩:=gE nz
   obtain⟨C,yr,p⟩:=(b.2 lv (cs kB)).shape
   have K:=(b.2 lv (cs kB)).2.2
   refine WO.cons (WC.lz (.slice C (lv.l.length) yr) hR (b.1.mono j2 nR) kB (by rw[<-p];rfl) nY<|oN 1<|WP.seq<|sr<|oX 2 ?_)
   refine oq 13 (nE 4096 lv.l.length) fun R E=>WO.nil<|cq E (fun J=>?_) (fun J=>?_)
   ·
    refine sr<|oW 1 ⟨rfl,rfl,[Y 2],U,?_⟩
    refine⟨⟨2,rfl,by decide,fun h=>absurd h (by decide),fun h=>?_⟩,od,j2⟩
    exact absurd (h.1 _ (fO.2 ⟨_,cs kB,rfl⟩)) om
   ·
    refine WP.skip<|sr<|oX 1<|WO.cons (WC.call 15 38 ([lv.v,.func (.func 114) #[] #[]]) (fun _ _ _=>by(try rw[p]);kernel_rfl) ((Al (A:=fun s=>¬um s) lv 114 #[] p_ (iY) ((b.2 lv (cs kB)).mono j2) (fun i x hx eZ e5 hn he=>K8 x eZ e5)).mono ?_))
    rintro _ M N ⟨⟨S,rfl,F⟩,L,o⟩
    refine WO.nil<|cq F (fun u=>?_) (fun u=>?_)
    ·
     refine sr<|oW 1 ⟨rfl,rfl,[Y 10],U,?_⟩
     refine⟨⟨10,rfl,by decide,fun h=>absurd h (by decide),fun h=>?_⟩,od,(j2.trans o)⟩
     obtain⟨s,hs,hn⟩:=u
     exact absurd (h.2 _ (fO.2 ⟨_,cs kB,rfl⟩) s hs) hn
    ·
     refine WP.skip<|WP.region<|ov 16 (Y (.ofNat (fR+1))) ?_ (fun _ _ _=>by rw[<-gM (show fR+1<9223372036854775808 by omega)];kernel_rfl)
     refine oN 1<|⟨W.l.length-(fR+1),om,rfl,rfl,fR+1,om,U,?_,?_,?_⟩
     · exact od
     · exact(jl.trans o oF)
     · intro j y hj hy
       rcases fo.1 hj with hj|rfl
       · exact e j y hj hy
       · rw[kB]at hy;cases hy
         exact⟨om,fun s hs=>fg.1 fun k=>u ⟨s,hs,k⟩⟩
  ·
   refine WP.exit<|sr<|oW 1 ⟨rfl,rfl,[Y 0],U,?_⟩
   refine⟨⟨0,rfl,.inl rfl,fun _=>⟨fun y hy=>?_,fun y hy s hs=>?_⟩,fun _=>rfl⟩,od,j2⟩
   · obtain⟨z,B,rfl⟩:=List.mem_map.1 hy
     obtain⟨j,hj⟩:=fJ B
     exact(e j z (by have:=(fe.1 hj).1;omega) hj).1
   · obtain⟨z,B,rfl⟩:=List.mem_map.1 hy
     obtain⟨j,hj⟩:=fJ B
     exact(e j z (by have:=(fe.1 hj).1;omega) hj).2 s hs
 ·
  exact⟨0,om,U,e9 _,HE.refl _ _,(fun _ _ h=>absurd h (fz _))⟩
theorem Uu(a b:fL)(O:Ht)(G:Nat):WF ex 118 [.agg (fc a).toArray,.agg (fc b).toArray] O G (fG G O (ga (Touch a b))):=by
 refine wd Tryz.f118 16 [.tmp 4] fun hE=>sr<|oB (.agg (fc a).toArray) (fc a) fun jq iC hU=>?_
 refine oB (.agg (fc b).toArray) (fc b) fun C o j=>?_
 have m:=o.get hU
 refine oN 1<|sr<|WO.cons (WC.im G (0) (fc a) U kn gZ m rfl<|WO.cons (WC.im (G+1) (0) (fc b) U kn gZ j rfl ?_))
 obtain⟨e,u,y⟩:=@nb (@decide (a=b) (Classical.propDecidable _)) (a=b) (@decide_eq_true_iff _ (Classical.propDecidable _))
 refine WO.cons (WC.me (v:=.bool e) 7 (zN ex.T .eql 104 (.tmp 5) (.tmp 6) (.agg (fc a).toArray) (.agg (fc b).toArray)) kf (Oz _ _ a b u)<|oX 1<|gF 8 e (pt (G+1) 0)<|nF 8 e (G+1) 0 (Y b.g_) ft j rfl<|gF 8 e (pt G (0+1))<|nF 8 e G (0+1) (Y a.gU) ft m rfl<|gF 8 e (Y (gn .i64 ((a.gU)+(1)))) ?_)
 refine nm 8 e (pF b.g_ (gn .i64 ((a.gU)+(1)))) fun B z=>?_
 refine mz 15 (nO y z) fun p A=>oW 1 ⟨rfl,rfl,[.bool p],U,?_⟩
 refine⟨⟨p,rfl,?_⟩,od,((hE.trans iC).trans o)⟩
 exact A
theorem Uv(a b:fL)(O:Ht)(G:Nat):WF ex 120 [.agg (fc a).toArray,.agg (fc b).toArray] O G (fG G O (wx (.agg (fc (both a b)).toArray))):=by
 refine wd Tryz.f120 13 [.cell 4 104] fun hE=>sr<|oB (.agg (fc a).toArray) (fc a) fun jq iC hU=>?_
 refine oB (.agg (fc b).toArray) (fc b) fun B j m=>?_
 refine oA [Y 0,Y 0] mY fun z jx o=>?_
 have e:=jx.get (j.get hU)
 refine WO.nil<|sr<|oX 1<|oZ G 0 (Y a.g_) ft e rfl<|oX 1<|oZ G (0+1) (Y a.gU) ft e rfl<|oX 1<|oZ (G+1) (0+1) (Y b.gU) ft (jx.get m) rfl<|oX 2<|oS (G+1+1) (0) (.agg ⟨[Y a.g_,Y ((bif rI (a.gU) (b.gU)then(b.gU)else(a.gU)))]⟩) [Y a.g_,Y ((bif rI (a.gU) (b.gU)then(b.gU)else(a.gU)))] [Y a.g_,Y ((bif rI (a.gU) (b.gU)then(b.gU)else(a.gU)))] gZ rfl rfl o fun A u p y=>?_
 refine wr ⟨rfl,rfl,[.agg ⟨[Y a.g_,Y ((bif rI (a.gU) (b.gU)then(b.gU)else(a.gU)))]⟩],(sL (by rw[show(fV (.tmp 4)).run _=pt (G+1+1) 0 from by kernel_rfl];exact jO kn gZ p rfl)),?_⟩
 exact⟨rfl,od,((((hE.trans iC).trans j).trans jx).trans u)⟩
end
end Sw
namespace Sw
noncomputable section
open Go Go.Proofs Go.RowKit
set_option maxRecDepth 100000
set_option maxHeartbeats 1600000
theorem Bx:∃i,ex.T.kd 104=some i/\i.bytes<=1024:=by
 cases h:ex.T.kd 104 with
 |none=>exact absurd (show(ex.T.kd 104).isSome=true by kernel_rfl) (by rw[h];decide)
 |some i=>
  refine⟨i,rfl,?_⟩
  have:((ex.T.kd 104).map fun i=>Nat.ble i.bytes 1024)=some true:=by kernel_rfl
  rw[h]at this
  exact fa (fS this)
theorem gx.cells{α:Type}{enc:α->List Value}{n:Nat}{O:Ht}{G:Nat}{s:SV α}(h:gx enc n O G s):s.v.cells.toList=[s.v]:=by
 obtain⟨a,c,e⟩:=h.shape
 rw[e];rfl
theorem tU(l:List fL):∀y∈l,(fc y).length=2:=fun _ _=>rfl
def Yb(K:List fL)(r:sU Tm)(G:Nat)(i:Nat)(a:Ht)(c:Nat):Prop:=∃J:SV fL,a.get G=some (.cells [J.v] gi.plain)/\J.l=K.take i/\mq fc 2 (G+3) a c J/\a.get (G+2)=some (.loop r)/\a.get (G+1)=some (.deferred (some []))/\G+3<=c
def QH(K:List fL)(f:FuncId)(m:Array Value)(O:Ht)(G:Nat):Prop:=∀(y:Value) (Inv:Nat->Ht->Nat->Prop) (j:Ht) (e:Nat),G<=e->HE G O j->Inv 0 j e->(∀i a b c d,Inv i a b->HE b a c->b<=d->Inv i c d)->
 (∀i x,K[i]?=some x->∀a b,e<=b->HE G O a->Inv i a b->WV ex y [.agg (fc x).toArray] a b (fun v c d=>v=.bool true/\b<=d/\HE G a c/\Inv (i+1) c d))->WF ex f (y::m.toList) j e (fun _ c d=>Inv K.length c d/\e<=d/\HE G O c)
theorem Sc(K:SV fL)(O:Ht)(G:Nat)(hK:gx fc 2 O G K):WF ex 116 [K.v] O G (fun v eZ e5=>∃b,v=.func (.func 210) #[] #[pt b 0]/\eZ.get b=some (.cells [K.v] gi.plain)/\b<e5/\G<=e5/\HE G O eZ):=by
 obtain⟨a1,c2,hR⟩:=hK.shape
 have lU:=hK.2.2
 rw[hR]
 refine wd Tryz.f116 4 [.tmp 2] fun hE=>sr<|oB (.slice a1 (K.l.length) c2) [.slice a1 (K.l.length) c2] fun zE pC uo=>?_
 refine oN 1<|sr<|oW 2 ⟨rfl,rfl,[.func (.func 210) #[] #[pt G 0]],U,?_⟩
 exact⟨_,rfl,uo,(fb (G)),od,(hE.trans pC)⟩
theorem QI(K:SV fL)(y:Value)(u:Nat)(Inv:Nat->Ht->Nat->Prop)(O:Ht)(G:Nat)(hK:gx fc 2 O G K)(M:O.get u=some (.cells [K.v] gi.plain))(jA:u<G)(F:Ht)(e:Nat)(h1:G<=e)(B:HE G O F)(ad:Inv 0 F e)(hm:∀i a b c d,Inv i a b->HE b a c->b<=d->Inv i c d)(hs:∀i x,K.l[i]?=some x->∀a b,e<=b->HE G O a->Inv i a b->WV ex y [.agg (fc x).toArray] a b (fun v c d=>v=.bool true/\b<=d/\HE G a c/\Inv (i+1) c d)):WF ex 210 [y,pt u 0] F e (fun _ c d=>Inv K.l.length c d/\e<=d/\HE G O c):=by
 refine wb ⟨Tryz.f210.body.getD .skip,16,[]⟩<|sr ?_
 obtain⟨a1,c2,hR⟩:=hK.shape
 have lU:=hK.2.2
 refine oZ u (0) (.slice a1 (K.l.length) c2) nY (B.get M jA) (by rw[<-hR];rfl)<|oN 2<|WP.block ?_
 refine mg [0,5,6,7] (fun m hs ns vs=>∃(fR:Nat),fR+m=K.l.length/\vs=[y,.slice a1 (K.l.length) c2,Y (.ofNat (K.l.length)),Y (.ofNat fR)]/\e<=ns/\HE G O hs/\hs.get u=some (.cells [K.v] gi.plain)/\(Inv fR hs ns)/\(e<=ns)) ?_ (K.l.length) ?_
 ·
  rintro xM p_ iY _ ⟨fR,ui,rfl,oF,jl,aa,A,aj⟩ uj
  refine sr ?_
  refine oq 8 (kL fR K.l.length) fun ai ab=>WO.nil<|WP.seq<|cq ab (fun ac=>?_) (fun ac=>?_)
  ·
   refine WP.skip<|WP.seq<|WP.block<|sr ?_
   have p:fR<K.l.length:=by omega
   refine WO.cons (WC.iy hR hK (fR) pn gZ (p) ?_)
   obtain⟨j,J⟩:=gE p
   refine WO.cons (WC.ly hR (hK.mono jl nR) J kn gZ<|oA [Y 0,Y 0] mY fun af o R=>?_)
   refine oS iY (0) (.agg (fc j).toArray) (fc j) (fc j) gZ rfl rfl R fun X C S W=>?_
   have z:=(jl.trans o).trans C
   refine WO.nil<|sr<|oX 1<|WO.cons (WC.im iY (0) (fc j) U kn gZ S rfl<|WO.cons (WC.Qz 13 y [.agg (fc j).toArray] kf ((hs _ j J X (iY+1) om z (hm _ _ _ _ _ A (((HE.refl (iY) p_).trans o).trans C) om)).mono ?_)))
   rintro _ ag ah ⟨rfl,ae,E,N⟩
   refine oN 1<|WP.cond false U (fun L=>by cases L) (fun L=>?_)
   refine WP.skip<|WP.region<|ov 15 (Y (.ofNat (fR+1))) ?_ (fun _ _ _=>by rw[<-gM (show fR+1<9223372036854775808 by omega)];kernel_rfl)
   refine oN 1<|⟨K.l.length-(fR+1),om,rfl,rfl,fR+1,om,U,?_,?_,?_,?_,?_⟩
   · exact od
   · exact(z.trans E)
   · exact(E.get ((W u om).trans (o.get aa)) jA)
   · exact N
   · first|omega|(dsimp only;omega)
  ·
   refine WP.exit<|⟨rfl,rfl,[],U,?_⟩
   have hi:fR=K.l.length:=by omega
   rw[hi]at A
   exact⟨A,(show e<=iY by omega),jl⟩
 ·
  exact⟨0,om,U,e9 _,B,(B.get M jA),ad,nR⟩
theorem M5(K:SV fL)(f:FuncId)(ac:Array Value)(O:Ht)(G:Nat)(hK:K.l.length<=1048576)(aQ:QH K.l f ac O G):WF ex 284 [.slice none (0) 0,.func (.func f) #[] ac] O G (fun v eZ e5=>∃J:SV fL,v=J.v/\J.l=K.l/\mq fc 2 G eZ e5 J/\G<=e5/\HE G O eZ):=by
 refine WF.Y4 (fi:=⟨Tryz.f284.body.getD .skip,13,[.tmp 4]⟩) U U U rfl rfl ?_
 have hE:=HE.refl G O
 refine sr<|oB (.slice none (0) 0) [.slice none (0) 0] fun jq iC hU=>?_
 have kW:=hE.trans iC nR
 refine oN 1<|WP.seq<|sr<|oN 1<|WP.block<|WP.MI (.func (.func f) #[] ac) U fun F p=>?_
 obtain⟨m,B⟩:∃h:Ht,h=(jq.set (G+1) (some (.deferred (some [])))).set (G+1+1) (some (.loop F)):=⟨_,rfl⟩
 rw[<-B]
 have aZ:m.get (G+1)=some (.deferred (some [])):=by rw[B];exact(Tr.gA _ _ om).trans (Tr.ia ..)
 have a_:m.get (G+2)=some (.loop F):=by rw[B];exact Tr.ia ..
 have ae:HE (G+1) jq m:=by rw[B];exact(HE.set _ _ nR).trans (HE.set _ _ (e_ _)) nR
 have aY:=ae.get hU (fb (G))
 have aX:HE G O m:=kW.trans ae om
 refine(WV.func (f:=f) (show WF ex f (.func (.yield (G+2)) #[] #[]::ac.toList) m (G+3) _ from(aQ (.func (.yield (G+2)) #[] #[]) (Yb K.l F G) m (G+3) om aX ?_ ?_ ?_))).mono ?_
 · exact⟨⟨.slice none 0 0,[]⟩,aY,by simp,mq.nil,a_,aZ,om⟩
 · rintro i a b c d ⟨J,W,C,X,E,aa,be⟩ he hle
   exact⟨J,he.get W om,C,X.mono he hle,he.get E om,he.get aa om,om⟩
 ·
  rintro i x hx a c hc af ⟨J,W,C,X,E,aa,be⟩
  have bp:=(fe.1 hx).1
  have bo:J.l.length=i:=by rw[C,List.length_take];omega
  refine WV.round (F.tmps.set 7 (.agg (fc x).toArray)) E rfl (by rw[p]) (by rw[p];rfl) ?_
  subst p
  have bd:=HE.refl (c) a
  have ak:=e9 (c)
  refine WP.region<|oA [Y 0,Y 0] mY fun y9 wR av=>?_
  have al:=af.trans wR (show G<=c by omega)
  have aw:=wR.get W (show G<c by omega)
  have aS:=e4 (show G<c by omega) (e_ (c))
  have ax:=wR.get E (show(G+2)<c by omega)
  have aT:=e4 (show(G+2)<c by omega) (e_ (c))
  have ay:=wR.get aa (show(G+1)<c by omega)
  have aU:=e4 (show(G+1)<c by omega) (e_ (c))
  have aO:=bd.trans wR ak
  have aV:=e8 ak (e_ (c))
  have aR:=e8 (show G<=c by omega) (e_ (c))
  refine oS c (0) (.agg (fc x).toArray) (fc x) (fc x) gZ rfl rfl av fun bh R az u=>?_
  have am:=al.trans R om
  have aP:=aO.trans R om
  have aA:=(u G om).trans aw
  have aB:=(u (G+2) om).trans ax
  have uL:=(u (G+1) om).trans ay
  refine WO.nil<|⟨rfl,aB,fun ah a7 o=>?_⟩
  have an:HE G O ah:=fun q e=>(o q om).trans (am q e)
  have N:=(o G om).trans aA
  have aC:=(o (G+1) om).trans uL
  have aD:=(o c om).trans az
  have ar:=(X.mono aP aV).sV (eZ:=ah) (fun q e=>o q om)
  refine WP.block<|WP.region<|oZ G (0) (J.v) nY N rfl<|WO.cons (WC.im c (0) (fc x) U kn gZ aD rfl<|oL [Y x.g_,Y x.gU] fun xv uM xw=>?_)
  have ao:=an.trans uM aR
  have aE:=uM.get N aS
  have aF:=uM.get a7 aT
  have aG:=uM.get aC aU
  have au:=ar.mono uM (e_ (c+1))
  obtain⟨inf,pq,vu⟩:=Bx
  refine WO.cons (WC.CO (enc:=fc) (J:=J) x rfl U U au (tU _) xw rfl pn gZ mY pq rfl rfl vu om om rfl ?_)
  rintro ab jq oT L yb tX ad
  have ap:=ao.trans tX om
  have aH:=tX.get aE om
  have aI:=tX.get aF om
  have aJ:=tX.get aG om
  have M:=ad.ok (tU _) (by rw[L,List.length_append];simp;omega)
  refine oS G (0) (ab.v) [ab.v] [ab.v] qH M.cells (e7.2 ⟨rfl,by rw[List.all_cons,M.one];rfl⟩) aH fun bj aN aK y=>?_
  have aq:=ap.trans aN om
  have aL:=(y (G+2) om).trans aI
  have aM:=(y (G+1) om).trans aJ
  refine WO.nil<|⟨rfl,aL,fun br a8 z=>⟨rfl,(show c<=oT by omega),fun q e=>(z q om).trans ((aq q e).trans (af q e).symm),ab,(z G om).trans aK,?_,ad.sV (fun q e=>(z q om).trans (y q om)),a8,(z (G+1) om).trans aM,(show G+3<=oT by omega)⟩⟩
  rw[L,C,List.take_add_one,hx];rfl
 ·
  rintro _ S bg ⟨⟨J,W,C,X,E,aa,be⟩,bq,a6⟩
  refine⟨F,0,E,(fun h=>by rw[p]at h;cases h),by rw[p];rfl,?_⟩
  obtain⟨j,ai⟩:∃h:Ht,h=S.set (G+1+1) (some (.loop {F with state:=.exhausted})):=⟨_,rfl⟩
  rw[<-ai]
  have A:∀q,q≠G+2->j.get q=S.get q:=fun q e=>by rw[ai];exact Tr.gA _ _ e
  have aW:HE G O j:=fun q e=>(A q om).trans (a6 q e)
  have bl:=(A G om).trans W
  have bk:=(A (G+1) om).trans aa
  have bn:=X.sV (eZ:=j) (fun q e=>A q om)
  refine sr<|oZ G (0) (J.v) nY bl rfl<|oW 1 ⟨rfl,_,rfl,bk,[J.v],U,?_⟩
  obtain⟨bc,aj⟩:∃h:Ht,h=j.set (G+1) (some (.deferred none)):=⟨_,rfl⟩
  show(fun v eZ e5=>∃J:SV fL,v=J.v/\J.l=K.l/\mq fc 2 G eZ e5 J/\G<=e5/\HE G O eZ) _ (j.set (G+1) (some (.deferred none))) bg
  rw[<-aj]
  have ag:∀q,q≠G+1->bc.get q=j.get q:=fun q e=>by rw[aj];exact Tr.gA _ _ e
  exact⟨J,rfl,by rw[C,List.take_length],(bn.sV (fun q e=>ag q om)).low om,om,fun q e=>(ag q om).trans (aW q e)⟩
theorem QJ(K:SV fL)(f:FuncId)(b:Array Value)(O:Ht)(G:Nat)(hK:K.l.length<=1048576)(e:QH K.l f b O G):WF ex 208 [.func (.func f) #[] b] O G (fun v eZ e5=>∃J:SV fL,v=J.v/\J.l=K.l/\mq fc 2 G eZ e5 J/\G<=e5/\HE G O eZ):=by
 refine wd Tryz.f208 5 [.tmp 2] fun hE=>sr<|oN 1<|sr<|oX 1<|WO.cons (WC.call 4 284 ([.slice none 0 0,.func (.func f) #[] b]) kf ((M5 K f b O (G) om e).mono ?_))
 rintro _ p oT ⟨J,rfl,m,j,o,iC⟩
 refine oW 1 ⟨rfl,rfl,[J.v],U,?_⟩
 exact⟨J,rfl,m,j,od,(hE.trans iC)⟩
theorem K9(E:zr)(K:SV fL)(f:FuncId)(o:Array Value)(O:Ht)(G:Nat)(hK:K.l.length<=1048576)(B:QH K.l f o O G):WF ex 115 [.func (.func f) #[] o,.func (.func 117) #[] #[]] O G (fun v eZ e5=>∃J:SV fL,v=J.v/\J.l=wI K.l/\gx fc 2 eZ e5 J/\G<=e5/\HE G O eZ):=by
 refine wd Tryz.f115 12 [.tmp 4] fun hE=>sr<|oN 1<|sr<|oX 1<|WO.cons (WC.call 7 208 ([.func (.func f) #[] o]) kf ((QJ K f o O (G) om B).mono ?_))
 rintro _ u oT ⟨J,rfl,e,F,S,iC⟩
 have p:=hE.trans iC
 refine oN 1<|WP.seq ?_
 rcases F with⟨b,j⟩|⟨b,m,N,j,C⟩
 ·
  rw[j]
  refine WP.region<|oX 2<|WO.cons (WC.call 10 209 ([.slice none 0 0,.func (.func 117) #[] #[]]) kf ((E.1 u (oT)).mono ?_))
  rintro _ W X ⟨rfl,rfl⟩
  refine WO.nil<|sr<|oW 2 ⟨rfl,rfl,[.slice none (0) 0],U,?_⟩
  exact⟨⟨.slice none 0 0,[]⟩,rfl,(by rw[<-e,b];simp[wI]),⟨fun _ _=>rfl,.inl ⟨rfl,.inl rfl⟩,by simp⟩,od,p⟩
 ·
  rw[j]
  refine WP.region<|oX 2<|WO.cons (WC.call 10 209 ([.slice (some ⟨m,0,none⟩) J.l.length J.l.length,.func (.func 117) #[] #[]]) kf ((E.2 J.l G m N u (oT) b (by rw[e];omega) C).mono ?_))
  rintro _ L R ⟨rfl,y,z⟩
  have A:HE G O L:=fun q M=>(z q M).trans (p q M)
  refine WO.nil<|sr<|oW 2 ⟨rfl,rfl,[.slice (some ⟨m,0,none⟩) (J.l.length) J.l.length],U,?_⟩
  exact⟨⟨.slice (some ⟨m,0,none⟩) J.l.length J.l.length,wI J.l⟩,rfl,(by show wI J.l=_;rw[e]),y.Bm (fun _ _=>rfl) (FX _) b (by rw[e];omega),od,A⟩
end
end Sw
namespace Sw
noncomputable section
open Go Go.Proofs Go.RowKit
set_option maxRecDepth 100000
set_option maxHeartbeats 1600000
theorem Sd{J:List fL}(h:J=[])(x:fL):sj J x=J++[x]:=by subst h;rfl
theorem Uw{J:List fL}{x y:fL}(hy:J[J.length-1]?=some y)(h:Touch y x):sj J x=J.set (J.length-1) (both y x):=by
 unfold sj;rw[hy];simp only;rw[if_pos h]
theorem Se{J:List fL}{x y:fL}(hy:J[J.length-1]?=some y)(h:¬Touch y x):sj J x=J++[x]:=by
 unfold sj;rw[hy];simp only;rw[if_neg h]
theorem WI(K:SV fL)(O:Ht)(G:Nat)(hK:gx fc 2 O G K)(bf:K.l.length<=1048576):WF ex 119 [K.v,.func (.func 118) #[] #[],.func (.func 120) #[] #[]] O G (fun v eZ e5=>∃J:SV fL,v=J.v/\J.l=jn K.l/\gx fc 2 eZ e5 J/\G<=e5/\HE G O eZ):=by
 obtain⟨a1,c2,hR⟩:=hK.shape
 have lU:=hK.2.2
 rw[hR]
 refine wd Tryz.f119 46 [.tmp 6] fun hE=>sr<|oN 1<|WP.seq<|sr<|oN 3<|WP.block ?_
 refine mg [1,2,6,10,11,12] (fun m hs ns vs=>∃(fR:Nat) (J:SV fL),fR+m=K.l.length/\vs=[.func (.func 118) #[] #[],.func (.func 120) #[] #[],J.v,.slice a1 (K.l.length) c2,Y (.ofNat (K.l.length)),Y (.ofNat fR)]/\G<=ns/\HE G O hs/\(J.l=jn (K.l.take fR))/\(mq fc 2 G hs ns J)) ?_ (K.l.length) ?_
 ·
  rintro xM p_ iY _ ⟨fR,J,ui,rfl,oF,jl,F,aJ⟩ uj
  have aO:=e9 (iY)
  refine sr ?_
  refine oq 13 (kL fR K.l.length) fun CY By=>WO.nil<|WP.seq<|cq By (fun aW=>?_) (fun aW=>?_)
  ·
   refine WP.skip<|WP.seq<|WP.block<|sr ?_
   have al:fR<K.l.length:=by omega
   refine WO.cons (WC.iy hR hK (fR) pn gZ (al) ?_)
   obtain⟨e,W⟩:=gE al
   refine WO.cons (WC.ly hR (hK.mono jl nR) W kn gZ<|oA [Y 0,Y 0] mY fun a7 ax aK=>?_)
   have aP:=e8 aO (e_ (iY))
   refine oS iY (0) (.agg (fc e).toArray) (fc e) (fc e) gZ rfl rfl aK fun C ay M a6=>?_
   have ap:=(jl.trans ax).trans ay
   refine WO.nil<|WP.seq ?_
   have hlen:J.l.length<=fR:=by rw[F];exact M4 _ _
   have aS:=aJ.mono (((HE.refl (iY) p_).trans ax).trans ay) aP
   rcases id aS with⟨ak,aw⟩|⟨ak,j,aR,aw,E⟩
   ·
    rw[aw]
    have av:mq fc 2 G C (iY+1) ⟨.slice none 0 0,J.l⟩:=.inl ⟨ak,rfl⟩
    refine WP.region<|oN 4<|WP.seq<|WP.qN [⟨[0,1,2,3,4,5,6,7,8],[0,1,2,3,4,5,6,7,8],some 9⟩,⟨[10],[10],none⟩] U _ rfl<|WD.kQ<|nv 19 (Y (-1))<|nv 20 (.bool false)<|nv 21 (.bool false)<|WN.hQ rfl (WC.DB (x:=.bool false) (g:=fV (.tmp 21)) rfl U rfl<|WN.hQ rfl (WC.DB (x:=.bool false) (g:=fV (.tmp 21)) rfl U rfl<|WN.hQ rfl (WC.DB (x:=.bool false) (g:=fV (.tmp 21)) rfl U rfl<|WN.hQ rfl (WC.DB (x:=.bool false) (g:=fV (.tmp 21)) rfl U rfl<|WN.hQ rfl (WC.DB (x:=.bool false) (g:=fV (.tmp 21)) rfl U rfl<|WN.hQ rfl (WC.DB (x:=.bool false) (g:=fV (.tmp 21)) rfl U rfl<|WN.nil ⟨?_,?_⟩))))))
    ·
     refine ci (-1)<|cv (.bool false) rfl<|cv (.bool false) rfl<|cg rfl 21 false (.bool false) (.bool false) rfl (fun h=>by cases h)<|cg rfl 21 false (.bool false) (.bool false) rfl (fun h=>by cases h)<|cg rfl 21 false (.bool false) (.bool false) rfl (fun h=>by cases h)<|cg rfl 21 false (.bool false) (.bool false) rfl (fun h=>by cases h)<|cg rfl 21 false (.bool false) (.bool false) rfl (fun h=>by cases h)<|cg rfl 21 false (.bool false) (.bool false) rfl (fun h=>by cases h) ?_
     exact iX.nil
    refine WC.at rfl (WC.DB (x:=.bool false) (g:=fV (.tmp 21)) rfl U rfl<|WD.last<|nv 29 (.bool false)<|WN.nil ⟨?_,?_⟩)
    ·
     refine cv (.bool false) rfl ?_
     exact iX.nil
    refine WP.cond false U (fun aI=>by cases aI) (fun aI=>?_)
    refine WP.region<|oX 1<|WO.cons (WC.im iY (0) (fc e) U kn gZ M rfl<|oL [Y e.g_,Y e.gU] fun a8 az aL=>?_)
    obtain⟨inf,pq,vu⟩:=Bx
    refine WO.cons (WC.CO (enc:=fc) (J:=⟨.slice none 0 0,J.l⟩) e rfl U U (av.mono az (e_ (iY+1))) (tU _) aL rfl pn gZ mY pq rfl rfl vu (show J.l.length<=1048576 by omega) om rfl ?_)
    rintro am jq oT ac yb tX ar
    have aa:am.l=sj J.l e:=by rw[ac];exact(Sd ak _).symm
    refine oN 1<|WP.region<|ov 44 (Y (.ofNat (fR+1))) ?_ (fun _ _ _=>by rw[<-gM (show fR+1<9223372036854775808 by omega)];kernel_rfl)
    refine oN 1<|⟨K.l.length-(fR+1),om,rfl,rfl,fR+1,am,om,U,?_,?_,?_,?_⟩
    · exact od
    · exact((ap.trans az).trans tX)
    · rw[FW W,<-F];exact aa
    · exact ar
   ·
    rw[aw]
    have av:mq fc 2 G C (iY+1) ⟨.slice (some ⟨j,0,none⟩) J.l.length J.l.length,J.l⟩:=.inr ⟨ak,j,aR,rfl,E⟩
    refine WP.region<|oX 2<|ov 18 (Y (.ofNat (J.l.length-1))) ?_ (fun _ _ _=>by rw[<-AT (show J.l.length<9223372036854775808 by omega) om];kernel_rfl)
    refine oN 1<|WP.seq<|WP.qN [⟨[0,1,2,3,4,5,6,7,8],[0,1,2,3,4,5,6,7,8],some 9⟩,⟨[10],[10],none⟩] U _ rfl<|WD.kQ<|nv 19 (Y (.ofNat (J.l.length-1))) ?_
    obtain⟨b,aG,z⟩:=ZW 0 (J.l.length-1)
    refine nv 20 (.bool b) ?_ (fun _ _ _=>by subst aG;kernel_rfl)
    refine nv 21 (.bool b)<|ng rfl 21 (b) (.func (.func 118) #[] #[]) (.bool b) (by cases b<;>rfl) (fun h=>by obtain rfl:=h;exact fun _ _ _=>by kernel_rfl) ?_
    refine ng rfl 21 (b) (.slice (some ⟨j,0,none⟩) (J.l.length) J.l.length) (.bool b) (by cases b<;>rfl) (fun h=>by obtain rfl:=h;exact fun _ _ _=>by kernel_rfl) ?_
    refine ng rfl 21 (b) (Y (.ofNat (J.l.length-1))) (.bool b) (by cases b<;>rfl) (fun h=>by obtain rfl:=h;exact fun _ _ _=>by kernel_rfl) ?_
    have o:(b)=true->J.l.length-1<J.l.length:=fun h=>by obtain rfl:b=true:=(by simpa using h);have aC:=(z).1 rfl;omega
    refine w5 rfl 21 (b) (.pointer (some ⟨(fW (some ⟨j,0,none⟩)),0+(J.l.length-1)*2,none⟩)) (.bool b) (by cases b<;>rfl) (fun h=>by obtain rfl:=h;have aC:=(z).1 rfl;exact WC.ix (k:=.i64) (some ⟨j,0,none⟩) (J.l.length) J.l.length (J.l.length-1) 2 U U pn gZ ((E.Bm (N:=J.l.length) (c:=J.l.length) (fun _ _=>rfl) rfl om om).Bk rfl (zl ((fY (o rfl) rfl.symm)))) ((o rfl)) rfl) ?_
    obtain⟨A,ah⟩:∃aQ,(b)=true->(⟨.slice (some ⟨j,0,none⟩) (J.l.length) J.l.length,J.l⟩:SV fL).l[J.l.length-1]?=some aQ:=⟨((⟨.slice (some ⟨j,0,none⟩) (J.l.length) J.l.length,J.l⟩:SV fL).l[J.l.length-1]?).getD default,fun h=>by rw[List.getElem?_eq_getElem (by obtain rfl:b=true:=(by simpa using h);exact(Nat.lt_of_lt_of_eq (o rfl) rfl.symm))];rfl⟩
    have X:=fun(a0:((0)<=((J.l.length-1:Nat):Int)))=>ah (by first|(rw[show b=true from(z).2 a0];rfl)|rw[show b=true from(z).2 a0])
    refine w5 rfl 21 (b) (.agg (fc A).toArray) (.bool b) (by cases b<;>rfl) (fun h=>by obtain rfl:=h;have aC:=(z).1 rfl;exact WC.E7 (fW (some ⟨j,0,none⟩)) (0+(J.l.length-1)*2) (fc A) U kn gZ ((E.Bm (N:=J.l.length) (c:=J.l.length) (fun _ _=>rfl) rfl om om).pd rfl (zl ((fY (o rfl) rfl.symm)))) (xm (E.Bm (N:=J.l.length) (c:=J.l.length) (fun _ _=>rfl) rfl om om).1 (ah rfl)) rfl) ?_
    refine w5 rfl 21 (b) (.agg (fc e).toArray) (.bool b) (by cases b<;>rfl) (fun h=>by obtain rfl:=h;exact WC.im iY (0) (fc e) U kn gZ M rfl rfl) ?_
    refine WN.nil ⟨?_,?_⟩
    ·
     refine ci (.ofNat (J.l.length-1))<|cv (.bool b) (iH 8 b) ?_ (fun _=>by subst aG;kernel_rfl)
     refine cv (.bool b) (iH 8 b)<|cg rfl 21 (b) (.func (.func 118) #[] #[]) (.bool b) (by cases b<;>rfl) (fun h=>by obtain rfl:=h;exact lZ (.func (.func 118) #[] #[]) (fun _=>by kernel_rfl) U) ?_
     refine cg rfl 21 (b) (.slice (some ⟨j,0,none⟩) (J.l.length) J.l.length) (.bool b) (by cases b<;>rfl) (fun h=>by obtain rfl:=h;exact lZ (.slice (some ⟨j,0,none⟩) (J.l.length) J.l.length) (fun _=>by kernel_rfl) (uQ ..)) ?_
     refine cg rfl 21 (b) (Y (.ofNat (J.l.length-1))) (.bool b) (by cases b<;>rfl) (fun h=>by obtain rfl:=h;exact lZ (Y (.ofNat (J.l.length-1))) (fun _=>by kernel_rfl) (iz ..)) ?_
     refine cg rfl 21 (b) (.pointer (some ⟨(fW (some ⟨j,0,none⟩)),0+(J.l.length-1)*2,none⟩)) (.bool b) (by cases b<;>rfl) (fun h=>by obtain rfl:=h;have aC:=(z).1 rfl;exact qw (.pointer (some ⟨(fW (some ⟨j,0,none⟩)),0+(J.l.length-1)*2,none⟩)) (mH ex.T 48 (.slice (some ⟨j,0,none⟩) (J.l.length) J.l.length) (Y (.ofNat (J.l.length-1)))) (fun _=>by kernel_rfl) (sK (k:=.i64) pn gZ ((E.Bm (N:=J.l.length) (c:=J.l.length) (fun _ _=>rfl) rfl om om).Bk rfl (zl ((fY (o rfl) rfl.symm)))) ((o rfl))) (iK ..)) ?_
     refine cg rfl 21 (b) (.agg (fc A).toArray) (.bool b) (by cases b<;>rfl) (fun h=>by obtain rfl:=h;have aC:=(z).1 rfl;exact qw (.agg (fc A).toArray) (j9 ex.T C.get 104 (.pointer (some ⟨(fW (some ⟨j,0,none⟩)),0+(J.l.length-1)*2,none⟩))) (fun _=>by kernel_rfl) (Az kn gZ ((E.Bm (N:=J.l.length) (c:=J.l.length) (fun _ _=>rfl) rfl om om).pd rfl (zl ((fY (o rfl) rfl.symm)))) (xm (E.Bm (N:=J.l.length) (c:=J.l.length) (fun _ _=>rfl) rfl om om).1 (ah rfl))) (zo A)) ?_
     refine cg rfl 21 (b) (.agg (fc e).toArray) (.bool b) (by cases b<;>rfl) (fun h=>by obtain rfl:=h;exact qw (.agg (fc e).toArray) (j9 ex.T C.get 104 (pt iY 0)) (fun _=>by kernel_rfl) (jO kn gZ M rfl) (zo e)) ?_
     exact iX.nil
    refine WC.at rfl (WC.gq (b) (GB (b) (Touch A e) (iY+1) C) (.bool b) (g:=fV (.tmp 21)) rfl U (by cases b<;>rfl) (fun h=>by obtain rfl:b=true:=(by simpa using h);have aC:=(z).1 rfl;exact WC.call 28 118 ([.agg (fc A).toArray,.agg (fc e).toArray]) kf ((Uu A e C (iY+1)).mono fun v eZ e5 ⟨⟨c,bd,hc⟩,hn,he⟩=>⟨_,_,_,rfl,⟨c,bd,hc⟩,hn,he⟩)) (fun h=>GB.off h) ?_)
    rintro _ ag aj ⟨⟨aF,rfl,aU⟩,aA,S⟩
    have aq:=ap.trans S
    have ae:=S.get M
    have au:=av.mono S aA
    have u:=E.mono S aA
    refine WD.last ?_
    obtain⟨an,aH,aV⟩:=nA z aU
    refine WN.hQ rfl (WC.me (v:=.bool an) 29 (kZ (.bool b) ((bif b then .bool aF else undef)) (.bool false)) kf (by rw[aH];exact tz (fun h=>by obtain rfl:b=true:=h;rfl))<|WN.nil ⟨?_,?_⟩)
    ·
     refine co (.bool an) (kZ (.bool b) ((bif b then .bool aF else undef)) (.bool false)) ((by rw[aH];exact tz (fun h=>by obtain rfl:b=true:=h;rfl))) (iH 8 an) ?_
     exact iX.nil
    refine cq aV (fun aD=>?_) (fun aD=>?_)
    ·
     refine WP.qN [⟨[0,1,2,3,4,5,6,7],[0,1,2,3,4,5,6,7],some 8⟩,⟨[9],[0,1,9],some 10⟩,⟨[],[],none⟩] U _ rfl<|WD.kQ<|nv 30 (.slice (some ⟨j,0,none⟩) (J.l.length) J.l.length)<|nv 31 (Y (.ofNat (J.l.length-1)))<|nv 32 (.func (.func 120) #[] #[])<|nv 33 (.slice (some ⟨j,0,none⟩) (J.l.length) J.l.length)<|nv 34 (Y (.ofNat (J.l.length-1))) ?_
     have p:J.l.length-1<J.l.length:=by omega
     refine WN.hQ rfl (WC.ix (k:=.i64) (some ⟨j,0,none⟩) (J.l.length) J.l.length (J.l.length-1) 2 U U pn gZ ((u.Bm (N:=J.l.length) (c:=J.l.length) (fun _ _=>rfl) rfl om om).Bk rfl (zl ((fY p rfl.symm)))) (p) ?_)
     obtain⟨B,ai⟩:=gE ((fY p rfl.symm))
     refine WN.hQ rfl (WC.E7 (fW (some ⟨j,0,none⟩)) (0+(J.l.length-1)*2) (fc B) U kn gZ ((u.Bm (N:=J.l.length) (c:=J.l.length) (fun _ _=>rfl) rfl om om).pd rfl (zl ((fY p rfl.symm)))) (xm (u.Bm (N:=J.l.length) (c:=J.l.length) (fun _ _=>rfl) rfl om om).1 ai)<|WN.hQ rfl (WC.im iY (0) (fc e) U kn gZ ae rfl<|WN.nil ⟨?_,?_⟩))
     ·
      refine cv (.slice (some ⟨j,0,none⟩) (J.l.length) J.l.length) (uQ ..)<|ci (.ofNat (J.l.length-1))<|cv (.func (.func 120) #[] #[]) U<|cv (.slice (some ⟨j,0,none⟩) (J.l.length) J.l.length) (uQ ..)<|ci (.ofNat (J.l.length-1))<|co (.pointer (some ⟨(fW (some ⟨j,0,none⟩)),0+(J.l.length-1)*2,none⟩)) (mH ex.T 48 (.slice (some ⟨j,0,none⟩) (J.l.length) J.l.length) (Y (.ofNat (J.l.length-1)))) (sK (k:=.i64) pn gZ ((u.Bm (N:=J.l.length) (c:=J.l.length) (fun _ _=>rfl) rfl om om).Bk rfl (zl ((fY p rfl.symm)))) (p)) (iK ..)<|co (.agg (fc B).toArray) (j9 ex.T ag.get 104 (.pointer (some ⟨(fW (some ⟨j,0,none⟩)),0+(J.l.length-1)*2,none⟩))) (Az kn gZ ((u.Bm (N:=J.l.length) (c:=J.l.length) (fun _ _=>rfl) rfl om om).pd rfl (zl ((fY p rfl.symm)))) (xm (u.Bm (N:=J.l.length) (c:=J.l.length) (fun _ _=>rfl) rfl om om).1 ai)) (zo B)<|co (.agg (fc e).toArray) (j9 ex.T ag.get 104 (pt iY 0)) (jO kn gZ ae rfl) (zo e) ?_
      exact iX.nil
     refine WC.at rfl (WC.call 38 120 ([.agg (fc B).toArray,.agg (fc e).toArray]) kf ((Uv B e ag (aj)).mono ?_))
     rintro _ a_ be ⟨rfl,aB,af⟩
     have aZ:=au.mono af aB
     have ab:=u.mono af aB
     refine WD.kQ ?_
     have y:J.l.length-1<J.l.length:=by omega
     refine WN.hQ rfl (WC.ix (k:=.i64) (some ⟨j,0,none⟩) (J.l.length) J.l.length (J.l.length-1) 2 U U pn gZ ((ab.Bm (N:=J.l.length) (c:=J.l.length) (fun _ _=>rfl) rfl om om).Bk rfl (zl ((fY y rfl.symm)))) (y)<|WN.nil ⟨?_,?_⟩)
     ·
      refine cv (.slice (some ⟨j,0,none⟩) (J.l.length) J.l.length) (uQ ..)<|ci (.ofNat (J.l.length-1))<|co (.pointer (some ⟨(fW (some ⟨j,0,none⟩)),0+(J.l.length-1)*2,none⟩)) (mH ex.T 48 (.slice (some ⟨j,0,none⟩) (J.l.length) J.l.length) (Y (.ofNat (J.l.length-1)))) (sK (k:=.i64) pn gZ ((ab.Bm (N:=J.l.length) (c:=J.l.length) (fun _ _=>rfl) rfl om om).Bk rfl (zl ((fY y rfl.symm)))) (y)) (iK ..) ?_
      exact iX.nil
     refine WC.at rfl (WC.XU (.agg (fc (both B e)).toArray) (both B e) rfl U U ab (fun _ _=>rfl) (fY y rfl.symm) gZ rfl rfl rfl ?_)
     rintro bc ao aM
     obtain⟨L,ad⟩:∃L',L'=J.l.set (J.l.length-1) (both B e):=⟨_,rfl⟩
     rw[<-ad]at ao
     have aN:L.length=J.l.length:=by rw[ad,List.length_set]
     have aT:B=A:=fS (ai.symm.trans (X om))
     subst aT
     have aa:L=sj J.l e:=by rw[ad];exact(Uw (X om) aD.2).symm
     refine WD.last<|WN.nil ⟨?_,?_⟩
     ·
      exact iX.nil
     refine WP.region<|ov 44 (Y (.ofNat (fR+1))) ?_ (fun _ _ _=>by rw[<-gM (show fR+1<9223372036854775808 by omega)];kernel_rfl)
     refine oN 1<|⟨K.l.length-(fR+1),om,rfl,rfl,fR+1,⟨.slice (some ⟨j,0,none⟩) J.l.length J.l.length,L⟩,om,U,?_,?_,?_,?_⟩
     · exact od
     · exact((aq.trans af).trans aM)
     · rw[FW W,<-F];exact aa
     · exact .inr ⟨(show 0<L.length by omega),j,aR,(by show Value.slice _ J.l.length J.l.length=Value.slice _ L.length L.length;rw[aN]),ao⟩
    ·
     refine WP.region<|oX 1<|WO.cons (WC.im iY (0) (fc e) U kn gZ ae rfl<|oL [Y e.g_,Y e.gU] fun aY R aE=>?_)
     have aX:=u.mono R (e_ (aj))
     obtain⟨inf,pq,vu⟩:=Bx
     refine WO.cons (WC.CO (enc:=fc) (J:=⟨.slice (some ⟨j,0,none⟩) J.l.length J.l.length,J.l⟩) e rfl U U (au.mono R (e_ (aj))) (tU _) aE rfl pn gZ mY pq rfl rfl vu (show J.l.length<=1048576 by omega) om rfl ?_)
     rintro am jq oT ac yb tX ar
     have aa:am.l=sj J.l e:=by rw[ac];exact(Se (X om) (fun h=>aD ⟨om,h⟩)).symm
     refine oN 1<|WP.region<|ov 44 (Y (.ofNat (fR+1))) ?_ (fun _ _ _=>by rw[<-gM (show fR+1<9223372036854775808 by omega)];kernel_rfl)
     refine oN 1<|⟨K.l.length-(fR+1),om,rfl,rfl,fR+1,am,om,U,?_,?_,?_,?_⟩
     · exact od
     · exact((aq.trans R).trans tX)
     · rw[FW W,<-F];exact aa
     · exact ar
  ·
   refine WP.exit<|sr<|oW 2 ⟨rfl,rfl,[J.v],U,?_⟩
   have hT:K.l.take fR=K.l:=fy om
   rw[hT]at F
   exact⟨J,rfl,F,aJ.ok (tU _) (by have:=M4 K.l K.l.length;rw[List.take_length]at this;rw[F];omega),od,jl⟩
 ·
  exact⟨0,⟨.slice none 0 0,[]⟩,om,U,e9 _,hE,(by rw[List.take_zero];rfl),mq.nil⟩
end
end Sw
namespace Sw
noncomputable section
open Go Go.Proofs Go.RowKit
set_option maxRecDepth 100000
set_option maxHeartbeats 1600000
def Iy(P:List fL->Prop):Value->Ht->Nat->Prop:=fun v O G=>∃(J:SV fL) (z:Int),v=.tuple ⟨[J.v,Y z]⟩/\gx fc 2 O G J/\((z=0/\P J.l)\/((z=2\/z=10)/\J.l=[]))
theorem tf{O:Ht}{G:Nat}:gx fc 2 O G ⟨.slice none 0 0,[]⟩:=mq.nil.ok (B:=0) (fun _ _=>rfl) (by decide)
def Yc(K:List fL)(l:List fL):Prop:=l=uK K/\xl [K]
def Iz(A B:List fL)(l:List fL):Prop:=l=uK (A++B)/\l.length<=4096/\xl [A,B]
theorem Ps:∃i,ex.T.kd 104=some i/\i.bytes<=1024:=by
 cases h:ex.T.kd 104 with
 |none=>exact absurd (show(ex.T.kd 104).isSome=true by kernel_rfl) (by rw[h];decide)
 |some i=>
  refine⟨i,rfl,?_⟩
  have:((ex.T.kd 104).map fun i=>Nat.ble i.bytes 1024)=some true:=by kernel_rfl
  rw[h]at this
  exact fa (fS this)
theorem WJ{a:Option Addr}{k c:Nat}:pE ex.T 48 (.slice a k c)=some (k,false):=by
 have hu:ex.T.jh 48=some (.slice 104):=by kernel_rfl
 simp only[pE,hu]
def WK(W:SV (SV fL)):Value->Ht->Nat->Prop:=fun v O G=>∃J:SV fL,v=J.v/\J.l=W.l.flatMap (·.l)/\gx fc 2 O G J
theorem CZ(M:zr)(K:SV fL)(O:Ht)(G:Nat)(hK:gx fc 2 O G K)(X:K.l.length<=1048576):WF ex 65 [K.v] O G (fun v eZ e5=>∃J:SV fL,v=J.v/\J.l=uK K.l/\gx fc 2 eZ e5 J/\G<=e5/\HE G O eZ):=by
 obtain⟨a1,c2,hR⟩:=hK.shape
 have lU:=hK.2.2
 rw[hR]
 refine wd Tryz.f65 10 [.tmp 2] fun hE=>sr<|oN 1<|sr<|oX 1<|WO.cons (WC.call 5 116 ([K.v]) (fun _ _ _=>by(try rw[hR]);kernel_rfl) ((Sc K O (G) (hK.mono hE)).mono ?_))
 rintro _ Ee Iv ⟨u,rfl,C,z,MX,pC⟩
 have p:=hE.trans pC
 refine WO.cons (WC.call 6 115 ([.func (.func 210) #[] #[pt u 0],.func (.func 117) #[] #[]]) kf ((K9 M K 210 #[pt u 0] Ee (Iv) om (fun y Inv F L h1 E N hm hs=>QI K y u Inv Ee (Iv) (hK.mono p) C z F L h1 E N hm hs)).mono ?_))
 rintro _ Cq Ux ⟨B,rfl,b,j,ZY,wR⟩
 refine oN 1<|sr<|oN 1<|sr<|oX 2<|WO.cons (WC.call 9 119 ([B.v,.func (.func 118) #[] #[],.func (.func 120) #[] #[]]) kf ((WI B Cq (Ux) (j.mono (HE.refl (Ux) Cq)) (by rw[b,FX];omega)).mono ?_))
 rintro _ S W ⟨o,rfl,m,e,R,A⟩
 refine oW 1 ⟨rfl,rfl,[o.v],U,?_⟩
 exact⟨o,rfl,by rw[m,b];rfl,e,od,((p.trans wR).trans A)⟩
theorem QK(F:zr)(K:SV fL)(O:Ht)(G:Nat)(hK:gx fc 2 O G K)(S:K.l.length<=1048576):WF ex 40 [K.v] O G (fun v eZ e5=>Iy (Yc K.l) v eZ e5/\G<=e5/\HE G O eZ):=by
 obtain⟨a1,c2,hR⟩:=hK.shape
 have lU:=hK.2.2
 rw[hR]
 refine wd Tryz.f40 12 [.tmp 2,.tmp 3] fun hE=>sr<|oN 2<|WP.seq<|sr<|oX 1<|oL [.slice a1 (K.l.length) c2] fun Ee E C=>?_
 have m:=hE.trans E
 refine WO.cons (WC.call 6 64 ([(⟨.slice (some ⟨G,0,none⟩) 1 1,[K]⟩:SV (SV fL)).v]) kf ((Ac (⟨.slice (some ⟨G,0,none⟩) 1 1,[K]⟩:SV (SV fL)) Ee (G+1) ⟨(gx.m_ (enc:=lC) (by simp[lC]) C (by show _=[K.v];rw[hR];done) (by decide) om (by simp)),fun y hy=>by rw[List.mem_singleton.1 hy];exact hK.mono m⟩).mono ?_))
 rintro _ A B ⟨⟨p,rfl,W,N,_⟩,J,u⟩
 have wS:=m.trans u
 refine oN 1<|sr<|oX 1 ?_
 refine oq 8 (qG p 0) fun yr Fg=>WO.nil<|cq Fg (fun o=>?_) (fun o=>?_)
 ·
  refine sr<|oW 3 ⟨rfl,rfl,[.slice none (0) 0,Y p],U,?_⟩
  exact⟨⟨⟨.slice none 0 0,[]⟩,_,rfl,tf,.inr ⟨om,rfl⟩⟩,od,wS⟩
 ·
  refine WP.skip<|sr<|oX 1<|WO.cons (WC.call 11 65 ([K.v]) (fun _ _ _=>by(try rw[hR]);kernel_rfl) ((CZ F K A (B) (hK.mono wS) (by first|omega|(simp only[List.length_append, *];omega))).mono ?_))
  rintro _ M R ⟨j,rfl,e,b,L,z⟩
  refine oW 2 ⟨rfl,rfl,[j.v,Y 0],U,?_⟩
  exact⟨⟨j,0,rfl,b,.inl ⟨rfl,e,N (fg.1 o)⟩⟩,od,(wS.trans z)⟩
theorem IA(K:SV fL)(O:Ht)(G:Nat)(hK:gx fc 2 O G K):WF ex 68 [K.v] O G (fun v eZ e5=>Iy (fun l=>l=K.l/\l.length<=4096) v eZ e5/\G<=e5/\HE G O eZ):=by
 obtain⟨a1,c2,hR⟩:=hK.shape
 have lU:=hK.2.2
 rw[hR]
 refine wd Tryz.f68 8 [.tmp 2,.tmp 3] fun hE=>sr<|oN 2<|WP.seq<|sr<|oX 2 ?_
 obtain⟨c4,b,p4⟩:=nE 4096 K.l.length
 refine ob 6 b<|WO.nil<|cq p4 (fun q6=>?_) (fun q6=>?_)
 ·
  refine sr<|oW 2 ⟨rfl,rfl,[.slice none (0) 0,Y 2],U,?_⟩
  exact⟨⟨⟨.slice none 0 0,[]⟩,_,rfl,tf,.inr ⟨.inl rfl,rfl⟩⟩,nR,hE⟩
 ·
  refine WP.skip<|sr<|oW 3 ⟨rfl,rfl,[.slice a1 (K.l.length) c2,Y 0],U,?_⟩
  exact⟨⟨K,0,by rw[hR];rfl,hK.mono hE nR,.inl ⟨rfl,rfl,om⟩⟩,nR,hE⟩
theorem WL(n:Nat)(O:Ht)(G:Nat)(hn:n<=8192):WF ex 122 [.slice none (0) 0,Y (.ofNat n)] O G (fun v eZ e5=>Rm G 2 n eZ e5 v 0 []/\G<=e5/\HE G O eZ):=by
 have mC:=fF (e:=ex) 122 Tryz.f122 27 [.tmp 4]
 have nC:=@Ps
 have pa:=@pn
 have sY:=@gZ
 have R_:=@mY
 let pu:=(48:Nat)
 let ZL:=(2:Nat)
 exact X9
theorem Sf(W:SV (SV fL))(O:Ht)(G:Nat)(p:ju lC 1 (fun O G y=>gx fc 2 O G y) O G W)(hs:(W.l.map (fun o=>o.l.length)).sum<=8192):WF ex 69 [W.v] O G (fun v eZ e5=>WK W v eZ e5/\G<=e5/\HE G O eZ):=by
 obtain⟨a1,c2,hR⟩:=p.1.shape
 have lU:=p.1.2.2
 rw[hR]
 refine wd Tryz.f69 36 [.tmp 2] fun hE=>sr<|oN 1<|sr<|oN 1<|WP.seq<|sr<|oN 3<|WP.block ?_
 refine mg [0,3,9,10,11] (fun m hs ns vs=>∃(fR:Nat) (j:Nat),fR+m=W.l.length/\vs=[.slice a1 (W.l.length) c2,Y (.ofNat j),.slice a1 (W.l.length) c2,Y (.ofNat (W.l.length)),Y (.ofNat fR)]/\G<=ns/\HE (G) O hs/\(j=((W.l.take fR).map (fun o=>o.l.length)).sum)) ?_ (W.l.length) ?_
 ·
  rintro xM p_ iY _ ⟨fR,j,ui,rfl,oF,jl,F⟩ uj
  have j2:=hE.trans jl
  have S:=e8 nR oF
  have ax:j<=8192:=by rw[F,List.map_take];exact e8 (w4 _ _) hs
  refine sr ?_
  refine oq 12 (kL fR W.l.length) fun nu rM=>WO.nil<|WP.seq<|cq rM (fun w9=>?_) (fun w9=>?_)
  ·
   refine WP.skip<|WP.seq<|WP.block<|sr ?_
   have nz:fR<W.l.length:=by omega
   refine WO.cons (WC.iy hR p.1 (fR) AW qH (nz) ?_)
   obtain⟨lv,kB⟩:=gE nz
   obtain⟨aa,yr,R⟩:=(p.2 lv (cs kB)).shape
   have aj:=(p.2 lv (cs kB)).2.2
   refine WO.cons (WC.lz (.slice aa (lv.l.length) yr) hR (p.1.mono j2 nR) kB (by rw[<-R];rfl) nY<|oN 1<|sr<|oX 3<|ov 18 (Y (.ofNat (j+lv.l.length))) ?_ (fun _ _ _=>by rw[<-gM (show j+lv.l.length<9223372036854775808 by omega)];kernel_rfl))
   refine oN 1<|sr<|oX 1 ?_
   refine oq 20 (y5 (j+lv.l.length) 0) fun av af=>WO.nil<|cq af (fun J=>?_) (fun J=>?_)
   ·
    exact absurd J om
   ·
    refine WP.skip<|WP.region<|ov 22 (Y (.ofNat (fR+1))) ?_ (fun _ _ _=>by rw[<-gM (show fR+1<9223372036854775808 by omega)];kernel_rfl)
    refine oN 1<|⟨W.l.length-(fR+1),om,rfl,rfl,fR+1,j+lv.l.length,om,U,?_,?_,?_⟩
    · exact oF
    · exact jl
    · rw[List.take_add_one,List.map_append,List.sum_append,kB]
      simp only[Option.toList_some,List.map_cons,List.map_nil,List.sum_cons,List.sum_nil]
      omega
  ·
   refine WP.exit<|sr<|oX 1<|WO.cons (WC.call 24 122 ([.slice none 0 0,Y (.ofNat j)]) kf ((WL (j) p_ (iY) om).mono ?_))
   rintro ar an X ⟨JE,am,K⟩
   have M:=JE.le S
   refine oN 1<|WP.seq<|sr<|oN 3<|WP.block ?_
   have ac:j=(W.l.map (fun o=>o.l.length)).sum:=by rw[F,List.take_of_length_le om]
   refine mg [6,25,26,27] (fun m hs ns vs=>∃(b:Nat) (E:Value),b+m=W.l.length/\vs=[E,.slice a1 (W.l.length) c2,Y (.ofNat (W.l.length)),Y (.ofNat b)]/\X<=ns/\HE G O hs/\(Rm G 2 j hs ns E (((W.l.take b).map (fun o=>o.l.length)).sum) ((W.l.take b).flatMap (fun o=>o.l.flatMap fc)))) ?_ (W.l.length) ?_
   ·
    rintro ap ao aq _ ⟨b,E,ai,rfl,L,u,B⟩ al
    refine sr ?_
    refine oq 28 (kL b W.l.length) fun aw ag=>WO.nil<|WP.seq<|cq ag (fun ah=>?_) (fun ah=>?_)
    ·
     refine WP.skip<|WP.seq<|WP.block<|sr ?_
     have A:b<W.l.length:=by omega
     refine WO.cons (WC.iy hR p.1 (b) AW qH (A) ?_)
     obtain⟨z,e⟩:=gE A
     obtain⟨a45,ab,C⟩:=(p.2 z (cs e)).shape
     have ak:=(p.2 z (cs e)).2.2
     refine WO.cons (WC.lz (.slice a45 (z.l.length) ab) hR (p.1.mono u nR) e (by rw[<-C];rfl) nY<|oN 1<|WP.region<|oX 2 ?_)
     obtain⟨inf,pq,vu⟩:=Ps
     have ae:((W.l.take b).map (fun o=>o.l.length)).sum+z.l.length<=j:=by
      have:=w4 (W.l.map (fun o=>o.l.length)) (b+1)
      rw[<-List.map_take,List.take_add_one,List.map_append,List.sum_append,e]at this
      simp only[Option.toList_some,List.map_cons,List.map_nil,List.sum_cons,List.sum_nil]at this
      omega
     refine WO.cons (WC.Pj (m:=z.l.length) rfl U U B pn gZ mY pq WJ (((p.2 z (cs e)).mono u nR).src C) rfl (nk _ ((p.2 z (cs e)).mono u nR).1) (by simp[List.all_flatMap,fc,xI,Bj]) (by decide) ae vu om rfl ?_)
     rintro au ay ad N
     refine oN 1<|WP.region<|ov 34 (Y (.ofNat (b+1))) ?_ (fun _ _ _=>by rw[<-gM (show b+1<9223372036854775808 by omega)];kernel_rfl)
     refine oN 1<|⟨W.l.length-(b+1),om,rfl,rfl,b+1,au,om,U,?_,?_,?_⟩
     · exact L
     · exact(u.trans ad)
     · rw[List.take_add_one,e,List.map_append,List.sum_append,List.flatMap_append]
       simpa using N
    ·
     refine WP.exit<|sr<|oW 2 ⟨rfl,rfl,[E],U,?_⟩
     refine⟨⟨⟨E,W.l.flatMap (·.l)⟩,rfl,rfl,?_⟩,od,u⟩
     have hT:W.l.take b=W.l:=fy om
     rw[hT]at B
     exact B.ok ac.symm (by rw[List.flatMap_assoc]) (by rw[List.length_flatMap,ac]) (fun x _=>rfl) om
   ·
    exact⟨0,ar,om,U,e9 _,(j2.trans K),(by simpa using M)⟩
 ·
  exact⟨0,0,om,U,e9 _,HE.refl _ _,(by simp)⟩
end
end Sw
namespace Sw
noncomputable section
open Go Go.Proofs Go.RowKit
set_option maxRecDepth 100000
set_option maxHeartbeats 1600000
theorem M6(ap:zr)(A B:SV fL)(O:Ht)(G:Nat)(L:gx fc 2 O G A)(M:gx fc 2 O G B):WF ex 32 [A.v,B.v] O G (fun v eZ e5=>Iy (Iz A.l B.l) v eZ e5/\G<=e5/\HE G O eZ):=by
 obtain⟨a1,c2,hR⟩:=L.shape
 have lU:=L.2.2
 rw[hR]
 obtain⟨a4,am,F⟩:=M.shape
 have ay:=M.2.2
 rw[F]
 refine wd Tryz.f32 21 [.tmp 4,.tmp 5] fun hE=>sr<|oN 2<|WP.seq<|sr<|oX 2<|oL [.slice a1 (A.l.length) c2,.slice a4 (B.l.length) am] fun ao an ad=>?_
 have j2:=hE.trans an
 refine WO.cons (WC.call 9 64 ([(⟨.slice (some ⟨G,0,none⟩) 2 2,[A,B]⟩:SV (SV fL)).v]) kf ((Ac (⟨.slice (some ⟨G,0,none⟩) 2 2,[A,B]⟩:SV (SV fL)) ao (G+1) ⟨(gx.m_ (enc:=lC) (by simp[lC]) ad (by show _=[A.v,B.v];rw[hR];rw[F];done) (by decide) om (by simp)),fun y hy=>by rcases fM.1 hy with rfl|hy;exact L.mono j2;rw[List.mem_singleton.1 hy];exact M.mono j2⟩).mono ?_))
 rintro _ aw e ⟨⟨ab,rfl,aD,az,_⟩,aq,af⟩
 have o:=j2.trans af
 refine oN 1<|sr<|oX 1 ?_
 refine oq 11 (qG ab 0) fun Fa CW=>WO.nil<|cq CW (fun aa=>?_) (fun aa=>?_)
 ·
  refine sr<|oW 3 ⟨rfl,rfl,[.slice none (0) 0,Y ab],U,?_⟩
  exact⟨⟨⟨.slice none 0 0,[]⟩,_,rfl,tf,.inr ⟨om,rfl⟩⟩,od,o⟩
 ·
  refine WP.skip<|sr<|oX 2<|oL [.slice a1 (A.l.length) c2,.slice a4 (B.l.length) am] fun ak ag ae=>?_
  have b:=o.trans ag
  have m:=az (fg.1 aa)
  have aB:=m.1 A.l (by simp)
  have aC:=m.1 B.l (by simp)
  refine WO.cons (WC.call 16 69 ([(⟨.slice (some ⟨e,0,none⟩) 2 2,[A,B]⟩:SV (SV fL)).v]) kf ((Sf (⟨.slice (some ⟨e,0,none⟩) 2 2,[A,B]⟩:SV (SV fL)) ak (e+1) ⟨(gx.m_ (enc:=lC) (by simp[lC]) ae (by show _=[A.v,B.v];rw[hR];rw[F];done) (by decide) om (by simp)),fun y hy=>by rcases fM.1 hy with rfl|hy;exact L.mono b;rw[List.mem_singleton.1 hy];exact M.mono b⟩ (by simp;omega)).mono ?_))
  rintro _ C J ⟨⟨j,rfl,N,p⟩,ar,ah⟩
  have z:j.l=A.l++B.l:=by rw[N];simp
  refine WO.cons (WC.call 17 65 ([j.v]) kf ((CZ ap j C (J) (p.mono (HE.refl (J) C)) (by rw[z,List.length_append];omega)).mono ?_))
  rintro _ E K ⟨W,rfl,R,u,au,ai⟩
  refine WO.cons (WC.call 18 68 ([W.v]) kf ((IA W E (K) (u.mono (HE.refl (K) E))).mono ?_))
  rintro _ ax aA ⟨⟨X,ac,rfl,S,al⟩,av,aj⟩
  refine oW 4 ⟨rfl,rfl,[X.v,Y ac],U,?_⟩
  refine⟨⟨X,ac,rfl,S,?_⟩,od,(((b.trans ah).trans ai).trans aj)⟩
  rcases al with⟨h0,h1,D⟩|⟨h0,h1⟩
  · exact .inl ⟨h0,by rw[h1,R,z],D,m⟩
  · exact .inr ⟨h0,h1⟩
end
end Sw
namespace Sw
noncomputable section
open Go Go.Proofs Go.RowKit
set_option maxRecDepth 100000
set_option maxHeartbeats 1600000
def AH(a b:fL):fL:=⟨gn .i64 (a.g_+b.g_),gn .i64 (a.gU+b.gU)⟩
def t_(a b:List fL):List fL:=a.flatMap fun s=>b.map (AH s)
theorem Fh(a b:List fL):(t_ a b).length=a.length*b.length:=by
 induction a with
 |nil=>simp[t_]
 |cons x a ih=>
  show(b.map (AH x)++t_ a b).length=_
  rw[List.length_append,ih,List.length_map,List.length_cons,Nat.succ_mul,Nat.add_comm]
theorem WM{A B:List fL}{i j:Nat}{x:fL}(hi:i<A.length)(hj:j<B.length):(t_ (A.take i) B++(B.take j).map (AH x)).length<(t_ A B).length:=by
 rw[List.length_append,Fh,Fh,List.length_map,List.length_take,List.length_take,Nat.min_eq_left om,Nat.min_eq_left om]
 have h:=gH B.length (show i+1<=A.length by omega)
 rw[Nat.succ_mul]at h
 omega
theorem Sg{A B:List fL}{i:Nat}{x:fL}(h:A[i]?=some x):t_ (A.take (i+1)) B=t_ (A.take i) B++B.map (AH x):=by
 unfold t_
 rw[List.take_add_one,h,List.flatMap_append];simp
theorem WQ(A B:SV fL)(O:Ht)(G:Nat)(o:gx fc 2 O G A)(p:gx fc 2 O G B):WF ex 66 [A.v,B.v] O G (fun v eZ e5=>∃ba bb,v=.func (.func 121) #[] #[pt ba 0,pt bb 0]/\eZ.get ba=some (.cells [A.v] gi.plain)/\eZ.get bb=some (.cells [B.v] gi.plain)/\ba<e5/\bb<e5/\G<=ba/\G<=bb/\G<=e5/\HE G O eZ):=by
 obtain⟨a1,c2,hR⟩:=o.shape
 have lU:=o.2.2
 rw[hR]
 obtain⟨a4,m,u⟩:=p.shape
 have z:=p.2.2
 rw[u]
 refine wd Tryz.f66 6 [.tmp 4] fun hE=>sr<|oB (.slice a1 (A.l.length) c2) [.slice a1 (A.l.length) c2] fun C jl e=>?_
 refine oB (.slice a4 (B.l.length) m) [.slice a4 (B.l.length) m] fun y b j=>?_
 refine oN 1<|sr<|oW 2 ⟨rfl,rfl,[.func (.func 121) #[] #[pt G 0,pt (G+1) 0]],U,?_⟩
 exact⟨_,_,rfl,(b.get e),j,od,(fb (G+1)),om,om,od,((hE.trans jl).trans b)⟩
theorem Uy(A B:SV fL)(y:Value)(z p u ba bb:Nat)(Inv:(Nat->Prop)->List fL->Ht->Nat->Prop)(Stop:Ht->Nat->Prop)(ae:Nat->Prop)(bc:ae ba)(bd:ae bb)(O:Ht)(G:Nat)(au:gx fc 2 (jW [z,p,u] O) G A)(av:gx fc 2 (jW [z,p,u] O) G B)(M:Ht)(j:Nat)(aF:M.get ba=some (.cells [A.v] gi.plain))(a6:M.get bb=some (.cells [B.v] gi.plain))(a8:ba<j)(a_:bb<j)(h1:G<=j)(a7:HE G (jW [z,p,u] O) (jW [z,p,u] M))(bs:Inv ae [] M j)(hm:∀o l a b c d,Inv o l a b->HE b a c->b<=d->Inv (fun q=>o q\/(b<=q/\q<d)) l c d)(hs:∀o l x,l.length<(t_ A.l B.l).length->∀a b,j<=b->HE G (jW [z,p,u] O) (jW [z,p,u] a)->Inv o l a b->WV ex y [.agg (fc x).toArray] a b (fun v c d=>b<=d/\HE G (jW [z,p,u] a) (jW [z,p,u] c)/\(∀q,q<b->o q->c.get q=a.get q)/\∃t:Bool,v=.bool t/\(t=true->Inv o (l++[x]) c d)/\(t=false->Stop c d))):WF ex 121 [y,pt ba 0,pt bb 0] M j (fun _ c d=>j<=d/\HE G (jW [z,p,u] O) (jW [z,p,u] c)/\((∃o,Inv o (t_ A.l B.l) c d)\/Stop c d)):=by
 refine wb ⟨Tryz.f121.body.getD .skip,36,[]⟩<|sr ?_
 obtain⟨a1,c2,hR⟩:=au.shape
 have lU:=au.2.2
 refine oZ ba (0) (.slice a1 (A.l.length) c2) nY aF (by rw[<-hR];rfl)<|oN 2<|WP.block ?_
 refine mg [0,2,8,9,10] (fun m hs ns vs=>∃(fR:Nat),fR+m=A.l.length/\vs=[y,pt bb 0,.slice a1 (A.l.length) c2,Y (.ofNat (A.l.length)),Y (.ofNat fR)]/\j<=ns/\HE G (jW [z,p,u] O) (jW [z,p,u] hs)/\hs.get ba=some (.cells [A.v] gi.plain)/\hs.get bb=some (.cells [B.v] gi.plain)/\(∃o:Nat->Prop,o ba/\o bb/\Inv o (t_ (A.l.take fR) B.l) hs ns)/\(j<=ns)) ?_ (A.l.length) ?_
 ·
  rintro xM p_ iY _ ⟨fR,ui,rfl,oF,jl,aV,aW,ah,bE⟩ uj
  have aL:=e4 a8 oF
  have aM:=e4 a_ oF
  refine sr ?_
  refine oq 11 (kL fR A.l.length) fun bC bf=>WO.nil<|WP.seq<|cq bf (fun bh=>?_) (fun bh=>?_)
  ·
   refine WP.skip<|WP.seq<|WP.block<|sr ?_
   have ab:fR<A.l.length:=by omega
   refine WO.cons (WC.iy hR ((au.mono jl).qt) (fR) pn gZ (ab) ?_)
   obtain⟨E,ao⟩:=gE ab
   refine WO.cons (WC.ly hR ((au.mono jl).qt) ao kn gZ<|oA [Y 0,Y 0] mY fun bw K aG=>?_)
   have aN:=e4 aL (e_ (iY))
   have aO:=e4 aM (e_ (iY))
   refine oS iY (0) (.agg (fc E).toArray) (fc E) (fc E) gZ rfl rfl aG fun bz al aH an=>?_
   have aj:=(an bb om).trans (K.get aW)
   refine WO.nil<|sr ?_
   obtain⟨aA,aB,W⟩:=av.shape
   have bp:=av.2.2
   refine oZ bb (0) (.slice aA (B.l.length) aB) nY aj (by rw[<-W];rfl)<|oN 2<|WP.block ?_
   refine mg [0,2,5,8,9,10,14,15,16] (fun m hs ns vs=>∃(e:Nat),e+m=B.l.length/\vs=[y,pt bb 0,pt iY 0,.slice a1 (A.l.length) c2,Y (.ofNat (A.l.length)),Y (.ofNat fR),.slice aA (B.l.length) aB,Y (.ofNat (B.l.length)),Y (.ofNat e)]/\iY+1<=ns/\HE G (jW [z,p,u] O) (jW [z,p,u] hs)/\hs.get ba=some (.cells [A.v] gi.plain)/\hs.get bb=some (.cells [B.v] gi.plain)/\hs.get iY=some (.cells (fc E) gi.plain)/\(∃o:Nat->Prop,o ba/\o bb/\o (iY)/\Inv o (t_ (A.l.take fR) B.l++(B.l.take e).map (AH E)) hs ns)/\(j<=ns)) ?_ (B.l.length) ?_
   ·
    rintro bB aJ C _ ⟨e,bk,rfl,R,L,aq,ar,aX,ai,bG⟩ bq
    have aP:=e4 aN R
    have aQ:=e4 aO R
    have aR:=e4 (fb (iY)) R
    refine sr ?_
    refine oq 17 (kL e B.l.length) fun bD bg=>WO.nil<|WP.seq<|cq bg (fun bj=>?_) (fun bj=>?_)
    ·
     refine WP.skip<|WP.seq<|WP.block<|sr ?_
     have ac:e<B.l.length:=by omega
     refine WO.cons (WC.iy W ((av.mono L).qt) (e) pn gZ (ac) ?_)
     obtain⟨F,ap⟩:=gE ac
     refine WO.cons (WC.ly W ((av.mono L).qt) ap kn gZ<|oA [Y 0,Y 0] mY fun bA J aI=>?_)
     have aS:=e4 aP (e_ (C))
     have aT:=e4 aQ (e_ (C))
     have aU:=e4 aR (e_ (C))
     refine oS C (0) (.agg (fc F).toArray) (fc F) (fc F) gZ rfl rfl aI fun aK am ak S=>?_
     have ag:=(L.trans (J.jW (l:=[z,p,u]))).trans (am.jW (l:=[z,p,u]))
     have N:=(S iY om).trans (J.get aX)
     refine WO.nil<|sr<|oX 2<|oZ iY 0 (Y E.g_) ft N rfl<|oX 1<|oZ C 0 (Y F.g_) ft ak rfl<|oX 2<|oZ iY (0+1) (Y E.gU) ft N rfl<|oX 1<|oZ C (0+1) (Y F.gU) ft ak rfl<|oX 2 ?_
     obtain⟨o,aC,aD,aE,aZ⟩:=ai
     refine WO.cons (WC.Qz 32 y [.agg ⟨[Y (gn .i64 ((E.g_)+(F.g_))),Y (gn .i64 ((E.gU)+(F.gU)))]⟩] kf ((hs _ _ (AH E F) (WM (x:=E) om om) aK (C+1) om ag (hm _ _ _ _ _ _ aZ (((HE.refl (C) aJ).trans J).trans am) om)).mono ?_))
     rintro _ bo ad ⟨bn,ay,M7,af,rfl,aw,ax⟩
     have aa:=ag.trans ay
     have az:af=true↔af=true:=gf
     refine oq 33 (nN az) fun br aY=>WO.nil<|cq aY (fun X=>?_) (fun X=>?_)
     ·
      refine WP.ret ⟨rfl,rfl,[],U,?_⟩
      exact⟨(show j<=ad by omega),aa,.inr (ax (by simpa using X))⟩
     ·
      refine WP.skip<|WP.region<|ov 34 (Y (.ofNat (e+1))) ?_ (fun _ _ _=>by rw[<-gM (show e+1<9223372036854775808 by omega)];kernel_rfl)
      refine oN 1<|⟨B.l.length-(e+1),om,rfl,rfl,e+1,om,U,?_,?_,?_,?_,?_,?_,?_⟩
      · exact od
      · exact aa
      · exact((M7 _ aS (.inl aC)).trans ((S ba om).trans (J.get aq)))
      · exact((M7 _ aT (.inl aD)).trans ((S bb om).trans (J.get ar)))
      · exact((M7 _ aU (.inl aE)).trans N)
      · rw[List.take_add_one,ap];simp only[Option.toList_some,List.map_append,List.map_cons,List.map_nil,<-List.append_assoc];exact⟨_,.inl aC,.inl aD,.inl aE,aw (fg.1 X)⟩
      · show j<=ad;omega
    ·
     refine WP.exit<|WP.region<|ov 35 (Y (.ofNat (fR+1))) ?_ (fun _ _ _=>by rw[<-gM (show fR+1<9223372036854775808 by omega)];kernel_rfl)
     refine oN 1<|⟨A.l.length-(fR+1),om,rfl,rfl,fR+1,om,U,?_,?_,?_,?_,?_,?_⟩
     · exact od
     · exact L
     · exact aq
     · exact ar
     · rw[Sg ao];have hT:B.l.take e=B.l:=fy om;rw[hT]at ai;exact ai.imp fun _ h=>⟨h.1,h.2.1,h.2.2.2⟩
     · first|omega|(dsimp only;omega)
   ·
    exact⟨0,om,U,e9 _,((jl.trans (K.jW (l:=[z,p,u]))).trans (al.jW (l:=[z,p,u]))),((an ba om).trans (K.get aV)),aj,aH,(by rw[List.take_zero,List.map_nil,List.append_nil];obtain⟨o,bu,hb,bt⟩:=ah;exact⟨_,.inl bu,.inl hb,.inr ⟨om,(fb (iY))⟩,hm _ _ _ _ _ _ bt (((HE.refl (iY) p_).trans K).trans al) od⟩),(show j<=iY+1 by omega)⟩
  ·
   refine WP.exit<|⟨rfl,rfl,[],U,?_⟩
   have hi:A.l.take fR=A.l:=fy om
   rw[hi]at ah
   exact⟨(show j<=iY by omega),jl,.inl (ah.imp fun _ h=>h.2.2)⟩
 ·
  exact⟨0,om,U,e9 _,a7,aF,a6,(by rw[List.take_zero];exact⟨_,bc,bd,bs⟩),nR⟩
end
end Sw
namespace Sw
noncomputable section
open Go Go.Proofs Go.RowKit
set_option maxRecDepth 100000
set_option maxHeartbeats 1600000
section
variable {α:Type}{enc:α->List Value}{n B gr G:Nat}{O eZ:Ht}{J:SV α}
theorem lY.sV(h:lY enc n B gr O G J)(he:∀c,B<=c->eZ.get c=O.get c):lY enc n B gr eZ G J:=by
 rcases h with h|⟨b,ms,h1,D,h3,h4,m,o,e,p,j⟩
 · exact .inl h
 · exact .inr ⟨b,ms,h1,D,(he b e).trans h3,(he gr j).trans h4,m,o,e,p,j⟩
theorem lY.mG(h:lY enc n B gr O G J)(hj:J.l≠[]):B<=gr/\gr<G:=by
 rcases h with h|⟨b,ms,h1,D,h3,h4,m,o,p,e,j⟩
 · exact absurd h.1 hj
 · exact⟨j,e⟩
theorem gx.DG{s:SV α}{L:List Nat}(h:gx enc n O G s)(e:∀q∈L,∀m,O.get q≠some (.cells (s.l.flatMap enc) m)):gx enc n (jW L O) G s:=by
 refine⟨h.1,?_,h.2.2⟩
 rcases h.2.1 with k|⟨q,cap,m,h1,D,h3,h4,b⟩
 · exact .inl k
 · refine .inr ⟨q,cap,m,h1,D,h3,?_,b⟩
   rw[rL L O fun k=>e q k _ h4];exact h4
theorem Uz(l:List fL):(l.flatMap fc).length=2*l.length:=by
 induction l with
 |nil=>rfl
 |cons x l ih=>rw[List.flatMap_cons,List.length_append,ih];show 2+_=_;simp;omega
theorem C0{O:Ht}{q:Nat}{v:Value}{b:gi}(h:O.get q=some (.cells [v] b))(l:List fL)(m:gi):O.get q≠some (.cells (l.flatMap fc) m):=fun k=>by
 rw[h]at k
 have e:[v]=l.flatMap fc:=by injection k with k;injection k
 have:=congrArg List.length e
 rw[Uz]at this
 simp at this;omega
end
def Fi(e j m N:Nat)(p:sU Tm)(o:Nat->Prop)(l:List fL)(a:Ht)(b:Nat):Prop:=∃(J:SV fL) (gr:Nat),a.get e=some (.cells [J.v] gi.plain)/\a.get j=some (.cells [Y 0] gi.plain)/\a.get m=some (.loop p)/\J.l=l/\(∀s∈l,um s)/\lY fc 2 N gr a b J/\(∀q,o q->q<b/\q∉[e,j,m]/\q≠gr)/\(gr=e\/(N<=gr/\gr<b))/\N<=b
def WR(m e j N:Nat)(o:sU Tm)(a:Ht)(b:Nat):Prop:=a.get m=some (.cells [.slice none 0 0] gi.plain)/\(∃z:Int,(z=2\/z=10)/\a.get e=some (.cells [Y z] gi.plain))/\a.get j=some (.loop {o with state:=.done,pending:=some .ret})/\N<=b
theorem Fi.mono{p m o N:Nat}{u:sU Tm}(h1:p<N)(D:m<N)(h3:o<N):∀(j:Nat->Prop) (l:List fL) (a:Ht) (b:Nat) (c:Ht) (d:Nat),Fi p m o N u j l a b->HE b a c->b<=d->Fi p m o N u (fun q=>j q\/(b<=q/\q<d)) l c d:=by
 rintro j l a b c d ⟨J,gr,y,z,A,B,C,E,F,K,L⟩ he hd
 refine⟨J,gr,he.get y om,he.get z om,he.get A om,B,C,E.mono he hd,fun q e=>?_,om,om⟩
 rcases e with e|e
 · have:=F q e
   exact⟨om,this.2⟩
 · exact⟨e.2,by simp;omega,om⟩
def M8(A B:List fL)(l:List fL):Prop:=l=uK (t_ (uK A) (uK B))/\l.length<=4096/\xl [A,B]/\∀s∈t_ (uK A) (uK B),um s
theorem gx.Yd{O eZ:Ht}{G b:Nat}{s:SV fL}{v:Value}{u:gi}(h:gx fc 2 O G s)(p:O.get b=some (.cells [v] u))(o:∀q,q≠b->eZ.get q=O.get q):gx fc 2 eZ G s:=by
 refine⟨h.1,?_,h.2.2⟩
 rcases h.2.1 with k|⟨q,cap,m,h1,D,h3,h4,j⟩
 · exact .inl k
 · refine .inr ⟨q,cap,m,h1,D,h3,?_,j⟩
   have:q≠b:=fun e=>by rw[e]at h4;exact C0 p _ _ h4
   rw[o q this];exact h4
theorem gx.ZZ{O b:Ht}{G r:Nat}{s:SV fL}(h:gx fc 2 O G s)(hd:O.get r=some (.deferred (some [])))(hx:b=O.set r (some (.deferred none))):gx fc 2 b G s:=by
 refine⟨h.1,?_,h.2.2⟩
 rcases h.2.1 with k|⟨q,cap,m,h1,D,h3,h4,j⟩
 · exact .inl k
 · refine .inr ⟨q,cap,m,h1,D,h3,?_,j⟩
   have:q≠r:=fun e=>by rw[e,hd]at h4;cases h4
   rw[hx,Tr.gA _ _ this];exact h4
theorem pT:ex.T.agg 51=some false:=U
theorem qI:ex.T.size 51=some 1:=U
theorem Hf:ex.T.zero 48=some (.slice none (0) 0):=U
theorem M9:ex.T.zero 51=some (Y 0):=U
theorem QL(eJ:zr)(A B:SV fL)(O:Ht)(G:Nat)(cC:gx fc 2 O G A)(cD:gx fc 2 O G B):WF ex 31 [A.v,B.v] O G (fun v eZ e5=>Iy (M8 A.l B.l) v eZ e5/\G<=e5/\HE G O eZ):=by
 obtain⟨a1,c2,hR⟩:=cC.shape
 have lU:=cC.2.2
 rw[hR]
 obtain⟨a4,c5,cc⟩:=cD.shape
 have nDm:=cD.2.2
 rw[cc]
 refine WF.VT (fi:=⟨Tryz.f31.body.getD .skip,42,[.cell 4 48,.cell 5 51]⟩) U U U rfl rfl ?_
 have hE:=HE.refl G O
 refine sr<|oA [.slice none (0) 0] Hf fun nDx jl eU=>?_
 have eK:=hE.trans jl nR
 have ck:=e8 nR (e_ (G))
 refine oA [Y 0] M9 fun nDj b6 eV=>?_
 have eL:=eK.trans b6 ck
 have eW:=b6.get eU (fb (G))
 have cn:=e4 (fb (G)) (e_ (G+1))
 have cm:=e8 ck (e_ (G+1))
 refine WO.nil<|WP.seq<|sr<|oX 2<|oL [.slice a1 (A.l.length) c2,.slice a4 (B.l.length) c5] fun nCt aW eX=>?_
 have aR:=eL.trans aW cm
 have eY:=aW.get eW cn
 have cp:=e4 cn (e_ (G+1+1))
 have nCd:=aW.get eV (fb (G+1))
 have cr:=e4 (fb (G+1)) (e_ (G+1+1))
 have aH:=e8 cm (e_ (G+1+1))
 refine WO.cons (WC.call 10 64 ([(⟨.slice (some ⟨(G+1+1),0,none⟩) 2 2,[A,B]⟩:SV (SV fL)).v]) kf ((Ac (⟨.slice (some ⟨(G+1+1),0,none⟩) 2 2,[A,B]⟩:SV (SV fL)) nCt (G+1+1+1) ⟨(gx.m_ (enc:=lC) (by simp[lC]) eX (by show _=[A.v,B.v];rw[hR];rw[cc];done) (by decide) om (by simp)),fun y hy=>by rcases fM.1 hy with rfl|hy;exact cC.mono aR aH;rw[List.mem_singleton.1 hy];exact cD.mono aR aH⟩).mono ?_))
 rintro _ nDk nCz ⟨⟨p,rfl,nDz,hz,_⟩,aZ,aX⟩
 have eM:=aR.trans aX aH
 have nCe:=aX.get eY cp
 have ct:=e4 cp aZ
 have nCf:=aX.get nCd cr
 have cu:=e4 cr aZ
 have aI:=e8 aH aZ
 refine oS (G+1) (0) (Y p) [Y p] [Y p] qI rfl rfl nCf fun pH nCl ap nCp=>?_
 have aS:=eM.trans nCl om
 have b4:=(nCp G om).trans nCe
 refine WO.nil<|sr<|oZ (G+1) (0) (Y p) pT ap rfl ?_
 refine oq 12 (qG p 0) fun nDr nCS=>WO.nil<|cq nCS (fun cz=>?_) (fun cz=>?_)
 ·
  refine WP.seq<|WP.qN [⟨[0],[0],some 1⟩,⟨[],[0],some 2⟩,⟨[],[],none⟩] U _ rfl<|WD.kQ<|WN.hQ rfl (WC.jP (G+1) (0) (Y p) U pT ap rfl<|WN.nil ⟨?_,?_⟩)
  ·
   refine p7 (G+1) 0 (Y p) pT ap rfl (iz ..) ?_
   exact iX.nil
  refine WC.at rfl (WC.uR G (0) (.slice none (0) 0) [.slice none (0) 0] [.slice none (0) 0] [.slice none (0) 0] 1 rfl U U qH rfl rfl b4 rfl rfl rfl ?_)
  obtain⟨vj,cd,nCm,nCg,nCq⟩:=stored pH G (.cells [.slice none (0) 0] gi.plain)
  rw[cd];clear cd
  have wQ:=aS.trans nCm om
  have yu:=(nCq (G+1) om).trans ap
  refine WD.kQ<|WN.nil ⟨?_,?_⟩
  ·
   refine p7 (G+1) 0 (Y p) pT yu rfl (iz ..) ?_
   exact iX.nil
  refine WC.at rfl (WC.uR (G+1) (0) (Y p) [Y p] [Y p] [Y p] 1 rfl U U qI rfl rfl yu rfl rfl rfl ?_)
  obtain⟨nDl,ce,nCn,nCh,nCr⟩:=stored vj (G+1) (.cells [Y p] gi.plain)
  rw[ce];clear ce
  have eN:=wQ.trans nCn om
  have nCi:=(nCr G om).trans nCg
  refine WD.last<|WN.nil ⟨?_,?_⟩
  ·
   exact iX.nil
  refine WP.ret ⟨rfl,.inl ⟨rfl,[.slice none (0) 0,Y p],(qk (by rw[show(fV (.tmp 4)).run _=pt G 0 from by kernel_rfl];exact j_ nY nCi rfl) (by rw[show(fV (.tmp 5)).run _=pt (G+1) 0 from by kernel_rfl];exact j_ pT nCh rfl)),?_⟩⟩
  exact⟨⟨⟨.slice none 0 0,[]⟩,_,rfl,tf,.inr ⟨om,rfl⟩⟩,aI,eN⟩
 ·
  refine WP.skip<|sr<|oX 1 ?_
  have bT:=hz (fg.1 cz)
  have nCE:=bT.1 A.l (by simp)
  have nCF:=bT.1 B.l (by simp)
  refine WO.cons (WC.call 15 65 ([A.v]) (fun _ _ _=>by(try rw[hR]);kernel_rfl) ((CZ eJ A pH (nCz) (cC.mono aS aI) om).mono ?_))
  rintro _ JG a_ ⟨C,rfl,aw,N,a6,aY⟩
  have bU:=aS.trans aY aI
  have nCj:=aY.get b4 ct
  have cw:=e4 ct a6
  have nCk:=aY.get ap cu
  have cx:=e4 cu a6
  have a8:=e8 aI a6
  have nCu:=HE.refl (a_) JG
  have cA:=e9 (a_)
  refine oX 1<|WO.cons (WC.call 17 65 ([B.v]) (fun _ _ _=>by(try rw[cc]);kernel_rfl) ((CZ eJ B JG (a_) (cD.mono bU a8) om).mono ?_))
  rintro _ ca bc ⟨E,rfl,ax,R,aB,aA⟩
  have bV:=bU.trans aA a8
  have b5:=aA.get nCj cw
  have bL:=e4 cw aB
  have bl:=aA.get nCk cx
  have bM:=e4 cx aB
  have bC:=nCu.trans aA cA
  have aM:=e8 cA aB
  have bJ:=e8 a8 aB
  have bD:=HE.refl (bc) ca
  have aN:=e9 (bc)
  refine oN 2<|WP.seq<|sr<|oX 1 ?_
  obtain⟨nDa,nDc,ea⟩:=N.shape
  have nCO:=N.2.2
  refine ov 19 (Y (.ofNat (C.l.length))) ?_ (fun _ _ _=>by rw[ea];kernel_rfl)
  refine oX 1 ?_
  obtain⟨nDb,nDd,eb⟩:=R.shape
  have nCP:=R.2.2
  refine ov 21 (Y (.ofNat (E.l.length))) ?_ (fun _ _ _=>by rw[eb];kernel_rfl)
  refine oX 1 ?_
  refine oq 23 (mr 65536 (gn .i64 (.ofNat C.l.length*.ofNat E.l.length))) fun nDe nCA=>WO.nil<|cq nCA (fun cy=>?_) (fun cy=>?_)
  ·
   refine sr<|oS G (0) (.slice none (0) 0) [.slice none (0) 0] [.slice none (0) 0] qH rfl rfl b5 fun nC0 dL cV dQ=>?_
   have cE:=bV.trans dL om
   have cW:=(dQ (G+1) om).trans bl
   refine oS (G+1) (0) (Y 2) [Y 2] [Y 2] qI rfl rfl cW fun nC1 dM cX dR=>?_
   have cF:=cE.trans dM om
   have cY:=(dR G om).trans cV
   refine wr ⟨rfl,.inl ⟨rfl,[.slice none (0) 0,Y 2],(qk (by rw[show(fV (.tmp 4)).run _=pt G 0 from by kernel_rfl];exact j_ nY cY rfl) (by rw[show(fV (.tmp 5)).run _=pt (G+1) 0 from by kernel_rfl];exact j_ pT cX rfl)),?_⟩⟩
   exact⟨⟨⟨.slice none 0 0,[]⟩,_,rfl,tf,.inr ⟨om,rfl⟩⟩,bJ,cF⟩
  ·
   refine WP.skip<|WP.seq<|sr<|oX 2<|WO.cons (WC.call 26 66 ([C.v,E.v]) kf ((WQ C E ca (bc) (N.mono bC aM) (R.mono bD aN)).mono ?_))
   rintro _ bw e ⟨ba,bb,rfl,nCH,nCI,b9,b_,nDu,nDv,aj,W⟩
   have cG:=bV.trans W bJ
   have cZ:=W.get b5 bL
   have ei:=e4 bL aj
   have c0:=W.get bl bM
   have aJ:=e4 bM aj
   have dU:=bC.trans W aM
   have ey:=e8 aM aj
   have dV:=bD.trans W aN
   have ez:=e8 aN aj
   refine WO.nil<|WP.block ?_
   obtain⟨nC9,nCU⟩:∃q,q=e:=⟨_,rfl⟩
   refine WP.MI (.func (.func 121) #[] #[pt ba 0,pt bb 0]) U fun aL aP=>?_
   obtain⟨ae,bI⟩:∃h:Ht,h=(bw.set (e) (some (.deferred (some [])))).set (e+1) (some (.loop aL)):=⟨_,rfl⟩
   rw[<-bI]
   have eE:ae.get (e)=some (.deferred (some [])):=by rw[bI];exact(Tr.gA _ _ om).trans (Tr.ia ..)
   have b8:ae.get (e+1)=some (.loop aL):=by rw[bI];exact Tr.ia ..
   have aq:HE (e) bw ae:=by rw[bI];exact(HE.set _ _ nR).trans (HE.set _ _ (e_ _)) nR
   have aV:=aq.get cZ ei
   have ay:=aq.get c0 aJ
   have eO:=aq.get nCH b9
   have eP:=aq.get nCI b_
   have eC:HE G O ae:=cG.trans aq om
   have nDi:G+2<=e:=by have:=aJ;omega
   have eQ:gx fc 2 (jW [G,((G+1)),(e+1)] ae) (e+1+1) C:=(((N.mono dU ey)).mono aq om).DG (by
    intro q j m
    rcases fM.1 j with rfl|j
    · exact C0 aV _ _
    rcases fM.1 j with rfl|j
    · exact C0 ay _ _
    · rw[List.mem_singleton.1 j,b8];intro h;cases h)
   have eR:gx fc 2 (jW [G,((G+1)),(e+1)] ae) (e+1+1) E:=(((R.mono dV ez)).mono aq om).DG (by
    intro q j m
    rcases fM.1 j with rfl|j
    · exact C0 aV _ _
    rcases fM.1 j with rfl|j
    · exact C0 ay _ _
    · rw[List.mem_singleton.1 j,b8];intro h;cases h)
   have nC8:(t_ C.l E.l).length<=65536:=by
    have ha:C.l.length<=4096:=by rw[aw];exact e8 (KA _) nCE
    have hb:E.l.length<=4096:=by rw[ax];exact e8 (KA _) nCF
    have hm:=gR ha hb
    rw[Fh]
    have hw:gn .i64 (.ofNat C.l.length*.ofNat E.l.length)=.ofNat (C.l.length*E.l.length):=wrapN (n:=C.l.length*E.l.length) om
    have j:=cy
    rw[hw]at j
    have nDy:¬(65536<((C.l.length*E.l.length:Nat):Int)):=j
    omega
   have BH:p=0:=fg.1 cz
   refine(WV.func (f:=121) (show WF ex 121 (.func (.yield (e+1)) #[] #[]::(#[pt ba 0,pt bb 0]:Array Value).toList) ae (e+1+1) _ from(Uy C E (.func (.yield (e+1)) #[] #[]) (G) ((G+1)) (e+1) ba bb (Fi (G) ((G+1)) (e+1) (e+1+1) aL) (WR (G) ((G+1)) (e+1) (e+1+1) aL) (fun q=>q=ba\/q=bb) (.inl rfl) (.inr rfl) ae (e+1+1) eQ eR ae (e+1+1) eO eP (by have:=b9;omega) (by have:=b_;omega) nR (HE.refl _ _) ?_ (Fi.mono om om om) ?_))).mono ?_
   · refine⟨⟨.slice none 0 0,[]⟩,G,aV,(by rw[ay,BH]),b8,rfl,(fun _ h=>by cases h),lY.nil,fun q j=>?_,.inl rfl,Nat.le_refl _⟩
     have:=aJ;have:=b9;have:=b_
     rcases j with rfl|rfl<;>exact⟨om,by simp;omega,om⟩
   ·
    rintro Pr l x jA a b hb nDt ⟨J,gr,cf,cj,bR,a7,k5,k6,ee,k8,k9⟩
    have nDs:J.l.length<=65536:=by rw[a7];omega
    have nCK:G<(e+1+1):=by omega
    have nCJ:((G+1))<(e+1+1):=by omega
    refine WV.round (aL.tmps.set 27 (.agg (fc x).toArray)) bR rfl (by rw[aP]) (by rw[aP];rfl) ?_
    subst aP
    have dW:=HE.refl (b) a
    have eA:=e9 (b)
    refine WP.region<|oA [Y 0,Y 0] mY fun nC2 X c3=>?_
    have cH:=(HE.refl b (jW [G,((G+1)),(e+1),gr] a)).trans (X.jW (l:=[G,((G+1)),(e+1),gr])) nR
    have c6:=X.get cf (show G<b by omega)
    have bN:=e4 (show G<b by omega) (e_ (b))
    have c7:=X.get cj (show(G+1)<b by omega)
    have bO:=e4 (show(G+1)<b by omega) (e_ (b))
    have c8:=X.get bR (show(e+1)<b by omega)
    have bP:=e4 (show(e+1)<b by omega) (e_ (b))
    have dX:=dW.trans X eA
    have aG:=e8 nR (e_ (b))
    refine oS b (0) (.agg (fc x).toArray) (fc x) (fc x) gZ rfl rfl c3 fun nC3 bt c9 aC=>?_
    have cI:=cH.trans (bt.jW (l:=[G,((G+1)),(e+1),gr])) om
    have dY:=dX.trans bt om
    have c_:=(aC G om).trans c6
    have da:=(aC (G+1) om).trans c7
    have db:=(aC (e+1) om).trans c8
    refine WO.nil<|⟨rfl,db,fun eF nCM aO=>?_⟩
    have nCG:lY fc 2 (e+1+1) gr eF (b+1) J:=(k6.mono dY (show b<=b+1 by omega)).sV (fun q j=>aO q om)
    have cJ:=cI.trans (HE.oo (B:=b+1) (l:=[G,((G+1)),(e+1),gr]) fun q _ j=>aO q fun h=>j (by rw[h];simp)) aG
    have dc:=(aO G om).trans c_
    have dd:=(aO (G+1) om).trans da
    have bn:=(aO b om).trans c9
    refine WP.block<|WP.seq<|sr<|WO.cons (WC.im b (0) (fc x) U kn gZ bn rfl<|WO.cons (WC.call 29 67 ([.agg (fc x).toArray]) kf ((Ff x eF (b+1)).mono ?_)))
    rintro _ nC4 u ⟨⟨o,rfl,ec,dP⟩,ab,F⟩
    have cK:=cJ.trans (F.jW (l:=[G,((G+1)),(e+1),gr])) aG
    have de:=F.get dc bN
    have ej:=e4 bN ab
    have df:=F.get dd bO
    have en:=e4 bO ab
    have dg:=F.get nCM bP
    have eo:=e4 bP ab
    have dh:=F.get bn (fb (b))
    have af:=e8 aG ab
    have cS:=nCG.mono F ab
    refine oS (G+1) (0) (Y o) [Y o] [Y o] qI rfl rfl df fun bx nCV S ac=>?_
    have bf:=cK.trans (HE.oo (B:=u) (l:=[G,((G+1)),(e+1),gr]) fun q _ j=>ac q fun h=>j (by rw[h];simp)) af
    have bj:=cS.sV (eZ:=bx) (fun q j=>ac q om)
    have az:=(ac G om).trans de
    have bo:=(ac (e+1) om).trans dg
    have di:=(ac b om).trans dh
    refine WO.nil<|sr<|oZ (G+1) (0) (Y o) pT S rfl ?_
    refine oq 31 (qG o 0) fun nDf nCB=>WO.nil<|cq nCB (fun be=>?_) (fun be=>?_)
    ·
     refine WP.seq<|WP.qN [⟨[0],[0],some 1⟩,⟨[],[0],some 2⟩,⟨[],[],none⟩] U _ rfl<|WD.kQ<|WN.hQ rfl (WC.jP (G+1) (0) (Y o) U pT S rfl<|WN.nil ⟨?_,?_⟩)
     ·
      refine p7 (G+1) 0 (Y o) pT S rfl (iz ..) ?_
      exact iX.nil
     refine WC.at rfl (WC.uR G (0) (.slice none (0) 0) [J.v] [.slice none (0) 0] [.slice none (0) 0] 1 rfl U U qH rfl rfl az rfl rfl rfl ?_)
     obtain⟨bz,bG,nCW,dj,al⟩:=stored bx G (.cells [.slice none (0) 0] gi.plain)
     rw[bG];clear bG
     have cL:=bf.trans (HE.oo (B:=u) (l:=[G,((G+1)),(e+1),gr]) fun q _ j=>al q fun h=>j (by rw[h];simp)) af
     have cT:=bj.sV (eZ:=bz) (fun q j=>al q om)
     have bp:=(al (G+1) om).trans S
     have dl:=(al (e+1) om).trans bo
     refine WD.kQ<|WN.nil ⟨?_,?_⟩
     ·
      refine p7 (G+1) 0 (Y o) pT bp rfl (iz ..) ?_
      exact iX.nil
     refine WC.at rfl (WC.uR (G+1) (0) (Y o) [Y o] [Y o] [Y o] 1 rfl U U qI rfl rfl bp rfl rfl rfl ?_)
     obtain⟨dS,bH,nCX,dm,am⟩:=stored bz (G+1) (.cells [Y o] gi.plain)
     rw[bH];clear bH
     have bg:=cL.trans (HE.oo (B:=u) (l:=[G,((G+1)),(e+1),gr]) fun q _ j=>am q fun h=>j (by rw[h];simp)) af
     have nCT:=cT.sV (eZ:=dS) (fun q j=>am q om)
     have dn:=(am G om).trans dj
     have dp:=(am (e+1) om).trans dl
     refine WD.last<|WN.nil ⟨?_,?_⟩
     ·
      exact iX.nil
     refine WP.ret ⟨rfl,dp,fun nCN b7 K=>⟨(show b<=u by omega),(HE.oo fun q j hn=>(K q (fun h=>hn (by rw[h];simp))).trans (bg.q9 om (by simp at hn⊢;omega))),(fun q j b3=>by obtain⟨p1,bd,p3⟩:=ee q b3;exact(K q (fun h=>bd (by rw[h];simp))).trans (bg.q9 j (by simp at bd⊢;omega))),false,rfl,(fun h=>by cases h),fun _=>⟨(K _ om).trans dn,⟨o,.inr (dP.resolve_left be),(K _ om).trans dm⟩,b7,(show(e+1+1)<=u by omega)⟩⟩⟩
    ·
     refine WP.skip<|WP.region<|oZ G (0) (J.v) nY az rfl<|WO.cons (WC.im b (0) (fc x) U kn gZ di rfl<|oL [Y x.g_,Y x.gU] fun nC5 aa dq=>?_)
     have cM:=bf.trans (aa.jW (l:=[G,((G+1)),(e+1),gr])) af
     have dr:=aa.get az ej
     have dt:=aa.get S en
     have du:=aa.get bo eo
     have bK:=e8 af (e_ (u))
     have cU:=bj.mono aa (e_ (u))
     obtain⟨inf,pq,vu⟩:=Bx
     refine WO.cons (WC.MH (enc:=fc) (J:=J) x rfl U U cU (tU _) dq rfl pn gZ mY pq rfl rfl vu om om rfl ?_)
     rintro cB jq oT nCD aT yb nCL tX eD nCo
     have cN:=cM.trans (HE.oo (B:=u+1) (l:=[G,((G+1)),(e+1),gr]) fun q j hn=>nCL q j fun _ h=>hn (by rw[h];simp)) bK
     have eg:=e8 bK yb
     have dv:=(tX _ om).trans dr
     have dw:=(tX _ om).trans dt
     have dx:=(tX _ om).trans du
     have b0:=eD.ok (tU _) (by rw[aT,List.length_append];simp;omega)
     refine oS G (0) (cB.v) [cB.v] [cB.v] qH b0.cells (e7.2 ⟨rfl,by rw[List.all_cons,b0.one];rfl⟩) dv fun dT nCY dy an=>?_
     have bh:=cN.trans (HE.oo (B:=oT) (l:=[G,((G+1)),(e+1),gr]) fun q _ j=>an q fun h=>j (by rw[h];simp)) eg
     have bk:=eD.sV (eZ:=dT) (fun q j=>an q om)
     have dz:=(an (G+1) om).trans dw
     have dA:=(an (e+1) om).trans dx
     refine WO.nil ?_
     have eG:o=0:=fg.1 be
     refine⟨rfl,dA,fun nCN b7 K=>⟨(show b<=oT by omega),(HE.oo fun q j hn=>(K q (fun h=>hn (by rw[h];simp))).trans (bh.q9 om (by simp at hn⊢;omega))),(fun q j b3=>by obtain⟨p1,bd,p3⟩:=ee q b3;exact(K q (fun h=>bd (by rw[h];simp))).trans (bh.q9 j (by simp at bd⊢;omega))),true,rfl,fun _=>⟨cB,nCD,(K _ om).trans dy,(by rw[(K _ om).trans dz,eG]),b7,by rw[aT,a7],?_,bk.sV (fun q j=>K q om),fun q b3=>?_,.inr (bk.mG (by rw[aT];simp)),(show(e+1+1)<=oT by omega)⟩,(fun h=>by cases h)⟩⟩
     · intro s hs;rcases fI.1 hs with hs|hs;exact k5 s hs;rw[List.mem_singleton.1 hs];exact ec.1 eG
     · obtain⟨p1,bd,p3⟩:=ee q b3;exact⟨(show q<oT by omega),bd,by rcases nCo with⟨_,h⟩|h;rw[h];exact p3;omega⟩
   ·
    rintro _ aF M ⟨nDw,bu,dK⟩
    have nCK:G<(e+1+1):=by omega
    have nCJ:((G+1))<(e+1+1):=by omega
    rcases dK with⟨Pr,J,gr,cf,cj,bR,a7,k5,k6,ee,k8,k9⟩|⟨cf,⟨z,nCR,cj⟩,bR,a7⟩
    ·
     refine⟨aL,0,bR,(fun h=>by rw[aP]at h;cases h),by rw[aP];rfl,?_⟩
     obtain⟨ad,aQ⟩:∃h:Ht,h=aF.set (e+1) (some (.loop {aL with state:=.exhausted})):=⟨_,rfl⟩
     rw[<-aQ]
     have L:∀q,q≠(e+1)->ad.get q=aF.get q:=fun q j=>by rw[aQ];exact Tr.gA _ _ j
     have bW:HE G O ad:=fun q j=>(L q om).trans ((bu.q9 om (by simp;omega)).trans (eC q j))
     have ef:=(L (G) om).trans cf
     have kE:=(L ((G+1)) om).trans cj
     have kD:=(L (e) om).trans ((bu.q9 om (by simp;omega)).trans eE)
     have kG:=k6.sV (eZ:=ad) (fun q j=>L q om)
     have aU:=kG.ok (tU _) (by rw[a7];omega)
     refine sr ?_
     obtain⟨eH,eI,bE⟩:=aU.shape
     have nCQ:=aU.2.2
     refine oZ G (0) (.slice eH (J.l.length) eI) nY ef (by rw[<-bE];rfl)<|WO.cons (WC.call 38 65 ([J.v]) (fun _ _ _=>by(try rw[bE]);kernel_rfl) ((CZ eJ J ad (M) aU (by rw[a7];omega)).mono ?_))
     rintro _ bA aK ⟨bS,rfl,bZ,bQ,ak,ah⟩
     have cO:=bW.trans ah (show G<=M by omega)
     have dB:=ah.get ef (show G<M by omega)
     have ep:=e4 (show G<M by omega) ak
     have dC:=ah.get kE (show(G+1)<M by omega)
     have et:=e4 (show(G+1)<M by omega) ak
     have dD:=ah.get kD (show e<M by omega)
     have eu:=e4 (show e<M by omega) ak
     have eh:=e8 (show G<=M by omega) ak
     have dZ:=HE.refl (aK) bA
     have eB:=e9 (aK)
     refine WO.cons (WC.call 39 68 ([bS.v]) kf ((IA bS bA (aK) (bQ.mono dZ eB)).mono ?_))
     rintro _ nC6 ew ⟨⟨ao,av,rfl,au,d_⟩,nCZ,ai⟩
     have cP:=cO.trans ai eh
     have bq:=ai.get dB ep
     have dE:=ai.get dC et
     have dF:=ai.get dD eu
     refine oX 2<|oS G (0) (ao.v) [ao.v] [ao.v] qH au.cells (e7.2 ⟨rfl,by rw[List.all_cons,au.one];rfl⟩) bq fun nC7 dN dG aD=>?_
     have cQ:=cP.trans dN om
     have br:=(aD (G+1) om).trans dE
     have dH:=(aD e om).trans dF
     refine oS (G+1) (0) (Y av) [Y av] [Y av] qI rfl rfl br fun bB dO dI aE=>?_
     have cR:=cQ.trans dO om
     have dJ:=(aE G om).trans dG
     have bs:=(aE e om).trans dH
     refine WO.nil ?_
     obtain⟨cb,ag⟩:∃h:Ht,h=bB.set (e) (some (.deferred none)):=⟨_,rfl⟩
     have ar:∀q,q≠e->cb.get q=bB.get q:=fun q j=>by rw[ag];exact Tr.gA _ _ j
     have bY:=(ar (G) om).trans dJ
     have bX:=(ar ((G+1)) om).trans dI
     refine WP.ret ⟨rfl,.inr ⟨e,rfl,bs,[ao.v,Y av],(by rw[<-ag];exact qk (by rw[show(fV (.tmp 4)).run _=pt G 0 from by kernel_rfl];exact j_ nY bY rfl) (by rw[show(fV (.tmp 5)).run _=pt ((G+1)) 0 from by kernel_rfl];exact j_ pT bX rfl)),?_⟩⟩
     rw[<-ag]
     have nCs:=(((au.Yd bq aD).Yd br aE)).ZZ bs ag
     refine⟨⟨ao,av,rfl,nCs,?_⟩,(show G<=ew by omega),(fun q j=>(ar q om).trans (cR q j))⟩
     rcases d_ with⟨h0,h1,D⟩|⟨h0,h1⟩
     · refine .inl ⟨h0,?_,D,bT,by rw[<-aw,<-ax];exact k5⟩
       rw[h1,bZ,a7,aw,ax]
     · exact .inr ⟨h0,h1⟩
    ·
     refine⟨{aL with state:=.done,pending:=some .ret},1,bR,(fun h=>by cases h),rfl,?_⟩
     obtain⟨ad,aQ⟩:∃h:Ht,h=aF.set (e+1) (some (.loop {({aL with state:=.done,pending:=some .ret}:sU Tm)with state:=.exhausted})):=⟨_,rfl⟩
     rw[<-aQ]
     have L:∀q,q≠(e+1)->ad.get q=aF.get q:=fun q j=>by rw[aQ];exact Tr.gA _ _ j
     have bW:HE G O ad:=fun q j=>(L q om).trans ((bu.q9 om (by simp;omega)).trans (eC q j))
     have ef:=(L (G) om).trans cf
     have kE:=(L ((G+1)) om).trans cj
     have kD:=(L (e) om).trans ((bu.q9 om (by simp;omega)).trans eE)
     obtain⟨cb,ag⟩:∃h:Ht,h=ad.set (e) (some (.deferred none)):=⟨_,rfl⟩
     have ar:∀q,q≠e->cb.get q=ad.get q:=fun q j=>by rw[ag];exact Tr.gA _ _ j
     have bY:=(ar (G) om).trans ef
     have bX:=(ar ((G+1)) om).trans kE
     show Nat.ble 1 1=true/\_
     refine⟨rfl,.inr ⟨e,rfl,kD,[.slice none 0 0,Y z],(by rw[<-ag];exact qk (by rw[show(fV (.tmp 4)).run _=pt G 0 from by kernel_rfl];exact j_ nY bY rfl) (by rw[show(fV (.tmp 5)).run _=pt ((G+1)) 0 from by kernel_rfl];exact j_ pT bX rfl)),?_⟩⟩
     rw[<-ag]
     exact⟨⟨⟨.slice none 0 0,[]⟩,z,rfl,tf,.inr ⟨nCR,rfl⟩⟩,(show G<=M by omega),(fun q j=>(ar q om).trans (bW q j))⟩
end
end Sw
namespace Sw
noncomputable section
open Go Go.Proofs Go.RowKit
set_option maxRecDepth 100000
set_option maxHeartbeats 1600000
def IB(K:j8)(i j:Nat):Int:=((K.gz.l[i]?.bind fun r=>r.l[j]?).getD 0)
theorem Hg{K:j8}{i j:Nat}{r:SV Int}{z:Int}(h:K.gz.l[i]?=some r)(k:r.l[j]?=some z):IB K i j=z:=by
 unfold IB;rw[h];simp[k]
def pX(K:j8)(Ed:Int)(s:fL):fL:=if Ed=-1 then s else⟨gn .i64 (s.g_-IB K (Ed+1).toNat 0),gn .i64 (s.gU+IB K 0 (Ed+1).toNat)⟩
theorem JH(K:j8)(s:fL)(O:Ht)(G:Nat)(hK:nZ O G K):WF ex 113 [.agg (jc K).toArray,Y (-1),.agg (fc s).toArray] O G (fG G O (wx (.agg (fc s).toArray))):=by
 refine wd Tryz.f113 34 [.cell 6 104] fun hE=>sr<|oB (.agg (jc K).toArray) (jc K) fun jq iC hU=>?_
 refine oB (.agg (fc s).toArray) (fc s) fun A o e=>?_
 refine oA [Y 0,Y 0] mY fun y jx j=>?_
 refine WO.nil<|WP.seq<|sr<|oN 2<|WP.cond true U (fun b=>?_) (fun b=>by cases b)
 refine sr<|WO.cons (WC.im (G+1) (0) (fc s) U kn gZ (jx.get e) rfl<|oS (G+1+1) (0) (.agg (fc s).toArray) (fc s) (fc s) gZ rfl rfl j fun z p m u=>?_)
 refine wr ⟨rfl,rfl,[.agg (fc s).toArray],(sL (by rw[show(fV (.tmp 6)).run _=pt (G+1+1) 0 from by kernel_rfl];exact jO kn gZ m rfl)),?_⟩
 exact⟨rfl,od,((((hE.trans iC).trans o).trans jx).trans p)⟩
theorem M_(K:j8)(v:Nat)(s:fL)(O:Ht)(G:Nat)(hK:nZ O G K)(hc:tQ K)(ai:v<K.fp.l.length):WF ex 113 [.agg (jc K).toArray,Y (.ofNat v),.agg (fc s).toArray] O G (fG G O (wx (.agg (fc (pX K (.ofNat v) s)).toArray))):=by
 refine wd Tryz.f113 34 [.cell 6 104] fun hE=>?_
 have ap:=hc.V0
 have aq:=hc.X5
 refine sr<|oB (.agg (jc K).toArray) (jc K) fun jq iC hU=>?_
 refine oB (.agg (fc s).toArray) (fc s) fun aw W ad=>?_
 refine oA [Y 0,Y 0] mY fun ah jx ae=>?_
 have o:=((hE.trans iC).trans W).trans jx
 have C:=jx.get (W.get hU)
 have E:=jx.get ad
 refine WO.nil<|WP.seq<|sr<|oX 1 ?_
 refine oq 9 (vK v (-1)) fun av aj=>WO.nil<|cq aj (fun ac=>?_) (fun ac=>?_)
 ·
  exact absurd ac om
 ·
  refine WP.skip<|sr<|oX 1<|ov 12 (Y (.ofNat (v+1))) ?_ (fun _ _ _=>by rw[<-gM (show v+1<9223372036854775808 by omega)];kernel_rfl)
  refine oN 1<|WP.seq<|WP.qN [⟨[0,1,2,3,4,5,6,7,8,9,10,11,12,13,14,15,16,17,18,19,20],[0,1,2,3,4,5,6,7,8,9,10,11,12,13,14,15,16,17,18,19,20],some 21⟩,⟨[],[],none⟩] U _ rfl<|WD.kQ<|nv 13 (pt (G+1) 0)<|WN.hQ rfl (WC.jP (G+1) 0 (Y s.g_) U ft E rfl<|nv 15 (pt G (0+1)) ?_)
  obtain⟨a31,S,b⟩:=hK.gz.1.shape
  have am:=hK.gz.1.2.2
  refine WN.hQ rfl (WC.jP G (0+1) (.slice a31 (K.gz.l.length) S) U sF C (by rw[<-b];rfl)<|nv 17 (Y (.ofNat (v+1))) ?_)
  have F:v+1<K.gz.l.length:=by omega
  refine WN.hQ rfl (WC.iy b hK.gz.1 (v+1) u_ tS (F) ?_)
  obtain⟨y,j⟩:=gE F
  have ak:y.l.length=K.fp.l.length+1:=(hc.row _ _ j).1
  obtain⟨a37,aa,A⟩:=(hK.gz.2 y (cs j)).shape
  have an:=(hK.gz.2 y (cs j)).2.2
  refine WN.hQ rfl (WC.lz (.slice a37 (y.l.length) aa) b (hK.gz.1.mono o nR) j (by rw[<-A];rfl) lF ?_)
  have J:0<y.l.length:=by omega
  refine WN.hQ rfl (WC.iy A (hK.gz.2 y (cs j)) (0) lG kp (J) ?_)
  obtain⟨p,N⟩:=gE J
  refine WN.hQ rfl (WC.lz (Y p) A ((hK.gz.2 y (cs j)).mono o nR) N rfl ft<|nv 22 (Y (gn .i64 ((s.g_)-(p))))<|nv 23 (pt (G+1) (0+1))<|WN.hQ rfl (WC.jP (G+1) (0+1) (Y s.gU) U ft E rfl<|nv 25 (pt G (0+1))<|WN.hQ rfl (WC.jP G (0+1) (.slice a31 (K.gz.l.length) S) U sF C (by rw[<-b];rfl) ?_)))
  have L:0<K.gz.l.length:=by omega
  refine WN.hQ rfl (WC.iy b hK.gz.1 (0) u_ tS (L) ?_)
  obtain⟨z,m⟩:=gE L
  have al:z.l.length=K.fp.l.length+1:=(hc.row _ _ m).1
  obtain⟨a46,ab,B⟩:=(hK.gz.2 z (cs m)).shape
  have ao:=(hK.gz.2 z (cs m)).2.2
  refine WN.hQ rfl (WC.lz (.slice a46 (z.l.length) ab) b (hK.gz.1.mono o nR) m (by rw[<-B];rfl) lF<|nv 29 (Y (.ofNat (v+1))) ?_)
  have M:v+1<z.l.length:=by omega
  refine WN.hQ rfl (WC.iy B (hK.gz.2 z (cs m)) (v+1) lG kp (M) ?_)
  obtain⟨u,R⟩:=gE M
  refine WN.hQ rfl (WC.lz (Y u) B ((hK.gz.2 z (cs m)).mono o nR) R rfl ft<|nv 32 (Y (gn .i64 ((s.gU)+(u))))<|nv 33 (.agg ⟨[Y (gn .i64 ((s.g_)-(p))),Y (gn .i64 ((s.gU)+(u)))]⟩)<|WN.nil ⟨?_,?_⟩)
  ·
   refine cv (pt (G+1) 0) (iK ..)<|p7 (G+1) 0 (Y s.g_) ft E rfl (iz ..)<|cv (pt G (0+1)) (iK ..)<|p7 G (0+1) (.slice a31 (K.gz.l.length) S) sF C (by rw[<-b];rfl) (b▸hK.gz.1.js 8)<|ci (.ofNat (v+1))<|yL b hK.gz.1 (v+1) u_ tS (F)<|Gs (.slice a37 (y.l.length) aa) b (hK.gz.1.mono o nR) j (by rw[<-A];rfl) lF (A▸(hK.gz.2 y (cs j)).js 8)<|yL A (hK.gz.2 y (cs j)) (0) lG kp (J)<|Gs (Y p) A ((hK.gz.2 y (cs j)).mono o nR) N rfl ft (iz ..)<|ci (gn .i64 ((s.g_)-(p)))<|cv (pt (G+1) (0+1)) (iK ..)<|p7 (G+1) (0+1) (Y s.gU) ft E rfl (iz ..)<|cv (pt G (0+1)) (iK ..) ?_
   refine p7 G (0+1) (.slice a31 (K.gz.l.length) S) sF C (by rw[<-b];rfl) (b▸hK.gz.1.js 8)<|yL b hK.gz.1 (0) u_ tS (L)<|Gs (.slice a46 (z.l.length) ab) b (hK.gz.1.mono o nR) m (by rw[<-B];rfl) lF (B▸(hK.gz.2 z (cs m)).js 8)<|ci (.ofNat (v+1))<|yL B (hK.gz.2 z (cs m)) (v+1) lG kp (M)<|Gs (Y u) B ((hK.gz.2 z (cs m)).mono o nR) R rfl ft (iz ..)<|ci (gn .i64 ((s.gU)+(u)))<|cv (.agg ⟨[Y (gn .i64 ((s.g_)-(p))),Y (gn .i64 ((s.gU)+(u)))]⟩) (wv 7 _ (by intro v ai;simp only[List.mem_cons,List.not_mem_nil,or_false]at ai;rcases ai with rfl|rfl<;>first|exact iz ..|exact iH ..)) ?_
   exact iX.nil
  refine WC.at rfl (WC.uR (G+1+1) (0) (.agg ⟨[Y (gn .i64 ((s.g_)-(p))),Y (gn .i64 ((s.gU)+(u)))]⟩) [Y 0,Y 0] [Y (gn .i64 ((s.g_)-(p))),Y (gn .i64 ((s.gU)+(u)))] [Y (gn .i64 ((s.g_)-(p))),Y (gn .i64 ((s.gU)+(u)))] 2 rfl U U gZ rfl rfl ae rfl rfl rfl ?_)
  obtain⟨au,X,ag,af,ar⟩:=stored ah (G+1+1) (.cells [Y (gn .i64 ((s.g_)-(p))),Y (gn .i64 ((s.gU)+(u)))] gi.plain)
  rw[X];clear X
  refine WD.last<|WN.nil ⟨?_,?_⟩
  ·
   exact iX.nil
  refine WP.ret ⟨rfl,rfl,[.agg ⟨[Y (gn .i64 ((s.g_)-(p))),Y (gn .i64 ((s.gU)+(u)))]⟩],(sL (by rw[show(fV (.tmp 6)).run _=pt (G+1+1) 0 from by kernel_rfl];exact jO kn gZ af rfl)),?_⟩
  refine⟨?_,od,(o.trans ag)⟩
  have e:pX K (.ofNat v) s=⟨gn .i64 (s.g_-p),gn .i64 (s.gU+u)⟩:=by
   have hs:((Int.ofNat v)+1).toNat=v+1:=rfl
   unfold pX;rw[if_neg (by show¬((Int.ofNat v)=-1);omega),hs,Hg j N,Hg m R]
  rw[e];rfl
end
end Sw
namespace Sw
noncomputable section
open Go Go.Proofs Go.RowKit
set_option maxRecDepth 100000
set_option maxHeartbeats 1600000
theorem Na(K:j8)(Ed:Int)(s:fL)(O:Ht)(G:Nat)(hK:nZ O G K)(hc:tQ K)(h1:-1<=Ed)(D:Ed<K.fp.l.length):WF ex 113 [.agg (jc K).toArray,Y Ed,.agg (fc s).toArray] O G (fG G O (wx (.agg (fc (pX K Ed s)).toArray))):=by
 by_cases h:Ed=-1
 · subst h
   have:=JH K s O G hK
   unfold pX;rw[if_pos rfl];exact this
 · obtain⟨v,rfl⟩:=Int.eq_ofNat_of_zero_le (show 0<=Ed by omega)
   exact M_ K v s O G hK hc om
theorem QM(K:j8)(o:ja)(O:Ht)(G:Nat)(hK:nZ O G K)(hc:tQ K)(C:uv K o)(B:o.jV=false):WF ex 62 [.agg (jc K).toArray,.agg (gP o).toArray] O G (fG G O (wx (.tuple ⟨[.agg (fc (pX K o.lh ⟨o.g_,o.gU⟩)).toArray,Y 0]⟩))):=by
 refine wd Tryz.f62 26 [.cell 4 104,.tmp 5] fun hE=>?_
 have ae:=C.2 B
 refine sr<|oB (.agg (jc K).toArray) (jc K) fun jq iC hU=>?_
 refine oB (.agg (gP o).toArray) (gP o) fun aw z J=>?_
 refine oA [Y 0,Y 0] mY fun W jx L=>?_
 have m:=((hE.trans iC).trans z).trans jx
 have u:=jx.get (z.get hU)
 have y:=jx.get J
 refine oN 1<|WP.seq<|sr<|WO.cons (WC.im G (0) (jc K) U xK vM u rfl<|WO.cons (WC.im (G+1) (0) (gP o) U rZ li y rfl<|WO.cons (WC.call 9 57 ([.agg (jc K).toArray,.agg (gP o).toArray]) kf ((BT K o W (G+1+1+1) (hK.mono m)).mono ?_))))
 rintro _ X ab ⟨⟨z32,rfl,aa⟩,aj,j⟩
 have p:=m.trans j
 have e:=j.get y
 have b:=j.get L
 refine oN 1<|sr<|oX 1 ?_
 refine oq 11 (qG z32 0) fun av af=>WO.nil<|cq af (fun E=>?_) (fun E=>?_)
 ·
  refine sr<|WO.cons (WC.im (G+1+1) (0) [Y 0,Y 0] U kn gZ b rfl<|oX 1<|oS (G+1+1) (0) (.agg ⟨[Y 0,Y 0]⟩) [Y 0,Y 0] [Y 0,Y 0] gZ rfl rfl b fun ao ah M al=>?_)
  refine oW 1 ⟨rfl,rfl,[.agg ⟨[Y 0,Y 0]⟩,Y z32],(nW (by rw[show(fV (.tmp 4)).run _=pt (G+1+1) 0 from by kernel_rfl];exact jO kn gZ M rfl) U),?_⟩
  exact absurd ((aa).2 ⟨hc,C⟩) E
 ·
  refine WP.skip<|WP.seq<|sr<|oX 1 ?_
  obtain⟨ac,ad,ag⟩:=@nb (o.jV) (o.jV=true) (by first|done|exact gf)
  refine oZ (G+1) 0 (.bool ac) w8 e (by rw[ad];rfl)<|WO.nil<|cq ag (fun F=>?_) (fun F=>?_)
  ·
   refine sr<|WO.cons (WC.im (G+1+1) (0) [Y 0,Y 0] U kn gZ b rfl<|oS (G+1+1) (0) (.agg ⟨[Y 0,Y 0]⟩) [Y 0,Y 0] [Y 0,Y 0] gZ rfl rfl b fun ap ai N am=>?_)
   refine oW 1 ⟨rfl,rfl,[.agg ⟨[Y 0,Y 0]⟩,Y 230],(nW (by rw[show(fV (.tmp 4)).run _=pt (G+1+1) 0 from by kernel_rfl];exact jO kn gZ N rfl) U),?_⟩
   exact absurd F (by rw[B];simp)
  ·
   refine WP.skip<|sr<|WO.cons (WC.im G (0) (jc K) U xK vM (j.get u) rfl<|oX 1<|oZ (G+1) (0+1) (Y o.lh) ft e rfl<|oX 1<|oZ (G+1) (0+2) (Y o.g_) ft e rfl<|oX 1<|oZ (G+1) (0+3) (Y o.gU) ft e rfl<|oX 1<|WO.cons (WC.call 25 113 ([.agg (jc K).toArray,Y o.lh,.agg ⟨[Y o.g_,Y o.gU]⟩]) kf ((Na K (o.lh) (⟨o.g_,o.gU⟩:fL) X (ab) (hK.mono p) hc ae.1 ae.2.1).mono ?_)))
   rintro _ aq au ⟨rfl,ak,A⟩
   refine oS (G+1+1) (0) (.agg (fc (pX K (o.lh) (⟨o.g_,o.gU⟩:fL))).toArray) (fc (pX K (o.lh) (⟨o.g_,o.gU⟩:fL))) (fc (pX K (o.lh) (⟨o.g_,o.gU⟩:fL))) gZ rfl rfl (A.get b) fun ar S R an=>?_
   refine oW 1 ⟨rfl,rfl,[.agg (fc (pX K (o.lh) (⟨o.g_,o.gU⟩:fL))).toArray,Y 0],(nW (by rw[show(fV (.tmp 4)).run _=pt (G+1+1) 0 from by kernel_rfl];exact jO kn gZ R rfl) U),?_⟩
   exact⟨rfl,od,((p.trans A).trans S)⟩
end
end Sw
namespace Sw
noncomputable section
open Go Go.Proofs Go.RowKit
set_option maxRecDepth 100000
set_option maxHeartbeats 1600000
def oO(K:j8)(l:List ja):List fL:=(l.filter fun o=>!o.jV).map fun o=>pX K o.lh ⟨o.g_,o.gU⟩
theorem WS{K:j8}{l:List ja}{i:Nat}{o:ja}(h:l[i]?=some o)(b:o.jV=true):oO K (l.take (i+1))=oO K (l.take i):=by
 unfold oO;rw[List.take_add_one,h];simp[b]
theorem Ye{K:j8}{l:List ja}{i:Nat}{o:ja}(h:l[i]?=some o)(b:o.jV=false):oO K (l.take (i+1))=oO K (l.take i)++[pX K o.lh ⟨o.g_,o.gU⟩]:=by
 unfold oO;rw[List.take_add_one,h];simp[b]
theorem Nb{l:List ja}{i:Nat}{o:ja}(h:l[i]?=some o):(l.take (i+1)).any (·.jV)=((l.take i).any (·.jV)||o.jV):=by
 rw[List.take_add_one,h];simp
theorem Pt(K:j8)(l:List ja):(oO K l).length<=l.length:=by
 unfold oO;rw[List.length_map];exact List.length_filter_le ..
theorem UA(bz:zr)(F:ji)(l:SV ja)(O:Ht)(G:Nat)(bA:km O G F)(hl:gx gP 4 O G l)(hc:tQ F.fq)(bn:∀o∈l.l,uv F.fq o)(bp:l.l.length<=1048576):WF ex 27 [.agg (gK F).toArray,l.v] O G (fun v eZ e5=>∃(J:SV fL) (z:Int),v=.tuple ⟨[J.v,.bool (l.l.any (·.jV)),Y z]⟩/\gx fc 2 eZ e5 J/\((z=0/\Yc (oO F.fq l.l) J.l)\/((z=2\/z=10)/\J.l=[]))/\G<=e5/\HE G O eZ):=by
 obtain⟨a1,c2,hR⟩:=hl.shape
 have lU:=hl.2.2
 rw[hR]
 refine wd Tryz.f27 39 [.tmp 4,.tmp 5,.tmp 6] fun hE=>sr<|oB (.agg (gK F).toArray) (gK F) fun zE pC uo=>?_
 have Am:=hE.trans pC nR
 have Ad:=e8 nR (e_ (G))
 refine oN 3<|WP.seq<|sr<|oN 3<|WP.block ?_
 refine mg [2,4,5,11,12,13] (fun m hs ns vs=>∃(gY:Nat) (J:SV fL) (ac:Bool),gY+m=l.l.length/\vs=[pt G 0,J.v,.bool ac,.slice a1 (l.l.length) c2,Y (.ofNat (l.l.length)),Y (.ofNat gY)]/\G+1<=ns/\HE G O hs/\hs.get G=some (.cells (gK F) gi.plain)/\(J.l=oO F.fq (l.l.take gY))/\(ac=(l.l.take gY).any (·.jV))/\(mq fc 2 (G+1) hs ns J)) ?_ (l.l.length) ?_
 ·
  rintro Fc ai e _ ⟨gY,J,ac,bs,rfl,S,K,be,y,af,ad⟩ BU
  have al:=e4 (fb (G)) S
  have u:=e8 Ad S
  have aY:=HE.refl (e) ai
  have ao:=e9 (e)
  refine sr ?_
  refine oq 14 (kL gY l.l.length) fun Fa CW=>WO.nil<|WP.seq<|cq CW (fun br=>?_) (fun br=>?_)
  ·
   refine WP.skip<|WP.seq<|WP.block<|sr ?_
   have aa:gY<l.l.length:=by omega
   refine WO.cons (WC.iy hR hl (gY) y8 li (aa) ?_)
   obtain⟨b,p⟩:=gE aa
   refine WO.cons (WC.ly hR (hl.mono K u) p rZ li<|oA [.bool false,Y 0,Y 0,Y 0] uw fun bB L aM=>?_)
   have aF:=K.trans L u
   have aN:=L.get be al
   have am:=e4 al (e_ (e))
   have aZ:=aY.trans L ao
   have X:=e8 ao (e_ (e))
   have ap:=e8 S (e_ (e))
   have W:=e8 u (e_ (e))
   refine oS e (0) (.agg (gP b).toArray) (gP b) (gP b) li rfl rfl aM fun aX ag ae aV=>?_
   have C:=aF.trans ag om
   have aj:=aZ.trans ag om
   have E:=(aV G om).trans aN
   refine WO.nil<|WP.seq<|sr<|oX 1 ?_
   obtain⟨bh,bj,bq⟩:=@nb (b.jV) (b.jV=true) (by first|done|exact gf)
   refine oZ e 0 (.bool bh) w8 ae (by rw[bj];rfl)<|WO.nil<|cq bq (fun A=>?_) (fun A=>?_)
   ·
    refine sr<|oN 1<|WP.exit<|WP.region<|ov 30 (Y (.ofNat (gY+1))) ?_ (fun _ _ _=>by rw[<-gM (show gY+1<9223372036854775808 by omega)];kernel_rfl)
    refine oN 1<|⟨l.l.length-(gY+1),om,rfl,rfl,gY+1,J,true,om,U,?_,?_,?_,?_,?_,?_⟩
    · exact ap
    · exact C
    · exact E
    · rw[WS p A];exact y
    · rw[Nb p,A,Bool.or_true]
    · exact ad.mono aj X
   ·
    refine WP.skip<|sr<|oX 1<|WO.cons (WC.im G 0 (jc F.fq) U xK vM E rfl<|WO.cons (WC.im e (0) (gP b) U rZ li ae rfl<|WO.cons (WC.call 23 62 ([.agg (jc F.fq).toArray,.agg (gP b).toArray]) kf ((QM F.fq b aX (e+1) (bA.fq.mono C W) hc (bn _ (cs p)) (gy.2 A)).mono ?_))))
    rintro _ bC j ⟨rfl,B,M⟩
    have aG:=C.trans M W
    have aO:=M.get E am
    have an:=e4 am B
    have a6:=aj.trans M X
    have aq:=e8 X B
    have bf:=e8 ap B
    have ak:=e8 W B
    refine oX 3<|oA [Y 0,Y 0] mY fun bD N aP=>?_
    have aH:=aG.trans N ak
    have aQ:=N.get aO an
    have bd:=e4 an (e_ (j))
    have a7:=a6.trans N aq
    have ar:=e8 aq (e_ (j))
    have bg:=e8 bf (e_ (j))
    have bc:=e8 ak (e_ (j))
    refine oS j (0) (.agg (fc (pX F.fq b.lh ⟨b.g_,b.gU⟩)).toArray) (fc (pX F.fq b.lh ⟨b.g_,b.gU⟩)) (fc (pX F.fq b.lh ⟨b.g_,b.gU⟩)) gZ rfl rfl aP fun bE ah aR aW=>?_
    have aI:=aH.trans ah om
    have a8:=a7.trans ah om
    have aS:=(aW G om).trans aQ
    refine oN 1<|WP.region<|oX 1<|WO.cons (WC.im j (0) (fc (pX F.fq b.lh ⟨b.g_,b.gU⟩)) U kn gZ aR rfl<|oL [Y ((pX F.fq b.lh ⟨b.g_,b.gU⟩).g_),Y ((pX F.fq b.lh ⟨b.g_,b.gU⟩).gU)] fun bG R aT=>?_)
    have aJ:=aI.trans R bc
    have aU:=R.get aS bd
    have a_:=a8.trans R ar
    have aC:=e8 ar (e_ (j+1))
    have aD:=e8 bg (e_ (j+1))
    have bt:J.l.length<=gY:=by rw[y];exact e8 (Pt _ _) (by simp;omega)
    obtain⟨inf,pq,vu⟩:=Bx
    refine WO.cons (WC.CO (enc:=fc) (J:=J) (pX F.fq b.lh ⟨b.g_,b.gU⟩) rfl U U (ad.mono a_ aC) (tU _) aT rfl pn gZ mY pq rfl rfl vu om om rfl ?_)
    rintro bx jq oT aK yb tX bk
    have av:=aJ.trans tX (e_ G)
    have ay:=(tX _ (fb G)).trans aU
    have aE:=e8 aD yb
    refine oN 1<|WP.region<|ov 30 (Y (.ofNat (gY+1))) ?_ (fun _ _ _=>by rw[<-gM (show gY+1<9223372036854775808 by omega)];kernel_rfl)
    refine oN 1<|⟨l.l.length-(gY+1),om,rfl,rfl,gY+1,bx,ac,om,U,?_,?_,?_,?_,?_,?_⟩
    · exact aE
    · exact av
    · exact ay
    · rw[Ye p (Bool.eq_false_iff.2 A),aK,y]
    · rw[Nb p,(Bool.eq_false_iff.2 A),Bool.or_false];exact af
    · exact bk
  ·
   refine WP.exit<|sr<|oX 1 ?_
   have hT:l.l.take gY=l.l:=fy om
   rw[hT]at y af
   have ax:J.l.length<=1048576:=by rw[y];exact e8 (Pt _ _) bp
   refine WO.cons (WC.call 33 40 ([J.v]) kf ((QK bz J ai (e) (ad.ok (tU _) om) ax).mono ?_))
   rintro _ bu bw ⟨⟨ab,au,rfl,aL,bl⟩,aA,az⟩
   have aw:=K.trans az u
   have aB:=e8 u aA
   refine oN 5<|sr<|oW 6 ⟨rfl,rfl,[ab.v,.bool ac,Y au],U,?_⟩
   exact⟨ab,au,by rw[af];rfl,aL,by rw[<-y];exact bl,aB,aw⟩
 ·
  exact⟨0,⟨.slice none 0 0,[]⟩,false,om,U,e9 _,Am,uo,(by rw[List.take_zero];rfl),(by simp),mq.nil⟩
end
end Sw
namespace Sw
noncomputable section
open Go Go.Proofs Go.RowKit
set_option maxRecDepth 100000
set_option maxHeartbeats 1600000
theorem mf.qt{L:List Nat}{O:Ht}{G:Nat}{x:ic}(h:mf (jW L O) G x):mf O G x:=⟨h.lq.qt,h.fQ.1.qt,fun y hy=>(h.fQ.2 y hy).qt⟩
theorem nZ.qt{L:List Nat}{O:Ht}{G:Nat}{x:j8}(h:nZ (jW L O) G x):nZ O G x:=⟨h.fp.qt,h.gz.1.qt,fun y hy=>(h.gz.2 y hy).qt⟩
theorem km.qt{L:List Nat}{O:Ht}{G:Nat}{x:ji}(h:km (jW L O) G x):km O G x:=⟨h.fq.qt,h.gb.qt,h.e6.1.qt,fun y hy=>(h.e6.2 y hy).qt⟩
def AX(w:Nat)(x:ic):Prop:=∀o,x.fQ.l[w]?=some o->o.l=[]
theorem IC{F:ji}{w:Nat}:(¬∃x∈F.e6.l,AX w x)↔q_ F w:=by
 unfold q_
 constructor
 · intro h r hr
   exact Classical.byContradiction fun k=>h ⟨r,hr,fun o b=>Classical.byContradiction fun h0=>k ⟨o,b,h0⟩⟩
 · rintro h ⟨x,hx,k⟩
   obtain⟨o,b,h0⟩:=h x hx
   exact h0 (k o b)
def vk(F:ji)(n:Nat):List Nat:=(List.range n).filter fun w=>@decide (q_ F w) (Classical.propDecidable _)
theorem WT{F:ji}{w:Nat}(h:q_ F w):vk F (w+1)=vk F w++[w]:=by
 unfold vk;rw[List.range_succ,List.filter_append];simp[h]
theorem UB{F:ji}{w:Nat}(h:¬q_ F w):vk F (w+1)=vk F w:=by
 unfold vk;rw[List.range_succ,List.filter_append];simp[h]
theorem UC(x:ic)(w b:Nat)(O:Ht)(G:Nat)(hx:mf O G x)(hb:O.get b=some (.cells [Y (.ofNat w)] gi.plain))(jA:b<G):WF ex 60 [.agg (iV x).toArray,pt b 0] O G (fG G O (ga (AX w x))):=by
 refine wd Tryz.f60 18 [.tmp 3] fun hE=>sr<|oB (.agg (iV x).toArray) (iV x) fun jq iC hU=>?_
 have kW:=hE.trans iC
 have B:=iC.get hb jA
 refine oN 1<|sr<|oZ b (0) (Y (.ofNat w)) ft B rfl<|oX 1 ?_
 obtain⟨y,z,j⟩:=hx.fQ.1.shape
 have K:=hx.fQ.1.2.2
 refine oZ G (0+2) (.slice y (x.fQ.l.length) z) ql hU (by rw[<-j];rfl)<|oX 1 ?_
 refine oq 8 (XY x.fQ.l.length w) fun nu rM=>oX 1<|gF 9 nu (pt G (0+2))<|nF 9 nu G (0+2) (.slice y (x.fQ.l.length) z) ql hU (by rw[<-j];rfl)<|nF 9 nu b (0) (Y (.ofNat w)) ft B rfl ?_
 have p:(!nu)=true->w<x.fQ.l.length:=fun h=>by obtain rfl:nu=false:=(by simpa using h);have L:¬(((x.fQ.l.length:Nat):Int)<=((w:Nat):Int)):=(fun k=>absurd ((rM).2 k) (by decide));omega
 refine xJ 9 nu (pt (fW y) (0+(w)*1)) (by rintro rfl;exact WC.iy j hx.fQ.1 (w) tT sv ((p rfl)) rfl) ?_
 obtain⟨e,m⟩:∃F,(!nu)=true->x.fQ.l[w]?=some F:=⟨(x.fQ.l[w]?).getD default,fun h=>by rw[List.getElem?_eq_getElem (by obtain rfl:nu=false:=(by simpa using h);exact(p rfl))];rfl⟩
 have u:=fun(a0:¬(((x.fQ.l.length:Nat):Int)<=((w:Nat):Int)))=>m (by first|(rw[show nu=false from Bool.eq_false_iff.2 (fun k=>a0 ((rM).1 k))];rfl)|rw[show nu=false from Bool.eq_false_iff.2 (fun k=>a0 ((rM).1 k))])
 obtain⟨a17,A,E⟩:∃a c,(!nu)=true->e.v=.slice a e.l.length c:=by
  cases hb:(!nu)with
  |true=>obtain rfl:nu=false:=(by simpa using hb);obtain⟨a,c,h⟩:=(hx.fQ.2 e (cs (m rfl))).shape;exact⟨a,c,fun _=>h⟩
  |false=>exact⟨none,0,fun h=>by cases h⟩
 refine xJ 9 nu (.slice a17 (e.l.length) A) (by rintro rfl;exact WC.lz (.slice a17 (e.l.length) A) j (hx.fQ.1.mono kW nR) (m rfl) (by rw[<-(E rfl)];rfl) tR rfl)<|gF 9 nu (Y (.ofNat (e.l.length))) ?_
 refine nm 9 nu (vK e.l.length 0) fun yr Fg=>?_
 refine mz 17 (nO rM Fg) fun sw vN=>oW 1 ⟨rfl,rfl,[.bool sw],U,?_⟩
 refine⟨⟨sw,rfl,?_⟩,od,kW⟩
 rw[vN]
 constructor
 · rintro C o h1
   have hw:=(fe.1 h1).1
   rcases C with C|C
   · first|omega|(dsimp only;omega)
   · have h3:=u om
     rw[h3]at h1;cases h1
     exact fP om
 · intro J
   by_cases hw:w<x.fQ.l.length
   · have h3:=u om
     have h4:=J _ h3
     exact .inr (by rw[h4];rfl)
   · exact .inl om
theorem OA(F:ji)(O:Ht)(G:Nat)(e:km O G F):WF ex 26 [.agg (gK F).toArray] O G (fun v eZ e5=>∃b,v=.func (.func 59) #[] #[pt b 0]/\eZ.get b=some (.cells (gK F) gi.plain)/\b<e5/\G<=b/\G<=e5/\HE G O eZ):=by
 refine wd Tryz.f26 4 [.tmp 2] fun hE=>sr<|oB (.agg (gK F).toArray) (gK F) fun jq iC hU=>?_
 refine oN 1<|sr<|oW 2 ⟨rfl,rfl,[.func (.func 59) #[] #[pt G 0]],U,?_⟩
 exact⟨_,rfl,hU,(fb (G)),om,od,(hE.trans iC)⟩
theorem K_(F:ji)(y:Value)(L:List Nat)(z:Nat)(Inv:(Nat->Prop)->List Nat->Ht->Nat->Prop)(Stop:Ht->Nat->Prop)(ac:Nat->Prop)(ay:ac z)(O:Ht)(G:Nat)(M:km (jW L O) G F)(K:Ht)(o:Nat)(ae:K.get z=some (.cells (gK F) gi.plain))(ax:z<o)(h1:G<=o)(aw:HE G (jW L O) (jW L K))(aE:Inv ac [] K o)(hm:∀p l a b c d,Inv p l a b->HE b a c->b<=d->Inv (fun q=>p q\/(b<=q/\q<d)) l c d)(hs:∀p w,q_ F w->w<=F.gb.l.length->∀a b,o<=b->HE G (jW L O) (jW L a)->Inv p (vk F w) a b->WV ex y [Y (.ofNat w)] a b (fun v c d=>b<=d/\HE G (jW L a) (jW L c)/\(∀q,q<b->p q->c.get q=a.get q)/\∃t:Bool,v=.bool t/\(t=true->Inv p (vk F w++[w]) c d)/\(t=false->Stop c d))):WF ex 59 [y,pt z 0] K o (fun _ c d=>o<=d/\HE G (jW L O) (jW L c)/\((∃p,Inv p (vk F (F.gb.l.length+1)) c d)\/Stop c d)):=by
 refine wb ⟨Tryz.f59.body.getD .skip,25,[]⟩<|sr<|oX 1 ?_
 obtain⟨a1,c2,hR⟩:=M.gb.shape
 have lU:=M.gb.2.2
 refine oZ z (0+2) (.slice a1 (F.gb.l.length) c2) xL ae (by rw[<-hR];rfl)<|oX 1<|ov 8 (Y (.ofNat (F.gb.l.length+1))) ?_ (fun _ _ _=>by rw[<-gM (show F.gb.l.length+1<9223372036854775808 by omega)];kernel_rfl)
 refine oN 1<|WP.block ?_
 refine mg [0,1,8,9] (fun m hs ns vs=>∃(fR:Nat),fR+m=(F.gb.l.length+1)/\vs=[y,pt z 0,Y (.ofNat (F.gb.l.length+1)),Y (.ofNat fR)]/\o<=ns/\HE G (jW L O) (jW L hs)/\hs.get z=some (.cells (gK F) gi.plain)/\(∃p:Nat->Prop,p z/\Inv p (vk F fR) hs ns)/\(o<=ns)) ?_ ((F.gb.l.length+1)) ?_
 ·
  rintro xM p_ iY _ ⟨fR,ui,rfl,oF,jl,aq,R,aL⟩ uj
  have an:=e4 ax oF
  refine sr ?_
  refine oq 10 (kL fR (F.gb.l.length+1)) fun aJ az=>WO.nil<|WP.seq<|cq az (fun aB=>?_) (fun aB=>?_)
  ·
   refine WP.skip<|WP.seq<|WP.block<|sr<|oX 1<|oA [Y 0] AV fun aG uk aj=>?_
   have ao:=e4 an (e_ (iY))
   refine oS iY (0) (Y (.ofNat fR)) [Y (.ofNat fR)] [Y (.ofNat fR)] kp rfl rfl aj fun vO sO uL am=>?_
   have C:=(jl.trans (uk.jW (l:=L))).trans (sO.jW (l:=L))
   have X:=(am z om).trans (uk.get aq)
   refine WO.nil<|sr<|oN 2<|sr<|oX 1 ?_
   obtain⟨a39,au,aa⟩:=M.e6.1.shape
   have aC:=M.e6.1.2.2
   refine oZ z (0+3) (.slice a39 (F.e6.l.length) au) nX X (by rw[<-aa];rfl)<|oX 1<|WO.cons (WC.call 16 61 ([F.e6.v,.func (.func 60) #[] #[pt iY 0]]) (fun _ _ _=>by(try rw[aa]);kernel_rfl) ((xu (A:=AX (fR)) F.e6 60 #[pt iY 0] vO (iY+1) ((M.mono C).qt.e6) (fun i x hx eZ e5 hn he=>UC x (fR) iY eZ e5 ((((M.mono C).qt.e6.2 x (cs hx))).mono he hn) (he.get uL) (e4 (fb (iY)) hn))).mono ?_))
   rintro _ u j ⟨⟨aK,rfl,aA⟩,al,B⟩
   have E:=C.trans (B.jW (l:=L))
   have ap:=e4 ao al
   refine oq 17 (nN aA) fun e af=>oX 1<|gT 18 e (y)<|lu 18 e iY (0) (Y (.ofNat fR)) ft (B.get uL) rfl ?_
   obtain⟨p,S,av⟩:=R
   have ad:Inv (fun q=>p q\/(iY<=q/\q<j)) (vk F fR) u (j):=hm _ _ _ _ _ _ av ((((HE.refl (iY) p_).trans uk).trans sO).trans B) om
   have W:e=true↔¬(∃x∈F.e6.l,(AX (fR)) x):=af
   have J:e=true↔q_ F fR:=W.trans IC
   have aM:=E
   refine WO.cons (WC.gq (e) (fun v c d=>∃t:Bool,v=(bif e then .bool t else undef)/\j<=d/\HE G (jW L u) (jW L c)/\(∀q,q<j->(fun q=>p q\/(iY<=q/\q<j)) q->c.get q=Tr.get u q)/\(e=true->t=true->Inv (fun q=>p q\/(iY<=q/\q<j)) (vk F fR++[fR]) c d)/\(e=true->t=false->Stop c d)/\(e=false->c=u/\d=j)) (.bool e) (g:=fV (.tmp 18)) rfl U (by cases e<;>rfl) (fun hb=>?_) (fun hb=>⟨false,by rw[hb];rfl,e9 _,HE.refl _ _,fun _ _ _=>rfl,fun k=>absurd (hb.symm.trans k) (by decide),fun k=>absurd (hb.symm.trans k) (by decide),fun _=>⟨rfl,rfl⟩⟩) ?_)
   · have hw:=J.1 hb
     obtain rfl:e=true:=(by simpa using hb)
     refine WC.Qz 21 y [Y (.ofNat fR)] kf ((hs (fun q=>p q\/(iY<=q/\q<j)) fR hw om u (j) om E ad).mono ?_)
     rintro v c d ⟨h1,D,h3,t,aI,h4,aD⟩
     exact⟨_,_,_,rfl,t,aI,h1,D,h3,fun _=>h4,fun _=>aD,fun h=>absurd h (by decide)⟩
   rintro _ aH ab ⟨t61,rfl,aF,ak,M7,ag,ai,ah⟩
   have N:=E.trans ak
   have ar:t61=true↔t61=true:=gf
   refine qu 18 e (nN ar) fun Ak ID=>?_
   refine mT 23 (nA af ID) fun Pu C1=>WO.nil<|cq C1 (fun tD=>?_) (fun tD=>?_)
   ·
    refine WP.ret ⟨rfl,rfl,[],U,?_⟩
    exact⟨(show o<=ab by omega),N,.inr (ai (W.2 tD.1) (gy.2 tD.2))⟩
   ·
    refine WP.skip<|WP.region<|ov 24 (Y (.ofNat (fR+1))) ?_ (fun _ _ _=>by rw[<-gM (show fR+1<9223372036854775808 by omega)];kernel_rfl)
    refine oN 1<|⟨(F.gb.l.length+1)-(fR+1),om,rfl,rfl,fR+1,om,U,?_,?_,?_,?_,?_⟩
    · exact od
    · exact N
    · exact((M7 _ ap (.inl S)).trans (B.get X))
    · by_cases hw:q_ F fR
      · rw[WT hw];exact⟨_,.inl S,ag (J.2 hw) (fg.1 fun k=>tD ⟨W.1 (J.2 hw),k⟩)⟩
      · obtain⟨h3,h4⟩:=ah (Bool.eq_false_iff.2 fun k=>hw (J.1 k))
        rw[UB hw,h3,h4];exact⟨_,.inl S,ad⟩
    · show o<=ab;omega
  ·
   refine WP.exit<|⟨rfl,rfl,[],U,?_⟩
   have hi:fR=F.gb.l.length+1:=by omega
   rw[hi]at R
   exact⟨(show o<=iY by omega),jl,.inl (R.imp fun _ h=>h.2)⟩
 ·
  exact⟨0,om,U,e9 _,aw,ae,(⟨_,ay,aE⟩),nR⟩
end
end Sw
