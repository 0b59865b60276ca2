/- A part of the proof that the law returns true for every input that its row speaks of. No condition is added. -/
import Derived.Test.YtecbgehgkpgbmaaGreatDoorSwAH
import Derived.Test.YtecbgehgkpgbmaaGreatDoorSwAG
import Derived.Test.YtecbgehgkpgbmaaGreatDoorSwAF
namespace Sw
noncomputable section
open Go Go.Proofs Go.RowKit
set_option maxRecDepth 100000
set_option maxHeartbeats 1600000
def tS(s:fT):Prop:=-70368744177664<=s.h_/\s.hQ<=70368744177664/\s.h_<=s.hQ
def y5:Prop:=(∀(hp:Ht) (nx:Nat),WF ex 209 [.slice none 0 0,.func (.func 117) #[] #[]] hp nx (fun _ fe fg=>fe=hp/\fg=nx))/\
 ∀(L:List fT) (B b gr:Nat) (hp:Ht) (nx:Nat),0<L.length->L.length<=1048576->td fo 2 B b gr hp nx L->
  WF ex 209 [.slice (some ⟨b,0,none⟩) L.length L.length,.func (.func 117) #[] #[]] hp nx (fun _ fe fg=>fg=nx/\td fo 2 B b gr fe fg (wO L)/\HE B hp fe)
def Touch(a b:fT):Prop:=a=b\/b.h_<=gD .i64 (a.hQ+1)
def both(a b:fT):fT:=⟨a.h_,(bif ru (a.hQ) (b.hQ)then(b.hQ)else(a.hQ))⟩
open Classical in
def th(J:List fT)(x:fT):List fT:=match J[J.length-1]? with
 |none=>J++[x]
 |some y=>if Touch y x then J.set (J.length-1) (both y x)else J++[x]
def jn(l:List fT):List fT:=l.foldl th []
theorem Fy{l:List fT}{i:Nat}{x:fT}(h:l[i]?=some x):jn (l.take (i+1))=th (jn (l.take i)) x:=by
 unfold jn
 rw[List.take_add_one,h,List.foldl_append];rfl
theorem RL(J:List fT)(x:fT):(th J x).length<=J.length+1:=by
 unfold th
 split
 · simp
 · split
   · simp
   · simp
theorem MJ(l:List fT)(i:Nat):(jn (l.take i)).length<=i:=by
 induction i with
 |zero=>simp[jn]
 |succ i ih=>
  cases h:l[i]? with
  |none=>rw[List.take_add_one,h];simp;omega
  |some x=>rw[Fy h];have:=RL (jn (l.take i)) x;omega
def wa(l:List fT):List fT:=jn (wO l)
theorem Jn(l:List fT):(wO l).length=l.length:=List.length_mergeSort ..
theorem Kh(l:List fT):(wa l).length<=l.length:=by
 have:=MJ (wO l) (wO l).length
 rw[List.take_length,Jn]at this
 exact this
def Ah(W:List (List fT)):Prop:=(∀y∈W,y.length<=4096)/\∀y∈W,∀s∈y,tS s
def Xq(P:Prop):Value->Prop:=fun v=>∃z:Int,v=iN z/\(z=0\/z=10\/z=2)/\(z=0->P)/\(P->z=0)
theorem N8(x y:fT):xg ex.T 12 104 (.agg (fo x).toArray) (.agg (fo y).toArray)=(bif (km x.h_ y.h_)then(bif (km x.hQ y.hQ)then(some true)else(some false))else(some false)):=by kernel_rfl
theorem Ga(x y:fT):((km x.h_ y.h_)&&(km x.hQ y.hQ))=true↔x=y:=by
 constructor
 · intro h;cases x;cases y;simp only[Bool.and_eq_true,lH,beq_iff_eq,qU]at h;obtain h:=h;simp_all
 · rintro rfl;simp only[Bool.and_eq_true,lH,beq_iff_eq,qU,and_self]
theorem Gb(x y:fT):xg ex.T 12 104 (.agg (fo x).toArray) (.agg (fo y).toArray)=some ((km x.h_ y.h_)&&(km x.hQ y.hQ)):=by
 rw[N8]
 (cases(km x.h_ y.h_))<;>(cases(km x.hQ y.hQ))<;>rfl
theorem N9(xo yo:Operand)(x y:fT){c:Bool}(e:c=@decide (x=y) (Classical.propDecidable _)):wy ex.T .eql 104 xo yo (.agg (fo x).toArray) (.agg (fo y).toArray)=some (.bool c):=by
 have h1:wy ex.T .eql 104 xo yo (.agg (fo x).toArray) (.agg (fo y).toArray)=(xg ex.T 12 104 (.agg (fo x).toArray) (.agg (fo y).toArray)).map .bool:=by kernel_rfl
 have h2:((km x.h_ y.h_)&&(km x.hQ y.hQ))=c:=by rw[e,Bool.eq_iff_iff,Ga];exact(@decide_eq_true_iff _ (Classical.propDecidable _)).symm
 rw[h1,Gb,h2];rfl
theorem Gc(xo yo:Operand)(x y:fT){c:Bool}(e:c=@decide (x≠y) (Classical.propDecidable _)):wy ex.T .neq 104 xo yo (.agg (fo x).toArray) (.agg (fo y).toArray)=some (.bool c):=by
 have h1:wy ex.T .neq 104 xo yo (.agg (fo x).toArray) (.agg (fo y).toArray)=(xg ex.T 12 104 (.agg (fo x).toArray) (.agg (fo y).toArray)).map fun b=>.bool (!b):=by kernel_rfl
 have h2:(!((km x.h_ y.h_)&&(km x.hQ y.hQ)))=c:=by rw[e,Bool.eq_iff_iff,Bool.not_eq_true',<-Bool.not_eq_true,Ga];exact(@decide_eq_true_iff _ (Classical.propDecidable _)).symm
 rw[h1,Gb];show some (Value.bool (!((km x.h_ y.h_)&&(km x.hQ y.hQ))))=_;rw[h2]
theorem jT:ex.T.agg 104=some true:=kr
theorem nM:ex.T.agg 48=some false:=kr
theorem gQ:ex.T.size 104=some 2:=kr
theorem qC:ex.T.size 48=some 1:=kr
theorem nk:ex.T.ji 48=some (.slice 104):=kr
theorem Az:ex.T.ji 99=some (.slice 48):=kr
theorem mM:ex.T.zero 104=some (.agg ⟨[iN 0,iN 0]⟩):=kr
theorem EM{p:Prop}(h:p:=by
 obtain⟨a1,c2,hR⟩:=hK.shape
 have lW:=hK.2.2
 rw[hR]
 refine F7 mn fun hE=>sr<|oN 1<|WP.seq<|sr<|oN 3<|WP.block ?_
 refine my [0,1,7,8] (fun m hs ns vs=>∃(fV:Nat),fV+m=K.l.length/\vs=[.slice a1 (K.l.length) c2,.func (.func f) #[] b,iN (.ofNat (K.l.length)),iN (.ofNat fV)]/\nx<=ns/\HE (nx) hp hs/\(∀(j:Nat) (y:_),j<fV->K.l[j]?=some y->¬A y)) ?_ (K.l.length) ?_
 ·
  rintro xn pT ja _ ⟨fV,tP,rfl,oe,jm,hinv⟩ tQ
  have j2:=hE.trans jm
  refine sr ?_
  refine oq 9 (kV fV K.l.length) fun nC rH=>WO.nil<|WP.seq<|cq rH (fun wQ=>?_) (fun wQ=>?_)
  ·
   refine WP.skip<|WP.seq<|WP.block<|sr<|oN 2<|sr<|oX 3 ?_
   have mY:fV<K.l.length:=by omega
   refine WO.cons (WC.iy hR hK (fV) mZ oU (mY) ?_)
   obtain⟨lu,ku⟩:=gE mY
   refine WO.cons (WC.ly hR (hK.mono j2 nR) ku sO oU<|WO.cons (WC.call 16 f ((.agg (pc lu).toArray)::b.toList) kf ((hf fV lu ku pT (ja) om j2).mono ?_)))
   rintro _ Jl TL ⟨⟨EJ,rfl,Cy⟩,TM,tR⟩
   refine WO.nil<|cq Cy (fun wv=>?_) (fun wv=>?_)
   ·
    refine sr<|oW 2 ⟨rfl,rfl,[iN (.ofNat fV)],kr,?_⟩
    exact⟨.inr ⟨fV,lu,rfl,ku,wv,hinv⟩,od,(j2.trans tR)⟩
   ·
    refine WP.skip<|WP.region<|ov 18 (iN (.ofNat (fV+1))) ?_ (fun _ _ _=>by rw[<-gU (show fV+1<9223372036854775808 by omega)];kernel_rfl)
    refine oN 1<|⟨K.l.length-(fV+1),om,rfl,rfl,fV+1,om,kr,?_,?_,?_⟩
    · exact od
    · exact(jm.trans tR oe)
    · intro j y hj hy;rcases Nat.lt_succ_iff_lt_or_eq.1 hj with hj|rfl;exact hinv j y hj hy;rw[ku]at hy;cases hy;exact wv
  ·
   refine WP.exit<|sr<|oW 1 ⟨rfl,rfl,[iN (-1)],kr,?_⟩
   refine⟨.inl ⟨rfl,fun y hy=>?_⟩,od,j2⟩
   obtain⟨j,hj⟩:=List.getElem?_of_mem hy
   exact hinv j y (by have:=(List.getElem?_eq_some_iff.1 hj).1;omega) hj
 ·
  exact⟨0,om,kr,Nat.le_refl _,HE.refl _ _,(fun j y h=>absurd h (Nat.not_lt_zero _))⟩):p:=h
theorem Jo{A:fT->Prop}(K:SV fT)(f:FuncId)(b:Array Value)(hp:Ht)(nx:Nat)(hK:gA fo 2 hp nx K)(hf:∀(i:Nat) (x:fT),K.l[i]?=some x->∀(fe:Ht) (fg:Nat),nx<=fg->HE nx hp fe->WF ex f ((.agg (fo x).toArray)::b.toList) fe fg (fO fg fe (gk (A x)))):WF ex 74 [K.v,.func (.func f) #[] b] hp nx (fO nx hp (pM K.l A)):=by
 have mn:=fF (e:=ex) 74 Tryz.f74 19 [.tmp 4]
 have mZ:=@nk
 have oU:=@gQ
 have sO:=@jT
 let pc:=fo
 exact EM
theorem FL{A:fT->Prop}(K:SV fT)(f:FuncId)(b:Array Value)(hp:Ht)(nx:Nat)(hK:gA fo 2 hp nx K)(hf:∀(i:Nat) (x:fT),K.l[i]?=some x->∀(fe:Ht) (fg:Nat),nx<=fg->HE nx hp fe->WF ex f ((.agg (fo x).toArray)::b.toList) fe fg (fO fg fe (gk (A x)))):WF ex 38 [K.v,.func (.func f) #[] b] hp nx (fO nx hp (gk (∃x∈K.l,A x))):=by
 obtain⟨a1,c2,hR⟩:=hK.shape
 have lW:=hK.2.2
 rw[hR]
 refine wd Tryz.f38 9 [.tmp 4] fun hE=>sr<|oN 1<|sr<|oX 2<|WO.cons (WC.call 7 74 ([K.v,.func (.func f) #[] b]) (fun _ _ _=>by(try rw[hR]);kernel_rfl) ((Jo K f b hp (nx) hK hf).mono ?_))
 rintro RG DP Ie ⟨Bl,ME,qm⟩
 obtain⟨z8,rfl,RH⟩:∃z:Int,RG=iN z/\(0<=z↔∃x∈K.l,A x):=pM.sign Bl
 obtain⟨ow,j,sj⟩:=qo 0 z8
 refine ob 8 j<|oW 1 ⟨rfl,rfl,[.bool ow],kr,?_⟩
 exact⟨⟨ow,rfl,sj.trans RH⟩,od,(hE.trans qm)⟩
theorem EN(s:fT)(hp:Ht)(nx:Nat):WF ex 67 [.agg (fo s).toArray] hp nx (fO nx hp (Ml 10 (tS s))):=by
 refine wd Tryz.f67 18 [.tmp 2] fun hE=>sr<|oB (.agg (fo s).toArray) (fo s) fun jN iY iA=>?_
 have l_:=hE.trans iY
 refine oN 1<|WP.seq<|sr<|oX 1<|oZ nx 0 (iN s.h_) fP iA rfl ?_
 refine oq 5 (nz s.h_ (-70368744177664)) fun o U=>oX 1<|gF 6 o (pt nx (0+1))<|pj 6 o nx (0+1) (iN s.hQ) fP iA rfl ?_
 refine mX 6 o (nz 70368744177664 s.hQ) fun ad aa=>?_
 refine mj 10 (nO U aa) fun j I=>oX 1<|gF 11 j (pt nx 0)<|pj 11 j nx 0 (iN s.h_) fP iA rfl<|gF 11 j (pt nx (0+1))<|pj 11 j nx (0+1) (iN s.hQ) fP iA rfl ?_
 refine mX 11 j (nz s.hQ s.h_) fun ab J=>?_
 refine mj 17 (nO I J) fun ow sj=>WO.nil<|cq sj (fun R=>?_) (fun R=>?_)
 ·
  refine sr<|oW 1 ⟨rfl,rfl,[iN 10],kr,?_⟩
  refine⟨⟨10,rfl,⟨fun h=>absurd h (by decide),fun C=>?_⟩,.inr rfl⟩,od,l_⟩
  exact absurd C (by unfold tS;omega)
 ·
  refine WP.skip<|sr<|oW 1 ⟨rfl,rfl,[iN 0],kr,?_⟩
  refine⟨⟨0,rfl,⟨fun _=>?_,fun _=>rfl⟩,.inl rfl⟩,od,l_⟩
  unfold tS;omega
theorem KN(s:fT)(hp:Ht)(nx:Nat):WF ex 114 [.agg (fo s).toArray] hp nx (fO nx hp (gk (¬tS s))):=by
 refine wd Tryz.f114 6 [.tmp 2] fun hE=>sr<|oB (.agg (fo s).toArray) (fo s) fun jN iY iA=>?_
 refine oN 1<|sr<|WO.cons (WC.jb nx (0) (fo s) kr jT gQ iA rfl<|WO.cons (WC.call 4 67 ([.agg (fo s).toArray]) kf ((EN s jN (nx+1)).mono ?_)))
 rintro _ U aa ⟨⟨z12,rfl,C,J⟩,R,o⟩
 refine oq 5 (qW z12 0) fun j I=>oW 1 ⟨rfl,rfl,[.bool j],kr,?_⟩
 refine⟨⟨j,rfl,?_⟩,od,((hE.trans iY).trans o)⟩
 rw[I];exact not_congr C
theorem zI(W:SV (SV fT))(hp:Ht)(nx:Nat)(o:jt lG 1 (fun hp nx y=>gA fo 2 hp nx y) hp nx W):WF ex 64 [W.v] hp nx (fO nx hp (Xq (Ah (W.l.map (·.l))))):=by
 obtain⟨a1,c2,hR⟩:=o.1.shape
 have lW:=o.1.2.2
 rw[hR]
 refine wd Tryz.f64 17 [.tmp 2] fun hE=>sr<|oN 1<|WP.seq<|sr<|oN 3<|WP.block ?_
 refine my [5,6,7] (fun m hs ns vs=>∃(fV:Nat),fV+m=W.l.length/\vs=[.slice a1 (W.l.length) c2,iN (.ofNat (W.l.length)),iN (.ofNat fV)]/\nx<=ns/\HE (nx) hp hs/\(∀(j:Nat) (y:SV fT),j<fV->W.l[j]?=some y->y.l.length<=4096/\∀s∈y.l,tS s)) ?_ (W.l.length) ?_
 ·
  rintro xn pT ja _ ⟨fV,tP,rfl,oe,jm,C⟩ tQ
  have j2:=hE.trans jm
  refine sr ?_
  refine oq 8 (kV fV W.l.length) fun nC rH=>WO.nil<|WP.seq<|cq rH (fun wQ=>?_) (fun wQ=>?_)
  ·
   refine WP.skip<|WP.seq<|WP.block<|sr ?_
   have mY:fV<W.l.length:=by omega
   refine WO.cons (WC.iy hR o.1 (fV) Az qC (mY) ?_)
   obtain⟨lu,ku⟩:=gE mY
   obtain⟨aa,xW,J⟩:=(o.2 lu (List.mem_of_getElem? ku)).shape
   have af:=(o.2 lu (List.mem_of_getElem? ku)).2.2
   refine WO.cons (WC.lz (.slice aa (lu.l.length) xW) hR (o.1.mono j2 nR) ku (by rw[<-J];rfl) nM<|oN 1<|WP.seq<|sr<|oX 2 ?_)
   refine oq 13 (nc 4096 lu.l.length) fun aj ab=>WO.nil<|cq ab (fun ae=>?_) (fun ae=>?_)
   ·
    refine sr<|oW 1 ⟨rfl,rfl,[iN 2],kr,?_⟩
    refine⟨⟨2,rfl,by decide,fun h=>absurd h (by decide),fun h=>?_⟩,od,j2⟩
    exact absurd (h.1 _ (List.mem_map.2 ⟨_,List.mem_of_getElem? ku,rfl⟩)) om
   ·
    refine WP.skip<|sr<|oX 1<|WO.cons (WC.call 15 38 ([lu.v,.func (.func 114) #[] #[]]) (fun _ _ _=>by(try rw[J]);kernel_rfl) ((FL (A:=fun s=>¬tS s) lu 114 #[] pT (ja) ((o.2 lu (List.mem_of_getElem? ku)).mono j2) (fun i x hx fe fg hn he=>KN x fe fg)).mono ?_))
    rintro _ ah ai ⟨⟨ak,rfl,ad⟩,ag,I⟩
    refine WO.nil<|cq ad (fun R=>?_) (fun R=>?_)
    ·
     refine sr<|oW 1 ⟨rfl,rfl,[iN 10],kr,?_⟩
     refine⟨⟨10,rfl,by decide,fun h=>absurd h (by decide),fun h=>?_⟩,od,(j2.trans I)⟩
     obtain⟨s,hs,hn⟩:=R
     exact absurd (h.2 _ (List.mem_map.2 ⟨_,List.mem_of_getElem? ku,rfl⟩) s hs) hn
    ·
     refine WP.skip<|WP.region<|ov 16 (iN (.ofNat (fV+1))) ?_ (fun _ _ _=>by rw[<-gU (show fV+1<9223372036854775808 by omega)];kernel_rfl)
     refine oN 1<|⟨W.l.length-(fV+1),om,rfl,rfl,fV+1,om,kr,?_,?_,?_⟩
     · exact od
     · exact(jm.trans I oe)
     · intro j y hj hy
       rcases Nat.lt_succ_iff_lt_or_eq.1 hj with hj|rfl
       · exact C j y hj hy
       · rw[ku]at hy;cases hy
         exact⟨om,fun s hs=>Classical.not_not.1 fun k=>R ⟨s,hs,k⟩⟩
  ·
   refine WP.exit<|sr<|oW 1 ⟨rfl,rfl,[iN 0],kr,?_⟩
   refine⟨⟨0,rfl,.inl rfl,fun _=>⟨fun y hy=>?_,fun y hy s hs=>?_⟩,fun _=>rfl⟩,od,j2⟩
   · obtain⟨z,U,rfl⟩:=List.mem_map.1 hy
     obtain⟨j,hj⟩:=List.getElem?_of_mem U
     exact(C j z (by have:=(List.getElem?_eq_some_iff.1 hj).1;omega) hj).1
   · obtain⟨z,U,rfl⟩:=List.mem_map.1 hy
     obtain⟨j,hj⟩:=List.getElem?_of_mem U
     exact(C j z (by have:=(List.getElem?_eq_some_iff.1 hj).1;omega) hj).2 s hs
 ·
  exact⟨0,om,kr,Nat.le_refl _,HE.refl _ _,(fun _ _ h=>absurd h (Nat.not_lt_zero _))⟩
theorem TU(a b:fT)(hp:Ht)(nx:Nat):WF ex 118 [.agg (fo a).toArray,.agg (fo b).toArray] hp nx (fO nx hp (gk (Touch a b))):=by
 refine wd Tryz.f118 16 [.tmp 4] fun hE=>sr<|oB (.agg (fo a).toArray) (fo a) fun jN iY iA=>?_
 refine oB (.agg (fo b).toArray) (fo b) fun ae I o=>?_
 have C:=I.get iA
 refine oN 1<|sr<|WO.cons (WC.jb nx (0) (fo a) kr jT gQ C rfl<|WO.cons (WC.jb (nx+1) (0) (fo b) kr jT gQ o rfl ?_))
 obtain⟨j,R,U⟩:=@nb (@decide (a=b) (Classical.propDecidable _)) (a=b) (@decide_eq_true_iff _ (Classical.propDecidable _))
 refine WO.cons (WC.opt (v:=.bool j) 7 (wy ex.T .eql 104 (.tmp 5) (.tmp 6) (.agg (fo a).toArray) (.agg (fo b).toArray)) kf (N9 _ _ a b R)<|oX 1<|gF 8 j (pt (nx+1) 0)<|pj 8 j (nx+1) 0 (iN b.h_) fP o rfl<|gF 8 j (pt nx (0+1))<|pj 8 j nx (0+1) (iN a.hQ) fP C rfl<|gF 8 j (iN (gD .i64 ((a.hQ)+(1)))) ?_)
 refine mX 8 j (qo b.h_ (gD .i64 ((a.hQ)+(1)))) fun ad aa=>?_
 refine mj 15 (nO U aa) fun J ab=>oW 1 ⟨rfl,rfl,[.bool J],kr,?_⟩
 refine⟨⟨J,rfl,?_⟩,od,((hE.trans iY).trans I)⟩
 exact ab
theorem TV(a b:fT)(hp:Ht)(nx:Nat):WF ex 120 [.agg (fo a).toArray,.agg (fo b).toArray] hp nx (fO nx hp (Fv (.agg (fo (both a b)).toArray))):=by
 refine wd Tryz.f120 13 [.cell 4 104] fun hE=>sr<|oB (.agg (fo a).toArray) (fo a) fun jN iY iA=>?_
 refine oB (.agg (fo b).toArray) (fo b) fun ad o C=>?_
 refine oA [iN 0,iN 0] mM fun aa jQ I=>?_
 have j:=jQ.get (o.get iA)
 refine WO.nil<|sr<|oX 1<|oZ nx 0 (iN a.h_) fP j rfl<|oX 1<|oZ nx (0+1) (iN a.hQ) fP j rfl<|oX 1<|oZ (nx+1) (0+1) (iN b.hQ) fP (jQ.get C) rfl<|oX 2<|oS (nx+1+1) (0) (.agg ⟨[iN a.h_,iN ((bif ru (a.hQ) (b.hQ)then(b.hQ)else(a.hQ)))]⟩) [iN a.h_,iN ((bif ru (a.hQ) (b.hQ)then(b.hQ)else(a.hQ)))] [iN a.h_,iN ((bif ru (a.hQ) (b.hQ)then(b.hQ)else(a.hQ)))] gQ rfl rfl I fun ab R J U=>?_
 refine wr ⟨rfl,rfl,[.agg ⟨[iN a.h_,iN ((bif ru (a.hQ) (b.hQ)then(b.hQ)else(a.hQ)))]⟩],(tM (by rw[show(aaj (.tmp 4)).run _=pt (nx+1+1) 0 from by kernel_rfl];exact lF jT gQ J rfl)),?_⟩
 exact⟨rfl,od,((((hE.trans iY).trans o).trans jQ).trans R)⟩
end
end Sw
namespace Sw
noncomputable section
open Go Go.Proofs Go.RowKit
set_option maxRecDepth 100000
set_option maxHeartbeats 1600000
theorem A8:∃i,ex.T.info 104=some i/\i.bytes<=1024:=by
 cases h:ex.T.info 104 with
 |none=>exact absurd (show(ex.T.info 104).isSome=true by kernel_rfl) (by rw[h];decide)
 |some i=>
  refine⟨i,rfl,?_⟩
  have:((ex.T.info 104).map fun i=>Nat.ble i.bytes 1024)=some true:=by kernel_rfl
  rw[h]at this
  exact Nat.le_of_ble_eq_true (Option.some.inj this)
theorem gA.cells{α:Type}{enc:α->List Value}{n:Nat}{hp:Ht}{nx:Nat}{s:SV α}(h:gA enc n hp nx s):s.v.cells.toList=[s.v]:=by
 obtain⟨a,c,e⟩:=h.shape
 rw[e];rfl
theorem tC(l:List fT):∀y∈l,(fo y).length=2:=fun _ _=>rfl
def Xr(K:List fT)(r:sL Tm)(nx:Nat)(i:Nat)(a:Ht)(c:Nat):Prop:=∃J:SV fT,a.get nx=some (.cells [J.v] gl.plain)/\J.l=K.take i/\mf fo 2 (nx+3) a c J/\a.get (nx+2)=some (.loop r)/\a.get (nx+1)=some (.deferred (some []))/\nx+3<=c
def Qj(K:List fT)(f:FuncId)(C:Array Value)(hp:Ht)(nx:Nat):Prop:=∀(y:Value) (Inv:Nat->Ht->Nat->Prop) (o:Ht) (j:Nat),nx<=j->HE nx hp o->Inv 0 o j->(∀i a b c d,Inv i a b->HE b a c->b<=d->Inv i c d)->
 (∀i x,K[i]?=some x->∀a b,j<=b->HE nx hp a->Inv i a b->WV ex y [.agg (fo x).toArray] a b (fun v c d=>v=.bool true/\b<=d/\HE nx a c/\Inv (i+1) c d))->WF ex f (y::C.toList) o j (fun _ c d=>Inv K.length c d/\j<=d/\HE nx hp c)
theorem RM(K:SV fT)(hp:Ht)(nx:Nat)(hK:gA fo 2 hp nx K):WF ex 116 [K.v] hp nx (fun v fe fg=>∃j,v=.func (.func 210) #[] #[pt j 0]/\fe.get j=some (.cells [K.v] gl.plain)/\j<fg/\nx<=fg/\HE nx hp fe):=by
 obtain⟨a1,c2,hR⟩:=hK.shape
 have lW:=hK.2.2
 rw[hR]
 refine wd Tryz.f116 4 [.tmp 2] fun hE=>sr<|oB (.slice a1 (K.l.length) c2) [.slice a1 (K.l.length) c2] fun Bz qm vu=>?_
 refine oN 1<|sr<|oW 2 ⟨rfl,rfl,[.func (.func 210) #[] #[pt nx 0]],kr,?_⟩
 exact⟨_,rfl,vu,(Nat.lt_succ_self (nx)),od,(hE.trans qm)⟩
theorem Qk(K:SV fT)(y:Value)(J:Nat)(Inv:Nat->Ht->Nat->Prop)(hp:Ht)(nx:Nat)(hK:gA fo 2 hp nx K)(ah:hp.get J=some (.cells [K.v] gl.plain))(jz:J<nx)(ae:Ht)(j:Nat)(h1:nx<=j)(aa:HE nx hp ae)(au:Inv 0 ae j)(hm:∀i a b c d,Inv i a b->HE b a c->b<=d->Inv i c d)(hs:∀i x,K.l[i]?=some x->∀a b,j<=b->HE nx hp a->Inv i a b->WV ex y [.agg (fo x).toArray] a b (fun v c d=>v=.bool true/\b<=d/\HE nx a c/\Inv (i+1) c d)):WF ex 210 [y,pt J 0] ae j (fun _ c d=>Inv K.l.length c d/\j<=d/\HE nx hp c):=by
 refine wb ⟨Tryz.f210.body.getD .skip,16,[]⟩<|sr ?_
 obtain⟨a1,c2,hR⟩:=hK.shape
 have lW:=hK.2.2
 refine oZ J (0) (.slice a1 (K.l.length) c2) nM (aa.get ah jz) (by rw[<-hR];rfl)<|oN 2<|WP.block ?_
 refine my [0,5,6,7] (fun m hs ns vs=>∃(fV:Nat),fV+m=K.l.length/\vs=[y,.slice a1 (K.l.length) c2,iN (.ofNat (K.l.length)),iN (.ofNat fV)]/\j<=ns/\HE nx hp hs/\hs.get J=some (.cells [K.v] gl.plain)/\(Inv fV hs ns)/\(j<=ns)) ?_ (K.l.length) ?_
 ·
  rintro xn pT ja _ ⟨fV,tP,rfl,oe,jm,ao,U,aA⟩ tQ
  refine sr ?_
  refine oq 8 (kV fV K.l.length) fun az aq=>WO.nil<|WP.seq<|cq aq (fun ar=>?_) (fun ar=>?_)
  ·
   refine WP.skip<|WP.seq<|WP.block<|sr ?_
   have I:fV<K.l.length:=by omega
   refine WO.cons (WC.iy hR hK (fV) nk gQ (I) ?_)
   obtain⟨o,af⟩:=gE I
   refine WO.cons (WC.ly hR (hK.mono jm nR) af jT gQ<|oA [iN 0,iN 0] mM fun aw C aj=>?_)
   refine oS ja (0) (.agg (fo o).toArray) (fo o) (fo o) gQ rfl rfl aj fun an ab ak al=>?_
   have R:=(jm.trans C).trans ab
   refine WO.nil<|sr<|oX 1<|WO.cons (WC.jb ja (0) (fo o) kr jT gQ ak rfl<|WO.cons (WC.Qa 13 y [.agg (fo o).toArray] kf ((hs _ o af an (ja+1) om R (hm _ _ _ _ _ U (((HE.refl (ja) pT).trans C).trans ab) om)).mono ?_)))
   rintro _ ax ay ⟨rfl,av,ad,ai⟩
   refine oN 1<|WP.cond false kr (fun ag=>by cases ag) (fun ag=>?_)
   refine WP.skip<|WP.region<|ov 15 (iN (.ofNat (fV+1))) ?_ (fun _ _ _=>by rw[<-gU (show fV+1<9223372036854775808 by omega)];kernel_rfl)
   refine oN 1<|⟨K.l.length-(fV+1),om,rfl,rfl,fV+1,om,kr,?_,?_,?_,?_,?_⟩
   · exact od
   · exact(R.trans ad)
   · exact(ad.get ((al J om).trans (C.get ao)) jz)
   · exact ai
   · first|omega|(dsimp only;omega)
  ·
   refine WP.exit<|⟨rfl,rfl,[],kr,?_⟩
   have hi:fV=K.l.length:=by omega
   rw[hi]at U
   exact⟨U,(show j<=ja by omega),jm⟩
 ·
  exact⟨0,om,kr,Nat.le_refl _,aa,(aa.get ah jz),au,nR⟩
theorem ML(K:SV fT)(f:FuncId)(av:Array Value)(hp:Ht)(nx:Nat)(hK:K.l.length<=1048576)(bh:Qj K.l f av hp nx):WF ex 284 [.slice none (0) 0,.func (.func f) #[] av] hp nx (fun v fe fg=>∃J:SV fT,v=J.v/\J.l=K.l/\mf fo 2 nx fe fg J/\nx<=fg/\HE nx hp fe):=by
 refine WF.Yg (fi:=⟨Tryz.f284.body.getD .skip,13,[.tmp 4]⟩) kr kr kr rfl rfl ?_
 have hE:=HE.refl nx hp
 refine sr<|oB (.slice none (0) 0) [.slice none (0) 0] fun jN iY iA=>?_
 have l_:=hE.trans iY nR
 refine oN 1<|WP.seq<|sr<|oN 1<|WP.block<|WP.Mp (.func (.func f) #[] av) kr fun ah R=>?_
 obtain⟨C,ae⟩:∃h:Ht,h=(jN.set (nx+1) (some (.deferred (some [])))).set (nx+1+1) (some (.loop ah)):=⟨_,rfl⟩
 rw[<-ae]
 have bs:C.get (nx+1)=some (.deferred (some [])):=by rw[ae];exact(Tr.gC _ _ om).trans (Tr.hY ..)
 have bx:C.get (nx+2)=some (.loop ah):=by rw[ae];exact Tr.hY ..
 have ax:HE (nx+1) jN C:=by rw[ae];exact(HE.set _ _ nR).trans (HE.set _ _ (Nat.le_succ _)) nR
 have br:=ax.get iA (Nat.lt_succ_self (nx))
 have bq:HE nx hp C:=l_.trans ax om
 refine(WV.func (f:=f) (show WF ex f (.func (.yield (nx+2)) #[] #[]::av.toList) C (nx+3) _ from(bh (.func (.yield (nx+2)) #[] #[]) (Xr K.l ah nx) C (nx+3) om bq ?_ ?_ ?_))).mono ?_
 · exact⟨⟨.slice none 0 0,[]⟩,br,by simp,mf.nil,bx,bs,om⟩
 · rintro i a b c d ⟨J,ao,af,aq,ag,ar,bB⟩ he hle
   exact⟨J,he.get ao om,af,aq.mono he hle,he.get ag om,he.get ar om,om⟩
 ·
  rintro i x hx a c hc ay ⟨J,ao,af,aq,ag,ar,bB⟩
  have bK:=(List.getElem?_eq_some_iff.1 hx).1
  have bJ:J.l.length=i:=by rw[af,List.length_take];omega
  refine WV.round (ah.tmps.set 7 (.agg (fo x).toArray)) ag rfl (by rw[R]) (by rw[R];rfl) ?_
  subst R
  have bA:=HE.refl (c) a
  have aD:=Nat.le_refl (c)
  refine WP.region<|oA [iN 0,iN 0] mM fun A9 yL aM=>?_
  have aE:=ay.trans yL (show nx<=c by omega)
  have aN:=yL.get ao (show nx<c by omega)
  have bk:=Nat.lt_of_lt_of_le (show nx<c by omega) (Nat.le_succ (c))
  have aO:=yL.get ag (show(nx+2)<c by omega)
  have bl:=Nat.lt_of_lt_of_le (show(nx+2)<c by omega) (Nat.le_succ (c))
  have aP:=yL.get ar (show(nx+1)<c by omega)
  have bn:=Nat.lt_of_lt_of_le (show(nx+1)<c by omega) (Nat.le_succ (c))
  have bd:=bA.trans yL aD
  have bo:=Nat.le_trans aD (Nat.le_succ (c))
  have bj:=Nat.le_trans (show nx<=c by omega) (Nat.le_succ (c))
  refine oS c (0) (.agg (fo x).toArray) (fo x) (fo x) gQ rfl rfl aM fun bD al aQ U=>?_
  have aF:=aE.trans al om
  have bg:=bd.trans al om
  have aR:=(U nx om).trans aN
  have aS:=(U (nx+2) om).trans aO
  have uq:=(U (nx+1) om).trans aP
  refine WO.nil<|⟨rfl,aS,fun aA bu I=>?_⟩
  have aG:HE nx hp aA:=fun q j=>(I q om).trans (aF q j)
  have ak:=(I nx om).trans aR
  have aT:=(I (nx+1) om).trans uq
  have aU:=(I c om).trans aQ
  have aK:=(aq.mono bg bo).r_ (fe:=aA) (fun q j=>I q om)
  refine WP.block<|WP.region<|oZ nx (0) (J.v) nM ak rfl<|WO.cons (WC.jb c (0) (fo x) kr jT gQ aU rfl<|oL [iN x.h_,iN x.hQ] fun w9 ur w_=>?_)
  have aH:=aG.trans ur bj
  have aV:=ur.get ak bk
  have aW:=ur.get bu bl
  have aX:=ur.get aT bn
  have aL:=aK.mono ur (Nat.le_succ (c+1))
  obtain⟨inf,pa,uY⟩:=A8
  refine WO.cons (WC.Cp (enc:=fo) (J:=J) x rfl kr kr aL (tC _) w_ rfl nk gQ mM pa rfl rfl uY om om rfl ?_)
  rintro au jN oG ai xF tD aw
  have aI:=aH.trans tD om
  have aY:=tD.get aV om
  have aZ:=tD.get aW om
  have a6:=tD.get aX om
  have aj:=aw.ok (tC _) (by rw[ai,List.length_append];simp;omega)
  refine oS nx (0) (au.v) [au.v] [au.v] qC aj.cells (Bool.and_eq_true_iff.2 ⟨rfl,by rw[List.all_cons,aj.one];rfl⟩) aY fun bE bc a7 aa=>?_
  have aJ:=aI.trans bc om
  have a8:=(aa (nx+2) om).trans aZ
  have a_:=(aa (nx+1) om).trans a6
  refine WO.nil<|⟨rfl,a8,fun bM bw ab=>⟨rfl,(show c<=oG by omega),fun q j=>(ab q om).trans ((aJ q j).trans (ay q j).symm),au,(ab nx om).trans a7,?_,aw.r_ (fun q j=>(ab q om).trans (aa q om)),bw,(ab (nx+1) om).trans a_,(show nx+3<=oG by omega)⟩⟩
  rw[ai,af,List.take_add_one,hx];rfl
 ·
  rintro _ an bC ⟨⟨J,ao,af,aq,ag,ar,bB⟩,bL,bt⟩
  refine⟨ah,0,ag,(fun h=>by rw[R]at h;cases h),by rw[R];rfl,?_⟩
  obtain⟨o,aB⟩:∃h:Ht,h=an.set (nx+1+1) (some (.loop {ah with state:=.exhausted})):=⟨_,rfl⟩
  rw[<-aB]
  have ad:∀q,q≠nx+2->o.get q=an.get q:=fun q j=>by rw[aB];exact Tr.gC _ _ j
  have bp:HE nx hp o:=fun q j=>(ad q om).trans (bt q j)
  have bH:=(ad nx om).trans ao
  have bG:=(ad (nx+1) om).trans ar
  have bI:=aq.r_ (fe:=o) (fun q j=>ad q om)
  refine sr<|oZ nx (0) (J.v) nM bH rfl<|oW 1 ⟨rfl,_,rfl,bG,[J.v],kr,?_⟩
  obtain⟨bz,aC⟩:∃h:Ht,h=o.set (nx+1) (some (.deferred none)):=⟨_,rfl⟩
  show(fun v fe fg=>∃J:SV fT,v=J.v/\J.l=K.l/\mf fo 2 nx fe fg J/\nx<=fg/\HE nx hp fe) _ (o.set (nx+1) (some (.deferred none))) bC
  rw[<-aC]
  have az:∀q,q≠nx+1->bz.get q=o.get q:=fun q j=>by rw[aC];exact Tr.gC _ _ j
  exact⟨J,rfl,by rw[af,List.take_length],(bI.r_ (fun q j=>az q om)).low om,om,fun q j=>(az q om).trans (bp q j)⟩
theorem Ql(K:SV fT)(f:FuncId)(j:Array Value)(hp:Ht)(nx:Nat)(hK:K.l.length<=1048576)(o:Qj K.l f j hp nx):WF ex 208 [.func (.func f) #[] j] hp nx (fun v fe fg=>∃J:SV fT,v=J.v/\J.l=K.l/\mf fo 2 nx fe fg J/\nx<=fg/\HE nx hp fe):=by
 refine wd Tryz.f208 5 [.tmp 2] fun hE=>sr<|oN 1<|sr<|oX 1<|WO.cons (WC.call 4 284 ([.slice none 0 0,.func (.func f) #[] j]) kf ((ML K f j hp (nx) om o).mono ?_))
 rintro _ U oG ⟨J,rfl,I,C,R,iY⟩
 refine oW 1 ⟨rfl,rfl,[J.v],kr,?_⟩
 exact⟨J,rfl,I,C,od,(hE.trans iY)⟩
theorem KO(ah:y5)(K:SV fT)(f:FuncId)(R:Array Value)(hp:Ht)(nx:Nat)(hK:K.l.length<=1048576)(af:Qj K.l f R hp nx):WF ex 115 [.func (.func f) #[] R,.func (.func 117) #[] #[]] hp nx (fun v fe fg=>∃J:SV fT,v=J.v/\J.l=wO K.l/\gA fo 2 fe fg J/\nx<=fg/\HE nx hp fe):=by
 refine wd Tryz.f115 12 [.tmp 4] fun hE=>sr<|oN 1<|sr<|oX 1<|WO.cons (WC.call 7 208 ([.func (.func f) #[] R]) kf ((Ql K f R hp (nx) om af).mono ?_))
 rintro _ aa oG ⟨J,rfl,o,ai,ao,iY⟩
 have U:=hE.trans iY
 refine oN 1<|WP.seq ?_
 rcases ai with⟨j,C⟩|⟨j,I,al,C,ag⟩
 ·
  rw[C]
  refine WP.region<|oX 2<|WO.cons (WC.call 10 209 ([.slice none 0 0,.func (.func 117) #[] #[]]) kf ((ah.1 aa (oG)).mono ?_))
  rintro _ aq ar ⟨rfl,rfl⟩
  refine WO.nil<|sr<|oW 2 ⟨rfl,rfl,[.slice none (0) 0],kr,?_⟩
  exact⟨⟨.slice none 0 0,[]⟩,rfl,(by rw[<-o,j];simp[wO]),⟨fun _ _=>rfl,.inl ⟨rfl,.inl rfl⟩,by simp⟩,od,U⟩
 ·
  rw[C]
  refine WP.region<|oX 2<|WO.cons (WC.call 10 209 ([.slice (some ⟨I,0,none⟩) J.l.length J.l.length,.func (.func 117) #[] #[]]) kf ((ah.2 J.l nx I al aa (oG) j (by rw[o];omega) ag).mono ?_))
  rintro _ aj an ⟨rfl,ab,ad⟩
  have ae:HE nx hp aj:=fun q ak=>(ad q ak).trans (U q ak)
  refine WO.nil<|sr<|oW 2 ⟨rfl,rfl,[.slice (some ⟨I,0,none⟩) (J.l.length) J.l.length],kr,?_⟩
  exact⟨⟨.slice (some ⟨I,0,none⟩) J.l.length J.l.length,wO J.l⟩,rfl,(by show wO J.l=_;rw[o]),ab.sh (fun _ _=>rfl) (Jn _) j (by rw[o];omega),od,ae⟩
end
end Sw
namespace Sw
noncomputable section
open Go Go.Proofs Go.RowKit
set_option maxRecDepth 100000
set_option maxHeartbeats 1600000
theorem RN{J:List fT}(h:J=[])(x:fT):th J x=J++[x]:=by subst h;rfl
theorem TW{J:List fT}{x y:fT}(hy:J[J.length-1]?=some y)(h:Touch y x):th J x=J.set (J.length-1) (both y x):=by
 unfold th;rw[hy];simp only;rw[if_pos h]
theorem RO{J:List fT}{x y:fT}(hy:J[J.length-1]?=some y)(h:¬Touch y x):th J x=J++[x]:=by
 unfold th;rw[hy];simp only;rw[if_neg h]
theorem VV(K:SV fT)(hp:Ht)(nx:Nat)(hK:gA fo 2 hp nx K)(bA:K.l.length<=1048576):WF ex 119 [K.v,.func (.func 118) #[] #[],.func (.func 120) #[] #[]] hp nx (fun v fe fg=>∃J:SV fT,v=J.v/\J.l=jn K.l/\gA fo 2 fe fg J/\nx<=fg/\HE nx hp fe):=by
 obtain⟨a1,c2,hR⟩:=hK.shape
 have lW:=hK.2.2
 rw[hR]
 refine wd Tryz.f119 46 [.tmp 6] fun hE=>sr<|oN 1<|WP.seq<|sr<|oN 3<|WP.block ?_
 refine my [1,2,6,10,11,12] (fun m hs ns vs=>∃(fV:Nat) (J:SV fT),fV+m=K.l.length/\vs=[.func (.func 118) #[] #[],.func (.func 120) #[] #[],J.v,.slice a1 (K.l.length) c2,iN (.ofNat (K.l.length)),iN (.ofNat fV)]/\nx<=ns/\HE nx hp hs/\(J.l=jn (K.l.take fV))/\(mf fo 2 nx hs ns J)) ?_ (K.l.length) ?_
 ·
  rintro xn pT ja _ ⟨fV,J,tP,rfl,oe,jm,ah,aZ⟩ tQ
  have bc:=Nat.le_refl (ja)
  refine sr ?_
  refine oq 13 (kV fV K.l.length) fun CA A_=>WO.nil<|WP.seq<|cq A_ (fun bn=>?_) (fun bn=>?_)
  ·
   refine WP.skip<|WP.seq<|WP.block<|sr ?_
   have aD:fV<K.l.length:=by omega
   refine WO.cons (WC.iy hR hK (fV) nk gQ (aD) ?_)
   obtain⟨o,an⟩:=gE aD
   refine WO.cons (WC.ly hR (hK.mono jm nR) an jT gQ<|oA [iN 0,iN 0] mM fun bs aN a6=>?_)
   have bd:=Nat.le_trans bc (Nat.le_succ (ja))
   refine oS ja (0) (.agg (fo o).toArray) (fo o) (fo o) gQ rfl rfl a6 fun af aO aj br=>?_
   have aH:=(jm.trans aN).trans aO
   refine WO.nil<|WP.seq ?_
   have hlen:J.l.length<=fV:=by rw[ah];exact MJ _ _
   have bh:=aZ.mono (((HE.refl (ja) pT).trans aN).trans aO) bd
   rcases id bh with⟨aC,aM⟩|⟨aC,C,bg,aM,ag⟩
   ·
    rw[aM]
    have aL:mf fo 2 nx af (ja+1) ⟨.slice none 0 0,J.l⟩:=.inl ⟨aC,rfl⟩
    refine WP.region<|oN 4<|WP.seq<|WP.sM [⟨[0,1,2,3,4,5,6,7,8],[0,1,2,3,4,5,6,7,8],some 9⟩,⟨[10],[10],none⟩] kr _ rfl<|WD.ln<|nv 19 (iN (-1))<|nv 20 (.bool false)<|nv 21 (.bool false)<|WN.ic rfl (WC.Da (x:=.bool false) (g:=aaj (.tmp 21)) rfl kr rfl<|WN.ic rfl (WC.Da (x:=.bool false) (g:=aaj (.tmp 21)) rfl kr rfl<|WN.ic rfl (WC.Da (x:=.bool false) (g:=aaj (.tmp 21)) rfl kr rfl<|WN.ic rfl (WC.Da (x:=.bool false) (g:=aaj (.tmp 21)) rfl kr rfl<|WN.ic rfl (WC.Da (x:=.bool false) (g:=aaj (.tmp 21)) rfl kr rfl<|WN.ic rfl (WC.Da (x:=.bool false) (g:=aaj (.tmp 21)) rfl kr rfl<|WN.nil ⟨?_,?_⟩))))))
    ·
     refine ci (-1)<|cv (.bool false) rfl<|cv (.bool false) rfl<|cg rfl 21 false (.bool false) (.bool false) rfl (fun h=>by cases h)<|cg rfl 21 false (.bool false) (.bool false) rfl (fun h=>by cases h)<|cg rfl 21 false (.bool false) (.bool false) rfl (fun h=>by cases h)<|cg rfl 21 false (.bool false) (.bool false) rfl (fun h=>by cases h)<|cg rfl 21 false (.bool false) (.bool false) rfl (fun h=>by cases h)<|cg rfl 21 false (.bool false) (.bool false) rfl (fun h=>by cases h) ?_
     exact jh.nil
    refine WC.at rfl (WC.Da (x:=.bool false) (g:=aaj (.tmp 21)) rfl kr rfl<|WD.last<|nv 29 (.bool false)<|WN.nil ⟨?_,?_⟩)
    ·
     refine cv (.bool false) rfl ?_
     exact jh.nil
    refine WP.cond false kr (fun aY=>by cases aY) (fun aY=>?_)
    refine WP.region<|oX 1<|WO.cons (WC.jb ja (0) (fo o) kr jT gQ aj rfl<|oL [iN o.h_,iN o.hQ] fun bt aP a7=>?_)
    obtain⟨inf,pa,uY⟩:=A8
    refine WO.cons (WC.Cp (enc:=fo) (J:=⟨.slice none 0 0,J.l⟩) o rfl kr kr (aL.mono aP (Nat.le_succ (ja+1))) (tC _) a7 rfl nk gQ mM pa rfl rfl uY (show J.l.length<=1048576 by omega) om rfl ?_)
    rintro aE jN oG au xF tD aJ
    have aq:aE.l=th J.l o:=by rw[au];exact(RN aC _).symm
    refine oN 1<|WP.region<|ov 44 (iN (.ofNat (fV+1))) ?_ (fun _ _ _=>by rw[<-gU (show fV+1<9223372036854775808 by omega)];kernel_rfl)
    refine oN 1<|⟨K.l.length-(fV+1),om,rfl,rfl,fV+1,aE,om,kr,?_,?_,?_,?_⟩
    · exact od
    · exact((aH.trans aP).trans tD)
    · rw[Fy an,<-ah];exact aq
    · exact aJ
   ·
    rw[aM]
    have aL:mf fo 2 nx af (ja+1) ⟨.slice (some ⟨C,0,none⟩) J.l.length J.l.length,J.l⟩:=.inr ⟨aC,C,bg,rfl,ag⟩
    refine WP.region<|oX 2<|ov 18 (iN (.ofNat (J.l.length-1))) ?_ (fun _ _ _=>by rw[<-Av (show J.l.length<9223372036854775808 by omega) om];kernel_rfl)
    refine oN 1<|WP.seq<|WP.sM [⟨[0,1,2,3,4,5,6,7,8],[0,1,2,3,4,5,6,7,8],some 9⟩,⟨[10],[10],none⟩] kr _ rfl<|WD.ln<|nv 19 (iN (.ofNat (J.l.length-1))) ?_
    obtain⟨j,aW,ab⟩:=Y8 0 (J.l.length-1)
    refine nv 20 (.bool j) ?_ (fun _ _ _=>by subst aW;kernel_rfl)
    refine nv 21 (.bool j)<|ng rfl 21 (j) (.func (.func 118) #[] #[]) (.bool j) (by cases j<;>rfl) (fun h=>by obtain rfl:=h;exact fun _ _ _=>by kernel_rfl) ?_
    refine ng rfl 21 (j) (.slice (some ⟨C,0,none⟩) (J.l.length) J.l.length) (.bool j) (by cases j<;>rfl) (fun h=>by obtain rfl:=h;exact fun _ _ _=>by kernel_rfl) ?_
    refine ng rfl 21 (j) (iN (.ofNat (J.l.length-1))) (.bool j) (by cases j<;>rfl) (fun h=>by obtain rfl:=h;exact fun _ _ _=>by kernel_rfl) ?_
    have I:(j)=true->J.l.length-1<J.l.length:=fun h=>by obtain rfl:j=true:=(by simpa using h);have aS:=(ab).1 rfl;omega
    refine xP rfl 21 (j) (.pointer (some ⟨(gb (some ⟨C,0,none⟩)),0+(J.l.length-1)*2,none⟩)) (.bool j) (by cases j<;>rfl) (fun h=>by obtain rfl:=h;have aS:=(ab).1 rfl;exact WC.ix (k:=.i64) (some ⟨C,0,none⟩) (J.l.length) J.l.length (J.l.length-1) 2 kr kr nk gQ ((ag.sh (N:=J.l.length) (c:=J.l.length) (fun _ _=>rfl) rfl om om).ue rfl (zl ((Nat.lt_of_lt_of_eq (I rfl) rfl.symm)))) ((I rfl)) rfl) ?_
    obtain⟨ad,az⟩:∃bf,(j)=true->(⟨.slice (some ⟨C,0,none⟩) (J.l.length) J.l.length,J.l⟩:SV fT).l[J.l.length-1]?=some bf:=⟨((⟨.slice (some ⟨C,0,none⟩) (J.l.length) J.l.length,J.l⟩:SV fT).l[J.l.length-1]?).getD default,fun h=>by rw[List.getElem?_eq_getElem (by obtain rfl:j=true:=(by simpa using h);exact(Nat.lt_of_lt_of_eq (I rfl) rfl.symm))];rfl⟩
    have ao:=fun(a0:((0)<=((J.l.length-1:Nat):Int)))=>az (by first|(rw[show j=true from(ab).2 a0];rfl)|rw[show j=true from(ab).2 a0])
    refine xP rfl 21 (j) (.agg (fo ad).toArray) (.bool j) (by cases j<;>rfl) (fun h=>by obtain rfl:=h;have aS:=(ab).1 rfl;exact WC.EE (gb (some ⟨C,0,none⟩)) (0+(J.l.length-1)*2) (fo ad) kr jT gQ ((ag.sh (N:=J.l.length) (c:=J.l.length) (fun _ _=>rfl) rfl om om).pq rfl (zl ((Nat.lt_of_lt_of_eq (I rfl) rfl.symm)))) (w4 (ag.sh (N:=J.l.length) (c:=J.l.length) (fun _ _=>rfl) rfl om om).1 (az rfl)) rfl) ?_
    refine xP rfl 21 (j) (.agg (fo o).toArray) (.bool j) (by cases j<;>rfl) (fun h=>by obtain rfl:=h;exact WC.jb ja (0) (fo o) kr jT gQ aj rfl rfl) ?_
    refine WN.nil ⟨?_,?_⟩
    ·
     refine ci (.ofNat (J.l.length-1))<|cv (.bool j) (jd 8 j) ?_ (fun _=>by subst aW;kernel_rfl)
     refine cv (.bool j) (jd 8 j)<|cg rfl 21 (j) (.func (.func 118) #[] #[]) (.bool j) (by cases j<;>rfl) (fun h=>by obtain rfl:=h;exact mW (.func (.func 118) #[] #[]) (fun _=>by kernel_rfl) kr) ?_
     refine cg rfl 21 (j) (.slice (some ⟨C,0,none⟩) (J.l.length) J.l.length) (.bool j) (by cases j<;>rfl) (fun h=>by obtain rfl:=h;exact mW (.slice (some ⟨C,0,none⟩) (J.l.length) J.l.length) (fun _=>by kernel_rfl) (qT ..)) ?_
     refine cg rfl 21 (j) (iN (.ofNat (J.l.length-1))) (.bool j) (by cases j<;>rfl) (fun h=>by obtain rfl:=h;exact mW (iN (.ofNat (J.l.length-1))) (fun _=>by kernel_rfl) (iQ ..)) ?_
     refine cg rfl 21 (j) (.pointer (some ⟨(gb (some ⟨C,0,none⟩)),0+(J.l.length-1)*2,none⟩)) (.bool j) (by cases j<;>rfl) (fun h=>by obtain rfl:=h;have aS:=(ab).1 rfl;exact r9 (.pointer (some ⟨(gb (some ⟨C,0,none⟩)),0+(J.l.length-1)*2,none⟩)) (lh ex.T 48 (.slice (some ⟨C,0,none⟩) (J.l.length) J.l.length) (iN (.ofNat (J.l.length-1)))) (fun _=>by kernel_rfl) (oH (k:=.i64) nk gQ ((ag.sh (N:=J.l.length) (c:=J.l.length) (fun _ _=>rfl) rfl om om).ue rfl (zl ((Nat.lt_of_lt_of_eq (I rfl) rfl.symm)))) ((I rfl))) (iW ..)) ?_
     refine cg rfl 21 (j) (.agg (fo ad).toArray) (.bool j) (by cases j<;>rfl) (fun h=>by obtain rfl:=h;have aS:=(ab).1 rfl;exact r9 (.agg (fo ad).toArray) (kB ex.T af.get 104 (.pointer (some ⟨(gb (some ⟨C,0,none⟩)),0+(J.l.length-1)*2,none⟩))) (fun _=>by kernel_rfl) (Aa jT gQ ((ag.sh (N:=J.l.length) (c:=J.l.length) (fun _ _=>rfl) rfl om om).pq rfl (zl ((Nat.lt_of_lt_of_eq (I rfl) rfl.symm)))) (w4 (ag.sh (N:=J.l.length) (c:=J.l.length) (fun _ _=>rfl) rfl om om).1 (az rfl))) (uK ad)) ?_
     refine cg rfl 21 (j) (.agg (fo o).toArray) (.bool j) (by cases j<;>rfl) (fun h=>by obtain rfl:=h;exact r9 (.agg (fo o).toArray) (kB ex.T af.get 104 (pt ja 0)) (fun _=>by kernel_rfl) (lF jT gQ aj rfl) (uK o)) ?_
     exact jh.nil
    refine WC.at rfl (WC.gq (j) (GB (j) (Touch ad o) (ja+1) af) (.bool j) (g:=aaj (.tmp 21)) rfl kr (by cases j<;>rfl) (fun h=>by obtain rfl:j=true:=(by simpa using h);have aS:=(ab).1 rfl;exact WC.call 28 118 ([.agg (fo ad).toArray,.agg (fo o).toArray]) kf ((TU ad o af (ja+1)).mono fun v fe fg ⟨⟨c,bx,hc⟩,hn,he⟩=>⟨_,_,_,rfl,⟨c,bx,hc⟩,hn,he⟩)) (fun h=>GB.off h) ?_)
    rintro _ ay aB ⟨⟨aV,rfl,bk⟩,aQ,al⟩
    have aI:=aH.trans al
    have aw:=al.get aj
    have aK:=aL.mono al aQ
    have U:=ag.mono al aQ
    refine WD.last ?_
    obtain⟨aF,aX,bl⟩:=nA ab bk
    refine WN.ic rfl (WC.opt (v:=.bool aF) 29 (lA (.bool j) ((bif j then .bool aV else undef)) (.bool false)) kf (by rw[aX];exact s_ (fun h=>by obtain rfl:j=true:=h;rfl))<|WN.nil ⟨?_,?_⟩)
    ·
     refine co (.bool aF) (lA (.bool j) ((bif j then .bool aV else undef)) (.bool false)) ((by rw[aX];exact s_ (fun h=>by obtain rfl:j=true:=h;rfl))) (jd 8 aF) ?_
     exact jh.nil
    refine cq bl (fun aT=>?_) (fun aT=>?_)
    ·
     refine WP.sM [⟨[0,1,2,3,4,5,6,7],[0,1,2,3,4,5,6,7],some 8⟩,⟨[9],[0,1,9],some 10⟩,⟨[],[],none⟩] kr _ rfl<|WD.ln<|nv 30 (.slice (some ⟨C,0,none⟩) (J.l.length) J.l.length)<|nv 31 (iN (.ofNat (J.l.length-1)))<|nv 32 (.func (.func 120) #[] #[])<|nv 33 (.slice (some ⟨C,0,none⟩) (J.l.length) J.l.length)<|nv 34 (iN (.ofNat (J.l.length-1))) ?_
     have R:J.l.length-1<J.l.length:=by omega
     refine WN.ic rfl (WC.ix (k:=.i64) (some ⟨C,0,none⟩) (J.l.length) J.l.length (J.l.length-1) 2 kr kr nk gQ ((U.sh (N:=J.l.length) (c:=J.l.length) (fun _ _=>rfl) rfl om om).ue rfl (zl ((Nat.lt_of_lt_of_eq R rfl.symm)))) (R) ?_)
     obtain⟨ae,aA⟩:=gE ((Nat.lt_of_lt_of_eq R rfl.symm))
     refine WN.ic rfl (WC.EE (gb (some ⟨C,0,none⟩)) (0+(J.l.length-1)*2) (fo ae) kr jT gQ ((U.sh (N:=J.l.length) (c:=J.l.length) (fun _ _=>rfl) rfl om om).pq rfl (zl ((Nat.lt_of_lt_of_eq R rfl.symm)))) (w4 (U.sh (N:=J.l.length) (c:=J.l.length) (fun _ _=>rfl) rfl om om).1 aA)<|WN.ic rfl (WC.jb ja (0) (fo o) kr jT gQ aw rfl<|WN.nil ⟨?_,?_⟩))
     ·
      refine cv (.slice (some ⟨C,0,none⟩) (J.l.length) J.l.length) (qT ..)<|ci (.ofNat (J.l.length-1))<|cv (.func (.func 120) #[] #[]) kr<|cv (.slice (some ⟨C,0,none⟩) (J.l.length) J.l.length) (qT ..)<|ci (.ofNat (J.l.length-1))<|co (.pointer (some ⟨(gb (some ⟨C,0,none⟩)),0+(J.l.length-1)*2,none⟩)) (lh ex.T 48 (.slice (some ⟨C,0,none⟩) (J.l.length) J.l.length) (iN (.ofNat (J.l.length-1)))) (oH (k:=.i64) nk gQ ((U.sh (N:=J.l.length) (c:=J.l.length) (fun _ _=>rfl) rfl om om).ue rfl (zl ((Nat.lt_of_lt_of_eq R rfl.symm)))) (R)) (iW ..)<|co (.agg (fo ae).toArray) (kB ex.T ay.get 104 (.pointer (some ⟨(gb (some ⟨C,0,none⟩)),0+(J.l.length-1)*2,none⟩))) (Aa jT gQ ((U.sh (N:=J.l.length) (c:=J.l.length) (fun _ _=>rfl) rfl om om).pq rfl (zl ((Nat.lt_of_lt_of_eq R rfl.symm)))) (w4 (U.sh (N:=J.l.length) (c:=J.l.length) (fun _ _=>rfl) rfl om om).1 aA)) (uK ae)<|co (.agg (fo o).toArray) (kB ex.T ay.get 104 (pt ja 0)) (lF jT gQ aw rfl) (uK o) ?_
      exact jh.nil
     refine WC.at rfl (WC.call 38 120 ([.agg (fo ae).toArray,.agg (fo o).toArray]) kf ((TV ae o ay (aB)).mono ?_))
     rintro _ bu bz ⟨rfl,aR,ax⟩
     have bq:=aK.mono ax aR
     have ar:=U.mono ax aR
     refine WD.ln ?_
     have aa:J.l.length-1<J.l.length:=by omega
     refine WN.ic rfl (WC.ix (k:=.i64) (some ⟨C,0,none⟩) (J.l.length) J.l.length (J.l.length-1) 2 kr kr nk gQ ((ar.sh (N:=J.l.length) (c:=J.l.length) (fun _ _=>rfl) rfl om om).ue rfl (zl ((Nat.lt_of_lt_of_eq aa rfl.symm)))) (aa)<|WN.nil ⟨?_,?_⟩)
     ·
      refine cv (.slice (some ⟨C,0,none⟩) (J.l.length) J.l.length) (qT ..)<|ci (.ofNat (J.l.length-1))<|co (.pointer (some ⟨(gb (some ⟨C,0,none⟩)),0+(J.l.length-1)*2,none⟩)) (lh ex.T 48 (.slice (some ⟨C,0,none⟩) (J.l.length) J.l.length) (iN (.ofNat (J.l.length-1)))) (oH (k:=.i64) nk gQ ((ar.sh (N:=J.l.length) (c:=J.l.length) (fun _ _=>rfl) rfl om om).ue rfl (zl ((Nat.lt_of_lt_of_eq aa rfl.symm)))) (aa)) (iW ..) ?_
      exact jh.nil
     refine WC.at rfl (WC.Mo (.agg (fo (both ae o)).toArray) (both ae o) rfl kr kr ar (fun _ _=>rfl) (Nat.lt_of_lt_of_eq aa rfl.symm) gQ rfl rfl rfl ?_)
     rintro bw aG a8
     obtain⟨ai,av⟩:∃L',L'=J.l.set (J.l.length-1) (both ae o):=⟨_,rfl⟩
     rw[<-av]at aG
     have a_:ai.length=J.l.length:=by rw[av,List.length_set]
     have bj:ae=ad:=Option.some.inj (aA.symm.trans (ao om))
     subst bj
     have aq:ai=th J.l o:=by rw[av];exact(TW (ao om) aT.2).symm
     refine WD.last<|WN.nil ⟨?_,?_⟩
     ·
      exact jh.nil
     refine WP.region<|ov 44 (iN (.ofNat (fV+1))) ?_ (fun _ _ _=>by rw[<-gU (show fV+1<9223372036854775808 by omega)];kernel_rfl)
     refine oN 1<|⟨K.l.length-(fV+1),om,rfl,rfl,fV+1,⟨.slice (some ⟨C,0,none⟩) J.l.length J.l.length,ai⟩,om,kr,?_,?_,?_,?_⟩
     · exact od
     · exact((aI.trans ax).trans a8)
     · rw[Fy an,<-ah];exact aq
     · exact .inr ⟨(show 0<ai.length by omega),C,bg,(by show Value.slice _ J.l.length J.l.length=Value.slice _ ai.length ai.length;rw[a_]),aG⟩
    ·
     refine WP.region<|oX 1<|WO.cons (WC.jb ja (0) (fo o) kr jT gQ aw rfl<|oL [iN o.h_,iN o.hQ] fun bp ak aU=>?_)
     have bo:=U.mono ak (Nat.le_succ (aB))
     obtain⟨inf,pa,uY⟩:=A8
     refine WO.cons (WC.Cp (enc:=fo) (J:=⟨.slice (some ⟨C,0,none⟩) J.l.length J.l.length,J.l⟩) o rfl kr kr (aK.mono ak (Nat.le_succ (aB))) (tC _) aU rfl nk gQ mM pa rfl rfl uY (show J.l.length<=1048576 by omega) om rfl ?_)
     rintro aE jN oG au xF tD aJ
     have aq:aE.l=th J.l o:=by rw[au];exact(RO (ao om) (fun h=>aT ⟨om,h⟩)).symm
     refine oN 1<|WP.region<|ov 44 (iN (.ofNat (fV+1))) ?_ (fun _ _ _=>by rw[<-gU (show fV+1<9223372036854775808 by omega)];kernel_rfl)
     refine oN 1<|⟨K.l.length-(fV+1),om,rfl,rfl,fV+1,aE,om,kr,?_,?_,?_,?_⟩
     · exact od
     · exact((aI.trans ak).trans tD)
     · rw[Fy an,<-ah];exact aq
     · exact aJ
  ·
   refine WP.exit<|sr<|oW 2 ⟨rfl,rfl,[J.v],kr,?_⟩
   have hT:K.l.take fV=K.l:=List.take_of_length_le om
   rw[hT]at ah
   exact⟨J,rfl,ah,aZ.ok (tC _) (by have:=MJ K.l K.l.length;rw[List.take_length]at this;rw[ah];omega),od,jm⟩
 ·
  exact⟨0,⟨.slice none 0 0,[]⟩,om,kr,Nat.le_refl _,hE,(by rw[List.take_zero];rfl),mf.nil⟩
end
end Sw
namespace Sw
noncomputable section
open Go Go.Proofs Go.RowKit
set_option maxRecDepth 100000
set_option maxHeartbeats 1600000
def Ii(P:List fT->Prop):Value->Ht->Nat->Prop:=fun v hp nx=>∃(J:SV fT) (z:Int),v=.tuple ⟨[J.v,iN z]⟩/\gA fo 2 hp nx J/\((z=0/\P J.l)\/((z=2\/z=10)/\J.l=[]))
theorem sY{hp:Ht}{nx:Nat}:gA fo 2 hp nx ⟨.slice none 0 0,[]⟩:=mf.nil.ok (B:=0) (fun _ _=>rfl) (by decide)
def Xs(K:List fT)(l:List fT):Prop:=l=wa K/\Ah [K]
def Ij(A B:List fT)(l:List fT):Prop:=l=wa (A++B)/\l.length<=4096/\Ah [A,B]
theorem O2:∃i,ex.T.info 104=some i/\i.bytes<=1024:=by
 cases h:ex.T.info 104 with
 |none=>exact absurd (show(ex.T.info 104).isSome=true by kernel_rfl) (by rw[h];decide)
 |some i=>
  refine⟨i,rfl,?_⟩
  have:((ex.T.info 104).map fun i=>Nat.ble i.bytes 1024)=some true:=by kernel_rfl
  rw[h]at this
  exact Nat.le_of_ble_eq_true (Option.some.inj this)
theorem VW{a:Option Addr}{k c:Nat}:pn ex.T 48 (.slice a k c)=some (k,false):=by
 have hu:ex.T.ji 48=some (.slice 104):=by kernel_rfl
 simp only[pn,hu]
def VX(W:SV (SV fT)):Value->Ht->Nat->Prop:=fun v hp nx=>∃J:SV fT,v=J.v/\J.l=W.l.flatMap (·.l)/\gA fo 2 hp nx J
theorem CB(aj:y5)(K:SV fT)(hp:Ht)(nx:Nat)(hK:gA fo 2 hp nx K)(aq:K.l.length<=1048576):WF ex 65 [K.v] hp nx (fun v fe fg=>∃J:SV fT,v=J.v/\J.l=wa K.l/\gA fo 2 fe fg J/\nx<=fg/\HE nx hp fe):=by
 obtain⟨a1,c2,hR⟩:=hK.shape
 have lW:=hK.2.2
 rw[hR]
 refine wd Tryz.f65 10 [.tmp 2] fun hE=>sr<|oN 1<|sr<|oX 1<|WO.cons (WC.call 5 116 ([K.v]) (fun _ _ _=>by(try rw[hR]);kernel_rfl) ((RM K hp (nx) (hK.mono hE)).mono ?_))
 rintro _ DP Ie ⟨aa,rfl,af,ab,ME,qm⟩
 have U:=hE.trans qm
 refine WO.cons (WC.call 6 115 ([.func (.func 210) #[] #[pt aa 0],.func (.func 117) #[] #[]]) kf ((KO aj K 210 #[pt aa 0] DP (Ie) om (fun y Inv ah ai h1 ag ak hm hs=>Qk K y aa Inv DP (Ie) (hK.mono U) af ab ah ai h1 ag ak hm hs)).mono ?_))
 rintro _ B2 TX ⟨ae,rfl,j,C,Zb,yL⟩
 refine oN 1<|sr<|oN 1<|sr<|oX 2<|WO.cons (WC.call 9 119 ([ae.v,.func (.func 118) #[] #[],.func (.func 120) #[] #[]]) kf ((VV ae B2 (TX) (C.mono (HE.refl (TX) B2)) (by rw[j,Jn];omega)).mono ?_))
 rintro _ an ao ⟨R,rfl,I,o,al,ad⟩
 refine oW 1 ⟨rfl,rfl,[R.v],kr,?_⟩
 exact⟨R,rfl,by rw[I,j];rfl,o,od,((U.trans yL).trans ad)⟩
theorem Qm(ag:y5)(K:SV fT)(hp:Ht)(nx:Nat)(hK:gA fo 2 hp nx K)(an:K.l.length<=1048576):WF ex 40 [K.v] hp nx (fun v fe fg=>Ii (Xs K.l) v fe fg/\nx<=fg/\HE nx hp fe):=by
 obtain⟨a1,c2,hR⟩:=hK.shape
 have lW:=hK.2.2
 rw[hR]
 refine wd Tryz.f40 12 [.tmp 2,.tmp 3] fun hE=>sr<|oN 2<|WP.seq<|sr<|oX 1<|oL [.slice a1 (K.l.length) c2] fun DP af ae=>?_
 have I:=hE.trans af
 refine WO.cons (WC.call 6 64 ([(⟨.slice (some ⟨nx,0,none⟩) 1 1,[K]⟩:SV (SV fT)).v]) kf ((zI (⟨.slice (some ⟨nx,0,none⟩) 1 1,[K]⟩:SV (SV fT)) DP (nx+1) ⟨(gA.mO (enc:=lG) (by simp[lG]) ae (by show _=[K.v];rw[hR];done) (by decide) om (by simp)),fun y hy=>by rw[List.mem_singleton.1 hy];exact hK.mono I⟩).mono ?_))
 rintro _ ab ad ⟨⟨R,rfl,ao,ak,_⟩,ah,U⟩
 have wD:=I.trans U
 refine oN 1<|sr<|oX 1 ?_
 refine oq 8 (qW R 0) fun xW EO=>WO.nil<|cq EO (fun J=>?_) (fun J=>?_)
 ·
  refine sr<|oW 3 ⟨rfl,rfl,[.slice none (0) 0,iN R],kr,?_⟩
  exact⟨⟨⟨.slice none 0 0,[]⟩,_,rfl,sY,.inr ⟨om,rfl⟩⟩,od,wD⟩
 ·
  refine WP.skip<|sr<|oX 1<|WO.cons (WC.call 11 65 ([K.v]) (fun _ _ _=>by(try rw[hR]);kernel_rfl) ((CB ag K ab (ad) (hK.mono wD) (by first|omega|(simp only[List.length_append, *];omega))).mono ?_))
  rintro _ aj al ⟨C,rfl,o,j,ai,aa⟩
  refine oW 2 ⟨rfl,rfl,[C.v,iN 0],kr,?_⟩
  exact⟨⟨C,0,rfl,j,.inl ⟨rfl,o,ak (Classical.not_not.1 J)⟩⟩,od,(wD.trans aa)⟩
theorem Ik(K:SV fT)(hp:Ht)(nx:Nat)(hK:gA fo 2 hp nx K):WF ex 68 [K.v] hp nx (fun v fe fg=>Ii (fun l=>l=K.l/\l.length<=4096) v fe fg/\nx<=fg/\HE nx hp fe):=by
 obtain⟨a1,c2,hR⟩:=hK.shape
 have lW:=hK.2.2
 rw[hR]
 refine wd Tryz.f68 8 [.tmp 2,.tmp 3] fun hE=>sr<|oN 2<|WP.seq<|sr<|oX 2 ?_
 obtain⟨c4,j,p4⟩:=nc 4096 K.l.length
 refine ob 6 j<|WO.nil<|cq p4 (fun q6=>?_) (fun q6=>?_)
 ·
  refine sr<|oW 2 ⟨rfl,rfl,[.slice none (0) 0,iN 2],kr,?_⟩
  exact⟨⟨⟨.slice none 0 0,[]⟩,_,rfl,sY,.inr ⟨.inl rfl,rfl⟩⟩,nR,hE⟩
 ·
  refine WP.skip<|sr<|oW 3 ⟨rfl,rfl,[.slice a1 (K.l.length) c2,iN 0],kr,?_⟩
  exact⟨⟨K,0,by rw[hR];rfl,hK.mono hE nR,.inl ⟨rfl,rfl,om⟩⟩,nR,hE⟩
theorem VY(n:Nat)(hp:Ht)(nx:Nat)(hn:n<=8192):WF ex 122 [.slice none (0) 0,iN (.ofNat n)] hp nx (fun v fe fg=>Rm nx 2 n fe fg v 0 []/\nx<=fg/\HE nx hp fe):=by
 have mn:=fF (e:=ex) 122 Tryz.f122 27 [.tmp 4]
 have mZ:=@O2
 have oU:=@nk
 have sO:=@gQ
 have RI:=@mM
 let pc:=(48:Nat)
 let YY:=(2:Nat)
 exact Xo
theorem RP(W:SV (SV fT))(hp:Ht)(nx:Nat)(J:jt lG 1 (fun hp nx y=>gA fo 2 hp nx y) hp nx W)(hs:(W.l.map (fun o=>o.l.length)).sum<=8192):WF ex 69 [W.v] hp nx (fun v fe fg=>VX W v fe fg/\nx<=fg/\HE nx hp fe):=by
 obtain⟨a1,c2,hR⟩:=J.1.shape
 have lW:=J.1.2.2
 rw[hR]
 refine wd Tryz.f69 36 [.tmp 2] fun hE=>sr<|oN 1<|sr<|oN 1<|WP.seq<|sr<|oN 3<|WP.block ?_
 refine my [0,3,9,10,11] (fun m hs ns vs=>∃(fV:Nat) (I:Nat),fV+m=W.l.length/\vs=[.slice a1 (W.l.length) c2,iN (.ofNat I),.slice a1 (W.l.length) c2,iN (.ofNat (W.l.length)),iN (.ofNat fV)]/\nx<=ns/\HE (nx) hp hs/\(I=((W.l.take fV).map (fun o=>o.l.length)).sum)) ?_ (W.l.length) ?_
 ·
  rintro xn pT ja _ ⟨fV,I,tP,rfl,oe,jm,af⟩ tQ
  have j2:=hE.trans jm
  have an:=Nat.le_trans nR oe
  have aM:I<=8192:=by rw[af,List.map_take];exact Nat.le_trans (wL _ _) hs
  refine sr ?_
  refine oq 12 (kV fV W.l.length) fun nC rH=>WO.nil<|WP.seq<|cq rH (fun wQ=>?_) (fun wQ=>?_)
  ·
   refine WP.skip<|WP.seq<|WP.block<|sr ?_
   have mY:fV<W.l.length:=by omega
   refine WO.cons (WC.iy hR J.1 (fV) Az qC (mY) ?_)
   obtain⟨lu,ku⟩:=gE mY
   obtain⟨aq,xW,al⟩:=(J.2 lu (List.mem_of_getElem? ku)).shape
   have aA:=(J.2 lu (List.mem_of_getElem? ku)).2.2
   refine WO.cons (WC.lz (.slice aq (lu.l.length) xW) hR (J.1.mono j2 nR) ku (by rw[<-al];rfl) nM<|oN 1<|sr<|oX 3<|ov 18 (iN (.ofNat (I+lu.l.length))) ?_ (fun _ _ _=>by rw[<-gU (show I+lu.l.length<9223372036854775808 by omega)];kernel_rfl))
   refine oN 1<|sr<|oX 1 ?_
   refine oq 20 (AW (I+lu.l.length) 0) fun aK aw=>WO.nil<|cq aw (fun ag=>?_) (fun ag=>?_)
   ·
    exact absurd ag om
   ·
    refine WP.skip<|WP.region<|ov 22 (iN (.ofNat (fV+1))) ?_ (fun _ _ _=>by rw[<-gU (show fV+1<9223372036854775808 by omega)];kernel_rfl)
    refine oN 1<|⟨W.l.length-(fV+1),om,rfl,rfl,fV+1,I+lu.l.length,om,kr,?_,?_,?_⟩
    · exact oe
    · exact jm
    · rw[List.take_add_one,List.map_append,List.sum_append,ku]
      simp only[Option.toList_some,List.map_cons,List.map_nil,List.sum_cons,List.sum_nil]
      omega
  ·
   refine WP.exit<|sr<|oX 1<|WO.cons (WC.call 24 122 ([.slice none 0 0,iN (.ofNat I)]) kf ((VY (I) pT (ja) om).mono ?_))
   rintro aI aE ao ⟨Jm,aD,ah⟩
   have aj:=Jm.le an
   refine oN 1<|WP.seq<|sr<|oN 3<|WP.block ?_
   have au:I=(W.l.map (fun o=>o.l.length)).sum:=by rw[af,List.take_of_length_le om]
   refine my [6,25,26,27] (fun m hs ns vs=>∃(j:Nat) (ae:Value),j+m=W.l.length/\vs=[ae,.slice a1 (W.l.length) c2,iN (.ofNat (W.l.length)),iN (.ofNat j)]/\ao<=ns/\HE nx hp hs/\(Rm nx 2 I hs ns ae (((W.l.take j).map (fun o=>o.l.length)).sum) ((W.l.take j).flatMap (fun o=>o.l.flatMap fo)))) ?_ (W.l.length) ?_
   ·
    rintro aG aF aH _ ⟨j,ae,az,rfl,ai,R,ab⟩ aC
    refine sr ?_
    refine oq 28 (kV j W.l.length) fun aL ax=>WO.nil<|WP.seq<|cq ax (fun ay=>?_) (fun ay=>?_)
    ·
     refine WP.skip<|WP.seq<|WP.block<|sr ?_
     have aa:j<W.l.length:=by omega
     refine WO.cons (WC.iy hR J.1 (j) Az qC (aa) ?_)
     obtain⟨U,C⟩:=gE aa
     obtain⟨a45,ar,ad⟩:=(J.2 U (List.mem_of_getElem? C)).shape
     have aB:=(J.2 U (List.mem_of_getElem? C)).2.2
     refine WO.cons (WC.lz (.slice a45 (U.l.length) ar) hR (J.1.mono R nR) C (by rw[<-ad];rfl) nM<|oN 1<|WP.region<|oX 2 ?_)
     obtain⟨inf,pa,uY⟩:=O2
     have av:((W.l.take j).map (fun o=>o.l.length)).sum+U.l.length<=I:=by
      have:=wL (W.l.map (fun o=>o.l.length)) (j+1)
      rw[<-List.map_take,List.take_add_one,List.map_append,List.sum_append,C]at this
      simp only[Option.toList_some,List.map_cons,List.map_nil,List.sum_cons,List.sum_nil]at this
      omega
     refine WO.cons (WC.OU (m:=U.l.length) rfl kr kr ab nk gQ mM pa VW (((J.2 U (List.mem_of_getElem? C)).mono R nR).src ad) rfl (nm _ ((J.2 U (List.mem_of_getElem? C)).mono R nR).1) (by simp[List.all_flatMap,fo,vW,yB]) (by decide) av uY om rfl ?_)
     rintro aJ aN heq ak
     refine oN 1<|WP.region<|ov 34 (iN (.ofNat (j+1))) ?_ (fun _ _ _=>by rw[<-gU (show j+1<9223372036854775808 by omega)];kernel_rfl)
     refine oN 1<|⟨W.l.length-(j+1),om,rfl,rfl,j+1,aJ,om,kr,?_,?_,?_⟩
     · exact ai
     · exact(R.trans heq)
     · rw[List.take_add_one,C,List.map_append,List.sum_append,List.flatMap_append]
       simpa using ak
    ·
     refine WP.exit<|sr<|oW 2 ⟨rfl,rfl,[ae],kr,?_⟩
     refine⟨⟨⟨ae,W.l.flatMap (·.l)⟩,rfl,rfl,?_⟩,od,R⟩
     have hT:W.l.take j=W.l:=List.take_of_length_le om
     rw[hT]at ab
     exact ab.ok au.symm (by rw[List.flatMap_assoc]) (by rw[List.length_flatMap,au]) (fun x _=>rfl) om
   ·
    exact⟨0,aI,om,kr,Nat.le_refl _,(j2.trans ah),(by simpa using aj)⟩
 ·
  exact⟨0,0,om,kr,Nat.le_refl _,HE.refl _ _,(by simp)⟩
end
end Sw
namespace Sw
noncomputable section
open Go Go.Proofs Go.RowKit
set_option maxRecDepth 100000
set_option maxHeartbeats 1600000
theorem MM(aH:y5)(A B:SV fT)(hp:Ht)(nx:Nat)(ah:gA fo 2 hp nx A)(ai:gA fo 2 hp nx B):WF ex 32 [A.v,B.v] hp nx (fun v fe fg=>Ii (Ij A.l B.l) v fe fg/\nx<=fg/\HE nx hp fe):=by
 obtain⟨a1,c2,hR⟩:=ah.shape
 have lW:=ah.2.2
 rw[hR]
 obtain⟨a4,aE,ae⟩:=ai.shape
 have aO:=ai.2.2
 rw[ae]
 refine wd Tryz.f32 21 [.tmp 4,.tmp 5] fun hE=>sr<|oN 2<|WP.seq<|sr<|oX 2<|oL [.slice a1 (A.l.length) c2,.slice a4 (B.l.length) aE] fun aG aF av=>?_
 have j2:=hE.trans aF
 refine WO.cons (WC.call 9 64 ([(⟨.slice (some ⟨nx,0,none⟩) 2 2,[A,B]⟩:SV (SV fT)).v]) kf ((zI (⟨.slice (some ⟨nx,0,none⟩) 2 2,[A,B]⟩:SV (SV fT)) aG (nx+1) ⟨(gA.mO (enc:=lG) (by simp[lG]) av (by show _=[A.v,B.v];rw[hR];rw[ae];done) (by decide) om (by simp)),fun y hy=>by rcases List.mem_cons.1 hy with rfl|hy;exact ah.mono j2;rw[List.mem_singleton.1 hy];exact ai.mono j2⟩).mono ?_))
 rintro _ aM o ⟨⟨ar,rfl,aT,aP,_⟩,aI,ax⟩
 have J:=j2.trans ax
 refine oN 1<|sr<|oX 1 ?_
 refine oq 11 (qW ar 0) fun EJ Cy=>WO.nil<|cq Cy (fun aq=>?_) (fun aq=>?_)
 ·
  refine sr<|oW 3 ⟨rfl,rfl,[.slice none (0) 0,iN ar],kr,?_⟩
  exact⟨⟨⟨.slice none 0 0,[]⟩,_,rfl,sY,.inr ⟨om,rfl⟩⟩,od,J⟩
 ·
  refine WP.skip<|sr<|oX 2<|oL [.slice a1 (A.l.length) c2,.slice a4 (B.l.length) aE] fun aC ay aw=>?_
  have j:=J.trans ay
  have I:=aP (Classical.not_not.1 aq)
  have aR:=I.1 A.l (by simp)
  have aS:=I.1 B.l (by simp)
  refine WO.cons (WC.call 16 69 ([(⟨.slice (some ⟨o,0,none⟩) 2 2,[A,B]⟩:SV (SV fT)).v]) kf ((RP (⟨.slice (some ⟨o,0,none⟩) 2 2,[A,B]⟩:SV (SV fT)) aC (o+1) ⟨(gA.mO (enc:=lG) (by simp[lG]) aw (by show _=[A.v,B.v];rw[hR];rw[ae];done) (by decide) om (by simp)),fun y hy=>by rcases List.mem_cons.1 hy with rfl|hy;exact ah.mono j;rw[List.mem_singleton.1 hy];exact ai.mono j⟩ (by simp;omega)).mono ?_))
  rintro _ ab af ⟨⟨C,rfl,aj,R⟩,aJ,az⟩
  have aa:C.l=A.l++B.l:=by rw[aj];simp
  refine WO.cons (WC.call 17 65 ([C.v]) kf ((CB aH C ab (af) (R.mono (HE.refl (af) ab)) (by rw[aa,List.length_append];omega)).mono ?_))
  rintro _ ad ag ⟨an,rfl,ak,U,aK,aA⟩
  refine WO.cons (WC.call 18 68 ([an.v]) kf ((Ik an ad (ag) (U.mono (HE.refl (ag) ad))).mono ?_))
  rintro _ aN aQ ⟨⟨ao,au,rfl,al,aD⟩,aL,aB⟩
  refine oW 4 ⟨rfl,rfl,[ao.v,iN au],kr,?_⟩
  refine⟨⟨ao,au,rfl,al,?_⟩,od,(((j.trans az).trans aA).trans aB)⟩
  rcases aD with⟨h0,h1,h2⟩|⟨h0,h1⟩
  · exact .inl ⟨h0,by rw[h1,ak,aa],h2,I⟩
  · exact .inr ⟨h0,h1⟩
end
end Sw
namespace Sw
noncomputable section
open Go Go.Proofs Go.RowKit
set_option maxRecDepth 100000
set_option maxHeartbeats 1600000
def Ai(a b:fT):fT:=⟨gD .i64 (a.h_+b.h_),gD .i64 (a.hQ+b.hQ)⟩
def tG(a b:List fT):List fT:=a.flatMap fun s=>b.map (Ai s)
theorem EP(a b:List fT):(tG a b).length=a.length*b.length:=by
 induction a with
 |nil=>simp[tG]
 |cons x a ih=>
  show(b.map (Ai x)++tG a b).length=_
  rw[List.length_append,ih,List.length_map,List.length_cons,Nat.succ_mul,Nat.add_comm]
theorem VZ{A B:List fT}{i j:Nat}{x:fT}(hi:i<A.length)(hj:j<B.length):(tG (A.take i) B++(B.take j).map (Ai x)).length<(tG A B).length:=by
 rw[List.length_append,EP,EP,List.length_map,List.length_take,List.length_take,Nat.min_eq_left om,Nat.min_eq_left om]
 have h:=Nat.mul_le_mul_right B.length (show i+1<=A.length by omega)
 rw[Nat.succ_mul]at h
 omega
theorem RQ{A B:List fT}{i:Nat}{x:fT}(h:A[i]?=some x):tG (A.take (i+1)) B=tG (A.take i) B++B.map (Ai x):=by
 unfold tG
 rw[List.take_add_one,h,List.flatMap_append];simp
theorem V0(A B:SV fT)(hp:Ht)(nx:Nat)(J:gA fo 2 hp nx A)(R:gA fo 2 hp nx B):WF ex 66 [A.v,B.v] hp nx (fun v fe fg=>∃ba bb,v=.func (.func 121) #[] #[pt ba 0,pt bb 0]/\fe.get ba=some (.cells [A.v] gl.plain)/\fe.get bb=some (.cells [B.v] gl.plain)/\ba<fg/\bb<fg/\nx<=ba/\nx<=bb/\nx<=fg/\HE nx hp fe):=by
 obtain⟨a1,c2,hR⟩:=J.shape
 have lW:=J.2.2
 rw[hR]
 obtain⟨a4,I,U⟩:=R.shape
 have ab:=R.2.2
 rw[U]
 refine wd Tryz.f66 6 [.tmp 4] fun hE=>sr<|oB (.slice a1 (A.l.length) c2) [.slice a1 (A.l.length) c2] fun ad jm o=>?_
 refine oB (.slice a4 (B.l.length) I) [.slice a4 (B.l.length) I] fun aa j C=>?_
 refine oN 1<|sr<|oW 2 ⟨rfl,rfl,[.func (.func 121) #[] #[pt nx 0,pt (nx+1) 0]],kr,?_⟩
 exact⟨_,_,rfl,(j.get o),C,od,(Nat.lt_succ_self (nx+1)),om,om,od,((hE.trans jm).trans j)⟩
theorem TY(A B:SV fT)(y:Value)(J be I ba bb:Nat)(Inv:(Nat->Prop)->List fT->Ht->Nat->Prop)(Stop:Ht->Nat->Prop)(ar:Nat->Prop)(bt:ar ba)(bu:ar bb)(hp:Ht)(nx:Nat)(aH:gA fo 2 (jU [J,be,I] hp) nx A)(aI:gA fo 2 (jU [J,be,I] hp) nx B)(af:Ht)(o:Nat)(aS:af.get ba=some (.cells [A.v] gl.plain))(bp:af.get bb=some (.cells [B.v] gl.plain))(br:ba<o)(bs:bb<o)(h1:nx<=o)(bq:HE nx (jU [J,be,I] hp) (jU [J,be,I] af))(bJ:Inv ar [] af o)(hm:∀C l a b c d,Inv C l a b->HE b a c->b<=d->Inv (fun q=>C q\/(b<=q/\q<d)) l c d)(hs:∀C l x,l.length<(tG A.l B.l).length->∀a b,o<=b->HE nx (jU [J,be,I] hp) (jU [J,be,I] a)->Inv C l a b->WV ex y [.agg (fo x).toArray] a b (fun v c d=>b<=d/\HE nx (jU [J,be,I] a) (jU [J,be,I] c)/\(∀q,q<b->C q->c.get q=a.get q)/\∃t:Bool,v=.bool t/\(t=true->Inv C (l++[x]) c d)/\(t=false->Stop c d))):WF ex 121 [y,pt ba 0,pt bb 0] af o (fun _ c d=>o<=d/\HE nx (jU [J,be,I] hp) (jU [J,be,I] c)/\((∃C,Inv C (tG A.l B.l) c d)\/Stop c d)):=by
 refine wb ⟨Tryz.f121.body.getD .skip,36,[]⟩<|sr ?_
 obtain⟨a1,c2,hR⟩:=aH.shape
 have lW:=aH.2.2
 refine oZ ba (0) (.slice a1 (A.l.length) c2) nM aS (by rw[<-hR];rfl)<|oN 2<|WP.block ?_
 refine my [0,2,8,9,10] (fun m hs ns vs=>∃(fV:Nat),fV+m=A.l.length/\vs=[y,pt bb 0,.slice a1 (A.l.length) c2,iN (.ofNat (A.l.length)),iN (.ofNat fV)]/\o<=ns/\HE nx (jU [J,be,I] hp) (jU [J,be,I] hs)/\hs.get ba=some (.cells [A.v] gl.plain)/\hs.get bb=some (.cells [B.v] gl.plain)/\(∃C:Nat->Prop,C ba/\C bb/\Inv C (tG (A.l.take fV) B.l) hs ns)/\(o<=ns)) ?_ (A.l.length) ?_
 ·
  rintro xn pT ja _ ⟨fV,tP,rfl,oe,jm,bh,bj,aw,bS⟩ tQ
  have aY:=Nat.lt_of_lt_of_le br oe
  have aZ:=Nat.lt_of_lt_of_le bs oe
  refine sr ?_
  refine oq 11 (kV fV A.l.length) fun bQ bw=>WO.nil<|WP.seq<|cq bw (fun bA=>?_) (fun bA=>?_)
  ·
   refine WP.skip<|WP.seq<|WP.block<|sr ?_
   have an:fV<A.l.length:=by omega
   refine WO.cons (WC.iy hR ((aH.mono jm).ql) (fV) nk gQ (an) ?_)
   obtain⟨U,aD⟩:=gE an
   refine WO.cons (WC.ly hR ((aH.mono jm).ql) aD jT gQ<|oA [iN 0,iN 0] mM fun bM ad aT=>?_)
   have a6:=Nat.lt_of_lt_of_le aY (Nat.le_succ (ja))
   have a7:=Nat.lt_of_lt_of_le aZ (Nat.le_succ (ja))
   refine oS ja (0) (.agg (fo U).toArray) (fo U) (fo U) gQ rfl rfl aT fun bN aA aU aC=>?_
   have ay:=(aC bb om).trans (ad.get bj)
   refine WO.nil<|sr ?_
   obtain⟨aN,aO,aj⟩:=aI.shape
   have bG:=aI.2.2
   refine oZ bb (0) (.slice aN (B.l.length) aO) nM ay (by rw[<-aj];rfl)<|oN 2<|WP.block ?_
   refine my [0,2,5,8,9,10,14,15,16] (fun m hs ns vs=>∃(j:Nat),j+m=B.l.length/\vs=[y,pt bb 0,pt ja 0,.slice a1 (A.l.length) c2,iN (.ofNat (A.l.length)),iN (.ofNat fV),.slice aN (B.l.length) aO,iN (.ofNat (B.l.length)),iN (.ofNat j)]/\ja+1<=ns/\HE nx (jU [J,be,I] hp) (jU [J,be,I] hs)/\hs.get ba=some (.cells [A.v] gl.plain)/\hs.get bb=some (.cells [B.v] gl.plain)/\hs.get ja=some (.cells (fo U) gl.plain)/\(∃C:Nat->Prop,C ba/\C bb/\C (ja)/\Inv C (tG (A.l.take fV) B.l++(B.l.take j).map (Ai U)) hs ns)/\(o<=ns)) ?_ (B.l.length) ?_
   ·
    rintro bP aW R _ ⟨j,bC,rfl,ah,ae,aF,aG,bk,ax,bT⟩ bH
    have a8:=Nat.lt_of_lt_of_le a6 ah
    have a_:=Nat.lt_of_lt_of_le a7 ah
    have bc:=Nat.lt_of_lt_of_le (Nat.lt_succ_self (ja)) ah
    refine sr ?_
    refine oq 17 (kV j B.l.length) fun bR bz=>WO.nil<|WP.seq<|cq bz (fun bB=>?_) (fun bB=>?_)
    ·
     refine WP.skip<|WP.seq<|WP.block<|sr ?_
     have ao:j<B.l.length:=by omega
     refine WO.cons (WC.iy aj ((aI.mono ae).ql) (j) nk gQ (ao) ?_)
     obtain⟨aa,aE⟩:=gE ao
     refine WO.cons (WC.ly aj ((aI.mono ae).ql) aE jT gQ<|oA [iN 0,iN 0] mM fun bO ab aV=>?_)
     have bd:=Nat.lt_of_lt_of_le a8 (Nat.le_succ (R))
     have bf:=Nat.lt_of_lt_of_le a_ (Nat.le_succ (R))
     have bg:=Nat.lt_of_lt_of_le bc (Nat.le_succ (R))
     refine oS R (0) (.agg (fo aa).toArray) (fo aa) (fo aa) gQ rfl rfl aV fun aX aB az ai=>?_
     have av:=(ae.trans (ab.jU (l:=[J,be,I]))).trans (aB.jU (l:=[J,be,I]))
     have ag:=(ai ja om).trans (ab.get bk)
     refine WO.nil<|sr<|oX 2<|oZ ja 0 (iN U.h_) fP ag rfl<|oX 1<|oZ R 0 (iN aa.h_) fP az rfl<|oX 2<|oZ ja (0+1) (iN U.hQ) fP ag rfl<|oX 1<|oZ R (0+1) (iN aa.hQ) fP az rfl<|oX 2 ?_
     obtain⟨C,aP,aQ,aR,bo⟩:=ax
     refine WO.cons (WC.Qa 32 y [.agg ⟨[iN (gD .i64 ((U.h_)+(aa.h_))),iN (gD .i64 ((U.hQ)+(aa.hQ)))]⟩] kf ((hs _ _ (Ai U aa) (VZ (x:=U) om om) aX (R+1) om av (hm _ _ _ _ _ _ bo (((HE.refl (R) aW).trans ab).trans aB) om)).mono ?_))
     rintro _ bE aq ⟨bD,aL,MN,au,rfl,aJ,aK⟩
     have al:=av.trans aL
     have aM:au=true↔au=true:=Iff.rfl
     refine oq 33 (nN aM) fun bI bn=>WO.nil<|cq bn (fun ak=>?_) (fun ak=>?_)
     ·
      refine WP.ret ⟨rfl,rfl,[],kr,?_⟩
      exact⟨(show o<=aq by omega),al,.inr (aK (by simpa using ak))⟩
     ·
      refine WP.skip<|WP.region<|ov 34 (iN (.ofNat (j+1))) ?_ (fun _ _ _=>by rw[<-gU (show j+1<9223372036854775808 by omega)];kernel_rfl)
      refine oN 1<|⟨B.l.length-(j+1),om,rfl,rfl,j+1,om,kr,?_,?_,?_,?_,?_,?_,?_⟩
      · exact od
      · exact al
      · exact((MN _ bd (.inl aP)).trans ((ai ba om).trans (ab.get aF)))
      · exact((MN _ bf (.inl aQ)).trans ((ai bb om).trans (ab.get aG)))
      · exact((MN _ bg (.inl aR)).trans ag)
      · rw[List.take_add_one,aE];simp only[Option.toList_some,List.map_append,List.map_cons,List.map_nil,<-List.append_assoc];exact⟨_,.inl aP,.inl aQ,.inl aR,aJ (Classical.not_not.1 ak)⟩
      · show o<=aq;omega
    ·
     refine WP.exit<|WP.region<|ov 35 (iN (.ofNat (fV+1))) ?_ (fun _ _ _=>by rw[<-gU (show fV+1<9223372036854775808 by omega)];kernel_rfl)
     refine oN 1<|⟨A.l.length-(fV+1),om,rfl,rfl,fV+1,om,kr,?_,?_,?_,?_,?_,?_⟩
     · exact od
     · exact ae
     · exact aF
     · exact aG
     · rw[RQ aD];have hT:B.l.take j=B.l:=List.take_of_length_le om;rw[hT]at ax;exact ax.imp fun _ h=>⟨h.1,h.2.1,h.2.2.2⟩
     · first|omega|(dsimp only;omega)
   ·
    exact⟨0,om,kr,Nat.le_refl _,((jm.trans (ad.jU (l:=[J,be,I]))).trans (aA.jU (l:=[J,be,I]))),((aC ba om).trans (ad.get bh)),ay,aU,(by rw[List.take_zero,List.map_nil,List.append_nil];obtain⟨C,bL,hb,bK⟩:=aw;exact⟨_,.inl bL,.inl hb,.inr ⟨om,(Nat.lt_succ_self (ja))⟩,hm _ _ _ _ _ _ bK (((HE.refl (ja) pT).trans ad).trans aA) od⟩),(show o<=ja+1 by omega)⟩
  ·
   refine WP.exit<|⟨rfl,rfl,[],kr,?_⟩
   have hi:A.l.take fV=A.l:=List.take_of_length_le om
   rw[hi]at aw
   exact⟨(show o<=ja by omega),jm,.inl (aw.imp fun _ h=>h.2.2)⟩
 ·
  exact⟨0,om,kr,Nat.le_refl _,bq,aS,bp,(by rw[List.take_zero];exact⟨_,bt,bu,bJ⟩),nR⟩
end
end Sw
namespace Sw
noncomputable section
open Go Go.Proofs Go.RowKit
set_option maxRecDepth 100000
set_option maxHeartbeats 1600000
section
variable {α:Type}{enc:α->List Value}{n B gr nx:Nat}{hp fe:Ht}{J:SV α}
theorem lU.r_(h:lU enc n B gr hp nx J)(he:∀c,B<=c->fe.get c=hp.get c):lU enc n B gr fe nx J:=by
 rcases h with h|⟨b,ms,h1,h2,h3,h4,C,I,j,R,o⟩
 · exact .inl h
 · exact .inr ⟨b,ms,h1,h2,(he b j).trans h3,(he gr o).trans h4,C,I,j,R,o⟩
theorem lU.mu(h:lU enc n B gr hp nx J)(hj:J.l≠[]):B<=gr/\gr<nx:=by
 rcases h with h|⟨b,ms,h1,h2,h3,h4,C,I,R,j,o⟩
 · exact absurd h.1 hj
 · exact⟨o,j⟩
theorem gA.Di{s:SV α}{L:List Nat}(h:gA enc n hp nx s)(o:∀q∈L,∀m,hp.get q≠some (.cells (s.l.flatMap enc) m)):gA enc n (jU L hp) nx s:=by
 refine⟨h.1,?_,h.2.2⟩
 rcases h.2.1 with k|⟨q,cap,m,h1,h2,h3,h4,j⟩
 · exact .inl k
 · refine .inr ⟨q,cap,m,h1,h2,h3,?_,j⟩
   rw[rG L hp fun k=>o q k _ h4];exact h4
theorem T0(l:List fT):(l.flatMap fo).length=2*l.length:=by
 induction l with
 |nil=>rfl
 |cons x l ih=>rw[List.flatMap_cons,List.length_append,ih];show 2+_=_;simp;omega
theorem CD{hp:Ht}{q:Nat}{v:Value}{j:gl}(h:hp.get q=some (.cells [v] j))(l:List fT)(m:gl):hp.get q≠some (.cells (l.flatMap fo) m):=fun k=>by
 rw[h]at k
 have e:[v]=l.flatMap fo:=by injection k with k;injection k
 have:=congrArg List.length e
 rw[T0]at this
 simp at this;omega
end
def ER(j be o N:Nat)(I:sL Tm)(C:Nat->Prop)(l:List fT)(a:Ht)(b:Nat):Prop:=∃(J:SV fT) (gr:Nat),a.get j=some (.cells [J.v] gl.plain)/\a.get be=some (.cells [iN 0] gl.plain)/\a.get o=some (.loop I)/\J.l=l/\(∀s∈l,tS s)/\lU fo 2 N gr a b J/\(∀q,C q->q<b/\q∉[j,be,o]/\q≠gr)/\(gr=j\/(N<=gr/\gr<b))/\N<=b
def V3(o be j N:Nat)(C:sL Tm)(a:Ht)(b:Nat):Prop:=a.get o=some (.cells [.slice none 0 0] gl.plain)/\(∃z:Int,(z=2\/z=10)/\a.get be=some (.cells [iN z] gl.plain))/\a.get j=some (.loop {C with state:=.done,pending:=some .ret})/\N<=b
theorem ER.mono{I be C N:Nat}{R:sL Tm}(h1:I<N)(h2:be<N)(h3:C<N):∀(o:Nat->Prop) (l:List fT) (a:Ht) (b:Nat) (c:Ht) (d:Nat),ER I be C N R o l a b->HE b a c->b<=d->ER I be C N R (fun q=>o q\/(b<=q/\q<d)) l c d:=by
 rintro o l a b c d ⟨J,gr,U,aa,ab,ad,ae,af,ag,ah,ai⟩ he hd
 refine⟨J,gr,he.get U om,he.get aa om,he.get ab om,ad,ae,af.mono he hd,fun q j=>?_,om,om⟩
 rcases j with j|j
 · have:=ag q j
   exact⟨om,this.2⟩
 · exact⟨j.2,by simp;omega,om⟩
def MO(A B:List fT)(l:List fT):Prop:=l=wa (tG (wa A) (wa B))/\l.length<=4096/\Ah [A,B]/\∀s∈tG (wa A) (wa B),tS s
theorem gA.Xt{hp fe:Ht}{nx b:Nat}{s:SV fT}{v:Value}{I:gl}(h:gA fo 2 hp nx s)(C:hp.get b=some (.cells [v] I))(o:∀q,q≠b->fe.get q=hp.get q):gA fo 2 fe nx s:=by
 refine⟨h.1,?_,h.2.2⟩
 rcases h.2.1 with k|⟨q,cap,m,h1,h2,h3,h4,j⟩
 · exact .inl k
 · refine .inr ⟨q,cap,m,h1,h2,h3,?_,j⟩
   have:q≠b:=fun e=>by rw[e]at h4;exact CD C _ _ h4
   rw[o q this];exact h4
theorem gA.Zc{hp j:Ht}{nx r:Nat}{s:SV fT}(h:gA fo 2 hp nx s)(hd:hp.get r=some (.deferred (some [])))(hx:j=hp.set r (some (.deferred none))):gA fo 2 j nx s:=by
 refine⟨h.1,?_,h.2.2⟩
 rcases h.2.1 with k|⟨q,cap,m,h1,h2,h3,h4,o⟩
 · exact .inl k
 · refine .inr ⟨q,cap,m,h1,h2,h3,?_,o⟩
   have:q≠r:=fun e=>by rw[e,hd]at h4;cases h4
   rw[hx,Tr.gC _ _ this];exact h4
theorem pK:ex.T.agg 51=some false:=kr
theorem qE:ex.T.size 51=some 1:=kr
theorem GU:ex.T.zero 48=some (.slice none (0) 0):=kr
theorem MP:ex.T.zero 51=some (iN 0):=kr
theorem Qn(e4:y5)(A B:SV fT)(hp:Ht)(nx:Nat)(cQ:gA fo 2 hp nx A)(cR:gA fo 2 hp nx B):WF ex 31 [A.v,B.v] hp nx (fun v fe fg=>Ii (MO A.l B.l) v fe fg/\nx<=fg/\HE nx hp fe):=by
 obtain⟨a1,c2,hR⟩:=cQ.shape
 have lW:=cQ.2.2
 rw[hR]
 obtain⟨a4,c5,cy⟩:=cR.shape
 have nFn:=cR.2.2
 rw[cy]
 refine WF.Vc (fi:=⟨Tryz.f31.body.getD .skip,42,[.cell 4 48,.cell 5 51]⟩) kr kr kr rfl rfl ?_
 have hE:=HE.refl nx hp
 refine sr<|oA [.slice none (0) 0] GU fun nFy jm nD_=>?_
 have e5:=hE.trans jm nR
 have cD:=Nat.le_trans nR (Nat.le_succ (nx))
 refine oA [iN 0] MP fun nFk cn nEa=>?_
 have e6:=e5.trans cn cD
 have nEb:=cn.get nD_ (Nat.lt_succ_self (nx))
 have cF:=Nat.lt_of_lt_of_le (Nat.lt_succ_self (nx)) (Nat.le_succ (nx+1))
 have cE:=Nat.le_trans cD (Nat.le_succ (nx+1))
 refine WO.nil<|WP.seq<|sr<|oX 2<|oL [.slice a1 (A.l.length) c2,.slice a4 (B.l.length) c5] fun nEu bj nEc=>?_
 have bc:=e6.trans bj cE
 have nEd:=bj.get nEb cF
 have cG:=Nat.lt_of_lt_of_le cF (Nat.le_succ (nx+1+1))
 have nEe:=bj.get nEa (Nat.lt_succ_self (nx+1))
 have cH:=Nat.lt_of_lt_of_le (Nat.lt_succ_self (nx+1)) (Nat.le_succ (nx+1+1))
 have aU:=Nat.le_trans cE (Nat.le_succ (nx+1+1))
 refine WO.cons (WC.call 10 64 ([(⟨.slice (some ⟨(nx+1+1),0,none⟩) 2 2,[A,B]⟩:SV (SV fT)).v]) kf ((zI (⟨.slice (some ⟨(nx+1+1),0,none⟩) 2 2,[A,B]⟩:SV (SV fT)) nEu (nx+1+1+1) ⟨(gA.mO (enc:=lG) (by simp[lG]) nEc (by show _=[A.v,B.v];rw[hR];rw[cy];done) (by decide) om (by simp)),fun y hy=>by rcases List.mem_cons.1 hy with rfl|hy;exact cQ.mono bc aU;rw[List.mem_singleton.1 hy];exact cR.mono bc aU⟩).mono ?_))
 rintro _ nFl nEA ⟨⟨I,rfl,nFA,hz,_⟩,bn,bk⟩
 have e7:=bc.trans bk aU
 have nEf:=bk.get nEd cG
 have cI:=Nat.lt_of_lt_of_le cG bn
 have nEg:=bk.get nEe cH
 have cJ:=Nat.lt_of_lt_of_le cH bn
 have aV:=Nat.le_trans aU bn
 refine oS (nx+1) (0) (iN I) [iN I] [iN I] qE rfl rfl nEg fun qq nEm aE nEq=>?_
 have bd:=e7.trans nEm om
 have ck:=(nEq nx om).trans nEf
 refine WO.nil<|sr<|oZ (nx+1) (0) (iN I) pK aE rfl ?_
 refine oq 12 (qW I 0) fun nFs nET=>WO.nil<|cq nET (fun cN=>?_) (fun cN=>?_)
 ·
  refine WP.seq<|WP.sM [⟨[0],[0],some 1⟩,⟨[],[0],some 2⟩,⟨[],[],none⟩] kr _ rfl<|WD.ln<|WN.ic rfl (WC.jX (nx+1) (0) (iN I) kr pK aE rfl<|WN.nil ⟨?_,?_⟩)
  ·
   refine qe (nx+1) 0 (iN I) pK aE rfl (iQ ..) ?_
   exact jh.nil
  refine WC.at rfl (WC.vi nx (0) (.slice none (0) 0) [.slice none (0) 0] [.slice none (0) 0] [.slice none (0) 0] 1 rfl kr kr qC rfl rfl ck rfl rfl rfl ?_)
  obtain⟨um,cz,nEn,nEh,nEr⟩:=stored qq nx (.cells [.slice none (0) 0] gl.plain)
  rw[cz];clear cz
  have uo:=bd.trans nEn om
  have xX:=(nEr (nx+1) om).trans aE
  refine WD.ln<|WN.nil ⟨?_,?_⟩
  ·
   refine qe (nx+1) 0 (iN I) pK xX rfl (iQ ..) ?_
   exact jh.nil
  refine WC.at rfl (WC.vi (nx+1) (0) (iN I) [iN I] [iN I] [iN I] 1 rfl kr kr qE rfl rfl xX rfl rfl rfl ?_)
  obtain⟨nFm,cA,nEo,nEi,nEs⟩:=stored um (nx+1) (.cells [iN I] gl.plain)
  rw[cA];clear cA
  have nD5:=uo.trans nEo om
  have nEj:=(nEs nx om).trans nEh
  refine WD.last<|WN.nil ⟨?_,?_⟩
  ·
   exact jh.nil
  refine WP.ret ⟨rfl,.inl ⟨rfl,[.slice none (0) 0,iN I],(qd (by rw[show(aaj (.tmp 4)).run _=pt nx 0 from by kernel_rfl];exact ko nM nEj rfl) (by rw[show(aaj (.tmp 5)).run _=pt (nx+1) 0 from by kernel_rfl];exact ko pK nEi rfl)),?_⟩⟩
  exact⟨⟨⟨.slice none 0 0,[]⟩,_,rfl,sY,.inr ⟨om,rfl⟩⟩,aV,nD5⟩
 ·
  refine WP.skip<|sr<|oX 1 ?_
  have b9:=hz (Classical.not_not.1 cN)
  have nEF:=b9.1 A.l (by simp)
  have nEG:=b9.1 B.l (by simp)
  refine WO.cons (WC.call 15 65 ([A.v]) (fun _ _ _=>by(try rw[hR]);kernel_rfl) ((CB e4 A qq (nEA) (cQ.mono bd aV) om).mono ?_))
  rintro _ Jp br ⟨U,rfl,aJ,ag,bo,bl⟩
  have b_:=bd.trans bl aV
  have nEk:=bl.get ck cI
  have cK:=Nat.lt_of_lt_of_le cI bo
  have nEl:=bl.get aE cJ
  have cL:=Nat.lt_of_lt_of_le cJ bo
  have bq:=Nat.le_trans aV bo
  have nEv:=HE.refl (br) Jp
  have cO:=Nat.le_refl (br)
  refine oX 1<|WO.cons (WC.call 17 65 ([B.v]) (fun _ _ _=>by(try rw[cy]);kernel_rfl) ((CB e4 B Jp (br) (cR.mono b_ bq) om).mono ?_))
  rintro _ cw bs ⟨aa,rfl,aK,ah,aO,aN⟩
  have ca:=b_.trans aN bq
  have cm:=aN.get nEk cK
  have bZ:=Nat.lt_of_lt_of_le cK aO
  have bC:=aN.get nEl cL
  have b0:=Nat.lt_of_lt_of_le cL aO
  have bR:=nEv.trans aN cO
  have aZ:=Nat.le_trans cO aO
  have bX:=Nat.le_trans bq aO
  have bS:=HE.refl (bs) cw
  have a6:=Nat.le_refl (bs)
  refine oN 2<|WP.seq<|sr<|oX 1 ?_
  obtain⟨nFb,nFd,ey⟩:=ag.shape
  have nEP:=ag.2.2
  refine ov 19 (iN (.ofNat (U.l.length))) ?_ (fun _ _ _=>by rw[ey];kernel_rfl)
  refine oX 1 ?_
  obtain⟨nFc,nFe,ez⟩:=ah.shape
  have nEQ:=ah.2.2
  refine ov 21 (iN (.ofNat (aa.l.length))) ?_ (fun _ _ _=>by rw[ez];kernel_rfl)
  refine oX 1 ?_
  refine oq 23 (nz 65536 (gD .i64 (.ofNat U.l.length*.ofNat aa.l.length))) fun nFf nEB=>WO.nil<|cq nEB (fun cM=>?_) (fun cM=>?_)
  ·
   refine sr<|oS nx (0) (.slice none (0) 0) [.slice none (0) 0] [.slice none (0) 0] qC rfl rfl cm fun nE1 d_ dc ef=>?_
   have cS:=ca.trans d_ om
   have dd:=(ef (nx+1) om).trans bC
   refine oS (nx+1) (0) (iN 2) [iN 2] [iN 2] qE rfl rfl dd fun nE2 ea de eg=>?_
   have cT:=cS.trans ea om
   have df:=(eg nx om).trans dc
   refine wr ⟨rfl,.inl ⟨rfl,[.slice none (0) 0,iN 2],(qd (by rw[show(aaj (.tmp 4)).run _=pt nx 0 from by kernel_rfl];exact ko nM df rfl) (by rw[show(aaj (.tmp 5)).run _=pt (nx+1) 0 from by kernel_rfl];exact ko pK de rfl)),?_⟩⟩
   exact⟨⟨⟨.slice none 0 0,[]⟩,_,rfl,sY,.inr ⟨om,rfl⟩⟩,bX,cT⟩
  ·
   refine WP.skip<|WP.seq<|sr<|oX 2<|WO.cons (WC.call 26 66 ([U.v,aa.v]) kf ((V0 U aa cw (bs) (ag.mono bR aZ) (ah.mono bS a6)).mono ?_))
   rintro _ bM j ⟨ba,bb,rfl,nEI,nEJ,ct,cu,nFv,nFw,ay,aj⟩
   have cU:=ca.trans aj bX
   have dg:=aj.get cm bZ
   have eF:=Nat.lt_of_lt_of_le bZ ay
   have dh:=aj.get bC b0
   have aW:=Nat.lt_of_lt_of_le b0 ay
   have ej:=bR.trans aj aZ
   have eN:=Nat.le_trans aZ ay
   have en:=bS.trans aj a6
   have eO:=Nat.le_trans a6 ay
   refine WO.nil<|WP.block ?_
   obtain⟨nE_,nEV⟩:∃q,q=j:=⟨_,rfl⟩
   refine WP.Mp (.func (.func 121) #[] #[pt ba 0,pt bb 0]) kr fun aY a8=>?_
   obtain⟨ar,bW⟩:∃h:Ht,h=(bM.set (j) (some (.deferred (some [])))).set (j+1) (some (.loop aY)):=⟨_,rfl⟩
   rw[<-bW]
   have eV:ar.get (j)=some (.deferred (some [])):=by rw[bW];exact(Tr.gC _ _ om).trans (Tr.hY ..)
   have cr:ar.get (j+1)=some (.loop aY):=by rw[bW];exact Tr.hY ..
   have aF:HE (j) bM ar:=by rw[bW];exact(HE.set _ _ nR).trans (HE.set _ _ (Nat.le_succ _)) nR
   have bh:=aF.get dg eF
   have aL:=aF.get dh aW
   have nD6:=aF.get nEI ct
   have nD7:=aF.get nEJ cu
   have eR:HE nx hp ar:=cU.trans aF om
   have nFj:nx+2<=j:=by have:=aW;omega
   have nD8:gA fo 2 (jU [nx,((nx+1)),(j+1)] ar) (j+1+1) U:=(((ag.mono ej eN)).mono aF om).Di (by
    intro q o m
    rcases List.mem_cons.1 o with rfl|o
    · exact CD bh _ _
    rcases List.mem_cons.1 o with rfl|o
    · exact CD aL _ _
    · rw[List.mem_singleton.1 o,cr];intro h;cases h)
   have nD9:gA fo 2 (jU [nx,((nx+1)),(j+1)] ar) (j+1+1) aa:=(((ah.mono en eO)).mono aF om).Di (by
    intro q o m
    rcases List.mem_cons.1 o with rfl|o
    · exact CD bh _ _
    rcases List.mem_cons.1 o with rfl|o
    · exact CD aL _ _
    · rw[List.mem_singleton.1 o,cr];intro h;cases h)
   have nE9:(tG U.l aa.l).length<=65536:=by
    have ha:U.l.length<=4096:=by rw[aJ];exact Nat.le_trans (Kh _) nEF
    have hb:aa.l.length<=4096:=by rw[aK];exact Nat.le_trans (Kh _) nEG
    have hm:=Nat.mul_le_mul ha hb
    rw[EP]
    have hw:gD .i64 (.ofNat U.l.length*.ofNat aa.l.length)=.ofNat (U.l.length*aa.l.length):=wrapN (n:=U.l.length*aa.l.length) om
    have o:=cM
    rw[hw]at o
    have nFz:¬(65536<((U.l.length*aa.l.length:Nat):Int)):=o
    omega
   have Bl:I=0:=Classical.not_not.1 cN
   refine(WV.func (f:=121) (show WF ex 121 (.func (.yield (j+1)) #[] #[]::(#[pt ba 0,pt bb 0]:Array Value).toList) ar (j+1+1) _ from(TY U aa (.func (.yield (j+1)) #[] #[]) (nx) ((nx+1)) (j+1) ba bb (ER (nx) ((nx+1)) (j+1) (j+1+1) aY) (V3 (nx) ((nx+1)) (j+1) (j+1+1) aY) (fun q=>q=ba\/q=bb) (.inl rfl) (.inr rfl) ar (j+1+1) nD8 nD9 ar (j+1+1) nD6 nD7 (by have:=ct;omega) (by have:=cu;omega) nR (HE.refl _ _) ?_ (ER.mono om om om) ?_))).mono ?_
   · refine⟨⟨.slice none 0 0,[]⟩,nx,bh,(by rw[aL,Bl]),cr,rfl,(fun _ h=>by cases h),lU.nil,fun q o=>?_,.inl rfl,Nat.le_refl _⟩
     have:=aW;have:=ct;have:=cu
     rcases o with rfl|rfl<;>exact⟨om,by simp;omega,om⟩
   ·
    rintro Pr l x jz a b hb nFu ⟨J,gr,cB,cC,b7,bp,k5,k6,eB,k8,k9⟩
    have nFt:J.l.length<=65536:=by rw[bp];omega
    have nEL:nx<(j+1+1):=by omega
    have nEK:((nx+1))<(j+1+1):=by omega
    refine WV.round (aY.tmps.set 27 (.agg (fo x).toArray)) b7 rfl (by rw[a8]) (by rw[a8];rfl) ?_
    subst a8
    have eo:=HE.refl (b) a
    have eP:=Nat.le_refl (b)
    refine WP.region<|oA [iN 0,iN 0] mM fun nE3 ak di=>?_
    have cV:=(HE.refl b (jU [nx,((nx+1)),(j+1),gr] a)).trans (ak.jU (l:=[nx,((nx+1)),(j+1),gr])) nR
    have dj:=ak.get cB (show nx<b by omega)
    have b3:=Nat.lt_of_lt_of_le (show nx<b by omega) (Nat.le_succ (b))
    have dm:=ak.get cC (show(nx+1)<b by omega)
    have b4:=Nat.lt_of_lt_of_le (show(nx+1)<b by omega) (Nat.le_succ (b))
    have dn:=ak.get b7 (show(j+1)<b by omega)
    have b5:=Nat.lt_of_lt_of_le (show(j+1)<b by omega) (Nat.le_succ (b))
    have ep:=eo.trans ak eP
    have aT:=Nat.le_trans nR (Nat.le_succ (b))
    refine oS b (0) (.agg (fo x).toArray) (fo x) (fo x) gQ rfl rfl di fun nE4 bK dp aP=>?_
    have cW:=cV.trans (bK.jU (l:=[nx,((nx+1)),(j+1),gr])) om
    have et:=ep.trans bK om
    have dq:=(aP nx om).trans dj
    have dr:=(aP (nx+1) om).trans dm
    have dt:=(aP (j+1) om).trans dn
    refine WO.nil<|⟨rfl,dt,fun eW nEN a7=>?_⟩
    have nEH:lU fo 2 (j+1+1) gr eW (b+1) J:=(k6.mono et (show b<=b+1 by omega)).r_ (fun q o=>a7 q om)
    have cX:=cW.trans (HE.nW (B:=b+1) (l:=[nx,((nx+1)),(j+1),gr]) fun q _ o=>a7 q fun h=>o (by rw[h];simp)) aT
    have du:=(a7 nx om).trans dq
    have dv:=(a7 (nx+1) om).trans dr
    have bD:=(a7 b om).trans dp
    refine WP.block<|WP.seq<|sr<|WO.cons (WC.jb b (0) (fo x) kr jT gQ bD rfl<|WO.cons (WC.call 29 67 ([.agg (fo x).toArray]) kf ((EN x eW (b+1)).mono ?_)))
    rintro _ nE5 R ⟨⟨C,rfl,eA,ee⟩,an,ab⟩
    have cY:=cX.trans (ab.jU (l:=[nx,((nx+1)),(j+1),gr])) aT
    have dw:=ab.get du b3
    have eG:=Nat.lt_of_lt_of_le b3 an
    have dx:=ab.get dv b4
    have eH:=Nat.lt_of_lt_of_le b4 an
    have dy:=ab.get nEN b5
    have eI:=Nat.lt_of_lt_of_le b5 an
    have dz:=ab.get bD (Nat.lt_succ_self (b))
    have au:=Nat.le_trans aT an
    have c_:=nEH.mono ab an
    refine oS (nx+1) (0) (iN C) [iN C] [iN C] qE rfl rfl dx fun bN nEW ai ao=>?_
    have bw:=cY.trans (HE.nW (B:=R) (l:=[nx,((nx+1)),(j+1),gr]) fun q _ o=>ao q fun h=>o (by rw[h];simp)) au
    have bA:=c_.r_ (fe:=bN) (fun q o=>ao q om)
    have aM:=(ao nx om).trans dw
    have bE:=(ao (j+1) om).trans dy
    have dA:=(ao b om).trans dz
    refine WO.nil<|sr<|oZ (nx+1) (0) (iN C) pK ai rfl ?_
    refine oq 31 (qW C 0) fun nFg nEC=>WO.nil<|cq nEC (fun bu=>?_) (fun bu=>?_)
    ·
     refine WP.seq<|WP.sM [⟨[0],[0],some 1⟩,⟨[],[0],some 2⟩,⟨[],[],none⟩] kr _ rfl<|WD.ln<|WN.ic rfl (WC.jX (nx+1) (0) (iN C) kr pK ai rfl<|WN.nil ⟨?_,?_⟩)
     ·
      refine qe (nx+1) 0 (iN C) pK ai rfl (iQ ..) ?_
      exact jh.nil
     refine WC.at rfl (WC.vi nx (0) (.slice none (0) 0) [J.v] [.slice none (0) 0] [.slice none (0) 0] 1 rfl kr kr qC rfl rfl aM rfl rfl rfl ?_)
     obtain⟨bO,bU,nEX,dB,aA⟩:=stored bN nx (.cells [.slice none (0) 0] gl.plain)
     rw[bU];clear bU
     have cZ:=bw.trans (HE.nW (B:=R) (l:=[nx,((nx+1)),(j+1),gr]) fun q _ o=>aA q fun h=>o (by rw[h];simp)) au
     have da:=bA.r_ (fe:=bO) (fun q o=>aA q om)
     have bG:=(aA (nx+1) om).trans ai
     have dC:=(aA (j+1) om).trans bE
     refine WD.ln<|WN.nil ⟨?_,?_⟩
     ·
      refine qe (nx+1) 0 (iN C) pK bG rfl (iQ ..) ?_
      exact jh.nil
     refine WC.at rfl (WC.vi (nx+1) (0) (iN C) [iN C] [iN C] [iN C] 1 rfl kr kr qE rfl rfl bG rfl rfl rfl ?_)
     obtain⟨eh,bV,nEY,dD,aB⟩:=stored bO (nx+1) (.cells [iN C] gl.plain)
     rw[bV];clear bV
     have bx:=cZ.trans (HE.nW (B:=R) (l:=[nx,((nx+1)),(j+1),gr]) fun q _ o=>aB q fun h=>o (by rw[h];simp)) au
     have nEU:=da.r_ (fe:=eh) (fun q o=>aB q om)
     have dE:=(aB nx om).trans dB
     have dF:=(aB (j+1) om).trans dC
     refine WD.last<|WN.nil ⟨?_,?_⟩
     ·
      exact jh.nil
     refine WP.ret ⟨rfl,dF,fun nEO cp ad=>⟨(show b<=R by omega),(HE.nW fun q o hn=>(ad q (fun h=>hn (by rw[h];simp))).trans (bx.qV om (by simp at hn⊢;omega))),(fun q o cj=>by obtain⟨p1,bt,p3⟩:=eB q cj;exact(ad q (fun h=>bt (by rw[h];simp))).trans (bx.qV o (by simp at bt⊢;omega))),false,rfl,(fun h=>by cases h),fun _=>⟨(ad _ om).trans dE,⟨C,.inr (ee.resolve_left bu),(ad _ om).trans dD⟩,cp,(show(j+1+1)<=R by omega)⟩⟩⟩
    ·
     refine WP.skip<|WP.region<|oZ nx (0) (J.v) nM aM rfl<|WO.cons (WC.jb b (0) (fo x) kr jT gQ dA rfl<|oL [iN x.h_,iN x.hQ] fun nE6 al dG=>?_)
     have c0:=bw.trans (al.jU (l:=[nx,((nx+1)),(j+1),gr])) au
     have dH:=al.get aM eG
     have dI:=al.get ai eH
     have dJ:=al.get bE eI
     have bY:=Nat.le_trans au (Nat.le_succ (R))
     have db:=bA.mono al (Nat.le_succ (R))
     obtain⟨inf,pa,uY⟩:=A8
     refine WO.cons (WC.Mn (enc:=fo) (J:=J) x rfl kr kr db (tC _) dG rfl nk gQ mM pa rfl rfl uY om om rfl ?_)
     rintro cP jN oG nEE bf xF nEM tD eU nEp
     have c3:=c0.trans (HE.nW (B:=R+1) (l:=[nx,((nx+1)),(j+1),gr]) fun q o hn=>nEM q o fun _ h=>hn (by rw[h];simp)) bY
     have eD:=Nat.le_trans bY xF
     have dK:=(tD _ om).trans dH
     have dL:=(tD _ om).trans dI
     have dM:=(tD _ om).trans dJ
     have ch:=eU.ok (tC _) (by rw[bf,List.length_append];simp;omega)
     refine oS nx (0) (cP.v) [cP.v] [cP.v] qC ch.cells (Bool.and_eq_true_iff.2 ⟨rfl,by rw[List.all_cons,ch.one];rfl⟩) dK fun ei nEZ dN aC=>?_
     have bz:=c3.trans (HE.nW (B:=oG) (l:=[nx,((nx+1)),(j+1),gr]) fun q _ o=>aC q fun h=>o (by rw[h];simp)) eD
     have bB:=eU.r_ (fe:=ei) (fun q o=>aC q om)
     have dO:=(aC (nx+1) om).trans dL
     have dP:=(aC (j+1) om).trans dM
     refine WO.nil ?_
     have eX:C=0:=Classical.not_not.1 bu
     refine⟨rfl,dP,fun nEO cp ad=>⟨(show b<=oG by omega),(HE.nW fun q o hn=>(ad q (fun h=>hn (by rw[h];simp))).trans (bz.qV om (by simp at hn⊢;omega))),(fun q o cj=>by obtain⟨p1,bt,p3⟩:=eB q cj;exact(ad q (fun h=>bt (by rw[h];simp))).trans (bz.qV o (by simp at bt⊢;omega))),true,rfl,fun _=>⟨cP,nEE,(ad _ om).trans dN,(by rw[(ad _ om).trans dO,eX]),cp,by rw[bf,bp],?_,bB.r_ (fun q o=>ad q om),fun q cj=>?_,.inr (bB.mu (by rw[bf];simp)),(show(j+1+1)<=oG by omega)⟩,(fun h=>by cases h)⟩⟩
     · intro s hs;rcases List.mem_append.1 hs with hs|hs;exact k5 s hs;rw[List.mem_singleton.1 hs];exact eA.1 eX
     · obtain⟨p1,bt,p3⟩:=eB q cj;exact⟨(show q<oG by omega),bt,by rcases nEp with⟨_,h⟩|h;rw[h];exact p3;omega⟩
   ·
    rintro _ aS af ⟨nFx,bL,dZ⟩
    have nEL:nx<(j+1+1):=by omega
    have nEK:((nx+1))<(j+1+1):=by omega
    rcases dZ with⟨Pr,J,gr,cB,cC,b7,bp,k5,k6,eB,k8,k9⟩|⟨cB,⟨z,nES,cC⟩,b7,bp⟩
    ·
     refine⟨aY,0,b7,(fun h=>by rw[a8]at h;cases h),by rw[a8];rfl,?_⟩
     obtain⟨aq,a_⟩:∃h:Ht,h=aS.set (j+1) (some (.loop {aY with state:=.exhausted})):=⟨_,rfl⟩
     rw[<-a_]
     have ae:∀q,q≠(j+1)->aq.get q=aS.get q:=fun q o=>by rw[a_];exact Tr.gC _ _ o
     have cb:HE nx hp aq:=fun q o=>(ae q om).trans ((bL.qV om (by simp;omega)).trans (eR q o))
     have eC:=(ae (nx) om).trans cB
     have kE:=(ae ((nx+1)) om).trans cC
     have kD:=(ae (j) om).trans ((bL.qV om (by simp;omega)).trans eV)
     have kG:=k6.r_ (fe:=aq) (fun q o=>ae q om)
     have bg:=kG.ok (tC _) (by rw[bp];omega)
     refine sr ?_
     obtain⟨eY,eZ,bT⟩:=bg.shape
     have nER:=bg.2.2
     refine oZ nx (0) (.slice eY (J.l.length) eZ) nM eC (by rw[<-bT];rfl)<|WO.cons (WC.call 38 65 ([J.v]) (fun _ _ _=>by(try rw[bT]);kernel_rfl) ((CB e4 J aq (af) bg (by rw[bp];omega)).mono ?_))
     rintro _ bP aX ⟨b8,rfl,cf,b6,az,aw⟩
     have c6:=cb.trans aw (show nx<=af by omega)
     have dQ:=aw.get eC (show nx<af by omega)
     have eJ:=Nat.lt_of_lt_of_le (show nx<af by omega) az
     have dR:=aw.get kE (show(nx+1)<af by omega)
     have eK:=Nat.lt_of_lt_of_le (show(nx+1)<af by omega) az
     have dS:=aw.get kD (show j<af by omega)
     have eL:=Nat.lt_of_lt_of_le (show j<af by omega) az
     have eE:=Nat.le_trans (show nx<=af by omega) az
     have eu:=HE.refl (aX) bP
     have eQ:=Nat.le_refl (aX)
     refine WO.cons (WC.call 39 68 ([b8.v]) kf ((Ik b8 bP (aX) (b6.mono eu eQ)).mono ?_))
     rintro _ nE7 eM ⟨⟨aD,aI,rfl,aH,ew⟩,nE0,ax⟩
     have c7:=c6.trans ax eE
     have bH:=ax.get dQ eJ
     have dT:=ax.get dR eK
     have dU:=ax.get dS eL
     refine oX 2<|oS nx (0) (aD.v) [aD.v] [aD.v] qC aH.cells (Bool.and_eq_true_iff.2 ⟨rfl,by rw[List.all_cons,aH.one];rfl⟩) bH fun nE8 eb dV aQ=>?_
     have c8:=c7.trans eb om
     have bI:=(aQ (nx+1) om).trans dT
     have dW:=(aQ j om).trans dU
     refine oS (nx+1) (0) (iN aI) [iN aI] [iN aI] qE rfl rfl bI fun bQ ec dX aR=>?_
     have c9:=c8.trans ec om
     have dY:=(aR nx om).trans dV
     have bJ:=(aR j om).trans dW
     refine WO.nil ?_
     obtain⟨cx,av⟩:∃h:Ht,h=bQ.set (j) (some (.deferred none)):=⟨_,rfl⟩
     have aG:∀q,q≠j->cx.get q=bQ.get q:=fun q o=>by rw[av];exact Tr.gC _ _ o
     have cd:=(aG (nx) om).trans dY
     have cc:=(aG ((nx+1)) om).trans dX
     refine WP.ret ⟨rfl,.inr ⟨j,rfl,bJ,[aD.v,iN aI],(by rw[<-av];exact qd (by rw[show(aaj (.tmp 4)).run _=pt nx 0 from by kernel_rfl];exact ko nM cd rfl) (by rw[show(aaj (.tmp 5)).run _=pt ((nx+1)) 0 from by kernel_rfl];exact ko pK cc rfl)),?_⟩⟩
     rw[<-av]
     have nEt:=(((aH.Xt bH aQ).Xt bI aR)).Zc bJ av
     refine⟨⟨aD,aI,rfl,nEt,?_⟩,(show nx<=eM by omega),(fun q o=>(aG q om).trans (c9 q o))⟩
     rcases ew with⟨h0,h1,h2⟩|⟨h0,h1⟩
     · refine .inl ⟨h0,?_,h2,b9,by rw[<-aJ,<-aK];exact k5⟩
       rw[h1,cf,bp,aJ,aK]
     · exact .inr ⟨h0,h1⟩
    ·
     refine⟨{aY with state:=.done,pending:=some .ret},1,b7,(fun h=>by cases h),rfl,?_⟩
     obtain⟨aq,a_⟩:∃h:Ht,h=aS.set (j+1) (some (.loop {({aY with state:=.done,pending:=some .ret}:sL Tm)with state:=.exhausted})):=⟨_,rfl⟩
     rw[<-a_]
     have ae:∀q,q≠(j+1)->aq.get q=aS.get q:=fun q o=>by rw[a_];exact Tr.gC _ _ o
     have cb:HE nx hp aq:=fun q o=>(ae q om).trans ((bL.qV om (by simp;omega)).trans (eR q o))
     have eC:=(ae (nx) om).trans cB
     have kE:=(ae ((nx+1)) om).trans cC
     have kD:=(ae (j) om).trans ((bL.qV om (by simp;omega)).trans eV)
     obtain⟨cx,av⟩:∃h:Ht,h=aq.set (j) (some (.deferred none)):=⟨_,rfl⟩
     have aG:∀q,q≠j->cx.get q=aq.get q:=fun q o=>by rw[av];exact Tr.gC _ _ o
     have cd:=(aG (nx) om).trans eC
     have cc:=(aG ((nx+1)) om).trans kE
     show Nat.ble 1 1=true/\_
     refine⟨rfl,.inr ⟨j,rfl,kD,[.slice none 0 0,iN z],(by rw[<-av];exact qd (by rw[show(aaj (.tmp 4)).run _=pt nx 0 from by kernel_rfl];exact ko nM cd rfl) (by rw[show(aaj (.tmp 5)).run _=pt ((nx+1)) 0 from by kernel_rfl];exact ko pK cc rfl)),?_⟩⟩
     rw[<-av]
     exact⟨⟨⟨.slice none 0 0,[]⟩,z,rfl,sY,.inr ⟨nES,rfl⟩⟩,(show nx<=af by omega),(fun q o=>(aG q om).trans (cb q o))⟩
end
end Sw
namespace Sw
noncomputable section
open Go Go.Proofs Go.RowKit
set_option maxRecDepth 100000
set_option maxHeartbeats 1600000
def Lg(K:kM)(i j:Nat):Int:=((K.iU.l[i]?.bind fun r=>r.l[j]?).getD 0)
theorem MQ{K:kM}{i j:Nat}{r:SV Int}{z:Int}(h:K.iU.l[i]?=some r)(k:r.l[j]?=some z):Lg K i j=z:=by
 unfold Lg;rw[h];simp[k]
def sa(K:kM)(DO:Int)(s:fT):fT:=if DO=-1 then s else⟨gD .i64 (s.h_-Lg K (DO+1).toNat 0),gD .i64 (s.hQ+Lg K 0 (DO+1).toNat)⟩
theorem MR(K J:SV fT)(hp:Ht)(nx:Nat)(hK:gA fo 2 hp nx K)(af:gA fo 2 hp nx J):WF ex 9 [K.v,J.v] hp nx (fO nx hp (gk (K.l=J.l))):=by
 obtain⟨a1,c2,hR⟩:=hK.shape
 have lW:=hK.2.2
 rw[hR]
 obtain⟨a4,an,ab⟩:=af.shape
 have az:=af.2.2
 rw[ab]
 refine wd Tryz.f9 26 [.tmp 4] fun hE=>sr<|oN 1<|WP.seq<|sr<|oX 4 ?_
 refine oq 10 (Mw K.l.length J.l.length) fun aE aC=>WO.nil<|cq aC (fun av=>?_) (fun av=>?_)
 ·
  refine sr<|oW 1 ⟨rfl,rfl,[.bool false],kr,?_⟩
  refine⟨⟨false,rfl,⟨fun h=>(by cases h),fun aj=>False.elim ?_⟩⟩,nR,hE⟩
  exact absurd (by rw[aj]) av
 ·
  refine WP.skip<|WP.seq<|sr<|oN 1<|WP.block ?_
  refine my [0,1,5] (fun m hs ns vs=>∃(o:Nat),o+m=K.l.length/\vs=[.slice a1 (K.l.length) c2,.slice a4 (J.l.length) an,iN (.ofNat o)]/\nx<=ns/\HE (nx) hp hs/\(∀(j:Nat) a b,j<o->K.l[j]?=some a->J.l[j]?=some b->(fun a b=>a=b) a b)) ?_ (K.l.length) ?_
  ·
   rintro aA ay aB _ ⟨o,aw,rfl,ao,ai,heq⟩ ax
   have C:=hE.trans ai
   refine WP.seq<|sr<|oX 3 ?_
   refine oq 14 (kV o K.l.length) fun aD aq=>WO.nil<|cq aq (fun au=>?_) (fun au=>?_)
   ·
    refine WP.skip<|WP.seq<|WP.block<|WP.seq<|WP.sM [⟨[0,1,2,3,4,5,6,7,8],[0,1,2,3,4,5,6,7,8],none⟩] kr _ rfl<|WD.last<|nv 17 (.slice a1 (K.l.length) c2)<|nv 18 (iN (.ofNat o)) ?_
    have ad:o<K.l.length:=by omega
    refine WN.ic rfl (WC.iy hR hK (o) nk gQ (ad) ?_)
    obtain⟨U,I⟩:=gE ad
    refine WN.ic rfl (WC.ly hR (hK.mono C nR) I jT gQ<|nv 21 (.slice a4 (J.l.length) an)<|nv 22 (iN (.ofNat o)) ?_)
    have ae:o<J.l.length:=by omega
    refine WN.ic rfl (WC.iy ab af (o) nk gQ (ae) ?_)
    obtain⟨aa,R⟩:=gE ae
    refine WN.ic rfl (WC.ly ab (af.mono C nR) R jT gQ ?_)
    obtain⟨ah,al,ar⟩:=@nb (@decide (U≠aa) (Classical.propDecidable _)) (U≠aa) (@decide_eq_true_iff _ (Classical.propDecidable _))
    refine WN.ic rfl (WC.opt (v:=.bool ah) 25 (wy ex.T .neq 104 (.tmp 20) (.tmp 24) (.agg (fo U).toArray) (.agg (fo aa).toArray)) kf (Gc _ _ U aa al)<|WN.nil ⟨?_,?_⟩)
    ·
     refine cv (.slice a1 (K.l.length) c2) (hR▸hK.kO 8)<|ci (.ofNat o)<|DM hR hK (o) nk gQ (ad)<|Xf hR (hK.mono C nR) I jT gQ (uK U)<|cv (.slice a4 (J.l.length) an) (ab▸af.kO 8)<|ci (.ofNat o)<|DM ab af (o) nk gQ (ae)<|Xf ab (af.mono C nR) R jT gQ (uK aa)<|co (.bool ah) (wy ex.T .neq 104 (.tmp 20) (.tmp 24) (.agg (fo U).toArray) (.agg (fo aa).toArray)) ((Gc _ _ U aa al)) (jd 8 ah) ?_
     exact jh.nil
    refine cq ar (fun ak=>?_) (fun ak=>?_)
    ·
     refine sr<|oW 1 ⟨rfl,rfl,[.bool false],kr,?_⟩
     refine⟨⟨false,rfl,⟨fun h=>(by cases h),fun aj=>False.elim ?_⟩⟩,od,C⟩
     rw[aj]at I;rw[I]at R;cases R;exact ak rfl
    ·
     refine WP.skip<|WP.region<|oX 1<|ov 16 (iN (.ofNat (o+1))) ?_ (fun _ _ _=>by rw[<-gU (show o+1<9223372036854775808 by omega)];kernel_rfl)
     refine oN 1<|⟨K.l.length-(o+1),om,rfl,rfl,o+1,om,kr,?_,?_,?_⟩
     · exact ao
     · exact ai
     · intro j a b hj ag hb
       rcases Nat.lt_succ_iff_lt_or_eq.1 hj with hj|rfl
       · exact heq j a b hj ag hb
       · rw[I]at ag;cases ag;rw[R]at hb;cases hb;exact Classical.not_not.1 ak
   ·
    refine WP.exit<|sr<|oW 1 ⟨rfl,rfl,[.bool true],kr,?_⟩
    refine⟨⟨true,rfl,⟨fun _=>?_,fun _=>rfl⟩⟩,od,C⟩
    refine List.ext_getElem? fun j=>?_
    rcases Nat.lt_or_ge j K.l.length with hj|hj
    · have ag:=List.getElem?_eq_getElem hj
      have hb:=List.getElem?_eq_getElem (show j<J.l.length by omega)
      rw[ag,hb];exact congrArg some (heq j _ _ om ag hb)
    · rw[List.getElem?_eq_none hj,List.getElem?_eq_none om]
  ·
   exact⟨0,om,kr,Nat.le_refl _,HE.refl _ _,(fun _ _ _ h=>absurd h (Nat.not_lt_zero _))⟩
theorem Jq(K:kM)(s:fT)(hp:Ht)(nx:Nat)(hK:oI hp nx K):WF ex 113 [.agg (jE K).toArray,iN (-1),.agg (fo s).toArray] hp nx (fO nx hp (Fv (.agg (fo s).toArray))):=by
 refine wd Tryz.f113 34 [.cell 6 104] fun hE=>sr<|oB (.agg (jE K).toArray) (jE K) fun jN iY iA=>?_
 refine oB (.agg (fo s).toArray) (fo s) fun ad J o=>?_
 refine oA [iN 0,iN 0] mM fun aa jQ C=>?_
 refine WO.nil<|WP.seq<|sr<|oN 2<|WP.cond true kr (fun j=>?_) (fun j=>by cases j)
 refine sr<|WO.cons (WC.jb (nx+1) (0) (fo s) kr jT gQ (jQ.get o) rfl<|oS (nx+1+1) (0) (.agg (fo s).toArray) (fo s) (fo s) gQ rfl rfl C fun ab R I U=>?_)
 refine wr ⟨rfl,rfl,[.agg (fo s).toArray],(tM (by rw[show(aaj (.tmp 6)).run _=pt (nx+1+1) 0 from by kernel_rfl];exact lF jT gQ I rfl)),?_⟩
 exact⟨rfl,od,((((hE.trans iY).trans J).trans jQ).trans R)⟩
theorem MS(K:kM)(v:Nat)(s:fT)(hp:Ht)(nx:Nat)(hK:oI hp nx K)(hc:vm K)(aB:v<K.gG.l.length):WF ex 113 [.agg (jE K).toArray,iN (.ofNat v),.agg (fo s).toArray] hp nx (fO nx hp (Fv (.agg (fo (sa K (.ofNat v) s)).toArray))):=by
 refine wd Tryz.f113 34 [.cell 6 104] fun hE=>?_
 have aI:=hc.YV
 have aJ:=hc.YU
 refine sr<|oB (.agg (jE K).toArray) (jE K) fun jN iY iA=>?_
 refine oB (.agg (fo s).toArray) (fo s) fun aN ao aw=>?_
 refine oA [iN 0,iN 0] mM fun aA jQ ax=>?_
 have I:=((hE.trans iY).trans ao).trans jQ
 have ae:=jQ.get (ao.get iA)
 have af:=jQ.get aw
 refine WO.nil<|WP.seq<|sr<|oX 1 ?_
 refine oq 9 (w5 v (-1)) fun aM aC=>WO.nil<|cq aC (fun av=>?_) (fun av=>?_)
 ·
  exact absurd av om
 ·
  refine WP.skip<|sr<|oX 1<|ov 12 (iN (.ofNat (v+1))) ?_ (fun _ _ _=>by rw[<-gU (show v+1<9223372036854775808 by omega)];kernel_rfl)
  refine oN 1<|WP.seq<|WP.sM [⟨[0,1,2,3,4,5,6,7,8,9,10,11,12,13,14,15,16,17,18,19,20],[0,1,2,3,4,5,6,7,8,9,10,11,12,13,14,15,16,17,18,19,20],some 21⟩,⟨[],[],none⟩] kr _ rfl<|WD.ln<|nv 13 (pt (nx+1) 0)<|WN.ic rfl (WC.jX (nx+1) 0 (iN s.h_) kr fP af rfl<|nv 15 (pt nx (0+1)) ?_)
  obtain⟨a31,an,j⟩:=hK.iU.1.shape
  have aF:=hK.iU.1.2.2
  refine WN.ic rfl (WC.jX nx (0+1) (.slice a31 (K.iU.l.length) an) kr sX ae (by rw[<-j];rfl)<|nv 17 (iN (.ofNat (v+1))) ?_)
  have ag:v+1<K.iU.l.length:=by omega
  refine WN.ic rfl (WC.iy j hK.iU.1 (v+1) v8 tB (ag) ?_)
  obtain⟨U,o⟩:=gE ag
  have aD:U.l.length=K.gG.l.length+1:=(hc.row _ _ o).1
  obtain⟨a37,ar,ab⟩:=(hK.iU.2 U (List.mem_of_getElem? o)).shape
  have aG:=(hK.iU.2 U (List.mem_of_getElem? o)).2.2
  refine WN.ic rfl (WC.lz (.slice a37 (U.l.length) ar) j (hK.iU.1.mono I nR) o (by rw[<-ab];rfl) kq ?_)
  have ah:0<U.l.length:=by omega
  refine WN.ic rfl (WC.iy ab (hK.iU.2 U (List.mem_of_getElem? o)) (0) lD kj (ah) ?_)
  obtain⟨J,ak⟩:=gE ah
  refine WN.ic rfl (WC.lz (iN J) ab ((hK.iU.2 U (List.mem_of_getElem? o)).mono I nR) ak rfl fP<|nv 22 (iN (gD .i64 ((s.h_)-(J))))<|nv 23 (pt (nx+1) (0+1))<|WN.ic rfl (WC.jX (nx+1) (0+1) (iN s.hQ) kr fP af rfl<|nv 25 (pt nx (0+1))<|WN.ic rfl (WC.jX nx (0+1) (.slice a31 (K.iU.l.length) an) kr sX ae (by rw[<-j];rfl) ?_)))
  have ai:0<K.iU.l.length:=by omega
  refine WN.ic rfl (WC.iy j hK.iU.1 (0) v8 tB (ai) ?_)
  obtain⟨aa,C⟩:=gE ai
  have aE:aa.l.length=K.gG.l.length+1:=(hc.row _ _ C).1
  obtain⟨a46,au,ad⟩:=(hK.iU.2 aa (List.mem_of_getElem? C)).shape
  have aH:=(hK.iU.2 aa (List.mem_of_getElem? C)).2.2
  refine WN.ic rfl (WC.lz (.slice a46 (aa.l.length) au) j (hK.iU.1.mono I nR) C (by rw[<-ad];rfl) kq<|nv 29 (iN (.ofNat (v+1))) ?_)
  have aj:v+1<aa.l.length:=by omega
  refine WN.ic rfl (WC.iy ad (hK.iU.2 aa (List.mem_of_getElem? C)) (v+1) lD kj (aj) ?_)
  obtain⟨R,al⟩:=gE aj
  refine WN.ic rfl (WC.lz (iN R) ad ((hK.iU.2 aa (List.mem_of_getElem? C)).mono I nR) al rfl fP<|nv 32 (iN (gD .i64 ((s.hQ)+(R))))<|nv 33 (.agg ⟨[iN (gD .i64 ((s.h_)-(J))),iN (gD .i64 ((s.hQ)+(R)))]⟩)<|WN.nil ⟨?_,?_⟩)
  ·
   refine cv (pt (nx+1) 0) (iW ..)<|qe (nx+1) 0 (iN s.h_) fP af rfl (iQ ..)<|cv (pt nx (0+1)) (iW ..)<|qe nx (0+1) (.slice a31 (K.iU.l.length) an) sX ae (by rw[<-j];rfl) (j▸hK.iU.1.kO 8)<|ci (.ofNat (v+1))<|DM j hK.iU.1 (v+1) v8 tB (ag)<|OX (.slice a37 (U.l.length) ar) j (hK.iU.1.mono I nR) o (by rw[<-ab];rfl) kq (ab▸(hK.iU.2 U (List.mem_of_getElem? o)).kO 8)<|DM ab (hK.iU.2 U (List.mem_of_getElem? o)) (0) lD kj (ah)<|OX (iN J) ab ((hK.iU.2 U (List.mem_of_getElem? o)).mono I nR) ak rfl fP (iQ ..)<|ci (gD .i64 ((s.h_)-(J)))<|cv (pt (nx+1) (0+1)) (iW ..)<|qe (nx+1) (0+1) (iN s.hQ) fP af rfl (iQ ..)<|cv (pt nx (0+1)) (iW ..) ?_
   refine qe nx (0+1) (.slice a31 (K.iU.l.length) an) sX ae (by rw[<-j];rfl) (j▸hK.iU.1.kO 8)<|DM j hK.iU.1 (0) v8 tB (ai)<|OX (.slice a46 (aa.l.length) au) j (hK.iU.1.mono I nR) C (by rw[<-ad];rfl) kq (ad▸(hK.iU.2 aa (List.mem_of_getElem? C)).kO 8)<|ci (.ofNat (v+1))<|DM ad (hK.iU.2 aa (List.mem_of_getElem? C)) (v+1) lD kj (aj)<|OX (iN R) ad ((hK.iU.2 aa (List.mem_of_getElem? C)).mono I nR) al rfl fP (iQ ..)<|ci (gD .i64 ((s.hQ)+(R)))<|cv (.agg ⟨[iN (gD .i64 ((s.h_)-(J))),iN (gD .i64 ((s.hQ)+(R)))]⟩) (yA 7 _ (by intro v aB;simp only[List.mem_cons,List.not_mem_nil,or_false]at aB;rcases aB with rfl|rfl<;>first|exact iQ ..|exact jd ..)) ?_
   exact jh.nil
  refine WC.at rfl (WC.vi (nx+1+1) (0) (.agg ⟨[iN (gD .i64 ((s.h_)-(J))),iN (gD .i64 ((s.hQ)+(R)))]⟩) [iN 0,iN 0] [iN (gD .i64 ((s.h_)-(J))),iN (gD .i64 ((s.hQ)+(R)))] [iN (gD .i64 ((s.h_)-(J))),iN (gD .i64 ((s.hQ)+(R)))] 2 rfl kr kr gQ rfl rfl ax rfl rfl rfl ?_)
  obtain⟨aL,aq,az,ay,aK⟩:=stored aA (nx+1+1) (.cells [iN (gD .i64 ((s.h_)-(J))),iN (gD .i64 ((s.hQ)+(R)))] gl.plain)
  rw[aq];clear aq
  refine WD.last<|WN.nil ⟨?_,?_⟩
  ·
   exact jh.nil
  refine WP.ret ⟨rfl,rfl,[.agg ⟨[iN (gD .i64 ((s.h_)-(J))),iN (gD .i64 ((s.hQ)+(R)))]⟩],(tM (by rw[show(aaj (.tmp 6)).run _=pt (nx+1+1) 0 from by kernel_rfl];exact lF jT gQ ay rfl)),?_⟩
  refine⟨?_,od,(I.trans az)⟩
  have e:sa K (.ofNat v) s=⟨gD .i64 (s.h_-J),gD .i64 (s.hQ+R)⟩:=by
   have hs:((Int.ofNat v)+1).toNat=v+1:=rfl
   unfold sa;rw[if_neg (by show¬((Int.ofNat v)=-1);omega),hs,MQ o ak,MQ C al]
  rw[e];rfl
end
end Sw
namespace Sw
noncomputable section
open Go Go.Proofs Go.RowKit
set_option maxRecDepth 100000
set_option maxHeartbeats 1600000
theorem MT(K:kM)(DO:Int)(s:fT)(hp:Ht)(nx:Nat)(hK:oI hp nx K)(hc:vm K)(h1:-1<=DO)(h2:DO<K.gG.l.length):WF ex 113 [.agg (jE K).toArray,iN DO,.agg (fo s).toArray] hp nx (fO nx hp (Fv (.agg (fo (sa K DO s)).toArray))):=by
 by_cases h:DO=-1
 · subst h
   have:=Jq K s hp nx hK
   unfold sa;rw[if_pos rfl];exact this
 · obtain⟨v,rfl⟩:=Int.eq_ofNat_of_zero_le (show 0<=DO by omega)
   exact MS K v s hp nx hK hc om
theorem Qo(K:kM)(o:jL)(hp:Ht)(nx:Nat)(hK:oI hp nx K)(hc:vm K)(af:vn K o)(ae:o.kl=false):WF ex 62 [.agg (jE K).toArray,.agg (ie o).toArray] hp nx (fO nx hp (Fv (.tuple ⟨[.agg (fo (sa K o.oM ⟨o.h_,o.hQ⟩)).toArray,iN 0]⟩))):=by
 refine wd Tryz.f62 26 [.cell 4 104,.tmp 5] fun hE=>?_
 have ay:=af.2 ae
 refine sr<|oB (.agg (jE K).toArray) (jE K) fun jN iY iA=>?_
 refine oB (.agg (ie o).toArray) (ie o) fun aO ab ai=>?_
 refine oA [iN 0,iN 0] mM fun aq jQ aj=>?_
 have J:=((hE.trans iY).trans ab).trans jQ
 have U:=jQ.get (ab.get iA)
 have aa:=jQ.get ai
 refine oN 1<|WP.seq<|sr<|WO.cons (WC.jb nx (0) (jE K) kr yJ w7 U rfl<|WO.cons (WC.jb (nx+1) (0) (ie o) kr uj nP aa rfl<|WO.cons (WC.call 9 57 ([.agg (jE K).toArray,.agg (ie o).toArray]) kf ((Bx K o aq (nx+1+1+1) (hK.mono J)).mono ?_))))
 rintro _ ar av ⟨⟨z32,rfl,au⟩,aD,I⟩
 have R:=J.trans I
 have C:=I.get aa
 have j:=I.get aj
 refine oN 1<|sr<|oX 1 ?_
 refine oq 11 (qW z32 0) fun aN az=>WO.nil<|cq az (fun ag=>?_) (fun ag=>?_)
 ·
  refine sr<|WO.cons (WC.jb (nx+1+1) (0) [iN 0,iN 0] kr jT gQ j rfl<|oX 1<|oS (nx+1+1) (0) (.agg ⟨[iN 0,iN 0]⟩) [iN 0,iN 0] [iN 0,iN 0] gQ rfl rfl j fun aI aB ak aF=>?_)
  refine oW 1 ⟨rfl,rfl,[.agg ⟨[iN 0,iN 0]⟩,iN z32],(yE (by rw[show(aaj (.tmp 4)).run _=pt (nx+1+1) 0 from by kernel_rfl];exact lF jT gQ ak rfl) kr),?_⟩
  exact absurd ((au).2 ⟨hc,af⟩) ag
 ·
  refine WP.skip<|WP.seq<|sr<|oX 1 ?_
  obtain⟨aw,ax,aA⟩:=@nb (o.kl) (o.kl=true) (by first|done|exact Iff.rfl)
  refine oZ (nx+1) 0 (.bool aw) xT C (by rw[ax];rfl)<|WO.nil<|cq aA (fun ah=>?_) (fun ah=>?_)
  ·
   refine sr<|WO.cons (WC.jb (nx+1+1) (0) [iN 0,iN 0] kr jT gQ j rfl<|oS (nx+1+1) (0) (.agg ⟨[iN 0,iN 0]⟩) [iN 0,iN 0] [iN 0,iN 0] gQ rfl rfl j fun aJ aC al aG=>?_)
   refine oW 1 ⟨rfl,rfl,[.agg ⟨[iN 0,iN 0]⟩,iN 230],(yE (by rw[show(aaj (.tmp 4)).run _=pt (nx+1+1) 0 from by kernel_rfl];exact lF jT gQ al rfl) kr),?_⟩
   exact absurd ah (by rw[ae];simp)
  ·
   refine WP.skip<|sr<|WO.cons (WC.jb nx (0) (jE K) kr yJ w7 (I.get U) rfl<|oX 1<|oZ (nx+1) (0+1) (iN o.oM) fP C rfl<|oX 1<|oZ (nx+1) (0+2) (iN o.h_) fP C rfl<|oX 1<|oZ (nx+1) (0+3) (iN o.hQ) fP C rfl<|oX 1<|WO.cons (WC.call 25 113 ([.agg (jE K).toArray,iN o.oM,.agg ⟨[iN o.h_,iN o.hQ]⟩]) kf ((MT K (o.oM) (⟨o.h_,o.hQ⟩:fT) ar (av) (hK.mono R) hc ay.1 ay.2.1).mono ?_)))
   rintro _ aK aM ⟨rfl,aE,ad⟩
   refine oS (nx+1+1) (0) (.agg (fo (sa K (o.oM) (⟨o.h_,o.hQ⟩:fT))).toArray) (fo (sa K (o.oM) (⟨o.h_,o.hQ⟩:fT))) (fo (sa K (o.oM) (⟨o.h_,o.hQ⟩:fT))) gQ rfl rfl (ad.get j) fun aL ao an aH=>?_
   refine oW 1 ⟨rfl,rfl,[.agg (fo (sa K (o.oM) (⟨o.h_,o.hQ⟩:fT))).toArray,iN 0],(yE (by rw[show(aaj (.tmp 4)).run _=pt (nx+1+1) 0 from by kernel_rfl];exact lF jT gQ an rfl) kr),?_⟩
   exact⟨rfl,od,((R.trans ad).trans ao)⟩
end
end Sw
namespace Sw
noncomputable section
open Go Go.Proofs Go.RowKit
set_option maxRecDepth 100000
set_option maxHeartbeats 1600000
def pS(K:kM)(l:List jL):List fT:=(l.filter fun o=>!o.kl).map fun o=>sa K o.oM ⟨o.h_,o.hQ⟩
theorem V4{K:kM}{l:List jL}{i:Nat}{o:jL}(h:l[i]?=some o)(j:o.kl=true):pS K (l.take (i+1))=pS K (l.take i):=by
 unfold pS;rw[List.take_add_one,h];simp[j]
theorem Xu{K:kM}{l:List jL}{i:Nat}{o:jL}(h:l[i]?=some o)(j:o.kl=false):pS K (l.take (i+1))=pS K (l.take i)++[sa K o.oM ⟨o.h_,o.hQ⟩]:=by
 unfold pS;rw[List.take_add_one,h];simp[j]
theorem MU{l:List jL}{i:Nat}{o:jL}(h:l[i]?=some o):(l.take (i+1)).any (·.kl)=((l.take i).any (·.kl)||o.kl):=by
 rw[List.take_add_one,h];simp
theorem O3(K:kM)(l:List jL):(pS K l).length<=l.length:=by
 unfold pS;rw[List.length_map];exact List.length_filter_le ..
theorem T2(bR:y5)(F:kU)(l:SV jL)(hp:Ht)(nx:Nat)(bS:ny hp nx F)(hl:gA ie 4 hp nx l)(hc:vm F.jv)(bI:∀o∈l.l,vn F.jv o)(bJ:l.l.length<=1048576):WF ex 27 [.agg (iK F).toArray,l.v] hp nx (fun v fe fg=>∃(J:SV fT) (z:Int),v=.tuple ⟨[J.v,.bool (l.l.any (·.kl)),iN z]⟩/\gA fo 2 fe fg J/\((z=0/\Xs (pS F.jv l.l) J.l)\/((z=2\/z=10)/\J.l=[]))/\nx<=fg/\HE nx hp fe):=by
 obtain⟨a1,c2,hR⟩:=hl.shape
 have lW:=hl.2.2
 rw[hR]
 refine wd Tryz.f27 39 [.tmp 4,.tmp 5,.tmp 6] fun hE=>sr<|oB (.agg (iK F).toArray) (iK F) fun Bz qm vu=>?_
 have CE:=hE.trans qm nR
 have zJ:=Nat.le_trans nR (Nat.le_succ (nx))
 refine oN 3<|WP.seq<|sr<|oN 3<|WP.block ?_
 refine my [2,4,5,11,12,13] (fun m hs ns vs=>∃(gZ:Nat) (J:SV fT) (au:Bool),gZ+m=l.l.length/\vs=[pt nx 0,J.v,.bool au,.slice a1 (l.l.length) c2,iN (.ofNat (l.l.length)),iN (.ofNat gZ)]/\nx+1<=ns/\HE nx hp hs/\hs.get nx=some (.cells (iK F) gl.plain)/\(J.l=pS F.jv (l.l.take gZ))/\(au=(l.l.take gZ).any (·.kl))/\(mf fo 2 (nx+1) hs ns J)) ?_ (l.l.length) ?_
 ·
  rintro EL aA C _ ⟨gZ,J,au,bM,rfl,al,ag,bA,aa,ax,av⟩ By
  have aD:=Nat.lt_of_lt_of_le (Nat.lt_succ_self (nx)) al
  have U:=Nat.le_trans zJ al
  have bq:=HE.refl (C) aA
  have aG:=Nat.le_refl (C)
  refine sr ?_
  refine oq 14 (kV gZ l.l.length) fun EJ Cy=>WO.nil<|WP.seq<|cq Cy (fun bL=>?_) (fun bL=>?_)
  ·
   refine WP.skip<|WP.seq<|WP.block<|sr ?_
   have aq:gZ<l.l.length:=by omega
   refine WO.cons (WC.iy hR hl (gZ) Dg nP (aq) ?_)
   obtain⟨j,R⟩:=gE aq
   refine WO.cons (WC.ly hR (hl.mono ag U) R uj nP<|oA [.bool false,iN 0,iN 0,iN 0] zi fun bT ah a8=>?_)
   have aV:=ag.trans ah U
   have a_:=ah.get bA aD
   have aE:=Nat.lt_of_lt_of_le aD (Nat.le_succ (C))
   have br:=bq.trans ah aG
   have ao:=Nat.le_trans aG (Nat.le_succ (C))
   have aH:=Nat.le_trans al (Nat.le_succ (C))
   have an:=Nat.le_trans U (Nat.le_succ (C))
   refine oS C (0) (.agg (ie j).toArray) (ie j) (ie j) nP rfl rfl a8 fun bp ay aw bl=>?_
   have ae:=aV.trans ay om
   have aB:=br.trans ay om
   have af:=(bl nx om).trans a_
   refine WO.nil<|WP.seq<|sr<|oX 1 ?_
   obtain⟨bD,bE,bK⟩:=@nb (j.kl) (j.kl=true) (by first|done|exact Iff.rfl)
   refine oZ C 0 (.bool bD) xT aw (by rw[bE];rfl)<|WO.nil<|cq bK (fun ab=>?_) (fun ab=>?_)
   ·
    refine sr<|oN 1<|WP.exit<|WP.region<|ov 30 (iN (.ofNat (gZ+1))) ?_ (fun _ _ _=>by rw[<-gU (show gZ+1<9223372036854775808 by omega)];kernel_rfl)
    refine oN 1<|⟨l.l.length-(gZ+1),om,rfl,rfl,gZ+1,J,true,om,kr,?_,?_,?_,?_,?_,?_⟩
    · exact aH
    · exact ae
    · exact af
    · rw[V4 R ab];exact aa
    · rw[MU R,ab,Bool.or_true]
    · exact av.mono aB ao
   ·
    refine WP.skip<|sr<|oX 1<|WO.cons (WC.jb nx 0 (jE F.jv) kr yJ w7 af rfl<|WO.cons (WC.jb C (0) (ie j) kr uj nP aw rfl<|WO.cons (WC.call 23 62 ([.agg (jE F.jv).toArray,.agg (ie j).toArray]) kf ((Qo F.jv j bp (C+1) (bS.jv.mono ae an) hc (bI _ (List.mem_of_getElem? R)) (Bool.eq_false_iff.2 ab)).mono ?_))))
    rintro _ bU I ⟨rfl,ad,ai⟩
    have aW:=ae.trans ai an
    have bc:=ai.get af aE
    have aF:=Nat.lt_of_lt_of_le aE ad
    have bs:=aB.trans ai ao
    have aI:=Nat.le_trans ao ad
    have bB:=Nat.le_trans aH ad
    have aC:=Nat.le_trans an ad
    refine oX 3<|oA [iN 0,iN 0] mM fun bV aj bd=>?_
    have aX:=aW.trans aj aC
    have bf:=aj.get bc aF
    have bz:=Nat.lt_of_lt_of_le aF (Nat.le_succ (I))
    have bt:=bs.trans aj aI
    have aJ:=Nat.le_trans aI (Nat.le_succ (I))
    have bC:=Nat.le_trans bB (Nat.le_succ (I))
    have bx:=Nat.le_trans aC (Nat.le_succ (I))
    refine oS I (0) (.agg (fo (sa F.jv j.oM ⟨j.h_,j.hQ⟩)).toArray) (fo (sa F.jv j.oM ⟨j.h_,j.hQ⟩)) (fo (sa F.jv j.oM ⟨j.h_,j.hQ⟩)) gQ rfl rfl bd fun bW az bg bn=>?_
    have aY:=aX.trans az om
    have bu:=bt.trans az om
    have bh:=(bn nx om).trans bf
    refine oN 1<|WP.region<|oX 1<|WO.cons (WC.jb I (0) (fo (sa F.jv j.oM ⟨j.h_,j.hQ⟩)) kr jT gQ bg rfl<|oL [iN ((sa F.jv j.oM ⟨j.h_,j.hQ⟩).h_),iN ((sa F.jv j.oM ⟨j.h_,j.hQ⟩).hQ)] fun bX ak bj=>?_)
    have aZ:=aY.trans ak bx
    have bk:=ak.get bh bz
    have bw:=bu.trans ak aJ
    have aS:=Nat.le_trans aJ (Nat.le_succ (I+1))
    have aT:=Nat.le_trans bC (Nat.le_succ (I+1))
    have bN:J.l.length<=gZ:=by rw[aa];exact Nat.le_trans (O3 _ _) (by simp;omega)
    obtain⟨inf,pa,uY⟩:=A8
    refine WO.cons (WC.Cp (enc:=fo) (J:=J) (sa F.jv j.oM ⟨j.h_,j.hQ⟩) rfl kr kr (av.mono bw aS) (tC _) bj rfl nk gQ mM pa rfl rfl uY om om rfl ?_)
    rintro bQ jN oG a6 xF tD bG
    have aL:=aZ.trans tD (Nat.le_succ nx)
    have aO:=(tD _ (Nat.lt_succ_self nx)).trans bk
    have aU:=Nat.le_trans aT xF
    refine oN 1<|WP.region<|ov 30 (iN (.ofNat (gZ+1))) ?_ (fun _ _ _=>by rw[<-gU (show gZ+1<9223372036854775808 by omega)];kernel_rfl)
    refine oN 1<|⟨l.l.length-(gZ+1),om,rfl,rfl,gZ+1,bQ,au,om,kr,?_,?_,?_,?_,?_,?_⟩
    · exact aU
    · exact aL
    · exact aO
    · rw[Xu R (Bool.eq_false_iff.2 ab),a6,aa]
    · rw[MU R,(Bool.eq_false_iff.2 ab),Bool.or_false];exact ax
    · exact bG
  ·
   refine WP.exit<|sr<|oX 1 ?_
   have hT:l.l.take gZ=l.l:=List.take_of_length_le om
   rw[hT]at aa ax
   have aN:J.l.length<=1048576:=by rw[aa];exact Nat.le_trans (O3 _ _) bJ
   refine WO.cons (WC.call 33 40 ([J.v]) kf ((Qm bR J aA (C) (av.ok (tC _) om) aN).mono ?_))
   rintro _ bO bP ⟨⟨ar,aK,rfl,a7,bH⟩,aQ,aP⟩
   have aM:=ag.trans aP U
   have aR:=Nat.le_trans U aQ
   refine oN 5<|sr<|oW 6 ⟨rfl,rfl,[ar.v,.bool au,iN aK],kr,?_⟩
   exact⟨ar,aK,by rw[ax];rfl,a7,by rw[<-aa];exact bH,aR,aM⟩
 ·
  exact⟨0,⟨.slice none 0 0,[]⟩,false,om,kr,Nat.le_refl _,CE,vu,(by rw[List.take_zero];rfl),(by simp),mf.nil⟩
end
end Sw
