/- A part of the proof that the law returns true for every input that its row speaks of. No condition is added. -/
import Derived.Test.YtecbgehgkpgbmaaGreatDoorSwAK
import Derived.Test.YtecbgehgkpgbmaaGreatDoorSwAG
namespace Sw
noncomputable section
open Go Go.Proofs Go.RowKit
set_option maxRecDepth 100000
set_option maxHeartbeats 1600000
structure lZ where
 lC:Int
 pI:Int
instance :Inhabited lZ:=⟨⟨default,default⟩⟩
def pL(x:lZ):List Value:=[iN x.lC,iN x.pI]
structure yd where
 ki:Int
 j_:Int
 n_:Int
instance :Inhabited yd:=⟨⟨default,default,default⟩⟩
def rS(x:yd):List Value:=[iN x.ki,iN x.j_,iN x.n_]
def sc:Nat->Int->RPart->Prop
 |0,_,_=>False
 |n+1,M,p=>(p.kc=0/\(0<=p.iX/\p.iX<=M)/\p.fW.l.length=0)\/(p.kc≠0/\(1<=p.kc/\p.kc<=64)/\p.iX=0/\0<p.fW.l.length/\∀q∈p.fW.l,sc n M q)
def Jz(M:Int)(x:ou):Prop:=((0<=x.iX/\x.iX<=M)/\1<=x.AV)/\0<=x.wN/\x.wN<=1099511627776
def BD(M:Int)(d:j5):Prop:=(((1<=d.uL/\d.uL<=3)/\-1<=d.jO/\d.jO<=M)/\∀q∈d.jI.l,(sc 17 M) q)/\∀x∈d.jr.l,(Jz M) x
def Hb(M:Int)(x:sQ):Prop:=(((0<=x.lC/\x.lC<=M)/\0<=x.pI/\x.pI<=M)/\(0<=x.yG/\x.yG<=68719476736)/\0<=x.yH/\x.yH<=68719476736)/\x.yG<=x.yH
def Dv(x:mC):Prop:=(x.kl=true/\x.ug=0/\x.kc=0)\/(¬x.kl=true/\x.kc≠0/\x.ug=0/\1<=x.kc/\x.kc<=64)\/(¬x.kl=true/\x.kc=0/\0<=x.ug/\x.ug<=68719476736)
def ye(C:j7)(x:oR):Prop:=(((0<=x.ki/\x.ki<=(gD .i64 ((.ofNat (C.fE.l.length))-(1))))/\-1<=x.j_/\x.j_<=(gD .i64 ((.ofNat (C.iw.l.length))-(1))))/\1<=x.n_/\x.n_<=4000)/\1<=x.uM/\x.uM<=1125899906842624
def Ng(x:tz):Prop:=1<=x.jf/\x.jf<=3
def FD(x:qJ):Prop:=0<=x.EG/\x.EG<=1099511627776
def JB(x:lP):Prop:=((0<=x.lC/\x.lC<=120)/\0<=x.pI/\x.pI<=120)/\x.lC<=x.pI
def BE{α β:Type}(k:α->β)(l:List α):Prop:=(((kZ (l.map k)).length:Nat):Int)=((l.length:Nat):Int)
def xy(x:sQ):lZ:=⟨x.lC,x.pI⟩
def yf(x:oR):yd:=⟨x.ki,x.j_,x.n_⟩
def Ze(C:j7):Prop:=((((((((∀x∈C.iB.l,(Ng) x)/\(∀x∈C.jP.l,(Hb (gD .i64 ((.ofNat (C.iB.l.length))-(1)))) x))/\BE xy C.jP.l)/\(∀x∈C.fE.l,(BD (gD .i64 ((.ofNat (C.iB.l.length))-(1)))) x))/\(∀x∈C.kI.l,(FD) x))/\(∀x∈C.js.l,(Dv) x))/\(∀x∈C.iw.l,(JB) x))/\(∀x∈C.kR.l,(ye C) x))/\BE yf C.kR.l
def B5(C:j7):Prop:=((((Ze C/\(0<=C.iL.su/\C.iL.su<=16)/\0<=C.iL.sv/\C.iL.sv<=16)/\(0<=C.iL.sw/\C.iL.sw<=4294967296)/\0<=C.iL.pJ/\C.iL.pJ<=4294967296)/\0<=C.iL.tO/\C.iL.tO<=100000)/\0<=C.zH/\C.zH<=1125899906842624)/\0<=C.si/\C.si<=1099511627776
theorem Of(x y:lZ):xg ex.T 12 247 (.agg (pL x).toArray) (.agg (pL y).toArray)=(bif (km x.lC y.lC)then(bif (km x.pI y.pI)then(some true)else(some false))else(some false)):=by kernel_rfl
theorem Og(x y:lZ):((km x.lC y.lC)&&(km x.pI y.pI))=true↔x=y:=by
 constructor
 · intro h;cases x;cases y;simp only[Bool.and_eq_true,lH,beq_iff_eq,qU]at h;obtain h:=h;simp_all
 · rintro rfl;simp only[Bool.and_eq_true,lH,beq_iff_eq,qU,and_self]
theorem Oh(x y:lZ):xg ex.T 12 247 (.agg (pL x).toArray) (.agg (pL y).toArray)=some ((km x.lC y.lC)&&(km x.pI y.pI)):=by
 rw[Of]
 (cases(km x.lC y.lC))<;>(cases(km x.pI y.pI))<;>rfl
theorem Nh(x y:yd):xg ex.T 12 386 (.agg (rS x).toArray) (.agg (rS y).toArray)=(bif (km x.ki y.ki)then(bif (km x.j_ y.j_)then(bif (km x.n_ y.n_)then(some true)else(some false))else(some false))else(some false)):=by kernel_rfl
theorem Ni(x y:yd):((km x.ki y.ki)&&(km x.j_ y.j_)&&(km x.n_ y.n_))=true↔x=y:=by
 constructor
 · intro h;cases x;cases y;simp only[Bool.and_eq_true,lH,beq_iff_eq,qU]at h;obtain h:=h;simp_all
 · rintro rfl;simp only[Bool.and_eq_true,lH,beq_iff_eq,qU,and_self]
theorem Nj(x y:yd):xg ex.T 12 386 (.agg (rS x).toArray) (.agg (rS y).toArray)=some ((km x.ki y.ki)&&(km x.j_ y.j_)&&(km x.n_ y.n_)):=by
 rw[Nh]
 (cases(km x.ki y.ki))<;>(cases(km x.j_ y.j_))<;>(cases(km x.n_ y.n_))<;>rfl
theorem Uo:ex.T.agg 247=some true:=kr
theorem Wc:ex.T.agg 31=some true:=kr
theorem Up:ex.T.agg 386=some true:=kr
theorem Kn:ex.T.size 247=some 2:=kr
theorem Nk:ex.T.size 31=some 5:=kr
theorem Se:ex.T.size 361=some 1:=kr
theorem Sf:ex.T.size 366=some 1:=kr
theorem Ko:ex.T.size 386=some 3:=kr
theorem Kp:ex.T.zero 142=some (.agg ⟨[iN 0,iN 0,iN 0,iN 0]⟩):=kr
theorem Sg:ex.T.zero 247=some (.agg ⟨[iN 0,iN 0]⟩):=kr
theorem Uq:ex.T.zero 31=some (.agg ⟨[iN 0,iN 0,iN 0,iN 0,iN 0]⟩):=kr
theorem Sh:ex.T.zero 361=some (.nilFunc):=kr
theorem Si:ex.T.zero 366=some (.nilFunc):=kr
theorem Sj:ex.T.zero 371=some (.agg ⟨[iN 0,iN 0,iN 0,iN 0]⟩):=kr
theorem Sk:ex.T.zero 386=some (.agg ⟨[iN 0,iN 0,iN 0]⟩):=kr
theorem IB:ex.T.ji 245=some (.map 247 4):=kr
theorem Vn:ex.T.ji 459=some (.map 386 4):=kr
theorem IC:MK ex.T 247 (fun x:lZ=>.agg (pL x).toArray):=
 ⟨fun x=>by kernel_rfl,fun x y=>⟨_,(show rE ex.T 247 (.agg (pL x).toArray) (.agg (pL y).toArray)=xg ex.T 12 247 (.agg (pL x).toArray) (.agg (pL y).toArray)from by kernel_rfl).trans (Oh x y),Og x y⟩,fun x=>B4 [x.lC,x.pI]⟩
theorem XH:MK ex.T 386 (fun x:yd=>.agg (rS x).toArray):=
 ⟨fun x=>by kernel_rfl,fun x y=>⟨_,(show rE ex.T 386 (.agg (rS x).toArray) (.agg (rS y).toArray)=xg ex.T 12 386 (.agg (rS x).toArray) (.agg (rS y).toArray)from by kernel_rfl).trans (Nj x y),Ni x y⟩,fun x=>B4 [x.ki,x.j_,x.n_]⟩
theorem Oi(M:Int)(b1:Nat)(x:ou)(hp:Ht)(nx:Nat)(h1:hp.get b1=some (.cells [iN M] gl.plain))(au:b1<nx):WF ex 181 [.agg (lN x).toArray,pt b1 0] hp nx (fO nx hp (gk (Jz M x))):=by
 refine wd Tryz.f181 20 [.tmp 3] fun hE=>sr<|oB (.agg (lN x).toArray) (lN x) fun jN iY iA=>?_
 refine oN 1<|sr<|oZ b1 (0) (iN M) fP (iY.get h1 au) rfl<|oX 1<|oZ nx 0 (iN x.iX) fP iA rfl<|oL [iN x.iX] fun B2 R af=>?_
 refine oD 8 (mz (0) (M) (x.iX) (⟨.slice (some ⟨(nx+1),0,none⟩) 1 1,[x.iX]⟩:SV Int) B2 (nx+1+1) (gA.mO (enc:=encI) (by simp[encI]) af rfl (by decide) om (by simp):gA encI 1 B2 (nx+1+1) (⟨.slice (some ⟨(nx+1),0,none⟩) 1 1,[x.iX]⟩:SV Int)) rfl) fun o ak aj j ao U=>?_
 have I:=((hE.trans iY).trans R).trans U
 have J:=U.get (R.get iA)
 refine oX 1<|gT 9 o (pt nx (0+1))<|lr 9 o nx (0+1) (iN x.AV) fP J rfl ?_
 refine qw 9 o (qo 1 x.AV) fun aw al=>?_
 refine mI 13 (nA ak al) fun C ae=>oX 1<|gT 14 C (pt nx (0+2))<|lr 14 C nx (0+2) (iN x.wN) fP J rfl ?_
 cases C with
 |true=>
  have ax:=(ae).1 rfl
  refine WO.cons (WC.k_ (x:=.bool true) (g:=aaj (.tmp 14)) rfl kr rfl (WC.buildSlice [iN x.wN] rfl kr ?_))
  obtain⟨aa,ab,ah,ag⟩:=boxed aj (j) [iN x.wN]
  rw[ab];clear ab
  refine WO.cons (WC.k_ (x:=.bool true) (g:=aaj (.tmp 14)) rfl kr rfl (WC.call 18 179 ([iN 0,iN 1099511627776,(⟨.slice (some ⟨j,0,none⟩) 1 1,[x.wN]⟩:SV Int).v]) kf ((mz (0) (1099511627776) (x.wN) (⟨.slice (some ⟨j,0,none⟩) 1 1,[x.wN]⟩:SV Int) aa (j+1) (gA.mO (enc:=encI) (by simp[encI]) ag rfl (by decide) om (by simp):gA encI 1 aa (j+1) (⟨.slice (some ⟨j,0,none⟩) 1 1,[x.wN]⟩:SV Int)) rfl).mono ?_)))
  rintro _ ar av ⟨⟨ad,rfl,an⟩,aq,ai⟩
  refine oW 2 ⟨rfl,rfl,[.bool ad],kr,?_⟩
  exact⟨⟨ad,rfl,an.trans (by unfold Jz;omega)⟩,od,((I.trans ah).trans ai)⟩
 |false=>
  have ay:¬(((0)<=(x.iX)/\(x.iX)<=(M))/\((1)<=(x.AV))):=nf ae
  refine oW 4 ⟨rfl,rfl,[.bool false],kr,?_⟩
  exact⟨⟨false,rfl,fun h=>(by cases h),fun h=>(by unfold Jz at h;omega)⟩,od,I⟩
theorem Oj(M:Int)(b1:Nat)(x:sQ)(hp:Ht)(nx:Nat)(h1:hp.get b1=some (.cells [iN M] gl.plain))(av:b1<nx):WF ex 184 [.agg (mi x).toArray,pt b1 0] hp nx (fO nx hp (gk (Hb M x))):=by
 refine wd Tryz.f184 26 [.tmp 3] fun hE=>sr<|oB (.agg (mi x).toArray) (mi x) fun jN iY iA=>?_
 refine oN 1<|sr<|oZ b1 (0) (iN M) fP (iY.get h1 av) rfl<|oX 1<|oZ nx 0 (iN x.lC) fP iA rfl<|oX 1<|oZ nx (0+1) (iN x.pI) fP iA rfl<|oL [iN x.lC,iN x.pI] fun B2 U ai=>?_
 refine oD 10 (yc (0) (M) (x.lC) (x.pI) (⟨.slice (some ⟨(nx+1),0,none⟩) 2 2,[x.lC,x.pI]⟩:SV Int) B2 (nx+1+1) (gA.mO (enc:=encI) (by simp[encI]) ai rfl (by decide) om (by simp):gA encI 1 B2 (nx+1+1) (⟨.slice (some ⟨(nx+1),0,none⟩) 2 2,[x.lC,x.pI]⟩:SV Int)) rfl) fun o ah ak j aq aa=>?_
 have J:=((hE.trans iY).trans U).trans aa
 have I:=aa.get (U.get iA)
 refine oX 1<|gT 11 o (pt nx (0+2))<|lr 11 o nx (0+2) (iN x.yG) fP I rfl<|gT 11 o (pt nx (0+3))<|lr 11 o nx (0+3) (iN x.yH) fP I rfl ?_
 cases o with
 |true=>
  have ay:=(ah).1 rfl
  refine WO.cons (WC.k_ (x:=.bool true) (g:=aaj (.tmp 11)) rfl kr rfl (WC.buildSlice [iN x.yG,iN x.yH] rfl kr ?_))
  obtain⟨ae,af,ab,aj⟩:=boxed ak (j) [iN x.yG,iN x.yH]
  rw[af];clear af
  refine WO.cons (WC.k_ (x:=.bool true) (g:=aaj (.tmp 11)) rfl kr rfl (WC.call 17 179 ([iN 0,iN 68719476736,(⟨.slice (some ⟨j,0,none⟩) 2 2,[x.yG,x.yH]⟩:SV Int).v]) kf ((yc (0) (68719476736) (x.yG) (x.yH) (⟨.slice (some ⟨j,0,none⟩) 2 2,[x.yG,x.yH]⟩:SV Int) ae (j+1) (gA.mO (enc:=encI) (by simp[encI]) aj rfl (by decide) om (by simp):gA encI 1 ae (j+1) (⟨.slice (some ⟨j,0,none⟩) 2 2,[x.yG,x.yH]⟩:SV Int)) rfl).mono ?_)))
  rintro _ au aw ⟨⟨C,rfl,al⟩,ar,ad⟩
  have R:=ad.get (ab.get I)
  refine oX 2<|gT 19 C (pt nx (0+2))<|lr 19 C nx (0+2) (iN x.yG) fP R rfl<|gT 19 C (pt nx (0+3))<|lr 19 C nx (0+3) (iN x.yH) fP R rfl ?_
  refine qw 19 C (qo x.yG x.yH) fun ax an=>?_
  refine mI 25 (nA al an) fun ag ao=>oW 1 ⟨rfl,rfl,[.bool ag],kr,?_⟩
  exact⟨⟨ag,rfl,ao.trans (by unfold Hb;omega)⟩,od,((J.trans ab).trans ad)⟩
 |false=>
  have az:¬(((0)<=(x.lC)/\(x.lC)<=(M))/\(0)<=(x.pI)/\(x.pI)<=(M)):=nf ah
  refine oW 11 ⟨rfl,rfl,[.bool false],kr,?_⟩
  exact⟨⟨false,rfl,fun h=>(by cases h),fun h=>(by unfold Hb at h;omega)⟩,od,J⟩
theorem Ol(x:tz)(hp:Ht)(nx:Nat):WF ex 188 [.agg (oQ x).toArray] hp nx (fO nx hp (gk (Ng x))):=by
 refine wd Tryz.f188 7 [.tmp 2] fun hE=>sr<|oB (.agg (oQ x).toArray) (oQ x) fun jN iY iA=>?_
 refine oN 1<|sr<|oX 1<|oZ nx (0+1) (iN x.jf) fP iA rfl<|oL [iN x.jf] fun j jm o=>?_
 refine oD 6 (mz (1) (3) (x.jf) (⟨.slice (some ⟨(nx+1),0,none⟩) 1 1,[x.jf]⟩:SV Int) j (nx+1+1) (gA.mO (enc:=encI) (by simp[encI]) o rfl (by decide) om (by simp):gA encI 1 j (nx+1+1) (⟨.slice (some ⟨(nx+1),0,none⟩) 1 1,[x.jf]⟩:SV Int)) rfl) fun sk vp C I xV jQ=>?_
 refine oW 1 ⟨rfl,rfl,[.bool sk],kr,?_⟩
 exact⟨⟨sk,rfl,vp.trans (by unfold Ng;omega)⟩,od,(((hE.trans iY).trans jm).trans jQ)⟩
theorem Om(x:qJ)(hp:Ht)(nx:Nat):WF ex 193 [.agg (nj x).toArray] hp nx (fO nx hp (gk (FD x))):=by
 refine wd Tryz.f193 7 [.tmp 2] fun hE=>sr<|oB (.agg (nj x).toArray) (nj x) fun jN iY iA=>?_
 refine oN 1<|sr<|oX 1<|oZ nx (0+1) (iN x.EG) fP iA rfl<|oL [iN x.EG] fun j jm o=>?_
 refine oD 6 (mz (0) (1099511627776) (x.EG) (⟨.slice (some ⟨(nx+1),0,none⟩) 1 1,[x.EG]⟩:SV Int) j (nx+1+1) (gA.mO (enc:=encI) (by simp[encI]) o rfl (by decide) om (by simp):gA encI 1 j (nx+1+1) (⟨.slice (some ⟨(nx+1),0,none⟩) 1 1,[x.EG]⟩:SV Int)) rfl) fun sk vp C I xV jQ=>?_
 refine oW 1 ⟨rfl,rfl,[.bool sk],kr,?_⟩
 exact⟨⟨sk,rfl,vp.trans (by unfold FD;omega)⟩,od,(((hE.trans iY).trans jm).trans jQ)⟩
theorem Nl(x:lP)(hp:Ht)(nx:Nat):WF ex 196 [.agg (jS x).toArray] hp nx (fO nx hp (gk (JB x))):=by
 refine wd Tryz.f196 16 [.tmp 2] fun hE=>sr<|oB (.agg (jS x).toArray) (jS x) fun jN iY iA=>?_
 refine oN 1<|sr<|oX 1<|oZ nx (0+1) (iN x.lC) fP iA rfl<|oX 1<|oZ nx (0+2) (iN x.pI) fP iA rfl<|oL [iN x.lC,iN x.pI] fun C jm I=>?_
 refine oD 8 (yc (0) (120) (x.lC) (x.pI) (⟨.slice (some ⟨(nx+1),0,none⟩) 2 2,[x.lC,x.pI]⟩:SV Int) C (nx+1+1) (gA.mO (enc:=encI) (by simp[encI]) I rfl (by decide) om (by simp):gA encI 1 C (nx+1+1) (⟨.slice (some ⟨(nx+1),0,none⟩) 2 2,[x.lC,x.pI]⟩:SV Int)) rfl) fun sk vp U aa xV jQ=>?_
 have j:=jQ.get (jm.get iA)
 refine oX 1<|gT 9 sk (pt nx (0+1))<|lr 9 sk nx (0+1) (iN x.lC) fP j rfl<|gT 9 sk (pt nx (0+2))<|lr 9 sk nx (0+2) (iN x.pI) fP j rfl ?_
 refine qw 9 sk (qo x.lC x.pI) fun ab J=>?_
 refine mI 15 (nA vp J) fun o R=>oW 1 ⟨rfl,rfl,[.bool o],kr,?_⟩
 exact⟨⟨o,rfl,R.trans (by unfold JB;omega)⟩,od,(((hE.trans iY).trans jm).trans jQ)⟩
theorem On(x:mC)(hp:Ht)(nx:Nat):WF ex 185 [.agg (j9 x).toArray] hp nx (fO nx hp (gk (Dv x))):=by
 refine wd Tryz.f185 31 [.tmp 2] fun hE=>sr<|oB (.agg (j9 x).toArray) (j9 x) fun jN iY iA=>?_
 have l_:=hE.trans iY
 refine oN 1<|WP.seq<|WP.block<|sr<|oX 1 ?_
 obtain⟨aj,ak,av⟩:=@nb (x.kl) (x.kl=true) (by first|done|exact Iff.rfl)
 refine oZ nx (0+3) (.bool aj) xT iA (by rw[ak];rfl)<|oN 1<|cq av (fun j=>?_) (fun j=>?_)
 ·
  refine sr<|oX 1<|oZ nx (0+1) (iN x.ug) fP iA rfl ?_
  refine oq 8 (qp x.ug 0) fun o af=>oX 1<|gT 9 o (pt nx (0+2))<|lr 9 o nx (0+2) (iN x.kc) fP iA rfl ?_
  refine qw 9 o (qp x.kc 0) fun ow sj=>?_
  refine mI 13 (nA af sj) fun nC rH=>oW 1 ⟨rfl,rfl,[.bool nC],kr,?_⟩
  exact⟨⟨nC,rfl,rH.trans (by unfold Dv;by_cases hb:x.kl=true<;>simp only[hb,true_and,false_and,not_true_eq_false,not_false_eq_true,or_false,false_or,Bool.false_eq_true]<;>first|exact absurd hb j|exact absurd j hb|omega)⟩,od,l_⟩
 ·
  refine sr<|oX 1<|oZ nx (0+2) (iN x.kc) fP iA rfl ?_
  refine oq 17 (qW x.kc 0) fun CA A_=>oN 1<|cq A_ (fun ai=>?_) (fun ai=>?_)
  ·
   refine sr<|oX 1<|oZ nx (0+1) (iN x.ug) fP iA rfl ?_
   refine oq 20 (qp x.ug 0) fun C U=>oX 1<|gT 21 C (pt nx (0+2))<|lr 21 C nx (0+2) (iN x.kc) fP iA rfl ?_
   cases C with
   |true=>
    have aw:=(U).1 rfl
    refine WO.cons (WC.k_ (x:=.bool true) (g:=aaj (.tmp 21)) rfl kr rfl (WC.buildSlice [iN x.kc] rfl kr ?_))
    obtain⟨Jl,I,ab,aa⟩:=boxed jN (nx+1) [iN x.kc]
    rw[I];clear I
    refine WO.cons (WC.k_ (x:=.bool true) (g:=aaj (.tmp 21)) rfl kr rfl (WC.call 25 179 ([iN 1,iN 64,(⟨.slice (some ⟨(nx+1),0,none⟩) 1 1,[x.kc]⟩:SV Int).v]) kf ((mz (1) (64) (x.kc) (⟨.slice (some ⟨(nx+1),0,none⟩) 1 1,[x.kc]⟩:SV Int) Jl (nx+1+1) (gA.mO (enc:=encI) (by simp[encI]) aa rfl (by decide) om (by simp):gA encI 1 Jl (nx+1+1) (⟨.slice (some ⟨(nx+1),0,none⟩) 1 1,[x.kc]⟩:SV Int)) rfl).mono ?_)))
    rintro _ ao ar ⟨⟨J,rfl,ag⟩,al,ad⟩
    refine oW 2 ⟨rfl,rfl,[.bool J],kr,?_⟩
    exact⟨⟨J,rfl,ag.trans (by unfold Dv;by_cases hb:x.kl=true<;>simp only[hb,true_and,false_and,not_true_eq_false,not_false_eq_true,or_false,false_or,Bool.false_eq_true]<;>first|exact absurd hb j|exact absurd j hb|omega)⟩,od,((l_.trans ab).trans ad)⟩
   |false=>
    have ax:¬((x.ug)=(0)):=nf U
    refine oW 4 ⟨rfl,rfl,[.bool false],kr,?_⟩
    exact⟨⟨false,rfl,fun h=>(by cases h),fun h=>(by unfold Dv at h;by_cases hb:x.kl=true<;>simp only[hb,true_and,false_and,not_true_eq_false,not_false_eq_true,or_false,false_or]at h<;>first|exact absurd hb j|exact absurd j hb|omega)⟩,od,l_⟩
  ·
   refine WP.skip<|sr<|oX 1<|oZ nx (0+1) (iN x.ug) fP iA rfl<|oL [iN x.ug] fun w9 ur w_=>?_
   refine oD 30 (mz (0) (68719476736) (x.ug) (⟨.slice (some ⟨(nx+1),0,none⟩) 1 1,[x.ug]⟩:SV Int) w9 (nx+1+1) (gA.mO (enc:=encI) (by simp[encI]) w_ rfl (by decide) om (by simp):gA encI 1 w9 (nx+1+1) (⟨.slice (some ⟨(nx+1),0,none⟩) 1 1,[x.ug]⟩:SV Int)) rfl) fun R ah aq au an ae=>?_
   refine oW 1 ⟨rfl,rfl,[.bool R],kr,?_⟩
   exact⟨⟨R,rfl,ah.trans (by unfold Dv;by_cases hb:x.kl=true<;>simp only[hb,true_and,false_and,not_true_eq_false,not_false_eq_true,or_false,false_or,Bool.false_eq_true]<;>first|exact absurd hb j|exact absurd j hb|omega)⟩,od,((l_.trans ur).trans ae)⟩
theorem Oo(C:j7)(ad:Nat)(x:oR)(hp:Ht)(nx:Nat)(az:oJ hp nx C)(hb:hp.get ad=some (.cells (iz C) gl.plain))(jz:ad<nx):WF ex 186 [.agg (lg x).toArray,pt ad 0] hp nx (fO nx hp (gk (ye C x))):=by
 refine wd Tryz.f186 34 [.tmp 3] fun hE=>sr<|oB (.agg (lg x).toArray) (lg x) fun jN iY iA=>?_
 have aD:=iY.get hb jz
 refine oN 1<|sr<|oX 1 ?_
 obtain⟨aQ,aR,aN⟩:=az.fE.1.shape
 have aV:=az.fE.1.2.2
 refine oZ ad (0+3) (.slice aQ (C.fE.l.length) aR) rI aD (by rw[<-aN];rfl)<|oX 3<|oZ nx 0 (iN x.ki) fP iA rfl<|oL [iN x.ki] fun au R aH=>?_
 refine oD 11 (mz (0) (gD .i64 ((.ofNat (C.fE.l.length))-(1))) (x.ki) (⟨.slice (some ⟨(nx+1),0,none⟩) 1 1,[x.ki]⟩:SV Int) au (nx+1+1) (gA.mO (enc:=encI) (by simp[encI]) aH rfl (by decide) om (by simp):gA encI 1 au (nx+1+1) (⟨.slice (some ⟨(nx+1),0,none⟩) 1 1,[x.ki]⟩:SV Int)) rfl) fun J aE aK j aY U=>?_
 have ah:=((hE.trans iY).trans R).trans U
 have ak:=U.get (R.get iA)
 refine oX 1<|gT 12 J (pt ad (0+6)) ?_
 obtain⟨a37,aS,aO⟩:=az.iw.shape
 have aW:=az.iw.2.2
 refine lr 12 J ad (0+6) (.slice a37 (C.iw.l.length) aS) CG (U.get (R.get aD)) (by rw[<-aO];rfl)<|gT 12 J (iN (.ofNat (C.iw.l.length)))<|gT 12 J (iN (gD .i64 ((.ofNat (C.iw.l.length))-(1))))<|gT 12 J (pt nx (0+1))<|lr 12 J nx (0+1) (iN x.j_) fP ak rfl ?_
 cases J with
 |true=>
  have bf:=(aE).1 rfl
  refine WO.cons (WC.k_ (x:=.bool true) (g:=aaj (.tmp 12)) rfl kr rfl (WC.buildSlice [iN x.j_] rfl kr ?_))
  obtain⟨av,ax,an,aI⟩:=boxed aK (j) [iN x.j_]
  rw[ax];clear ax
  refine WO.cons (WC.k_ (x:=.bool true) (g:=aaj (.tmp 12)) rfl kr rfl (WC.call 20 179 ([iN (-1),iN (gD .i64 ((.ofNat (C.iw.l.length))-(1))),(⟨.slice (some ⟨j,0,none⟩) 1 1,[x.j_]⟩:SV Int).v]) kf ((mz (-1) (gD .i64 ((.ofNat (C.iw.l.length))-(1))) (x.j_) (⟨.slice (some ⟨j,0,none⟩) 1 1,[x.j_]⟩:SV Int) av (j+1) (gA.mO (enc:=encI) (by simp[encI]) aI rfl (by decide) om (by simp):gA encI 1 av (j+1) (⟨.slice (some ⟨j,0,none⟩) 1 1,[x.j_]⟩:SV Int)) rfl).mono ?_)))
  rintro _ aL o ⟨⟨af,rfl,aF⟩,aZ,ao⟩
  have ai:=(ah.trans an).trans ao
  have al:=ao.get (an.get ak)
  refine oX 2<|gT 22 af (pt nx (0+2))<|lr 22 af nx (0+2) (iN x.n_) fP al rfl ?_
  cases af with
  |true=>
   have bg:=(aF).1 rfl
   refine WO.cons (WC.k_ (x:=.bool true) (g:=aaj (.tmp 22)) rfl kr rfl (WC.buildSlice [iN x.n_] rfl kr ?_))
   obtain⟨aw,ay,aq,aJ⟩:=boxed aL (o) [iN x.n_]
   rw[ay];clear ay
   refine WO.cons (WC.k_ (x:=.bool true) (g:=aaj (.tmp 22)) rfl kr rfl (WC.call 26 179 ([iN 1,iN 4000,(⟨.slice (some ⟨o,0,none⟩) 1 1,[x.n_]⟩:SV Int).v]) kf ((mz (1) (4000) (x.n_) (⟨.slice (some ⟨o,0,none⟩) 1 1,[x.n_]⟩:SV Int) aw (o+1) (gA.mO (enc:=encI) (by simp[encI]) aJ rfl (by decide) om (by simp):gA encI 1 aw (o+1) (⟨.slice (some ⟨o,0,none⟩) 1 1,[x.n_]⟩:SV Int)) rfl).mono ?_)))
   rintro _ aM I ⟨⟨ag,rfl,aG⟩,a6,ar⟩
   have aj:=(ai.trans aq).trans ar
   refine oX 2<|gT 28 ag (pt nx (0+3))<|lr 28 ag nx (0+3) (iN x.uM) fP (ar.get (aq.get al)) rfl ?_
   cases ag with
   |true=>
    have a7:=(aG).1 rfl
    refine WO.cons (WC.k_ (x:=.bool true) (g:=aaj (.tmp 28)) rfl kr rfl (WC.buildSlice [iN x.uM] rfl kr ?_))
    obtain⟨aa,ab,aB,aA⟩:=boxed aM (I) [iN x.uM]
    rw[ab];clear ab
    refine WO.cons (WC.k_ (x:=.bool true) (g:=aaj (.tmp 28)) rfl kr rfl (WC.call 32 179 ([iN 1,iN 1125899906842624,(⟨.slice (some ⟨I,0,none⟩) 1 1,[x.uM]⟩:SV Int).v]) kf ((mz (1) (1125899906842624) (x.uM) (⟨.slice (some ⟨I,0,none⟩) 1 1,[x.uM]⟩:SV Int) aa (I+1) (gA.mO (enc:=encI) (by simp[encI]) aA rfl (by decide) om (by simp):gA encI 1 aa (I+1) (⟨.slice (some ⟨I,0,none⟩) 1 1,[x.uM]⟩:SV Int)) rfl).mono ?_)))
    rintro _ aU aX ⟨⟨ae,rfl,aP⟩,aT,aC⟩
    refine oW 2 ⟨rfl,rfl,[.bool ae],kr,?_⟩
    exact⟨⟨ae,rfl,aP.trans (by unfold ye;omega)⟩,od,((aj.trans aB).trans aC)⟩
   |false=>
    have a8:¬((1)<=(x.n_)/\(x.n_)<=(4000)):=nf aG
    refine oW 4 ⟨rfl,rfl,[.bool false],kr,?_⟩
    exact⟨⟨false,rfl,fun h=>(by cases h),fun h=>(by unfold ye at h;omega)⟩,od,aj⟩
  |false=>
   have a_:¬((-1)<=(x.j_)/\(x.j_)<=(gD .i64 ((.ofNat (C.iw.l.length))-(1)))):=nf aF
   refine oW 10 ⟨rfl,rfl,[.bool false],kr,?_⟩
   exact⟨⟨false,rfl,fun h=>(by cases h),fun h=>(by unfold ye at h;omega)⟩,od,ai⟩
 |false=>
  have bd:¬((0)<=(x.ki)/\(x.ki)<=(gD .i64 ((.ofNat (C.fE.l.length))-(1)))):=nf aE
  refine oW 16 ⟨rfl,rfl,[.bool false],kr,?_⟩
  exact⟨⟨false,rfl,fun h=>(by cases h),fun h=>(by unfold ye at h;omega)⟩,od,ah⟩
theorem Kq(n:Nat)(M:Int)(b1 b2:Nat)(p:RPart)(ih:∀x∈p.fW.l,∀(hp:Ht) (nx:Nat),kL hp nx x->hp.get b1=some (.cells [iN M] gl.plain)->b1<nx->hp.get b2=some (.cells [.func (.func 178) #[] #[pt b1 0,pt b2 0]] gl.plain)->b2<nx->WF ex 178 [.agg (jJ x).toArray,pt b1 0,pt b2 0] hp nx (fO nx hp (gk (sc n M x))))(hp:Ht)(nx:Nat)(o:kL hp nx p)(h1:hp.get b1=some (.cells [iN M] gl.plain))(a8:b1<nx)(h2:hp.get b2=some (.cells [.func (.func 178) #[] #[pt b1 0,pt b2 0]] gl.plain))(a_:b2<nx):WF ex 178 [.agg (jJ p).toArray,pt b1 0,pt b2 0] hp nx (fO nx hp (gk (sc (n+1) M p))):=by
 refine wd Tryz.f178 40 [.tmp 4] fun hE=>sr<|oB (.agg (jJ p).toArray) (jJ p) fun jN iY iA=>?_
 have l_:=hE.trans iY nR
 have aC:=iY.get h1 a8
 have aD:=Nat.lt_of_lt_of_le a8 (Nat.le_succ (nx))
 have a7:=iY.get h2 a_
 have ar:=Nat.lt_of_lt_of_le a_ (Nat.le_succ (nx))
 have I:=Nat.le_trans nR (Nat.le_succ (nx))
 refine oN 1<|WP.seq<|sr<|oX 1<|oZ nx (0+1) (iN p.kc) fP iA rfl ?_
 refine oq 7 (qp p.kc 0) fun ow sj=>WO.nil<|cq sj (fun R=>?_) (fun R=>?_)
 ·
  refine sr<|oZ b1 (0) (iN M) fP aC rfl<|oX 1<|oZ nx 0 (iN p.iX) fP iA rfl<|oL [iN p.iX] fun ak ai aJ=>?_
  have aF:=l_.trans ai I
  have aK:=ai.get iA (Nat.lt_succ_self (nx))
  have aX:=Nat.lt_of_lt_of_le (Nat.lt_succ_self (nx)) (Nat.le_succ (nx+1))
  have ao:=Nat.le_trans I (Nat.le_succ (nx+1))
  refine oD 12 (mz (0) (M) (p.iX) (⟨.slice (some ⟨(nx+1),0,none⟩) 1 1,[p.iX]⟩:SV Int) ak (nx+1+1) (gA.mO (enc:=encI) (by simp[encI]) aJ rfl (by decide) om (by simp):gA encI 1 ak (nx+1+1) (⟨.slice (some ⟨(nx+1),0,none⟩) 1 1,[p.iX]⟩:SV Int)) rfl) fun ae bc bq bt aS aj=>?_
  have aG:=aF.trans aj ao
  have aL:=aj.get aK aX
  have aV:=Nat.le_trans ao aS
  refine oX 1<|gT 13 ae (pt nx (0+2)) ?_
  obtain⟨aZ,a6,aU⟩:=o.fW.1.shape
  have bo:=o.fW.1.2.2
  refine lr 13 ae nx (0+2) (.slice aZ (p.fW.l.length) a6) pr aL (by rw[<-aU];rfl)<|gT 13 ae (iN (.ofNat (p.fW.l.length))) ?_
  refine qw 13 ae (w5 p.fW.l.length 0) fun bw bd=>?_
  refine mI 18 (nA bc bd) fun az bf=>oW 1 ⟨rfl,rfl,[.bool az],kr,?_⟩
  exact⟨⟨az,rfl,bf.trans ⟨fun h=>.inl ⟨R,h.1,om⟩,fun h=>by
   rcases h with⟨_,a,b⟩|⟨a,_⟩
   · exact⟨a,om⟩
   · exact absurd R a⟩⟩,aV,aG⟩
 ·
  refine WP.skip<|sr<|oX 1<|oZ nx (0+1) (iN p.kc) fP iA rfl<|oL [iN p.kc] fun al oO aM=>?_
  have aH:=l_.trans oO I
  have aN:=oO.get aC aD
  have au:=Nat.lt_of_lt_of_le aD (Nat.le_succ (nx+1))
  have aO:=oO.get a7 ar
  have av:=Nat.lt_of_lt_of_le ar (Nat.le_succ (nx+1))
  have aP:=oO.get iA (Nat.lt_succ_self (nx))
  have aY:=Nat.lt_of_lt_of_le (Nat.lt_succ_self (nx)) (Nat.le_succ (nx+1))
  have aq:=Nat.le_trans I (Nat.le_succ (nx+1))
  refine oD 22 (mz (1) (64) (p.kc) (⟨.slice (some ⟨(nx+1),0,none⟩) 1 1,[p.kc]⟩:SV Int) al (nx+1+1) (gA.mO (enc:=encI) (by simp[encI]) aM rfl (by decide) om (by simp):gA encI 1 al (nx+1+1) (⟨.slice (some ⟨(nx+1),0,none⟩) 1 1,[p.kc]⟩:SV Int)) rfl) fun ag bg an ay ab C=>?_
  have U:=aH.trans C aq
  have aQ:=C.get aN au
  have aw:=Nat.lt_of_lt_of_le au ab
  have ah:=C.get aO av
  have ax:=Nat.lt_of_lt_of_le av ab
  have aa:=C.get aP aY
  have J:=Nat.le_trans aq ab
  refine oX 1<|gT 23 ag (pt nx 0)<|lr 23 ag nx 0 (iN p.iX) fP aa rfl ?_
  refine qw 23 ag (qp p.iX 0) fun jB bh=>?_
  refine mI 27 (nA bg bh) fun af bj=>oX 1<|gT 28 af (pt nx (0+2)) ?_
  obtain⟨a78,aA,ad⟩:=o.fW.1.shape
  have bp:=o.fW.1.2.2
  refine lr 28 af nx (0+2) (.slice a78 (p.fW.l.length) aA) pr aa (by rw[<-ad];rfl)<|gT 28 af (iN (.ofNat (p.fW.l.length))) ?_
  refine qw 28 af (nc 0 p.fW.l.length) fun bx bk=>?_
  refine mI 33 (nA bj bk) fun j aE=>oX 1<|gT 34 j (pt nx (0+2))<|lr 34 j nx (0+2) (.slice a78 (p.fW.l.length) aA) pr aa (by rw[<-ad];rfl)<|lr 34 j b2 (0) (.func (.func 178) #[] #[pt b1 0,pt b2 0]) G6 ah rfl<|WO.cons (WC.gq (j) (GB (j) (∀x∈p.fW.l,(sc n M) x) (ay) an) (.bool j) (g:=aaj (.tmp 34)) rfl kr (by cases j<;>rfl) (fun h=>by obtain rfl:j=true:=(by simpa using h);have bA:=(aE).1 rfl;exact WC.call 38 180 ([p.fW.v,.func (.func 178) #[] #[pt b1 0,pt b2 0]]) (fun _ _ _=>by(try rw[ad]);kernel_rfl) ((Iy (sc n M) p.fW 178 #[pt b1 0,pt b2 0] an (ay) (o.fW.mono (fun _ h he hn=>h.mono he hn) U J) (fun i x hx fe fg hn he=>ih x (List.mem_of_getElem? hx) fe fg (((o.fW.mono (fun _ h he hn=>h.mono he hn) U J).2 x (List.mem_of_getElem? hx)).mono he hn) (he.get aQ aw) (Nat.lt_of_lt_of_le aw hn) (he.get ah ax) (Nat.lt_of_lt_of_le ax hn))).mono fun v fe fg ⟨⟨c,bs,hc⟩,hn,he⟩=>⟨_,_,_,rfl,⟨c,bs,hc⟩,hn,he⟩)) (fun h=>GB.off h) ?_)
  rintro _ br bu ⟨⟨bz,rfl,bl⟩,aT,aR⟩
  have aI:=U.trans aR J
  have aW:=Nat.le_trans J aT
  refine mI 39 (nA aE bl) fun aB bn=>oW 1 ⟨rfl,rfl,[.bool aB],kr,?_⟩
  exact⟨⟨aB,rfl,bn.trans ⟨fun h=>.inr ⟨R,h.1.1.1,h.1.1.2,by have:=h.1.2;omega,h.2⟩,fun h=>by
   rcases h with⟨a,_⟩|⟨_,a,b,c,d⟩
   · exact absurd a R
   · exact⟨⟨⟨a,b⟩,om⟩,d⟩⟩⟩,aW,aI⟩
theorem Wd(n:Nat)(M:Int)(b1 b2:Nat)(p:RPart)(hH:tE n p.fW.l)(hp:Ht)(nx:Nat)(j:kL hp nx p)(h1:hp.get b1=some (.cells [iN M] gl.plain))(o:b1<nx)(h2:hp.get b2=some (.cells [.func (.func 178) #[] #[pt b1 0,pt b2 0]] gl.plain))(C:b2<nx):WF ex 178 [.agg (jJ p).toArray,pt b1 0,pt b2 0] hp nx (fO nx hp (gk (sc (n+1) M p))):=by
 induction n generalizing p hp nx with
 |zero=>
  have h0:p.fW.l=[]:=hH
  exact Kq 0 M b1 b2 p (fun x hx=>by rw[h0]at hx;cases hx) hp nx j h1 o h2 C
 |succ n ih=>exact Kq (n+1) M b1 b2 p (fun x hx hp nx a b c d e=>ih x (hH x hx) hp nx a b c d e) hp nx j h1 o h2 C
theorem Oq(M:Int)(b1 b2 aZ:Nat)(d:j5)(hH:tE 17 d.jI.l)(hp:Ht)(nx:Nat)(hd:lO hp nx d)(h1:hp.get b1=some (.cells [iN M] gl.plain))(bS:b1<nx)(h2:hp.get b2=some (.cells [.func (.func 178) #[] #[pt b1 0,pt b2 0]] gl.plain))(bT:b2<nx)(h3:hp.get aZ=some (.cells [.func (.func 181) #[] #[pt b1 0]] gl.plain))(bU:aZ<nx):WF ex 182 [.agg (iI d).toArray,pt b1 0,pt b2 0,pt aZ 0] hp nx (fO nx hp (gk (BD M d))):=by
 refine wd Tryz.f182 29 [.tmp 5] fun hE=>sr<|oB (.agg (iI d).toArray) (iI d) fun jN iY iA=>?_
 have l_:=hE.trans iY nR
 have bP:=iY.get h1 bS
 have bc:=Nat.lt_of_lt_of_le bS (Nat.le_succ (nx))
 have bQ:=iY.get h2 bT
 have aG:=Nat.lt_of_lt_of_le bT (Nat.le_succ (nx))
 have bl:=iY.get h3 bU
 have aH:=Nat.lt_of_lt_of_le bU (Nat.le_succ (nx))
 have aD:=Nat.le_trans nR (Nat.le_succ (nx))
 refine oN 1<|sr<|oX 1<|oZ nx (0+2) (iN d.uL) fP iA rfl<|oL [iN d.uL] fun ay I bn=>?_
 have bj:=l_.trans I aD
 have bo:=I.get bP bc
 have aI:=Nat.lt_of_lt_of_le bc (Nat.le_succ (nx+1))
 have bp:=I.get bQ aG
 have aJ:=Nat.lt_of_lt_of_le aG (Nat.le_succ (nx+1))
 have bq:=I.get bl aH
 have aK:=Nat.lt_of_lt_of_le aH (Nat.le_succ (nx+1))
 have br:=I.get iA (Nat.lt_succ_self (nx))
 have aL:=Nat.lt_of_lt_of_le (Nat.lt_succ_self (nx)) (Nat.le_succ (nx+1))
 have aE:=Nat.le_trans aD (Nat.le_succ (nx+1))
 refine oD 9 (mz (1) (3) (d.uL) (⟨.slice (some ⟨(nx+1),0,none⟩) 1 1,[d.uL]⟩:SV Int) ay (nx+1+1) (gA.mO (enc:=encI) (by simp[encI]) bn rfl (by decide) om (by simp):gA encI 1 ay (nx+1+1) (⟨.slice (some ⟨(nx+1),0,none⟩) 1 1,[d.uL]⟩:SV Int)) rfl) fun aj bd bG j aa J=>?_
 have an:=bj.trans J aE
 have aq:=J.get bo aI
 have aM:=Nat.lt_of_lt_of_le aI aa
 have bs:=J.get bp aJ
 have aN:=Nat.lt_of_lt_of_le aJ aa
 have bt:=J.get bq aK
 have aO:=Nat.lt_of_lt_of_le aK aa
 have ar:=J.get br aL
 have aP:=Nat.lt_of_lt_of_le aL aa
 have ai:=Nat.le_trans aE aa
 refine oX 1<|lr 10 aj b1 (0) (iN M) fP aq rfl<|gT 10 aj (pt nx (0+4))<|lr 10 aj nx (0+4) (iN d.jO) fP ar rfl ?_
 cases aj with
 |true=>
  have bW:=(bd).1 rfl
  refine WO.cons (WC.k_ (x:=.bool true) (g:=aaj (.tmp 10)) rfl kr rfl (WC.buildSlice [iN d.jO] rfl kr ?_))
  obtain⟨qq,aC,R,bu⟩:=boxed bG (j) [iN d.jO]
  rw[aC];clear aC
  have bk:=an.trans R ai
  have bw:=R.get aq aM
  have aQ:=Nat.lt_of_lt_of_le aM (Nat.le_succ (j))
  have bx:=R.get bs aN
  have aR:=Nat.lt_of_lt_of_le aN (Nat.le_succ (j))
  have bz:=R.get bt aO
  have aS:=Nat.lt_of_lt_of_le aO (Nat.le_succ (j))
  have bA:=R.get ar aP
  have aT:=Nat.lt_of_lt_of_le aP (Nat.le_succ (j))
  have aF:=Nat.le_trans ai (Nat.le_succ (j))
  refine WO.cons (WC.k_ (x:=.bool true) (g:=aaj (.tmp 10)) rfl kr rfl (WC.call 15 179 ([iN (-1),iN M,(⟨.slice (some ⟨j,0,none⟩) 1 1,[d.jO]⟩:SV Int).v]) kf ((mz (-1) (M) (d.jO) (⟨.slice (some ⟨j,0,none⟩) 1 1,[d.jO]⟩:SV Int) qq (j+1) (gA.mO (enc:=encI) (by simp[encI]) bu rfl (by decide) om (by simp):gA encI 1 qq (j+1) (⟨.slice (some ⟨j,0,none⟩) 1 1,[d.jO]⟩:SV Int)) rfl).mono ?_)))
  rintro _ az aW ⟨⟨C,rfl,bf⟩,ab,U⟩
  have ah:=bk.trans U aF
  have au:=U.get bw aQ
  have ag:=Nat.lt_of_lt_of_le aQ ab
  have av:=U.get bx aR
  have aU:=Nat.lt_of_lt_of_le aR ab
  have bB:=U.get bz aS
  have bI:=Nat.lt_of_lt_of_le aS ab
  have aw:=U.get bA aT
  have bJ:=Nat.lt_of_lt_of_le aT ab
  have af:=Nat.le_trans aF ab
  refine oX 2<|gT 17 C (pt nx (0+1)) ?_
  obtain⟨bN,bO,aB⟩:=hd.jI.1.shape
  have bY:=hd.jI.1.2.2
  refine lr 17 C nx (0+1) (.slice bN (d.jI.l.length) bO) pr aw (by rw[<-aB];rfl)<|lr 17 C b2 (0) (.func (.func 178) #[] #[pt b1 0,pt b2 0]) G6 av rfl<|WO.cons (WC.gq (C) (GB (C) (∀x∈d.jI.l,(sc 17 M) x) (aW) az) (.bool C) (g:=aaj (.tmp 17)) rfl kr (by cases C<;>rfl) (fun h=>by obtain rfl:C=true:=(by simpa using h);have b4:=(bf).1 rfl;exact WC.call 21 180 ([d.jI.v,.func (.func 178) #[] #[pt b1 0,pt b2 0]]) (fun _ _ _=>by(try rw[aB]);kernel_rfl) ((Iy (sc 17 M) d.jI 178 #[pt b1 0,pt b2 0] az (aW) (hd.jI.mono (fun _ h he hn=>h.mono he hn) ah af) (fun i x hx fe fg hn he=>Wd 16 M b1 b2 x (hH x (List.mem_of_getElem? hx)) fe fg (((hd.jI.mono (fun _ h he hn=>h.mono he hn) ah af).2 x (List.mem_of_getElem? hx)).mono he hn) (he.get au ag) (Nat.lt_of_lt_of_le ag hn) (he.get av aU) (Nat.lt_of_lt_of_le aU hn))).mono fun v fe fg ⟨⟨c,bH,hc⟩,hn,he⟩=>⟨_,_,_,rfl,⟨c,bH,hc⟩,hn,he⟩)) (fun h=>GB.off h) ?_)
  rintro _ aA aX ⟨⟨b5,rfl,bV⟩,ax,ad⟩
  have ao:=ah.trans ad af
  have bC:=ad.get au ag
  have aV:=Nat.lt_of_lt_of_le ag ax
  have bD:=ad.get bB bI
  have bE:=ad.get aw bJ
  have ae:=Nat.le_trans af ax
  refine mI 22 (nA bf bV) fun o aY=>oX 1<|gT 23 o (pt nx (0+3)) ?_
  obtain⟨bg,bh,ak⟩:=hd.jr.shape
  have bR:=hd.jr.2.2
  refine lr 23 o nx (0+3) (.slice bg (d.jr.l.length) bh) yN bE (by rw[<-ak];rfl)<|lr 23 o aZ (0) (.func (.func 181) #[] #[pt b1 0]) Nc bD rfl<|WO.cons (WC.gq (o) (GB (o) (∀x∈d.jr.l,(Jz M) x) (aX) aA) (.bool o) (g:=aaj (.tmp 23)) rfl kr (by cases o<;>rfl) (fun h=>by obtain rfl:o=true:=(by simpa using h);have b4:=(aY).1 rfl;exact WC.call 27 183 ([d.jr.v,.func (.func 181) #[] #[pt b1 0]]) (fun _ _ _=>by(try rw[ak]);kernel_rfl) ((E5 (Jz M) d.jr 181 #[pt b1 0] aA (aX) (hd.jr.mono ao ae) (fun i x hx fe fg hn he=>Oi M b1 x fe fg (he.get bC aV) (Nat.lt_of_lt_of_le aV hn))).mono fun v fe fg ⟨⟨c,bH,hc⟩,hn,he⟩=>⟨_,_,_,rfl,⟨c,bH,hc⟩,hn,he⟩)) (fun h=>GB.off h) ?_)
  rintro _ bX bZ ⟨⟨b0,rfl,bK⟩,a8,a7⟩
  have a6:=ao.trans a7 ae
  have a_:=Nat.le_trans ae a8
  refine mI 28 (nA aY bK) fun al bL=>oW 1 ⟨rfl,rfl,[.bool al],kr,?_⟩
  exact⟨⟨al,rfl,bL.trans ⟨fun h=>⟨⟨⟨bW,h.1.1⟩,h.1.2⟩,h.2⟩,fun h=>⟨⟨h.1.1.2,h.1.2⟩,h.2⟩⟩⟩,a_,a6⟩
 |false=>
  have bM:¬((1)<=(d.uL)/\(d.uL)<=(3)):=nf bd
  refine oW 16 ⟨rfl,rfl,[.bool false],kr,?_⟩
  exact⟨⟨false,rfl,fun h=>(by cases h),fun h=>absurd h.1.1.1 bM⟩,ai,an⟩
theorem QA(N:sQ->lZ)(K:SV sQ)(f:FuncId)(b:Array Value)(hp:Ht)(nx:Nat)(hK:gA mi 4 hp nx K)(hf:∀(i:Nat) (x:sQ),K.l[i]?=some x->∀(fe:Ht) (fg:Nat),nx<=fg->HE nx hp fe->WF ex f ((.agg (mi x).toArray)::b.toList) fe fg (fO fg fe (fun v=>v=.agg (pL (N x)).toArray))):WF ex 190 [K.v,.func (.func f) #[] b] hp nx (fO nx hp (gk (BE N K.l))):=by
 obtain⟨a1,c2,hR⟩:=hK.shape
 have lW:=hK.2.2
 rw[hR]
 refine wd Tryz.f190 25 [.tmp 4] fun hE=>sr<|oN 1<|sr<|WO.cons (WC.makeMap rfl ?_)
 obtain⟨Bz,zn,qm,vu⟩:=mapped hp (nx) (.map [] 0)
 rw[zn];clear zn
 refine oN 1<|WP.seq<|sr<|oN 3<|WP.block ?_
 refine my [0,1,5,9,10,11] (fun m hs ns vs=>∃(gZ:Nat) (sJ:List MapEntry) (vB:Nat),gZ+m=K.l.length/\vs=[.slice a1 (K.l.length) c2,.func (.func f) #[] b,.map (some nx),.slice a1 (K.l.length) c2,iN (.ofNat (K.l.length)),iN (.ofNat gZ)]/\nx+1<=ns/\HE nx hp hs/\hs.get nx=some (.map sJ vB)/\(kK (fun x:lZ=>.agg (pL x).toArray) (kZ ((K.l.take gZ).map N)) (fun _=>.bool true) sJ)) ?_ (K.l.length) ?_
 ·
  rintro EL Dn sK _ ⟨gZ,sJ,vB,It,rfl,xV,jQ,yR,vC⟩ By
  refine sr ?_
  obtain⟨uB,R,uC⟩:=kV gZ K.l.length
  refine ob 12 R<|WO.nil<|WP.seq<|cq uC (fun xU=>?_) (fun xU=>?_)
  ·
   refine WP.skip<|WP.seq<|WP.block<|sr ?_
   have rJ:gZ<K.l.length:=by omega
   refine WO.cons (WC.iy hR hK (gZ) Ju tk (rJ) ?_)
   obtain⟨lq,pe⟩:=gE rJ
   refine WO.cons (WC.ly hR (hK.mono jQ nR) pe Bd tk<|oA [iN 0,iN 0,iN 0,iN 0] Kp fun vv sG uq=>?_)
   refine oS sK (0) (.agg (mi lq).toArray) (mi lq) (mi lq) tk rfl rfl uq fun w9 ur w_ Bc=>?_
   have vD:=(jQ.trans sG).trans ur
   refine WO.nil<|WP.region<|oX 2<|WO.cons (WC.jb sK (0) (mi lq) kr Bd tk w_ rfl<|WO.cons (WC.call 18 f ((.agg (mi lq).toArray)::b.toList) kf ((hf gZ lq pe w9 (sK+1) om vD).mono ?_)))
   rintro _ qq pd ⟨rfl,Dh,oO⟩
   refine WO.cons (WC.mapUpdate (g:=(fun _=>.bool true)) (g':=(fun _=>.bool true)) nx (N lq) (.bool true) rfl kr kr kr IC IB (oO.get ((Bc nx om).trans (sG.get yR))) vC (qL _) rfl (fun _ _=>rfl) ?_)
   rintro o J ad qu I ab C
   refine WO.nil<|WP.region<|ov 19 (iN (.ofNat (gZ+1))) ?_ (fun _ _ _=>by rw[<-gU (show gZ+1<9223372036854775808 by omega)];kernel_rfl)
   refine oN 1<|⟨K.l.length-(gZ+1),om,rfl,rfl,gZ+1,o,J,om,kr,?_,?_,?_,?_⟩
   · exact od
   · exact((vD.trans oO).trans qu)
   · exact I
   · rw[uu pe];exact C
  ·
   refine WP.exit<|sr<|oX 1<|WO.cons (WC.opt (v:=iN (.ofNat (kZ ((K.l.take gZ).map N)).length)) 21 (Gt ex.T Dn.get 245 (.map (some nx))) kf (M3 (hp:=Dn.get) IB yR vC)<|oX 2 ?_)
   obtain⟨j,U,aa⟩:=Xe ((kZ ((K.l.take gZ).map N)).length) K.l.length
   refine ob 24 U<|oW 1 ⟨rfl,rfl,[.bool j],kr,?_⟩
   have hT:K.l.take gZ=K.l:=List.take_of_length_le om
   exact⟨⟨j,rfl,aa.trans (by rw[hT];exact Iff.rfl)⟩,od,jQ⟩
 ·
  exact⟨0,([]:List MapEntry),0,om,kr,Nat.le_refl _,(hE.trans qm),vu,(show kK _ (kZ ((K.l.take 0).map N)) _ _ from kK.nil)⟩
theorem Ot(x:sQ)(hp:Ht)(nx:Nat):WF ex 191 [.agg (mi x).toArray] hp nx (fO nx hp (fun v=>v=.agg (pL (xy x)).toArray)):=by
 refine wd Tryz.f191 8 [.cell 2 247] fun hE=>sr<|oB (.agg (mi x).toArray) (mi x) fun jN iY iA=>?_
 refine oA [iN 0,iN 0] Sg fun aa o C=>?_
 have j:=o.get iA
 refine WO.nil<|sr<|oX 1<|oZ nx 0 (iN x.lC) fP j rfl<|oX 1<|oZ nx (0+1) (iN x.pI) fP j rfl<|oX 1<|oS (nx+1) (0) (.agg ⟨[iN x.lC,iN x.pI]⟩) [iN x.lC,iN x.pI] [iN x.lC,iN x.pI] Kn rfl rfl C fun U J I R=>?_
 refine wr ⟨rfl,rfl,[.agg ⟨[iN x.lC,iN x.pI]⟩],(tM (by rw[show(aaj (.tmp 2)).run _=pt (nx+1) 0 from by kernel_rfl];exact lF Uo Kn I rfl)),?_⟩
 exact⟨rfl,od,(((hE.trans iY).trans o).trans J)⟩
theorem Nn(N:oR->yd)(K:SV oR)(f:FuncId)(b:Array Value)(hp:Ht)(nx:Nat)(hK:gA lg 4 hp nx K)(hf:∀(i:Nat) (x:oR),K.l[i]?=some x->∀(fe:Ht) (fg:Nat),nx<=fg->HE nx hp fe->WF ex f ((.agg (lg x).toArray)::b.toList) fe fg (fO fg fe (fun v=>v=.agg (rS (N x)).toArray))):WF ex 198 [K.v,.func (.func f) #[] b] hp nx (fO nx hp (gk (BE N K.l))):=by
 obtain⟨a1,c2,hR⟩:=hK.shape
 have lW:=hK.2.2
 rw[hR]
 refine wd Tryz.f198 25 [.tmp 4] fun hE=>sr<|oN 1<|sr<|WO.cons (WC.makeMap rfl ?_)
 obtain⟨Bz,zn,qm,vu⟩:=mapped hp (nx) (.map [] 0)
 rw[zn];clear zn
 refine oN 1<|WP.seq<|sr<|oN 3<|WP.block ?_
 refine my [0,1,5,9,10,11] (fun m hs ns vs=>∃(gZ:Nat) (sJ:List MapEntry) (vB:Nat),gZ+m=K.l.length/\vs=[.slice a1 (K.l.length) c2,.func (.func f) #[] b,.map (some nx),.slice a1 (K.l.length) c2,iN (.ofNat (K.l.length)),iN (.ofNat gZ)]/\nx+1<=ns/\HE nx hp hs/\hs.get nx=some (.map sJ vB)/\(kK (fun x:yd=>.agg (rS x).toArray) (kZ ((K.l.take gZ).map N)) (fun _=>.bool true) sJ)) ?_ (K.l.length) ?_
 ·
  rintro EL Dn sK _ ⟨gZ,sJ,vB,It,rfl,xV,jQ,yR,vC⟩ By
  refine sr ?_
  refine oq 12 (kV gZ K.l.length) fun uB uC=>WO.nil<|WP.seq<|cq uC (fun xU=>?_) (fun xU=>?_)
  ·
   refine WP.skip<|WP.seq<|WP.block<|sr ?_
   have rJ:gZ<K.l.length:=by omega
   refine WO.cons (WC.iy hR hK (gZ) O_ xx (rJ) ?_)
   obtain⟨lq,pe⟩:=gE rJ
   refine WO.cons (WC.ly hR (hK.mono jQ nR) pe Dr xx<|oA [iN 0,iN 0,iN 0,iN 0] Sj fun vv sG uq=>?_)
   refine oS sK (0) (.agg (lg lq).toArray) (lg lq) (lg lq) xx rfl rfl uq fun w9 ur w_ Bc=>?_
   have vD:=(jQ.trans sG).trans ur
   refine WO.nil<|WP.region<|oX 2<|WO.cons (WC.jb sK (0) (lg lq) kr Dr xx w_ rfl<|WO.cons (WC.call 18 f ((.agg (lg lq).toArray)::b.toList) kf ((hf gZ lq pe w9 (sK+1) om vD).mono ?_)))
   rintro _ qq pd ⟨rfl,Dh,oO⟩
   refine WO.cons (WC.mapUpdate (g:=(fun _=>.bool true)) (g':=(fun _=>.bool true)) nx (N lq) (.bool true) rfl kr kr kr XH Vn (oO.get ((Bc nx om).trans (sG.get yR))) vC (qL _) rfl (fun _ _=>rfl) ?_)
   rintro o J aa qu I U C
   refine WO.nil<|WP.region<|ov 19 (iN (.ofNat (gZ+1))) ?_ (fun _ _ _=>by rw[<-gU (show gZ+1<9223372036854775808 by omega)];kernel_rfl)
   refine oN 1<|⟨K.l.length-(gZ+1),om,rfl,rfl,gZ+1,o,J,om,kr,?_,?_,?_,?_⟩
   · exact od
   · exact((vD.trans oO).trans qu)
   · exact I
   · rw[uu pe];exact C
  ·
   refine WP.exit<|sr<|oX 1<|WO.cons (WC.opt (v:=iN (.ofNat (kZ ((K.l.take gZ).map N)).length)) 21 (Gt ex.T Dn.get 459 (.map (some nx))) kf (M3 (hp:=Dn.get) Vn yR vC)<|oX 2 ?_)
   refine oq 24 (Xe ((kZ ((K.l.take gZ).map N)).length) K.l.length) fun j R=>oW 1 ⟨rfl,rfl,[.bool j],kr,?_⟩
   have hT:K.l.take gZ=K.l:=List.take_of_length_le om
   exact⟨⟨j,rfl,R.trans (by rw[hT];exact Iff.rfl)⟩,od,jQ⟩
 ·
  exact⟨0,([]:List MapEntry),0,om,kr,Nat.le_refl _,(hE.trans qm),vu,(show kK _ (kZ ((K.l.take 0).map N)) _ _ from kK.nil)⟩
theorem No(x:oR)(hp:Ht)(nx:Nat):WF ex 199 [.agg (lg x).toArray] hp nx (fO nx hp (fun v=>v=.agg (rS (yf x)).toArray)):=by
 refine wd Tryz.f199 10 [.cell 2 386] fun hE=>sr<|oB (.agg (lg x).toArray) (lg x) fun jN iY iA=>?_
 refine oA [iN 0,iN 0,iN 0] Sk fun aa o C=>?_
 have j:=o.get iA
 refine WO.nil<|sr<|oX 1<|oZ nx 0 (iN x.ki) fP j rfl<|oX 1<|oZ nx (0+1) (iN x.j_) fP j rfl<|oX 1<|oZ nx (0+2) (iN x.n_) fP j rfl<|oX 1<|oS (nx+1) (0) (.agg ⟨[iN x.ki,iN x.j_,iN x.n_]⟩) [iN x.ki,iN x.j_,iN x.n_] [iN x.ki,iN x.j_,iN x.n_] Ko rfl rfl C fun U J I R=>?_
 refine wr ⟨rfl,rfl,[.agg ⟨[iN x.ki,iN x.j_,iN x.n_]⟩],(tM (by rw[show(aaj (.tmp 2)).run _=pt (nx+1) 0 from by kernel_rfl];exact lF Up Ko I rfl)),?_⟩
 exact⟨rfl,od,(((hE.trans iY).trans o).trans J)⟩
theorem QB(C:j7)(nEG:∀d∈C.fE.l,tE 17 d.jI.l)(hp:Ht)(nx:Nat)(j:oJ hp nx C):WF ex 98 [.agg (iz C).toArray] hp nx (fO nx hp (gk (B5 C))):=by
 refine wd Tryz.f98 103 [.tmp 2] fun hE=>sr<|oB (.agg (iz C).toArray) (iz C) fun jN iY iA=>?_
 have l_:=hE.trans iY nR
 have eZ:=Nat.le_trans nR (Nat.le_succ (nx))
 refine oN 1<|sr<|oX 1 ?_
 obtain⟨a8,c9,bt⟩:=j.iB.shape
 have nFa:=j.iB.2.2
 refine oZ nx (0+1) (.slice a8 (C.iB.l.length) c9) we iA (by rw[<-bt];rfl)<|oX 2<|oA [iN 0] Ay fun nFk yT nEe=>?_
 have wD:=l_.trans yT eZ
 have nEf:=yT.get iA (Nat.lt_succ_self (nx))
 have du:=Nat.lt_of_lt_of_le (Nat.lt_succ_self (nx)) (Nat.le_succ (nx+1))
 have Qw:=Nat.le_trans eZ (Nat.le_succ (nx+1))
 refine oS (nx+1) (0) (iN (gD .i64 ((.ofNat (C.iB.l.length))-(1)))) [iN (gD .i64 ((.ofNat (C.iB.l.length))-(1)))] [iN (gD .i64 ((.ofNat (C.iB.l.length))-(1)))] kj rfl rfl nEe fun nFl tR nEg nEH=>?_
 have nD9:=wD.trans tR om
 have nEh:=(nEH nx om).trans nEf
 refine WO.nil<|sr<|oA [.nilFunc] Sh fun nFm br nEi=>?_
 have nD_:=nD9.trans br Qw
 have nEj:=br.get nEh du
 have dv:=Nat.lt_of_lt_of_le du (Nat.le_succ (nx+1+1))
 have nEk:=br.get nEg (Nat.lt_succ_self (nx+1))
 have dw:=Nat.lt_of_lt_of_le (Nat.lt_succ_self (nx+1)) (Nat.le_succ (nx+1+1))
 have dr:=Nat.le_trans Qw (Nat.le_succ (nx+1+1))
 refine WO.nil<|sr<|oX 1<|oS (nx+1+1) (0) (.func (.func 178) #[] #[pt (nx+1) 0,pt (nx+1+1) 0]) [.func (.func 178) #[] #[pt (nx+1) 0,pt (nx+1+1) 0]] [.func (.func 178) #[] #[pt (nx+1) 0,pt (nx+1+1) 0]] Se rfl rfl nEi fun nFn nEE nEl dp=>?_
 have nEa:=nD_.trans nEE om
 have nEm:=(dp nx om).trans nEj
 have nEn:=(dp (nx+1) om).trans nEk
 refine WO.nil<|sr<|oX 1<|oA [.nilFunc] Si fun qq aS nEo=>?_
 have nEb:=nEa.trans aS dr
 have nEp:=aS.get nEm dv
 have dx:=Nat.lt_of_lt_of_le dv (Nat.le_succ (nx+1+1+1))
 have nEq:=aS.get nEn dw
 have dy:=Nat.lt_of_lt_of_le dw (Nat.le_succ (nx+1+1+1))
 have nEr:=aS.get nEl (Nat.lt_succ_self (nx+1+1))
 have dz:=Nat.lt_of_lt_of_le (Nat.lt_succ_self (nx+1+1)) (Nat.le_succ (nx+1+1+1))
 have dt:=Nat.le_trans dr (Nat.le_succ (nx+1+1+1))
 refine oS (nx+1+1+1) (0) (.func (.func 181) #[] #[pt (nx+1) 0]) [.func (.func 181) #[] #[pt (nx+1) 0]] [.func (.func 181) #[] #[pt (nx+1) 0]] Sf rfl rfl nEo fun nFo qu nEs bs=>?_
 have nEc:=nEb.trans qu om
 have dj:=(bs nx om).trans nEp
 have nEt:=(bs (nx+1) om).trans nEq
 have nEu:=(bs (nx+1+1) om).trans nEr
 refine WO.nil<|sr<|oN 2<|sr<|oN 2<|sr<|oN 1<|sr<|oN 2<|sr<|oX 1<|WO.cons (WC.jb nx (0+9) (zc C.iL) kr Wc Nk dj rfl<|oA [iN 0,iN 0,iN 0,iN 0,iN 0] Uq fun nFp aC nEv=>?_)
 have nEd:=nEc.trans aC dt
 have nEw:=aC.get dj dx
 have dA:=Nat.lt_of_lt_of_le dx (Nat.le_succ (nx+1+1+1+1))
 have nEx:=aC.get nEt dy
 have dB:=Nat.lt_of_lt_of_le dy (Nat.le_succ (nx+1+1+1+1))
 have nEy:=aC.get nEu dz
 have dC:=Nat.lt_of_lt_of_le dz (Nat.le_succ (nx+1+1+1+1))
 have nEz:=aC.get nEs (Nat.lt_succ_self (nx+1+1+1))
 have dD:=Nat.lt_of_lt_of_le (Nat.lt_succ_self (nx+1+1+1)) (Nat.le_succ (nx+1+1+1+1))
 have bu:=Nat.le_trans dt (Nat.le_succ (nx+1+1+1+1))
 refine oS (nx+1+1+1+1) (0) (.agg (zc C.iL).toArray) (zc C.iL) (zc C.iL) Nk rfl rfl nEv fun nEI nEF nEA a6=>?_
 have dh:=nEd.trans nEF om
 have dm:=(a6 nx om).trans nEw
 have nEB:=(a6 (nx+1) om).trans nEx
 have nEC:=(a6 (nx+1+1) om).trans nEy
 have nED:=(a6 (nx+1+1+1) om).trans nEz
 refine WO.nil<|sr<|oX 1<|oZ nx (0+1) (.slice a8 (C.iB.l.length) c9) we dm (by rw[<-bt];rfl)<|WO.cons (WC.call 24 187 ([C.iB.v,.func (.func 188) #[] #[]]) (fun _ _ _=>by(try rw[bt]);kernel_rfl) ((Sc (Ng) C.iB 188 #[] nEI (nx+1+1+1+1+1) (j.iB.mono dh bu) (fun i x hx fe fg hn he=>Ol x fe fg)).mono ?_))
 rintro _ dq dE ⟨⟨ar,rfl,e4⟩,aq,ao⟩
 have di:=dh.trans ao bu
 have dn:=ao.get dm dA
 have cw:=Nat.lt_of_lt_of_le dA aq
 have bJ:=ao.get nEB dB
 have ay:=Nat.lt_of_lt_of_le dB aq
 have dX:=ao.get nEC dC
 have cx:=Nat.lt_of_lt_of_le dC aq
 have dY:=ao.get nED dD
 have cy:=Nat.lt_of_lt_of_le dD aq
 have dZ:=ao.get nEA (Nat.lt_succ_self (nx+1+1+1+1))
 have cz:=Nat.lt_of_lt_of_le (Nat.lt_succ_self (nx+1+1+1+1)) aq
 have a7:=Nat.le_trans bu aq
 refine oX 1<|gT 25 ar (pt nx (0+2)) ?_
 obtain⟨dd,de,au⟩:=j.jP.shape
 have nE4:=j.jP.2.2
 refine lr 25 ar nx (0+2) (.slice dd (C.jP.l.length) de) CF dn (by rw[<-au];rfl)<|gT 25 ar (.func (.func 184) #[] #[pt (nx+1) 0])<|WO.cons (WC.gq (ar) (GB (ar) (∀x∈C.jP.l,(Hb (gD .i64 ((.ofNat (C.iB.l.length))-(1)))) x) (dE) dq) (.bool ar) (g:=aaj (.tmp 25)) rfl kr (by cases ar<;>rfl) (fun h=>by obtain rfl:ar=true:=(by simpa using h);have bw:=(e4).1 rfl;exact WC.call 29 189 ([C.jP.v,.func (.func 184) #[] #[pt (nx+1) 0]]) (fun _ _ _=>by(try rw[au]);kernel_rfl) ((Sd (Hb (gD .i64 ((.ofNat (C.iB.l.length))-(1)))) C.jP 184 #[pt (nx+1) 0] dq (dE) (j.jP.mono di a7) (fun i x hx fe fg hn he=>Oj (gD .i64 ((.ofNat (C.iB.l.length))-(1))) (nx+1) x fe fg (he.get bJ ay) (Nat.lt_of_lt_of_le ay hn))).mono fun v fe fg ⟨⟨c,an,hc⟩,hn,he⟩=>⟨_,_,_,rfl,⟨c,an,hc⟩,hn,he⟩)) (fun h=>GB.off h) ?_)
 rintro _ bX c6 ⟨⟨nFc,rfl,nEJ⟩,ag,ae⟩
 have bx:=di.trans ae a7
 have bK:=ae.get dn cw
 have cA:=Nat.lt_of_lt_of_le cw ag
 have d_:=ae.get bJ ay
 have cB:=Nat.lt_of_lt_of_le ay ag
 have ea:=ae.get dX cx
 have cC:=Nat.lt_of_lt_of_le cx ag
 have eb:=ae.get dY cy
 have cD:=Nat.lt_of_lt_of_le cy ag
 have ec:=ae.get dZ cz
 have cE:=Nat.lt_of_lt_of_le cz ag
 have a_:=Nat.le_trans a7 ag
 refine mI 30 (nA e4 nEJ) fun ai dF=>oX 1<|gT 31 ai (pt nx (0+2))<|lr 31 ai nx (0+2) (.slice dd (C.jP.l.length) de) CF bK (by rw[<-au];rfl)<|WO.cons (WC.gq (ai) (GB (ai) (BE xy C.jP.l) (c6) bX) (.bool ai) (g:=aaj (.tmp 31)) rfl kr (by cases ai<;>rfl) (fun h=>by obtain rfl:ai=true:=(by simpa using h);have bw:=(dF).1 rfl;exact WC.call 34 190 ([C.jP.v,.func (.func 191) #[] #[]]) (fun _ _ _=>by(try rw[au]);kernel_rfl) ((QA xy C.jP 191 #[] bX (c6) (j.jP.mono bx a_) (fun i x hx fe fg hn he=>Ot x fe fg)).mono fun v fe fg ⟨⟨c,an,hc⟩,hn,he⟩=>⟨_,_,_,rfl,⟨c,an,hc⟩,hn,he⟩)) (fun h=>GB.off h) ?_)
 rintro _ bY c7 ⟨⟨nFd,rfl,nEK⟩,ah,af⟩
 have aD:=bx.trans af a_
 have bL:=af.get bK cA
 have cF:=Nat.lt_of_lt_of_le cA ah
 have ee:=af.get d_ cB
 have cG:=Nat.lt_of_lt_of_le cB ah
 have ef:=af.get ea cC
 have cH:=Nat.lt_of_lt_of_le cC ah
 have eg:=af.get eb cD
 have cI:=Nat.lt_of_lt_of_le cD ah
 have eh:=af.get ec cE
 have cJ:=Nat.lt_of_lt_of_le cE ah
 have aw:=Nat.le_trans a_ ah
 refine mI 35 (nA dF nEK) fun aa dG=>oX 1<|gT 36 aa (pt nx (0+3)) ?_
 obtain⟨e5,nD5,ca⟩:=j.fE.1.shape
 have nE5:=j.fE.1.2.2
 refine lr 36 aa nx (0+3) (.slice e5 (C.fE.l.length) nD5) rI bL (by rw[<-ca];rfl)<|gT 36 aa (.func (.func 182) #[] #[pt (nx+1) 0,pt (nx+1+1) 0,pt (nx+1+1+1) 0])<|WO.cons (WC.gq (aa) (GB (aa) (∀x∈C.fE.l,(BD (gD .i64 ((.ofNat (C.iB.l.length))-(1)))) x) (c7) bY) (.bool aa) (g:=aaj (.tmp 36)) rfl kr (by cases aa<;>rfl) (fun h=>by obtain rfl:aa=true:=(by simpa using h);have bw:=(dG).1 rfl;exact WC.call 40 100 ([C.fE.v,.func (.func 182) #[] #[pt (nx+1) 0,pt (nx+1+1) 0,pt (nx+1+1+1) 0]]) (fun _ _ _=>by(try rw[ca]);kernel_rfl) ((CL (BD (gD .i64 ((.ofNat (C.iB.l.length))-(1)))) C.fE 182 #[pt (nx+1) 0,pt (nx+1+1) 0,pt (nx+1+1+1) 0] bY (c7) (j.fE.mono (fun _ h he hn=>h.mono he hn) aD aw) (fun i x hx fe fg hn he=>Oq (gD .i64 ((.ofNat (C.iB.l.length))-(1))) (nx+1) (nx+1+1) (nx+1+1+1) x (nEG x (List.mem_of_getElem? hx)) fe fg (((j.fE.mono (fun _ h he hn=>h.mono he hn) aD aw).2 x (List.mem_of_getElem? hx)).mono he hn) (he.get ee cG) (Nat.lt_of_lt_of_le cG hn) (he.get ef cH) (Nat.lt_of_lt_of_le cH hn) (he.get eg cI) (Nat.lt_of_lt_of_le cI hn))).mono fun v fe fg ⟨⟨c,an,hc⟩,hn,he⟩=>⟨_,_,_,rfl,⟨c,an,hc⟩,hn,he⟩)) (fun h=>GB.off h) ?_)
 rintro _ bZ c8 ⟨⟨nFe,rfl,nEL⟩,aT,aI⟩
 have bz:=aD.trans aI aw
 have bM:=aI.get bL cF
 have cK:=Nat.lt_of_lt_of_le cF aT
 have ei:=aI.get eh cJ
 have cL:=Nat.lt_of_lt_of_le cJ aT
 have bc:=Nat.le_trans aw aT
 refine mI 41 (nA dG nEL) fun aj dH=>oX 1<|gT 42 aj (pt nx (0+4)) ?_
 obtain⟨e6,nD6,cb⟩:=j.kI.shape
 have nE6:=j.kI.2.2
 refine lr 42 aj nx (0+4) (.slice e6 (C.kI.l.length) nD6) FA bM (by rw[<-cb];rfl)<|WO.cons (WC.gq (aj) (GB (aj) (∀x∈C.kI.l,(FD) x) (c8) bZ) (.bool aj) (g:=aaj (.tmp 42)) rfl kr (by cases aj<;>rfl) (fun h=>by obtain rfl:aj=true:=(by simpa using h);have bw:=(dH).1 rfl;exact WC.call 45 192 ([C.kI.v,.func (.func 193) #[] #[]]) (fun _ _ _=>by(try rw[cb]);kernel_rfl) ((Qz (FD) C.kI 193 #[] bZ (c8) (j.kI.mono bz bc) (fun i x hx fe fg hn he=>Om x fe fg)).mono fun v fe fg ⟨⟨c,an,hc⟩,hn,he⟩=>⟨_,_,_,rfl,⟨c,an,hc⟩,hn,he⟩)) (fun h=>GB.off h) ?_)
 rintro _ b0 c_ ⟨⟨nFf,rfl,nEM⟩,aU,aJ⟩
 have bA:=bz.trans aJ bc
 have bN:=aJ.get bM cK
 have cM:=Nat.lt_of_lt_of_le cK aU
 have ej:=aJ.get ei cL
 have cN:=Nat.lt_of_lt_of_le cL aU
 have bd:=Nat.le_trans bc aU
 refine mI 46 (nA dH nEM) fun ab dI=>oX 1<|gT 47 ab (pt nx (0+5)) ?_
 obtain⟨e7,nD7,cc⟩:=j.js.shape
 have nE7:=j.js.2.2
 refine lr 47 ab nx (0+5) (.slice e7 (C.js.l.length) nD7) FB bN (by rw[<-cc];rfl)<|gT 47 ab (.func (.func 185) #[] #[])<|WO.cons (WC.gq (ab) (GB (ab) (∀x∈C.js.l,(Dv) x) (c_) b0) (.bool ab) (g:=aaj (.tmp 47)) rfl kr (by cases ab<;>rfl) (fun h=>by obtain rfl:ab=true:=(by simpa using h);have bw:=(dI).1 rfl;exact WC.call 51 194 ([C.js.v,.func (.func 185) #[] #[]]) (fun _ _ _=>by(try rw[cc]);kernel_rfl) ((KW (Dv) C.js 185 #[] b0 (c_) (j.js.mono bA bd) (fun i x hx fe fg hn he=>On x fe fg)).mono fun v fe fg ⟨⟨c,an,hc⟩,hn,he⟩=>⟨_,_,_,rfl,⟨c,an,hc⟩,hn,he⟩)) (fun h=>GB.off h) ?_)
 rintro _ b3 da ⟨⟨nFg,rfl,nEN⟩,aV,aK⟩
 have bB:=bA.trans aK bd
 have bO:=aK.get bN cM
 have cO:=Nat.lt_of_lt_of_le cM aV
 have en:=aK.get ej cN
 have cP:=Nat.lt_of_lt_of_le cN aV
 have bf:=Nat.le_trans bd aV
 refine mI 52 (nA dI nEN) fun ak dJ=>oX 1<|gT 53 ak (pt nx (0+6)) ?_
 obtain⟨a212,nD8,cd⟩:=j.iw.shape
 have nE8:=j.iw.2.2
 refine lr 53 ak nx (0+6) (.slice a212 (C.iw.l.length) nD8) CG bO (by rw[<-cd];rfl)<|WO.cons (WC.gq (ak) (GB (ak) (∀x∈C.iw.l,(JB) x) (da) b3) (.bool ak) (g:=aaj (.tmp 53)) rfl kr (by cases ak<;>rfl) (fun h=>by obtain rfl:ak=true:=(by simpa using h);have bw:=(dJ).1 rfl;exact WC.call 56 195 ([C.iw.v,.func (.func 196) #[] #[]]) (fun _ _ _=>by(try rw[cd]);kernel_rfl) ((Jy (JB) C.iw 196 #[] b3 (da) (j.iw.mono bB bf) (fun i x hx fe fg hn he=>Nl x fe fg)).mono fun v fe fg ⟨⟨c,an,hc⟩,hn,he⟩=>⟨_,_,_,rfl,⟨c,an,hc⟩,hn,he⟩)) (fun h=>GB.off h) ?_)
 rintro _ b4 db ⟨⟨nFh,rfl,nEO⟩,aW,aL⟩
 have aE:=bB.trans aL bf
 have aF:=aL.get bO cO
 have az:=Nat.lt_of_lt_of_le cO aW
 have eo:=aL.get en cP
 have cQ:=Nat.lt_of_lt_of_le cP aW
 have ax:=Nat.le_trans bf aW
 refine mI 57 (nA dJ nEO) fun ad dK=>oX 1<|gT 58 ad (pt nx (0+7)) ?_
 obtain⟨a233,df,av⟩:=j.kR.shape
 have nE9:=j.kR.2.2
 refine lr 58 ad nx (0+7) (.slice a233 (C.kR.l.length) df) FC aF (by rw[<-av];rfl)<|gT 58 ad (.func (.func 186) #[] #[pt nx 0])<|WO.cons (WC.gq (ad) (GB (ad) (∀x∈C.kR.l,(ye C) x) (db) b4) (.bool ad) (g:=aaj (.tmp 58)) rfl kr (by cases ad<;>rfl) (fun h=>by obtain rfl:ad=true:=(by simpa using h);have bw:=(dK).1 rfl;exact WC.call 62 197 ([C.kR.v,.func (.func 186) #[] #[pt nx 0]]) (fun _ _ _=>by(try rw[av]);kernel_rfl) ((Oe (ye C) C.kR 186 #[pt nx 0] b4 (db) (j.kR.mono aE ax) (fun i x hx fe fg hn he=>Oo C nx x fe fg ((j.mono aE ax).mono he hn) (he.get aF az) (Nat.lt_of_lt_of_le az hn))).mono fun v fe fg ⟨⟨c,an,hc⟩,hn,he⟩=>⟨_,_,_,rfl,⟨c,an,hc⟩,hn,he⟩)) (fun h=>GB.off h) ?_)
 rintro _ b5 dc ⟨⟨nFi,rfl,nEP⟩,aX,aM⟩
 have bC:=aE.trans aM ax
 have bP:=aM.get aF az
 have cR:=Nat.lt_of_lt_of_le az aX
 have ep:=aM.get eo cQ
 have cS:=Nat.lt_of_lt_of_le cQ aX
 have bg:=Nat.le_trans ax aX
 refine mI 63 (nA dK nEP) fun al dL=>oX 1<|gT 64 al (pt nx (0+7))<|lr 64 al nx (0+7) (.slice a233 (C.kR.l.length) df) FC bP (by rw[<-av];rfl)<|WO.cons (WC.gq (al) (GB (al) (BE yf C.kR.l) (dc) b5) (.bool al) (g:=aaj (.tmp 64)) rfl kr (by cases al<;>rfl) (fun h=>by obtain rfl:al=true:=(by simpa using h);have bw:=(dL).1 rfl;exact WC.call 67 198 ([C.kR.v,.func (.func 199) #[] #[]]) (fun _ _ _=>by(try rw[av]);kernel_rfl) ((Nn yf C.kR 199 #[] b5 (dc) (j.kR.mono bC bg) (fun i x hx fe fg hn he=>No x fe fg)).mono fun v fe fg ⟨⟨c,an,hc⟩,hn,he⟩=>⟨_,_,_,rfl,⟨c,an,hc⟩,hn,he⟩)) (fun h=>GB.off h) ?_)
 rintro _ eP o ⟨⟨nFj,rfl,nEQ⟩,aY,aN⟩
 have bD:=bC.trans aN bg
 have et:=aN.get bP cR
 have cT:=Nat.lt_of_lt_of_le cR aY
 have aG:=aN.get ep cS
 have cU:=Nat.lt_of_lt_of_le cS aY
 have bh:=Nat.le_trans bg aY
 refine mI 68 (nA dL nEQ) fun aA dM=>oX 1<|gT 69 aA (pt (nx+1+1+1+1) 0)<|lr 69 aA (nx+1+1+1+1) 0 (iN C.iL.su) fP aG rfl<|gT 69 aA (pt (nx+1+1+1+1) (0+1))<|lr 69 aA (nx+1+1+1+1) (0+1) (iN C.iL.sv) fP aG rfl ?_
 cases aA with
 |true=>
  have nES:=(dM).1 rfl
  refine WO.cons (WC.k_ (x:=.bool true) (g:=aaj (.tmp 69)) rfl kr rfl (WC.buildSlice [iN C.iL.su,iN C.iL.sv] rfl kr ?_))
  obtain⟨b6,cf,aO,eu⟩:=boxed eP (o) [iN C.iL.su,iN C.iL.sv]
  rw[cf];clear cf
  have dR:=bD.trans aO bh
  have ew:=aO.get et cT
  have cV:=Nat.lt_of_lt_of_le cT (Nat.le_succ (o))
  have ey:=aO.get aG cU
  have cW:=Nat.lt_of_lt_of_le cU (Nat.le_succ (o))
  have cn:=Nat.le_trans bh (Nat.le_succ (o))
  refine WO.cons (WC.k_ (x:=.bool true) (g:=aaj (.tmp 69)) rfl kr rfl (WC.call 75 179 ([iN 0,iN 16,(⟨.slice (some ⟨o,0,none⟩) 2 2,[C.iL.su,C.iL.sv]⟩:SV Int).v]) kf ((yc (0) (16) (C.iL.su) (C.iL.sv) (⟨.slice (some ⟨o,0,none⟩) 2 2,[C.iL.su,C.iL.sv]⟩:SV Int) b6 (o+1) (gA.mO (enc:=encI) (by simp[encI]) eu rfl (by decide) om (by simp):gA encI 1 b6 (o+1) (⟨.slice (some ⟨o,0,none⟩) 2 2,[C.iL.su,C.iL.sv]⟩:SV Int)) rfl).mono ?_)))
  rintro _ eQ I ⟨⟨aB,rfl,dN⟩,aZ,aP⟩
  have bE:=dR.trans aP cn
  have ez:=aP.get ew cV
  have cX:=Nat.lt_of_lt_of_le cV aZ
  have aH:=aP.get ey cW
  have cY:=Nat.lt_of_lt_of_le cW aZ
  have bj:=Nat.le_trans cn aZ
  refine oX 2<|gT 77 aB (pt (nx+1+1+1+1) (0+2))<|lr 77 aB (nx+1+1+1+1) (0+2) (iN C.iL.sw) fP aH rfl<|gT 77 aB (pt (nx+1+1+1+1) (0+3))<|lr 77 aB (nx+1+1+1+1) (0+3) (iN C.iL.pJ) fP aH rfl ?_
  cases aB with
  |true=>
   have nET:=(dN).1 rfl
   refine WO.cons (WC.k_ (x:=.bool true) (g:=aaj (.tmp 77)) rfl kr rfl (WC.buildSlice [iN C.iL.sw,iN C.iL.pJ] rfl kr ?_))
   obtain⟨b7,ch,aQ,eA⟩:=boxed eQ (I) [iN C.iL.sw,iN C.iL.pJ]
   rw[ch];clear ch
   have dS:=bE.trans aQ bj
   have eB:=aQ.get ez cX
   have cZ:=Nat.lt_of_lt_of_le cX (Nat.le_succ (I))
   have eC:=aQ.get aH cY
   have eX:=Nat.lt_of_lt_of_le cY (Nat.le_succ (I))
   have cp:=Nat.le_trans bj (Nat.le_succ (I))
   refine WO.cons (WC.k_ (x:=.bool true) (g:=aaj (.tmp 77)) rfl kr rfl (WC.call 83 179 ([iN 0,iN 4294967296,(⟨.slice (some ⟨I,0,none⟩) 2 2,[C.iL.sw,C.iL.pJ]⟩:SV Int).v]) kf ((yc (0) (4294967296) (C.iL.sw) (C.iL.pJ) (⟨.slice (some ⟨I,0,none⟩) 2 2,[C.iL.sw,C.iL.pJ]⟩:SV Int) b7 (I+1) (gA.mO (enc:=encI) (by simp[encI]) eA rfl (by decide) om (by simp):gA encI 1 b7 (I+1) (⟨.slice (some ⟨I,0,none⟩) 2 2,[C.iL.sw,C.iL.pJ]⟩:SV Int)) rfl).mono ?_)))
   rintro _ eR J ⟨⟨bo,rfl,dO⟩,bV,aR⟩
   have bG:=dS.trans aR cp
   have eD:=aR.get eB cZ
   have c0:=Nat.lt_of_lt_of_le cZ bV
   have eE:=aR.get eC eX
   have bk:=Nat.le_trans cp bV
   refine oX 2<|gT 85 bo (pt (nx+1+1+1+1) (0+4))<|lr 85 bo (nx+1+1+1+1) (0+4) (iN C.iL.tO) fP eE rfl ?_
   cases bo with
   |true=>
    have nEU:=(dO).1 rfl
    refine WO.cons (WC.k_ (x:=.bool true) (g:=aaj (.tmp 85)) rfl kr rfl (WC.buildSlice [iN C.iL.tO] rfl kr ?_))
    obtain⟨b8,cj,bR,eF⟩:=boxed eR (J) [iN C.iL.tO]
    rw[cj];clear cj
    have dT:=bG.trans bR bk
    have eG:=bR.get eD c0
    have c3:=Nat.lt_of_lt_of_le c0 (Nat.le_succ (J))
    have cr:=Nat.le_trans bk (Nat.le_succ (J))
    refine WO.cons (WC.k_ (x:=.bool true) (g:=aaj (.tmp 85)) rfl kr rfl (WC.call 89 179 ([iN 0,iN 100000,(⟨.slice (some ⟨J,0,none⟩) 1 1,[C.iL.tO]⟩:SV Int).v]) kf ((mz (0) (100000) (C.iL.tO) (⟨.slice (some ⟨J,0,none⟩) 1 1,[C.iL.tO]⟩:SV Int) b8 (J+1) (gA.mO (enc:=encI) (by simp[encI]) eF rfl (by decide) om (by simp):gA encI 1 b8 (J+1) (⟨.slice (some ⟨J,0,none⟩) 1 1,[C.iL.tO]⟩:SV Int)) rfl).mono ?_)))
    rintro _ eU R ⟨⟨bp,rfl,dP⟩,bW,bS⟩
    have bH:=dT.trans bS cr
    have bQ:=bS.get eG c3
    have c5:=Nat.lt_of_lt_of_le c3 bW
    have bl:=Nat.le_trans cr bW
    refine oX 2<|gT 91 bp (pt nx (0+14))<|lr 91 bp nx (0+14) (iN C.zH) fP bQ rfl ?_
    cases bp with
    |true=>
     have nEV:=(dP).1 rfl
     refine WO.cons (WC.k_ (x:=.bool true) (g:=aaj (.tmp 91)) rfl kr rfl (WC.buildSlice [iN C.zH] rfl kr ?_))
     obtain⟨b9,ck,bT,eH⟩:=boxed eU (R) [iN C.zH]
     rw[ck];clear ck
     have dU:=bH.trans bT bl
     have eI:=bT.get bQ c5
     have eY:=Nat.lt_of_lt_of_le c5 (Nat.le_succ (R))
     have ct:=Nat.le_trans bl (Nat.le_succ (R))
     refine WO.cons (WC.k_ (x:=.bool true) (g:=aaj (.tmp 91)) rfl kr rfl (WC.call 95 179 ([iN 0,iN 1125899906842624,(⟨.slice (some ⟨R,0,none⟩) 1 1,[C.zH]⟩:SV Int).v]) kf ((mz (0) (1125899906842624) (C.zH) (⟨.slice (some ⟨R,0,none⟩) 1 1,[C.zH]⟩:SV Int) b9 (R+1) (gA.mO (enc:=encI) (by simp[encI]) eH rfl (by decide) om (by simp):gA encI 1 b9 (R+1) (⟨.slice (some ⟨R,0,none⟩) 1 1,[C.zH]⟩:SV Int)) rfl).mono ?_)))
     rintro _ eV U ⟨⟨bq,rfl,dQ⟩,eN,bU⟩
     have bI:=dU.trans bU ct
     have eJ:=bU.get eI eY
     have bn:=Nat.le_trans ct eN
     refine oX 2<|gT 97 bq (pt nx (0+15))<|lr 97 bq nx (0+15) (iN C.si) fP eJ rfl ?_
     cases bq with
     |true=>
      have nEW:=(dQ).1 rfl
      refine WO.cons (WC.k_ (x:=.bool true) (g:=aaj (.tmp 97)) rfl kr rfl (WC.buildSlice [iN C.si] rfl kr ?_))
      obtain⟨b_,cm,eL,eK⟩:=boxed eV (U) [iN C.si]
      rw[cm];clear cm
      have dV:=bI.trans eL bn
      have cu:=Nat.le_trans bn (Nat.le_succ (U))
      refine WO.cons (WC.k_ (x:=.bool true) (g:=aaj (.tmp 97)) rfl kr rfl (WC.call 101 179 ([iN 0,iN 1099511627776,(⟨.slice (some ⟨U,0,none⟩) 1 1,[C.si]⟩:SV Int).v]) kf ((mz (0) (1099511627776) (C.si) (⟨.slice (some ⟨U,0,none⟩) 1 1,[C.si]⟩:SV Int) b_ (U+1) (gA.mO (enc:=encI) (by simp[encI]) eK rfl (by decide) om (by simp):gA encI 1 b_ (U+1) (⟨.slice (some ⟨U,0,none⟩) 1 1,[C.si]⟩:SV Int)) rfl).mono ?_)))
      rintro _ nE_ nFb ⟨⟨dg,rfl,nER⟩,eO,eM⟩
      have dW:=dV.trans eM cu
      have eW:=Nat.le_trans cu eO
      refine oW 2 ⟨rfl,rfl,[.bool dg],kr,?_⟩
      exact⟨⟨dg,rfl,nER.trans ⟨fun h=>⟨⟨⟨⟨⟨nES,nET⟩,nEU⟩,nEV⟩,nEW⟩,h⟩,fun h=>h.2⟩⟩,eW,dW⟩
     |false=>
      have nEX:¬((0)<=(C.zH)/\(C.zH)<=(1125899906842624)):=nf dQ
      refine oW 4 ⟨rfl,rfl,[.bool false],kr,?_⟩
      exact⟨⟨false,rfl,fun h=>(by cases h),fun h=>absurd h.1.2 nEX⟩,bn,bI⟩
    |false=>
     have nEY:¬((0)<=(C.iL.tO)/\(C.iL.tO)<=(100000)):=nf dP
     refine oW 10 ⟨rfl,rfl,[.bool false],kr,?_⟩
     exact⟨⟨false,rfl,fun h=>(by cases h),fun h=>absurd h.1.1.2 nEY⟩,bl,bH⟩
   |false=>
    have nEZ:¬(((0)<=(C.iL.sw)/\(C.iL.sw)<=(4294967296))/\(0)<=(C.iL.pJ)/\(C.iL.pJ)<=(4294967296)):=nf dO
    refine oW 16 ⟨rfl,rfl,[.bool false],kr,?_⟩
    exact⟨⟨false,rfl,fun h=>(by cases h),fun h=>absurd h.1.1.1.2 nEZ⟩,bk,bG⟩
  |false=>
   have nE0:¬(((0)<=(C.iL.su)/\(C.iL.su)<=(16))/\(0)<=(C.iL.sv)/\(C.iL.sv)<=(16)):=nf dN
   refine oW 22 ⟨rfl,rfl,[.bool false],kr,?_⟩
   exact⟨⟨false,rfl,fun h=>(by cases h),fun h=>absurd h.1.1.1.1.2 nE0⟩,bj,bE⟩
 |false=>
  have nE1:¬(((((((((∀x∈C.iB.l,(Ng) x)/\(∀x∈C.jP.l,(Hb (gD .i64 ((.ofNat (C.iB.l.length))-(1)))) x))/\(BE xy C.jP.l))/\(∀x∈C.fE.l,(BD (gD .i64 ((.ofNat (C.iB.l.length))-(1)))) x))/\(∀x∈C.kI.l,(FD) x))/\(∀x∈C.js.l,(Dv) x))/\(∀x∈C.iw.l,(JB) x))/\(∀x∈C.kR.l,(ye C) x))/\(BE yf C.kR.l)):=nf dM
  refine oW 30 ⟨rfl,rfl,[.bool false],kr,?_⟩
  exact⟨⟨false,rfl,fun h=>(by cases h),fun h=>absurd h.1.1.1.1.1 nE1⟩,bh,bD⟩
end
end Sw
namespace Sw
noncomputable section
open Go Go.Proofs Go.RowKit
set_option maxRecDepth 100000
set_option maxHeartbeats 1600000
theorem JC{x lo hi:Int}:(∀y∈[x],lo<=y/\y<=hi)↔lo<=x/\x<=hi:=by simp
theorem Vo{α:Type}{l:List α}{P:α->Prop}:(¬∃x∈l,¬P x)↔∀x∈l,P x:=
 ⟨fun h x hx=>Classical.not_not.1 fun k=>h ⟨x,hx,k⟩,fun h ⟨x,hx,k⟩=>k (h x hx)⟩
theorem QC{α:Type}{l:List α}:((l.length:Nat):Int)=0↔l=[]:=by rw[<-List.length_eq_zero_iff];omega
section
variable {c:RCond}{s:RStep}
theorem lY.JD(k:c.jf=1):lY c↔(1<=c.rP/\c.rP<=3)/\(0<=c.fN/\c.fN<=10000)/\c.fW.l=[]:=
 ⟨fun h=>by
   cases h with
   |leaf _ v n p=>exact⟨v,n,p⟩
   |neg j=>omega
   |many j=>omega,fun⟨v,n,p⟩=>.leaf k v n p⟩
theorem lY.XI(k:c.jf=4):lY c↔(c.rP=0/\c.fN=0/\c.fW.l.length=1)/\∀x∈c.fW.l,lY x:=
 ⟨fun h=>by
   cases h with
   |leaf j=>omega
   |neg _ v n p h=>exact⟨⟨v,n,p⟩,h⟩
   |many j=>omega,fun⟨⟨v,n,p⟩,h⟩=>.neg k v n p h⟩
theorem lY.E8(k:c.jf=2\/c.jf=3):lY c↔(c.rP=0/\c.fN=0/\0<c.fW.l.length/\c.fW.l.length<=16)/\∀x∈c.fW.l,lY x:=
 ⟨fun h=>by
   cases h with
   |leaf j=>omega
   |neg j=>omega
   |many _ v n p h=>exact⟨⟨v,n,p⟩,h⟩,fun⟨⟨v,n,p⟩,h⟩=>.many k v n p h⟩
theorem lY.Ur(h1:¬c.jf=1)(h2:¬c.jf=2)(h3:¬c.jf=3)(h4:¬c.jf=4):¬lY c:=fun h=>by
 cases h with
 |leaf k=>exact h1 k
 |neg k=>exact h4 k
 |many k=>omega
theorem zK:(∀x∈qx (.cond c),qK x)↔∀x∈c.fW.l,lY x:=by simp[qx,qK]
theorem ph.JD(k:s.jf=1):ph s↔(1<=s.AT/\s.AT<=5)/\nw s.jc/\qx (.step s)=[]:=
 ⟨fun h=>by
   cases h with
   |one _ b c t e=>exact⟨b,c,by simp[qx,t,e]⟩
   |Vb j=>omega,fun⟨b,c,p⟩=>by
   simp[qx]at p
   exact .one k b c p.1 p.2⟩
theorem ph.E8(k:s.jf=2):ph s↔s.AT=0/\lY s.jc/\0<s.lX.l.length/\∀x∈qx (.step s),qK x:=
 ⟨fun h=>by
   cases h with
   |one j=>omega
   |Vb _ b c t0 t e=>
    refine⟨b,c,List.length_pos_iff.2 t0,fun x hx=>?_⟩
    rcases List.mem_append.1 hx with hx|hx
    · obtain⟨y,hy,rfl⟩:=List.mem_map.1 hx;exact t y hy
    · obtain⟨y,hy,rfl⟩:=List.mem_map.1 hx;exact e y hy,
 fun⟨b,c,t0,h⟩=>.Vb k b c (List.length_pos_iff.1 t0) (fun x hx=>h (.step x) (List.mem_append_left _ (List.mem_map.2 ⟨x,hx,rfl⟩))) (fun x hx=>h (.step x) (List.mem_append_right _ (List.mem_map.2 ⟨x,hx,rfl⟩)))⟩
theorem ph.Ur(h1:¬s.jf=1)(h2:¬s.jf=2):¬ph s:=fun h=>by
 cases h with
 |one k=>exact h1 k
 |Vb k=>exact h2 k
end
section
open Classical
variable (sub:List j6->Int->Int->Int->Bool×Int×Int)
def zq(f:j6)(a b d:Int):Bool×Int×Int:=if 64<a\/256<b then(false,a,b)else sub (qx f) a b (gD .i64 (d+1))
def uZ(f:j6)(a b d:Int):Bool×Int×Int:=match f with
 |.cond _=>zq sub f a (gD .i64 (b+1)) d
 |.step s=>if nw s.jc then zq sub f (gD .i64 (a+1)) b d else if(sub [.cond s.jc] (gD .i64 (a+1)) b 0).1=true then zq sub f (sub [.cond s.jc] (gD .i64 (a+1)) b 0).2.1 (sub [.cond s.jc] (gD .i64 (a+1)) b 0).2.2 d else sub [.cond s.jc] (gD .i64 (a+1)) b 0
def Kr:List j6->Int->Int->Int->Bool×Int×Int
 |[],a,b,_=>(true,a,b)
 |f::l,a,b,d=>if(uZ sub f a b d).1=true then Kr l (uZ sub f a b d).2.1 (uZ sub f a b d).2.2 d else uZ sub f a b d
end
section
open Classical
def Be:Nat->List j6->Int->Int->Int->Bool×Int×Int
 |0,_,a,b,_=>(true,a,b)
 |k+1,l,a,b,d=>if 0<((l.length:Nat):Int)/\16<d then(false,a,b)else Kr (Be k) l a b d
variable {sub:List j6->Int->Int->Int->Bool×Int×Int}{f:j6}{c:RCond}{s:RStep}{a b d a' b' na nb:Int}{r:Bool×Int×Int}{l:List j6}{i k:Nat}
theorem yg(h:64<a\/256<b):zq sub f a b d=(false,a,b):=if_pos h
theorem wi(h:¬(64<a\/256<b)):zq sub f a b d=sub (qx f) a b (gD .i64 (d+1)):=if_neg h
theorem Dw:uZ sub (.cond c) a b d=zq sub (.cond c) a (gD .i64 (b+1)) d:=rfl
theorem B6(h:nw s.jc):uZ sub (.step s) a b d=zq sub (.step s) (gD .i64 (a+1)) b d:=if_pos h
theorem wR(h:¬nw s.jc)(h2:sub [.cond s.jc] (gD .i64 (a+1)) b 0=(true,na,nb)):uZ sub (.step s) a b d=zq sub (.step s) na nb d:=
 (if_neg h).trans (by rw[h2];exact if_pos rfl)
theorem Ou(h:¬nw s.jc)(h2:sub [.cond s.jc] (gD .i64 (a+1)) b 0=(false,na,nb)):uZ sub (.step s) a b d=(false,na,nb):=
 (if_neg h).trans (by rw[h2];exact if_neg (fun h=>by cases h))
theorem Np(hx:l[i]?=some f):l.drop i=f::l.drop (i+1):=by
 have hi:=(List.getElem?_eq_some_iff.1 hx).1
 rw[List.drop_eq_getElem_cons hi,(List.getElem?_eq_some_iff.1 hx).2]
theorem He(hx:l[i]?=some f)(h:uZ sub f a b d=(true,a',b')):Kr sub (l.drop i) a b d=Kr sub (l.drop (i+1)) a' b' d:=by
 rw[Np hx]
 show(if(uZ sub f a b d).1=true then _ else _)=_
 rw[h];exact if_pos rfl
theorem xb(hx:l[i]?=some f)(h:uZ sub f a b d=(false,a',b')):Kr sub (l.drop i) a b d=(false,a',b'):=by
 rw[Np hx]
 show(if(uZ sub f a b d).1=true then _ else _)=_
 rw[h];exact if_neg (fun h=>by cases h)
theorem zr(hk:∀f∈l,xp f<k)(h:¬(0<((l.length:Nat):Int)/\16<d)):Be k l a b d=Kr (Be (k-1)) l a b d:=by
 cases k with
 |zero=>
  cases l with
  |nil=>rfl
  |cons f l=>exact absurd (hk f (List.mem_cons_self ..)) (Nat.not_lt_zero _)
 |succ k=>exact if_neg h
theorem We(hk:∀f∈l,xp f<k)(h:0<((l.length:Nat):Int)/\16<d):Be k l a b d=(false,a,b):=by
 cases k with
 |zero=>
  cases l with
  |nil=>exact absurd h.1 (by simp)
  |cons f l=>exact absurd (hk f (List.mem_cons_self ..)) (Nat.not_lt_zero _)
 |succ k=>exact if_pos h
def Nq:List j6->Nat
 |[]=>0
 |f::l=>max (xp f+1) (Nq l)
theorem Sm:∀(l:List j6),∀f∈l,xp f<Nq l
 |[],_,h=>by cases h
 |g::l,f,h=>by
  rcases List.mem_cons.1 h with rfl|h
  · show xp f<max _ _;omega
  · have:=Sm l f h;show xp f<max _ _;omega
def qg(l:List j6):Int:=if¬(Be (Nq l) l 0 0 0).1=true then 2 else if((l.length:Nat):Int)=0\/∃x∈l,¬qK x then 71 else 0
theorem Wf{c:Bool}{a b:Int}(h:(c,a,b)=Be (Nq l) l 0 0 0)(hc:¬c=true):qg l=2:=if_pos (by rw[<-h];exact hc)
theorem Us{c:Bool}{a b:Int}(h:(c,a,b)=Be (Nq l) l 0 0 0)(hc:c=true)(j:((l.length:Nat):Int)=0\/∃x∈l,¬qK x):qg l=71:=(if_neg (by rw[<-h];exact fun k=>k hc)).trans (if_pos j)
theorem Wg{c:Bool}{a b:Int}(h:(c,a,b)=Be (Nq l) l 0 0 0)(hc:c=true)(j:¬(((l.length:Nat):Int)=0\/∃x∈l,¬qK x)):qg l=0:=(if_neg (by rw[<-h];exact fun k=>k hc)).trans (if_neg j)
end
theorem Nr:ex.T.agg 466=some false:=kr
theorem Ns:ex.T.agg 469=some true:=kr
theorem xc:ex.T.agg 553=some true:=kr
theorem BF:ex.T.size 469=some 8:=kr
theorem q_:ex.T.size 553=some 4:=kr
theorem Ks:ex.T.zero 469=some (.agg ⟨[iN 0,iN 0,iN 0,iN 0,iN 0,.slice none (0) 0,.slice none (0) 0,.slice none (0) 0]⟩):=kr
theorem BG:ex.T.zero 553=some (.agg ⟨[iN 0,iN 0,iN 0,.slice none (0) 0]⟩):=kr
theorem JE{A:j6->Prop}(K:SV j6)(f:FuncId)(b:Array Value)(hp:Ht)(nx:Nat)(hK:jt ma 1 (fun hp nx y=>mb hp nx y) hp nx K)(hf:∀(i:Nat) (x:j6),K.l[i]?=some x->∀(fe:Ht) (fg:Nat),nx<=fg->HE nx hp fe->WF ex f ((fv x)::b.toList) fe fg (fO fg fe (gk (A x)))):WF ex 357 [K.v,.func (.func f) #[] b] hp nx (fO nx hp (pM K.l A)):=by
 obtain⟨a1,c2,hR⟩:=hK.1.shape
 have lW:=hK.1.2.2
 rw[hR]
 refine wd Tryz.f357 19 [.tmp 4] fun hE=>sr<|oN 1<|WP.seq<|sr<|oN 3<|WP.block ?_
 refine my [0,1,7,8] (fun m hs ns vs=>∃(fV:Nat),fV+m=K.l.length/\vs=[.slice a1 (K.l.length) c2,.func (.func f) #[] b,iN (.ofNat (K.l.length)),iN (.ofNat fV)]/\nx<=ns/\HE (nx) hp hs/\(∀(j:Nat) (y:j6),j<fV->K.l[j]?=some y->¬A y)) ?_ (K.l.length) ?_
 ·
  rintro xn pT ja _ ⟨fV,tP,rfl,oe,jm,hinv⟩ tQ
  have j2:=hE.trans jm
  refine sr ?_
  refine oq 9 (kV fV K.l.length) fun nC rH=>WO.nil<|WP.seq<|cq rH (fun wQ=>?_) (fun wQ=>?_)
  ·
   refine WP.skip<|WP.seq<|WP.block<|sr<|oN 2<|sr<|oX 3 ?_
   have mY:fV<K.l.length:=by omega
   refine WO.cons (WC.iy hR hK.1 (fV) yS zo (mY) ?_)
   obtain⟨lu,ku⟩:=gE mY
   refine WO.cons (WC.lz (fv lu) hR (hK.1.mono j2 nR) ku rfl Nr<|WO.cons (WC.call 16 f ((fv lu)::b.toList) kf ((hf fV lu ku pT (ja) om j2).mono ?_)))
   rintro _ Jl TL ⟨⟨EJ,rfl,Cy⟩,TM,tR⟩
   refine WO.nil<|cq Cy (fun wv=>?_) (fun wv=>?_)
   ·
    refine sr<|oW 2 ⟨rfl,rfl,[iN (.ofNat fV)],kr,?_⟩
    exact⟨.inr ⟨fV,lu,rfl,ku,wv,hinv⟩,od,(j2.trans tR)⟩
   ·
    refine WP.skip<|WP.region<|ov 18 (iN (.ofNat (fV+1))) ?_ (fun _ _ _=>by rw[<-gU (show fV+1<9223372036854775808 by omega)];kernel_rfl)
    refine oN 1<|⟨K.l.length-(fV+1),om,rfl,rfl,fV+1,om,kr,?_,?_,?_⟩
    · exact od
    · exact(jm.trans tR oe)
    · intro j y hj hy;rcases Nat.lt_succ_iff_lt_or_eq.1 hj with hj|rfl;exact hinv j y hj hy;rw[ku]at hy;cases hy;exact wv
  ·
   refine WP.exit<|sr<|oW 1 ⟨rfl,rfl,[iN (-1)],kr,?_⟩
   refine⟨.inl ⟨rfl,fun y hy=>?_⟩,od,j2⟩
   obtain⟨j,hj⟩:=List.getElem?_of_mem hy
   exact hinv j y (by have:=(List.getElem?_eq_some_iff.1 hj).1;omega) hj
 ·
  exact⟨0,om,kr,Nat.le_refl _,HE.refl _ _,(fun j y h=>absurd h (Nat.not_lt_zero _))⟩
theorem rZ{A:j6->Prop}(K:SV j6)(f:FuncId)(b:Array Value)(hp:Ht)(nx:Nat)(hK:jt ma 1 (fun hp nx y=>mb hp nx y) hp nx K)(hf:∀(i:Nat) (x:j6),K.l[i]?=some x->∀(fe:Ht) (fg:Nat),nx<=fg->HE nx hp fe->WF ex f ((fv x)::b.toList) fe fg (fO fg fe (gk (A x)))):WF ex 281 [K.v,.func (.func f) #[] b] hp nx (fO nx hp (gk (∃x∈K.l,A x))):=by
 have mn:=fF (e:=ex) 281 Tryz.f281 9 [.tmp 4]
 have mZ:=@JE
 exact MG
theorem yh(f:j6)(hp:Ht)(nx:Nat)(hf:mb hp nx f)(j:WF ex 358 [fv f] hp nx (fO nx hp (gk (qK f)))):WF ex 282 [fv f] hp nx (fO nx hp (gk (¬qK f))):=by
 refine wd Tryz.f282 6 [.tmp 2] fun hE=>sr<|oN 1<|sr<|oX 1<|oD 4 (j) fun U C R oG J iY=>?_
 refine oq 5 (nN C) fun o I=>oW 1 ⟨rfl,rfl,[.bool o],kr,?_⟩
 refine⟨⟨o,rfl,?_⟩,od,(hE.trans iY)⟩
 exact I
theorem Ov(k:Nat)(ih:∀(f:j6) (hp:Ht) (nx:Nat),xp f<k->mb hp nx f->WF ex 358 [fv f] hp nx (fO nx hp (gk (qK f))))(c:RCond)(hp:Ht)(nx:Nat)(hk:sizeOf c<k+1)(hc:lB hp nx c):WF ex 358 [.iface 553 (.agg (ig c).toArray)] hp nx (fO nx hp (gk (qK (.cond c)))):=by
 refine wd Tryz.f358 131 [.tmp 2] fun hE=>sr<|oN 1<|WP.seq<|sr<|oN 1<|WP.block<|sr<|oN 3<|WP.cond true kr (fun h1=>?_) (fun h1=>by cases h1)
 refine sr<|oA [iN 0,iN 0,iN 0,.slice none (0) 0] BG fun dg cG cF=>?_
 have cE:=hE.trans cG nR
 have I:=Nat.le_trans nR (Nat.le_succ (nx))
 refine oS nx (0) (.agg (ig c).toArray) (ig c) (ig c) q_ rfl (Bool.and_eq_true_iff.2 ⟨rfl,wM _ hc⟩) cF fun bk b6 j c7=>?_
 have C:=cE.trans b6 om
 refine WO.nil<|sr<|oX 2<|oZ nx (0+0+1) (iN c.rP) fP j rfl ?_
 refine oq 14 (qp c.rP 0) fun sF vt=>oX 1<|gT 15 sF (pt nx 0)<|gT 15 sF (pt nx (0+0+2))<|lr 15 sF nx (0+0+2) (iN c.fN) fP j rfl ?_
 refine qw 15 sF (qp c.fN 0) fun db cJ=>?_
 refine mI 20 (nA vt cJ) fun o bu=>oN 1<|WP.seq<|sr<|oX 2<|oZ nx (0+0+0) (iN c.jf) fP j rfl<|WO.nil<|WP.block<|sr ?_
 refine oq 25 (qp c.jf 1) fun dc cK=>oN 1<|cq cK (fun aS=>?_) (fun aS=>?_)
 ·
  refine sr<|oX 2<|oZ nx (0+0+1) (iN c.rP) fP j rfl<|oL [iN c.rP] fun bh bc bZ=>?_
  have bV:=C.trans bc I
  have b0:=bc.get j (Nat.lt_succ_self (nx))
  have bp:=Nat.lt_of_lt_of_le (Nat.lt_succ_self (nx)) (Nat.le_succ (nx+1))
  have bn:=Nat.le_trans I (Nat.le_succ (nx+1))
  refine oD 30 (zp (1) (3) (⟨.slice (some ⟨(nx+1),0,none⟩) 1 1,[c.rP]⟩:SV Int) bh (nx+1+1) (gA.mO (enc:=encI) (by simp[encI]) bZ rfl (by decide) om (by simp):gA encI 1 bh (nx+1+1) (⟨.slice (some ⟨(nx+1),0,none⟩) 1 1,[c.rP]⟩:SV Int))) fun aP bQ cb J bg sG=>?_
  have a8:=bV.trans sG bn
  have a_:=sG.get b0 bp
  have bq:=Nat.lt_of_lt_of_le bp bg
  have aN:=Nat.le_trans bn bg
  refine oX 1<|gT 31 aP (pt nx 0)<|gT 31 aP (pt nx (0+0+2))<|lr 31 aP nx (0+0+2) (iN c.fN) fP a_ rfl ?_
  cases aP with
  |true=>
   have cP:=(bQ).1 rfl
   refine WO.cons (WC.k_ (x:=.bool true) (g:=aaj (.tmp 31)) rfl kr rfl (WC.buildSlice [iN c.fN] rfl kr ?_))
   obtain⟨bj,bl,bd,b3⟩:=boxed cb (J) [iN c.fN]
   rw[bl];clear bl
   have bW:=a8.trans bd aN
   have b4:=bd.get a_ bq
   have ch:=Nat.lt_of_lt_of_le bq (Nat.le_succ (J))
   have bo:=Nat.le_trans aN (Nat.le_succ (J))
   refine WO.cons (WC.k_ (x:=.bool true) (g:=aaj (.tmp 31)) rfl kr rfl (WC.call 36 179 ([iN 0,iN 10000,(⟨.slice (some ⟨J,0,none⟩) 1 1,[c.fN]⟩:SV Int).v]) kf ((zp (0) (10000) (⟨.slice (some ⟨J,0,none⟩) 1 1,[c.fN]⟩:SV Int) bj (J+1) (gA.mO (enc:=encI) (by simp[encI]) b3 rfl (by decide) om (by simp):gA encI 1 bj (J+1) (⟨.slice (some ⟨J,0,none⟩) 1 1,[c.fN]⟩:SV Int))).mono ?_)))
   rintro _ c8 c_ ⟨⟨aE,rfl,cL⟩,b9,bf⟩
   have bX:=bW.trans bf bo
   have b5:=bf.get b4 ch
   have cf:=Nat.le_trans bo b9
   refine oX 2<|gT 38 aE (pt nx 0)<|gT 38 aE (pt nx (0+0+3)) ?_
   obtain⟨a66,cD,cc⟩:=hc.fW.1.shape
   have cT:=hc.fW.1.2.2
   refine lr 38 aE nx (0+0+3) (.slice a66 (c.fW.l.length) cD) sH b5 (by rw[<-cc];rfl)<|gT 38 aE (iN (.ofNat (c.fW.l.length))) ?_
   refine qw 38 aE (w5 c.fW.l.length 0) fun dd cM=>?_
   refine mI 44 (nA cL cM) fun xw Iv=>oW 1 ⟨rfl,rfl,[.bool xw],kr,?_⟩
   refine⟨⟨xw,rfl,?_⟩,cf,bX⟩
   show _↔lY c
   rw[lY.JD aS]
   exact(Iv).trans ⟨fun h=>⟨JC.1 cP,JC.1 h.1,QC.1 h.2⟩,fun h=>⟨JC.2 h.2.1,QC.2 h.2.2⟩⟩
  |false=>
   have cQ:¬(∀x∈(⟨.slice (some ⟨(nx+1),0,none⟩) 1 1,[c.rP]⟩:SV Int).l,(1)<=x/\x<=(3)):=nf bQ
   refine oW 11 ⟨rfl,rfl,[.bool false],kr,?_⟩
   refine⟨⟨false,rfl,?_⟩,aN,a8⟩
   show _↔lY c
   rw[lY.JD aS]
   exact⟨fun h=>(by cases h),fun h=>absurd (JC.2 h.1) cQ⟩
 ·
  refine sr ?_
  refine oq 46 (qp c.jf 4) fun ET Ba=>oN 1<|cq Ba (fun tj=>?_) (fun tj=>?_)
  ·
   refine WP.region<|oX 2<|gT 48 o (pt nx 0)<|gT 48 o (pt nx (0+0+3)) ?_
   obtain⟨a75,jB,cd⟩:=hc.fW.1.shape
   have cU:=hc.fW.1.2.2
   refine lr 48 o nx (0+0+3) (.slice a75 (c.fW.l.length) jB) sH j (by rw[<-cd];rfl)<|gT 48 o (iN (.ofNat (c.fW.l.length))) ?_
   refine qw 48 o (w5 c.fW.l.length 1) fun de cN=>?_
   refine mI 54 (nA bu cN) fun bP bR=>oN 1<|sr<|oX 2<|EI 74 bP (.agg (ig c).toArray) (by rintro rfl;exact WC.jb nx (0) (ig c) kr xc q_ j rfl rfl) ?_
   cases bP with
   |true=>
    have bw:=(bR).1 rfl
    refine WO.cons (WC.k_ (x:=.bool true) (g:=aaj (.tmp 74)) rfl kr rfl (WC.call 76 417 ([.agg (ig c).toArray]) kf ((ya c bk (nx+1) (hc.mono C I)).mono ?_)))
    rintro _ aL ax ⟨aT,rfl,ao,bY,b_,b7⟩
    have aK:=C.trans b7 I
    have aw:=Nat.le_trans I b_
    have aj:jt ma 1 (fun hp nx y=>mb hp nx y) aL (ax) aT:=⟨bY.ok (nX _) (by rw[ao];have:=qf (f:=.cond c) ((hc.mono aK aw));omega),fun x hx=>qY (f:=.cond c) ((hc.mono aK aw)) x (ao▸hx)⟩
    have aM:=HE.refl (ax) aL
    have aO:=Nat.le_refl (ax)
    refine WO.cons (WC.k_ (x:=.bool true) (g:=aaj (.tmp 74)) rfl kr rfl (WC.call 77 281 ([aT.v,.func (.func 282) #[] #[]]) kf ((rZ (A:=fun x=>¬qK x) aT 282 #[] aL (ax) (aj.mono (fun _ h he hn=>h.mono he hn) aM aO) (fun i x hx fe fg hn he=>yh x fe fg (((aj.mono (fun _ h he hn=>h.mono he hn) aM aO).2 x (List.mem_of_getElem? hx)).mono he hn) (ih x fe fg (by have:=vy (f:=.cond c) (ao▸List.mem_of_getElem? hx);have hk:=hk;simp only[xp]at this⊢;omega) (((aj.mono (fun _ h he hn=>h.mono he hn) aM aO).2 x (List.mem_of_getElem? hx)).mono he hn)))).mono ?_)))
    rintro _ c9 da ⟨⟨df,rfl,cO⟩,ca,b8⟩
    have bx:=aK.trans b8 aw
    have bM:=Nat.le_trans aw ca
    obtain⟨aH,bS,cj⟩:=nN cO
    refine WO.cons (WC.k_ (x:=.bool true) (g:=aaj (.tmp 74)) rfl kr rfl (WC.val 78 (.bool aH) (fun _ _ _=>by subst bS;kernel_rfl)<|oW 2 ⟨rfl,rfl,[.bool aH],kr,?_⟩))
    refine⟨⟨aH,rfl,?_⟩,bM,bx⟩
    show _↔lY c
    rw[lY.XI tj]
    exact(cj).trans (Vo.trans ((ao▸zK).trans ⟨fun h=>⟨⟨bw.1.1,bw.1.2,by have:=bw.2;omega⟩,h⟩,fun h=>h.2⟩))
   |false=>
    have cA:¬((((c.rP)=(0))/\((c.fN)=(0)))/\(((c.fW.l.length:Nat):Int)=(1))):=nf bR
    refine oW 5 ⟨rfl,rfl,[.bool false],kr,?_⟩
    refine⟨⟨false,rfl,?_⟩,I,C⟩
    show _↔lY c
    rw[lY.XI tj]
    exact⟨fun h=>(by cases h),fun h=>absurd h.1 (fun k=>cA ⟨⟨k.1,k.2.1⟩,by rw[k.2.2];rfl⟩)⟩
  ·
   refine WP.seq<|sr ?_
   refine oq 56 (qp c.jf 2) fun aW br=>oN 1<|WP.cond aW kr (fun ak=>?_) (fun ak=>?_)
   ·
    have ay:=(br).1 ak
    refine WP.skip<|WP.cond aW kr (fun a7=>?_) (fun a7=>absurd (ak.symm.trans a7) (by decide))
    refine WP.region<|oX 2<|gT 59 o (pt nx 0)<|gT 59 o (pt nx (0+0+3)) ?_
    obtain⟨aU,aX,aQ⟩:=hc.fW.1.shape
    have cH:=hc.fW.1.2.2
    refine lr 59 o nx (0+0+3) (.slice aU (c.fW.l.length) aX) sH j (by rw[<-aQ];rfl)<|gT 59 o (iN (.ofNat (c.fW.l.length))) ?_
    refine qw 59 o (nc 0 c.fW.l.length) fun cX ck=>?_
    refine mI 65 (nA bu ck) fun ah cm=>oX 1<|gT 66 ah (pt nx 0)<|gT 66 ah (pt nx (0+0+3))<|lr 66 ah nx (0+0+3) (.slice aU (c.fW.l.length) aX) sH j (by rw[<-aQ];rfl)<|gT 66 ah (iN (.ofNat (c.fW.l.length))) ?_
    refine qw 66 ah (EH c.fW.l.length 16) fun cY cn=>?_
    refine mI 72 (nA cm cn) fun aY bs=>oN 1<|sr<|oX 2<|EI 74 aY (.agg (ig c).toArray) (by rintro rfl;exact WC.jb nx (0) (ig c) kr xc q_ j rfl rfl) ?_
    cases aY with
    |true=>
     have az:=(bs).1 rfl
     refine WO.cons (WC.k_ (x:=.bool true) (g:=aaj (.tmp 74)) rfl kr rfl (WC.call 76 417 ([.agg (ig c).toArray]) kf ((ya c bk (nx+1) (hc.mono C I)).mono ?_)))
     rintro _ aq af ⟨aF,rfl,aa,bB,bI,bD⟩
     have al:=C.trans bD I
     have ad:=Nat.le_trans I bI
     have R:jt ma 1 (fun hp nx y=>mb hp nx y) aq (af) aF:=⟨bB.ok (nX _) (by rw[aa];have:=qf (f:=.cond c) ((hc.mono al ad));omega),fun x hx=>qY (f:=.cond c) ((hc.mono al ad)) x (aa▸hx)⟩
     have au:=HE.refl (af) aq
     have aC:=Nat.le_refl (af)
     refine WO.cons (WC.k_ (x:=.bool true) (g:=aaj (.tmp 74)) rfl kr rfl (WC.call 77 281 ([aF.v,.func (.func 282) #[] #[]]) kf ((rZ (A:=fun x=>¬qK x) aF 282 #[] aq (af) (R.mono (fun _ h he hn=>h.mono he hn) au aC) (fun i x hx fe fg hn he=>yh x fe fg (((R.mono (fun _ h he hn=>h.mono he hn) au aC).2 x (List.mem_of_getElem? hx)).mono he hn) (ih x fe fg (by have:=vy (f:=.cond c) (aa▸List.mem_of_getElem? hx);have hk:=hk;simp only[xp]at this⊢;omega) (((R.mono (fun _ h he hn=>h.mono he hn) au aC).2 x (List.mem_of_getElem? hx)).mono he hn)))).mono ?_)))
     rintro _ cR cV ⟨⟨cZ,rfl,cp⟩,bJ,bE⟩
     have bz:=al.trans bE ad
     have bN:=Nat.le_trans ad bJ
     obtain⟨aI,bT,cr⟩:=nN cp
     refine WO.cons (WC.k_ (x:=.bool true) (g:=aaj (.tmp 74)) rfl kr rfl (WC.val 78 (.bool aI) (fun _ _ _=>by subst bT;kernel_rfl)<|oW 2 ⟨rfl,rfl,[.bool aI],kr,?_⟩))
     refine⟨⟨aI,rfl,?_⟩,bN,bz⟩
     show _↔lY c
     rw[lY.E8 (.inl ay)]
     exact(cr).trans (Vo.trans ((aa▸zK).trans ⟨fun h=>⟨⟨az.1.1.1,az.1.1.2,by have:=az.1.2;omega,by have:=az.2;omega⟩,h⟩,fun h=>h.2⟩))
    |false=>
     have cB:¬(((((c.rP)=(0))/\((c.fN)=(0)))/\((0)<((c.fW.l.length:Nat):Int)))/\(((c.fW.l.length:Nat):Int)<=(16))):=nf bs
     refine oW 5 ⟨rfl,rfl,[.bool false],kr,?_⟩
     refine⟨⟨false,rfl,?_⟩,I,C⟩
     show _↔lY c
     rw[lY.E8 (.inl ay)]
     exact⟨fun h=>(by cases h),fun h=>absurd h.1 (fun k=>cB ⟨⟨⟨k.1,k.2.1⟩,by have:=k.2.2.1;omega⟩,by have:=k.2.2.2;omega⟩)⟩
   ·
    have ay:=nq br ak
    refine WP.region ?_
    refine oq 57 (qp c.jf 3) fun c0 ct=>oN 1<|cq ct (fun aA=>?_) (fun aA=>?_)
    ·
     refine WP.region<|oX 2<|gT 59 o (pt nx 0)<|gT 59 o (pt nx (0+0+3)) ?_
     obtain⟨aV,aZ,aR⟩:=hc.fW.1.shape
     have cI:=hc.fW.1.2.2
     refine lr 59 o nx (0+0+3) (.slice aV (c.fW.l.length) aZ) sH j (by rw[<-aR];rfl)<|gT 59 o (iN (.ofNat (c.fW.l.length))) ?_
     refine qw 59 o (nc 0 c.fW.l.length) fun c3 cu=>?_
     refine mI 65 (nA bu cu) fun ai cw=>oX 1<|gT 66 ai (pt nx 0)<|gT 66 ai (pt nx (0+0+3))<|lr 66 ai nx (0+0+3) (.slice aV (c.fW.l.length) aZ) sH j (by rw[<-aR];rfl)<|gT 66 ai (iN (.ofNat (c.fW.l.length))) ?_
     refine qw 66 ai (EH c.fW.l.length 16) fun c5 cx=>?_
     refine mI 72 (nA cw cx) fun a6 bt=>oN 1<|sr<|oX 2<|EI 74 a6 (.agg (ig c).toArray) (by rintro rfl;exact WC.jb nx (0) (ig c) kr xc q_ j rfl rfl) ?_
     cases a6 with
     |true=>
      have aB:=(bt).1 rfl
      refine WO.cons (WC.k_ (x:=.bool true) (g:=aaj (.tmp 74)) rfl kr rfl (WC.call 76 417 ([.agg (ig c).toArray]) kf ((ya c bk (nx+1) (hc.mono C I)).mono ?_)))
      rintro _ ar ag ⟨aG,rfl,ab,bC,bK,bG⟩
      have an:=C.trans bG I
      have ae:=Nat.le_trans I bK
      have U:jt ma 1 (fun hp nx y=>mb hp nx y) ar (ag) aG:=⟨bC.ok (nX _) (by rw[ab];have:=qf (f:=.cond c) ((hc.mono an ae));omega),fun x hx=>qY (f:=.cond c) ((hc.mono an ae)) x (ab▸hx)⟩
      have av:=HE.refl (ag) ar
      have aD:=Nat.le_refl (ag)
      refine WO.cons (WC.k_ (x:=.bool true) (g:=aaj (.tmp 74)) rfl kr rfl (WC.call 77 281 ([aG.v,.func (.func 282) #[] #[]]) kf ((rZ (A:=fun x=>¬qK x) aG 282 #[] ar (ag) (U.mono (fun _ h he hn=>h.mono he hn) av aD) (fun i x hx fe fg hn he=>yh x fe fg (((U.mono (fun _ h he hn=>h.mono he hn) av aD).2 x (List.mem_of_getElem? hx)).mono he hn) (ih x fe fg (by have:=vy (f:=.cond c) (ab▸List.mem_of_getElem? hx);have hk:=hk;simp only[xp]at this⊢;omega) (((U.mono (fun _ h he hn=>h.mono he hn) av aD).2 x (List.mem_of_getElem? hx)).mono he hn)))).mono ?_)))
      rintro _ cS cW ⟨⟨c6,rfl,cy⟩,bL,bH⟩
      have bA:=an.trans bH ae
      have bO:=Nat.le_trans ae bL
      obtain⟨aJ,bU,cz⟩:=nN cy
      refine WO.cons (WC.k_ (x:=.bool true) (g:=aaj (.tmp 74)) rfl kr rfl (WC.val 78 (.bool aJ) (fun _ _ _=>by subst bU;kernel_rfl)<|oW 2 ⟨rfl,rfl,[.bool aJ],kr,?_⟩))
      refine⟨⟨aJ,rfl,?_⟩,bO,bA⟩
      show _↔lY c
      rw[lY.E8 (.inr aA)]
      exact(cz).trans (Vo.trans ((ab▸zK).trans ⟨fun h=>⟨⟨aB.1.1.1,aB.1.1.2,by have:=aB.1.2;omega,by have:=aB.2;omega⟩,h⟩,fun h=>h.2⟩))
     |false=>
      have cC:¬(((((c.rP)=(0))/\((c.fN)=(0)))/\((0)<((c.fW.l.length:Nat):Int)))/\(((c.fW.l.length:Nat):Int)<=(16))):=nf bt
      refine oW 5 ⟨rfl,rfl,[.bool false],kr,?_⟩
      refine⟨⟨false,rfl,?_⟩,I,C⟩
      show _↔lY c
      rw[lY.E8 (.inr aA)]
      exact⟨fun h=>(by cases h),fun h=>absurd h.1 (fun k=>cC ⟨⟨⟨k.1,k.2.1⟩,by have:=k.2.2.1;omega⟩,by have:=k.2.2.2;omega⟩)⟩
    ·
     refine sr<|oW 1 ⟨rfl,rfl,[.bool false],kr,?_⟩
     refine⟨⟨false,rfl,?_⟩,I,C⟩
     show _↔lY c
     exact⟨fun h=>(by cases h),fun h=>absurd h (lY.Ur aS ay aA tj)⟩
theorem Ow(k:Nat)(ih:∀(f:j6) (hp:Ht) (nx:Nat),xp f<k->mb hp nx f->WF ex 358 [fv f] hp nx (fO nx hp (gk (qK f))))(s:RStep)(hp:Ht)(nx:Nat)(hk:sizeOf s<k+1)(hs:j4 hp nx s):WF ex 358 [.iface 469 (.agg (ju s).toArray)] hp nx (fO nx hp (gk (qK (.step s)))):=by
 refine wd Tryz.f358 131 [.tmp 2] fun hE=>sr<|oN 1<|WP.seq<|sr<|oN 1<|WP.block<|sr<|oN 3<|WP.cond false kr (fun h1=>by cases h1) (fun h1=>?_)
 refine sr<|oN 3<|WP.cond true kr (fun h2=>?_) (fun h2=>by cases h2)
 refine sr<|oA [iN 0,iN 0,iN 0,iN 0,iN 0,.slice none (0) 0,.slice none (0) 0,.slice none (0) 0] Ks fun DP b3 b0=>?_
 have bZ:=hE.trans b3 nR
 have bd:=Nat.le_trans nR (Nat.le_succ (nx))
 refine oS nx (0) (.agg (ju s).toArray) (ju s) (ju s) BF rfl (Bool.and_eq_true_iff.2 ⟨rfl,BY _ hs⟩) b0 fun B2 bA aH cj=>?_
 have bl:=bZ.trans bA om
 refine WO.nil<|sr<|oX 2<|WO.cons (WC.jb nx (0+0+2) (ig s.jc) kr xa sm aH rfl<|oX 1<|oA [iN 0,iN 0,iN 0,.slice none (0) 0] BG fun ck aJ bq=>?_)
 have bn:=bl.trans aJ bd
 have br:=aJ.get aH (Nat.lt_succ_self (nx))
 have aB:=Nat.lt_of_lt_of_le (Nat.lt_succ_self (nx)) (Nat.le_succ (nx+1))
 have j:=Nat.le_trans bd (Nat.le_succ (nx+1))
 refine oS (nx+1) (0) (.agg (ig s.jc).toArray) (ig s.jc) (ig s.jc) q_ rfl (Bool.and_eq_true_iff.2 ⟨rfl,wM _ hs.jc⟩) bq fun bH bB aI bG=>?_
 have aa:=bn.trans bB om
 have ab:=(bG nx om).trans br
 refine WO.nil<|sr<|oX 2<|oZ nx (0+0+0) (iN s.jf) fP ab rfl<|WO.nil<|WP.block<|sr ?_
 refine oq 91 (qp s.jf 1) fun cn b5=>oN 1<|cq b5 (fun an=>?_) (fun an=>?_)
 ·
  refine sr<|oX 2<|oZ nx (0+0+1) (iN s.AT) fP ab rfl<|oL [iN s.AT] fun aM ax bs=>?_
  have bo:=aa.trans ax j
  have bt:=ax.get ab aB
  have aO:=Nat.lt_of_lt_of_le aB (Nat.le_succ (nx+1+1))
  have bu:=ax.get aI (Nat.lt_succ_self (nx+1))
  have bM:=Nat.lt_of_lt_of_le (Nat.lt_succ_self (nx+1)) (Nat.le_succ (nx+1+1))
  have aN:=Nat.le_trans j (Nat.le_succ (nx+1+1))
  refine oD 96 (zp (1) (5) (⟨.slice (some ⟨(nx+1+1),0,none⟩) 1 1,[s.AT]⟩:SV Int) aM (nx+1+1+1) (gA.mO (enc:=encI) (by simp[encI]) bs rfl (by decide) om (by simp):gA encI 1 aM (nx+1+1+1) (⟨.slice (some ⟨(nx+1+1),0,none⟩) 1 1,[s.AT]⟩:SV Int))) fun a_ bf bI bO aL ay=>?_
  have au:=bo.trans ay aN
  have bw:=ay.get bt aO
  have bN:=Nat.lt_of_lt_of_le aO aL
  have bx:=ay.get bu bM
  have ai:=Nat.le_trans aN aL
  refine oX 1<|EI 97 a_ (.agg (ig s.jc).toArray) (by rintro rfl;exact WC.jb (nx+1) (0) (ig s.jc) kr xc q_ bx rfl rfl) ?_
  cases a_ with
  |true=>
   have b8:=(bf).1 rfl
   refine WO.cons (WC.k_ (x:=.bool true) (g:=aaj (.tmp 97)) rfl kr rfl (WC.call 99 356 ([.agg (ig s.jc).toArray]) kf ((Km s.jc bI (bO) (hs.jc.mono au ai)).mono ?_)))
   rintro _ bJ bP ⟨⟨bc,rfl,bg⟩,bD,aK⟩
   have av:=au.trans aK ai
   have bz:=aK.get bw bN
   have aj:=Nat.le_trans ai bD
   refine oX 2<|EI 101 bc (.agg (ju s).toArray) (by rintro rfl;exact WC.jb nx (0) (ju s) kr Ns BF bz rfl rfl) ?_
   cases bc with
   |true=>
    have b9:=(bg).1 rfl
    refine WO.cons (WC.k_ (x:=.bool true) (g:=aaj (.tmp 101)) rfl kr rfl (WC.call 103 418 ([.agg (ju s).toArray]) kf ((yb s bJ (bP) (hs.mono av aj)).mono ?_)))
    rintro _ bK bQ ⟨aE,rfl,az,bp,bE,bC⟩
    have aw:=av.trans bC aj
    have aA:=Nat.le_trans aj bE
    have al:jt ma 1 (fun hp nx y=>mb hp nx y) bK (bQ) aE:=⟨bp.ok (nX _) (by rw[az];have:=qf (f:=.step s) ((hs.mono aw aA));omega),fun x hx=>qY (f:=.step s) ((hs.mono aw aA)) x (az▸hx)⟩
    obtain⟨cm,cp,bL⟩:=al.1.shape
    have cc:=al.1.2.2
    refine WO.cons (WC.k_ (x:=.bool true) (g:=aaj (.tmp 101)) rfl kr rfl (WC.val 104 (iN (.ofNat (aE.l.length))) (fun _ _ _=>by rw[bL];kernel_rfl) ?_))
    obtain⟨aG,bY,b6⟩:=w5 aE.l.length 0
    refine WO.cons (WC.k_ (x:=.bool true) (g:=aaj (.tmp 101)) rfl kr rfl (WC.val 105 (.bool aG) (fun _ _ _=>by subst bY;kernel_rfl)<|oW 2 ⟨rfl,rfl,[.bool aG],kr,?_⟩))
    refine⟨⟨aG,rfl,?_⟩,aA,aw⟩
    show _↔ph s
    rw[ph.JD an]
    exact(b6).trans ((QC.trans (by rw[az])).trans ⟨fun h=>⟨JC.1 b8,b9,h⟩,fun h=>h.2.2⟩)
   |false=>
    have b_:¬(nw s.jc):=nf bg
    refine oW 5 ⟨rfl,rfl,[.bool false],kr,?_⟩
    refine⟨⟨false,rfl,?_⟩,aj,av⟩
    show _↔ph s
    rw[ph.JD an]
    exact⟨fun h=>(by cases h),fun h=>absurd h.2.1 b_⟩
  |false=>
   have ca:¬(∀x∈(⟨.slice (some ⟨(nx+1+1),0,none⟩) 1 1,[s.AT]⟩:SV Int).l,(1)<=x/\x<=(5)):=nf bf
   refine oW 9 ⟨rfl,rfl,[.bool false],kr,?_⟩
   refine⟨⟨false,rfl,?_⟩,ai,au⟩
   show _↔ph s
   rw[ph.JD an]
   exact⟨fun h=>(by cases h),fun h=>absurd (JC.2 h.1) ca⟩
 ·
  refine sr ?_
  refine oq 108 (qp s.jf 2) fun cr b7=>oN 1<|cq b7 (fun ad=>?_) (fun ad=>?_)
  ·
   refine sr<|oX 2<|oZ nx (0+0+1) (iN s.AT) fP ab rfl ?_
   refine oq 112 (qp s.AT 0) fun aq aP=>oX 1<|EI 113 aq (.agg (ig s.jc).toArray) (by rintro rfl;exact WC.jb (nx+1) (0) (ig s.jc) kr xc q_ aI rfl rfl)<|gT 113 aq (.iface 553 (.agg (ig s.jc).toArray)) ?_
   cases aq with
   |true=>
    have bV:=(aP).1 rfl
    refine WO.cons (WC.k_ (x:=.bool true) (g:=aaj (.tmp 113)) rfl kr rfl (WC.call 116 358 ([.iface 553 (.agg (ig s.jc).toArray)]) kf ((ih (j6.cond s.jc) bH (nx+1+1) (by have:=RStep.OW s;simp only[xp];omega) (hs.jc.mono aa j)).mono ?_)))
    rintro _ aZ a8 ⟨⟨U,rfl,bR⟩,aW,aD⟩
    have ae:=aa.trans aD j
    have aC:=aD.get ab aB
    have I:=Nat.le_trans j aW
    refine oX 2<|gT 118 U (pt nx 0)<|gT 118 U (pt nx (0+0+6)) ?_
    obtain⟨bh,bj,a6⟩:=hs.lX.1.shape
    have b4:=hs.lX.1.2.2
    refine lr 118 U nx (0+0+6) (.slice bh (s.lX.l.length) bj) uN aC (by rw[<-a6];rfl)<|gT 118 U (iN (.ofNat (s.lX.l.length))) ?_
    refine qw 118 U (nc 0 s.lX.l.length) fun cf bS=>?_
    refine mI 124 (nA bR bS) fun aF aQ=>oX 1<|EI 125 aF (.agg (ju s).toArray) (by rintro rfl;exact WC.jb nx (0) (ju s) kr Ns BF aC rfl rfl) ?_
    cases aF with
    |true=>
     have aR:=(aQ).1 rfl
     refine WO.cons (WC.k_ (x:=.bool true) (g:=aaj (.tmp 125)) rfl kr rfl (WC.call 127 418 ([.agg (ju s).toArray]) kf ((yb s aZ (a8) (hs.mono ae I)).mono ?_)))
     rintro _ ag R ⟨ao,rfl,o,aT,aX,aU⟩
     have af:=ae.trans aU I
     have J:=Nat.le_trans I aX
     have C:jt ma 1 (fun hp nx y=>mb hp nx y) ag (R) ao:=⟨aT.ok (nX _) (by rw[o];have:=qf (f:=.step s) ((hs.mono af J));omega),fun x hx=>qY (f:=.step s) ((hs.mono af J)) x (o▸hx)⟩
     have ah:=HE.refl (R) ag
     have ak:=Nat.le_refl (R)
     refine WO.cons (WC.k_ (x:=.bool true) (g:=aaj (.tmp 125)) rfl kr rfl (WC.call 128 281 ([ao.v,.func (.func 282) #[] #[]]) kf ((rZ (A:=fun x=>¬qK x) ao 282 #[] ag (R) (C.mono (fun _ h he hn=>h.mono he hn) ah ak) (fun i x hx fe fg hn he=>yh x fe fg (((C.mono (fun _ h he hn=>h.mono he hn) ah ak).2 x (List.mem_of_getElem? hx)).mono he hn) (ih x fe fg (by have:=vy (f:=.step s) (o▸List.mem_of_getElem? hx);have hk:=hk;simp only[xp]at this⊢;omega) (((C.mono (fun _ h he hn=>h.mono he hn) ah ak).2 x (List.mem_of_getElem? hx)).mono he hn)))).mono ?_)))
     rintro _ cb cd ⟨⟨ch,rfl,bT⟩,aY,aV⟩
     have aS:=af.trans aV J
     have a7:=Nat.le_trans J aY
     obtain⟨ar,bk,bU⟩:=nN bT
     refine WO.cons (WC.k_ (x:=.bool true) (g:=aaj (.tmp 125)) rfl kr rfl (WC.val 129 (.bool ar) (fun _ _ _=>by subst bk;kernel_rfl)<|oW 2 ⟨rfl,rfl,[.bool ar],kr,?_⟩))
     refine⟨⟨ar,rfl,?_⟩,a7,aS⟩
     show _↔ph s
     rw[ph.E8 ad]
     exact(bU).trans (Vo.trans ⟨fun h=>⟨bV,aR.1,by have:=aR.2;omega,o▸h⟩,fun h=>o▸h.2.2.2⟩)
    |false=>
     have bW:¬((qK (j6.cond s.jc))/\((0)<((s.lX.l.length:Nat):Int))):=nf aQ
     refine oW 5 ⟨rfl,rfl,[.bool false],kr,?_⟩
     refine⟨⟨false,rfl,?_⟩,I,ae⟩
     show _↔ph s
     rw[ph.E8 ad]
     exact⟨fun h=>(by cases h),fun h=>(bW ⟨h.2.1,by have:=h.2.2.1;omega⟩).elim⟩
   |false=>
    have bX:¬((s.AT)=(0)):=nf aP
    refine oW 16 ⟨rfl,rfl,[.bool false],kr,?_⟩
    refine⟨⟨false,rfl,?_⟩,j,aa⟩
    show _↔ph s
    rw[ph.E8 ad]
    exact⟨fun h=>(by cases h),fun h=>absurd h.1 bX⟩
  ·
   refine WP.skip<|sr<|oW 1 ⟨rfl,rfl,[.bool false],kr,?_⟩
   refine⟨⟨false,rfl,?_⟩,j,aa⟩
   show _↔ph s
   exact⟨fun h=>(by cases h),fun h=>absurd h (ph.Ur an ad)⟩
theorem Ut(f:j6)(hp:Ht)(nx:Nat)(hf:mb hp nx f):WF ex 358 [fv f] hp nx (fO nx hp (gk (qK f))):=by
 have h:∀(k:Nat),∀(f:j6) (hp:Ht) (nx:Nat),xp f<k->mb hp nx f->WF ex 358 [fv f] hp nx (fO nx hp (gk (qK f))):=by
  intro k
  induction k with
  |zero=>intro _ _ _ h;exact absurd h (Nat.not_lt_zero _)
  |succ k ih=>
   intro f hp nx hk hf
   cases f with
   |cond c=>exact Ov k ih c hp nx hk hf
   |step s=>exact Ow k ih s hp nx hk hf
 exact h _ f hp nx (Nat.lt_succ_self _) hf
theorem Pa(k:Nat)(ih:∀j,j+1=k->∀(l:SV j6) (C:Nat) (a b d:Int) (hp:Ht) (nx:Nat),hp.get C=some (.cells [iN a,iN b] gl.plain)->C<nx->jt ma 1 (fun hp nx y=>mb hp nx y) (hp.set C none) nx l->(∀f∈l.l,xp f<j)->WF ex 280 [pt C 0,l.v,iN d] hp nx (fun v fe fg=>(∃(c:Bool) (a' b':Int),v=.bool c/\(c,a',b')=Be j l.l a b d/\fe.get C=some (.cells [iN a',iN b'] gl.plain))/\nx<=fg/\HE nx (hp.set C none) (fe.set C none)))(l:SV j6)(C:Nat)(a b d:Int)(hp:Ht)(nx:Nat)(hb:hp.get C=some (.cells [iN a,iN b] gl.plain))(jz:C<nx)(hl:jt ma 1 (fun hp nx y=>mb hp nx y) (hp.set C none) nx l)(hk:∀f∈l.l,xp f<k):WF ex 280 [pt C 0,l.v,iN d] hp nx (fun v fe fg=>(∃(c:Bool) (a' b':Int),v=.bool c/\(c,a',b')=Be k l.l a b d/\fe.get C=some (.cells [iN a',iN b'] gl.plain))/\nx<=fg/\HE nx (hp.set C none) (fe.set C none)):=by
 obtain⟨a1,c2,hR⟩:=hl.1.shape
 have lW:=hl.1.2.2
 rw[hR]
 refine wb ⟨Tryz.f280.body.getD .skip,83,[.tmp 6]⟩ ?_
 have hE:=HE.refl nx (hp.set C none)
 refine sr<|oN 1<|WP.seq<|sr<|oX 2 ?_
 refine oq 14 (nc 0 l.l.length) fun c4 p4=>oX 1<|gT 15 c4 (iN d) ?_
 refine qw 15 c4 (nz 16 d) fun dH dt=>?_
 refine mI 18 (nA p4 dt) fun dI du=>WO.nil<|cq du (fun aB=>?_) (fun aB=>?_)
 ·
  refine sr<|oW 1 ⟨rfl,rfl,[.bool false],kr,?_⟩
  exact⟨⟨_,_,_,rfl,(We hk aB).symm,hb⟩,nR,hE⟩
 ·
  refine WP.skip<|WP.seq<|sr<|oN 3<|WP.block ?_
  refine my [0,2,19,20,21] (fun m hs ns vs=>∃(R:Nat) (aa:Int) (ab:Int),R+m=l.l.length/\vs=[pt C 0,iN d,.slice a1 (l.l.length) c2,iN (.ofNat (l.l.length)),iN (.ofNat R)]/\nx<=ns/\HE nx (hp.set C none) (hs.set C none)/\hs.get C=some (.cells [iN aa,iN ab] gl.plain)/\(Kr (Be (k-1)) l.l a b d=Kr (Be (k-1)) (l.l.drop R) aa ab d)) ?_ (l.l.length) ?_
  ·
   rintro dE A9 vz _ ⟨R,aa,ab,cV,rfl,di,aA,aR,az⟩ dB
   refine sr ?_
   refine oq 22 (kV R l.l.length) fun dC cN=>WO.nil<|WP.seq<|cq cN (fun cS=>?_) (fun cS=>?_)
   ·
    refine WP.skip<|WP.seq<|WP.block<|sr ?_
    have bg:R<l.l.length:=by omega
    refine WO.cons (WC.iy hR ((hl.1.mono aA).un) (R) yS zo (bg) ?_)
    obtain⟨b7,I⟩:=gE bg
    refine WO.cons (WC.lz (fv b7) hR ((hl.1.mono aA).un) I rfl Nr<|oN 1<|WP.seq<|sr<|oN 1<|WP.block<|WP.seq ?_)
    rcases b7 with o|o
    ·
     have an:lB (hp.set C none) nx o:=hl.2 _ (List.mem_of_getElem? I)
     refine WP.region<|oN 3<|WP.cond true kr (fun b0=>?_) (fun b0=>by cases b0)
     refine sr<|oA [iN 0,iN 0,iN 0,.slice none (0) 0] BG fun dm bB cd=>?_
     refine oS vz (0) (.agg (ig o).toArray) (ig o) (ig o) q_ rfl (Bool.and_eq_true_iff.2 ⟨rfl,wM _ an⟩) cd fun dn ch dg cj=>?_
     have bz:=(cj C om).trans (bB.get aR)
     refine WO.nil<|WP.region<|oX 3<|oZ C (0+1) (iN ab) fP bz rfl<|oX 3<|oS C (0+1) (iN (gD .i64 ((ab)+(1)))) [iN aa,iN (gD .i64 ((ab)+(1)))] [iN (gD .i64 ((ab)+(1)))] kj rfl rfl bz fun cm dh aE ck=>?_
     have aO:=((aA.trans (bB.er (b:=C))).trans (ch.er (b:=C))).trans (HE.YT (B:=nx) ck)
     refine WO.nil<|sr<|oX 3<|oZ C 0 (iN aa) fP aE rfl ?_
     refine oq 65 (nz 64 aa) fun aI cO=>oX 1<|gF 66 aI (pt C 0)<|gF 66 aI (pt C 0)<|gF 66 aI (pt C (0+1))<|pj 66 aI C (0+1) (iN (gD .i64 ((ab)+(1)))) fP aE rfl ?_
     refine mX 66 aI (nz 256 (gD .i64 ((ab)+(1)))) fun dD cP=>?_
     refine mj 72 (nO cO cP) fun br b6=>oX 1<|gF 73 br (pt C 0)<|gF 73 br (.iface 553 (.agg (ig o).toArray)) ?_
     cases br with
     |true=>
      have dF:=(b6).1 rfl
      refine oN 6<|WP.cond true kr (fun b3=>?_) (fun b3=>by cases b3)
      refine sr<|oW 1 ⟨rfl,rfl,[.bool false],kr,?_⟩
      exact⟨⟨_,_,_,rfl,((zr hk aB).trans (az.trans (xb I (Dw.trans (yg om))))).symm,aE⟩,od,aO⟩
     |false=>
      have dG:¬(((64)<(aa))\/((256)<(gD .i64 ((ab)+(1))))):=nf b6
      refine WO.cons (WC.k_ (x:=.bool false) (g:=aaj (.tmp 73)) rfl kr rfl (WC.call 76 417 ([.agg (ig o).toArray]) kf ((ya o cm (vz+1) (an.mono aO).un).mono ?_)))
      rintro _ um kh ⟨bq,rfl,al,bx,M7,qu⟩
      have aD:=aO.trans (qu.er (b:=C))
      have cL:jt ma 1 (fun hp nx y=>mb hp nx y) um (kh) bq:=⟨bx.ok (nX _) (by rw[al];have:=qf (f:=.cond o) ((an.mono aD).un);omega),fun x hx=>qY (f:=.cond o) ((an.mono aD).un) x (al▸hx)⟩
      refine oX 2<|WO.cons (WC.k_ (x:=.bool false) (g:=aaj (.tmp 73)) rfl kr rfl (WC.call 79 280 ([pt C 0,bq.v,iN (gD .i64 ((d)+(1)))]) kf ((ih (k-1) (by have:=hk _ (List.mem_of_getElem? I);omega) bq C (aa) (gD .i64 ((ab)+(1))) (gD .i64 ((d)+(1))) um (kh) (qu.get aE) om ⟨((bx.r_ (fun q cM=>Tr.gC _ _ om)).ok (nX _) (by rw[al];have:=qf (f:=.cond o) an;omega)),fun x hx=>(qY (f:=.cond o) an x (al▸hx)).mono aD⟩ (fun g hg=>by have:=vy (al▸hg:g∈qx (.cond o));have:=hk _ (List.mem_of_getElem? I);omega)).mono ?_)))
      rintro _ dp dr ⟨⟨aJ,cn,cp,rfl,aQ,bA⟩,dj,Dp⟩
      rw[al]at aQ
      have bw:=aD.trans Dp
      have cQ:aJ=true↔(aJ=true):=Iff.rfl
      obtain⟨cJ,cK,cR⟩:=nN cQ
      refine WO.cons (WC.k_ (x:=.bool false) (g:=aaj (.tmp 73)) rfl kr rfl (WC.val 80 (.bool cJ) (fun _ _ _=>by subst cK;kernel_rfl)<|oN 1<|cq cR (fun cT=>?_) (fun cT=>?_)))
      ·
       refine sr<|oW 1 ⟨rfl,rfl,[.bool false],kr,?_⟩
       exact⟨⟨_,_,_,rfl,((zr hk aB).trans (az.trans (xb I (Dw.trans ((wi om).trans (aQ.symm.trans (by rw[show aJ=false from Bool.eq_false_iff.2 (by assumption)]))))))).symm,bA⟩,od,bw⟩
      ·
       refine WP.skip<|WP.region<|ov 82 (iN (.ofNat (R+1))) ?_ (fun _ _ _=>by rw[<-gU (show R+1<9223372036854775808 by omega)];kernel_rfl)
       refine oN 1<|⟨l.l.length-(R+1),om,rfl,rfl,R+1,cn,cp,om,kr,?_,?_,?_,?_⟩
       · exact od
       · exact bw
       · exact bA
       · exact az.trans (He I (Dw.trans ((wi om).trans (aQ.symm.trans (by rw[show aJ=true from(Classical.not_not.1 (by assumption:¬¬(aJ=true)))])))))
    ·
     have J:j4 (hp.set C none) nx o:=hl.2 _ (List.mem_of_getElem? I)
     refine WP.region<|oN 3<|WP.cond false kr (fun b4=>by cases b4) (fun b4=>?_)
     refine sr<|oN 3<|WP.cond true kr (fun b5=>?_) (fun b5=>by cases b5)
     refine sr<|oA [iN 0,iN 0,iN 0,iN 0,iN 0,.slice none (0) 0,.slice none (0) 0,.slice none (0) 0] Ks fun dq bC cf=>?_
     refine oS vz (0) (.agg (ju o).toArray) (ju o) (ju o) BF rfl (Bool.and_eq_true_iff.2 ⟨rfl,BY _ J⟩) cf fun c7 bL bH bQ=>?_
     have aY:=(bQ C om).trans (bC.get aR)
     refine WO.nil<|sr<|oX 3<|oZ C 0 (iN aa) fP aY rfl<|oX 3<|oS C 0 (iN (gD .i64 ((aa)+(1)))) [iN (gD .i64 ((aa)+(1))),iN ab] [iN (gD .i64 ((aa)+(1)))] kj rfl rfl aY fun c8 cU bI bh=>?_
     refine WO.nil<|sr<|oX 2<|WO.cons (WC.jb vz (0+0+2) (ig o.jc) kr xa sm ((bh vz om).trans bH) rfl<|oX 1<|oA [iN 0,iN 0,iN 0,.slice none (0) 0] BG fun c9 a8 bJ=>?_)
     refine oS (vz+1) (0) (.agg (ig o.jc).toArray) (ig o.jc) (ig o.jc) q_ rfl (Bool.and_eq_true_iff.2 ⟨rfl,wM _ J.jc⟩) bJ fun bS bM aZ bR=>?_
     have aS:=((((aA.trans (bC.er (b:=C))).trans (bL.er (b:=C))).trans (HE.YT (B:=nx) bh)).trans (a8.er (b:=C))).trans (bM.er (b:=C))
     refine WO.nil<|sr<|WO.cons (WC.jb (vz+1) (0) (ig o.jc) kr xc q_ aZ rfl<|WO.cons (WC.call 51 356 ([.agg (ig o.jc).toArray]) kf ((Km o.jc bS (vz+1+1) (J.jc.mono aS).un).mono ?_)))
     rintro _ bj ak ⟨⟨dd,rfl,cr⟩,cW,aF⟩
     have ao:=aS.trans (aF.er (b:=C))
     have ai:=aF.get ((bR C om).trans (a8.get bI))
     refine oq 52 (nN cr) fun aC bD=>oX 1<|gT 53 aC (pt C 0)<|EI 53 aC (.agg (ig o.jc).toArray) (by rintro rfl;exact WC.jb (vz+1) (0) (ig o.jc) kr xc q_ (aF.get aZ) rfl rfl)<|gT 53 aC (.iface 553 (.agg (ig o.jc).toArray)) ?_
     cases aC with
     |true=>
      have dv:=(bD).1 rfl
      refine WO.cons (WC.k_ (x:=.bool true) (g:=aaj (.tmp 53)) rfl kr rfl (WC.buildSlice [.iface 553 (.agg (ig o.jc).toArray)] rfl kr ?_))
      obtain⟨bT,bn,a_,bK⟩:=boxed bj (ak) [.iface 553 (.agg (ig o.jc).toArray)]
      rw[bn];clear bn
      have aT:=ao.trans (a_.er (b:=C))
      refine WO.cons (WC.k_ (x:=.bool true) (g:=aaj (.tmp 53)) rfl kr rfl (WC.call 58 280 ([pt C 0,(⟨.slice (some ⟨ak,0,none⟩) 1 1,[(j6.cond o.jc)]⟩:SV j6).v,iN 0]) kf ((ih (k-1) (by have:=hk _ (List.mem_of_getElem? I);omega) (⟨.slice (some ⟨ak,0,none⟩) 1 1,[(j6.cond o.jc)]⟩:SV j6) C (gD .i64 ((aa)+(1))) (ab) (0) bT (ak+1) (a_.get ai) om ⟨gA.mO (enc:=ma) (nX _) ((Tr.gC _ _ om).trans bK) rfl (by decide) om (by simp),fun x hx=>by rw[List.mem_singleton.1 hx];exact J.jc.mono aT⟩ (fun g hg=>by rw[List.mem_singleton.1 hg];have:=RStep.OW o;have:=hk _ (List.mem_of_getElem? I);simp only[xp]at this⊢;omega)).mono ?_)))
      rintro _ bU bZ ⟨⟨U,ag,ah,rfl,af,aj⟩,cX,bN⟩
      have aq:=aT.trans bN
      have ct:U=true↔(U=true):=Iff.rfl
      obtain⟨b8,ca,cu⟩:=nN ct
      refine WO.cons (WC.k_ (x:=.bool true) (g:=aaj (.tmp 53)) rfl kr rfl (WC.val 59 (.bool b8) (fun _ _ _=>by subst ca;kernel_rfl)<|oN 1<|cq cu (fun cE=>?_) (fun cE=>?_)))
      ·
       refine sr<|oW 1 ⟨rfl,rfl,[.bool false],kr,?_⟩
       have aP:uZ (Be (k-1)) (.step o) aa ab d=(false,ag,ah):=by first|exact(Ou (by assumption:¬nw o.jc) (af.symm.trans (by rw[show U=false from Bool.eq_false_iff.2 (by assumption)])))|exact((wR (by assumption:¬nw o.jc) (af.symm.trans (by rw[show U=true from(Classical.not_not.1 (by assumption:¬¬(U=true)))]))).trans (yg om))
       exact⟨⟨_,_,_,rfl,((zr hk aB).trans (az.trans (xb I aP))).symm,aj⟩,od,aq⟩
      ·
       refine WP.skip<|sr<|oX 3<|oZ C 0 (iN ag) fP aj rfl ?_
       refine oq 65 (nz 64 ag) fun av cw=>oX 1<|gF 66 av (pt C 0)<|gF 66 av (pt C 0)<|gF 66 av (pt C (0+1))<|pj 66 av C (0+1) (iN ah) fP aj rfl ?_
       refine mX 66 av (nz 256 ah) fun de cx=>?_
       refine mj 72 (nO cw cx) fun aM bE=>oX 1<|gF 73 aM (pt C 0)<|gF 73 aM (.iface 469 (.agg (ju o).toArray)) ?_
       cases aM with
       |true=>
        have dw:=(bE).1 rfl
        refine oN 6<|WP.cond true kr (fun bs=>?_) (fun bs=>by cases bs)
        refine sr<|oW 1 ⟨rfl,rfl,[.bool false],kr,?_⟩
        have aP:uZ (Be (k-1)) (.step o) aa ab d=(false,ag,ah):=by first|exact((wR (by assumption:¬nw o.jc) (af.symm.trans (by rw[show U=true from(Classical.not_not.1 (by assumption:¬¬(U=true)))]))).trans (yg om))|exact((wR (by assumption:¬nw o.jc) (af.symm.trans (by rw[show U=true from(Classical.not_not.1 (by assumption:¬¬(U=true)))]))).trans (yg om))
        exact⟨⟨_,_,_,rfl,((zr hk aB).trans (az.trans (xb I aP))).symm,aj⟩,od,aq⟩
       |false=>
        have dx:¬(((64)<(ag))\/((256)<(ah))):=nf bE
        refine WO.cons (WC.k_ (x:=.bool false) (g:=aaj (.tmp 73)) rfl kr rfl (WC.call 76 418 ([.agg (ju o).toArray]) kf ((yb o bU (bZ) (J.mono aq).un).mono ?_)))
        rintro _ bk bo ⟨aK,rfl,ad,aW,cY,bd⟩
        have ar:=aq.trans (bd.er (b:=C))
        have cH:jt ma 1 (fun hp nx y=>mb hp nx y) bk (bo) aK:=⟨aW.ok (nX _) (by rw[ad];have:=qf (f:=.step o) ((J.mono ar).un);omega),fun x hx=>qY (f:=.step o) ((J.mono ar).un) x (ad▸hx)⟩
        refine oX 2<|WO.cons (WC.k_ (x:=.bool false) (g:=aaj (.tmp 73)) rfl kr rfl (WC.call 79 280 ([pt C 0,aK.v,iN (gD .i64 ((d)+(1)))]) kf ((ih (k-1) (by have:=hk _ (List.mem_of_getElem? I);omega) aK C (ag) (ah) (gD .i64 ((d)+(1))) bk (bo) (bd.get aj) om ⟨((aW.r_ (fun q cM=>Tr.gC _ _ om)).ok (nX _) (by rw[ad];have:=qf (f:=.step o) J;omega)),fun x hx=>(qY (f:=.step o) J x (ad▸hx)).mono ar⟩ (fun g hg=>by have:=vy (ad▸hg:g∈qx (.step o));have:=hk _ (List.mem_of_getElem? I);omega)).mono ?_)))
        rintro _ c_ db ⟨⟨aw,bV,bX,rfl,aG,a6⟩,cZ,bO⟩
        rw[ad]at aG
        have aU:=ar.trans bO
        have cy:aw=true↔(aw=true):=Iff.rfl
        obtain⟨b9,cb,cz⟩:=nN cy
        refine WO.cons (WC.k_ (x:=.bool false) (g:=aaj (.tmp 73)) rfl kr rfl (WC.val 80 (.bool b9) (fun _ _ _=>by subst cb;kernel_rfl)<|oN 1<|cq cz (fun cF=>?_) (fun cF=>?_)))
        ·
         refine sr<|oW 1 ⟨rfl,rfl,[.bool false],kr,?_⟩
         exact⟨⟨_,_,_,rfl,((zr hk aB).trans (az.trans (xb I ((wR (by assumption:¬nw o.jc) (af.symm.trans (by rw[show U=true from(Classical.not_not.1 (by assumption:¬¬(U=true)))]))).trans ((wi om).trans (aG.symm.trans (by rw[show aw=false from Bool.eq_false_iff.2 (by assumption)]))))))).symm,a6⟩,od,aU⟩
        ·
         refine WP.skip<|WP.region<|ov 82 (iN (.ofNat (R+1))) ?_ (fun _ _ _=>by rw[<-gU (show R+1<9223372036854775808 by omega)];kernel_rfl)
         refine oN 1<|⟨l.l.length-(R+1),om,rfl,rfl,R+1,bV,bX,om,kr,?_,?_,?_,?_⟩
         · exact od
         · exact aU
         · exact a6
         · exact az.trans (He I ((wR (by assumption:¬nw o.jc) (af.symm.trans (by rw[show U=true from(Classical.not_not.1 (by assumption:¬¬(U=true)))]))).trans ((wi om).trans (aG.symm.trans (by rw[show aw=true from(Classical.not_not.1 (by assumption:¬¬(aw=true)))])))))
     |false=>
      have dy:¬(¬(nw o.jc)):=nf bD
      refine oN 4<|WP.cond false kr (fun bt=>by cases bt) (fun bt=>?_)
      refine WP.skip<|sr<|oX 3<|oZ C 0 (iN (gD .i64 ((aa)+(1)))) fP ai rfl ?_
      refine oq 65 (nz 64 (gD .i64 ((aa)+(1)))) fun ax cA=>oX 1<|gF 66 ax (pt C 0)<|gF 66 ax (pt C 0)<|gF 66 ax (pt C (0+1))<|pj 66 ax C (0+1) (iN ab) fP ai rfl ?_
      refine mX 66 ax (nz 256 ab) fun df cB=>?_
      refine mj 72 (nO cA cB) fun aN bG=>oX 1<|gF 73 aN (pt C 0)<|gF 73 aN (.iface 469 (.agg (ju o).toArray)) ?_
      cases aN with
      |true=>
       have dz:=(bG).1 rfl
       refine oN 6<|WP.cond true kr (fun bu=>?_) (fun bu=>by cases bu)
       refine sr<|oW 1 ⟨rfl,rfl,[.bool false],kr,?_⟩
       exact⟨⟨_,_,_,rfl,((zr hk aB).trans (az.trans (xb I ((B6 (Classical.not_not.1 (by assumption:¬¬nw o.jc))).trans (yg om))))).symm,ai⟩,od,ao⟩
      |false=>
       have dA:¬(((64)<(gD .i64 ((aa)+(1))))\/((256)<(ab))):=nf bG
       refine WO.cons (WC.k_ (x:=.bool false) (g:=aaj (.tmp 73)) rfl kr rfl (WC.call 76 418 ([.agg (ju o).toArray]) kf ((yb o bj (ak) (J.mono ao).un).mono ?_)))
       rintro _ bl bp ⟨aL,rfl,ae,aX,c0,bf⟩
       have au:=ao.trans (bf.er (b:=C))
       have cI:jt ma 1 (fun hp nx y=>mb hp nx y) bl (bp) aL:=⟨aX.ok (nX _) (by rw[ae];have:=qf (f:=.step o) ((J.mono au).un);omega),fun x hx=>qY (f:=.step o) ((J.mono au).un) x (ae▸hx)⟩
       refine oX 2<|WO.cons (WC.k_ (x:=.bool false) (g:=aaj (.tmp 73)) rfl kr rfl (WC.call 79 280 ([pt C 0,aL.v,iN (gD .i64 ((d)+(1)))]) kf ((ih (k-1) (by have:=hk _ (List.mem_of_getElem? I);omega) aL C (gD .i64 ((aa)+(1))) (ab) (gD .i64 ((d)+(1))) bl (bp) (bf.get ai) om ⟨((aX.r_ (fun q cM=>Tr.gC _ _ om)).ok (nX _) (by rw[ae];have:=qf (f:=.step o) J;omega)),fun x hx=>(qY (f:=.step o) J x (ae▸hx)).mono au⟩ (fun g hg=>by have:=vy (ae▸hg:g∈qx (.step o));have:=hk _ (List.mem_of_getElem? I);omega)).mono ?_)))
       rintro _ da dc ⟨⟨ay,bW,bY,rfl,aH,a7⟩,c3,bP⟩
       rw[ae]at aH
       have aV:=au.trans bP
       have cC:ay=true↔(ay=true):=Iff.rfl
       obtain⟨b_,cc,cD⟩:=nN cC
       refine WO.cons (WC.k_ (x:=.bool false) (g:=aaj (.tmp 73)) rfl kr rfl (WC.val 80 (.bool b_) (fun _ _ _=>by subst cc;kernel_rfl)<|oN 1<|cq cD (fun cG=>?_) (fun cG=>?_)))
       ·
        refine sr<|oW 1 ⟨rfl,rfl,[.bool false],kr,?_⟩
        exact⟨⟨_,_,_,rfl,((zr hk aB).trans (az.trans (xb I ((B6 (Classical.not_not.1 (by assumption:¬¬nw o.jc))).trans ((wi om).trans (aH.symm.trans (by rw[show ay=false from Bool.eq_false_iff.2 (by assumption)]))))))).symm,a7⟩,od,aV⟩
       ·
        refine WP.skip<|WP.region<|ov 82 (iN (.ofNat (R+1))) ?_ (fun _ _ _=>by rw[<-gU (show R+1<9223372036854775808 by omega)];kernel_rfl)
        refine oN 1<|⟨l.l.length-(R+1),om,rfl,rfl,R+1,bW,bY,om,kr,?_,?_,?_,?_⟩
        · exact od
        · exact aV
        · exact a7
        · exact az.trans (He I ((B6 (Classical.not_not.1 (by assumption:¬¬nw o.jc))).trans ((wi om).trans (aH.symm.trans (by rw[show ay=true from(Classical.not_not.1 (by assumption:¬¬(ay=true)))])))))
   ·
    refine WP.exit<|sr<|oW 1 ⟨rfl,rfl,[.bool true],kr,?_⟩
    exact⟨⟨_,_,_,rfl,(by rw[zr hk aB,az,List.drop_eq_nil_of_le om];rfl),aR⟩,od,aA⟩
  ·
   exact⟨0,a,b,om,kr,Nat.le_refl _,hE,hb,rfl⟩
theorem Yq(k:Nat):∀(l:SV j6) (o:Nat) (a b d:Int) (hp:Ht) (nx:Nat),hp.get o=some (.cells [iN a,iN b] gl.plain)->o<nx->jt ma 1 (fun hp nx y=>mb hp nx y) (hp.set o none) nx l->(∀f∈l.l,xp f<k)->WF ex 280 [pt o 0,l.v,iN d] hp nx (fun v fe fg=>(∃(c:Bool) (a' b':Int),v=.bool c/\(c,a',b')=Be k l.l a b d/\fe.get o=some (.cells [iN a',iN b'] gl.plain))/\nx<=fg/\HE nx (hp.set o none) (fe.set o none)):=by
 induction k with
 |zero=>intro l o a b d hp nx hb jz hl hk;exact Pa 0 (fun j h=>by omega) l o a b d hp nx hb jz hl hk
 |succ k ih=>intro l o a b d hp nx hb jz hl hk;exact Pa (k+1) (fun j h=>by obtain rfl:j=k:=om;exact ih) l o a b d hp nx hb jz hl hk
theorem Uu(l:SV j6)(hp:Ht)(nx:Nat)(hl:jt ma 1 (fun hp nx y=>mb hp nx y) hp nx l):WF ex 200 [l.v] hp nx (fO nx hp (fun v=>v=iN (qg l.l))):=by
 obtain⟨a1,c2,hR⟩:=hl.1.shape
 have lW:=hl.1.2.2
 rw[hR]
 refine wd Tryz.f200 17 [.tmp 2] fun hE=>sr<|oN 1<|sr<|oX 1<|oB (.agg ⟨[iN 0,iN 0]⟩) [iN 0,iN 0] fun Bz qm vu=>?_
 have CE:=hE.trans qm nR
 have zJ:=Nat.le_trans nR (Nat.le_succ (nx))
 refine oN 1<|WP.seq<|sr<|oX 2<|WO.cons (WC.call 8 280 ([pt nx 0,l.v,iN 0]) (fun _ _ _=>by(try rw[hR]);kernel_rfl) ((Yq (Nq l.l) l (nx) (0) (0) (0) Bz (nx+1) vu (Nat.lt_succ_self (nx)) (hl.mono (fun _ h he hn=>h.mono he hn) (CE.trans (HE.set _ _ (show nx<=nx by omega)) nR) zJ) (Sm _)).mono ?_))
 rintro _ A9 vz ⟨⟨sF,al,an,rfl,I,ai⟩,Nd,yT⟩
 have o:=CE.trans (show HE nx _ _ from fun q au=>yT.ZX om om) nR
 have j:=Nat.le_trans zJ Nd
 have af:sF=true↔(sF=true):=Iff.rfl
 refine oq 9 (nN af) fun EJ Cy=>WO.nil<|cq Cy (fun ab=>?_) (fun ab=>?_)
 ·
  refine sr<|oW 1 ⟨rfl,rfl,[iN 2],kr,?_⟩
  exact⟨congrArg (Value.int .i64) (show qg l.l=2 from Wf I ab).symm,j,o⟩
 ·
  refine WP.skip<|WP.seq<|sr<|oX 2 ?_
  refine oq 12 (w5 l.l.length 0) fun C aa=>oX 1<|gF 13 C (.slice a1 (l.l.length) c2)<|WO.cons (WC.gq (!C) (GB (!C) (∃x∈l.l,(fun x=>¬qK x) x) (vz) A9) (.bool C) (g:=aaj (.tmp 13)) rfl kr (by cases C<;>rfl) (fun h=>by obtain rfl:C=false:=(by simpa using h);have av:¬(((l.l.length:Nat):Int)=(0)):=(fun k=>absurd ((aa).2 k) (by decide));exact WC.call 15 281 ([l.v,.func (.func 282) #[] #[]]) (fun _ _ _=>by(try rw[hR]);kernel_rfl) ((rZ (A:=fun x=>¬qK x) l 282 #[] A9 (vz) (hl.mono (fun _ h he hn=>h.mono he hn) o j) (fun i x hx fe fg hn he=>yh x fe fg (((hl.mono (fun _ h he hn=>h.mono he hn) o j).2 x (List.mem_of_getElem? hx)).mono he hn) (Ut x fe fg (((hl.mono (fun _ h he hn=>h.mono he hn) o j).2 x (List.mem_of_getElem? hx)).mono he hn)))).mono fun v fe fg ⟨⟨c,ak,hc⟩,hn,he⟩=>⟨_,_,_,rfl,⟨c,ak,hc⟩,hn,he⟩)) (fun h=>GB.off h) ?_)
  rintro _ aj ao ⟨⟨aq,rfl,ag⟩,ae,ad⟩
  have J:=o.trans ad j
  have R:=Nat.le_trans j ae
  refine mj 16 (nO aa ag) fun ar ah=>WO.nil<|cq ah (fun U=>?_) (fun U=>?_)
  ·
   refine sr<|oW 1 ⟨rfl,rfl,[iN 71],kr,?_⟩
   exact⟨congrArg (Value.int .i64) (show qg l.l=71 from Us I (Classical.not_not.1 (by assumption:¬¬(sF=true))) U).symm,R,J⟩
  ·
   refine WP.skip<|sr<|oW 1 ⟨rfl,rfl,[iN 0],kr,?_⟩
   exact⟨congrArg (Value.int .i64) (show qg l.l=0 from Wg I (Classical.not_not.1 (by assumption:¬¬(sF=true))) U).symm,R,J⟩
theorem Wh(l:SV RStep)(hp:Ht)(nx:Nat)(hl:jt ju 8 (fun hp nx y=>j4 hp nx y) hp nx l)(hlen:l.l.length<=2932031007403):WF ex 99 [l.v] hp nx (fO nx hp (fun v=>v=iN (qg (l.l.map .step)))):=by
 obtain⟨a1,c2,hR⟩:=hl.1.shape
 have lW:=hl.1.2.2
 rw[hR]
 refine wd Tryz.f99 6 [.tmp 2] fun hE=>sr<|oN 1<|sr<|oX 1<|WO.cons (WC.call 4 201 ([l.v]) (fun _ _ _=>by(try rw[hR]);kernel_rfl) ((G7 l hp (nx) (hl.mono (fun _ h he hn=>h.mono he hn) hE) hlen).mono ?_))
 rintro _ DP Ie ⟨J,rfl,j,R,ME,qm⟩
 have o:=hE.trans qm
 have C:jt ma 1 (fun hp nx y=>mb hp nx y) DP (Ie) J:=⟨R.ok (nX _) (by rw[j,List.length_map];omega),fun x hx=>by
  rw[j]at hx;obtain⟨y,hy,rfl⟩:=List.mem_map.1 hx
  exact(hl.2 y hy).mono o⟩
 refine WO.cons (WC.call 5 200 ([J.v]) kf ((Uu J DP (Ie) C).mono ?_))
 rintro _ aa ab ⟨rfl,U,I⟩
 refine oW 1 ⟨rfl,rfl,[iN (qg J.l)],kr,?_⟩
 exact⟨congrArg (fun q=>Value.int .i64 (qg q)) j,od,(o.trans I)⟩
end
end Sw
