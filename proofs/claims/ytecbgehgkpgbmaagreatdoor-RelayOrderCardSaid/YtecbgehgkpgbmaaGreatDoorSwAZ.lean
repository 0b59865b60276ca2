/- A part of the proof that the law returns true for every input that its row speaks of. No condition is added. -/
import Derived.Test.YtecbgehgkpgbmaaGreatDoorSwAI
import Derived.Shelf.Strings.Search1
import Derived.Shelf.Strings.Search2
import Derived.Shelf.Strings.Search3
import Derived.Shelf.LaysM
import Derived.Shelf.Strings.Shaped
import Derived.Shelf.Bits.Mul64
import Derived.Shelf.SlSortCmp.NoneTotal
import Derived.Test.YtecbgehgkpgbmaaGreatDoorProg
import Derived.Test.YtecbgehgkpgbmaaGreatDoorSwAG
import Derived.Test.YtecbgehgkpgbmaaGreatDoorSwAO
import Derived.Test.YtecbgehgkpgbmaaGreatDoorSwAP
import Derived.Test.YtecbgehgkpgbmaaGreatDoorSwAQ
import Derived.Test.YtecbgehgkpgbmaaGreatDoorSwAR
import Derived.Test.YtecbgehgkpgbmaaGreatDoorSwAS
import Derived.Test.YtecbgehgkpgbmaaGreatDoorSwAT
import Derived.Test.YtecbgehgkpgbmaaGreatDoorSwAU
import Derived.Test.YtecbgehgkpgbmaaGreatDoorSwAV
import Derived.Test.YtecbgehgkpgbmaaGreatDoorSwAW
import Derived.Test.YtecbgehgkpgbmaaGreatDoorSwAX
import Derived.Test.YtecbgehgkpgbmaaGreatDoorSwAY
import Derived.KernelRfl
import Derived.LaidLaws
import Derived.SevenTiedAt
import Derived.JoinedOf
import Derived.Lay
namespace Sw
noncomputable section
open Go Go.Proofs Go.RowKit
set_option maxRecDepth 100000
set_option maxHeartbeats 1600000
theorem Kx(x:Int)(hp:Ht)(nx:Nat):WF e0 133 [iN x] hp nx (fO nx hp (gk False)):=by
 refine wd Tryz.f133 6 [.tmp 2] fun hE=>sr<|oN 1<|sr<|oX 2 ?_
 refine oq 5 (qW x x) fun c1 p1=>oW 1 ⟨rfl,rfl,[.bool c1],kr,?_⟩
 refine⟨⟨c1,rfl,?_⟩,nR,hE⟩
 exact p1.trans (by simp)
theorem Gh(x y:Int)(hp:Ht)(nx:Nat):WF e0 82 [iN x,iN y] hp nx (fO nx hp (C8 (jj x y))):=by
 refine wd Tryz.f82 20 [.tmp 4] fun hE=>sr<|oN 1<|sr<|oX 1<|oD 8 (Kx (x) hp (nx)) fun ag ab C oG ad iY=>?_
 refine oN 1<|sr<|oX 1<|oD 10 (Kx (y) C (oG)) fun ow sj ae af aa o=>?_
 have j:=(hE.trans iY).trans o
 refine oN 1<|WP.seq<|sr<|oN 1<|cq ab (fun I=>?_) (fun I=>?_)
 ·
  refine WP.seq<|sr<|oN 1<|cq sj (fun J=>?_) (fun J=>?_)
  ·
   refine sr<|oW 1 ⟨rfl,rfl,[iN 0],kr,?_⟩
   refine⟨?_,od,j⟩
   show Value.int .i64 (0)=iN (jj x y)
   congr 1;unfold jj;split<;>(try split)<;>first|(exfalso;assumption)|omega
  ·
   refine WP.skip<|sr<|oW 1 ⟨rfl,rfl,[iN (-1)],kr,?_⟩
   refine⟨?_,od,j⟩
   show Value.int .i64 (-1)=iN (jj x y)
   congr 1;unfold jj;split<;>(try split)<;>first|(exfalso;assumption)|omega
 ·
  refine WP.skip<|WP.seq<|sr<|oN 1<|cq sj (fun R=>?_) (fun R=>?_)
  ·
   refine sr<|oW 1 ⟨rfl,rfl,[iN 1],kr,?_⟩
   refine⟨?_,od,j⟩
   show Value.int .i64 (1)=iN (jj x y)
   congr 1;unfold jj;split<;>(try split)<;>first|(exfalso;assumption)|omega
  ·
   refine WP.skip<|WP.seq<|sr<|oX 2 ?_
   refine oq 16 (nz x y) fun sk vp=>WO.nil<|cq vp (fun U=>?_) (fun U=>?_)
   ·
    refine sr<|oW 1 ⟨rfl,rfl,[iN (-1)],kr,?_⟩
    refine⟨?_,od,j⟩
    show Value.int .i64 (-1)=iN (jj x y)
    congr 1;unfold jj;split<;>(try split)<;>first|(exfalso;assumption)|omega
   ·
    refine WP.skip<|WP.seq<|sr<|oX 2 ?_
    refine oq 19 (nz y x) fun uB uC=>WO.nil<|cq uC (fun xU=>?_) (fun xU=>?_)
    ·
     refine sr<|oW 1 ⟨rfl,rfl,[iN 1],kr,?_⟩
     refine⟨?_,od,j⟩
     show Value.int .i64 (1)=iN (jj x y)
     congr 1;unfold jj;split<;>(try split)<;>first|(exfalso;assumption)|omega
    ·
     refine WP.skip<|sr<|oW 1 ⟨rfl,rfl,[iN 0],kr,?_⟩
     refine⟨?_,od,j⟩
     show Value.int .i64 (0)=iN (jj x y)
     congr 1;unfold jj;split<;>(try split)<;>first|(exfalso;assumption)|omega
theorem UJ:e0.T.ji 42=some (.slice 3):=kr
theorem UK:e0.T.size 3=some 1:=kr
theorem tU:e0.T.agg 3=some false:=kr
theorem XP(K:SV Int)(hp:Ht)(nx:Nat)(hK:gA encI 1 hp nx K):WF e0 81 [K.v] hp nx (fO nx hp (Jg K.l)):=by
 obtain⟨a1,c2,hR⟩:=hK.shape
 have lW:=hK.2.2
 rw[hR]
 refine wd Tryz.f81 18 [.tmp 2] fun hE=>sr<|oN 1<|sr<|oN 1<|WP.seq<|sr<|oN 3<|WP.block ?_
 refine my [3,6,7,8] (fun m hs ns vs=>∃(fV:Nat),fV+m=K.l.length/\vs=[iN 0,.slice a1 (K.l.length) c2,iN (.ofNat (K.l.length)),iN (.ofNat fV)]/\nx<=ns/\HE (nx) hp hs/\(∀(j:Nat) (y:Int),j<fV->K.l[j]?=some y->y=0)) ?_ (K.l.length) ?_
 ·
  rintro xn pT ja _ ⟨fV,tP,rfl,oe,jm,hinv⟩ tQ
  have j2:=hE.trans jm
  refine sr ?_
  refine oq 9 (kV fV K.l.length) fun nC rH=>WO.nil<|WP.seq<|cq rH (fun wQ=>?_) (fun wQ=>?_)
  ·
   refine WP.skip<|WP.seq<|WP.block<|sr ?_
   have mY:fV<K.l.length:=by omega
   refine WO.cons (WC.iy hR hK (fV) UJ UK (mY) ?_)
   obtain⟨lu,ku⟩:=gE mY
   refine WO.cons (WC.lz (iN lu) hR (hK.mono j2 nR) ku rfl tU<|oN 1<|sr<|oX 2 ?_)
   refine oq 14 (qW lu 0) fun I C=>WO.nil<|cq C (fun o=>?_) (fun o=>?_)
   ·
    refine sr<|oW 2 ⟨rfl,rfl,[iN lu],kr,?_⟩
    exact⟨.inr ⟨_,lu,rfl,ku,o,hinv⟩,od,j2⟩
   ·
    refine WP.skip<|WP.region<|ov 16 (iN (.ofNat (fV+1))) ?_ (fun _ _ _=>by rw[<-gU (show fV+1<9223372036854775808 by omega)];kernel_rfl)
    refine oN 1<|⟨K.l.length-(fV+1),om,rfl,rfl,fV+1,om,kr,?_,?_,?_⟩
    · exact oe
    · exact jm
    · intro j y hj hy;rcases Nat.lt_succ_iff_lt_or_eq.1 hj with hj|rfl;exact hinv j y hj hy;rw[ku]at hy;cases hy;exact Decidable.not_not.1 o
  ·
   refine WP.exit<|sr<|oW 2 ⟨rfl,rfl,[iN 0],kr,?_⟩
   refine⟨.inl ⟨rfl,fun y hy=>?_⟩,od,j2⟩
   obtain⟨j,hj⟩:=List.getElem?_of_mem hy
   exact hinv j y (by have:=(List.getElem?_eq_some_iff.1 hj).1;omega) hj
 ·
  exact⟨0,om,kr,Nat.le_refl _,HE.refl _ _,(fun j y h=>absurd h (Nat.not_lt_zero _))⟩
theorem SM(a b:fT)(hp:Ht)(nx:Nat):WF e0 117 [.agg (fo a).toArray,.agg (fo b).toArray] hp nx (fO nx hp (C8 (wu a b))):=by
 refine wd Tryz.f117 17 [.tmp 4] fun hE=>sr<|oB (.agg (fo a).toArray) (fo a) fun jN iY iA=>?_
 refine oB (.agg (fo b).toArray) (fo b) fun ah J o=>?_
 have C:=J.get iA
 refine oN 1<|WP.seq<|WP.sM [⟨[0,1,2,3,5,6,7,8],[0,1,2,3,5,6,7,8],some 4⟩,⟨[],[5,6,7,8],some 9⟩,⟨[10],[10],some 11⟩,⟨[],[],some 12⟩,⟨[],[],none⟩] kr _ rfl<|WD.ln<|nv 5 (pt nx 0)<|WN.ic rfl (WC.jX nx 0 (iN a.h_) kr tU C rfl<|nv 7 (pt (nx+1) 0)<|WN.ic rfl (WC.jX (nx+1) 0 (iN b.h_) kr tU o rfl<|nv 10 (pt nx (0+1))<|WN.ic rfl (WC.jX nx (0+1) (iN a.hQ) kr tU C rfl<|nv 12 (pt (nx+1) (0+1))<|WN.ic rfl (WC.jX (nx+1) (0+1) (iN b.hQ) kr tU o rfl<|WN.nil ⟨?_,?_⟩))))
 ·
  refine cv (pt nx 0) (iW ..)<|qe nx 0 (iN a.h_) tU C rfl (iQ ..)<|cv (pt (nx+1) 0) (iW ..)<|qe (nx+1) 0 (iN b.h_) tU o rfl (iQ ..)<|cv (pt nx (0+1)) (iW ..)<|qe nx (0+1) (iN a.hQ) tU C rfl (iQ ..)<|cv (pt (nx+1) (0+1)) (iW ..)<|qe (nx+1) (0+1) (iN b.hQ) tU o rfl (iQ ..) ?_
  exact jh.nil
 refine WC.at rfl (WC.call 9 82 ([iN a.h_,iN b.h_]) kf ((Gh (a.h_) (b.h_) ah (nx+1+1)).mono ?_))
 rintro _ ae ag ⟨rfl,xV,jQ⟩
 refine WD.ln<|WN.nil ⟨?_,?_⟩
 ·
  refine cv (pt nx (0+1)) (iW ..)<|qe nx (0+1) (iN a.hQ) tU (jQ.get C) rfl (iQ ..)<|cv (pt (nx+1) (0+1)) (iW ..)<|qe (nx+1) (0+1) (iN b.hQ) tU (jQ.get o) rfl (iQ ..) ?_
  exact jh.nil
 refine WC.at rfl (WC.call 14 82 ([iN a.hQ,iN b.hQ]) kf ((Gh (a.hQ) (b.hQ) ae (ag)).mono ?_))
 rintro _ af j ⟨rfl,ai,aa⟩
 refine WD.ln<|WN.ic rfl (WC.buildSlice [iN (jj (a.h_) (b.h_)),iN (jj (a.hQ) (b.hQ))] rfl kr ?_)
 obtain⟨R,U,ab,I⟩:=boxed af (j) [iN (jj (a.h_) (b.h_)),iN (jj (a.hQ) (b.hQ))]
 rw[U];clear U
 refine WN.nil ⟨?_,?_⟩
 ·
  refine jh.new j (.slice (some ⟨j,0,none⟩) (2) 2) [iN (jj (a.h_) (b.h_)),iN (jj (a.hQ) (b.hQ))] (fun _=>by kernel_rfl) I (qT ..) (by simp[ub,iQ,jd,xm,xk]) ?_
  exact jh.nil
 refine WC.at rfl (WC.call 16 81 ([.slice (some ⟨j,0,none⟩) (2) 2]) kf (((XP (⟨.slice (some ⟨j,0,none⟩) 2 2,[jj (a.h_) (b.h_),jj (a.hQ) (b.hQ)]⟩:SV Int) R (j+1) (gA.mO (enc:=encI) (by simp[encI]) I rfl (by decide) om (by simp):gA encI 1 R (j+1) (⟨.slice (some ⟨j,0,none⟩) 2 2,[jj (a.h_) (b.h_),jj (a.hQ) (b.hQ)]⟩:SV Int))).mono (fun v fe fg h=>(⟨Jg.two h.1,h.2.1,h.2.2⟩:fO _ _ (C8 (uA (jj (a.h_) (b.h_)) (jj (a.hQ) (b.hQ)))) v fe fg))).mono ?_))
 rintro _ ak al ⟨rfl,aj,ad⟩
 refine WD.ln<|WN.nil ⟨?_,?_⟩
 ·
  exact jh.nil
 refine WC.at rfl (WC.val 4 (iN (uA (jj (a.h_) (b.h_)) (jj (a.hQ) (b.hQ)))) kf<|WD.last<|WN.nil ⟨?_,?_⟩)
 ·
  exact jh.nil
 refine WP.ret ⟨rfl,rfl,[iN (uA (jj (a.h_) (b.h_)) (jj (a.hQ) (b.hQ)))],kr,?_⟩
 refine⟨?_,od,((((((hE.trans iY).trans J).trans jQ).trans aa).trans ab).trans ad)⟩
 show Value.int .i64 (uA (jj (a.h_) (b.h_)) (jj (a.hQ) (b.hQ)))=iN (wu a b)
 rfl
end
end Sw
namespace Go.Proofs
open Go.Shelf
def Tryz.Oz:Go.Shelf.Ren:=⟨fun|144=>348|143=>416|219=>448|217=>463|225=>464|224=>465|267=>466|266=>474|314=>475|n=>n,fun|9=>9|4=>4|3=>3|5=>5|46=>416|146=>502|51=>499|n=>n,fun|1=>11|n=>n⟩
theorem Tryz.Wq:Go.Proofs.Lays.n144 Tryz.prog Tryz.Oz:={
 mixed:=by kernel_rfl
 f143:=Tryz.func416.trans (congrArg some (by kernel_rfl))
 f144:=Tryz.func348.trans (congrArg some (by kernel_rfl))
 f217:=Tryz.func463.trans (congrArg some (by kernel_rfl))
 f219:=Tryz.func448.trans (congrArg some (by kernel_rfl))
 f224:=Tryz.func465.trans (congrArg some (by kernel_rfl))
 f225:=Tryz.func464.trans (congrArg some (by kernel_rfl))
 f266:=Tryz.func474.trans (congrArg some (by kernel_rfl))
 f267:=Tryz.func466.trans (congrArg some (by kernel_rfl))
 f314:=Tryz.func475.trans (congrArg some (by kernel_rfl))
 t3:=Tryz.underlying3
 a3:=Tryz.isAgg3
 z3:=Tryz.sizeOf3
 v3:=Tryz.zeroValue3
 t4:=Tryz.underlying4
 a4:=Tryz.isAgg4
 z4:=Tryz.sizeOf4
 v4:=Tryz.zeroValue4
 t5:=Tryz.underlying5
 a5:=Tryz.isAgg5
 z5:=Tryz.sizeOf5
 v5:=Tryz.zeroValue5
 t9:=Tryz.underlying9
 a9:=Tryz.isAgg9
 z9:=Tryz.sizeOf9
 v9:=Tryz.zeroValue9
 t46:=Tryz.underlying416
 a46:=Tryz.isAgg416
 z46:=Tryz.sizeOf416
 v46:=Tryz.zeroValue416
 t51:=Tryz.underlying499
 a51:=Tryz.isAgg499
 z51:=Tryz.sizeOf499
 v51:=Tryz.zeroValue499
 t146:=Tryz.underlying502
 a146:=Tryz.isAgg502
 z146:=Tryz.sizeOf502
 v146:=Tryz.zeroValue502
 g1:=by kernel_rfl}
open Go.RowKit Go.Lib in
theorem Tryz.strings_Contains(s sub:ByteArray)(m:Int)(w:World)(hs:s.size<4294967281)(hm:w.cell? ⟨11,0,none⟩=some (.int .i64 m)):
 Calls Tryz.prog 348 #[.string s,.string sub] w fun e w'=>e=.returned (.bool (Lib.contains s.data.toList sub.data.toList))/\w'=w:=Any.strings_Contains Tryz.Wq s sub m w hs hm
def Tryz.SN:Go.Shelf.Ren:=⟨fun|6=>209|15=>221|14=>285|28=>303|29=>304|20=>359|21=>360|22=>361|23=>362|24=>363|25=>364|26=>365|27=>366|46=>419|47=>383|48=>384|49=>420|50=>421|57=>450|n=>n,fun|22=>48|24=>104|25=>263|3=>3|39=>416|0=>0|53=>499|55=>501|4=>4|46=>493|45=>492|50=>60|5=>5|9=>9|66=>571|70=>401|76=>616|77=>178|n=>n,fun|n=>n⟩
theorem Tryz.Vq:Go.Proofs.SlLaysF0.n6 Tryz.prog Tryz.SN:={
 mixed:=by kernel_rfl
 f6:=⟨Tryz.f209.name,by decide,Tryz.func209.trans (congrArg some (by kernel_rfl))⟩
 f14:=⟨Tryz.f285.name,by decide,Tryz.func285.trans (congrArg some (by kernel_rfl))⟩
 f15:=Tryz.func221.trans (congrArg some (by kernel_rfl))
 f20:=⟨Tryz.f359.name,by decide,Tryz.func359.trans (congrArg some (by kernel_rfl))⟩
 f21:=⟨Tryz.f360.name,by decide,Tryz.func360.trans (congrArg some (by kernel_rfl))⟩
 f22:=⟨Tryz.f361.name,by decide,Tryz.func361.trans (congrArg some (by kernel_rfl))⟩
 f23:=⟨Tryz.f362.name,by decide,Tryz.func362.trans (congrArg some (by kernel_rfl))⟩
 f24:=⟨Tryz.f363.name,by decide,Tryz.func363.trans (congrArg some (by kernel_rfl))⟩
 f25:=⟨Tryz.f364.name,by decide,Tryz.func364.trans (congrArg some (by kernel_rfl))⟩
 f26:=⟨Tryz.f365.name,by decide,Tryz.func365.trans (congrArg some (by kernel_rfl))⟩
 f27:=⟨Tryz.f366.name,by decide,Tryz.func366.trans (congrArg some (by kernel_rfl))⟩
 f28:=Tryz.func303.trans (congrArg some (by kernel_rfl))
 f29:=Tryz.func304.trans (congrArg some (by kernel_rfl))
 f46:=⟨Tryz.f419.name,by decide,Tryz.func419.trans (congrArg some (by kernel_rfl))⟩
 f47:=Tryz.func383.trans (congrArg some (by kernel_rfl))
 f48:=Tryz.func384.trans (congrArg some (by kernel_rfl))
 f49:=⟨Tryz.f420.name,by decide,Tryz.func420.trans (congrArg some (by kernel_rfl))⟩
 f50:=⟨Tryz.f421.name,by decide,Tryz.func421.trans (congrArg some (by kernel_rfl))⟩
 f57:=⟨Tryz.f450.name,by decide,Tryz.func450.trans (congrArg some (by kernel_rfl))⟩
 t0:=Tryz.underlying0
 a0:=Tryz.isAgg0
 z0:=Tryz.sizeOf0
 v0:=Tryz.zeroValue0
 t3:=Tryz.underlying3
 a3:=Tryz.isAgg3
 z3:=Tryz.sizeOf3
 v3:=Tryz.zeroValue3
 t4:=Tryz.underlying4
 a4:=Tryz.isAgg4
 z4:=Tryz.sizeOf4
 v4:=Tryz.zeroValue4
 t5:=Tryz.underlying5
 a5:=Tryz.isAgg5
 z5:=Tryz.sizeOf5
 v5:=Tryz.zeroValue5
 t9:=Tryz.underlying9
 a9:=Tryz.isAgg9
 z9:=Tryz.sizeOf9
 v9:=Tryz.zeroValue9
 t22:=Tryz.underlying48
 a22:=Tryz.isAgg48
 z22:=Tryz.sizeOf48
 v22:=Tryz.zeroValue48
 t25:=Tryz.underlying263
 a25:=Tryz.isAgg263
 z25:=Tryz.sizeOf263
 v25:=Tryz.zeroValue263
 t39:=Tryz.underlying416
 a39:=Tryz.isAgg416
 z39:=Tryz.sizeOf416
 v39:=Tryz.zeroValue416
 t45:=Tryz.underlying492
 a45:=Tryz.isAgg492
 z45:=Tryz.sizeOf492
 v45:=Tryz.zeroValue492
 t46:=Tryz.underlying493
 a46:=Tryz.isAgg493
 z46:=Tryz.sizeOf493
 v46:=Tryz.zeroValue493
 t50:=Tryz.underlying60
 a50:=Tryz.isAgg60
 z50:=Tryz.sizeOf60
 v50:=Tryz.zeroValue60
 t53:=Tryz.underlying499
 a53:=Tryz.isAgg499
 z53:=Tryz.sizeOf499
 v53:=Tryz.zeroValue499
 t55:=Tryz.underlying501
 a55:=Tryz.isAgg501
 z55:=Tryz.sizeOf501
 v55:=Tryz.zeroValue501
 t66:=Tryz.underlying571
 a66:=Tryz.isAgg571
 z66:=Tryz.sizeOf571
 v66:=Tryz.zeroValue571
 t70:=Tryz.underlying401
 a70:=Tryz.isAgg401
 z70:=Tryz.sizeOf401
 v70:=Tryz.zeroValue401
 t76:=Tryz.underlying616
 a76:=Tryz.isAgg616
 z76:=Tryz.sizeOf616
 v76:=Tryz.zeroValue616
 t77:=Tryz.underlying178
 a77:=Tryz.isAgg178
 z77:=Tryz.sizeOf178
 v77:=Tryz.zeroValue178}
end Go.Proofs
namespace Sw
noncomputable section
open Go Go.Proofs Go.RowKit Go.Sort
set_option maxRecDepth 100000
theorem Wr(a b:fT):WF e0 117 [.agg (fo a).toArray,.agg (fo b).toArray] .nil 12 (fun v _ _=>v=.int .i64 (wu a b)):=(SM a b .nil 12).mono fun _ _ _ h=>h.1
theorem Ws(gb off cap:Nat)(d:Array fT)(w:World)(hc:CmpLays Tryz.prog 117 #[] fo 2 wu gb off d.size w)(hH:HoldsK fo 2 w gb off d)(hb:gb<w.heap.size)(hs:d.size<4611686018427387904):Calls Tryz.prog 209 #[.slice (some ⟨gb,off,none⟩) d.size cap,.func (.func 117) #[] #[]] w fun C w'=>C=.returned (.tuple #[])/\∃n os,w'=sortWorldK fo 2 w gb off n (wO d.toList).toArray os:=by
 have o:∀args w,(callFunc 117 args).run Tryz.prog w=.ok (.enter 117 args) w:=enters_of Tryz.func117 (by kernel_rfl) rfl
 exact AnyQ.slices_SortFunc_total Tryz.Vq 2 Tryz.isAgg104 Tryz.sizeOf104 fo (fun _=>rfl) (fun x v j=>by
  simp only[fo,List.mem_cons,List.not_mem_nil,or_false]at j
  rcases j with rfl|rfl<;>rfl) wu VQ 117 #[] gb off cap d w o hc hH hb hs VR
theorem UL(p:Option Addr)(cap:Nat)(w:World):Calls Tryz.prog 209 #[.slice p 0 cap,.func (.func 117) #[] #[]] w fun j w'=>j=.returned (.tuple #[])/\w'=w:=AnyF.slices_SortFunc_none Tryz.Vq p cap _ w
end
end Sw
namespace Sw
noncomputable section
open Go Go.Proofs Go.RowKit
set_option maxRecDepth 100000
def IE(B0:Nat)(w0:World):Prop:=11<B0/\∃m,w0.cell? ⟨11,0,none⟩=some (.int .i64 m)
theorem NM:Ld IE:=fun B0 w0 w ⟨h1,m,h2⟩ hb hs=>⟨by omega,m,by rw[H9 hb h1];exact h2⟩
theorem SO:Kf.Ok Tryz.prog/\Kf.B9:=by
 have j:∀t i,Kf.info t=some i->i∈Tryz.types.toList/\has Cw t=true/\TT.get t=some i:=fun t i h=>by
  have h:(bif has Cw t then TT.get t else none)=some i:=h
  cases hm:has Cw t with
  |false=>rw[hm]at h;cases h
  |true=>
   rw[hm]at h
   have h:TT.get t=some i:=h
   have h2:=h
   rw[Qc,wK]at h2
   exact⟨List.mem_of_getElem? h2,rfl,h⟩
 have o:∀t i,TT.get t=some i->has Cw t=true->Mh i=true/\AQ Kf i=true:=fun t i h hm=>by
  have key:(Tryz.types.toList.zipIdx.all fun p=>!(has Cw p.2)||(Mh p.1&&AQ Kf p.1))=true:=by kernel_rfl
  rw[Qc,wK]at h
  have:=List.all_eq_true.1 key (i,t) (by rw[List.mem_zipIdx_iff_getElem?];exact h)
  simp only[hm,Bool.not_true,Bool.false_or,Bool.and_eq_true]at this
  exact this
 refine Ya (fun t i h=>?_) (fun t h=>?_)
 · obtain⟨h1,h2,h3⟩:=j t i h
   refine⟨?_,o t i h3 h2⟩
   have h4:=Xh t i h3
   have jz:t<Tryz.prog.types.size:=(Array.getElem?_eq_some_iff.1 h4).1
   show(if t<Tryz.prog.types.size then Tryz.prog.types[t]? else _)=_
   rw[if_pos jz];exact h4
 · have h:has Ib t=true:=h
   have jz:t<533:=Rz (m:=Ib) (N:=533) (by kernel_rfl) h
   have key:((List.range 533).all fun t=>!(has Ib t)||(!(Tryz.prog.stoodInHeld t)&&(!(Tryz.prog.eqGuardType Tryz.prog.depth t)&&(match Tryz.prog.underlying t with|some (.struct fs)=>fs.toList.all (·.name != "_")|_=>true))))=true:=by kernel_rfl
   have:=rO key jz
   simp only[h,Bool.not_true,Bool.false_or,Bool.and_eq_true,Bool.not_eq_true']at this
   refine⟨this.1,this.2.1,fun fs hu f hf=>?_⟩
   have h3:=this.2.2
   rw[hu]at h3
   have:=List.all_eq_true.1 h3 f hf
   simpa using this
theorem XQ(f:FuncId)(fn:Func)(h:Xk f=some fn):Tryz.prog.funcs[f]?=some fn/\zD 12 fn=true:=by
 have h:(bif has vl f then FT.get f else none)=some fn:=h
 cases hm:has vl f with
 |false=>rw[hm]at h;cases h
 |true=>
  rw[hm]at h
  have h:FT.get f=some fn:=h
  refine⟨Xi f fn h,?_⟩
  rw[Ve,wK]at h
  have jz:f<521:=by
   have h1:f<Tryz.funcs.toList.length:=(List.getElem?_eq_some_iff.1 h).1
   have h2:Tryz.funcs.toList.length=521:=by kernel_rfl
   rw[h2]at h1;exact h1
  have o:(fn,f)∈Tryz.funcs.toList.zipIdx:=by rw[List.mem_zipIdx_iff_getElem?];exact h
  have use:∀lo hi,(Tryz.funcs.toList.zipIdx.all fun p=>!(Nat.ble lo p.2&&Nat.blt p.2 hi)||(!(has vl p.2)||zD 12 p.1))=true->lo<=f->f<hi->zD 12 fn=true:=fun lo hi key h1 h2=>by
   have:=List.all_eq_true.1 key (fn,f) o
   simp only[hm,Nat.ble_eq_true_of_le h1,show Nat.blt f hi=true from Nat.ble_eq_true_of_le h2,Bool.and_true,Bool.not_true,Bool.false_or]at this
   exact this
  rcases Nat.lt_or_ge f 85 with h0|h0
  · exact use _ _ Zm (Nat.zero_le _) h0
  rcases Nat.lt_or_ge f 170 with h1|h1
  · exact use _ _ Zn (h0) h1
  rcases Nat.lt_or_ge f 255 with h2|h2
  · exact use _ _ Zo (h1) h2
  rcases Nat.lt_or_ge f 340 with h3|h3
  · exact use _ _ Zp (h2) h3
  rcases Nat.lt_or_ge f 425 with h4|h4
  · exact use _ _ Zq (h3) h4
  rcases Nat.lt_or_ge f 510 with j|j
  · exact use _ _ Zr (h4) j
  exact use _ _ Zs (j) jz
theorem XR(t:TypeId)(n:String)(f:FuncId)(h:Vg t n=some f):HX Kf t n f=true:=by
 unfold Vg at h
 cases hb:(Nat.beq t 469&&(n== "stopwatch/typing.parts"))with
 |true=>
  rw[hb]at h;cases h
  rw[Bool.and_eq_true]at hb
  obtain rfl:=beq_eq hb.1
  obtain rfl:n= "stopwatch/typing.parts":=by simpa using hb.2
  kernel_rfl
 |false=>
 rw[hb]at h
 simp only[cond_false]at h
 cases hb:(Nat.beq t 553&&(n== "stopwatch/typing.parts"))with
 |true=>
  rw[hb]at h;cases h
  rw[Bool.and_eq_true]at hb
  obtain rfl:=beq_eq hb.1
  obtain rfl:n= "stopwatch/typing.parts":=by simpa using hb.2
  kernel_rfl
 |false=>
 rw[hb]at h
 simp only[cond_false]at h
 cases h
theorem CQ(K:FuncId->Option IX):mE Tryz.prog 12 ⟨Kf,fun f=>(Xk f).bind Le,Vg,K,0⟩:=X_ SO.1 SO.2 XQ XR
theorem XS(B0:Nat)(w0:World)(hi:IE B0 w0):rW Tryz.prog 12 B0 w0 e0:=by
 intro f I h
 have h:(bif Nat.beq f 348 then some Fx else none)=some I:=h
 cases hb:Nat.beq f 348 with
 |false=>rw[hb]at h;cases h
 |true=>
  rw[hb]at h;cases h
  obtain rfl:=beq_eq hb
  refine⟨⟨Tryz.f348,_,Tryz.func348,rfl,by kernel_rfl⟩,fun l args hp nx g w H hg hl=>?_⟩
  by_cases j:∃a b,l=[.string a,.string b]
  · obtain⟨a,b,rfl⟩:=j
    cases jz:Nat.blt (strs a).length 4294967281 with
    |false=>exact .inr ⟨fun _ _=>.gm 0,fun cs k C=>by simp only[Fx,jz,cond_false],fun _=>tx.fail fun _ _=>rfl⟩
    |true=>
     refine .inr ⟨fun cs k=>k (.bool (Lib.contains (strs a) (strs b))) hp nx cs,fun cs k C=>by simp only[Fx,jz,cond_true],fun fs k=>.here (.inr ⟨_,hp,nx,fun cs=>rfl,?_⟩)⟩
     have o:args=#[.string a,.string b]:=by
      obtain⟨args⟩:=args
      match args,hl with
      |[x,y],hl=>
       have h1:=hl.head
       have h2:=hl.tail.head
       rw[h1.kS,h2.kS]
      |[],hl=>cases hl.1
      |[_],hl=>cases hl.1
      |_::_::_::_,hl=>cases hl.1
     subst o
     obtain⟨h1,m,h2⟩:=hi
     have hm:w.cell? ⟨11,0,none⟩=some (.int .i64 m):=by rw[H9 H.below.b h1];exact h2
     have hs:a.size<4294967281:=by
      have:=Nat.le_of_ble_eq_true jz
      have e:(strs a).length=a.size:=by unfold strs;rw[Array.length_toList];rfl
      rw[e]at this;exact this
     exact qk.MA H (.bool _) (Tryz.strings_Contains a b m w hs hm) fs
  · refine .inr ⟨fun _ _=>.gm 0,fun cs k C=>?_,fun _=>tx.fail fun _ _=>rfl⟩
    show(match l with|[.string a,.string b]=>_|_=>(.gm 0:WS (Nat×St)))=.gm 0
    split
    · rename_i a b;exact absurd ⟨a,b,rfl⟩ j
    · rfl
theorem Dz{e:Env}(ok:mE Tryz.prog 12 e)(mL:∀B0 w0,IE B0 w0->rW Tryz.prog 12 B0 w0 e){f:FuncId}{fn:Func}{c:Code}(o:Tryz.prog.funcs[f]?=some fn)(hb:fn.body=some c)(hn:(fn.name== "runtime.NumGoroutine")=false)
 {pS:List wB} (hold:∀I∈pS,∃n fuel,y8 12 e f n fuel I=true) (B0:Nat) (w0:World) (hi:IE B0 w0):
 rW Tryz.prog 12 B0 w0 {e with K:=fun x=>bif Nat.beq x f then some (xN 12 pS)else e.K x}:=by
 intro x C h
 have h:(bif Nat.beq x f then some (xN 12 pS)else e.K x)=some C:=h
 cases j:Nat.beq x f with
 |false=>rw[j]at h;exact mL B0 w0 hi x C h
 |true=>
  rw[j]at h;cases h
  obtain rfl:=beq_eq j
  exact⟨⟨fn,c,o,hb,hn⟩,fun l args hp nx g w H hg hl=>VI NM hi ok mL hold l args hp nx g w H hg hl⟩
theorem TI:∀B0 w0,IE B0 w0->rW Tryz.prog 12 B0 w0 e1:=
 Dz (CQ _) XS Tryz.func415 rfl (by kernel_rfl) fun j h=>by
  simp only[List.mem_cons,List.not_mem_nil,or_false]at h
  subst h
  exact⟨_,_,SL⟩
theorem Zt:∀B0 w0,IE B0 w0->rW Tryz.prog 12 B0 w0 e2:=
 Dz (CQ _) TI Tryz.func52 rfl (by kernel_rfl) fun j h=>by
  simp only[List.mem_cons,List.not_mem_nil,or_false]at h
  subst h
  exact⟨_,_,UI⟩
theorem Zu:∀B0 w0,IE B0 w0->rW Tryz.prog 12 B0 w0 e3:=
 Dz (CQ _) Zt Tryz.func44 rfl (by kernel_rfl) fun j h=>by
  simp only[List.mem_cons,List.not_mem_nil,or_false]at h
  subst h
  exact⟨_,_,QM⟩
theorem Zv:∀B0 w0,IE B0 w0->rW Tryz.prog 12 B0 w0 eS:=
 Dz (CQ _) Zu Tryz.func5 rfl (by kernel_rfl) fun j h=>by
  simp only[List.mem_cons,List.not_mem_nil,or_false]at h
  subst h
  exact⟨_,_,Yu⟩
theorem Zw:∀B0 w0,IE B0 w0->rW Tryz.prog 12 B0 w0 eT:=
 TH NM (fun B0 w0 h=>by have:=h.1;omega) (CQ _) XS Zv Tryz.func209 rfl (by kernel_rfl) Wr Ws UL
theorem Zx(B0:Nat)(w0:World)(hi:IE B0 w0):rW Tryz.prog 12 B0 w0 ex:=fun f j h=>by
 have h:(bif Nat.beq f 52||Nat.beq f 44 then none else eT.K f)=some j:=h
 cases hb:(Nat.beq f 52||Nat.beq f 44)with
 |true=>rw[hb]at h;cases h
 |false=>rw[hb]at h;exact Zw B0 w0 hi f j h
theorem Yv:mE Tryz.prog 12 ex:=CQ _
theorem XT{hp:Ht}{nx:Nat}(h:∀b o,(xM y4 .nil).get b=some o->hp.get b=some o):WF ex 5 [] hp nx (fO nx hp (gk True)):=VP (ng:=12) (by kernel_rfl) (by kernel_rfl) h
end
end Sw
namespace Sw
noncomputable section
open Go Go.RowKit Go.ChangeShapes
def ints(xs:List Int):List Value:=xs.map (.int .i64)
def numOf:Value->Int
 |.int _ z=>z
 |_=>0
theorem SP{H:Type}{enc:TypeId×Value->H}{P:Program}{w:World}{base:Nat}{spare:Nat->Bool}{held:Bool}{fuel:Nat}{t e:TypeId}{fs:Array Field}{cs:List Value}{x:DataW H×List MemPlace}(R:P.underlying t=some (.struct fs))(he:P.underlying e=some (.int .i64))(hc:P.cellsOf e=1)
 (hf:∀(i:Nat) (f:Field),fs[i]?=some f->f.type=e/\f.offset=i) (hn:P.cellsOf t=fs.size) (h:DataW.trod enc P w base spare held fuel t cs=some x):
 ∃j:List Int,j.length=fs.size/\cs=ints j/\x=(.agg (j.map fun z=>.lit (.int .i64 z)),[])/\∀z∈j,(Lit.int .i64 z).wf=true:=by
 obtain⟨xs,n,_,rfl,hl,hlen,hx⟩:=DataW.trod_struct R h
 have each:∀(i:Nat),i<fs.size->∃z,cs[i]?=some (.int .i64 z)/\xs[i]?=some (.lit (.int .i64 z),[])/\(Lit.int .i64 z).wf=true:=fun i hi=>by
  have o:=Array.getElem?_eq_getElem hi
  have h1:=hx i _ o
  obtain⟨h2,h3⟩:=hf i _ o
  rw[h2,h3,hc]at h1
  have I:cs[i]?=some (cs[i]'(by omega)):=List.getElem?_eq_getElem (by omega)
  have h4:(cs.drop i).take 1=[cs[i]'(by omega)]:=by
   rw[List.drop_eq_getElem_cons (by omega)];rfl
  rw[h4]at h1
  have C:xs[i]?=some (xs[i]'(by omega)):=List.getElem?_eq_getElem (by omega)
  rw[C]at h1
  cases n with
  |zero=>simp[DataW.trod]at h1
  |succ n=>
   generalize cs[i]'(by omega)=v at*
   unfold DataW.trod at h1
   rw[he]at h1
   cases v<;>simp only[reduceCtorEq]at h1
   rename_i k z
   split at h1
   · rename_i hk
     obtain⟨rfl,J⟩:=hk
     exact⟨z,I,by rw[C,<-h1],J⟩
   · cases h1
 have hl:cs.length=fs.size:=hl.trans hn
 have e1:cs=ints (cs.map numOf):=by
  refine List.ext_getElem? fun i=>?_
  rcases Nat.lt_or_ge i fs.size with hi|hi
  · obtain⟨z,h1,_⟩:=each i hi
    simp only[ints,List.getElem?_map,h1,Option.map_some,numOf]
  · rw[List.getElem?_eq_none (by omega),List.getElem?_eq_none (by rw[ints,List.length_map,List.length_map];omega)]
 have e2:xs=(cs.map numOf).map fun z=>(.lit (.int .i64 z),[]):=by
  refine List.ext_getElem? fun i=>?_
  rcases Nat.lt_or_ge i fs.size with hi|hi
  · obtain⟨z,h1,h2,_⟩:=each i hi
    simp only[List.getElem?_map,h1,h2,Option.map_some,numOf]
  · rw[List.getElem?_eq_none (by omega),List.getElem?_eq_none (by rw[List.length_map,List.length_map];omega)]
 refine⟨cs.map numOf,by rw[List.length_map,hl],e1,?_,fun z aa=>?_⟩
 · rw[e2]
   congr 1
   · rw[List.map_map];rfl
   · rw[List.flatMap_map];induction cs.map numOf with
     |nil=>rfl
     |cons a l ih=>simp
 · obtain⟨v,U,rfl⟩:=List.mem_map.1 aa
   obtain⟨i,hi,rfl⟩:=List.mem_iff_getElem.1 U
   obtain⟨z,h1,_,h3⟩:=each i (by omega)
   rw[List.getElem?_eq_getElem hi]at h1
   rw[Option.some.inj h1];exact h3
def Ph(j:TypeId)(fs:Array Field):Bool:=(List.range fs.size).all fun i=>match fs[i]? with
 |some f=>Nat.beq f.type j&&Nat.beq f.offset i
 |none=>false
theorem NN{j:TypeId}{fs:Array Field}(h:Ph j fs=true):∀(i:Nat) (f:Field),fs[i]?=some f->f.type=j/\f.offset=i:=fun i f hf=>by
 have:=List.all_eq_true.1 h i (List.mem_range.2 (Array.getElem?_eq_some_iff.1 hf).1)
 rw[hf]at this
 simp only[Bool.and_eq_true]at this
 exact⟨beq_eq this.1,beq_eq this.2⟩
def NO(P:Program)(j ts:TypeId):Bool:=(match P.underlying ts with|some (.struct fs)=>Ph j fs&&Nat.beq fs.size 2|_=>false)&&(Nat.beq (P.cellsOf j) 1&&Nat.beq (P.cellsOf ts) 2)
theorem UM{P:Program}{W:World}{R ts:TypeId}(hi:P.underlying R=some (.int .i64))(hp:NO P R ts=true){laid:List (String×DataW Unit)}{ps:List MemPlace}(h:DataW.LaidVars P W laid ps){n:String}{a b:Int}(hm:(n,.agg [.lit (.int .i64 a),.lit (.int .i64 b)])∈laid){g:Nat}(hg:P.globalNamed n=some g)(aa:(P.globals[g]?).map (·.type)=some ts):
 ∀(j:Nat) (v:Value),([.int .i64 a,.int .i64 b]:List Value)[j]?=some v->W.cell? ⟨g,j,none⟩=some v:=by
 induction laid generalizing ps with
 |nil=>cases hm
 |cons x r ih=>
  obtain⟨af,d⟩:=x
  obtain⟨g',t,cs,fuel,p,q,h1,h2,h3,h4,U,_⟩:=h
  rcases List.mem_cons.1 hm with hm|hm
  · cases hm
    obtain rfl:=Option.some.inj (hg.symm.trans h1)
    obtain rfl:=Option.some.inj (aa.symm.trans h2)
    unfold NO at hp
    simp only[Bool.and_eq_true]at hp
    obtain⟨o,jN,I⟩:=hp
    split at o
    · rename_i fs ad
      rw[Bool.and_eq_true]at o
      have J:=beq_eq o.2
      obtain⟨ae,C,z2,z3,_⟩:=SP ad hi (beq_eq jN) (NN o.1) (by rw[beq_eq I,J]) h4
      intro j v ab
      rw[World.var?_cell hg h3 j]
      rw[J]at C
      match ae,C with
      |[z0,C],_=>
       simp only[Prod.mk.injEq,DataW.agg.injEq,List.map_cons,List.map_nil,List.cons.injEq,DataW.lit.injEq,Lit.int.injEq,true_and,and_true]at z3
       obtain⟨⟨rfl,rfl⟩,rfl⟩:=z3
       rw[<-Array.getElem?_toList,z2]
       exact ab
    · cases o
  · exact ih U hm
theorem vY.cons{P:Program}{hp:Ht}{nx n:Nat}{t:TypeId}{ts:List TypeId}{lss:List (List Value)}(h:vY P hp nx n (t::ts) lss):∃l ls,lss=l::ls/\Rp P hp nx n t l/\vY P hp nx n ts ls:=by
 cases lss with
 |nil=>exact h.elim
 |cons l ls=>exact⟨l,ls,rfl,h⟩
theorem vY.nil{P:Program}{hp:Ht}{nx n:Nat}{lss:List (List Value)}(h:vY P hp nx n [] lss):lss=[]:=by
 cases lss with
 |nil=>rfl
 |cons l ls=>exact h.elim
theorem xS.cons{P:Program}{hp:Ht}{nx:Nat}{t:TypeId}{ts:List TypeId}{j:List Value}(h:xS P hp nx (t::ts) j):∃v vs,j=v::vs/\(∃n ls,Rp P hp nx n t ls/\ls.length=P.cellsOf t/\v=y0 P t ls)/\xS P hp nx ts vs:=by
 cases j with
 |nil=>exact h.elim
 |cons v vs=>exact⟨v,vs,rfl,h⟩
theorem xS.nil{P:Program}{hp:Ht}{nx:Nat}{j:List Value}(h:xS P hp nx [] j):j=[]:=by
 cases j with
 |nil=>rfl
 |cons v vs=>exact h.elim
theorem ba{a b:Bool}(h:a=true)(k:b=true):(a&&b)=true:=by rw[h,k];rfl
theorem OA{P:Program}(h:P.funcs.any Func.goes=false)(f:FuncId):P.goes f=false:=by
 have h1:∀g:Nat,((P.funcs[g]?).any Func.goes)=false:=fun g=>by
  cases hg:P.funcs[g]? with
  |none=>rfl
  |some fn=>
   rw[Array.any_eq_false]at h
   obtain⟨jz,rfl⟩:=Array.getElem?_eq_some_iff.1 hg
   simpa using h g jz
 unfold Program.goes
 rw[h,Bool.and_false,Bool.or_false,List.any_eq_false]
 intro g _
 rw[h1];simp
theorem SQ{P:Program}{c:OpenClaim}(h:P.funcs.any Func.goes=false)(hs:c.start=.entering):false=c.goesBy P:=by
 unfold OpenClaim.goesBy Program.goesAt Program.goesFrom
 have h:∀o:Option FuncId,o.any P.goes=false:=fun o=>by
  cases o with
  |none=>rfl
  |some f=>exact OA h f
 rw[h,hs];rfl
theorem UN{p:Pinned}{c:OpenClaim}{f0:FuncId}{XU:Func}{C:Bool}(h1:p.checked.prog.funcNamed c.func=some f0)(h2:p.checked.prog.funcs[f0]?=some XU)(h3:C=p.checked.prog.looks [])
 (h4:(XU.params.toList.all fun t=>!(p.checked.prog.wantsStandIn t))=true):
 ∀f fn,p.checked.prog.funcNamed c.func=some f->p.checked.prog.funcs[f]?=some fn->C=p.checked.prog.looks []/\∀(j:Nat) t,fn.params[j]?=some t->p.checked.prog.wantsStandIn t=false:=by
 intro f fn hf o
 obtain rfl:=Option.some.inj (h1.symm.trans hf)
 obtain rfl:=Option.some.inj (h2.symm.trans o)
 refine⟨h3,fun j t I=>?_⟩
 have:=List.all_eq_true.1 h4 t (List.mem_of_getElem? (by rw[Array.getElem?_toList];exact I))
 simpa using this
end
end Sw
