/- A part of the proof that the law returns true for every input that its row speaks of. No condition is added. -/
import Derived.Test.YtecbgehgkpgbmaaGreatDoorSwAI
import Derived.Shelf.Strings.Search1
import Derived.Shelf.Strings.Search2
import Derived.Shelf.Strings.Search3
import Derived.Shelf.LaysM
import Derived.Shelf.Strings.Shaped
import Derived.Shelf.Bits.Mul64
import Derived.Shelf.SlSortCmp.NoneTotal
import Derived.Test.YtecbgehgkpgbmaaGreatDoorProg
import Derived.Test.YtecbgehgkpgbmaaGreatDoorSwAG
import Derived.Test.YtecbgehgkpgbmaaGreatDoorSwAO
import Derived.Test.YtecbgehgkpgbmaaGreatDoorSwAP
import Derived.Test.YtecbgehgkpgbmaaGreatDoorSwAQ
import Derived.Test.YtecbgehgkpgbmaaGreatDoorSwAR
import Derived.Test.YtecbgehgkpgbmaaGreatDoorSwAS
import Derived.Test.YtecbgehgkpgbmaaGreatDoorSwAT
import Derived.Test.YtecbgehgkpgbmaaGreatDoorSwAU
import Derived.Test.YtecbgehgkpgbmaaGreatDoorSwAV
import Derived.Test.YtecbgehgkpgbmaaGreatDoorSwAW
import Derived.Test.YtecbgehgkpgbmaaGreatDoorSwAX
import Derived.Test.YtecbgehgkpgbmaaGreatDoorSwAY
import Derived.KernelRfl
import Derived.LaidLaws
import Derived.SevenTiedAt
import Derived.JoinedOf
import Derived.Lay
namespace Sw
noncomputable section
open Go Go.Proofs Go.RowKit
set_option maxRecDepth 100000
set_option maxHeartbeats 1600000
theorem KS(x:Int)(O:Ht)(G:Nat):WF e0 133 [Y x] O G (fG G O (ga False)):=by
 refine wd Tryz.f133 6 [.tmp 2] fun hE=>sr<|oN 1<|sr<|oX 2 ?_
 refine oq 5 (qG x x) fun c1 p1=>oW 1 ⟨rfl,rfl,[.bool c1],U,?_⟩
 refine⟨⟨c1,rfl,?_⟩,nR,hE⟩
 exact p1.trans (by simp)
theorem GD(x y:Int)(O:Ht)(G:Nat):WF e0 82 [Y x,Y y] O G (fG G O (Dy (jj x y))):=by
 refine wd Tryz.f82 20 [.tmp 4] fun hE=>sr<|oN 1<|sr<|oX 1<|oD 8 (KS (x) O (G)) fun F A j oT B iC=>?_
 refine oN 1<|sr<|oX 1<|oD 10 (KS (y) j (oT)) fun nM rN C E z e=>?_
 have b:=(hE.trans iC).trans e
 refine oN 1<|WP.seq<|sr<|oN 1<|cq A (fun m=>?_) (fun m=>?_)
 ·
  refine WP.seq<|sr<|oN 1<|cq rN (fun o=>?_) (fun o=>?_)
  ·
   refine sr<|oW 1 ⟨rfl,rfl,[Y 0],U,?_⟩
   refine⟨?_,od,b⟩
   show Value.int .i64 (0)=Y (jj x y)
   congr 1;unfold jj;split<;>(try split)<;>first|(exfalso;assumption)|omega
  ·
   refine WP.skip<|sr<|oW 1 ⟨rfl,rfl,[Y (-1)],U,?_⟩
   refine⟨?_,od,b⟩
   show Value.int .i64 (-1)=Y (jj x y)
   congr 1;unfold jj;split<;>(try split)<;>first|(exfalso;assumption)|omega
 ·
  refine WP.skip<|WP.seq<|sr<|oN 1<|cq rN (fun p=>?_) (fun p=>?_)
  ·
   refine sr<|oW 1 ⟨rfl,rfl,[Y 1],U,?_⟩
   refine⟨?_,od,b⟩
   show Value.int .i64 (1)=Y (jj x y)
   congr 1;unfold jj;split<;>(try split)<;>first|(exfalso;assumption)|omega
  ·
   refine WP.skip<|WP.seq<|sr<|oX 2 ?_
   refine oq 16 (mr x y) fun sw vN=>WO.nil<|cq vN (fun u=>?_) (fun u=>?_)
   ·
    refine sr<|oW 1 ⟨rfl,rfl,[Y (-1)],U,?_⟩
    refine⟨?_,od,b⟩
    show Value.int .i64 (-1)=Y (jj x y)
    congr 1;unfold jj;split<;>(try split)<;>first|(exfalso;assumption)|omega
   ·
    refine WP.skip<|WP.seq<|sr<|oX 2 ?_
    refine oq 19 (mr y x) fun ux ul=>WO.nil<|cq ul (fun yq=>?_) (fun yq=>?_)
    ·
     refine sr<|oW 1 ⟨rfl,rfl,[Y 1],U,?_⟩
     refine⟨?_,od,b⟩
     show Value.int .i64 (1)=Y (jj x y)
     congr 1;unfold jj;split<;>(try split)<;>first|(exfalso;assumption)|omega
    ·
     refine WP.skip<|sr<|oW 1 ⟨rfl,rfl,[Y 0],U,?_⟩
     refine⟨?_,od,b⟩
     show Value.int .i64 (0)=Y (jj x y)
     congr 1;unfold jj;split<;>(try split)<;>first|(exfalso;assumption)|omega
theorem Vp:e0.T.jh 42=some (.slice 3):=U
theorem Vq:e0.T.size 3=some 1:=U
theorem ut:e0.T.agg 3=some false:=U
theorem YE(K:SV Int)(O:Ht)(G:Nat)(hK:gx encI 1 O G K):WF e0 81 [K.v] O G (fG G O (Jw K.l)):=by
 obtain⟨a1,c2,hR⟩:=hK.shape
 have lU:=hK.2.2
 rw[hR]
 refine wd Tryz.f81 18 [.tmp 2] fun hE=>sr<|oN 1<|sr<|oN 1<|WP.seq<|sr<|oN 3<|WP.block ?_
 refine mg [3,6,7,8] (fun m hs ns vs=>∃(fR:Nat),fR+m=K.l.length/\vs=[Y 0,.slice a1 (K.l.length) c2,Y (.ofNat (K.l.length)),Y (.ofNat fR)]/\G<=ns/\HE (G) O hs/\(∀(j:Nat) (y:Int),j<fR->K.l[j]?=some y->y=0)) ?_ (K.l.length) ?_
 ·
  rintro xM p_ iY _ ⟨fR,ui,rfl,oF,jl,hinv⟩ uj
  have j2:=hE.trans jl
  refine sr ?_
  refine oq 9 (kL fR K.l.length) fun nu rM=>WO.nil<|WP.seq<|cq rM (fun w9=>?_) (fun w9=>?_)
  ·
   refine WP.skip<|WP.seq<|WP.block<|sr ?_
   have nz:fR<K.l.length:=by omega
   refine WO.cons (WC.iy hR hK (fR) Vp Vq (nz) ?_)
   obtain⟨lv,kB⟩:=gE nz
   refine WO.cons (WC.lz (Y lv) hR (hK.mono j2 nR) kB rfl ut<|oN 1<|sr<|oX 2 ?_)
   refine oq 14 (qG lv 0) fun o e=>WO.nil<|cq e (fun b=>?_) (fun b=>?_)
   ·
    refine sr<|oW 2 ⟨rfl,rfl,[Y lv],U,?_⟩
    exact⟨.inr ⟨_,lv,rfl,kB,b,hinv⟩,od,j2⟩
   ·
    refine WP.skip<|WP.region<|ov 16 (Y (.ofNat (fR+1))) ?_ (fun _ _ _=>by rw[<-gM (show fR+1<9223372036854775808 by omega)];kernel_rfl)
    refine oN 1<|⟨K.l.length-(fR+1),om,rfl,rfl,fR+1,om,U,?_,?_,?_⟩
    · exact oF
    · exact jl
    · intro j y hj hy;rcases fo.1 hj with hj|rfl;exact hinv j y hj hy;rw[kB]at hy;cases hy;exact Decidable.not_not.1 b
  ·
   refine WP.exit<|sr<|oW 2 ⟨rfl,rfl,[Y 0],U,?_⟩
   refine⟨.inl ⟨rfl,fun y hy=>?_⟩,od,j2⟩
   obtain⟨j,hj⟩:=fJ hy
   exact hinv j y (by have:=(fe.1 hj).1;omega) hj
 ·
  exact⟨0,om,U,e9 _,HE.refl _ _,(fun j y h=>absurd h (fz _))⟩
theorem Tu(a b:fL)(O:Ht)(G:Nat):WF e0 117 [.agg (fc a).toArray,.agg (fc b).toArray] O G (fG G O (Dy (wH a b))):=by
 refine wd Tryz.f117 17 [.tmp 4] fun hE=>sr<|oB (.agg (fc a).toArray) (fc a) fun jq iC hU=>?_
 refine oB (.agg (fc b).toArray) (fc b) fun J p j=>?_
 have m:=p.get hU
 refine oN 1<|WP.seq<|WP.qN [⟨[0,1,2,3,5,6,7,8],[0,1,2,3,5,6,7,8],some 4⟩,⟨[],[5,6,7,8],some 9⟩,⟨[10],[10],some 11⟩,⟨[],[],some 12⟩,⟨[],[],none⟩] U _ rfl<|WD.kQ<|nv 5 (pt G 0)<|WN.hQ rfl (WC.jP G 0 (Y a.g_) U ut m rfl<|nv 7 (pt (G+1) 0)<|WN.hQ rfl (WC.jP (G+1) 0 (Y b.g_) U ut j rfl<|nv 10 (pt G (0+1))<|WN.hQ rfl (WC.jP G (0+1) (Y a.gU) U ut m rfl<|nv 12 (pt (G+1) (0+1))<|WN.hQ rfl (WC.jP (G+1) (0+1) (Y b.gU) U ut j rfl<|WN.nil ⟨?_,?_⟩))))
 ·
  refine cv (pt G 0) (iK ..)<|p7 G 0 (Y a.g_) ut m rfl (iz ..)<|cv (pt (G+1) 0) (iK ..)<|p7 (G+1) 0 (Y b.g_) ut j rfl (iz ..)<|cv (pt G (0+1)) (iK ..)<|p7 G (0+1) (Y a.gU) ut m rfl (iz ..)<|cv (pt (G+1) (0+1)) (iK ..)<|p7 (G+1) (0+1) (Y b.gU) ut j rfl (iz ..) ?_
  exact iX.nil
 refine WC.at rfl (WC.call 9 82 ([Y a.g_,Y b.g_]) kf ((GD (a.g_) (b.g_) J (G+1+1)).mono ?_))
 rintro _ C F ⟨rfl,xq,jx⟩
 refine WD.kQ<|WN.nil ⟨?_,?_⟩
 ·
  refine cv (pt G (0+1)) (iK ..)<|p7 G (0+1) (Y a.gU) ut (jx.get m) rfl (iz ..)<|cv (pt (G+1) (0+1)) (iK ..)<|p7 (G+1) (0+1) (Y b.gU) ut (jx.get j) rfl (iz ..) ?_
  exact iX.nil
 refine WC.at rfl (WC.call 14 82 ([Y a.gU,Y b.gU]) kf ((GD (a.gU) (b.gU) C (F)).mono ?_))
 rintro _ E e ⟨rfl,K,z⟩
 refine WD.kQ<|WN.hQ rfl (WC.buildSlice [Y (jj (a.g_) (b.g_)),Y (jj (a.gU) (b.gU))] rfl U ?_)
 obtain⟨u,y,A,o⟩:=boxed E (e) [Y (jj (a.g_) (b.g_)),Y (jj (a.gU) (b.gU))]
 rw[y];clear y
 refine WN.nil ⟨?_,?_⟩
 ·
  refine iX.new e (.slice (some ⟨e,0,none⟩) (2) 2) [Y (jj (a.g_) (b.g_)),Y (jj (a.gU) (b.gU))] (fun _=>by kernel_rfl) o (uQ ..) (by simp[uG,iz,iH,ww,xH]) ?_
  exact iX.nil
 refine WC.at rfl (WC.call 16 81 ([.slice (some ⟨e,0,none⟩) (2) 2]) kf (((YE (⟨.slice (some ⟨e,0,none⟩) 2 2,[jj (a.g_) (b.g_),jj (a.gU) (b.gU)]⟩:SV Int) u (e+1) (gx.m_ (enc:=encI) (by simp[encI]) o rfl (by decide) om (by simp):gx encI 1 u (e+1) (⟨.slice (some ⟨e,0,none⟩) 2 2,[jj (a.g_) (b.g_),jj (a.gU) (b.gU)]⟩:SV Int))).mono (fun v eZ e5 h=>(⟨Jw.two h.1,h.2.1,h.2.2⟩:fG _ _ (Dy (uV (jj (a.g_) (b.g_)) (jj (a.gU) (b.gU)))) v eZ e5))).mono ?_))
 rintro _ M N ⟨rfl,L,B⟩
 refine WD.kQ<|WN.nil ⟨?_,?_⟩
 ·
  exact iX.nil
 refine WC.at rfl (WC.val 4 (Y (uV (jj (a.g_) (b.g_)) (jj (a.gU) (b.gU)))) kf<|WD.last<|WN.nil ⟨?_,?_⟩)
 ·
  exact iX.nil
 refine WP.ret ⟨rfl,rfl,[Y (uV (jj (a.g_) (b.g_)) (jj (a.gU) (b.gU)))],U,?_⟩
 refine⟨?_,od,((((((hE.trans iC).trans p).trans jx).trans z).trans A).trans B)⟩
 show Value.int .i64 (uV (jj (a.g_) (b.g_)) (jj (a.gU) (b.gU)))=Y (wH a b)
 rfl
end
end Sw
namespace Go.Proofs
open Go.Shelf
def Tryz.OW:Go.Shelf.Ren:=⟨fun|144=>348|143=>416|219=>448|217=>463|225=>464|224=>465|267=>466|266=>474|314=>475|n=>n,fun|9=>9|4=>4|3=>3|5=>5|46=>416|146=>502|51=>499|n=>n,fun|1=>11|n=>n⟩
theorem Tryz.Xf:Go.Proofs.Lays.n144 Tryz.prog Tryz.OW:={
 mixed:=by kernel_rfl
 f143:=Tryz.func416.trans (congrArg some (by kernel_rfl))
 f144:=Tryz.func348.trans (congrArg some (by kernel_rfl))
 f217:=Tryz.func463.trans (congrArg some (by kernel_rfl))
 f219:=Tryz.func448.trans (congrArg some (by kernel_rfl))
 f224:=Tryz.func465.trans (congrArg some (by kernel_rfl))
 f225:=Tryz.func464.trans (congrArg some (by kernel_rfl))
 f266:=Tryz.func474.trans (congrArg some (by kernel_rfl))
 f267:=Tryz.func466.trans (congrArg some (by kernel_rfl))
 f314:=Tryz.func475.trans (congrArg some (by kernel_rfl))
 t3:=Tryz.underlying3
 a3:=Tryz.isAgg3
 z3:=Tryz.sizeOf3
 v3:=Tryz.zeroValue3
 t4:=Tryz.underlying4
 a4:=Tryz.isAgg4
 z4:=Tryz.sizeOf4
 v4:=Tryz.zeroValue4
 t5:=Tryz.underlying5
 a5:=Tryz.isAgg5
 z5:=Tryz.sizeOf5
 v5:=Tryz.zeroValue5
 t9:=Tryz.underlying9
 a9:=Tryz.isAgg9
 z9:=Tryz.sizeOf9
 v9:=Tryz.zeroValue9
 t46:=Tryz.underlying416
 a46:=Tryz.isAgg416
 z46:=Tryz.sizeOf416
 v46:=Tryz.zeroValue416
 t51:=Tryz.underlying499
 a51:=Tryz.isAgg499
 z51:=Tryz.sizeOf499
 v51:=Tryz.zeroValue499
 t146:=Tryz.underlying502
 a146:=Tryz.isAgg502
 z146:=Tryz.sizeOf502
 v146:=Tryz.zeroValue502
 g1:=by kernel_rfl}
open Go.RowKit Go.Lib in
theorem Tryz.strings_Contains(s sub:ByteArray)(m:Int)(w:World)(hs:s.size<4294967281)(hm:w.cell? ⟨11,0,none⟩=some (.int .i64 m)):
 Calls Tryz.prog 348 #[.string s,.string sub] w fun e w'=>e=.returned (.bool (Lib.contains s.data.toList sub.data.toList))/\w'=w:=Any.strings_Contains Tryz.Xf s sub m w hs hm
def Tryz.Tv:Go.Shelf.Ren:=⟨fun|6=>209|15=>221|14=>285|28=>303|29=>304|20=>359|21=>360|22=>361|23=>362|24=>363|25=>364|26=>365|27=>366|46=>419|47=>383|48=>384|49=>420|50=>421|57=>450|n=>n,fun|22=>48|24=>104|25=>263|3=>3|39=>416|0=>0|53=>499|55=>501|4=>4|46=>493|45=>492|50=>60|5=>5|9=>9|66=>571|70=>401|76=>616|77=>178|n=>n,fun|n=>n⟩
theorem Tryz.Wb:Go.Proofs.SlLaysF0.n6 Tryz.prog Tryz.Tv:={
 mixed:=by kernel_rfl
 f6:=⟨Tryz.f209.name,by decide,Tryz.func209.trans (congrArg some (by kernel_rfl))⟩
 f14:=⟨Tryz.f285.name,by decide,Tryz.func285.trans (congrArg some (by kernel_rfl))⟩
 f15:=Tryz.func221.trans (congrArg some (by kernel_rfl))
 f20:=⟨Tryz.f359.name,by decide,Tryz.func359.trans (congrArg some (by kernel_rfl))⟩
 f21:=⟨Tryz.f360.name,by decide,Tryz.func360.trans (congrArg some (by kernel_rfl))⟩
 f22:=⟨Tryz.f361.name,by decide,Tryz.func361.trans (congrArg some (by kernel_rfl))⟩
 f23:=⟨Tryz.f362.name,by decide,Tryz.func362.trans (congrArg some (by kernel_rfl))⟩
 f24:=⟨Tryz.f363.name,by decide,Tryz.func363.trans (congrArg some (by kernel_rfl))⟩
 f25:=⟨Tryz.f364.name,by decide,Tryz.func364.trans (congrArg some (by kernel_rfl))⟩
 f26:=⟨Tryz.f365.name,by decide,Tryz.func365.trans (congrArg some (by kernel_rfl))⟩
 f27:=⟨Tryz.f366.name,by decide,Tryz.func366.trans (congrArg some (by kernel_rfl))⟩
 f28:=Tryz.func303.trans (congrArg some (by kernel_rfl))
 f29:=Tryz.func304.trans (congrArg some (by kernel_rfl))
 f46:=⟨Tryz.f419.name,by decide,Tryz.func419.trans (congrArg some (by kernel_rfl))⟩
 f47:=Tryz.func383.trans (congrArg some (by kernel_rfl))
 f48:=Tryz.func384.trans (congrArg some (by kernel_rfl))
 f49:=⟨Tryz.f420.name,by decide,Tryz.func420.trans (congrArg some (by kernel_rfl))⟩
 f50:=⟨Tryz.f421.name,by decide,Tryz.func421.trans (congrArg some (by kernel_rfl))⟩
 f57:=⟨Tryz.f450.name,by decide,Tryz.func450.trans (congrArg some (by kernel_rfl))⟩
 t0:=Tryz.underlying0
 a0:=Tryz.isAgg0
 z0:=Tryz.sizeOf0
 v0:=Tryz.zeroValue0
 t3:=Tryz.underlying3
 a3:=Tryz.isAgg3
 z3:=Tryz.sizeOf3
 v3:=Tryz.zeroValue3
 t4:=Tryz.underlying4
 a4:=Tryz.isAgg4
 z4:=Tryz.sizeOf4
 v4:=Tryz.zeroValue4
 t5:=Tryz.underlying5
 a5:=Tryz.isAgg5
 z5:=Tryz.sizeOf5
 v5:=Tryz.zeroValue5
 t9:=Tryz.underlying9
 a9:=Tryz.isAgg9
 z9:=Tryz.sizeOf9
 v9:=Tryz.zeroValue9
 t22:=Tryz.underlying48
 a22:=Tryz.isAgg48
 z22:=Tryz.sizeOf48
 v22:=Tryz.zeroValue48
 t25:=Tryz.underlying263
 a25:=Tryz.isAgg263
 z25:=Tryz.sizeOf263
 v25:=Tryz.zeroValue263
 t39:=Tryz.underlying416
 a39:=Tryz.isAgg416
 z39:=Tryz.sizeOf416
 v39:=Tryz.zeroValue416
 t45:=Tryz.underlying492
 a45:=Tryz.isAgg492
 z45:=Tryz.sizeOf492
 v45:=Tryz.zeroValue492
 t46:=Tryz.underlying493
 a46:=Tryz.isAgg493
 z46:=Tryz.sizeOf493
 v46:=Tryz.zeroValue493
 t50:=Tryz.underlying60
 a50:=Tryz.isAgg60
 z50:=Tryz.sizeOf60
 v50:=Tryz.zeroValue60
 t53:=Tryz.underlying499
 a53:=Tryz.isAgg499
 z53:=Tryz.sizeOf499
 v53:=Tryz.zeroValue499
 t55:=Tryz.underlying501
 a55:=Tryz.isAgg501
 z55:=Tryz.sizeOf501
 v55:=Tryz.zeroValue501
 t66:=Tryz.underlying571
 a66:=Tryz.isAgg571
 z66:=Tryz.sizeOf571
 v66:=Tryz.zeroValue571
 t70:=Tryz.underlying401
 a70:=Tryz.isAgg401
 z70:=Tryz.sizeOf401
 v70:=Tryz.zeroValue401
 t76:=Tryz.underlying616
 a76:=Tryz.isAgg616
 z76:=Tryz.sizeOf616
 v76:=Tryz.zeroValue616
 t77:=Tryz.underlying178
 a77:=Tryz.isAgg178
 z77:=Tryz.sizeOf178
 v77:=Tryz.zeroValue178}
end Go.Proofs
namespace Sw
noncomputable section
open Go Go.Proofs Go.RowKit Go.Sort
set_option maxRecDepth 100000
theorem Xg(a b:fL):WF e0 117 [.agg (fc a).toArray,.agg (fc b).toArray] .nil 12 (fun v _ _=>v=.int .i64 (wH a b)):=(Tu a b .nil 12).mono fun _ _ _ h=>h.1
theorem Xh(fW off cap:Nat)(d:Array fL)(w:World)(hc:CmpLays Tryz.prog 117 #[] fc 2 wH fW off d.size w)(hH:HoldsK fc 2 w fW off d)(hb:fW<w.heap.size)(hs:d.size<4611686018427387904):Calls Tryz.prog 209 #[.slice (some ⟨fW,off,none⟩) d.size cap,.func (.func 117) #[] #[]] w fun j w'=>j=.returned (.tuple #[])/\∃n os,w'=sortWorldK fc 2 w fW off n (wI d.toList).toArray os:=by
 have e:∀args w,(callFunc 117 args).run Tryz.prog w=.ok (.enter 117 args) w:=enters_of Tryz.func117 (by kernel_rfl) rfl
 exact AnyQ.slices_SortFunc_total Tryz.Wb 2 Tryz.isAgg104 Tryz.sizeOf104 fc (fun _=>rfl) (fun x v b=>by
  simp only[fc,List.mem_cons,List.not_mem_nil,or_false]at b
  rcases b with rfl|rfl<;>rfl) wH WA 117 #[] fW off cap d w e hc hH hb hs WB
theorem Vs(p:Option Addr)(cap:Nat)(w:World):Calls Tryz.prog 209 #[.slice p 0 cap,.func (.func 117) #[] #[]] w fun b w'=>b=.returned (.tuple #[])/\w'=w:=AnyF.slices_SortFunc_none Tryz.Wb p cap _ w
end
end Sw
namespace Sw
noncomputable section
open Go Go.Proofs Go.RowKit
set_option maxRecDepth 100000
def IE(B0:Nat)(w0:World):Prop:=11<B0/\∃m,w0.cell? ⟨11,0,none⟩=some (.int .i64 m)
theorem N4:Lx IE:=fun B0 w0 w ⟨h1,m,D⟩ hb hs=>⟨by omega,m,by rw[Iq hb h1];exact D⟩
theorem Tw:Ky.Ok Tryz.prog/\Ky.Cx:=by
 have b:∀t i,Ky.kd t=some i->i∈Tryz.types.toList/\has CU t=true/\TT.get t=some i:=fun t i h=>by
  have h:(bif has CU t then TT.get t else none)=some i:=h
  cases hm:has CU t with
  |false=>rw[hm]at h;cases h
  |true=>
   rw[hm]at h
   have h:TT.get t=some i:=h
   have D:=h
   rw[QB,wZ]at D
   exact⟨cs D,rfl,h⟩
 have e:∀t i,TT.get t=some i->has CU t=true->MA i=true/\Bh Ky i=true:=fun t i h hm=>by
  have key:(Tryz.types.toList.zipIdx.all fun p=>!(has CU p.2)||(MA p.1&&Bh Ky p.1))=true:=by kernel_rfl
  rw[QB,wZ]at h
  have:=fE.1 key (i,t) (by rw[List.mem_zipIdx_iff_getElem?];exact h)
  simp only[hm,Bool.not_true,Bool.false_or,Bool.and_eq_true]at this
  exact this
 refine Y0 (fun t i h=>?_) (fun t h=>?_)
 · obtain⟨h1,D,h3⟩:=b t i h
   refine⟨?_,e t i h3 D⟩
   have h4:=X1 t i h3
   have jA:t<Tryz.prog.types.size:=(fU.1 h4).1
   show(if t<Tryz.prog.types.size then Tryz.prog.types[t]? else _)=_
   rw[if_pos jA];exact h4
 · have h:has It t=true:=h
   have jA:t<533:=R0 (m:=It) (N:=533) (by kernel_rfl) h
   have key:((List.range 533).all fun t=>!(has It t)||(!(Tryz.prog.stoodInHeld t)&&(!(Tryz.prog.eqGuardType Tryz.prog.depth t)&&(match Tryz.prog.underlying t with|some (.struct fs)=>fs.toList.all (·.name != "_")|_=>true))))=true:=by kernel_rfl
   have:=rV key jA
   simp only[h,Bool.not_true,Bool.false_or,Bool.and_eq_true,Bool.not_eq_true']at this
   refine⟨this.1,this.2.1,fun fs hu f hf=>?_⟩
   have h3:=this.2.2
   rw[hu]at h3
   have:=fE.1 h3 f hf
   simpa using this
theorem YF(f:FuncId)(fn:Func)(h:X4 f=some fn):Tryz.prog.funcs[f]?=some fn/\zZ 12 fn=true:=by
 have h:(bif has vL f then FT.get f else none)=some fn:=h
 cases hm:has vL f with
 |false=>rw[hm]at h;cases h
 |true=>
  rw[hm]at h
  have h:FT.get f=some fn:=h
  refine⟨X2 f fn h,?_⟩
  rw[VV,wZ]at h
  have jA:f<521:=by
   have h1:f<Tryz.funcs.toList.length:=(fe.1 h).1
   have D:Tryz.funcs.toList.length=521:=by kernel_rfl
   rw[D]at h1;exact h1
  have j:(fn,f)∈Tryz.funcs.toList.zipIdx:=by rw[List.mem_zipIdx_iff_getElem?];exact h
  have b:∀lo hi,(Tryz.funcs.toList.zipIdx.all fun p=>!(Nat.ble lo p.2&&Nat.blt p.2 hi)||(!(has vL p.2)||zZ 12 p.1))=true->lo<=f->f<hi->zZ 12 fn=true:=fun lo hi key h1 D=>by
   have:=fE.1 key (fn,f) j
   simp only[hm,Nat.ble_eq_true_of_le h1,show Nat.blt f hi=true from Nat.ble_eq_true_of_le D,Bool.and_true,Bool.not_true,Bool.false_or]at this
   exact this
  rcases gp f 85 with h0|h0
  · exact b _ _ Z8 (gG _) h0
  rcases gp f 170 with h1|h1
  · exact b _ _ Z9 (h0) h1
  rcases gp f 255 with D|D
  · exact b _ _ Z_ (h1) D
  rcases gp f 340 with h3|h3
  · exact b _ _ aaa (D) h3
  rcases gp f 425 with h4|h4
  · exact b _ _ aab (h3) h4
  rcases gp f 510 with e|e
  · exact b _ _ aac (h4) e
  exact b _ _ aad (e) jA
theorem YG(t:TypeId)(n:String)(f:FuncId)(h:VX t n=some f):Ii Ky t n f=true:=by
 unfold VX at h
 cases hb:(Nat.beq t 469&&(n== "stopwatch/typing.parts"))with
 |true=>
  rw[hb]at h;cases h
  rw[Bool.and_eq_true]at hb
  obtain rfl:=beq_eq hb.1
  obtain rfl:n= "stopwatch/typing.parts":=by simpa using hb.2
  kernel_rfl
 |false=>
 rw[hb]at h
 simp only[cond_false]at h
 cases hb:(Nat.beq t 553&&(n== "stopwatch/typing.parts"))with
 |true=>
  rw[hb]at h;cases h
  rw[Bool.and_eq_true]at hb
  obtain rfl:=beq_eq hb.1
  obtain rfl:n= "stopwatch/typing.parts":=by simpa using hb.2
  kernel_rfl
 |false=>
 rw[hb]at h
 simp only[cond_false]at h
 cases h
theorem Df(K:FuncId->Option Jb):mP Tryz.prog 12 ⟨Ky,fun f=>(X4 f).bind Ly,VX,K,0⟩:=YZ Tw.1 Tw.2 YF YG
theorem YH(B0:Nat)(w0:World)(hi:IE B0 w0):r9 Tryz.prog 12 B0 w0 e0:=by
 intro f u h
 have h:(bif Nat.beq f 348 then some FV else none)=some u:=h
 cases hb:Nat.beq f 348 with
 |false=>rw[hb]at h;cases h
 |true=>
  rw[hb]at h;cases h
  obtain rfl:=beq_eq hb
  refine⟨⟨Tryz.f348,_,Tryz.func348,rfl,by kernel_rfl⟩,fun l args O G g w H hg hl=>?_⟩
  by_cases j:∃a b,l=[.string a,.string b]
  · obtain⟨a,b,rfl⟩:=j
    cases jA:Nat.blt (strs a).length 4294967281 with
    |false=>exact .inr ⟨fun _ _=>.gk 0,fun Z k p=>by simp only[FV,jA,cond_false],fun _=>tL.fail fun _ _=>rfl⟩
    |true=>
     refine .inr ⟨fun Z k=>k (.bool (Lib.contains (strs a) (strs b))) O G Z,fun Z k p=>by simp only[FV,jA,cond_true],fun fs k=>.here (.inr ⟨_,O,G,fun Z=>rfl,?_⟩)⟩
     have o:args=#[.string a,.string b]:=by
      obtain⟨args⟩:=args
      match args,hl with
      |[x,y],hl=>
       have h1:=hl.head
       have D:=hl.tail.head
       rw[h1.kY,D.kY]
      |[],hl=>cases hl.1
      |[_],hl=>cases hl.1
      |_::_::_::_,hl=>cases hl.1
     subst o
     obtain⟨h1,m,D⟩:=hi
     have hm:w.cell? ⟨11,0,none⟩=some (.int .i64 m):=by rw[Iq H.below.b h1];exact D
     have hs:a.size<4294967281:=by
      have:=fa jA
      have e:(strs a).length=a.size:=by unfold strs;rw[Array.length_toList];rfl
      rw[e]at this;exact this
     exact qq.MT H (.bool _) (Tryz.strings_Contains a b m w hs hm) fs
  · refine .inr ⟨fun _ _=>.gk 0,fun Z k p=>?_,fun _=>tL.fail fun _ _=>rfl⟩
    show(match l with|[.string a,.string b]=>_|_=>(.gk 0:XB (Nat×St)))=.gk 0
    split
    · rename_i a b;exact absurd ⟨a,b,rfl⟩ j
    · rfl
theorem DX{e:Env}(ok:mP Tryz.prog 12 e)(mX:∀B0 w0,IE B0 w0->r9 Tryz.prog 12 B0 w0 e){f:FuncId}{fn:Func}{c:Code}(m:Tryz.prog.funcs[f]?=some fn)(hb:fn.body=some c)(hn:(fn.name== "runtime.NumGoroutine")=false)
 {oO:List wN} (hold:∀p∈oO,∃n b,zw 12 e f n b p=true) (B0:Nat) (w0:World) (hi:IE B0 w0):
 r9 Tryz.prog 12 B0 w0 {e with K:=fun x=>bif Nat.beq x f then some (yj 12 oO)else e.K x}:=by
 intro x o h
 have h:(bif Nat.beq x f then some (yj 12 oO)else e.K x)=some o:=h
 cases j:Nat.beq x f with
 |false=>rw[j]at h;exact mX B0 w0 hi x o h
 |true=>
  rw[j]at h;cases h
  obtain rfl:=beq_eq j
  exact⟨⟨fn,c,m,hb,hn⟩,fun l args O G g w H hg hl=>Ws N4 hi ok mX hold l args O G g w H hg hl⟩
theorem Uk:∀B0 w0,IE B0 w0->r9 Tryz.prog 12 B0 w0 e1:=
 DX (Df _) YH Tryz.func415 rfl (by kernel_rfl) fun b h=>by
  simp only[List.mem_cons,List.not_mem_nil,or_false]at h
  subst h
  exact⟨_,_,Tt⟩
theorem aae:∀B0 w0,IE B0 w0->r9 Tryz.prog 12 B0 w0 e2:=
 DX (Df _) Uk Tryz.func52 rfl (by kernel_rfl) fun b h=>by
  simp only[List.mem_cons,List.not_mem_nil,or_false]at h
  subst h
  exact⟨_,_,Vo⟩
theorem aaf:∀B0 w0,IE B0 w0->r9 Tryz.prog 12 B0 w0 e3:=
 DX (Df _) aae Tryz.func44 rfl (by kernel_rfl) fun b h=>by
  simp only[List.mem_cons,List.not_mem_nil,or_false]at h
  subst h
  exact⟨_,_,Ra⟩
theorem aag:∀B0 w0,IE B0 w0->r9 Tryz.prog 12 B0 w0 eS:=
 DX (Df _) aaf Tryz.func5 rfl (by kernel_rfl) fun b h=>by
  simp only[List.mem_cons,List.not_mem_nil,or_false]at h
  subst h
  exact⟨_,_,Zh⟩
theorem aah:∀B0 w0,IE B0 w0->r9 Tryz.prog 12 B0 w0 eT:=
 Uj N4 (fun B0 w0 h=>by have:=h.1;omega) (Df _) YH aag Tryz.func209 rfl (by kernel_rfl) Xg Xh Vs
theorem aai(B0:Nat)(w0:World)(hi:IE B0 w0):r9 Tryz.prog 12 B0 w0 ex:=fun f b h=>by
 have h:(bif Nat.beq f 52||Nat.beq f 44 then none else eT.K f)=some b:=h
 cases hb:(Nat.beq f 52||Nat.beq f 44)with
 |true=>rw[hb]at h;cases h
 |false=>rw[hb]at h;exact aah B0 w0 hi f b h
theorem Zi:mP Tryz.prog 12 ex:=Df _
theorem YI{O:Ht}{G:Nat}(h:∀b o,(yi zq .nil).get b=some o->O.get b=some o):WF ex 5 [] O G (fG G O (ga True)):=Wz (ng:=12) (by kernel_rfl) (by kernel_rfl) h
end
end Sw
namespace Sw
noncomputable section
open Go Go.RowKit Go.ChangeShapes
def ints(xs:List Int):List Value:=xs.map (.int .i64)
def numOf:Value->Int
 |.int _ z=>z
 |_=>0
theorem Tx{H:Type}{enc:TypeId×Value->H}{P:Program}{w:World}{base:Nat}{spare:Nat->Bool}{held:Bool}{m:Nat}{t e:TypeId}{fs:Array Field}{Z:List Value}{x:DataW H×List MemPlace}(y:P.underlying t=some (.struct fs))(he:P.underlying e=some (.int .i64))(hc:P.cellsOf e=1)
 (hf:∀(i:Nat) (f:Field),fs[i]?=some f->f.type=e/\f.offset=i) (hn:P.cellsOf t=fs.size) (h:DataW.trod enc P w base spare held m t Z=some x):
 ∃b:List Int,b.length=fs.size/\Z=ints b/\x=(.agg (b.map fun z=>.lit (.int .i64 z)),[])/\∀z∈b,(Lit.int .i64 z).wf=true:=by
 obtain⟨xs,n,_,rfl,hl,hlen,hx⟩:=DataW.trod_struct y h
 have each:∀(i:Nat),i<fs.size->∃z,Z[i]?=some (.int .i64 z)/\xs[i]?=some (.lit (.int .i64 z),[])/\(Lit.int .i64 z).wf=true:=fun i hi=>by
  have j:=gC hi
  have h1:=hx i _ j
  obtain⟨D,h3⟩:=hf i _ j
  rw[D,h3,hc]at h1
  have p:Z[i]?=some (Z[i]'(by omega)):=ff (by omega)
  have h4:(Z.drop i).take 1=[Z[i]'(by omega)]:=by
   rw[List.drop_eq_getElem_cons (by omega)];rfl
  rw[h4]at h1
  have o:xs[i]?=some (xs[i]'(by omega)):=ff (by omega)
  rw[o]at h1
  cases n with
  |zero=>simp[DataW.trod]at h1
  |succ n=>
   generalize Z[i]'(by omega)=v at*
   unfold DataW.trod at h1
   rw[he]at h1
   cases v<;>simp only[reduceCtorEq]at h1
   rename_i k z
   split at h1
   · rename_i hk
     obtain⟨rfl,u⟩:=hk
     exact⟨z,p,by rw[o,<-h1],u⟩
   · cases h1
 have hl:Z.length=fs.size:=hl.trans hn
 have e1:Z=ints (Z.map numOf):=by
  refine gO fun i=>?_
  rcases gp i fs.size with hi|hi
  · obtain⟨z,h1,_⟩:=each i hi
    simp only[ints,List.getElem?_map,h1,Option.map_some,numOf]
  · rw[List.getElem?_eq_none (by omega),List.getElem?_eq_none (by rw[ints,List.length_map,List.length_map];omega)]
 have e2:xs=(Z.map numOf).map fun z=>(.lit (.int .i64 z),[]):=by
  refine gO fun i=>?_
  rcases gp i fs.size with hi|hi
  · obtain⟨z,h1,D,_⟩:=each i hi
    simp only[List.getElem?_map,h1,D,Option.map_some,numOf]
  · rw[List.getElem?_eq_none (by omega),List.getElem?_eq_none (by rw[List.length_map,List.length_map];omega)]
 refine⟨Z.map numOf,by rw[List.length_map,hl],e1,?_,fun z B=>?_⟩
 · rw[e2]
   congr 1
   · rw[List.map_map];rfl
   · rw[List.flatMap_map];induction Z.map numOf with
     |nil=>rfl
     |cons a l ih=>simp
 · obtain⟨v,A,rfl⟩:=List.mem_map.1 B
   obtain⟨i,hi,rfl⟩:=gD.1 A
   obtain⟨z,h1,_,h3⟩:=each i (by omega)
   rw[List.getElem?_eq_getElem hi]at h1
   rw[Option.some.inj h1];exact h3
def PJ(b:TypeId)(fs:Array Field):Bool:=(List.range fs.size).all fun i=>match fs[i]? with
 |some f=>Nat.beq f.type b&&Nat.beq f.offset i
 |none=>false
theorem N5{b:TypeId}{fs:Array Field}(h:PJ b fs=true):∀(i:Nat) (f:Field),fs[i]?=some f->f.type=b/\f.offset=i:=fun i f hf=>by
 have:=fE.1 h i (gJ.2 (fU.1 hf).1)
 rw[hf]at this
 simp only[Bool.and_eq_true]at this
 exact⟨beq_eq this.1,beq_eq this.2⟩
def N6(P:Program)(b ts:TypeId):Bool:=(match P.underlying ts with|some (.struct fs)=>PJ b fs&&Nat.beq fs.size 2|_=>false)&&(Nat.beq (P.cellsOf b) 1&&Nat.beq (P.cellsOf ts) 2)
theorem Vt{P:Program}{W:World}{y ts:TypeId}(hi:P.underlying y=some (.int .i64))(O:N6 P y ts=true){laid:List (String×DataW Unit)}{ps:List MemPlace}(h:DataW.LaidVars P W laid ps){n:String}{a b:Int}(hm:(n,.agg [.lit (.int .i64 a),.lit (.int .i64 b)])∈laid){g:Nat}(hg:P.globalNamed n=some g)(B:(P.globals[g]?).map (·.type)=some ts):
 ∀(j:Nat) (v:Value),([.int .i64 a,.int .i64 b]:List Value)[j]?=some v->W.cell? ⟨g,j,none⟩=some v:=by
 induction laid generalizing ps with
 |nil=>cases hm
 |cons x r ih=>
  obtain⟨J,d⟩:=x
  obtain⟨g',t,Z,z,p,q,h1,D,h3,h4,A,_⟩:=h
  rcases fM.1 hm with hm|hm
  · cases hm
    obtain rfl:=fS (hg.symm.trans h1)
    obtain rfl:=fS (B.symm.trans D)
    unfold N6 at O
    simp only[Bool.and_eq_true]at O
    obtain⟨e,jq,o⟩:=O
    split at e
    · rename_i fs E
      rw[Bool.and_eq_true]at e
      have u:=beq_eq e.2
      obtain⟨F,m,z2,z3,_⟩:=Tx E hi (beq_eq jq) (N5 e.1) (by rw[beq_eq o,u]) h4
      intro j v C
      rw[World.var?_cell hg h3 j]
      rw[u]at m
      match F,m with
      |[z0,m],_=>
       simp only[Prod.mk.injEq,DataW.agg.injEq,List.map_cons,List.map_nil,List.cons.injEq,DataW.lit.injEq,Lit.int.injEq,true_and,and_true]at z3
       obtain⟨⟨rfl,rfl⟩,rfl⟩:=z3
       rw[<-Array.getElem?_toList,z2]
       exact C
    · cases e
  · exact ih A hm
theorem wz.cons{P:Program}{O:Ht}{G n:Nat}{t:TypeId}{ts:List TypeId}{lss:List (List Value)}(h:wz P O G n (t::ts) lss):∃l b,lss=l::b/\Rp P O G n t l/\wz P O G n ts b:=by
 cases lss with
 |nil=>exact h.elim
 |cons l b=>exact⟨l,b,rfl,h⟩
theorem wz.nil{P:Program}{O:Ht}{G n:Nat}{lss:List (List Value)}(h:wz P O G n [] lss):lss=[]:=by
 cases lss with
 |nil=>rfl
 |cons l b=>exact h.elim
theorem yn.cons{P:Program}{O:Ht}{G:Nat}{t:TypeId}{ts:List TypeId}{b:List Value}(h:yn P O G (t::ts) b):∃v vs,b=v::vs/\(∃n e,Rp P O G n t e/\e.length=P.cellsOf t/\v=AD P t e)/\yn P O G ts vs:=by
 cases b with
 |nil=>exact h.elim
 |cons v vs=>exact⟨v,vs,rfl,h⟩
theorem yn.nil{P:Program}{O:Ht}{G:Nat}{b:List Value}(h:yn P O G [] b):b=[]:=by
 cases b with
 |nil=>rfl
 |cons v vs=>exact h.elim
theorem ba{a b:Bool}(h:a=true)(k:b=true):(a&&b)=true:=by rw[h,k];rfl
theorem OX{P:Program}(h:P.funcs.any Func.goes=false)(f:FuncId):P.goes f=false:=by
 have h1:∀g:Nat,((P.funcs[g]?).any Func.goes)=false:=fun g=>by
  cases hg:P.funcs[g]? with
  |none=>rfl
  |some fn=>
   rw[Array.any_eq_false]at h
   obtain⟨jA,rfl⟩:=fU.1 hg
   simpa using h g jA
 unfold Program.goes
 rw[h,Bool.and_false,Bool.or_false,List.any_eq_false]
 intro g _
 rw[h1];simp
theorem Tz{P:Program}{c:OpenClaim}(h:P.funcs.any Func.goes=false)(hs:c.start=.entering):false=c.goesBy P:=by
 unfold OpenClaim.goesBy Program.goesAt Program.goesFrom
 have h:∀o:Option FuncId,o.any P.goes=false:=fun o=>by
  cases o with
  |none=>rfl
  |some f=>exact OX h f
 rw[h,hs];rfl
theorem Vu{p:Pinned}{c:OpenClaim}{f0:FuncId}{YJ:Func}{e:Bool}(h1:p.checked.prog.funcNamed c.func=some f0)(D:p.checked.prog.funcs[f0]?=some YJ)(h3:e=p.checked.prog.looks [])
 (h4:(YJ.params.toList.all fun t=>!(p.checked.prog.wantsStandIn t))=true):
 ∀f fn,p.checked.prog.funcNamed c.func=some f->p.checked.prog.funcs[f]?=some fn->e=p.checked.prog.looks []/\∀(j:Nat) t,fn.params[j]?=some t->p.checked.prog.wantsStandIn t=false:=by
 intro f fn hf b
 obtain rfl:=fS (h1.symm.trans hf)
 obtain rfl:=fS (D.symm.trans b)
 refine⟨h3,fun j t m=>?_⟩
 have:=fE.1 h4 t (cs (by rw[Array.getElem?_toList];exact m))
 simpa using this
end
end Sw
