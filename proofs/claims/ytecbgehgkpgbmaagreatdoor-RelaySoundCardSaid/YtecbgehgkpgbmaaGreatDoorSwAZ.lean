/- A part of the proof that the law returns true for every input that its row speaks of. No condition is added. -/
import Derived.Test.YtecbgehgkpgbmaaGreatDoorSwAI
import Derived.Shelf.Strings.Search1
import Derived.Shelf.Strings.Search2
import Derived.Shelf.Strings.Search3
import Derived.Shelf.LaysM
import Derived.Shelf.Strings.Shaped
import Derived.Shelf.Bits.Mul64
import Derived.Shelf.SlSortCmp.NoneTotal
import Derived.Test.YtecbgehgkpgbmaaGreatDoorProg
import Derived.Test.YtecbgehgkpgbmaaGreatDoorSwAG
import Derived.Test.YtecbgehgkpgbmaaGreatDoorSwAO
import Derived.Test.YtecbgehgkpgbmaaGreatDoorSwAP
import Derived.Test.YtecbgehgkpgbmaaGreatDoorSwAQ
import Derived.Test.YtecbgehgkpgbmaaGreatDoorSwAR
import Derived.Test.YtecbgehgkpgbmaaGreatDoorSwAS
import Derived.Test.YtecbgehgkpgbmaaGreatDoorSwAT
import Derived.Test.YtecbgehgkpgbmaaGreatDoorSwAU
import Derived.Test.YtecbgehgkpgbmaaGreatDoorSwAV
import Derived.Test.YtecbgehgkpgbmaaGreatDoorSwAW
import Derived.Test.YtecbgehgkpgbmaaGreatDoorSwAX
import Derived.Test.YtecbgehgkpgbmaaGreatDoorSwAY
import Derived.KernelRfl
import Derived.LaidLaws
import Derived.SevenTiedAt
import Derived.JoinedOf
import Derived.Lay
namespace Sw
noncomputable section
open Go Go.Proofs Go.RowKit
set_option maxRecDepth 100000
set_option maxHeartbeats 1600000
theorem Le(x:Int)(O:Ht)(G:Nat):WF e0 133 [Y x] O G (fL G O (gi False)):=by
 refine wd Tryz.f133 6 [.tmp 2] fun hE=>sr<|oN 1<|sr<|oX 2 ?_
 refine oq 5 (qS x x) fun c1 p1=>oW 1 ⟨rfl,rfl,[.bool c1],U,?_⟩
 refine⟨⟨c1,rfl,?_⟩,nR,hE⟩
 exact p1.trans (by simp)
theorem GY(x y:Int)(O:Ht)(G:Nat):WF e0 82 [Y x,Y y] O G (fL G O (DO (jr x y))):=by
 refine wd Tryz.f82 20 [.tmp 4] fun hE=>sr<|oN 1<|sr<|oX 1<|oD 8 (Le (x) O (G)) fun F A j o_ B iI=>?_
 refine oN 1<|sr<|oX 1<|oD 10 (Le (y) j (o_)) fun nZ rZ C E z e=>?_
 have b:=(hE.trans iI).trans e
 refine oN 1<|WP.seq<|sr<|oN 1<|cq A (fun m=>?_) (fun m=>?_)
 ·
  refine WP.seq<|sr<|oN 1<|cq rZ (fun o=>?_) (fun o=>?_)
  ·
   refine sr<|oW 1 ⟨rfl,rfl,[Y 0],U,?_⟩
   refine⟨?_,od,b⟩
   show Value.int .i64 (0)=Y (jr x y)
   congr 1;unfold jr;split<;>(try split)<;>first|(exfalso;assumption)|omega
  ·
   refine WP.skip<|sr<|oW 1 ⟨rfl,rfl,[Y (-1)],U,?_⟩
   refine⟨?_,od,b⟩
   show Value.int .i64 (-1)=Y (jr x y)
   congr 1;unfold jr;split<;>(try split)<;>first|(exfalso;assumption)|omega
 ·
  refine WP.skip<|WP.seq<|sr<|oN 1<|cq rZ (fun p=>?_) (fun p=>?_)
  ·
   refine sr<|oW 1 ⟨rfl,rfl,[Y 1],U,?_⟩
   refine⟨?_,od,b⟩
   show Value.int .i64 (1)=Y (jr x y)
   congr 1;unfold jr;split<;>(try split)<;>first|(exfalso;assumption)|omega
  ·
   refine WP.skip<|WP.seq<|sr<|oX 2 ?_
   refine oq 16 (mE x y) fun sJ v_=>WO.nil<|cq v_ (fun u=>?_) (fun u=>?_)
   ·
    refine sr<|oW 1 ⟨rfl,rfl,[Y (-1)],U,?_⟩
    refine⟨?_,od,b⟩
    show Value.int .i64 (-1)=Y (jr x y)
    congr 1;unfold jr;split<;>(try split)<;>first|(exfalso;assumption)|omega
   ·
    refine WP.skip<|WP.seq<|sr<|oX 2 ?_
    refine oq 19 (mE y x) fun uL uC=>WO.nil<|cq uC (fun yH=>?_) (fun yH=>?_)
    ·
     refine sr<|oW 1 ⟨rfl,rfl,[Y 1],U,?_⟩
     refine⟨?_,od,b⟩
     show Value.int .i64 (1)=Y (jr x y)
     congr 1;unfold jr;split<;>(try split)<;>first|(exfalso;assumption)|omega
    ·
     refine WP.skip<|sr<|oW 1 ⟨rfl,rfl,[Y 0],U,?_⟩
     refine⟨?_,od,b⟩
     show Value.int .i64 (0)=Y (jr x y)
     congr 1;unfold jr;split<;>(try split)<;>first|(exfalso;assumption)|omega
theorem VL:e0.T.jo 42=some (.slice 3):=U
theorem VM:e0.T.size 3=some 1:=U
theorem uH:e0.T.agg 3=some false:=U
theorem YZ(K:SV Int)(O:Ht)(G:Nat)(hK:gB encI 1 O G K):WF e0 81 [K.v] O G (fL G O (JQ K.l)):=by
 obtain⟨a1,c2,h_⟩:=hK.shape
 have mc:=hK.2.2
 rw[h_]
 refine wd Tryz.f81 18 [.tmp 2] fun hE=>sr<|oN 1<|sr<|oN 1<|WP.seq<|sr<|oN 3<|WP.block ?_
 refine mu [3,6,7,8] (fun m hs ns vs=>∃(fW:Nat),fW+m=K.l.length/\vs=[Y 0,.slice a1 (K.l.length) c2,Y (.ofNat (K.l.length)),Y (.ofNat fW)]/\G<=ns/\HE (G) O hs/\(∀(j:Nat) (y:Int),j<fW->K.l[j]?=some y->y=0)) ?_ (K.l.length) ?_
 ·
  rintro ya ql jd _ ⟨fW,uz,rfl,oR,jt,hinv⟩ uA
  have j9:=hE.trans jt
  refine sr ?_
  refine oq 9 (kT fW K.l.length) fun nI rY=>WO.nil<|WP.seq<|cq rY (fun xq=>?_) (fun xq=>?_)
  ·
   refine WP.skip<|WP.seq<|WP.block<|sr ?_
   have nL:fW<K.l.length:=by omega
   refine WO.cons (WC.iy h_ hK (fW) VL VM (nL) ?_)
   obtain⟨lH,kM⟩:=gE nL
   refine WO.cons (WC.lz (Y lH) h_ (hK.mono j9 nR) kM rfl uH<|oN 1<|sr<|oX 2 ?_)
   refine oq 14 (qS lH 0) fun o e=>WO.nil<|cq e (fun b=>?_) (fun b=>?_)
   ·
    refine sr<|oW 2 ⟨rfl,rfl,[Y lH],U,?_⟩
    exact⟨.inr ⟨_,lH,rfl,kM,b,hinv⟩,od,j9⟩
   ·
    refine WP.skip<|WP.region<|ov 16 (Y (.ofNat (fW+1))) ?_ (fun _ _ _=>by rw[<-gQ (show fW+1<9223372036854775808 by omega)];kernel_rfl)
    refine oN 1<|⟨K.l.length-(fW+1),om,rfl,rfl,fW+1,om,U,?_,?_,?_⟩
    · exact oR
    · exact jt
    · intro j y hj hy;rcases fE.1 hj with hj|rfl;exact hinv j y hj hy;rw[kM]at hy;cases hy;exact Decidable.not_not.1 b
  ·
   refine WP.exit<|sr<|oW 2 ⟨rfl,rfl,[Y 0],U,?_⟩
   refine⟨.inl ⟨rfl,fun y hy=>?_⟩,od,j9⟩
   obtain⟨j,hj⟩:=fS hy
   exact hinv j y (by have:=(fp.1 hj).1;omega) hj
 ·
  exact⟨0,om,U,fg _,HE.refl _ _,(fun j y h=>absurd h (fK _))⟩
theorem TR(a b:fQ)(O:Ht)(G:Nat):WF e0 117 [.agg (fj a).toArray,.agg (fj b).toArray] O G (fL G O (DO (wX a b))):=by
 refine wd Tryz.f117 17 [.tmp 4] fun hE=>sr<|oB (.agg (fj a).toArray) (fj a) fun jy iI ia=>?_
 refine oB (.agg (fj b).toArray) (fj b) fun J p j=>?_
 have m:=p.get ia
 refine oN 1<|WP.seq<|WP.qZ [⟨[0,1,2,3,5,6,7,8],[0,1,2,3,5,6,7,8],some 4⟩,⟨[],[5,6,7,8],some 9⟩,⟨[10],[10],some 11⟩,⟨[],[],some 12⟩,⟨[],[],none⟩] U _ rfl<|WD.kZ<|nv 5 (pt G 0)<|WN.hZ rfl (WC.jW G 0 (Y a.hY) U uH m rfl<|nv 7 (pt (G+1) 0)<|WN.hZ rfl (WC.jW (G+1) 0 (Y b.hY) U uH j rfl<|nv 10 (pt G (0+1))<|WN.hZ rfl (WC.jW G (0+1) (Y a.gY) U uH m rfl<|nv 12 (pt (G+1) (0+1))<|WN.hZ rfl (WC.jW (G+1) (0+1) (Y b.gY) U uH j rfl<|WN.nil ⟨?_,?_⟩))))
 ·
  refine cv (pt G 0) (iR ..)<|qk G 0 (Y a.hY) uH m rfl (iF ..)<|cv (pt (G+1) 0) (iR ..)<|qk (G+1) 0 (Y b.hY) uH j rfl (iF ..)<|cv (pt G (0+1)) (iR ..)<|qk G (0+1) (Y a.gY) uH m rfl (iF ..)<|cv (pt (G+1) (0+1)) (iR ..)<|qk (G+1) (0+1) (Y b.gY) uH j rfl (iF ..) ?_
  exact jc.nil
 refine WC.at rfl (WC.call 9 82 ([Y a.hY,Y b.hY]) kf ((GY (a.hY) (b.hY) J (G+1+1)).mono ?_))
 rintro _ C F ⟨rfl,xI,jE⟩
 refine WD.kZ<|WN.nil ⟨?_,?_⟩
 ·
  refine cv (pt G (0+1)) (iR ..)<|qk G (0+1) (Y a.gY) uH (jE.get m) rfl (iF ..)<|cv (pt (G+1) (0+1)) (iR ..)<|qk (G+1) (0+1) (Y b.gY) uH (jE.get j) rfl (iF ..) ?_
  exact jc.nil
 refine WC.at rfl (WC.call 14 82 ([Y a.gY,Y b.gY]) kf ((GY (a.gY) (b.gY) C (F)).mono ?_))
 rintro _ E e ⟨rfl,K,z⟩
 refine WD.kZ<|WN.hZ rfl (WC.buildSlice [Y (jr (a.hY) (b.hY)),Y (jr (a.gY) (b.gY))] rfl U ?_)
 obtain⟨u,y,A,o⟩:=boxed E (e) [Y (jr (a.hY) (b.hY)),Y (jr (a.gY) (b.gY))]
 rw[y];clear y
 refine WN.nil ⟨?_,?_⟩
 ·
  refine jc.new e (.slice (some ⟨e,0,none⟩) (2) 2) [Y (jr (a.hY) (b.hY)),Y (jr (a.gY) (b.gY))] (fun _=>by kernel_rfl) o (u9 ..) (by simp[uU,iF,iO,wL,xW]) ?_
  exact jc.nil
 refine WC.at rfl (WC.call 16 81 ([.slice (some ⟨e,0,none⟩) (2) 2]) kf (((YZ (⟨.slice (some ⟨e,0,none⟩) 2 2,[jr (a.hY) (b.hY),jr (a.gY) (b.gY)]⟩:SV Int) u (e+1) (gB.ny (enc:=encI) (by simp[encI]) o rfl (by decide) om (by simp):gB encI 1 u (e+1) (⟨.slice (some ⟨e,0,none⟩) 2 2,[jr (a.hY) (b.hY),jr (a.gY) (b.gY)]⟩:SV Int))).mono (fun v e9 e_ h=>(⟨JQ.two h.1,h.2.1,h.2.2⟩:fL _ _ (DO (vg (jr (a.hY) (b.hY)) (jr (a.gY) (b.gY)))) v e9 e_))).mono ?_))
 rintro _ M N ⟨rfl,L,B⟩
 refine WD.kZ<|WN.nil ⟨?_,?_⟩
 ·
  exact jc.nil
 refine WC.at rfl (WC.val 4 (Y (vg (jr (a.hY) (b.hY)) (jr (a.gY) (b.gY)))) kf<|WD.last<|WN.nil ⟨?_,?_⟩)
 ·
  exact jc.nil
 refine WP.ret ⟨rfl,rfl,[Y (vg (jr (a.hY) (b.hY)) (jr (a.gY) (b.gY)))],U,?_⟩
 refine⟨?_,od,((((((hE.trans iI).trans p).trans jE).trans z).trans A).trans B)⟩
 show Value.int .i64 (vg (jr (a.hY) (b.hY)) (jr (a.gY) (b.gY)))=Y (wX a b)
 rfl
end
end Sw
namespace Go.Proofs
open Go.Shelf
def Tryz.Pg:Go.Shelf.Ren:=⟨fun|144=>348|143=>416|219=>448|217=>463|225=>464|224=>465|267=>466|266=>474|314=>475|n=>n,fun|9=>9|4=>4|3=>3|5=>5|46=>416|146=>502|51=>499|n=>n,fun|1=>11|n=>n⟩
theorem Tryz.XA:Go.Proofs.Lays.n144 Tryz.prog Tryz.Pg:={
 mixed:=by kernel_rfl
 f143:=Tryz.func416.trans (congrArg some (by kernel_rfl))
 f144:=Tryz.func348.trans (congrArg some (by kernel_rfl))
 f217:=Tryz.func463.trans (congrArg some (by kernel_rfl))
 f219:=Tryz.func448.trans (congrArg some (by kernel_rfl))
 f224:=Tryz.func465.trans (congrArg some (by kernel_rfl))
 f225:=Tryz.func464.trans (congrArg some (by kernel_rfl))
 f266:=Tryz.func474.trans (congrArg some (by kernel_rfl))
 f267:=Tryz.func466.trans (congrArg some (by kernel_rfl))
 f314:=Tryz.func475.trans (congrArg some (by kernel_rfl))
 t3:=Tryz.underlying3
 a3:=Tryz.isAgg3
 z3:=Tryz.sizeOf3
 v3:=Tryz.zeroValue3
 t4:=Tryz.underlying4
 a4:=Tryz.isAgg4
 z4:=Tryz.sizeOf4
 v4:=Tryz.zeroValue4
 t5:=Tryz.underlying5
 a5:=Tryz.isAgg5
 z5:=Tryz.sizeOf5
 v5:=Tryz.zeroValue5
 t9:=Tryz.underlying9
 a9:=Tryz.isAgg9
 z9:=Tryz.sizeOf9
 v9:=Tryz.zeroValue9
 t46:=Tryz.underlying416
 a46:=Tryz.isAgg416
 z46:=Tryz.sizeOf416
 v46:=Tryz.zeroValue416
 t51:=Tryz.underlying499
 a51:=Tryz.isAgg499
 z51:=Tryz.sizeOf499
 v51:=Tryz.zeroValue499
 t146:=Tryz.underlying502
 a146:=Tryz.isAgg502
 z146:=Tryz.sizeOf502
 v146:=Tryz.zeroValue502
 g1:=by kernel_rfl}
open Go.RowKit Go.Lib in
theorem Tryz.strings_Contains(s sub:ByteArray)(m:Int)(w:World)(hs:s.size<4294967281)(hm:w.cell? ⟨11,0,none⟩=some (.int .i64 m)):
 Calls Tryz.prog 348 #[.string s,.string sub] w fun e w'=>e=.returned (.bool (Lib.contains s.data.toList sub.data.toList))/\w'=w:=Any.strings_Contains Tryz.XA s sub m w hs hm
def Tryz.TS:Go.Shelf.Ren:=⟨fun|6=>209|15=>221|14=>285|28=>303|29=>304|20=>359|21=>360|22=>361|23=>362|24=>363|25=>364|26=>365|27=>366|46=>419|47=>383|48=>384|49=>420|50=>421|57=>450|n=>n,fun|22=>48|24=>104|25=>263|3=>3|39=>416|0=>0|53=>499|55=>501|4=>4|46=>493|45=>492|50=>60|5=>5|9=>9|66=>571|70=>401|76=>616|77=>178|n=>n,fun|n=>n⟩
theorem Tryz.Ww:Go.Proofs.SlLaysF0.n6 Tryz.prog Tryz.TS:={
 mixed:=by kernel_rfl
 f6:=⟨Tryz.f209.name,by decide,Tryz.func209.trans (congrArg some (by kernel_rfl))⟩
 f14:=⟨Tryz.f285.name,by decide,Tryz.func285.trans (congrArg some (by kernel_rfl))⟩
 f15:=Tryz.func221.trans (congrArg some (by kernel_rfl))
 f20:=⟨Tryz.f359.name,by decide,Tryz.func359.trans (congrArg some (by kernel_rfl))⟩
 f21:=⟨Tryz.f360.name,by decide,Tryz.func360.trans (congrArg some (by kernel_rfl))⟩
 f22:=⟨Tryz.f361.name,by decide,Tryz.func361.trans (congrArg some (by kernel_rfl))⟩
 f23:=⟨Tryz.f362.name,by decide,Tryz.func362.trans (congrArg some (by kernel_rfl))⟩
 f24:=⟨Tryz.f363.name,by decide,Tryz.func363.trans (congrArg some (by kernel_rfl))⟩
 f25:=⟨Tryz.f364.name,by decide,Tryz.func364.trans (congrArg some (by kernel_rfl))⟩
 f26:=⟨Tryz.f365.name,by decide,Tryz.func365.trans (congrArg some (by kernel_rfl))⟩
 f27:=⟨Tryz.f366.name,by decide,Tryz.func366.trans (congrArg some (by kernel_rfl))⟩
 f28:=Tryz.func303.trans (congrArg some (by kernel_rfl))
 f29:=Tryz.func304.trans (congrArg some (by kernel_rfl))
 f46:=⟨Tryz.f419.name,by decide,Tryz.func419.trans (congrArg some (by kernel_rfl))⟩
 f47:=Tryz.func383.trans (congrArg some (by kernel_rfl))
 f48:=Tryz.func384.trans (congrArg some (by kernel_rfl))
 f49:=⟨Tryz.f420.name,by decide,Tryz.func420.trans (congrArg some (by kernel_rfl))⟩
 f50:=⟨Tryz.f421.name,by decide,Tryz.func421.trans (congrArg some (by kernel_rfl))⟩
 f57:=⟨Tryz.f450.name,by decide,Tryz.func450.trans (congrArg some (by kernel_rfl))⟩
 t0:=Tryz.underlying0
 a0:=Tryz.isAgg0
 z0:=Tryz.sizeOf0
 v0:=Tryz.zeroValue0
 t3:=Tryz.underlying3
 a3:=Tryz.isAgg3
 z3:=Tryz.sizeOf3
 v3:=Tryz.zeroValue3
 t4:=Tryz.underlying4
 a4:=Tryz.isAgg4
 z4:=Tryz.sizeOf4
 v4:=Tryz.zeroValue4
 t5:=Tryz.underlying5
 a5:=Tryz.isAgg5
 z5:=Tryz.sizeOf5
 v5:=Tryz.zeroValue5
 t9:=Tryz.underlying9
 a9:=Tryz.isAgg9
 z9:=Tryz.sizeOf9
 v9:=Tryz.zeroValue9
 t22:=Tryz.underlying48
 a22:=Tryz.isAgg48
 z22:=Tryz.sizeOf48
 v22:=Tryz.zeroValue48
 t25:=Tryz.underlying263
 a25:=Tryz.isAgg263
 z25:=Tryz.sizeOf263
 v25:=Tryz.zeroValue263
 t39:=Tryz.underlying416
 a39:=Tryz.isAgg416
 z39:=Tryz.sizeOf416
 v39:=Tryz.zeroValue416
 t45:=Tryz.underlying492
 a45:=Tryz.isAgg492
 z45:=Tryz.sizeOf492
 v45:=Tryz.zeroValue492
 t46:=Tryz.underlying493
 a46:=Tryz.isAgg493
 z46:=Tryz.sizeOf493
 v46:=Tryz.zeroValue493
 t50:=Tryz.underlying60
 a50:=Tryz.isAgg60
 z50:=Tryz.sizeOf60
 v50:=Tryz.zeroValue60
 t53:=Tryz.underlying499
 a53:=Tryz.isAgg499
 z53:=Tryz.sizeOf499
 v53:=Tryz.zeroValue499
 t55:=Tryz.underlying501
 a55:=Tryz.isAgg501
 z55:=Tryz.sizeOf501
 v55:=Tryz.zeroValue501
 t66:=Tryz.underlying571
 a66:=Tryz.isAgg571
 z66:=Tryz.sizeOf571
 v66:=Tryz.zeroValue571
 t70:=Tryz.underlying401
 a70:=Tryz.isAgg401
 z70:=Tryz.sizeOf401
 v70:=Tryz.zeroValue401
 t76:=Tryz.underlying616
 a76:=Tryz.isAgg616
 z76:=Tryz.sizeOf616
 v76:=Tryz.zeroValue616
 t77:=Tryz.underlying178
 a77:=Tryz.isAgg178
 z77:=Tryz.sizeOf178
 v77:=Tryz.zeroValue178}
end Go.Proofs
namespace Sw
noncomputable section
open Go Go.Proofs Go.RowKit Go.Sort
set_option maxRecDepth 100000
theorem XB(a b:fQ):WF e0 117 [.agg (fj a).toArray,.agg (fj b).toArray] .nil 12 (fun v _ _=>v=.int .i64 (wX a b)):=(TR a b .nil 12).mono fun _ _ _ h=>h.1
theorem XC(ga off cap:Nat)(d:Array fQ)(w:World)(hc:CmpLays Tryz.prog 117 #[] fj 2 wX ga off d.size w)(hH:HoldsK fj 2 w ga off d)(hb:ga<w.heap.size)(hs:d.size<4611686018427387904):Calls Tryz.prog 209 #[.slice (some ⟨ga,off,none⟩) d.size cap,.func (.func 117) #[] #[]] w fun j w'=>j=.returned (.tuple #[])/\∃n os,w'=sortWorldK fj 2 w ga off n (wY d.toList).toArray os:=by
 have e:∀args w,(callFunc 117 args).run Tryz.prog w=.ok (.enter 117 args) w:=enters_of Tryz.func117 (by kernel_rfl) rfl
 exact AnyQ.slices_SortFunc_total Tryz.Ww 2 Tryz.isAgg104 Tryz.sizeOf104 fj (fun _=>rfl) (fun x v b=>by
  simp only[fj,List.mem_cons,List.not_mem_nil,or_false]at b
  rcases b with rfl|rfl<;>rfl) wX W2 117 #[] ga off cap d w e hc hH hb hs W3
theorem VN(p:Option Addr)(cap:Nat)(w:World):Calls Tryz.prog 209 #[.slice p 0 cap,.func (.func 117) #[] #[]] w fun b w'=>b=.returned (.tuple #[])/\w'=w:=AnyF.slices_SortFunc_none Tryz.Ww p cap _ w
end
end Sw
namespace Sw
noncomputable section
open Go Go.Proofs Go.RowKit
set_option maxRecDepth 100000
def IE(B0:Nat)(w0:World):Prop:=11<B0/\∃m,w0.cell? ⟨11,0,none⟩=some (.int .i64 m)
theorem Oq:LS IE:=fun B0 w0 w ⟨h1,m,D⟩ hb hs=>⟨by omega,m,by rw[IJ hb h1];exact D⟩
theorem TU:KS.Ok Tryz.prog/\KS.CO:=by
 have b:∀t i,KS.kn t=some i->i∈Tryz.types.toList/\has C_ t=true/\TT.get t=some i:=fun t i h=>by
  have h:(bif has C_ t then TT.get t else none)=some i:=h
  cases hm:has C_ t with
  |false=>rw[hm]at h;cases h
  |true=>
   rw[hm]at h
   have h:TT.get t=some i:=h
   have D:=h
   rw[QW,xj]at D
   exact⟨fa D,rfl,h⟩
 have e:∀t i,TT.get t=some i->has C_ t=true->MU i=true/\Bx KS i=true:=fun t i h hm=>by
  have key:(Tryz.types.toList.zipIdx.all fun p=>!(has C_ p.2)||(MU p.1&&Bx KS p.1))=true:=by kernel_rfl
  rw[QW,xj]at h
  have:=fO.1 key (i,t) (by rw[List.mem_zipIdx_iff_getElem?];exact h)
  simp only[hm,Bool.not_true,Bool.false_or,Bool.and_eq_true]at this
  exact this
 refine Zk (fun t i h=>?_) (fun t h=>?_)
 · obtain⟨h1,D,h3⟩:=b t i h
   refine⟨?_,e t i h3 D⟩
   have h4:=Yl t i h3
   have jH:t<Tryz.prog.types.size:=(gf.1 h4).1
   show(if t<Tryz.prog.types.size then Tryz.prog.types[t]? else _)=_
   rw[if_pos jH];exact h4
 · have h:has IN t=true:=h
   have jH:t<533:=Sk (m:=IN) (N:=533) (by kernel_rfl) h
   have key:((List.range 533).all fun t=>!(has IN t)||(!(Tryz.prog.stoodInHeld t)&&(!(Tryz.prog.eqGuardType Tryz.prog.depth t)&&(match Tryz.prog.underlying t with|some (.struct fs)=>fs.toList.all (·.name != "_")|_=>true))))=true:=by kernel_rfl
   have:=sc key jH
   simp only[h,Bool.not_true,Bool.false_or,Bool.and_eq_true,Bool.not_eq_true']at this
   refine⟨this.1,this.2.1,fun fs hu f hf=>?_⟩
   have h3:=this.2.2
   rw[hu]at h3
   have:=fO.1 h3 f hf
   simpa using this
theorem Y0(f:FuncId)(fn:Func)(h:Yo f=some fn):Tryz.prog.funcs[f]?=some fn/\Al 12 fn=true:=by
 have h:(bif has vZ f then FT.get f else none)=some fn:=h
 cases hm:has vZ f with
 |false=>rw[hm]at h;cases h
 |true=>
  rw[hm]at h
  have h:FT.get f=some fn:=h
  refine⟨Ym f fn h,?_⟩
  rw[Wh,xj]at h
  have jH:f<521:=by
   have h1:f<Tryz.funcs.toList.length:=(fp.1 h).1
   have D:Tryz.funcs.toList.length=521:=by kernel_rfl
   rw[D]at h1;exact h1
  have j:(fn,f)∈Tryz.funcs.toList.zipIdx:=by rw[List.mem_zipIdx_iff_getElem?];exact h
  have b:∀lo hi,(Tryz.funcs.toList.zipIdx.all fun p=>!(Nat.ble lo p.2&&Nat.blt p.2 hi)||(!(has vZ p.2)||Al 12 p.1))=true->lo<=f->f<hi->Al 12 fn=true:=fun lo hi key h1 D=>by
   have:=fO.1 key (fn,f) j
   simp only[hm,Nat.ble_eq_true_of_le h1,show Nat.blt f hi=true from Nat.ble_eq_true_of_le D,Bool.and_true,Bool.not_true,Bool.false_or]at this
   exact this
  rcases gn f 85 with h0|h0
  · exact b _ _ aas (gI _) h0
  rcases gn f 170 with h1|h1
  · exact b _ _ aat (h0) h1
  rcases gn f 255 with D|D
  · exact b _ _ aau (h1) D
  rcases gn f 340 with h3|h3
  · exact b _ _ aav (D) h3
  rcases gn f 425 with h4|h4
  · exact b _ _ aaw (h3) h4
  rcases gn f 510 with e|e
  · exact b _ _ aax (h4) e
  exact b _ _ aay (e) jH
theorem Y1(t:TypeId)(n:String)(f:FuncId)(h:Wj t n=some f):IB KS t n f=true:=by
 unfold Wj at h
 cases hb:(Nat.beq t 469&&(n== "stopwatch/typing.parts"))with
 |true=>
  rw[hb]at h;cases h
  rw[Bool.and_eq_true]at hb
  obtain rfl:=beq_eq hb.1
  obtain rfl:n= "stopwatch/typing.parts":=by simpa using hb.2
  kernel_rfl
 |false=>
 rw[hb]at h
 simp only[cond_false]at h
 cases hb:(Nat.beq t 553&&(n== "stopwatch/typing.parts"))with
 |true=>
  rw[hb]at h;cases h
  rw[Bool.and_eq_true]at hb
  obtain rfl:=beq_eq hb.1
  obtain rfl:n= "stopwatch/typing.parts":=by simpa using hb.2
  kernel_rfl
 |false=>
 rw[hb]at h
 simp only[cond_false]at h
 cases h
theorem Dw(K:FuncId->Option Ju):mY Tryz.prog 12 ⟨KS,fun f=>(Yo f).bind LU,Wj,K,0⟩:=Zj TU.1 TU.2 Y0 Y1
theorem Y2(B0:Nat)(w0:World)(hi:IE B0 w0):so Tryz.prog 12 B0 w0 e0:=by
 intro f u h
 have h:(bif Nat.beq f 348 then some Gb else none)=some u:=h
 cases hb:Nat.beq f 348 with
 |false=>rw[hb]at h;cases h
 |true=>
  rw[hb]at h;cases h
  obtain rfl:=beq_eq hb
  refine⟨⟨Tryz.f348,_,Tryz.func348,rfl,by kernel_rfl⟩,fun l args O G g w H hg hl=>?_⟩
  by_cases j:∃a b,l=[.string a,.string b]
  · obtain⟨a,b,rfl⟩:=j
    cases jH:Nat.blt (strs a).length 4294967281 with
    |false=>exact .inr ⟨fun _ _=>.gu 0,fun Z k p=>by simp only[Gb,jH,cond_false],fun _=>tX.fail fun _ _=>rfl⟩
    |true=>
     refine .inr ⟨fun Z k=>k (.bool (Lib.contains (strs a) (strs b))) O G Z,fun Z k p=>by simp only[Gb,jH,cond_true],fun fs k=>.here (.inr ⟨_,O,G,fun Z=>rfl,?_⟩)⟩
     have o:args=#[.string a,.string b]:=by
      obtain⟨args⟩:=args
      match args,hl with
      |[x,y],hl=>
       have h1:=hl.head
       have D:=hl.tail.head
       rw[h1.lr,D.lr]
      |[],hl=>cases hl.1
      |[_],hl=>cases hl.1
      |_::_::_::_,hl=>cases hl.1
     subst o
     obtain⟨h1,m,D⟩:=hi
     have hm:w.cell? ⟨11,0,none⟩=some (.int .i64 m):=by rw[IJ H.below.b h1];exact D
     have hs:a.size<4294967281:=by
      have:=fk jH
      have e:(strs a).length=a.size:=by unfold strs;rw[Array.length_toList];rfl
      rw[e]at this;exact this
     exact qF.Nc H (.bool _) (Tryz.strings_Contains a b m w hs hm) fs
  · refine .inr ⟨fun _ _=>.gu 0,fun Z k p=>?_,fun _=>tX.fail fun _ _=>rfl⟩
    show(match l with|[.string a,.string b]=>_|_=>(.gu 0:XW (Nat×St)))=.gu 0
    split
    · rename_i a b;exact absurd ⟨a,b,rfl⟩ j
    · rfl
theorem Ef{e:Env}(ok:mY Tryz.prog 12 e)(nm:∀B0 w0,IE B0 w0->so Tryz.prog 12 B0 w0 e){f:FuncId}{fn:Func}{c:Code}(m:Tryz.prog.funcs[f]?=some fn)(hb:fn.body=some c)(hn:(fn.name== "runtime.NumGoroutine")=false)
 {o6:List w7} (hold:∀p∈o6,∃n b,zL 12 e f n b p=true) (B0:Nat) (w0:World) (hi:IE B0 w0):
 so Tryz.prog 12 B0 w0 {e with K:=fun x=>bif Nat.beq x f then some (yB 12 o6)else e.K x}:=by
 intro x o h
 have h:(bif Nat.beq x f then some (yB 12 o6)else e.K x)=some o:=h
 cases j:Nat.beq x f with
 |false=>rw[j]at h;exact nm B0 w0 hi x o h
 |true=>
  rw[j]at h;cases h
  obtain rfl:=beq_eq j
  exact⟨⟨fn,c,m,hb,hn⟩,fun l args O G g w H hg hl=>WT Oq hi ok nm hold l args O G g w H hg hl⟩
theorem UF:∀B0 w0,IE B0 w0->so Tryz.prog 12 B0 w0 e1:=
 Ef (Dw _) Y2 Tryz.func415 rfl (by kernel_rfl) fun b h=>by
  simp only[List.mem_cons,List.not_mem_nil,or_false]at h
  subst h
  exact⟨_,_,TQ⟩
theorem aaz:∀B0 w0,IE B0 w0->so Tryz.prog 12 B0 w0 e2:=
 Ef (Dw _) UF Tryz.func52 rfl (by kernel_rfl) fun b h=>by
  simp only[List.mem_cons,List.not_mem_nil,or_false]at h
  subst h
  exact⟨_,_,VK⟩
theorem aaA:∀B0 w0,IE B0 w0->so Tryz.prog 12 B0 w0 e3:=
 Ef (Dw _) aaz Tryz.func44 rfl (by kernel_rfl) fun b h=>by
  simp only[List.mem_cons,List.not_mem_nil,or_false]at h
  subst h
  exact⟨_,_,Ry⟩
theorem aaB:∀B0 w0,IE B0 w0->so Tryz.prog 12 B0 w0 eS:=
 Ef (Dw _) aaA Tryz.func5 rfl (by kernel_rfl) fun b h=>by
  simp only[List.mem_cons,List.not_mem_nil,or_false]at h
  subst h
  exact⟨_,_,ZC⟩
theorem aaC:∀B0 w0,IE B0 w0->so Tryz.prog 12 B0 w0 eT:=
 UE Oq (fun B0 w0 h=>by have:=h.1;omega) (Dw _) Y2 aaB Tryz.func209 rfl (by kernel_rfl) XB XC VN
theorem aaD(B0:Nat)(w0:World)(hi:IE B0 w0):so Tryz.prog 12 B0 w0 ex:=fun f b h=>by
 have h:(bif Nat.beq f 52||Nat.beq f 44 then none else eT.K f)=some b:=h
 cases hb:(Nat.beq f 52||Nat.beq f 44)with
 |true=>rw[hb]at h;cases h
 |false=>rw[hb]at h;exact aaC B0 w0 hi f b h
theorem ZD:mY Tryz.prog 12 ex:=Dw _
theorem Y3{O:Ht}{G:Nat}(h:∀b o,(yA zG .nil).get b=some o->O.get b=some o):WF ex 5 [] O G (fL G O (gi True)):=W1 (ng:=12) (by kernel_rfl) (by kernel_rfl) h
end
end Sw
namespace Sw
noncomputable section
open Go Go.RowKit Go.ChangeShapes
def ints(xs:List Int):List Value:=xs.map (.int .i64)
def numOf:Value->Int
 |.int _ z=>z
 |_=>0
theorem TV{H:Type}{enc:TypeId×Value->H}{P:Program}{w:World}{base:Nat}{spare:Nat->Bool}{held:Bool}{m:Nat}{t e:TypeId}{fs:Array Field}{Z:List Value}{x:DataW H×List MemPlace}(y:P.underlying t=some (.struct fs))(he:P.underlying e=some (.int .i64))(hc:P.cellsOf e=1)
 (hf:∀(i:Nat) (f:Field),fs[i]?=some f->f.type=e/\f.offset=i) (hn:P.cellsOf t=fs.size) (h:DataW.trod enc P w base spare held m t Z=some x):
 ∃b:List Int,b.length=fs.size/\Z=ints b/\x=(.agg (b.map fun z=>.lit (.int .i64 z)),[])/\∀z∈b,(Lit.int .i64 z).wf=true:=by
 obtain⟨xs,n,_,rfl,hl,hlen,hx⟩:=DataW.trod_struct y h
 have each:∀(i:Nat),i<fs.size->∃z,Z[i]?=some (.int .i64 z)/\xs[i]?=some (.lit (.int .i64 z),[])/\(Lit.int .i64 z).wf=true:=fun i hi=>by
  have j:=gA hi
  have h1:=hx i _ j
  obtain⟨D,h3⟩:=hf i _ j
  rw[D,h3,hc]at h1
  have p:Z[i]?=some (Z[i]'(by omega)):=fq (by omega)
  have h4:(Z.drop i).take 1=[Z[i]'(by omega)]:=by
   rw[List.drop_eq_getElem_cons (by omega)];rfl
  rw[h4]at h1
  have o:xs[i]?=some (xs[i]'(by omega)):=fq (by omega)
  rw[o]at h1
  cases n with
  |zero=>simp[DataW.trod]at h1
  |succ n=>
   generalize Z[i]'(by omega)=v at*
   unfold DataW.trod at h1
   rw[he]at h1
   cases v<;>simp only[reduceCtorEq]at h1
   rename_i k z
   split at h1
   · rename_i hk
     obtain⟨rfl,u⟩:=hk
     exact⟨z,p,by rw[o,<-h1],u⟩
   · cases h1
 have hl:Z.length=fs.size:=hl.trans hn
 have e1:Z=ints (Z.map numOf):=by
  refine List.ext_getElem? fun i=>?_
  rcases gn i fs.size with hi|hi
  · obtain⟨z,h1,_⟩:=each i hi
    simp only[ints,List.getElem?_map,h1,Option.map_some,numOf]
  · rw[List.getElem?_eq_none (by omega),List.getElem?_eq_none (by rw[ints,List.length_map,List.length_map];omega)]
 have e2:xs=(Z.map numOf).map fun z=>(.lit (.int .i64 z),[]):=by
  refine List.ext_getElem? fun i=>?_
  rcases gn i fs.size with hi|hi
  · obtain⟨z,h1,D,_⟩:=each i hi
    simp only[List.getElem?_map,h1,D,Option.map_some,numOf]
  · rw[List.getElem?_eq_none (by omega),List.getElem?_eq_none (by rw[List.length_map,List.length_map];omega)]
 refine⟨Z.map numOf,by rw[List.length_map,hl],e1,?_,fun z B=>?_⟩
 · rw[e2]
   congr 1
   · rw[List.map_map];rfl
   · rw[List.flatMap_map];induction Z.map numOf with
     |nil=>rfl
     |cons a l ih=>simp
 · obtain⟨v,A,rfl⟩:=List.mem_map.1 B
   obtain⟨i,hi,rfl⟩:=gC.1 A
   obtain⟨z,h1,_,h3⟩:=each i (by omega)
   rw[List.getElem?_eq_getElem hi]at h1
   rw[Option.some.inj h1];exact h3
def P4(b:TypeId)(fs:Array Field):Bool:=(List.range fs.size).all fun i=>match fs[i]? with
 |some f=>Nat.beq f.type b&&Nat.beq f.offset i
 |none=>false
theorem Ot{b:TypeId}{fs:Array Field}(h:P4 b fs=true):∀(i:Nat) (f:Field),fs[i]?=some f->f.type=b/\f.offset=i:=fun i f hf=>by
 have:=fO.1 h i (gL.2 (gf.1 hf).1)
 rw[hf]at this
 simp only[Bool.and_eq_true]at this
 exact⟨beq_eq this.1,beq_eq this.2⟩
def Ou(P:Program)(b ts:TypeId):Bool:=(match P.underlying ts with|some (.struct fs)=>P4 b fs&&Nat.beq fs.size 2|_=>false)&&(Nat.beq (P.cellsOf b) 1&&Nat.beq (P.cellsOf ts) 2)
theorem VO{P:Program}{W:World}{y ts:TypeId}(hi:P.underlying y=some (.int .i64))(O:Ou P y ts=true){laid:List (String×DataW Unit)}{ps:List MemPlace}(h:DataW.LaidVars P W laid ps){n:String}{a b:Int}(hm:(n,.agg [.lit (.int .i64 a),.lit (.int .i64 b)])∈laid){g:Nat}(hg:P.globalNamed n=some g)(B:(P.globals[g]?).map (·.type)=some ts):
 ∀(j:Nat) (v:Value),([.int .i64 a,.int .i64 b]:List Value)[j]?=some v->W.cell? ⟨g,j,none⟩=some v:=by
 induction laid generalizing ps with
 |nil=>cases hm
 |cons x r ih=>
  obtain⟨J,d⟩:=x
  obtain⟨g',t,Z,z,p,q,h1,D,h3,h4,A,_⟩:=h
  rcases fT.1 hm with hm|hm
  · cases hm
    obtain rfl:=gb (hg.symm.trans h1)
    obtain rfl:=gb (B.symm.trans D)
    unfold Ou at O
    simp only[Bool.and_eq_true]at O
    obtain⟨e,jy,o⟩:=O
    split at e
    · rename_i fs E
      rw[Bool.and_eq_true]at e
      have u:=beq_eq e.2
      obtain⟨F,m,z2,z3,_⟩:=TV E hi (beq_eq jy) (Ot e.1) (by rw[beq_eq o,u]) h4
      intro j v C
      rw[World.var?_cell hg h3 j]
      rw[u]at m
      match F,m with
      |[z0,m],_=>
       simp only[Prod.mk.injEq,DataW.agg.injEq,List.map_cons,List.map_nil,List.cons.injEq,DataW.lit.injEq,Lit.int.injEq,true_and,and_true]at z3
       obtain⟨⟨rfl,rfl⟩,rfl⟩:=z3
       rw[<-Array.getElem?_toList,z2]
       exact C
    · cases e
  · exact ih A hm
theorem wO.cons{P:Program}{O:Ht}{G n:Nat}{t:TypeId}{ts:List TypeId}{lss:List (List Value)}(h:wO P O G n (t::ts) lss):∃l b,lss=l::b/\Rp P O G n t l/\wO P O G n ts b:=by
 cases lss with
 |nil=>exact h.elim
 |cons l b=>exact⟨l,b,rfl,h⟩
theorem wO.nil{P:Program}{O:Ht}{G n:Nat}{lss:List (List Value)}(h:wO P O G n [] lss):lss=[]:=by
 cases lss with
 |nil=>rfl
 |cons l b=>exact h.elim
theorem yF.cons{P:Program}{O:Ht}{G:Nat}{t:TypeId}{ts:List TypeId}{b:List Value}(h:yF P O G (t::ts) b):∃v vs,b=v::vs/\(∃n e,Rp P O G n t e/\e.length=P.cellsOf t/\v=AT P t e)/\yF P O G ts vs:=by
 cases b with
 |nil=>exact h.elim
 |cons v vs=>exact⟨v,vs,rfl,h⟩
theorem yF.nil{P:Program}{O:Ht}{G:Nat}{b:List Value}(h:yF P O G [] b):b=[]:=by
 cases b with
 |nil=>rfl
 |cons v vs=>exact h.elim
theorem ba{a b:Bool}(h:a=true)(k:b=true):(a&&b)=true:=by rw[h,k];rfl
theorem Ph{P:Program}(h:P.funcs.any Func.goes=false)(f:FuncId):P.goes f=false:=by
 have h1:∀g:Nat,((P.funcs[g]?).any Func.goes)=false:=fun g=>by
  cases hg:P.funcs[g]? with
  |none=>rfl
  |some fn=>
   rw[Array.any_eq_false]at h
   obtain⟨jH,rfl⟩:=gf.1 hg
   simpa using h g jH
 unfold Program.goes
 rw[h,Bool.and_false,Bool.or_false,List.any_eq_false]
 intro g _
 rw[h1];simp
theorem TW{P:Program}{c:OpenClaim}(h:P.funcs.any Func.goes=false)(hs:c.start=.entering):false=c.goesBy P:=by
 unfold OpenClaim.goesBy Program.goesAt Program.goesFrom
 have h:∀o:Option FuncId,o.any P.goes=false:=fun o=>by
  cases o with
  |none=>rfl
  |some f=>exact Ph h f
 rw[h,hs];rfl
theorem VP{p:Pinned}{c:OpenClaim}{f0:FuncId}{Y4:Func}{e:Bool}(h1:p.checked.prog.funcNamed c.func=some f0)(D:p.checked.prog.funcs[f0]?=some Y4)(h3:e=p.checked.prog.looks [])
 (h4:(Y4.params.toList.all fun t=>!(p.checked.prog.wantsStandIn t))=true):
 ∀f fn,p.checked.prog.funcNamed c.func=some f->p.checked.prog.funcs[f]?=some fn->e=p.checked.prog.looks []/\∀(j:Nat) t,fn.params[j]?=some t->p.checked.prog.wantsStandIn t=false:=by
 intro f fn hf b
 obtain rfl:=gb (h1.symm.trans hf)
 obtain rfl:=gb (D.symm.trans b)
 refine⟨h3,fun j t m=>?_⟩
 have:=fO.1 h4 t (fa (by rw[Array.getElem?_toList];exact m))
 simpa using this
end
end Sw
