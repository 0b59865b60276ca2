/- A part of the proof that the law returns true for every input that its row speaks of. No condition is added. -/
import Derived.Test.YtecbgehgkpgbmaaGreatDoorSwAJ
import Derived.Test.YtecbgehgkpgbmaaGreatDoorSwAG
namespace Sw
noncomputable section
open Go Go.Proofs Go.RowKit
set_option maxRecDepth 100000
set_option maxHeartbeats 1600000
theorem uu{α β:Type}{k:α->β}{l:List α}{i:Nat}{x:α}(h:l[i]?=some x):kZ ((l.take (i+1)).map k)=xY (kZ ((l.take i).map k)) (k x):=by
 rw[List.take_add_one,h,Option.toList_some,List.map_append];exact Io _ _
def oV(L:List ByteArray):Prop:=(∀s∈L,Is s)/\L.Nodup
theorem Aj{α:Type}{N:α->ByteArray}{l:List α}{i:Nat}{x:α}(hx:l[i]?=some x)(h:oV ((l.take i).map N))(q:¬(¬Is (N x)\/N x∈kZ ((l.take i).map N))):oV ((l.take (i+1)).map N):=by
 rw[EW]at q
 rw[List.take_add_one,hx,Option.toList_some,List.map_append]
 refine⟨fun s hs=>?_,List.nodup_append.2 ⟨h.2,by simp,fun a j b hb=>?_⟩⟩
 · rcases List.mem_append.1 hs with hs|hs
   · exact h.1 s hs
   · rw[List.mem_singleton.1 hs];exact Classical.not_not.1 fun k=>q (.inl k)
 · rw[List.mem_singleton.1 hb];rintro rfl;exact q (.inr j)
theorem BB{α:Type}{N:α->ByteArray}{l:List α}{i:Nat}{x:α}(hx:l[i]?=some x)(q:¬Is (N x)\/N x∈kZ ((l.take i).map N)):¬oV (l.map N):=by
 intro h
 rw[EW]at q
 rcases q with q|q
 · exact q (h.1 _ (List.mem_map.2 ⟨x,List.mem_of_getElem? hx,rfl⟩))
 · have hi:=(List.getElem?_eq_some_iff.1 hx).1
   have e:l=l.take i++x::l.drop (i+1):=by
    have:=List.take_append_drop i l
    rw[List.drop_eq_getElem_cons hi]at this
    rw[(List.getElem?_eq_some_iff.1 hx).2]at this
    exact this.symm
   have h2:=h.2
   rw[e,List.map_append,List.nodup_append]at h2
   exact h2.2.2 _ q _ (List.mem_map.2 ⟨x,List.mem_cons_self ..,rfl⟩) rfl
def Bb(C:j7):Prop:=((((Is C.lL/\oV (C.iB.l.map (·.lL)))/\oV (C.fE.l.map (·.lL)))/\oV (C.kI.l.map (·.lL)))/\oV (C.js.l.map (·.lL)))/\oV (C.iw.l.map (·.lL))
theorem zm:MK ex.T 9 (fun x:ByteArray=>.string x):=XB kr
theorem BC:ex.T.ji 458=some (.map 9 4):=kr
theorem O4:ex.T.zero 4=some (.bool false):=kr
theorem GX:ex.T.agg 140=some true:=kr
theorem GY:ex.T.agg 146=some true:=kr
theorem Dl:ex.T.agg 355=some true:=kr
theorem Dm:ex.T.agg 359=some true:=kr
theorem xq:ex.T.size 140=some 2:=kr
theorem EZ:ex.T.size 146=some 2:=kr
theorem xu:ex.T.size 355=some 4:=kr
theorem xv:ex.T.size 359=some 3:=kr
theorem CJ:ex.T.ji 22=some (.slice 140):=kr
theorem O5:ex.T.ji 25=some (.slice 146):=kr
theorem O6:ex.T.ji 26=some (.slice 355):=kr
theorem O7:ex.T.ji 27=some (.slice 359):=kr
theorem R2:ex.T.zero 140=some (.agg ⟨[.string (⟨#[]⟩),iN 0]⟩):=kr
theorem R3:ex.T.zero 146=some (.agg ⟨[.string (⟨#[]⟩),iN 0]⟩):=kr
theorem R4:ex.T.zero 355=some (.agg ⟨[.string (⟨#[]⟩),iN 0,iN 0,.bool false]⟩):=kr
theorem R5:ex.T.zero 359=some (.agg ⟨[.string (⟨#[]⟩),iN 0,iN 0]⟩):=kr
theorem XE{p:Prop}(h:p:=by
 obtain⟨a1,c2,hR⟩:=hK.shape
 have lW:=hK.2.2
 rw[hR]
 refine F7 mn fun hE=>sr<|oN 1<|sr<|WO.cons (WC.makeMap rfl ?_)
 obtain⟨Bz,zn,qm,vu⟩:=mapped hp (nx) (.map [] 0)
 rw[zn];clear zn
 refine oN 1<|WP.seq<|sr<|oN 3<|WP.block ?_
 refine my [1,5,10,11,12] (fun m hs ns vs=>∃(gZ:Nat) (sJ:List MapEntry) (vB:Nat),gZ+m=K.l.length/\vs=[.func (.func f) #[] b,.map (some nx),.slice a1 (K.l.length) c2,iN (.ofNat (K.l.length)),iN (.ofNat gZ)]/\nx+1<=ns/\HE nx hp hs/\hs.get nx=some (.map sJ vB)/\(oV ((K.l.take gZ).map N))/\(kK (fun x:ByteArray=>.string x) (kZ ((K.l.take gZ).map N)) (fun _=>.bool true) sJ)) ?_ (K.l.length) ?_
 ·
  rintro EL Dn sK _ ⟨gZ,sJ,vB,It,rfl,xV,jQ,yR,hinv,vC⟩ By
  refine sr ?_
  refine oq 13 (kV gZ K.l.length) fun uB uC=>WO.nil<|WP.seq<|cq uC (fun xU=>?_) (fun xU=>?_)
  ·
   refine WP.skip<|WP.seq<|WP.block<|sr ?_
   have rJ:gZ<K.l.length:=by omega
   refine WO.cons (WC.iy hR hK (gZ) mZ oU (rJ) ?_)
   obtain⟨lq,pe⟩:=gE rJ
   refine WO.cons (WC.ly hR (hK.mono jQ nR) pe sO oU<|oA [.string (⟨#[]⟩),iN 0] RI fun vv sG uq=>?_)
   refine oS sK (0) (.agg (pc lq).toArray) (pc lq) (pc lq) oU rfl rfl uq fun w9 ur w_ Bc=>?_
   have vD:=(jQ.trans sG).trans ur
   refine WO.nil<|sr<|oX 1<|WO.cons (WC.jb sK (0) (pc lq) kr sO oU w_ rfl<|WO.cons (WC.call 18 f ((.agg (pc lq).toArray)::b.toList) kf ((hf gZ lq pe w9 (sK+1) om vD).mono ?_)))
   rintro _ qq pd ⟨rfl,Dh,oO⟩
   refine oN 1<|WP.seq<|sr<|oX 1<|oD 20 (zk pP qt (N lq) qq (pd)) fun O9 Iu um kh M7 qu=>?_
   have uo:=(vD.trans oO).trans qu
   have xX:=qu.get (oO.get ((Bc nx om).trans (sG.get yR)))
   refine oq 21 (nN Iu) fun xw Iv=>oX 1<|gF 22 xw (.map (some nx))<|gF 22 xw (.string ((N lq))) ?_
   obtain⟨zj,M8,ES⟩:=@nb (@decide ((N lq)∈(kZ ((K.l.take gZ).map N))) (Classical.propDecidable _)) ((N lq)∈(kZ ((K.l.take gZ).map N))) (@decide_eq_true_iff _ (Classical.propDecidable _))
   refine zQ 22 xw (.bool zj) (by rintro rfl;exact WC.opt (v:=.bool zj) 25 (o8 ex.T um.get 458 (.map (some nx)) ((fun x:ByteArray=>.string x) (N lq)) false) kf (uO (hp:=um.get) zm BC O4 xX vC (N lq) M8) rfl) ?_
   refine mj 26 (nO Iv ES) fun ET Ba=>WO.nil<|cq Ba (fun tj=>?_) (fun tj=>?_)
   ·
    refine sr<|oW 1 ⟨rfl,rfl,[.bool false],kr,?_⟩
    exact⟨⟨false,rfl,fun h=>(by cases h),fun h=>absurd h (BB pe tj)⟩,od,uo⟩
   ·
    refine WP.skip<|WP.region<|oX 2<|WO.cons (WC.mapUpdate (g:=(fun _=>.bool true)) (g':=(fun _=>.bool true)) nx (N lq) (.bool true) rfl kr kr kr zm BC xX vC (qL _) rfl (fun _ _=>rfl) ?_)
    rintro G0 jB Jp Dp G1 Ud G2
    refine WO.nil<|WP.region<|ov 29 (iN (.ofNat (gZ+1))) ?_ (fun _ _ _=>by rw[<-gU (show gZ+1<9223372036854775808 by omega)];kernel_rfl)
    refine oN 1<|⟨K.l.length-(gZ+1),om,rfl,rfl,gZ+1,G0,jB,om,kr,?_,?_,?_,?_,?_⟩
    · exact od
    · exact(uo.trans Dp)
    · exact G1
    · exact Aj pe hinv tj
    · rw[uu pe];exact G2
  ·
   refine WP.exit<|sr<|oW 1 ⟨rfl,rfl,[.bool true],kr,?_⟩
   have hT:K.l.take gZ=K.l:=List.take_of_length_le om
   rw[hT]at hinv
   exact⟨⟨true,rfl,fun _=>hinv,fun _=>rfl⟩,od,jQ⟩
 ·
  exact⟨0,([]:List MapEntry),0,om,kr,Nat.le_refl _,(hE.trans qm),vu,⟨(fun _ h=>by cases h),List.nodup_nil⟩,(show kK _ (kZ ((K.l.take 0).map N)) _ _ from kK.nil)⟩):p:=h
theorem Oa(pP:x_)(qt:wh)(N:tz->ByteArray)(K:SV tz)(f:FuncId)(b:Array Value)(hp:Ht)(nx:Nat)(hK:gA oQ 2 hp nx K)(hf:∀(i:Nat) (x:tz),K.l[i]?=some x->∀(fe:Ht) (fg:Nat),nx<=fg->HE nx hp fe->WF ex f ((.agg (oQ x).toArray)::b.toList) fe fg (fO fg fe (fun v=>v=.string (N x)))):WF ex 168 [K.v,.func (.func f) #[] b] hp nx (fO nx hp (gk (oV (K.l.map N)))):=by
 have mn:=fF (e:=ex) 168 Tryz.f168 30 [.tmp 4]
 have mZ:=@CJ
 have oU:=@xq
 have sO:=@GX
 have RI:=@R2
 let pc:=oQ
 exact XE
theorem M9{p:Prop}(h:p:=by
 refine F7 mn fun hE=>sr<|oB (.agg (pc x).toArray) (pc x) fun jN iY iA=>?_
 refine oN 1<|sr<|oX 1<|oZ nx 0 (.string (x.lL)) MX iA rfl<|oW 1 ⟨rfl,rfl,[.string (x.lL)],kr,?_⟩
 exact⟨rfl,od,(hE.trans iY)⟩):p:=h
theorem R6(x:tz)(hp:Ht)(nx:Nat):WF ex 169 [.agg (oQ x).toArray] hp nx (fO nx hp (fun v=>v=.string x.lL)):=by
 have mn:=fF (e:=ex) 169 Tryz.f169 5 [.tmp 2]
 let pc:=oQ
 exact M9
theorem G3(pP:x_)(qt:wh)(N:j5->ByteArray)(K:SV j5)(f:FuncId)(b:Array Value)(hp:Ht)(nx:Nat)(hK:jt iI 5 (fun hp nx y=>lO hp nx y) hp nx K)(hf:∀(i:Nat) (x:j5),K.l[i]?=some x->∀(fe:Ht) (fg:Nat),nx<=fg->HE nx hp fe->WF ex f ((.agg (iI x).toArray)::b.toList) fe fg (fO fg fe (fun v=>v=.string (N x)))):WF ex 170 [K.v,.func (.func f) #[] b] hp nx (fO nx hp (gk (oV (K.l.map N)))):=by
 obtain⟨a1,c2,hR⟩:=hK.1.shape
 have lW:=hK.1.2.2
 rw[hR]
 refine wd Tryz.f170 30 [.tmp 4] fun hE=>sr<|oN 1<|sr<|WO.cons (WC.makeMap rfl ?_)
 obtain⟨Bz,zn,qm,vu⟩:=mapped hp (nx) (.map [] 0)
 rw[zn];clear zn
 refine oN 1<|WP.seq<|sr<|oN 3<|WP.block ?_
 refine my [1,5,10,11,12] (fun m hs ns vs=>∃(gZ:Nat) (sJ:List MapEntry) (vB:Nat),gZ+m=K.l.length/\vs=[.func (.func f) #[] b,.map (some nx),.slice a1 (K.l.length) c2,iN (.ofNat (K.l.length)),iN (.ofNat gZ)]/\nx+1<=ns/\HE nx hp hs/\hs.get nx=some (.map sJ vB)/\(oV ((K.l.take gZ).map N))/\(kK (fun x:ByteArray=>.string x) (kZ ((K.l.take gZ).map N)) (fun _=>.bool true) sJ)) ?_ (K.l.length) ?_
 ·
  rintro EL Dn sK _ ⟨gZ,sJ,vB,It,rfl,xV,jQ,yR,hinv,vC⟩ By
  refine sr ?_
  refine oq 13 (kV gZ K.l.length) fun uB uC=>WO.nil<|WP.seq<|cq uC (fun xU=>?_) (fun xU=>?_)
  ·
   refine WP.skip<|WP.seq<|WP.block<|sr ?_
   have rJ:gZ<K.l.length:=by omega
   refine WO.cons (WC.iy hR hK.1 (gZ) wg nQ (rJ) ?_)
   obtain⟨lq,pe⟩:=gE rJ
   refine WO.cons (WC.ly hR (hK.1.mono jQ nR) pe yQ nQ<|oA [.string (⟨#[]⟩),.slice none (0) 0,iN 0,.slice none (0) 0,iN 0] Ki fun vv sG uq=>?_)
   refine oS sK (0) (.agg (iI lq).toArray) (iI lq) (iI lq) nQ rfl (Bool.and_eq_true_iff.2 ⟨rfl,Bu _ (hK.2 lq (List.mem_of_getElem? pe))⟩) uq fun w9 ur w_ Bc=>?_
   have vD:=(jQ.trans sG).trans ur
   refine WO.nil<|sr<|oX 1<|WO.cons (WC.jb sK (0) (iI lq) kr yQ nQ w_ rfl<|WO.cons (WC.call 18 f ((.agg (iI lq).toArray)::b.toList) kf ((hf gZ lq pe w9 (sK+1) om vD).mono ?_)))
   rintro _ qq pd ⟨rfl,Dh,oO⟩
   refine oN 1<|WP.seq<|sr<|oX 1<|oD 20 (zk pP qt (N lq) qq (pd)) fun O9 Iu um kh M7 qu=>?_
   have uo:=(vD.trans oO).trans qu
   have xX:=qu.get (oO.get ((Bc nx om).trans (sG.get yR)))
   refine oq 21 (nN Iu) fun xw Iv=>oX 1<|gF 22 xw (.map (some nx))<|gF 22 xw (.string ((N lq))) ?_
   obtain⟨zj,M8,ES⟩:=@nb (@decide ((N lq)∈(kZ ((K.l.take gZ).map N))) (Classical.propDecidable _)) ((N lq)∈(kZ ((K.l.take gZ).map N))) (@decide_eq_true_iff _ (Classical.propDecidable _))
   refine zQ 22 xw (.bool zj) (by rintro rfl;exact WC.opt (v:=.bool zj) 25 (o8 ex.T um.get 458 (.map (some nx)) ((fun x:ByteArray=>.string x) (N lq)) false) kf (uO (hp:=um.get) zm BC O4 xX vC (N lq) M8) rfl) ?_
   refine mj 26 (nO Iv ES) fun ET Ba=>WO.nil<|cq Ba (fun tj=>?_) (fun tj=>?_)
   ·
    refine sr<|oW 1 ⟨rfl,rfl,[.bool false],kr,?_⟩
    exact⟨⟨false,rfl,fun h=>(by cases h),fun h=>absurd h (BB pe tj)⟩,od,uo⟩
   ·
    refine WP.skip<|WP.region<|oX 2<|WO.cons (WC.mapUpdate (g:=(fun _=>.bool true)) (g':=(fun _=>.bool true)) nx (N lq) (.bool true) rfl kr kr kr zm BC xX vC (qL _) rfl (fun _ _=>rfl) ?_)
    rintro G0 jB Jp Dp G1 Ud G2
    refine WO.nil<|WP.region<|ov 29 (iN (.ofNat (gZ+1))) ?_ (fun _ _ _=>by rw[<-gU (show gZ+1<9223372036854775808 by omega)];kernel_rfl)
    refine oN 1<|⟨K.l.length-(gZ+1),om,rfl,rfl,gZ+1,G0,jB,om,kr,?_,?_,?_,?_,?_⟩
    · exact od
    · exact(uo.trans Dp)
    · exact G1
    · exact Aj pe hinv tj
    · rw[uu pe];exact G2
  ·
   refine WP.exit<|sr<|oW 1 ⟨rfl,rfl,[.bool true],kr,?_⟩
   have hT:K.l.take gZ=K.l:=List.take_of_length_le om
   rw[hT]at hinv
   exact⟨⟨true,rfl,fun _=>hinv,fun _=>rfl⟩,od,jQ⟩
 ·
  exact⟨0,([]:List MapEntry),0,om,kr,Nat.le_refl _,(hE.trans qm),vu,⟨(fun _ h=>by cases h),List.nodup_nil⟩,(show kK _ (kZ ((K.l.take 0).map N)) _ _ from kK.nil)⟩
theorem R7(x:j5)(hp:Ht)(nx:Nat)(hx:lO hp nx x):WF ex 171 [.agg (iI x).toArray] hp nx (fO nx hp (fun v=>v=.string x.lL)):=by
 have mn:=fF (e:=ex) 171 Tryz.f171 5 [.tmp 2]
 let pc:=iI
 exact M9
theorem M_(pP:x_)(qt:wh)(N:qJ->ByteArray)(K:SV qJ)(f:FuncId)(b:Array Value)(hp:Ht)(nx:Nat)(hK:gA nj 2 hp nx K)(hf:∀(i:Nat) (x:qJ),K.l[i]?=some x->∀(fe:Ht) (fg:Nat),nx<=fg->HE nx hp fe->WF ex f ((.agg (nj x).toArray)::b.toList) fe fg (fO fg fe (fun v=>v=.string (N x)))):WF ex 172 [K.v,.func (.func f) #[] b] hp nx (fO nx hp (gk (oV (K.l.map N)))):=by
 have mn:=fF (e:=ex) 172 Tryz.f172 30 [.tmp 4]
 have mZ:=@O5
 have oU:=@EZ
 have sO:=@GY
 have RI:=@R3
 let pc:=nj
 exact XE
theorem R8(x:qJ)(hp:Ht)(nx:Nat):WF ex 173 [.agg (nj x).toArray] hp nx (fO nx hp (fun v=>v=.string x.lL)):=by
 have mn:=fF (e:=ex) 173 Tryz.f173 5 [.tmp 2]
 let pc:=nj
 exact M9
theorem Iw(pP:x_)(qt:wh)(N:mC->ByteArray)(K:SV mC)(f:FuncId)(b:Array Value)(hp:Ht)(nx:Nat)(hK:gA j9 4 hp nx K)(hf:∀(i:Nat) (x:mC),K.l[i]?=some x->∀(fe:Ht) (fg:Nat),nx<=fg->HE nx hp fe->WF ex f ((.agg (j9 x).toArray)::b.toList) fe fg (fO fg fe (fun v=>v=.string (N x)))):WF ex 174 [K.v,.func (.func f) #[] b] hp nx (fO nx hp (gk (oV (K.l.map N)))):=by
 obtain⟨a1,c2,hR⟩:=hK.shape
 have lW:=hK.2.2
 rw[hR]
 refine wd Tryz.f174 30 [.tmp 4] fun hE=>sr<|oN 1<|sr<|WO.cons (WC.makeMap rfl ?_)
 obtain⟨Bz,zn,qm,vu⟩:=mapped hp (nx) (.map [] 0)
 rw[zn];clear zn
 refine oN 1<|WP.seq<|sr<|oN 3<|WP.block ?_
 refine my [1,5,10,11,12] (fun m hs ns vs=>∃(gZ:Nat) (sJ:List MapEntry) (vB:Nat),gZ+m=K.l.length/\vs=[.func (.func f) #[] b,.map (some nx),.slice a1 (K.l.length) c2,iN (.ofNat (K.l.length)),iN (.ofNat gZ)]/\nx+1<=ns/\HE nx hp hs/\hs.get nx=some (.map sJ vB)/\(oV ((K.l.take gZ).map N))/\(kK (fun x:ByteArray=>.string x) (kZ ((K.l.take gZ).map N)) (fun _=>.bool true) sJ)) ?_ (K.l.length) ?_
 ·
  rintro EL Dn sK _ ⟨gZ,sJ,vB,It,rfl,xV,jQ,yR,hinv,vC⟩ By
  refine sr ?_
  refine oq 13 (kV gZ K.l.length) fun uB uC=>WO.nil<|WP.seq<|cq uC (fun xU=>?_) (fun xU=>?_)
  ·
   refine WP.skip<|WP.seq<|WP.block<|sr ?_
   have rJ:gZ<K.l.length:=by omega
   refine WO.cons (WC.iy hR hK (gZ) O6 xu (rJ) ?_)
   obtain⟨lq,pe⟩:=gE rJ
   refine WO.cons (WC.ly hR (hK.mono jQ nR) pe Dl xu<|oA [.string (⟨#[]⟩),iN 0,iN 0,.bool false] R4 fun vv sG uq=>?_)
   refine oS sK (0) (.agg (j9 lq).toArray) (j9 lq) (j9 lq) xu rfl rfl uq fun w9 ur w_ Bc=>?_
   have vD:=(jQ.trans sG).trans ur
   refine WO.nil<|sr<|oX 1<|WO.cons (WC.jb sK (0) (j9 lq) kr Dl xu w_ rfl<|WO.cons (WC.call 18 f ((.agg (j9 lq).toArray)::b.toList) kf ((hf gZ lq pe w9 (sK+1) om vD).mono ?_)))
   rintro _ qq pd ⟨rfl,Dh,oO⟩
   refine oN 1<|WP.seq<|sr<|oX 1<|oD 20 (zk pP qt (N lq) qq (pd)) fun O9 Iu um kh M7 qu=>?_
   have uo:=(vD.trans oO).trans qu
   have xX:=qu.get (oO.get ((Bc nx om).trans (sG.get yR)))
   refine oq 21 (nN Iu) fun xw Iv=>oX 1<|gF 22 xw (.map (some nx))<|gF 22 xw (.string ((N lq))) ?_
   obtain⟨zj,M8,ES⟩:=@nb (@decide ((N lq)∈(kZ ((K.l.take gZ).map N))) (Classical.propDecidable _)) ((N lq)∈(kZ ((K.l.take gZ).map N))) (@decide_eq_true_iff _ (Classical.propDecidable _))
   refine zQ 22 xw (.bool zj) (by rintro rfl;exact WC.opt (v:=.bool zj) 25 (o8 ex.T um.get 458 (.map (some nx)) ((fun x:ByteArray=>.string x) (N lq)) false) kf (uO (hp:=um.get) zm BC O4 xX vC (N lq) M8) rfl) ?_
   refine mj 26 (nO Iv ES) fun ET Ba=>WO.nil<|cq Ba (fun tj=>?_) (fun tj=>?_)
   ·
    refine sr<|oW 1 ⟨rfl,rfl,[.bool false],kr,?_⟩
    exact⟨⟨false,rfl,fun h=>(by cases h),fun h=>absurd h (BB pe tj)⟩,od,uo⟩
   ·
    refine WP.skip<|WP.region<|oX 2<|WO.cons (WC.mapUpdate (g:=(fun _=>.bool true)) (g':=(fun _=>.bool true)) nx (N lq) (.bool true) rfl kr kr kr zm BC xX vC (qL _) rfl (fun _ _=>rfl) ?_)
    rintro G0 jB Jp Dp G1 Ud G2
    refine WO.nil<|WP.region<|ov 29 (iN (.ofNat (gZ+1))) ?_ (fun _ _ _=>by rw[<-gU (show gZ+1<9223372036854775808 by omega)];kernel_rfl)
    refine oN 1<|⟨K.l.length-(gZ+1),om,rfl,rfl,gZ+1,G0,jB,om,kr,?_,?_,?_,?_,?_⟩
    · exact od
    · exact(uo.trans Dp)
    · exact G1
    · exact Aj pe hinv tj
    · rw[uu pe];exact G2
  ·
   refine WP.exit<|sr<|oW 1 ⟨rfl,rfl,[.bool true],kr,?_⟩
   have hT:K.l.take gZ=K.l:=List.take_of_length_le om
   rw[hT]at hinv
   exact⟨⟨true,rfl,fun _=>hinv,fun _=>rfl⟩,od,jQ⟩
 ·
  exact⟨0,([]:List MapEntry),0,om,kr,Nat.le_refl _,(hE.trans qm),vu,⟨(fun _ h=>by cases h),List.nodup_nil⟩,(show kK _ (kZ ((K.l.take 0).map N)) _ _ from kK.nil)⟩
theorem R9(x:mC)(hp:Ht)(nx:Nat):WF ex 175 [.agg (j9 x).toArray] hp nx (fO nx hp (fun v=>v=.string x.lL)):=by
 have mn:=fF (e:=ex) 175 Tryz.f175 5 [.tmp 2]
 let pc:=j9
 exact M9
theorem G4(pP:x_)(qt:wh)(N:lP->ByteArray)(K:SV lP)(f:FuncId)(b:Array Value)(hp:Ht)(nx:Nat)(hK:gA jS 3 hp nx K)(hf:∀(i:Nat) (x:lP),K.l[i]?=some x->∀(fe:Ht) (fg:Nat),nx<=fg->HE nx hp fe->WF ex f ((.agg (jS x).toArray)::b.toList) fe fg (fO fg fe (fun v=>v=.string (N x)))):WF ex 176 [K.v,.func (.func f) #[] b] hp nx (fO nx hp (gk (oV (K.l.map N)))):=by
 obtain⟨a1,c2,hR⟩:=hK.shape
 have lW:=hK.2.2
 rw[hR]
 refine wd Tryz.f176 30 [.tmp 4] fun hE=>sr<|oN 1<|sr<|WO.cons (WC.makeMap rfl ?_)
 obtain⟨Bz,zn,qm,vu⟩:=mapped hp (nx) (.map [] 0)
 rw[zn];clear zn
 refine oN 1<|WP.seq<|sr<|oN 3<|WP.block ?_
 refine my [1,5,10,11,12] (fun m hs ns vs=>∃(gZ:Nat) (sJ:List MapEntry) (vB:Nat),gZ+m=K.l.length/\vs=[.func (.func f) #[] b,.map (some nx),.slice a1 (K.l.length) c2,iN (.ofNat (K.l.length)),iN (.ofNat gZ)]/\nx+1<=ns/\HE nx hp hs/\hs.get nx=some (.map sJ vB)/\(oV ((K.l.take gZ).map N))/\(kK (fun x:ByteArray=>.string x) (kZ ((K.l.take gZ).map N)) (fun _=>.bool true) sJ)) ?_ (K.l.length) ?_
 ·
  rintro EL Dn sK _ ⟨gZ,sJ,vB,It,rfl,xV,jQ,yR,hinv,vC⟩ By
  refine sr ?_
  refine oq 13 (kV gZ K.l.length) fun uB uC=>WO.nil<|WP.seq<|cq uC (fun xU=>?_) (fun xU=>?_)
  ·
   refine WP.skip<|WP.seq<|WP.block<|sr ?_
   have rJ:gZ<K.l.length:=by omega
   refine WO.cons (WC.iy hR hK (gZ) O7 xv (rJ) ?_)
   obtain⟨lq,pe⟩:=gE rJ
   refine WO.cons (WC.ly hR (hK.mono jQ nR) pe Dm xv<|oA [.string (⟨#[]⟩),iN 0,iN 0] R5 fun vv sG uq=>?_)
   refine oS sK (0) (.agg (jS lq).toArray) (jS lq) (jS lq) xv rfl rfl uq fun w9 ur w_ Bc=>?_
   have vD:=(jQ.trans sG).trans ur
   refine WO.nil<|sr<|oX 1<|WO.cons (WC.jb sK (0) (jS lq) kr Dm xv w_ rfl<|WO.cons (WC.call 18 f ((.agg (jS lq).toArray)::b.toList) kf ((hf gZ lq pe w9 (sK+1) om vD).mono ?_)))
   rintro _ qq pd ⟨rfl,Dh,oO⟩
   refine oN 1<|WP.seq<|sr<|oX 1<|oD 20 (zk pP qt (N lq) qq (pd)) fun O9 Iu um kh M7 qu=>?_
   have uo:=(vD.trans oO).trans qu
   have xX:=qu.get (oO.get ((Bc nx om).trans (sG.get yR)))
   refine oq 21 (nN Iu) fun xw Iv=>oX 1<|gF 22 xw (.map (some nx))<|gF 22 xw (.string ((N lq))) ?_
   obtain⟨zj,M8,ES⟩:=@nb (@decide ((N lq)∈(kZ ((K.l.take gZ).map N))) (Classical.propDecidable _)) ((N lq)∈(kZ ((K.l.take gZ).map N))) (@decide_eq_true_iff _ (Classical.propDecidable _))
   refine zQ 22 xw (.bool zj) (by rintro rfl;exact WC.opt (v:=.bool zj) 25 (o8 ex.T um.get 458 (.map (some nx)) ((fun x:ByteArray=>.string x) (N lq)) false) kf (uO (hp:=um.get) zm BC O4 xX vC (N lq) M8) rfl) ?_
   refine mj 26 (nO Iv ES) fun ET Ba=>WO.nil<|cq Ba (fun tj=>?_) (fun tj=>?_)
   ·
    refine sr<|oW 1 ⟨rfl,rfl,[.bool false],kr,?_⟩
    exact⟨⟨false,rfl,fun h=>(by cases h),fun h=>absurd h (BB pe tj)⟩,od,uo⟩
   ·
    refine WP.skip<|WP.region<|oX 2<|WO.cons (WC.mapUpdate (g:=(fun _=>.bool true)) (g':=(fun _=>.bool true)) nx (N lq) (.bool true) rfl kr kr kr zm BC xX vC (qL _) rfl (fun _ _=>rfl) ?_)
    rintro G0 jB Jp Dp G1 Ud G2
    refine WO.nil<|WP.region<|ov 29 (iN (.ofNat (gZ+1))) ?_ (fun _ _ _=>by rw[<-gU (show gZ+1<9223372036854775808 by omega)];kernel_rfl)
    refine oN 1<|⟨K.l.length-(gZ+1),om,rfl,rfl,gZ+1,G0,jB,om,kr,?_,?_,?_,?_,?_⟩
    · exact od
    · exact(uo.trans Dp)
    · exact G1
    · exact Aj pe hinv tj
    · rw[uu pe];exact G2
  ·
   refine WP.exit<|sr<|oW 1 ⟨rfl,rfl,[.bool true],kr,?_⟩
   have hT:K.l.take gZ=K.l:=List.take_of_length_le om
   rw[hT]at hinv
   exact⟨⟨true,rfl,fun _=>hinv,fun _=>rfl⟩,od,jQ⟩
 ·
  exact⟨0,([]:List MapEntry),0,om,kr,Nat.le_refl _,(hE.trans qm),vu,⟨(fun _ h=>by cases h),List.nodup_nil⟩,(show kK _ (kZ ((K.l.take 0).map N)) _ _ from kK.nil)⟩
theorem R_(x:lP)(hp:Ht)(nx:Nat):WF ex 177 [.agg (jS x).toArray] hp nx (fO nx hp (fun v=>v=.string x.lL)):=by
 have mn:=fF (e:=ex) 177 Tryz.f177 5 [.tmp 2]
 let pc:=jS
 exact M9
theorem Ue(pP:x_)(qt:wh)(C:j7)(hp:Ht)(nx:Nat)(j:oJ hp nx C):WF ex 97 [.agg (iz C).toArray] hp nx (fO nx hp (gk (Bb C))):=by
 refine wd Tryz.f97 31 [.tmp 2] fun hE=>sr<|oB (.agg (iz C).toArray) (iz C) fun jN iY iA=>?_
 have l_:=hE.trans iY nR
 have aV:=Nat.le_trans nR (Nat.le_succ (nx))
 refine oN 1<|sr<|oX 1<|oZ nx 0 (.string (C.lL)) MX iA rfl<|oD 5 (zk pP qt C.lL jN (nx+1)) fun ow sj aU aW ay ar=>?_
 have ah:=l_.trans ar aV
 have al:=ar.get iA (Nat.lt_succ_self (nx))
 have aL:=Nat.lt_of_lt_of_le (Nat.lt_succ_self (nx)) ay
 have ad:=Nat.le_trans aV ay
 refine oX 1<|gT 6 ow (pt nx (0+1)) ?_
 obtain⟨a17,bn,aG⟩:=j.iB.shape
 have bx:=j.iB.2.2
 refine lr 6 ow nx (0+1) (.slice a17 (C.iB.l.length) bn) we al (by rw[<-aG];rfl)<|WO.cons (WC.gq (ow) (GB (ow) (oV (C.iB.l.map (·.lL))) (aW) aU) (.bool ow) (g:=aaj (.tmp 6)) rfl kr (by cases ow<;>rfl) (fun h=>by obtain rfl:ow=true:=(by simpa using h);have aS:=(sj).1 rfl;exact WC.call 9 168 ([C.iB.v,.func (.func 169) #[] #[]]) (fun _ _ _=>by(try rw[aG]);kernel_rfl) ((Oa pP qt (·.lL) C.iB 169 #[] aU (aW) (j.iB.mono ah ad) (fun i x hx fe fg hn he=>R6 x fe fg)).mono fun v fe fg ⟨⟨c,U,hc⟩,hn,he⟩=>⟨_,_,_,rfl,⟨c,U,hc⟩,hn,he⟩)) (fun h=>GB.off h) ?_)
 rintro _ aC aO ⟨⟨uB,rfl,uC⟩,az,au⟩
 have ab:=ah.trans au ad
 have an:=au.get al aL
 have aM:=Nat.lt_of_lt_of_le aL az
 have aa:=Nat.le_trans ad az
 refine mI 10 (nA sj uC) fun o aX=>oX 1<|gT 11 o (pt nx (0+3)) ?_
 obtain⟨bh,bo,aH⟩:=j.fE.1.shape
 have bz:=j.fE.1.2.2
 refine lr 11 o nx (0+3) (.slice bh (C.fE.l.length) bo) rI an (by rw[<-aH];rfl)<|WO.cons (WC.gq (o) (GB (o) (oV (C.fE.l.map (·.lL))) (aO) aC) (.bool o) (g:=aaj (.tmp 11)) rfl kr (by cases o<;>rfl) (fun h=>by obtain rfl:o=true:=(by simpa using h);have aS:=(aX).1 rfl;exact WC.call 14 170 ([C.fE.v,.func (.func 171) #[] #[]]) (fun _ _ _=>by(try rw[aH]);kernel_rfl) ((G3 pP qt (·.lL) C.fE 171 #[] aC (aO) (j.fE.mono (fun _ h he hn=>h.mono he hn) ab aa) (fun i x hx fe fg hn he=>R7 x fe fg (((j.fE.mono (fun _ h he hn=>h.mono he hn) ab aa).2 x (List.mem_of_getElem? hx)).mono he hn))).mono fun v fe fg ⟨⟨c,U,hc⟩,hn,he⟩=>⟨_,_,_,rfl,⟨c,U,hc⟩,hn,he⟩)) (fun h=>GB.off h) ?_)
 rintro _ aD aP ⟨⟨bG,rfl,br⟩,aA,av⟩
 have ai:=ab.trans av aa
 have ao:=av.get an aM
 have aN:=Nat.lt_of_lt_of_le aM aA
 have ae:=Nat.le_trans aa aA
 refine mI 15 (nA aX br) fun I aY=>oX 1<|gT 16 I (pt nx (0+4)) ?_
 obtain⟨bj,bp,aI⟩:=j.kI.shape
 have bA:=j.kI.2.2
 refine lr 16 I nx (0+4) (.slice bj (C.kI.l.length) bp) FA ao (by rw[<-aI];rfl)<|WO.cons (WC.gq (I) (GB (I) (oV (C.kI.l.map (·.lL))) (aP) aD) (.bool I) (g:=aaj (.tmp 16)) rfl kr (by cases I<;>rfl) (fun h=>by obtain rfl:I=true:=(by simpa using h);have aS:=(aY).1 rfl;exact WC.call 19 172 ([C.kI.v,.func (.func 173) #[] #[]]) (fun _ _ _=>by(try rw[aI]);kernel_rfl) ((M_ pP qt (·.lL) C.kI 173 #[] aD (aP) (j.kI.mono ai ae) (fun i x hx fe fg hn he=>R8 x fe fg)).mono fun v fe fg ⟨⟨c,U,hc⟩,hn,he⟩=>⟨_,_,_,rfl,⟨c,U,hc⟩,hn,he⟩)) (fun h=>GB.off h) ?_)
 rintro _ aE aQ ⟨⟨bH,rfl,bs⟩,aB,aw⟩
 have aj:=ai.trans aw ae
 have aq:=aw.get ao aN
 have bg:=Nat.lt_of_lt_of_le aN aB
 have af:=Nat.le_trans ae aB
 refine mI 20 (nA aY bs) fun J aZ=>oX 1<|gT 21 J (pt nx (0+5)) ?_
 obtain⟨bk,bq,aJ⟩:=j.js.shape
 have bB:=j.js.2.2
 refine lr 21 J nx (0+5) (.slice bk (C.js.l.length) bq) FB aq (by rw[<-aJ];rfl)<|WO.cons (WC.gq (J) (GB (J) (oV (C.js.l.map (·.lL))) (aQ) aE) (.bool J) (g:=aaj (.tmp 21)) rfl kr (by cases J<;>rfl) (fun h=>by obtain rfl:J=true:=(by simpa using h);have aS:=(aZ).1 rfl;exact WC.call 24 174 ([C.js.v,.func (.func 175) #[] #[]]) (fun _ _ _=>by(try rw[aJ]);kernel_rfl) ((Iw pP qt (·.lL) C.js 175 #[] aE (aQ) (j.js.mono aj af) (fun i x hx fe fg hn he=>R9 x fe fg)).mono fun v fe fg ⟨⟨c,U,hc⟩,hn,he⟩=>⟨_,_,_,rfl,⟨c,U,hc⟩,hn,he⟩)) (fun h=>GB.off h) ?_)
 rintro _ aF aR ⟨⟨bI,rfl,bt⟩,bc,ax⟩
 have ak:=aj.trans ax af
 have a8:=ax.get aq bg
 have ag:=Nat.le_trans af bc
 refine mI 25 (nA aZ bt) fun R a6=>oX 1<|gT 26 R (pt nx (0+6)) ?_
 obtain⟨bl,xw,aK⟩:=j.iw.shape
 have bC:=j.iw.2.2
 refine lr 26 R nx (0+6) (.slice bl (C.iw.l.length) xw) CG a8 (by rw[<-aK];rfl)<|WO.cons (WC.gq (R) (GB (R) (oV (C.iw.l.map (·.lL))) (aR) aF) (.bool R) (g:=aaj (.tmp 26)) rfl kr (by cases R<;>rfl) (fun h=>by obtain rfl:R=true:=(by simpa using h);have aS:=(a6).1 rfl;exact WC.call 29 176 ([C.iw.v,.func (.func 177) #[] #[]]) (fun _ _ _=>by(try rw[aK]);kernel_rfl) ((G4 pP qt (·.lL) C.iw 177 #[] aF (aR) (j.iw.mono ak ag) (fun i x hx fe fg hn he=>R_ x fe fg)).mono fun v fe fg ⟨⟨c,U,hc⟩,hn,he⟩=>⟨_,_,_,rfl,⟨c,U,hc⟩,hn,he⟩)) (fun h=>GB.off h) ?_)
 rintro _ bD bE ⟨⟨jB,rfl,bu⟩,bd,a_⟩
 have a7:=ak.trans a_ ag
 have bf:=Nat.le_trans ag bd
 refine mI 30 (nA a6 bu) fun aT bw=>oW 1 ⟨rfl,rfl,[.bool aT],kr,?_⟩
 refine⟨⟨aT,rfl,?_⟩,bf,a7⟩
 exact bw
end
end Sw
namespace Sw
noncomputable section
open Go Go.Proofs Go.RowKit
set_option maxRecDepth 100000
set_option maxHeartbeats 1600000
theorem G5:∃i,ex.T.info 466=some i/\i.bytes=16:=by
 cases h:ex.T.info 466 with
 |none=>exact absurd (show(ex.T.info 466).isSome=true by kernel_rfl) (by rw[h];decide)
 |some i=>
  refine⟨i,rfl,?_⟩
  have:((ex.T.info 466).map fun i=>i.bytes)=some 16:=by kernel_rfl
  rw[h]at this
  exact Option.some.inj this
theorem nX(l:List j6):∀y∈l,(ma y).length=1:=fun _ _=>rfl
theorem Kk:∀(l:List j6),(l.flatMap ma).all one=true
 |[]=>rfl
 |x::l=>by
  rw[List.flatMap_cons,List.all_append,Kk l]
  simp only[ma,List.all_cons,List.all_nil,Xz,Bool.and_true]
def Dq(L:List j6)(hp:Ht)(nx:Nat)(v:Value)(fe:Ht)(fg:Nat):Prop:=∃J:SV j6,v=J.v/\J.l=L/\mf ma 1 nx fe fg J/\nx<=fg/\HE nx hp fe
theorem XF{α:Type}{l:List α}{P:α->Prop}:(¬∃x∈l,¬P x)↔∀x∈l,P x:=
 ⟨fun h x hx=>Classical.not_not.1 fun k=>h ⟨x,hx,k⟩,fun h ⟨x,hx,k⟩=>k (h x hx)⟩
theorem Bd:ex.T.agg 142=some true:=kr
theorem Na:ex.T.agg 151=some true:=kr
theorem Uf:ex.T.agg 250=some false:=kr
theorem G6:ex.T.agg 361=some false:=kr
theorem Nb:ex.T.agg 365=some true:=kr
theorem Nc:ex.T.agg 366=some false:=kr
theorem Ug:ex.T.agg 368=some false:=kr
theorem Uh:ex.T.agg 369=some false:=kr
theorem Dr:ex.T.agg 371=some true:=kr
theorem Ui:ex.T.agg 372=some false:=kr
theorem Uj:ex.T.agg 374=some false:=kr
theorem Uk:ex.T.agg 379=some false:=kr
theorem Ul:ex.T.agg 382=some false:=kr
theorem tk:ex.T.size 142=some 4:=kr
theorem Kl:ex.T.size 365=some 3:=kr
theorem xx:ex.T.size 371=some 4:=kr
theorem zo:ex.T.size 466=some 1:=kr
theorem Um:ex.T.ji 107=some (.slice 365):=kr
theorem Ju:ex.T.ji 23=some (.slice 142):=kr
theorem O_:ex.T.ji 28=some (.slice 371):=kr
theorem yS:ex.T.ji 389=some (.slice 466):=kr
theorem Sa:ex.T.zero 149=some (.agg ⟨[iN 0,iN 0,iN 0,.slice none (0) 0]⟩):=kr
theorem Sb:ex.T.zero 151=some (.agg ⟨[iN 0,iN 0,iN 0,iN 0,iN 0,.slice none (0) 0,.slice none (0) 0,.slice none (0) 0]⟩):=kr
theorem E0:ex.T.zero 466=some (.nilIface):=kr
theorem Qv(lo hi n:Int)(o j:Nat)(hp:Ht)(nx:Nat)(J:hp.get o=some (.cells [iN lo] gl.plain))(ab:o<nx)(I:hp.get j=some (.cells [iN hi] gl.plain))(aa:j<nx):WF ex 263 [iN n,pt o 0,pt j 0] hp nx (fO nx hp (gk (n<lo\/hi<n))):=by
 refine wd Tryz.f263 13 [.tmp 4] fun hE=>sr<|oN 1<|sr<|oX 1<|oZ o (0) (iN lo) fP J rfl ?_
 refine oq 7 (nz n lo) fun c1 p1=>oX 1<|gF 8 c1 (iN n)<|pj 8 c1 j (0) (iN hi) fP I rfl ?_
 refine mX 8 c1 (nz hi n) fun c2 R=>?_
 refine mj 12 (nO p1 R) fun C U=>oW 1 ⟨rfl,rfl,[.bool C],kr,?_⟩
 refine⟨⟨C,rfl,?_⟩,nR,hE⟩
 exact U
theorem zp(lo hi:Int)(K:SV Int)(hp:Ht)(nx:Nat)(hK:gA encI 1 hp nx K):WF ex 179 [iN lo,iN hi,K.v] hp nx (fO nx hp (gk (∀x∈K.l,lo<=x/\x<=hi))):=by
 obtain⟨a1,c2,hR⟩:=hK.shape
 have lW:=hK.2.2
 rw[hR]
 refine wd Tryz.f179 11 [.tmp 6] fun hE=>sr<|oB (iN lo) [iN lo] fun Bz qm vu=>?_
 refine oB (iN hi) [iN hi] fun I yT o=>?_
 have wD:=(hE.trans qm).trans yT
 refine oN 1<|sr<|oX 2<|WO.cons (WC.call 9 108 ([K.v,.func (.func 263) #[] #[pt nx 0,pt (nx+1) 0]]) (fun _ _ _=>by(try rw[hR]);kernel_rfl) ((A6 (A:=fun n=>n<(lo)\/(hi)<n) K 263 #[pt nx 0,pt (nx+1) 0] I (nx+1+1) (hK.mono wD) (fun i x hx fe fg hn he=>Qv (lo) (hi) x nx (nx+1) fe fg (he.get (yT.get vu)) (Nat.lt_of_lt_of_le om hn) (he.get o) (Nat.lt_of_lt_of_le (Nat.lt_succ_self (nx+1)) hn))).mono ?_))
 rintro _ U aa ⟨⟨uB,rfl,uC⟩,R,C⟩
 refine oq 10 (nN uC) fun j J=>oW 1 ⟨rfl,rfl,[.bool j],kr,?_⟩
 refine⟨⟨j,rfl,?_⟩,od,(wD.trans C)⟩
 exact J.trans ⟨fun h x hx=>by constructor<;>(apply Int.not_lt.1;intro k;exact h ⟨x,hx,om⟩),fun h ⟨x,hx,k⟩=>by have:=h x hx;omega⟩
theorem Km(c:RCond)(hp:Ht)(nx:Nat)(hc:lB hp nx c):WF ex 356 [.agg (ig c).toArray] hp nx (fO nx hp (gk (nw c))):=by
 refine wd Tryz.f356 26 [.tmp 2] fun hE=>sr<|oB (.agg (ig c).toArray) (ig c) fun jN iY iA=>?_
 refine oN 1<|sr<|oX 2<|oZ nx (0+0+0) (iN c.jf) fP iA rfl ?_
 refine oq 6 (qp c.jf 0) fun o ae=>oX 1<|gT 7 o (pt nx 0)<|gT 7 o (pt nx (0+0+1))<|lr 7 o nx (0+0+1) (iN c.rP) fP iA rfl ?_
 refine qw 7 o (qp c.rP 0) fun ai af=>?_
 refine mI 12 (nA ae af) fun j R=>oX 1<|gT 13 j (pt nx 0)<|gT 13 j (pt nx (0+0+2))<|lr 13 j nx (0+0+2) (iN c.fN) fP iA rfl ?_
 refine qw 13 j (qp c.fN 0) fun ag U=>?_
 refine mI 18 (nA R U) fun ow sj=>oX 1<|gT 19 ow (pt nx 0)<|gT 19 ow (pt nx (0+0+3)) ?_
 obtain⟨J,CA,I⟩:=hc.fW.1.shape
 have ad:=hc.fW.1.2.2
 refine lr 19 ow nx (0+0+3) (.slice J (c.fW.l.length) CA) sH iA (by rw[<-I];rfl)<|gT 19 ow (iN (.ofNat (c.fW.l.length))) ?_
 refine qw 19 ow (w5 c.fW.l.length 0) fun ah aa=>?_
 refine mI 25 (nA sj aa) fun C ab=>oW 1 ⟨rfl,rfl,[.bool C],kr,?_⟩
 refine⟨⟨C,rfl,?_⟩,od,(hE.trans iY)⟩
 exact ab.trans ⟨fun⟨⟨⟨a,b⟩,c⟩,d⟩=>⟨a,b,c,List.eq_nil_of_length_eq_zero om⟩,fun⟨a,b,c,d⟩=>⟨⟨⟨a,b⟩,c⟩,by rw[d];rfl⟩⟩
theorem Un(l:SV RCond)(hp:Ht)(nx:Nat)(hl:jt ig 4 (fun hp nx y=>lB hp nx y) hp nx l)(hlen:l.l.length<=2932031007403):WF ex 449 [l.v] hp nx (Dq (l.l.map .cond) hp nx):=by
 obtain⟨a1,c2,hR⟩:=hl.1.shape
 have lW:=hl.1.2.2
 rw[hR]
 refine wd Tryz.f449 19 [.tmp 2] fun hE=>sr<|oN 1<|WP.seq<|sr<|oN 3<|WP.block ?_
 refine my [2,5,6,7] (fun m hs ns vs=>∃(fV:Nat) (J:SV j6),fV+m=l.l.length/\vs=[J.v,.slice a1 (l.l.length) c2,iN (.ofNat (l.l.length)),iN (.ofNat fV)]/\nx<=ns/\HE nx hp hs/\(mf ma 1 (nx) hs ns J)/\(J.l=(l.l.take fV).map .cond)/\(J.l.length=fV)) ?_ (l.l.length) ?_
 ·
  rintro xn pT ja _ ⟨fV,J,tP,rfl,oe,jm,aL,ai,aM⟩ tQ
  have o:=Nat.le_trans nR oe
  have ay:=HE.refl (ja) pT
  have af:=Nat.le_refl (ja)
  refine sr ?_
  obtain⟨CA,aK,A_⟩:=kV fV l.l.length
  refine ob 8 aK<|WO.nil<|WP.seq<|cq A_ (fun aN=>?_) (fun aN=>?_)
  ·
   refine WP.skip<|WP.seq<|WP.block<|sr ?_
   have I:fV<l.l.length:=by omega
   refine WO.cons (WC.iy hR hl.1 (fV) MY sm (I) ?_)
   obtain⟨j,C⟩:=gE I
   refine WO.cons (WC.ly hR (hl.1.mono jm o) C xa sm<|oA [iN 0,iN 0,iN 0,.slice none (0) 0] Sa fun aQ R aq=>?_)
   have aj:=jm.trans R o
   have az:=ay.trans R af
   have ag:=Nat.le_trans af (Nat.le_succ (ja))
   have aE:=Nat.le_trans oe (Nat.le_succ (ja))
   have aD:=Nat.le_trans o (Nat.le_succ (ja))
   refine oS ja (0) (.agg (ig j).toArray) (ig j) (ig j) sm rfl (Bool.and_eq_true_iff.2 ⟨rfl,wM _ (hl.2 j (List.mem_of_getElem? C))⟩) aq fun aR U ar aP=>?_
   have ak:=aj.trans U om
   have aA:=az.trans U om
   refine WO.nil<|WP.region<|oX 1<|WO.cons (WC.jb ja (0) (ig j) kr xa sm ar rfl<|oX 2<|oL [.iface 553 (.agg (ig j).toArray)] fun aS aa au=>?_)
   have al:=ak.trans aa aD
   have aB:=aA.trans aa ag
   have aF:=Nat.le_trans ag (Nat.le_succ (ja+1))
   have aG:=Nat.le_trans aE (Nat.le_succ (ja+1))
   obtain⟨aO,ab,ah⟩:=G5
   refine WO.cons (WC.Mq (enc:=ma) (J:=J) (j6.cond j) rfl kr kr (aL.mono aB aF) (nX _) au rfl yS zo E0 ab rfl rfl (by decide) (by rw[ah];omega) om om om rfl ?_)
   rintro aJ ax ae ad aw av ao
   have an:=al.trans av om
   have aH:=Nat.le_trans aG aw
   have aC:=HE.refl (ae) ax
   have aI:=Nat.le_refl (ae)
   refine oN 1<|WP.region<|ov 17 (iN (.ofNat (fV+1))) ?_ (fun _ _ _=>by rw[<-gU (show fV+1<9223372036854775808 by omega)];kernel_rfl)
   refine oN 1<|⟨l.l.length-(fV+1),om,rfl,rfl,fV+1,aJ,om,kr,?_,?_,?_,?_,?_⟩
   · exact aH
   · exact an
   · exact ao.mono aC aI
   · rw[ad,ai,List.take_add_one,C];simp
   · rw[ad,List.length_append,aM];rfl
  ·
   refine WP.exit<|sr<|oW 2 ⟨rfl,rfl,[J.v],kr,?_⟩
   have hi:fV=l.l.length:=by omega
   exact⟨J,rfl,by rw[ai,hi,List.take_length],aL,o,jm⟩
 ·
  exact⟨0,⟨.slice none 0 0,[]⟩,om,kr,Nat.le_refl _,hE,mf.nil,(by simp),rfl⟩
theorem G7(l:SV RStep)(hp:Ht)(nx:Nat)(hl:jt ju 8 (fun hp nx y=>j4 hp nx y) hp nx l)(hlen:l.l.length<=2932031007403):WF ex 201 [l.v] hp nx (Dq (l.l.map .step) hp nx):=by
 obtain⟨a1,c2,hR⟩:=hl.1.shape
 have lW:=hl.1.2.2
 rw[hR]
 refine wd Tryz.f201 19 [.tmp 2] fun hE=>sr<|oN 1<|WP.seq<|sr<|oN 3<|WP.block ?_
 refine my [2,5,6,7] (fun m hs ns vs=>∃(fV:Nat) (J:SV j6),fV+m=l.l.length/\vs=[J.v,.slice a1 (l.l.length) c2,iN (.ofNat (l.l.length)),iN (.ofNat fV)]/\nx<=ns/\HE nx hp hs/\(mf ma 1 (nx) hs ns J)/\(J.l=(l.l.take fV).map .step)/\(J.l.length=fV)) ?_ (l.l.length) ?_
 ·
  rintro xn pT ja _ ⟨fV,J,tP,rfl,oe,jm,aK,ai,aL⟩ tQ
  have o:=Nat.le_trans nR oe
  have ay:=HE.refl (ja) pT
  have af:=Nat.le_refl (ja)
  refine sr ?_
  refine oq 8 (kV fV l.l.length) fun CA A_=>WO.nil<|WP.seq<|cq A_ (fun aM=>?_) (fun aM=>?_)
  ·
   refine WP.skip<|WP.seq<|WP.block<|sr ?_
   have I:fV<l.l.length:=by omega
   refine WO.cons (WC.iy hR hl.1 (fV) CH tV (I) ?_)
   obtain⟨j,C⟩:=gE I
   refine WO.cons (WC.ly hR (hl.1.mono jm o) C Na tV<|oA [iN 0,iN 0,iN 0,iN 0,iN 0,.slice none (0) 0,.slice none (0) 0,.slice none (0) 0] Sb fun aP R aq=>?_)
   have aj:=jm.trans R o
   have az:=ay.trans R af
   have ag:=Nat.le_trans af (Nat.le_succ (ja))
   have aE:=Nat.le_trans oe (Nat.le_succ (ja))
   have aD:=Nat.le_trans o (Nat.le_succ (ja))
   refine oS ja (0) (.agg (ju j).toArray) (ju j) (ju j) tV rfl (Bool.and_eq_true_iff.2 ⟨rfl,BY _ (hl.2 j (List.mem_of_getElem? C))⟩) aq fun aQ U ar aO=>?_
   have ak:=aj.trans U om
   have aA:=az.trans U om
   refine WO.nil<|WP.region<|oX 1<|WO.cons (WC.jb ja (0) (ju j) kr Na tV ar rfl<|oX 2<|oL [.iface 469 (.agg (ju j).toArray)] fun aR aa au=>?_)
   have al:=ak.trans aa aD
   have aB:=aA.trans aa ag
   have aF:=Nat.le_trans ag (Nat.le_succ (ja+1))
   have aG:=Nat.le_trans aE (Nat.le_succ (ja+1))
   obtain⟨aN,ab,ah⟩:=G5
   refine WO.cons (WC.Mq (enc:=ma) (J:=J) (j6.step j) rfl kr kr (aK.mono aB aF) (nX _) au rfl yS zo E0 ab rfl rfl (by decide) (by rw[ah];omega) om om om rfl ?_)
   rintro aJ ax ae ad aw av ao
   have an:=al.trans av om
   have aH:=Nat.le_trans aG aw
   have aC:=HE.refl (ae) ax
   have aI:=Nat.le_refl (ae)
   refine oN 1<|WP.region<|ov 17 (iN (.ofNat (fV+1))) ?_ (fun _ _ _=>by rw[<-gU (show fV+1<9223372036854775808 by omega)];kernel_rfl)
   refine oN 1<|⟨l.l.length-(fV+1),om,rfl,rfl,fV+1,aJ,om,kr,?_,?_,?_,?_,?_⟩
   · exact aH
   · exact an
   · exact ao.mono aC aI
   · rw[ad,ai,List.take_add_one,C];simp
   · rw[ad,List.length_append,aL];rfl
  ·
   refine WP.exit<|sr<|oW 2 ⟨rfl,rfl,[J.v],kr,?_⟩
   have hi:fV=l.l.length:=by omega
   exact⟨J,rfl,by rw[ai,hi,List.take_length],aK,o,jm⟩
 ·
  exact⟨0,⟨.slice none 0 0,[]⟩,om,kr,Nat.le_refl _,hE,mf.nil,(by simp),rfl⟩
theorem ya(c:RCond)(hp:Ht)(nx:Nat)(hc:lB hp nx c):WF ex 417 [.agg (ig c).toArray] hp nx (Dq (qx (.cond c)) hp nx):=by
 refine wd Tryz.f417 7 [.tmp 2] fun hE=>sr<|oB (.agg (ig c).toArray) (ig c) fun jN iY iA=>?_
 have l_:=hE.trans iY
 refine oN 1<|sr<|oX 2 ?_
 obtain⟨R,U,j⟩:=hc.fW.1.shape
 have J:=hc.fW.1.2.2
 refine oZ nx (0+0+3) (.slice R (c.fW.l.length) U) sH iA (by rw[<-j];rfl)<|WO.cons (WC.call 6 449 ([c.fW.v]) (fun _ _ _=>by(try rw[j]);kernel_rfl) ((Un c.fW jN (nx+1) (hc.fW.mono (fun _ h he hn=>h.mono he hn) l_) (by have:=hc.len;omega)).mono ?_))
 rintro _ A9 vz ⟨o,rfl,I,C,Nd,yT⟩
 refine oW 1 ⟨rfl,rfl,[o.v],kr,?_⟩
 exact⟨o,rfl,I,C.low om,od,(l_.trans yT)⟩
theorem yb(s:RStep)(hp:Ht)(nx:Nat)(hs:j4 hp nx s):WF ex 418 [.agg (ju s).toArray] hp nx (Dq (qx (.step s)) hp nx):=by
 refine wd Tryz.f418 12 [.tmp 2] fun hE=>sr<|oB (.agg (ju s).toArray) (ju s) fun jN iY iA=>?_
 have l_:=hE.trans iY
 refine oN 1<|WP.seq<|WP.sM [⟨[0,1,2,4,5,6],[0,1,2,4,5,6],some 3⟩,⟨[],[4,5,6],some 7⟩,⟨[],[],some 8⟩,⟨[],[],some 9⟩,⟨[],[],none⟩] kr _ rfl<|WD.ln<|nv 3 (pt nx 0)<|nv 4 (pt nx (0+0+6)) ?_
 obtain⟨ax,az,o⟩:=hs.lX.1.shape
 have aC:=hs.lX.1.2.2
 refine WN.ic rfl (WC.jX nx (0+0+6) (.slice ax (s.lX.l.length) az) kr uN iA (by rw[<-o];rfl)<|nv 7 (pt nx 0)<|nv 8 (pt nx (0+0+7)) ?_)
 obtain⟨R,ow,j⟩:=hs.nu.1.shape
 have aD:=hs.nu.1.2.2
 refine WN.ic rfl (WC.jX nx (0+0+7) (.slice R (s.nu.l.length) ow) kr uN iA (by rw[<-j];rfl)<|WN.nil ⟨?_,?_⟩)
 ·
  refine cv (pt nx 0) (iW ..)<|cv (pt nx (0+0+6)) (iW ..)<|qe nx (0+0+6) (.slice ax (s.lX.l.length) az) uN iA (by rw[<-o];rfl) (o▸hs.lX.1.kO 8)<|cv (pt nx 0) (iW ..)<|cv (pt nx (0+0+7)) (iW ..)<|qe nx (0+0+7) (.slice R (s.nu.l.length) ow) uN iA (by rw[<-j];rfl) (j▸hs.nu.1.kO 8) ?_
  exact jh.nil
 refine WC.at rfl (WC.call 6 201 ([s.lX.v]) (fun _ _ _=>by(try rw[o]);kernel_rfl) ((G7 s.lX jN (nx+1) (hs.lX.mono (fun _ h he hn=>h.mono he hn) l_) (by have:=hs.len;omega)).mono ?_))
 rintro _ au av ⟨aj,rfl,ae,ak,aF,aa⟩
 have U:=l_.trans aa
 refine WD.ln<|WN.nil ⟨?_,?_⟩
 ·
  refine cv (pt nx 0) (iW ..)<|cv (pt nx (0+0+7)) (iW ..)<|qe nx (0+0+7) (.slice R (s.nu.l.length) ow) uN (aa.get iA) (by rw[<-j];rfl) (j▸hs.nu.1.kO 8) ?_
  exact jh.nil
 refine WC.at rfl (WC.call 10 201 ([s.nu.v]) (fun _ _ _=>by(try rw[j]);kernel_rfl) ((G7 s.nu au (av) (hs.nu.mono (fun _ h he hn=>h.mono he hn) U) (by have:=hs.len;omega)).mono ?_))
 rintro _ aH aJ ⟨C,rfl,af,al,ar,ab⟩
 refine WD.ln<|WN.nil ⟨?_,?_⟩
 ·
  exact jh.nil
 obtain⟨aE,ad,ai⟩:=G5
 have aA:aj.l.length=s.lX.l.length:=by rw[ae,List.length_map]
 have aB:C.l.length=s.nu.l.length:=by rw[af,List.length_map]
 have aL:=hs.len
 have ah:=al.ok (nX _) om
 obtain⟨aw,ay,ag⟩:=ah.shape
 refine WC.at rfl (WC.yF (enc:=ma) (J:=aj) (w:=.slice aw C.l.length ay) C.l rfl kr (by rw[<-ag];kernel_rfl) ((ak.mono ab ar).low om:mf ma 1 nx _ _ _) (nX _) yS zo E0 ad (by simp only[pn,yS]) (ah.src ag) rfl (nX _) (Kk _) (by decide) (by rw[ai];omega) om om om rfl ?_)
 rintro I aI aK aq aG ao an
 refine WD.ln<|WN.nil ⟨?_,?_⟩
 ·
  exact jh.nil
 refine WC.at rfl (WC.val 2 (I.v) kf<|WD.last<|WN.nil ⟨?_,?_⟩)
 ·
  exact jh.nil
 refine WP.ret ⟨rfl,rfl,[I.v],kr,?_⟩
 exact⟨I,rfl,(by rw[aq,ae,af];rfl),an.low om,od,((U.trans ab).trans ao)⟩
theorem mz(lo hi a:Int)(K:SV Int)(hp:Ht)(nx:Nat)(hK:gA encI 1 hp nx K)(h:K.l=[a]):WF ex 179 [iN lo,iN hi,K.v] hp nx (fO nx hp (gk (lo<=a/\a<=hi))):=
 (zp lo hi K hp nx hK).mono fun v _ _ ⟨⟨c,h1,h2⟩,k⟩=>⟨⟨c,h1,h2.trans (by rw[h];simp)⟩,k⟩
theorem yc(lo hi a b:Int)(K:SV Int)(hp:Ht)(nx:Nat)(hK:gA encI 1 hp nx K)(h:K.l=[a,b]):WF ex 179 [iN lo,iN hi,K.v] hp nx (fO nx hp (gk ((lo<=a/\a<=hi)/\lo<=b/\b<=hi))):=
 (zp lo hi K hp nx hK).mono fun v _ _ ⟨⟨c,h1,h2⟩,k⟩=>⟨⟨c,h1,h2.trans (by rw[h];simp)⟩,k⟩
theorem E4{A:j5->Prop}(K:SV j5)(f:FuncId)(b:Array Value)(hp:Ht)(nx:Nat)(hK:jt iI 5 (fun hp nx y=>lO hp nx y) hp nx K)(hf:∀(i:Nat) (x:j5),K.l[i]?=some x->∀(fe:Ht) (fg:Nat),nx<=fg->HE nx hp fe->WF ex f ((.agg (iI x).toArray)::b.toList) fe fg (fO fg fe (gk (A x)))):WF ex 283 [K.v,.func (.func f) #[] b] hp nx (fO nx hp (pM K.l A)):=by
 have mn:=fF (e:=ex) 283 Tryz.f283 19 [.tmp 4]
 have mZ:=@wg
 have oU:=@nQ
 have sO:=@yQ
 let pc:=iI
 exact TQ
theorem CK{A:j5->Prop}(K:SV j5)(f:FuncId)(b:Array Value)(hp:Ht)(nx:Nat)(hK:jt iI 5 (fun hp nx y=>lO hp nx y) hp nx K)(hf:∀(i:Nat) (x:j5),K.l[i]?=some x->∀(fe:Ht) (fg:Nat),nx<=fg->HE nx hp fe->WF ex f ((.agg (iI x).toArray)::b.toList) fe fg (fO fg fe (gk (A x)))):WF ex 202 [K.v,.func (.func f) #[] b] hp nx (fO nx hp (gk (∃x∈K.l,A x))):=by
 have mn:=fF (e:=ex) 202 Tryz.f202 9 [.tmp 4]
 have mZ:=@E4
 exact MG
theorem Ds{p:Prop}(h:p:=by
 refine F7 mn fun hE=>sr<|oB (.agg (pc x).toArray) (pc x) fun jN iY iA=>?_
 have l_:=hE.trans iY
 refine oN 1<|sr<|oZ bb (0) (.func (.func f) #[] b) mZ (iY.get hb jz) rfl<|WO.cons (WC.jb nx (0) (pc x) kr oU sO iA rfl<|WO.cons (WC.call 6 f ((.agg (pc x).toArray)::b.toList) kf ((hf jN (nx+1) om l_).mono ?_)))
 rintro _ B2 TX ⟨⟨CA,rfl,A_⟩,Zb,yL⟩
 refine oq 7 (nN A_) fun sk vp=>oW 1 ⟨rfl,rfl,[.bool sk],kr,?_⟩
 refine⟨⟨sk,rfl,?_⟩,od,(l_.trans yL)⟩
 exact vp):p:=h
theorem Ix{A:Prop}(x:j5)(f:FuncId)(b:Array Value)(bb:Nat)(hp:Ht)(nx:Nat)(hx:lO hp nx x)(hb:hp.get bb=some (.cells [.func (.func f) #[] b] gl.plain))(jz:bb<nx)(hf:∀(fe:Ht) (fg:Nat),nx<=fg->HE nx hp fe->WF ex f ((.agg (iI x).toArray)::b.toList) fe fg (fO fg fe (gk A))):WF ex 203 [.agg (iI x).toArray,pt bb 0] hp nx (fO nx hp (gk (¬A))):=by
 have mn:=fF (e:=ex) 203 Tryz.f203 8 [.tmp 3]
 have mZ:=@Uf
 have oU:=@yQ
 have sO:=@nQ
 let pc:=iI
 exact Ds
theorem XG{p:Prop}(h:p:=by
 obtain⟨a1,c2,hR⟩:=hK.1.shape
 have lW:=hK.1.2.2
 rw[hR]
 refine F7 mn fun hE=>sr<|oB (.func (.func f) #[] b) [.func (.func f) #[] b] fun Bz qm vu=>?_
 have CE:=hE.trans qm nR
 have zJ:=Nat.le_trans nR (Nat.le_succ (nx))
 refine oN 1<|sr<|oX 2<|WO.cons (WC.call 7 _ ([K.v,.func (.func _) #[] #[pt nx 0]]) (fun _ _ _=>by(try rw[hR]);kernel_rfl) ((mZ (A:=fun x=>¬A x) K _ #[pt nx 0] Bz (nx+1) (hK.mono (fun _ h he hn=>h.mono he hn) CE zJ) (fun i x hx fe fg hn he=>oU (A:=A x) x f b nx fe fg (((hK.mono (fun _ h he hn=>h.mono he hn) CE zJ).2 x (List.mem_of_getElem? hx)).mono he hn) (he.get vu (Nat.lt_succ_self (nx))) (Nat.lt_of_lt_of_le (Nat.lt_succ_self (nx)) hn) (fun jN oG xF tD=>hf i x hx jN oG (Nat.le_trans zJ (Nat.le_trans hn xF)) ((CE.trans he zJ).trans tD (Nat.le_trans zJ hn))))).mono ?_))
 rintro _ A9 vz ⟨⟨sF,rfl,vt⟩,Nd,yT⟩
 have wD:=CE.trans yT zJ
 have Qw:=Nat.le_trans zJ Nd
 refine oq 8 (nN vt) fun xW EO=>oW 1 ⟨rfl,rfl,[.bool xW],kr,?_⟩
 refine⟨⟨xW,rfl,?_⟩,Qw,wD⟩
 exact EO.trans XF):p:=h
theorem CL(A:j5->Prop)(K:SV j5)(f:FuncId)(b:Array Value)(hp:Ht)(nx:Nat)(hK:jt iI 5 (fun hp nx y=>lO hp nx y) hp nx K)(hf:∀(i:Nat) (x:j5),K.l[i]?=some x->∀(fe:Ht) (fg:Nat),nx<=fg->HE nx hp fe->WF ex f ((.agg (iI x).toArray)::b.toList) fe fg (fO fg fe (gk (A x)))):WF ex 100 [K.v,.func (.func f) #[] b] hp nx (fO nx hp (gk (∀x∈K.l,A x))):=by
 have mn:=fF (e:=ex) 100 Tryz.f100 9 [.tmp 4]
 have mZ:=@CK
 have oU:=@Ix
 exact XG
theorem Jv{A:RPart->Prop}(K:SV RPart)(f:FuncId)(b:Array Value)(hp:Ht)(nx:Nat)(hK:jt jJ 3 (fun hp nx y=>kL hp nx y) hp nx K)(hf:∀(i:Nat) (x:RPart),K.l[i]?=some x->∀(fe:Ht) (fg:Nat),nx<=fg->HE nx hp fe->WF ex f ((.agg (jJ x).toArray)::b.toList) fe fg (fO fg fe (gk (A x)))):WF ex 349 [K.v,.func (.func f) #[] b] hp nx (fO nx hp (pM K.l A)):=by
 have mn:=fF (e:=ex) 349 Tryz.f349 19 [.tmp 4]
 have mZ:=@yO
 have oU:=@qZ
 have sO:=@Dj
 let pc:=jJ
 exact TQ
theorem FM{A:RPart->Prop}(K:SV RPart)(f:FuncId)(b:Array Value)(hp:Ht)(nx:Nat)(hK:jt jJ 3 (fun hp nx y=>kL hp nx y) hp nx K)(hf:∀(i:Nat) (x:RPart),K.l[i]?=some x->∀(fe:Ht) (fg:Nat),nx<=fg->HE nx hp fe->WF ex f ((.agg (jJ x).toArray)::b.toList) fe fg (fO fg fe (gk (A x)))):WF ex 264 [K.v,.func (.func f) #[] b] hp nx (fO nx hp (gk (∃x∈K.l,A x))):=by
 have mn:=fF (e:=ex) 264 Tryz.f264 9 [.tmp 4]
 have mZ:=@Jv
 exact MG
theorem Ob{A:Prop}(x:RPart)(f:FuncId)(b:Array Value)(bb:Nat)(hp:Ht)(nx:Nat)(hx:kL hp nx x)(hb:hp.get bb=some (.cells [.func (.func f) #[] b] gl.plain))(jz:bb<nx)(hf:∀(fe:Ht) (fg:Nat),nx<=fg->HE nx hp fe->WF ex f ((.agg (jJ x).toArray)::b.toList) fe fg (fO fg fe (gk A))):WF ex 265 [.agg (jJ x).toArray,pt bb 0] hp nx (fO nx hp (gk (¬A))):=by
 have mn:=fF (e:=ex) 265 Tryz.f265 8 [.tmp 3]
 have mZ:=@G6
 have oU:=@Dj
 have sO:=@qZ
 let pc:=jJ
 exact Ds
theorem Iy(A:RPart->Prop)(K:SV RPart)(f:FuncId)(b:Array Value)(hp:Ht)(nx:Nat)(hK:jt jJ 3 (fun hp nx y=>kL hp nx y) hp nx K)(hf:∀(i:Nat) (x:RPart),K.l[i]?=some x->∀(fe:Ht) (fg:Nat),nx<=fg->HE nx hp fe->WF ex f ((.agg (jJ x).toArray)::b.toList) fe fg (fO fg fe (gk (A x)))):WF ex 180 [K.v,.func (.func f) #[] b] hp nx (fO nx hp (gk (∀x∈K.l,A x))):=by
 have mn:=fF (e:=ex) 180 Tryz.f180 9 [.tmp 4]
 have mZ:=@FM
 have oU:=@Ob
 exact XG
theorem G9{A:ou->Prop}(K:SV ou)(f:FuncId)(b:Array Value)(hp:Ht)(nx:Nat)(hK:gA lN 3 hp nx K)(hf:∀(i:Nat) (x:ou),K.l[i]?=some x->∀(fe:Ht) (fg:Nat),nx<=fg->HE nx hp fe->WF ex f ((.agg (lN x).toArray)::b.toList) fe fg (fO fg fe (gk (A x)))):WF ex 350 [K.v,.func (.func f) #[] b] hp nx (fO nx hp (pM K.l A)):=by
 have mn:=fF (e:=ex) 350 Tryz.f350 19 [.tmp 4]
 have mZ:=@Um
 have oU:=@Kl
 have sO:=@Nb
 let pc:=lN
 exact EM
theorem DU{A:ou->Prop}(K:SV ou)(f:FuncId)(b:Array Value)(hp:Ht)(nx:Nat)(hK:gA lN 3 hp nx K)(hf:∀(i:Nat) (x:ou),K.l[i]?=some x->∀(fe:Ht) (fg:Nat),nx<=fg->HE nx hp fe->WF ex f ((.agg (lN x).toArray)::b.toList) fe fg (fO fg fe (gk (A x)))):WF ex 266 [K.v,.func (.func f) #[] b] hp nx (fO nx hp (gk (∃x∈K.l,A x))):=by
 have mn:=fF (e:=ex) 266 Tryz.f266 9 [.tmp 4]
 have mZ:=@G9
 exact EK
theorem KT{A:Prop}(x:ou)(f:FuncId)(b:Array Value)(bb:Nat)(hp:Ht)(nx:Nat)(hb:hp.get bb=some (.cells [.func (.func f) #[] b] gl.plain))(jz:bb<nx)(hf:∀(fe:Ht) (fg:Nat),nx<=fg->HE nx hp fe->WF ex f ((.agg (lN x).toArray)::b.toList) fe fg (fO fg fe (gk A))):WF ex 267 [.agg (lN x).toArray,pt bb 0] hp nx (fO nx hp (gk (¬A))):=by
 have mn:=fF (e:=ex) 267 Tryz.f267 8 [.tmp 3]
 have mZ:=@Nc
 have oU:=@Nb
 have sO:=@Kl
 let pc:=lN
 exact Ds
theorem Dt{p:Prop}(h:p:=by
 obtain⟨a1,c2,hR⟩:=hK.shape
 have lW:=hK.2.2
 rw[hR]
 refine F7 mn fun hE=>sr<|oB (.func (.func f) #[] b) [.func (.func f) #[] b] fun Bz qm vu=>?_
 have CE:=hE.trans qm
 refine oN 1<|sr<|oX 2<|WO.cons (WC.call 7 _ ([K.v,.func (.func _) #[] #[pt nx 0]]) (fun _ _ _=>by(try rw[hR]);kernel_rfl) ((mZ (A:=fun x=>¬A x) K _ #[pt nx 0] Bz (nx+1) (hK.mono CE) (fun i x hx fe fg hn he=>oU (A:=A x) x f b nx fe fg (he.get vu) (Nat.lt_of_lt_of_le (Nat.lt_succ_self (nx)) hn) (fun jN oG xF tD=>hf i x hx jN oG (Nat.le_trans om (Nat.le_trans hn xF)) ((CE.trans he).trans tD (Nat.le_trans om hn))))).mono ?_))
 rintro _ A9 vz ⟨⟨sF,rfl,vt⟩,Nd,yT⟩
 refine oq 8 (nN vt) fun xW EO=>oW 1 ⟨rfl,rfl,[.bool xW],kr,?_⟩
 refine⟨⟨xW,rfl,?_⟩,od,(CE.trans yT)⟩
 exact EO.trans XF):p:=h
theorem E5(A:ou->Prop)(K:SV ou)(f:FuncId)(b:Array Value)(hp:Ht)(nx:Nat)(hK:gA lN 3 hp nx K)(hf:∀(i:Nat) (x:ou),K.l[i]?=some x->∀(fe:Ht) (fg:Nat),nx<=fg->HE nx hp fe->WF ex f ((.agg (lN x).toArray)::b.toList) fe fg (fO fg fe (gk (A x)))):WF ex 183 [K.v,.func (.func f) #[] b] hp nx (fO nx hp (gk (∀x∈K.l,A x))):=by
 have mn:=fF (e:=ex) 183 Tryz.f183 9 [.tmp 4]
 have mZ:=@DU
 have oU:=@KT
 exact Dt
theorem KU{A:tz->Prop}(K:SV tz)(f:FuncId)(b:Array Value)(hp:Ht)(nx:Nat)(hK:gA oQ 2 hp nx K)(hf:∀(i:Nat) (x:tz),K.l[i]?=some x->∀(fe:Ht) (fg:Nat),nx<=fg->HE nx hp fe->WF ex f ((.agg (oQ x).toArray)::b.toList) fe fg (fO fg fe (gk (A x)))):WF ex 351 [K.v,.func (.func f) #[] b] hp nx (fO nx hp (pM K.l A)):=by
 have mn:=fF (e:=ex) 351 Tryz.f351 19 [.tmp 4]
 have mZ:=@CJ
 have oU:=@xq
 have sO:=@GX
 let pc:=oQ
 exact EM
theorem G_{A:tz->Prop}(K:SV tz)(f:FuncId)(b:Array Value)(hp:Ht)(nx:Nat)(hK:gA oQ 2 hp nx K)(hf:∀(i:Nat) (x:tz),K.l[i]?=some x->∀(fe:Ht) (fg:Nat),nx<=fg->HE nx hp fe->WF ex f ((.agg (oQ x).toArray)::b.toList) fe fg (fO fg fe (gk (A x)))):WF ex 268 [K.v,.func (.func f) #[] b] hp nx (fO nx hp (gk (∃x∈K.l,A x))):=by
 have mn:=fF (e:=ex) 268 Tryz.f268 9 [.tmp 4]
 have mZ:=@KU
 exact EK
theorem Qx{A:Prop}(x:tz)(f:FuncId)(b:Array Value)(bb:Nat)(hp:Ht)(nx:Nat)(hb:hp.get bb=some (.cells [.func (.func f) #[] b] gl.plain))(jz:bb<nx)(hf:∀(fe:Ht) (fg:Nat),nx<=fg->HE nx hp fe->WF ex f ((.agg (oQ x).toArray)::b.toList) fe fg (fO fg fe (gk A))):WF ex 269 [.agg (oQ x).toArray,pt bb 0] hp nx (fO nx hp (gk (¬A))):=by
 have mn:=fF (e:=ex) 269 Tryz.f269 8 [.tmp 3]
 have mZ:=@Uj
 have oU:=@GX
 have sO:=@xq
 let pc:=oQ
 exact Ds
theorem Sc(A:tz->Prop)(K:SV tz)(f:FuncId)(b:Array Value)(hp:Ht)(nx:Nat)(hK:gA oQ 2 hp nx K)(hf:∀(i:Nat) (x:tz),K.l[i]?=some x->∀(fe:Ht) (fg:Nat),nx<=fg->HE nx hp fe->WF ex f ((.agg (oQ x).toArray)::b.toList) fe fg (fO fg fe (gk (A x)))):WF ex 187 [K.v,.func (.func f) #[] b] hp nx (fO nx hp (gk (∀x∈K.l,A x))):=by
 have mn:=fF (e:=ex) 187 Tryz.f187 9 [.tmp 4]
 have mZ:=@G_
 have oU:=@Qx
 exact Dt
theorem KV{A:sQ->Prop}(K:SV sQ)(f:FuncId)(b:Array Value)(hp:Ht)(nx:Nat)(hK:gA mi 4 hp nx K)(hf:∀(i:Nat) (x:sQ),K.l[i]?=some x->∀(fe:Ht) (fg:Nat),nx<=fg->HE nx hp fe->WF ex f ((.agg (mi x).toArray)::b.toList) fe fg (fO fg fe (gk (A x)))):WF ex 255 [K.v,.func (.func f) #[] b] hp nx (fO nx hp (pM K.l A)):=by
 have mn:=fF (e:=ex) 255 Tryz.f255 19 [.tmp 4]
 have mZ:=@Ju
 have oU:=@tk
 have sO:=@Bd
 let pc:=mi
 exact EM
theorem Ha{A:sQ->Prop}(K:SV sQ)(f:FuncId)(b:Array Value)(hp:Ht)(nx:Nat)(hK:gA mi 4 hp nx K)(hf:∀(i:Nat) (x:sQ),K.l[i]?=some x->∀(fe:Ht) (fg:Nat),nx<=fg->HE nx hp fe->WF ex f ((.agg (mi x).toArray)::b.toList) fe fg (fO fg fe (gk (A x)))):WF ex 270 [K.v,.func (.func f) #[] b] hp nx (fO nx hp (gk (∃x∈K.l,A x))):=by
 have mn:=fF (e:=ex) 270 Tryz.f270 9 [.tmp 4]
 have mZ:=@KV
 exact EK
theorem Qy{A:Prop}(x:sQ)(f:FuncId)(b:Array Value)(bb:Nat)(hp:Ht)(nx:Nat)(hb:hp.get bb=some (.cells [.func (.func f) #[] b] gl.plain))(jz:bb<nx)(hf:∀(fe:Ht) (fg:Nat),nx<=fg->HE nx hp fe->WF ex f ((.agg (mi x).toArray)::b.toList) fe fg (fO fg fe (gk A))):WF ex 271 [.agg (mi x).toArray,pt bb 0] hp nx (fO nx hp (gk (¬A))):=by
 have mn:=fF (e:=ex) 271 Tryz.f271 8 [.tmp 3]
 have mZ:=@Ug
 have oU:=@Bd
 have sO:=@tk
 let pc:=mi
 exact Ds
theorem Sd(A:sQ->Prop)(K:SV sQ)(f:FuncId)(b:Array Value)(hp:Ht)(nx:Nat)(hK:gA mi 4 hp nx K)(hf:∀(i:Nat) (x:sQ),K.l[i]?=some x->∀(fe:Ht) (fg:Nat),nx<=fg->HE nx hp fe->WF ex f ((.agg (mi x).toArray)::b.toList) fe fg (fO fg fe (gk (A x)))):WF ex 189 [K.v,.func (.func f) #[] b] hp nx (fO nx hp (gk (∀x∈K.l,A x))):=by
 have mn:=fF (e:=ex) 189 Tryz.f189 9 [.tmp 4]
 have mZ:=@Ha
 have oU:=@Qy
 exact Dt
theorem Jw{A:qJ->Prop}(K:SV qJ)(f:FuncId)(b:Array Value)(hp:Ht)(nx:Nat)(hK:gA nj 2 hp nx K)(hf:∀(i:Nat) (x:qJ),K.l[i]?=some x->∀(fe:Ht) (fg:Nat),nx<=fg->HE nx hp fe->WF ex f ((.agg (nj x).toArray)::b.toList) fe fg (fO fg fe (gk (A x)))):WF ex 352 [K.v,.func (.func f) #[] b] hp nx (fO nx hp (pM K.l A)):=by
 have mn:=fF (e:=ex) 352 Tryz.f352 19 [.tmp 4]
 have mZ:=@O5
 have oU:=@EZ
 have sO:=@GY
 let pc:=nj
 exact EM
theorem FN{A:qJ->Prop}(K:SV qJ)(f:FuncId)(b:Array Value)(hp:Ht)(nx:Nat)(hK:gA nj 2 hp nx K)(hf:∀(i:Nat) (x:qJ),K.l[i]?=some x->∀(fe:Ht) (fg:Nat),nx<=fg->HE nx hp fe->WF ex f ((.agg (nj x).toArray)::b.toList) fe fg (fO fg fe (gk (A x)))):WF ex 272 [K.v,.func (.func f) #[] b] hp nx (fO nx hp (gk (∃x∈K.l,A x))):=by
 have mn:=fF (e:=ex) 272 Tryz.f272 9 [.tmp 4]
 have mZ:=@Jw
 exact EK
theorem Oc{A:Prop}(x:qJ)(f:FuncId)(b:Array Value)(bb:Nat)(hp:Ht)(nx:Nat)(hb:hp.get bb=some (.cells [.func (.func f) #[] b] gl.plain))(jz:bb<nx)(hf:∀(fe:Ht) (fg:Nat),nx<=fg->HE nx hp fe->WF ex f ((.agg (nj x).toArray)::b.toList) fe fg (fO fg fe (gk A))):WF ex 273 [.agg (nj x).toArray,pt bb 0] hp nx (fO nx hp (gk (¬A))):=by
 have mn:=fF (e:=ex) 273 Tryz.f273 8 [.tmp 3]
 have mZ:=@Uk
 have oU:=@GY
 have sO:=@EZ
 let pc:=nj
 exact Ds
theorem Qz(A:qJ->Prop)(K:SV qJ)(f:FuncId)(b:Array Value)(hp:Ht)(nx:Nat)(hK:gA nj 2 hp nx K)(hf:∀(i:Nat) (x:qJ),K.l[i]?=some x->∀(fe:Ht) (fg:Nat),nx<=fg->HE nx hp fe->WF ex f ((.agg (nj x).toArray)::b.toList) fe fg (fO fg fe (gk (A x)))):WF ex 192 [K.v,.func (.func f) #[] b] hp nx (fO nx hp (gk (∀x∈K.l,A x))):=by
 have mn:=fF (e:=ex) 192 Tryz.f192 9 [.tmp 4]
 have mZ:=@FN
 have oU:=@Oc
 exact Dt
theorem FO{A:mC->Prop}(K:SV mC)(f:FuncId)(b:Array Value)(hp:Ht)(nx:Nat)(hK:gA j9 4 hp nx K)(hf:∀(i:Nat) (x:mC),K.l[i]?=some x->∀(fe:Ht) (fg:Nat),nx<=fg->HE nx hp fe->WF ex f ((.agg (j9 x).toArray)::b.toList) fe fg (fO fg fe (gk (A x)))):WF ex 353 [K.v,.func (.func f) #[] b] hp nx (fO nx hp (pM K.l A)):=by
 have mn:=fF (e:=ex) 353 Tryz.f353 19 [.tmp 4]
 have mZ:=@O6
 have oU:=@xu
 have sO:=@Dl
 let pc:=j9
 exact EM
theorem Du{A:mC->Prop}(K:SV mC)(f:FuncId)(b:Array Value)(hp:Ht)(nx:Nat)(hK:gA j9 4 hp nx K)(hf:∀(i:Nat) (x:mC),K.l[i]?=some x->∀(fe:Ht) (fg:Nat),nx<=fg->HE nx hp fe->WF ex f ((.agg (j9 x).toArray)::b.toList) fe fg (fO fg fe (gk (A x)))):WF ex 274 [K.v,.func (.func f) #[] b] hp nx (fO nx hp (gk (∃x∈K.l,A x))):=by
 have mn:=fF (e:=ex) 274 Tryz.f274 9 [.tmp 4]
 have mZ:=@FO
 exact EK
theorem Jx{A:Prop}(x:mC)(f:FuncId)(b:Array Value)(bb:Nat)(hp:Ht)(nx:Nat)(hb:hp.get bb=some (.cells [.func (.func f) #[] b] gl.plain))(jz:bb<nx)(hf:∀(fe:Ht) (fg:Nat),nx<=fg->HE nx hp fe->WF ex f ((.agg (j9 x).toArray)::b.toList) fe fg (fO fg fe (gk A))):WF ex 275 [.agg (j9 x).toArray,pt bb 0] hp nx (fO nx hp (gk (¬A))):=by
 have mn:=fF (e:=ex) 275 Tryz.f275 8 [.tmp 3]
 have mZ:=@Uh
 have oU:=@Dl
 have sO:=@xu
 let pc:=j9
 exact Ds
theorem KW(A:mC->Prop)(K:SV mC)(f:FuncId)(b:Array Value)(hp:Ht)(nx:Nat)(hK:gA j9 4 hp nx K)(hf:∀(i:Nat) (x:mC),K.l[i]?=some x->∀(fe:Ht) (fg:Nat),nx<=fg->HE nx hp fe->WF ex f ((.agg (j9 x).toArray)::b.toList) fe fg (fO fg fe (gk (A x)))):WF ex 194 [K.v,.func (.func f) #[] b] hp nx (fO nx hp (gk (∀x∈K.l,A x))):=by
 have mn:=fF (e:=ex) 194 Tryz.f194 9 [.tmp 4]
 have mZ:=@Du
 have oU:=@Jx
 exact Dt
theorem E6{A:lP->Prop}(K:SV lP)(f:FuncId)(b:Array Value)(hp:Ht)(nx:Nat)(hK:gA jS 3 hp nx K)(hf:∀(i:Nat) (x:lP),K.l[i]?=some x->∀(fe:Ht) (fg:Nat),nx<=fg->HE nx hp fe->WF ex f ((.agg (jS x).toArray)::b.toList) fe fg (fO fg fe (gk (A x)))):WF ex 354 [K.v,.func (.func f) #[] b] hp nx (fO nx hp (pM K.l A)):=by
 have mn:=fF (e:=ex) 354 Tryz.f354 19 [.tmp 4]
 have mZ:=@O7
 have oU:=@xv
 have sO:=@Dm
 let pc:=jS
 exact EM
theorem CM{A:lP->Prop}(K:SV lP)(f:FuncId)(b:Array Value)(hp:Ht)(nx:Nat)(hK:gA jS 3 hp nx K)(hf:∀(i:Nat) (x:lP),K.l[i]?=some x->∀(fe:Ht) (fg:Nat),nx<=fg->HE nx hp fe->WF ex f ((.agg (jS x).toArray)::b.toList) fe fg (fO fg fe (gk (A x)))):WF ex 276 [K.v,.func (.func f) #[] b] hp nx (fO nx hp (gk (∃x∈K.l,A x))):=by
 have mn:=fF (e:=ex) 276 Tryz.f276 9 [.tmp 4]
 have mZ:=@E6
 exact EK
theorem Iz{A:Prop}(x:lP)(f:FuncId)(b:Array Value)(bb:Nat)(hp:Ht)(nx:Nat)(hb:hp.get bb=some (.cells [.func (.func f) #[] b] gl.plain))(jz:bb<nx)(hf:∀(fe:Ht) (fg:Nat),nx<=fg->HE nx hp fe->WF ex f ((.agg (jS x).toArray)::b.toList) fe fg (fO fg fe (gk A))):WF ex 277 [.agg (jS x).toArray,pt bb 0] hp nx (fO nx hp (gk (¬A))):=by
 have mn:=fF (e:=ex) 277 Tryz.f277 8 [.tmp 3]
 have mZ:=@Ul
 have oU:=@Dm
 have sO:=@xv
 let pc:=jS
 exact Ds
theorem Jy(A:lP->Prop)(K:SV lP)(f:FuncId)(b:Array Value)(hp:Ht)(nx:Nat)(hK:gA jS 3 hp nx K)(hf:∀(i:Nat) (x:lP),K.l[i]?=some x->∀(fe:Ht) (fg:Nat),nx<=fg->HE nx hp fe->WF ex f ((.agg (jS x).toArray)::b.toList) fe fg (fO fg fe (gk (A x)))):WF ex 195 [K.v,.func (.func f) #[] b] hp nx (fO nx hp (gk (∀x∈K.l,A x))):=by
 have mn:=fF (e:=ex) 195 Tryz.f195 9 [.tmp 4]
 have mZ:=@CM
 have oU:=@Iz
 exact Dt
theorem IA{A:oR->Prop}(K:SV oR)(f:FuncId)(b:Array Value)(hp:Ht)(nx:Nat)(hK:gA lg 4 hp nx K)(hf:∀(i:Nat) (x:oR),K.l[i]?=some x->∀(fe:Ht) (fg:Nat),nx<=fg->HE nx hp fe->WF ex f ((.agg (lg x).toArray)::b.toList) fe fg (fO fg fe (gk (A x)))):WF ex 355 [K.v,.func (.func f) #[] b] hp nx (fO nx hp (pM K.l A)):=by
 have mn:=fF (e:=ex) 355 Tryz.f355 19 [.tmp 4]
 have mZ:=@O_
 have oU:=@xx
 have sO:=@Dr
 let pc:=lg
 exact EM
theorem E7{A:oR->Prop}(K:SV oR)(f:FuncId)(b:Array Value)(hp:Ht)(nx:Nat)(hK:gA lg 4 hp nx K)(hf:∀(i:Nat) (x:oR),K.l[i]?=some x->∀(fe:Ht) (fg:Nat),nx<=fg->HE nx hp fe->WF ex f ((.agg (lg x).toArray)::b.toList) fe fg (fO fg fe (gk (A x)))):WF ex 278 [K.v,.func (.func f) #[] b] hp nx (fO nx hp (gk (∃x∈K.l,A x))):=by
 have mn:=fF (e:=ex) 278 Tryz.f278 9 [.tmp 4]
 have mZ:=@IA
 exact EK
theorem Nf{A:Prop}(x:oR)(f:FuncId)(b:Array Value)(bb:Nat)(hp:Ht)(nx:Nat)(hb:hp.get bb=some (.cells [.func (.func f) #[] b] gl.plain))(jz:bb<nx)(hf:∀(fe:Ht) (fg:Nat),nx<=fg->HE nx hp fe->WF ex f ((.agg (lg x).toArray)::b.toList) fe fg (fO fg fe (gk A))):WF ex 279 [.agg (lg x).toArray,pt bb 0] hp nx (fO nx hp (gk (¬A))):=by
 have mn:=fF (e:=ex) 279 Tryz.f279 8 [.tmp 3]
 have mZ:=@Ui
 have oU:=@Dr
 have sO:=@xx
 let pc:=lg
 exact Ds
theorem Oe(A:oR->Prop)(K:SV oR)(f:FuncId)(b:Array Value)(hp:Ht)(nx:Nat)(hK:gA lg 4 hp nx K)(hf:∀(i:Nat) (x:oR),K.l[i]?=some x->∀(fe:Ht) (fg:Nat),nx<=fg->HE nx hp fe->WF ex f ((.agg (lg x).toArray)::b.toList) fe fg (fO fg fe (gk (A x)))):WF ex 197 [K.v,.func (.func f) #[] b] hp nx (fO nx hp (gk (∀x∈K.l,A x))):=by
 have mn:=fF (e:=ex) 197 Tryz.f197 9 [.tmp 4]
 have mZ:=@E7
 have oU:=@Nf
 exact Dt
end
end Sw
