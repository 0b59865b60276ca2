/- A part of the proof that the law returns true for every input that its row speaks of. No condition is added. -/
import Derived.Test.YtecbgehgkpgbmaaGreatDoorSwAL
import Derived.Test.YtecbgehgkpgbmaaGreatDoorSwAG
namespace Sw
noncomputable section
open Go Go.Proofs Go.RowKit
set_option maxRecDepth 100000
set_option maxHeartbeats 1600000
theorem Ct.Z4{C:j4}(h:Ct C):∀x∈C.fu.l,(BY (gn .i64 ((.ofNat (C.iv.l.length))-(1)))) x:=h.1.1.1.1.1.1.1.1.1.1.2
section
variable {C:j4}
theorem U8(h:¬vQ C):mF C=2:=if_pos h
theorem S7(h:¬¬vQ C)(D:¬Bz C):mF C=70:=(if_neg h).trans (if_pos D)
theorem S8(h:¬¬vQ C)(D:¬¬Bz C)(h3:¬Ct C):mF C=71:=(if_neg h).trans ((if_neg D).trans (if_pos h3))
theorem U9(h:¬¬vQ C)(D:¬¬Bz C)(h3:¬¬Ct C)(h4:qo (C.nQ.l.map .step)≠0):mF C=qo (C.nQ.l.map .step):=(if_neg h).trans ((if_neg D).trans ((if_neg h3).trans (if_pos h4)))
theorem S9(h:¬¬vQ C)(D:¬¬Bz C)(h3:¬¬Ct C)(h4:¬qo (C.nQ.l.map .step)≠0)(b:¬∀d∈C.fu.l,(Da C (IZ C)) d):mF C=72:=(if_neg h).trans ((if_neg D).trans ((if_neg h3).trans ((if_neg h4).trans (if_pos b))))
theorem U_(h:¬¬vQ C)(D:¬¬Bz C)(h3:¬¬Ct C)(h4:¬qo (C.nQ.l.map .step)≠0)(b:¬¬∀d∈C.fu.l,(Da C (IZ C)) d):mF C=0:=(if_neg h).trans ((if_neg D).trans ((if_neg h3).trans ((if_neg h4).trans (if_neg b))))
end
theorem NR:ex.T.agg 245=some false:=U
theorem xT:ex.T.agg 33=some true:=U
theorem S_:ex.T.size 245=some 1:=U
theorem vU:ex.T.size 33=some 16:=U
theorem Ta:ex.T.zero 245=some (.map none):=U
theorem Q3(C:j4)(d:j6)(m j b u:Nat)(y:List MapEntry)(e:List mc)(R:BY (gn .i64 ((.ofNat (C.iv.l.length))-(1))) d)(hH:tY 17 d.jI.l)(O:Ht)(G:Nat)(N:oV O G C)(hd:lQ O G d)(E:O.get m=some (.cells (iM C) gi.plain))(K:m<G)(B:O.get j=some (.cells [.map (some b)] gi.plain))(J:j<G)(F:O.get b=some (.map y u))(L:b<G)(z:kM (fun x:mc=>.agg (pU x).toArray) e (fun _=>.bool true) y)(A:e.Nodup):WF ex 101 [.agg (iL d).toArray,pt m 0,pt j 0] O G (fG G O (ga (Da C e d))):=by
 refine wd Tryz.f101 9 [.tmp 4] fun hE=>sr<|oB (.agg (iL d).toArray) (iL d) fun jq iC hU=>?_
 have kW:=hE.trans iC
 refine oN 1<|sr<|WO.cons (WC.im m (0) (iM C) U xT vU (iC.get E K) rfl<|WO.cons (WC.im G (0) (iL d) U ze n9 hU rfl<|oZ j (0) (.map (some b)) NR (iC.get B J) rfl<|WO.cons (WC.call 8 102 ([.agg (iM C).toArray,.agg (iL d).toArray,.map (some b)]) kf ((Q2 C d b _ _ e R hH jq (G+1) (N.mono kW) (hd.mono kW) (iC.get F L) om z A).mono ?_))))
 rintro _ W X ⟨⟨o,rfl,M⟩,S,p⟩
 refine oW 1 ⟨rfl,rfl,[.bool o],U,?_⟩
 refine⟨⟨o,rfl,?_⟩,od,(kW.trans p)⟩
 exact M
theorem Tb(qn:yx)(qJ:wC)(C:j4)(O:Ht)(G:Nat)(e:oV O G C)(hlen:C.nQ.l.length<=2932031007403):WF ex 52 [.agg (iM C).toArray] O G (fG G O (fun v=>v=Y (mF C))):=by
 refine wd Tryz.f52 44 [.tmp 2] fun hE=>sr<|oB (.agg (iM C).toArray) (iM C) fun jq iC hU=>?_
 have kW:=hE.trans iC
 refine oN 1<|WP.seq<|WP.block<|sr<|WO.cons (WC.im G (0) (iM C) U xT vU hU rfl<|WO.cons (WC.call 8 96 ([.agg (iM C).toArray]) kf ((WZ C jq (G+1) (e.mono kW)).mono ?_)))
 rintro _ aV aX ⟨⟨nM,rfl,rN⟩,bu,aj⟩
 have B:=kW.trans aj
 have af:=aj.get hU
 refine oq 9 (nN rN) fun bE aY=>oN 1<|cq aY (fun a_=>?_) (fun a_=>?_)
 ·
  refine sr<|oW 1 ⟨rfl,rfl,[Y 2],U,?_⟩
  exact⟨congrArg (Value.int .i64) (show mF C=2 from U8 (by assumption)).symm,od,B⟩
 ·
  refine sr<|WO.cons (WC.im G (0) (iM C) U xT vU af rfl<|WO.cons (WC.call 12 97 ([.agg (iM C).toArray]) kf ((UM qn qJ C aV (aX) (e.mono B)).mono ?_)))
  rintro _ aJ aM ⟨⟨ux,rfl,ul⟩,bw,ak⟩
  have E:=B.trans ak
  have ag:=ak.get af
  refine oq 13 (nN ul) fun bG aZ=>oN 1<|cq aZ (fun bc=>?_) (fun bc=>?_)
  ·
   refine sr<|oW 1 ⟨rfl,rfl,[Y 70],U,?_⟩
   exact⟨congrArg (Value.int .i64) (show mF C=70 from S7 (by assumption) (by assumption)).symm,od,E⟩
  ·
   refine sr<|WO.cons (WC.im G (0) (iM C) U xT vU ag rfl<|WO.cons (WC.call 16 98 ([.agg (iM C).toArray]) kf ((QZ C (PB (fg.1 (by assumption:¬¬vQ C))) aJ (aM) (e.mono E)).mono ?_)))
   rintro _ aK aN ⟨⟨bH,rfl,a6⟩,bx,al⟩
   have F:=E.trans al
   have ah:=al.get ag
   refine oq 17 (nN a6) fun bI a7=>oN 1<|cq a7 (fun bd=>?_) (fun bd=>?_)
   ·
    refine sr<|oW 1 ⟨rfl,rfl,[Y 71],U,?_⟩
    exact⟨congrArg (Value.int .i64) (show mF C=71 from S8 (by assumption) (by assumption) (by assumption)).symm,od,F⟩
   ·
    refine WP.skip<|WP.seq<|sr<|oX 1 ?_
    obtain⟨a44,aT,an⟩:=e.nQ.1.shape
    have bn:=e.nQ.1.2.2
    refine oZ G (0+8) (.slice a44 (C.nQ.l.length) aT) vd ah (by rw[<-an];rfl)<|WO.cons (WC.call 20 99 ([C.nQ.v]) (fun _ _ _=>by(try rw[an]);kernel_rfl) ((W7 C.nQ aK (aN) (e.nQ.mono (fun _ h he hn=>h.mono he hn) F) hlen).mono ?_))
    rintro _ pH oK ⟨rfl,Cp,oJ⟩
    have ad:=F.trans oJ
    refine oN 1<|sr<|oX 1 ?_
    refine oq 22 (qG (qo (C.nQ.l.map .step)) 0) fun bJ a8=>WO.nil<|cq a8 (fun be=>?_) (fun be=>?_)
    ·
     refine sr<|oW 2 ⟨rfl,rfl,[Y (qo (C.nQ.l.map .step))],U,?_⟩
     exact⟨congrArg (Value.int .i64) (show mF C=qo (C.nQ.l.map .step)from U9 (by assumption) (by assumption) (by assumption) (by assumption)).symm,od,ad⟩
    ·
     refine WP.skip<|sr<|WO.cons (WC.makeMap rfl ?_)
     obtain⟨bA,ao,sT,aD⟩:=mapped pH (oK) (.map [] 0)
     rw[ao];clear ao
     refine oA [.map none] Ta fun bB J aE=>?_
     refine oS (oK+1) (0) (.map (some oK)) [.map (some oK)] [.map (some oK)] S_ rfl rfl aE fun bC aG aF am=>?_
     have ai:=(am G om).trans (J.get (sT.get (oJ.get ah)))
     refine WO.nil<|WP.seq<|sr<|oX 1 ?_
     obtain⟨ay,az,K⟩:=e.jR.shape
     have bo:=e.jR.2.2
     refine oZ G (0+2) (.slice ay (C.jR.l.length) az) C2 ai (by rw[<-K];rfl)<|oN 2<|WP.block ?_
     refine mg [1,3,26,27,28] (fun m hs ns vs=>∃(b:Nat) (A:List MapEntry) (ac:Nat),b+m=C.jR.l.length/\vs=[pt G 0,pt (oK+1) 0,.slice ay (C.jR.l.length) az,Y (.ofNat (C.jR.l.length)),Y (.ofNat b)]/\oK+1+1<=ns/\HE G O hs/\hs.get G=some (.cells (iM C) gi.plain)/\hs.get oK=some (.map A ac)/\hs.get (oK+1)=some (.cells [.map (some oK)] gi.plain)/\(kM (fun x:mc=>.agg (pU x).toArray) (lj ((C.jR.l.take b).map xS)) (fun _=>.bool true) A)) ?_ (C.jR.l.length) ?_
     ·
      rintro bD aL y _ ⟨b,A,ac,bf,rfl,bz,o,L,aa,ab,ae⟩ bq
      refine sr ?_
      refine oq 29 (kL b C.jR.l.length) fun br aO=>WO.nil<|WP.seq<|cq aO (fun aR=>?_) (fun aR=>?_)
      ·
       refine WP.skip<|WP.seq<|WP.block<|sr ?_
       have z:b<C.jR.l.length:=by omega
       refine WO.cons (WC.iy K e.jR (b) JM tE (z) ?_)
       obtain⟨j,X⟩:=gE z
       refine WO.cons (WC.ly K (e.jR.mono o nR) X BB tE<|oA [Y 0,Y 0,Y 0,Y 0] KJ fun bh p ar=>?_)
       refine oS y (0) (.agg (my j).toArray) (my j) (my j) tE rfl rfl ar fun bj av N u=>?_
       have R:=(u (oK+1) om).trans (p.get ab)
       refine WO.nil<|WP.region<|oZ (oK+1) (0) (.map (some oK)) NR R rfl<|oX 1<|oZ y 0 (Y j.lE) ft N rfl<|oX 1<|oZ y (0+1) (Y j.pR) ft N rfl<|oX 1<|WO.cons (WC.mapUpdate (g:=(fun _=>.bool true)) (g':=(fun _=>.bool true)) oK (⟨j.lE,j.pR⟩:mc) (.bool true) rfl U U U IV IU ((u oK om).trans (p.get aa)) ae (qR _) rfl (fun _ _=>rfl) ?_)
       rintro ap aB bk aw au S aq
       refine WO.nil<|WP.region<|ov 38 (Y (.ofNat (b+1))) ?_ (fun _ _ _=>by rw[<-gM (show b+1<9223372036854775808 by omega)];kernel_rfl)
       refine oN 1<|⟨C.jR.l.length-(b+1),om,rfl,rfl,b+1,ap,aB,om,U,?_,?_,?_,?_,?_,?_⟩
       · exact od
       · exact(((o.trans p).trans av).trans aw)
       · exact((S G om).trans ((u G om).trans (p.get L)))
       · exact au
       · exact((S (oK+1) om).trans R)
       · rw[uN X];exact aq
      ·
       refine WP.exit<|WP.seq<|sr<|oX 1 ?_
       obtain⟨a146,aC,W⟩:=e.fu.1.shape
       have aW:=e.fu.1.2.2
       refine oZ G (0+3) (.slice a146 (C.fu.l.length) aC) rP L (by rw[<-W];rfl)<|oX 1 ?_
       have aU:C.jR.l.take b=C.jR.l:=fy om
       have aA:=ae
       rw[aU]at aA
       have aH:=PB (fg.1 (by assumption:¬¬vQ C))
       have aI:=Ct.Z4 (fg.1 (by assumption:¬¬Ct C))
       refine WO.cons (WC.call 42 100 ([C.fu.v,.func (.func 101) #[] #[pt G 0,pt (oK+1) 0]]) (fun _ _ _=>by(try rw[W]);kernel_rfl) ((C8 (Da C (IZ C)) C.fu 101 #[pt G 0,pt (oK+1) 0] aL (y) (e.fu.mono (fun _ h he hn=>h.mono he hn) o) (fun i x hx eZ e5 hn he=>Q3 C x G (oK+1) oK _ _ (IZ C) (aI x (cs hx)) (aH x (cs hx)) eZ e5 ((e.mono o).mono he hn) (((e.fu.mono (fun _ h he hn=>h.mono he hn) o om).2 x (cs hx)).mono he hn) (he.get L) (e4 om hn) (he.get ab) (e4 om hn) (he.get aa) (e4 om hn) aA (qR _))).mono ?_))
       rintro _ bl bp ⟨⟨bs,rfl,aP⟩,bg,ax⟩
       have M:=o.trans ax
       refine oq 43 (nN aP) fun bt aQ=>WO.nil<|cq aQ (fun aS=>?_) (fun aS=>?_)
       ·
        refine sr<|oW 1 ⟨rfl,rfl,[Y 72],U,?_⟩
        exact⟨congrArg (Value.int .i64) (show mF C=72 from S9 (by assumption) (by assumption) (by assumption) (by assumption) (by assumption)).symm,od,M⟩
       ·
        refine WP.skip<|sr<|oW 1 ⟨rfl,rfl,[Y 0],U,?_⟩
        exact⟨congrArg (Value.int .i64) (show mF C=0 from U_ (by assumption) (by assumption) (by assumption) (by assumption) (by assumption)).symm,od,M⟩
     ·
      exact⟨0,([]:List MapEntry),0,om,U,e9 _,(((ad.trans sT).trans J).trans aG),ai,((am oK om).trans (J.get aD)),aF,(show kM _ (lj ((C.jR.l.take 0).map xS)) _ _ from kM.nil)⟩
end
end Sw
namespace Sw
noncomputable section
open Go Go.Proofs Go.RowKit
set_option maxRecDepth 100000
set_option maxHeartbeats 1600000
theorem Z5{K:SV Int}{O:Ht}{G l:Nat}(h:gx encI 1 O G K)(hl:l<=K.l.length):∃a c,vw K.v 1 0 l=.slice a l c/\K.v=.slice a K.l.length c/\lg 8 (.slice a l c) (.slice a l c)=true:=by
 have e:=Yg 8 K.v 1 0 l
 rcases h.2.1 with⟨h1,D|⟨q,D⟩⟩|⟨b,cap,m,h1,_⟩
 · rw[h1]at hl⊢;obtain rfl:l=0:=by simpa using hl
   rw[D]at e⊢;exact⟨none,0,rfl,rfl,e⟩
 · rw[h1]at hl⊢;obtain rfl:l=0:=by simpa using hl
   rw[D]at e⊢;exact⟨_,0,rfl,rfl,e⟩
 · rw[h1]at e⊢;exact⟨_,cap,rfl,rfl,e⟩
def yH(L:List Int):Prop:=(∀b∈L,1<=b/\b<=9999)/\L.Nodup
theorem Tc{l:List Int}{i:Nat}{x:Int}(hx:l[i]?=some x)(h:yH (l.take i))(q:¬((x<1\/9999<x)\/x∈l.take i)):yH (l.take (i+1)):=by
 rw[List.take_add_one,hx,Option.toList_some]
 refine⟨fun b hb=>?_,List.nodup_append.2 ⟨h.2,by simp,fun a e b hb=>?_⟩⟩
 · rcases List.mem_append.1 hb with hb|hb
   · exact h.1 b hb
   · rw[List.mem_singleton.1 hb];omega
 · rw[List.mem_singleton.1 hb];rintro rfl;exact q (.inr e)
theorem Va{l:List Int}{i:Nat}{x:Int}(hx:l[i]?=some x)(q:(x<1\/9999<x)\/x∈l.take i):¬yH l:=by
 intro h
 rcases q with q|q
 · have:=h.1 x (cs hx);omega
 · have hi:=(List.getElem?_eq_some_iff.1 hx).1
   have e:l=l.take i++x::l.drop (i+1):=by
    have:=List.take_append_drop i l
    rw[List.drop_eq_getElem_cons hi,(List.getElem?_eq_some_iff.1 hx).2]at this
    exact this.symm
   have D:=h.2
   rw[e,List.nodup_append]at D
   exact D.2.2 _ q _ (fh ..) rfl
def FB(C:j4)(r:qz):Prop:=(2<=r.iB.l.length/\r.iB.l.length<=16)/\(0<=r.i_/\r.i_<((C.iv.l.length:Nat):Int))/\(∃k,C.iv.l[r.i_.toNat]?=some k/\k.je=3)/\0<=r.DD/\r.DD<=1099511627776
section
open Classical
def nP(C:j4)(r:qz):Int:=if mF C≠0 then mF C else if¬FB C r then 320 else if¬yH r.iB.l then 320 else 0
variable {C:j4}{r:qz}
theorem W9(h:mF C≠0):nP C r=mF C:=if_pos h
theorem PC(h:¬mF C≠0)(D:¬FB C r):nP C r=320:=(if_neg h).trans (if_pos D)
theorem W_(h:¬mF C≠0)(D:¬yH r.iB.l):nP C r=320:=by
 by_cases h3:FB C r
 · exact(if_neg h).trans ((if_neg (fun k=>k h3)).trans (if_pos D))
 · exact PC h h3
theorem Xa(h:¬mF C≠0)(D:FB C r)(h3:yH r.iB.l):nP C r=0:=(if_neg h).trans ((if_neg (fun k=>k D)).trans (if_neg (fun k=>k h3)))
end
theorem NS(K:SV Int)(l:Nat)(n:Int)(O:Ht)(G:Nat)(hK:gx encI 1 O G K)(hl:l<=K.l.length)(a:Option Addr)(c:Nat)(e:K.v=.slice a K.l.length c)(j:lg 8 (.slice a l c) (.slice a l c)=true):WF ex 53 [.slice a (l) c,Y n] O G (fG G O (ga (∃x∈K.l.take l,n=x))):=by
 refine wd Tryz.f53 9 [.tmp 4] fun hE=>sr<|oN 1<|sr<|oX 2<|WO.cons (WC.call 7 103 ([.slice a (l) c,Y n]) (fun _ _ _=>by(try rw[e]);kernel_rfl) ((Sk K l n O (G) hK hl a c e j).mono ?_))
 rintro o y oT ⟨BH,u,iC⟩
 obtain⟨z5,rfl,m⟩:∃z:Int,o=Y z/\(0<=z↔∃x∈K.l.take l,n=x):=pW.sign BH
 refine oq 8 (pF 0 z5) fun b p=>oW 1 ⟨rfl,rfl,[.bool b],U,?_⟩
 refine⟨⟨b,rfl,?_⟩,od,(hE.trans iC)⟩
 exact p.trans m
theorem NT(K:SV Int)(l:Nat)(n:Int)(O:Ht)(G:Nat)(hK:gx encI 1 O G K)(hl:l<=K.l.length):WF ex 53 [vw K.v 1 (0) (l),Y n] O G (fG G O (ga (n∈K.l.take l))):=by
 obtain⟨a,c,h1,D,h3⟩:=Z5 hK hl
 rw[h1]
 exact(NS K l n O G hK hl a c D h3).mono fun v _ _ ⟨⟨c,b,j⟩,k⟩=>⟨⟨c,b,j.trans ⟨fun⟨x,hx,e⟩=>e▸hx,fun h=>⟨n,h,rfl⟩⟩⟩,k⟩
theorem Lj(qn:yx)(qJ:wC)(C:j4)(r:qz)(O:Ht)(G:Nat)(ab:oV O G C)(hr:xn O G r)(hlen:C.nQ.l.length<=2932031007403):WF ex 20 [.agg (iM C).toArray,.agg (pe r).toArray] O G (fG G O (fun v=>v=Y (nP C r))):=by
 refine wd Tryz.f20 79 [.tmp 4] fun hE=>sr<|oB (.agg (iM C).toArray) (iM C) fun jq iC hU=>?_
 refine oB (.agg (pe r).toArray) (pe r) fun aD ai av=>?_
 have af:=(hE.trans iC).trans ai
 have ag:=ai.get hU
 refine oN 1<|WP.seq<|sr<|WO.cons (WC.im G (0) (iM C) U xT vU ag rfl<|WO.cons (WC.call 9 52 ([.agg (iM C).toArray]) kf ((Tb qn qJ C aD (G+1+1) (ab.mono af) hlen).mono ?_)))
 rintro _ ay an ⟨rfl,xq,jx⟩
 have y:=af.trans jx
 have ah:=jx.get ag
 have j:=jx.get av
 refine oN 1<|sr<|oX 1 ?_
 refine oq 11 (qG (mF C) 0) fun bg aE=>WO.nil<|cq aE (fun wJ=>?_) (fun wJ=>?_)
 ·
  refine sr<|oW 2 ⟨rfl,rfl,[Y (mF C)],U,?_⟩
  exact⟨congrArg (Value.int .i64) (show nP C r=mF C from W9 wJ).symm,od,y⟩
 ·
  refine WP.skip<|WP.seq<|sr<|oX 1 ?_
  obtain⟨A,B,u⟩:=hr.iB.shape
  have aZ:=hr.iB.2.2
  refine oZ (G+1) 0 (.slice A (r.iB.l.length) B) lF j (by rw[<-u];rfl)<|oX 1 ?_
  refine oq 16 (y5 r.iB.l.length 2) fun S aF=>oX 1<|gF 17 S (pt (G+1) 0)<|nF 17 S (G+1) 0 (.slice A (r.iB.l.length) B) lF j (by rw[<-u];rfl)<|gF 17 S (Y (.ofNat (r.iB.l.length))) ?_
  refine nm 17 S (nE 16 r.iB.l.length) fun bh aG=>?_
  refine mz 22 (nO aF aG) fun ac aH=>oX 1<|gF 23 ac (pt (G+1) (0+1))<|nF 23 ac (G+1) (0+1) (Y r.i_) ft j rfl ?_
  refine nm 23 ac (mr r.i_ 0) fun bj aI=>?_
  refine mz 27 (nO aH aI) fun E aJ=>oX 1<|gF 28 E (pt (G+1) (0+1))<|nF 28 E (G+1) (0+1) (Y r.i_) ft j rfl<|gF 28 E (pt G (0+1)) ?_
  obtain⟨K,ar,J⟩:=ab.iv.shape
  have a6:=ab.iv.2.2
  refine nF 28 E G (0+1) (.slice K (C.iv.l.length) ar) wA ah (by rw[<-J];rfl)<|gF 28 E (Y (.ofNat (C.iv.l.length))) ?_
  refine nm 28 E (G_ C.iv.l.length r.i_) fun bk aK=>?_
  refine mz 35 (nO aJ aK) fun e L=>oX 1<|gF 36 e (pt G (0+1))<|nF 36 e G (0+1) (.slice K (C.iv.l.length) ar) wA ah (by rw[<-J];rfl)<|gF 36 e (pt (G+1) (0+1)) ?_
  obtain⟨kx,ak⟩:∃k:Nat,k=(r.i_).toNat:=⟨_,rfl⟩
  have aw:0<=r.i_->r.i_=.ofNat kx:=fun h=>by rw[ak];exact(gI h).symm
  refine wG 36 (!e) (Y (.ofNat kx)) (.bool e) (by cases e<;>rfl) (fun h=>by obtain rfl:=bF h;have aA:=nf L;exact WC.jP (G+1) (0+1) (Y (.ofNat kx)) U ft j (by rw[<-aw om];rfl) rfl) ?_
  have F:(!e)=true->kx<C.iv.l.length:=fun h=>by obtain rfl:e=false:=(by simpa using h);have aA:¬((((((r.iB.l.length:Nat):Int)<(2))\/((16)<((r.iB.l.length:Nat):Int)))\/((r.i_)<(0)))\/(((C.iv.l.length:Nat):Int)<=(r.i_))):=(fun k=>absurd ((L).2 k) (by decide));omega
  refine xJ 36 e (pt (fW K) (0+(kx)*2)) (by rintro rfl;exact WC.iy J ab.iv (kx) C6 xO ((F rfl)) rfl)<|gF 36 e (pt (fW K) (0+(kx)*2+1)) ?_
  obtain⟨aa,am⟩:∃aB,(!e)=true->C.iv.l[kx]?=some aB:=⟨(C.iv.l[kx]?).getD default,fun h=>by rw[List.getElem?_eq_getElem (by obtain rfl:e=false:=(by simpa using h);exact(F rfl))];rfl⟩
  have X:=fun(a0:¬((((((r.iB.l.length:Nat):Int)<(2))\/((16)<((r.iB.l.length:Nat):Int)))\/((r.i_)<(0)))\/(((C.iv.l.length:Nat):Int)<=(r.i_))))=>am (by first|(rw[show e=false from Bool.eq_false_iff.2 (fun k=>a0 ((L).1 k))];rfl)|rw[show e=false from Bool.eq_false_iff.2 (fun k=>a0 ((L).1 k))])
  refine xJ 36 e (Y aa.je) (by rintro rfl;exact WC.sb (fW K) (0+(kx)*2+1) (Y aa.je) U ft ((ab.iv.mono y nR).pd J (zl ((F rfl)))) (nj (ab.iv.mono y nR).1 (am rfl) (by decide) rfl) rfl) ?_
  refine nm 36 e (qG aa.je 3) fun bl aL=>?_
  refine mz 45 (nO L aL) fun ad aM=>oX 1<|gF 46 ad (pt (G+1) (0+2))<|nF 46 ad (G+1) (0+2) (Y r.DD) ft j rfl ?_
  refine nm 46 ad (mr r.DD 0) fun bn aN=>?_
  refine mz 50 (nO aM aN) fun ae aO=>oX 1<|gF 51 ae (pt (G+1) (0+2))<|nF 51 ae (G+1) (0+2) (Y r.DD) ft j rfl ?_
  refine nm 51 ae (mr 1099511627776 r.DD) fun bo aP=>?_
  refine mz 55 (nO aO aP) fun bp aQ=>WO.nil<|cq aQ (fun aW=>?_) (fun aW=>?_)
  ·
   refine sr<|oW 1 ⟨rfl,rfl,[Y 320],U,?_⟩
   have al:=X
   have aC:¬FB C r:=by
    rintro ⟨h1,D,⟨k,h3,h4⟩,bu⟩
    have a8:=al om
    rw[<-ak,a8]at h3;cases h3
    omega
   exact⟨congrArg (Value.int .i64) (show nP C r=320 from PC (by assumption) aC).symm,od,y⟩
  ·
   refine WP.skip<|WP.seq<|sr<|oX 1<|oZ (G+1) 0 (.slice A (r.iB.l.length) B) lF j (by rw[<-u];rfl)<|oN 2<|WP.block ?_
   refine mg [3,57,58,59] (fun m hs ns vs=>∃(b:Nat),b+m=r.iB.l.length/\vs=[pt (G+1) 0,.slice A (r.iB.l.length) B,Y (.ofNat (r.iB.l.length)),Y (.ofNat b)]/\an<=ns/\HE (an) ay hs/\(yH (r.iB.l.take b))) ?_ (r.iB.l.length) ?_
   ·
    rintro be N ao _ ⟨b,aY,rfl,ax,M,hinv⟩ a7
    have z:=y.trans M
    refine sr ?_
    refine oq 60 (kL b r.iB.l.length) fun bq aR=>WO.nil<|WP.seq<|cq aR (fun aX=>?_) (fun aX=>?_)
    ·
     refine WP.skip<|WP.seq<|WP.block<|sr<|oX 1 ?_
     have W:b<r.iB.l.length:=by omega
     refine WO.cons (WC.iy u hr.iB (b) lG kp (W) ?_)
     obtain⟨p,R⟩:=gE W
     refine WO.cons (WC.lz (Y p) u (hr.iB.mono z nR) R rfl ft<|oN 2<|sr<|oX 1 ?_)
     refine oq 65 (mr p 1) fun au aS=>oX 1<|gF 66 au (Y p) ?_
     refine nm 66 au (mr 9999 p) fun br aT=>?_
     refine mz 69 (nO aS aT) fun o ap=>oX 1<|gF 70 o (pt (G+1) 0)<|nF 70 o (G+1) 0 (.slice A (r.iB.l.length) B) lF (M.get j) (by rw[<-u];rfl)<|gF 70 o (Y (.ofNat b))<|wG 70 (!o) (vw r.iB.v 1 (0) (b)) (.bool o) (by cases o<;>rfl) (fun h=>by obtain rfl:=bF h;have aA:=nf ap;exact WC.me (v:=vw r.iB.v 1 (0) (b)) 74 (sH ex.T N.get 42 (.slice A (r.iB.l.length) B) none (some (Y (.ofNat (b)))) none) kf (by rw[<-u];exact Sj (hr.iB.mono z nR) lG kp om) rfl) ?_
     refine gF 70 o (Y p)<|WO.cons (WC.gq (!o) (GB (!o) ((p)∈r.iB.l.take (b)) (ao) N) (.bool o) (g:=fV (.tmp 70)) rfl U (by cases o<;>rfl) (fun h=>by obtain rfl:o=false:=(by simpa using h);have aA:¬(((p)<(1))\/((9999)<(p))):=(fun k=>absurd ((ap).2 k) (by decide));exact WC.call 76 53 ([vw r.iB.v 1 (0) (b),Y p]) kf ((NT r.iB (b) (p) N (ao) (hr.iB.mono z) om).mono fun v eZ e5 ⟨⟨c,bd,hc⟩,hn,he⟩=>⟨_,_,_,rfl,⟨c,bd,hc⟩,hn,he⟩)) (fun h=>GB.off h) ?_)
     rintro _ bc bf ⟨⟨bs,rfl,aU⟩,a_,aj⟩
     refine mz 77 (nO ap aU) fun bt aV=>WO.nil<|cq aV (fun aq=>?_) (fun aq=>?_)
     ·
      refine sr<|oW 1 ⟨rfl,rfl,[Y 320],U,?_⟩
      exact⟨congrArg (Value.int .i64) (show nP C r=320 from W_ (by assumption) (Va R aq)).symm,od,(z.trans aj)⟩
     ·
      refine WP.skip<|WP.region<|ov 78 (Y (.ofNat (b+1))) ?_ (fun _ _ _=>by rw[<-gM (show b+1<9223372036854775808 by omega)];kernel_rfl)
      refine oN 1<|⟨r.iB.l.length-(b+1),om,rfl,rfl,b+1,om,U,?_,?_,?_⟩
      · exact od
      · exact(M.trans aj ax)
      · exact Tc R hinv aq
    ·
     refine WP.exit<|sr<|oW 1 ⟨rfl,rfl,[Y 0],U,?_⟩
     have hT:r.iB.l.take b=r.iB.l:=fy om
     rw[hT]at hinv
     have al:=X om
     have az:FB C r:=⟨om,om,⟨aa,by rw[<-ak];exact al,om⟩,om⟩
     exact⟨congrArg (Value.int .i64) (show nP C r=0 from Xa (by assumption) az hinv).symm,od,z⟩
   ·
    exact⟨0,om,U,e9 _,HE.refl _ _,⟨(fun _ h=>by cases h),List.nodup_nil⟩⟩
end
end Sw
namespace Sw
noncomputable section
open Go Go.RowKit
section
variable {α:Type}{enc:α->List Value}{n G b:Nat}{O eZ:Ht}{s:SV α}{L:List Nat}
theorem gx.Td(h:gx enc n O G s)(e:∀q∈L,∀m,O.get q≠some (.cells (s.l.flatMap enc) m)):gx enc n (jW L O) G s:=by
 refine⟨h.1,?_,h.2.2⟩
 rcases h.2.1 with k|⟨q,cap,m,h1,D,h3,h4,b⟩
 · exact .inl k
 · refine .inr ⟨q,cap,m,h1,D,h3,?_,b⟩
   rw[rL L O fun k=>e q k _ h4];exact h4
theorem gx.J5(h:gx enc n O G s)(hb:∀m,O.get b≠some (.cells (s.l.flatMap enc) m))(o:∀q,q≠b->eZ.get q=O.get q):gx enc n eZ G s:=by
 refine⟨h.1,?_,h.2.2⟩
 rcases h.2.1 with k|⟨q,cap,m,h1,D,h3,h4,j⟩
 · exact .inl k
 · refine .inr ⟨q,cap,m,h1,D,h3,?_,j⟩
   rw[o q fun e=>hb m (e▸h4)];exact h4
theorem HE.DG{B:Nat}{h1 D:Ht}(h:HE B h1 D)(b:∀q∈L,B<=q):HE B h1 (Sw.jW L D):=fun q e=>by
 rw[rL L D fun k=>by have:=b q k;omega];exact h q e
end
theorem vf{α:Type}{enc:α->List Value}{k:Nat}(b:∀x,(enc x).length=k){O:Ht}{q:Nat}{Z:List Value}{j:gi}(h:O.get q=some (.cells Z j))(l:List α)(jB:Z.length≠l.length*k)(m:gi):O.get q≠some (.cells (l.flatMap enc) m):=fun e=>by
 rw[h]at e
 have e:Z=l.flatMap enc:=by injection e with e;injection e
 have e2:=nk l (fun x _=>b x)
 rw[<-e]at e2
 exact jB e2
theorem BD{O:Ht}{q:Nat}{r:sU Tm}(h:O.get q=some (.loop r))(Z:List Value)(m:gi):O.get q≠some (.cells Z m):=fun e=>by rw[h]at e;cases e
def wo(x:ic)(w:Nat):List ja:=match x.fQ.l[w]? with
 |some o=>o.l
 |none=>[]
theorem F2{x:ic}{w:Nat}{o:SV ja}(h:x.fQ.l[w]?=some o):wo x w=o.l:=by unfold wo;rw[h]
def wT(K:j8)(w:Nat)(x:ic):List fL:=uK (oO K (wo x w))
def J6(w:Nat)(x:ic):Bool:=(wo x w).any (·.jV)
inductive sW(K:j8)(M:List ic):List Nat->List fL->Bool->Prop where
 |nil:sW K M [] [] false
 |skip {l:List Nat} {S:List fL} {p:Bool} {w:Nat}:sW K M l S p->(∃x∈M,wT K w x=[])->sW K M (l++[w]) S (p||M.any (J6 w))
 |add {l:List Nat} {S X S':List fL} {p:Bool} {w:Nat}:sW K M l S p->(∀x∈M,wT K w x≠[])->(∀x∈M,xl [oO K (wo x w)])->V4 (M.map (wT K w)) X->Iz S X S'->sW K M (l++[w]) S' (p||M.any (J6 w))
def tV(F:ji)(b:Int):Option ic:=F.e6.l.find? fun r=>decide (r.nl=b)
theorem Q4{l:List ic}{b:Int}:∀{i:Nat} {r:ic},l[i]?=some r->r.nl=b->(∀(j:Nat) (y:ic),j<i->l[j]?=some y->y.nl≠b)->l.find? (fun r=>decide (r.nl=b))=some r:=by
 induction l with
 |nil=>intro i r h;simp at h
 |cons x l ih=>
  intro i r h hb hj
  cases i with
  |zero=>
   obtain rfl:x=r:=by simpa using h
   rw[List.find?_cons];simp[hb]
  |succ i=>
   have hx:x.nl≠b:=hj 0 x (Nat.succ_pos i) rfl
   rw[List.find?_cons]
   simp only[hx,decide_false]
   exact ih (i:=i) (by simpa using h) hb fun j y k e=>hj (j+1) y (by omega) (by simpa using e)
theorem yp.tV{F:ji}{b z:Int}{c:Bool}(h:yp F b z c):(c=false/\tV F b=none)\/∃(i:Nat) (r:ic),z=.ofNat i/\c=true/\F.e6.l[i]?=some r/\Sw.tV F b=some r:=by
 rcases h with⟨_,D,h3⟩|⟨i,r,h1,D,h3,h4,e⟩
 · exact .inl ⟨D,List.find?_eq_none.2 fun x hx=>by simp[h3 x hx]⟩
 · exact .inr ⟨i,r,h1,D,h3,Q4 h3 h4 e⟩
theorem rY.Vb{F:ji}(h:rY F){x:ic}(hx:x∈F.e6.l){o:SV ja}(b:o∈x.fQ.l):∀y∈o.l,uv F.fq y:=by
 obtain⟨j,hj⟩:=fJ hx
 exact h.out j x hj o b
theorem rY.PD{F:ji}(h:rY F){x:ic}(hx:x∈F.e6.l):x.fQ.l.length=F.gb.l.length+1:=by
 obtain⟨j,hj⟩:=fJ hx
 exact(h.run j x hj).2.2
theorem Yw{l:List Nat}{n:Nat}(h:n∈l):n<=l.sum:=by
 induction l with
 |nil=>cases h
 |cons x l ih=>
  rw[List.sum_cons]
  rcases fM.1 h with rfl|h
  · omega
  · have:=ih h;omega
theorem Xb{x:ic}{o:SV ja}(b:o∈x.fQ.l):o.l.length<=Ab x:=
 Yw (fO.2 ⟨o,b,rfl⟩)
inductive xb(C:j4)(F:ji)(r:qz):tB->Int->Prop where
 |qK {T:tB}:nP C r≠0->T.qx.l=[]->xb C F r T (nP C r)
 |KQ {T:tB}:nP C r=0->¬rY F->T.qx.l=[]->xb C F r T 240
 |find {T:tB} {b:Int}:nP C r=0->rY F->b∈r.iB.l->tV F b=none->T.qx.l=[]->xb C F r T 250
 |lim {T:tB} {z:Int}:nP C r=0->rY F->(∀b∈r.iB.l,tV F b≠none)->(z=2\/z=10)->T.qx.l=[]->xb C F r T z
 |ok {T:tB} {M:List ic}:nP C r=0->rY F->M.map some=r.iB.l.map (tV F)->sW F.fq M (vk F (F.gb.l.length+1)) T.qx.l T.jV->xb C F r T 0
def TZ:List Value:=[.int .i64 0,.slice none 0 0,.bool false]
def NU(K:j8)(M:List ic)(m o e j p N:Nat)(z:sU Tm)(y:Nat->Prop)(l:List Nat)(a:Ht)(b:Nat):Prop:=
 ∃(J:SV fL) (u:Bool),a.get e=some (.cells [J.v] gi.plain)/\a.get j=some (.cells [.bool u] gi.plain)/\a.get m=some (.cells TZ gi.plain)/\a.get o=some (.cells [.int .i64 0] gi.plain)/\a.get p=some (.loop z)/\sW K M l J.l u/\gx fc 2 a b J/\(∀q,y q->q<b/\q∉[m,o,e,j,p])/\N<=b
def Ze(e j m N:Nat)(o:sU Tm)(a:Ht)(b:Nat):Prop:=a.get e=some (.cells TZ gi.plain)/\(∃z:Int,(z=2\/z=10)/\a.get j=some (.cells [.int .i64 z] gi.plain))/\a.get m=some (.loop {o with state:=.done,pending:=some .ret})/\N<=b
theorem NU.mono{K:j8}{M:List ic}{p u e j y N:Nat}{z:sU Tm}(h1:p<N)(D:u<N)(h3:e<N)(h4:j<N)(X:y<N):∀(o:Nat->Prop) (l:List Nat) (a:Ht) (b:Nat) (c:Ht) (d:Nat),NU K M p u e j y N z o l a b->HE b a c->b<=d->NU K M p u e j y N z (fun q=>o q\/(b<=q/\q<d)) l c d:=by
 rintro o l a b c d ⟨J,W,A,B,C,E,F,L,R,S,aa⟩ he hd
 refine⟨J,W,he.get A (by omega),he.get B (by omega),he.get C (by omega),he.get E (by omega),he.get F (by omega),L,R.mono he hd,fun q m=>?_,by omega⟩
 rcases m with m|m
 · have:=S q m
   exact⟨by omega,this.2⟩
 · exact⟨m.2,by simp;omega⟩
theorem xU{l:List fL}{k:Nat}(hk:k=1\/k=3):k≠l.length*2:=by omega
theorem gx.NV{a:Ht}{b o p e j u:Nat}{s:SV fL}{z A K:Value}{r:sU Tm}{m15 m16 m6 m7:gi}(h:gx fc 2 a b s)(B:a.get e=some (.cells [z] m15))(C:a.get j=some (.cells [A] m16))(E:a.get o=some (.cells TZ m6))(F:a.get p=some (.cells [K] m7))(J:a.get u=some (.loop r)):gx fc 2 (jW [o,p,e,j,u] a) b s:=by
 refine h.Td fun q y m=>?_
 simp only[List.mem_cons,List.not_mem_nil,or_false]at y
 rcases y with rfl|rfl|rfl|rfl|rfl
 · exact vf (enc:=fc) (k:=2) (fun _=>rfl) E _ (xU (.inr rfl)) m
 · exact vf (enc:=fc) (k:=2) (fun _=>rfl) F _ (xU (.inl rfl)) m
 · exact vf (enc:=fc) (k:=2) (fun _=>rfl) B _ (xU (.inl rfl)) m
 · exact vf (enc:=fc) (k:=2) (fun _=>rfl) C _ (xU (.inl rfl)) m
 · exact BD J _ m
end
end Sw
namespace Sw
noncomputable section
open Go Go.RowKit
section
variable {α β:Type}{enc:α->List Value}{NN:β->List Value}{n n2 B gr G e5:Nat}{O eZ:Ht}{J:SV α}{s:SV β}{L:List Nat}
theorem lY.qt(h:lY enc n B gr (jW L O) G J):lY enc n B gr O G J:=by
 have un:∀q o,(jW L O).get q=some o->O.get q=some o:=fun q o e=>by
  by_cases k:q∈L
  · rw[CR L _ k]at e;cases e
  · rwa[rL L _ k]at e
 rcases h with h|⟨b,ms,h1,D,h3,h4,j,m,p,u,y⟩
 · exact .inl h
 · exact .inr ⟨b,ms,h1,D,un _ _ h3,un _ _ h4,j,m,p,u,y⟩
theorem lY.DG(h:lY enc n B gr O G J)(e:∀q∈L,q<B):lY enc n B gr (jW L O) G J:=by
 rcases h with h|⟨b,ms,h1,D,h3,h4,j,m,o,p,u⟩
 · exact .inl h
 · refine .inr ⟨b,ms,h1,D,?_,?_,j,m,o,p,u⟩
   · rw[rL L _ fun k=>by have:=e _ k;omega];exact h3
   · rw[rL L _ fun k=>by have:=e _ k;omega];exact h4
theorem gx.PE(h:gx NN n2 (jW L O) G s)(hg:lY enc n B gr O G J)(he:∀c,c<G->(J.l≠[]->c≠gr)->eZ.get c=O.get c)(hn:G<=e5):gx NN n2 (jW L eZ) e5 s:=by
 refine⟨h.1,?_,h.2.2⟩
 rcases h.2.1 with h|⟨q,cap,m,h1,D,h3,h4,j⟩
 · exact .inl h
 · have e:q∉L:=fun k=>by rw[CR L _ k]at h4;cases h4
   rw[rL L _ e]at h4
   refine .inr ⟨q,cap,m,h1,D,by omega,?_,j⟩
   rw[rL L _ e]
   refine(he q h3 fun k=>?_).trans h4
   rcases hg with hg|⟨b,ms,_,_,_,hg,_⟩
   · exact absurd hg.1 k
   · rintro rfl;rw[hg]at h4;cases h4
end
theorem DU{C:j4}{r:qz}(h:nP C r=0):FB C r/\yH r.iB.l/\mF C=0:=by
 unfold nP at h
 by_cases h1:mF C≠0
 · rw[if_pos h1]at h;exact absurd h h1
 · rw[if_neg h1]at h
   by_cases D:FB C r
   · rw[if_neg (fun k=>k D)]at h
     by_cases h3:yH r.iB.l
     · exact⟨D,h3,fg.1 h1⟩
     · rw[if_pos h3]at h;cases h
   · rw[if_pos D]at h;cases h
theorem NW{F:ji}{B:List Int}{M:List ic}(h:M.map some=B.map (tV F)):∀b∈B,tV F b≠none:=by
 intro b hb k
 have:tV F b∈M.map some:=by rw[h];exact fO.2 ⟨b,hb,rfl⟩
 rw[k]at this
 simp at this
end
end Sw
namespace Sw
noncomputable section
open Go Go.Proofs Go.RowKit
set_option maxRecDepth 100000
set_option maxHeartbeats 1600000
theorem Q5:∃i,ex.T.kd 116=some i/\i.bytes<=1024:=by
 cases h:ex.T.kd 116 with
 |none=>exact absurd (show(ex.T.kd 116).isSome=true by kernel_rfl) (by rw[h];decide)
 |some i=>
  refine⟨i,rfl,?_⟩
  have:((ex.T.kd 116).map fun i=>Nat.ble i.bytes 1024)=some true:=by kernel_rfl
  rw[h]at this
  exact fa (fS this)
theorem Te:∃i,ex.T.kd 48=some i/\i.bytes<=1024:=by
 cases h:ex.T.kd 48 with
 |none=>exact absurd (show(ex.T.kd 48).isSome=true by kernel_rfl) (by rw[h];decide)
 |some i=>
  refine⟨i,rfl,?_⟩
  have:((ex.T.kd 48).map fun i=>Nat.ble i.bytes 1024)=some true:=by kernel_rfl
  rw[h]at this
  exact fa (fS this)
theorem Lk{F:ji}{B:List Int}{M:List ic}{i:Nat}{b:Int}{x:ic}(h:M.map some=(B.take i).map (tV F))(hb:B[i]?=some b)(hx:tV F b=some x):(M++[x]).map some=(B.take (i+1)).map (tV F):=by
 rw[List.take_add_one,hb,Option.toList_some,List.map_append,List.map_append,h];simp[hx]
theorem DV(l:List ic):∀y∈l,(iV y).length=3:=fun _ _=>rfl
theorem Ll{α β:Type}{f:α->β}{l:List α}{i:Nat}{x:α}(h:l[i]?=some x):(l.take (i+1)).map f=(l.take i).map f++[f x]:=by
 rw[List.take_add_one,h];simp
theorem Lm{α:Type}{f:α->Bool}{l:List α}{i:Nat}{x:α}(h:l[i]?=some x):(l.take (i+1)).any f=((l.take i).any f||f x):=by
 rw[List.take_add_one,h];simp
theorem Ln{α:Type}{l:List α}{i:Nat}{x y:α}(h:l[i]?=some x)(hy:y∈l.take (i+1)):y∈l.take i\/y=x:=by
 rw[List.take_add_one,h]at hy
 rcases fI.1 hy with k|k
 · exact .inl k
 · exact .inr (List.mem_singleton.1 k)
def Z7(C:j4)(F:ji)(r:qz)(O:Ht)(G:Nat)(v:Value)(eZ:Ht)(e5:Nat):Prop:=∃(T:tB) (z:Int),v=.tuple ⟨[.agg (tM T).toArray,Y z]⟩/\Bo eZ e5 T/\xb C F r T z/\G<=e5/\HE G O eZ
theorem NX{K:j8}{w:Nat}{b:List (SV fL)}{M:List ic}(h:b.map (·.l)=M.map (wT K w)){x:ic}(hx:x∈M)(he:wT K w x=[]):∃y∈b,y.l=[]:=by
 have:wT K w x∈b.map (·.l):=by rw[h];exact fO.2 ⟨x,hx,rfl⟩
 obtain⟨y,hy,e⟩:=fO.1 this
 exact⟨y,hy,e.trans he⟩
theorem NY{K:j8}{w:Nat}{b:List (SV fL)}{M:List ic}(h:b.map (·.l)=M.map (wT K w))(he:∃x∈b,(fun y:SV fL=>y.l=[]) x):∃x∈M,wT K w x=[]:=by
 obtain⟨y,hy,e⟩:=he
 have:y.l∈M.map (wT K w):=by rw[<-h];exact fO.2 ⟨y,hy,rfl⟩
 obtain⟨x,hx,k⟩:=fO.1 this
 exact⟨x,hx,k.trans e⟩
theorem PF:ex.T.agg 44=some true:=U
theorem uq:ex.T.agg 50=some true:=U
theorem Vc:ex.T.size 39=some 1:=U
theorem PG:ex.T.size 4=some 1:=U
theorem NZ:ex.T.size 44=some 3:=U
theorem nJ:ex.T.size 50=some 3:=U
theorem Vd:ex.T.zero 39=some (.slice none (0) 0):=U
theorem Xc:ex.T.zero 4=some (.bool false):=U
theorem N0:ex.T.zero 50=some (.agg ⟨[Y 0,.slice none (0) 0,.bool false]⟩):=U
theorem I0{A:SV fL->Prop}(K:SV (SV fL))(f:FuncId)(b:Array Value)(O:Ht)(G:Nat)(hK:ju lC 1 (fun O G y=>gx fc 2 O G y) O G K)(hf:∀(i:Nat) (x:SV fL),K.l[i]?=some x->∀(eZ:Ht) (e5:Nat),G<=e5->HE G O eZ->WF ex f ((x.v)::b.toList) eZ e5 (fG e5 eZ (ga (A x)))):WF ex 63 [K.v,.func (.func f) #[] b] O G (fG G O (pW K.l A)):=by
 obtain⟨a1,c2,hR⟩:=hK.1.shape
 have lU:=hK.1.2.2
 rw[hR]
 refine wd Tryz.f63 19 [.tmp 4] fun hE=>sr<|oN 1<|WP.seq<|sr<|oN 3<|WP.block ?_
 refine mg [0,1,7,8] (fun m hs ns vs=>∃(fR:Nat),fR+m=K.l.length/\vs=[.slice a1 (K.l.length) c2,.func (.func f) #[] b,Y (.ofNat (K.l.length)),Y (.ofNat fR)]/\G<=ns/\HE (G) O hs/\(∀(j:Nat) (y:SV fL),j<fR->K.l[j]?=some y->¬A y)) ?_ (K.l.length) ?_
 ·
  rintro xM p_ iY _ ⟨fR,ui,rfl,oF,jl,hinv⟩ uj
  have j2:=hE.trans jl
  refine sr ?_
  refine oq 9 (kL fR K.l.length) fun nu rM=>WO.nil<|WP.seq<|cq rM (fun w9=>?_) (fun w9=>?_)
  ·
   refine WP.skip<|WP.seq<|WP.block<|sr<|oN 2<|sr<|oX 3 ?_
   have nz:fR<K.l.length:=by omega
   refine WO.cons (WC.iy hR hK.1 (fR) AW qH (nz) ?_)
   obtain⟨lv,kB⟩:=gE nz
   obtain⟨u,yr,o⟩:=(hK.2 lv (cs kB)).shape
   have B:=(hK.2 lv (cs kB)).2.2
   refine WO.cons (WC.lz (.slice u (lv.l.length) yr) hR (hK.1.mono j2 nR) kB (by rw[<-o];rfl) nY<|WO.cons (WC.call 16 f ((lv.v)::b.toList) (fun _ _ _=>by(try rw[o]);kernel_rfl) ((hf fR lv kB p_ (iY) om j2).mono ?_)))
   rintro _ E F ⟨⟨J,rfl,z⟩,C,e⟩
   refine WO.nil<|cq z (fun p=>?_) (fun p=>?_)
   ·
    refine sr<|oW 2 ⟨rfl,rfl,[Y (.ofNat fR)],U,?_⟩
    exact⟨.inr ⟨fR,lv,rfl,kB,p,hinv⟩,od,(j2.trans e)⟩
   ·
    refine WP.skip<|WP.region<|ov 18 (Y (.ofNat (fR+1))) ?_ (fun _ _ _=>by rw[<-gM (show fR+1<9223372036854775808 by omega)];kernel_rfl)
    refine oN 1<|⟨K.l.length-(fR+1),om,rfl,rfl,fR+1,om,U,?_,?_,?_⟩
    · exact od
    · exact(jl.trans e oF)
    · intro j y hj hy;rcases fo.1 hj with hj|rfl;exact hinv j y hj hy;rw[kB]at hy;cases hy;exact p
  ·
   refine WP.exit<|sr<|oW 1 ⟨rfl,rfl,[Y (-1)],U,?_⟩
   refine⟨.inl ⟨rfl,fun y hy=>?_⟩,od,j2⟩
   obtain⟨j,hj⟩:=fJ hy
   exact hinv j y (by have:=(fe.1 hj).1;omega) hj
 ·
  exact⟨0,om,U,e9 _,HE.refl _ _,(fun j y h=>absurd h (fz _))⟩
theorem FC{A:SV fL->Prop}(K:SV (SV fL))(f:FuncId)(b:Array Value)(O:Ht)(G:Nat)(hK:ju lC 1 (fun O G y=>gx fc 2 O G y) O G K)(hf:∀(i:Nat) (x:SV fL),K.l[i]?=some x->∀(eZ:Ht) (e5:Nat),G<=e5->HE G O eZ->WF ex f ((x.v)::b.toList) eZ e5 (fG e5 eZ (ga (A x)))):WF ex 28 [K.v,.func (.func f) #[] b] O G (fG G O (ga (∃x∈K.l,A x))):=by
 have mC:=fF (e:=ex) 28 Tryz.f28 9 [.tmp 4]
 have nC:=@I0
 exact MZ
theorem Tf(x:SV fL)(O:Ht)(G:Nat)(hx:gx fc 2 O G x):WF ex 29 [x.v] O G (fG G O (ga (x.l=[]))):=by
 obtain⟨a1,c2,hR⟩:=hx.shape
 have lU:=hx.2.2
 rw[hR]
 refine wd Tryz.f29 6 [.tmp 2] fun hE=>sr<|oN 1<|sr<|oX 2 ?_
 refine oq 5 (vK x.l.length 0) fun c4 p4=>oW 1 ⟨rfl,rfl,[.bool c4],U,?_⟩
 refine⟨⟨c4,rfl,?_⟩,nR,hE⟩
 exact p4.trans Q0
theorem Ve(qn:yx)(qJ:wC)(hC:zr)(C:j4)(F:ji)(r:qz)(O:Ht)(G:Nat)(nE5:oV O G C)(aL:km O G F)(hr:xn O G r)(hlen:C.nQ.l.length<=2932031007403)(hw:∀r∈F.e6.l,Ab r<=60):WF ex 8 [.agg (iM C).toArray,.agg (gK F).toArray,.agg (pe r).toArray] O G (Z7 C F r O G):=by
 refine WF.VT (fi:=⟨Tryz.f8.body.getD .skip,125,[.cell 6 50,.cell 7 51]⟩) U U U rfl rfl ?_
 have hE:=HE.refl G O
 refine sr<|oB (.agg (iM C).toArray) (iM C) fun jq iC hU=>?_
 refine oB (.agg (gK F).toArray) (gK F) fun nGB eN nEl=>?_
 refine oB (.agg (pe r).toArray) (pe r) fun nGp jx nEm=>?_
 have nEE:=e4 (fb (G+1)) (e_ (G+1+1))
 refine oA [Y 0,.slice none (0) 0,.bool false] N0 fun nGq bV nEn=>?_
 have nEF:=e4 nEE (e_ (G+1+1+1))
 have nEG:=e4 (fb (G+1+1)) (e_ (G+1+1+1))
 refine oA [Y 0] M9 fun nEy bx nEo=>?_
 have cB:=((((hE.trans iC).trans eN).trans jx).trans bV).trans bx
 have eI:=bx.get (bV.get (jx.get (eN.get hU)))
 have nEH:=e4 nEF (e_ (G+1+1+1+1))
 have eJ:=bx.get (bV.get nEm)
 have nEI:=e4 nEG (e_ (G+1+1+1+1))
 have nEJ:=e4 (fb (G+1+1+1)) (e_ (G+1+1+1+1))
 refine WO.nil<|WP.seq<|sr<|WO.cons (WC.im G (0) (iM C) U xT vU eI rfl<|WO.cons (WC.im (G+1+1) (0) (pe r) U PF NZ eJ rfl<|WO.cons (WC.call 28 20 ([.agg (iM C).toArray,.agg (pe r).toArray]) kf ((Lj qn qJ C r nEy (G+1+1+1+1+1) (nE5.mono cB) (hr.mono cB) hlen).mono ?_))))
 rintro _ nEz nEO ⟨rfl,bW,a7⟩
 have cC:=cB.trans a7
 have eK:=a7.get (bx.get (bV.get (jx.get nEl)))
 have nEK:=e4 nEH bW
 have nEL:=e4 nEI bW
 have cD:=a7.get (bx.get nEn)
 have nEM:=e4 nEJ bW
 have eL:=a7.get nEo
 have nEN:=e4 (fb (G+1+1+1+1)) bW
 refine oN 1<|sr<|oX 1 ?_
 refine oq 30 (qG (nP C r) 0) fun Pu C1=>WO.nil<|cq C1 (fun tD=>?_) (fun tD=>?_)
 ·
  refine sr<|WO.cons (WC.im (G+1+1+1) (0) [Y 0,.slice none (0) 0,.bool false] U uq nJ cD rfl<|oX 1<|oS (G+1+1+1) (0) (.agg ⟨[Y 0,.slice none (0) 0,.bool false]⟩) [Y 0,.slice none (0) 0,.bool false] [Y 0,.slice none (0) 0,.bool false] nJ rfl (e7.2 ⟨rfl,e7.2 ⟨rfl,e7.2 ⟨rfl,e7.2 ⟨rfl,rfl⟩⟩⟩⟩) cD fun nGr nEs nEp nEv=>?_)
  refine oS (G+1+1+1+1) (0) (Y (nP C r)) [Y (nP C r)] [Y (nP C r)] qI rfl rfl ((nEv (G+1+1+1+1) om).trans eL) fun nGs nEt nEq nEw=>?_
  refine wr ⟨rfl,.inl ⟨rfl,[.agg ⟨[Y 0,.slice none (0) 0,.bool false]⟩,Y (nP C r)],(qk (by rw[show(fV (.tmp 6)).run _=pt (G+1+1+1) 0 from by kernel_rfl];exact jO uq nJ ((nEw (G+1+1+1) om).trans nEp) rfl) (by rw[show(fV (.tmp 7)).run _=pt (G+1+1+1+1) 0 from by kernel_rfl];exact j_ pT nEq rfl)),?_⟩⟩
  exact⟨⟨0,⟨.slice none 0 0,[]⟩,false⟩,_,rfl,⟨tf⟩,.qK tD rfl,od,((cC.trans nEs).trans nEt)⟩
 ·
  refine WP.skip<|WP.seq<|sr ?_
  have bw:=tD
  have nGu:=(DU (fg.1 bw)).1.1
  refine WO.cons (WC.im (G+1) (0) (gK F) U pm ou eK rfl<|WO.cons (WC.call 34 25 ([.agg (gK F).toArray]) kf ((Eg F nEz (nEO) (aL.mono cC) hw).mono ?_)))
  rintro _ nGt K ⟨⟨bI,rfl,eU,nEu⟩,bX,a8⟩
  have cG:=cC.trans a8
  have nDj:=e4 nEK bX
  have nDk:=e4 nEL bX
  have bN:=a8.get cD
  have nDl:=e4 nEM bX
  have cR:=a8.get eL
  have nDm:=e4 nEN bX
  refine oN 1<|sr<|oX 1 ?_
  refine oq 36 (qG bI 0) fun nGf nEP=>WO.nil<|cq nEP (fun ca=>?_) (fun ca=>?_)
  ·
   refine sr<|WO.cons (WC.im (G+1+1+1) (0) [Y 0,.slice none (0) 0,.bool false] U uq nJ bN rfl<|oX 1<|oS (G+1+1+1) (0) (.agg ⟨[Y 0,.slice none (0) 0,.bool false]⟩) [Y 0,.slice none (0) 0,.bool false] [Y 0,.slice none (0) 0,.bool false] nJ rfl (e7.2 ⟨rfl,e7.2 ⟨rfl,e7.2 ⟨rfl,e7.2 ⟨rfl,rfl⟩⟩⟩⟩) bN fun nFM nCL nCp nCV=>?_)
   refine oS (G+1+1+1+1) (0) (Y bI) [Y bI] [Y bI] qI rfl rfl ((nCV (G+1+1+1+1) om).trans cR) fun nFN nCM nCq nCW=>?_
   refine wr ⟨rfl,.inl ⟨rfl,[.agg ⟨[Y 0,.slice none (0) 0,.bool false]⟩,Y bI],(qk (by rw[show(fV (.tmp 6)).run _=pt (G+1+1+1) 0 from by kernel_rfl];exact jO uq nJ ((nCW (G+1+1+1) om).trans nCp) rfl) (by rw[show(fV (.tmp 7)).run _=pt (G+1+1+1+1) 0 from by kernel_rfl];exact j_ pT nCq rfl)),?_⟩⟩
   have nFr:bI=240:=nEu.resolve_left ca
   refine⟨⟨0,⟨.slice none 0 0,[]⟩,false⟩,_,rfl,⟨tf⟩,?_,od,((cG.trans nCL).trans nCM)⟩
   rw[nFr];exact .KQ (fg.1 bw) (fun h=>ca (eU.2 h)) rfl
  ·
   refine WP.skip<|sr ?_
   have a_:rY F:=eU.1 (fg.1 ca)
   refine oA [.slice none (0) 0] Vd fun nFO aI nCr=>?_
   have nDn:=e4 nDj (e_ (K))
   have cS:=aI.get (a8.get (a7.get eJ))
   have nDo:=e4 nDk (e_ (K))
   have nDp:=e4 nDl (e_ (K))
   have nDq:=e4 nDm (e_ (K))
   refine WO.nil<|WP.seq<|sr<|oX 1 ?_
   obtain⟨a152,ej,b5⟩:=hr.iB.shape
   have nFf:=hr.iB.2.2
   refine oZ (G+1+1) 0 (.slice a152 (r.iB.l.length) ej) lF cS (by rw[<-b5];rfl)<|oN 2<|WP.block ?_
   refine mg [4,5,6,7,10,40,41,42] (fun m hs ns vs=>∃(X:Nat) (M:SV ic),X+m=r.iB.l.length/\vs=[pt (G+1) 0,pt (G+1+1) 0,pt (G+1+1+1) 0,pt (G+1+1+1+1) 0,pt K 0,.slice a152 (r.iB.l.length) ej,Y (.ofNat (r.iB.l.length)),Y (.ofNat X)]/\K+1<=ns/\HE G O hs/\hs.get G=some (.cells (iM C) gi.plain)/\hs.get (G+1)=some (.cells (gK F) gi.plain)/\hs.get (G+1+1)=some (.cells (pe r) gi.plain)/\hs.get (G+1+1+1)=some (.cells [Y 0,.slice none (0) 0,.bool false] gi.plain)/\hs.get (G+1+1+1+1)=some (.cells [Y 0] gi.plain)/\hs.get K=some (.cells [M.v] gi.plain)/\(mq iV 3 (K+1) hs ns M)/\(M.l.map some=(r.iB.l.take X).map (tV F))/\(∀x∈M.l,x∈F.e6.l)/\(M.l.length=X)) ?_ (r.iB.l.length) ?_
   ·
    rintro nGc b0 e _ ⟨X,M,nFb,rfl,aP,bj,nDO,b9,dO,dP,dQ,dR,hG,cQ,cf,nD1⟩ nFx
    have nDr:=e4 nDn aP
    have nDs:=e4 nDo aP
    have nDt:=e4 nDp aP
    have nDu:=e4 nDq aP
    have nDv:=e4 (fb (K)) aP
    have cP:=hG.ok (DV _) om
    refine sr ?_
    refine oq 43 (kL X r.iB.l.length) fun nGg nEQ=>WO.nil<|WP.seq<|cq nEQ (fun nEZ=>?_) (fun nEZ=>?_)
    ·
     refine WP.skip<|WP.seq<|WP.block<|sr ?_
     have cm:X<r.iB.l.length:=by omega
     refine WO.cons (WC.iy b5 hr.iB (X) lG kp (cm) ?_)
     obtain⟨cF,b7⟩:=gE cm
     refine WO.cons (WC.lz (Y cF) b5 (hr.iB.mono bj nR) b7 rfl ft<|oN 1<|sr<|WO.cons (WC.im (G+1) (0) (gK F) U pm ou b9 rfl<|oX 1<|WO.cons (WC.call 49 11 ([.agg (gK F).toArray,Y cF]) kf ((M3 F (cF) b0 (e) (aL.mono bj)).mono ?_))))
     rintro _ nC0 b_ ⟨⟨nGz,en,rfl,ck⟩,nFJ,al⟩
     have nER:en=true↔(en=true):=gf
     have bJ:=bj.trans al
     have cT:=al.get b9
     have bO:=al.get dP
     have cU:=al.get dQ
     have cV:=al.get dR
     refine oN 5<|WP.seq<|sr<|oX 1 ?_
     refine oq 53 (nN nER) fun nGh nES=>WO.nil<|cq nES (fun cE=>?_) (fun cE=>?_)
     ·
      refine sr<|WO.cons (WC.im (G+1+1+1) (0) [Y 0,.slice none (0) 0,.bool false] U uq nJ bO rfl<|oS (G+1+1+1) (0) (.agg ⟨[Y 0,.slice none (0) 0,.bool false]⟩) [Y 0,.slice none (0) 0,.bool false] [Y 0,.slice none (0) 0,.bool false] nJ rfl (e7.2 ⟨rfl,e7.2 ⟨rfl,e7.2 ⟨rfl,e7.2 ⟨rfl,rfl⟩⟩⟩⟩) bO fun nFP nCN nCs nCX=>?_)
      refine oS (G+1+1+1+1) (0) (Y 250) [Y 250] [Y 250] qI rfl rfl ((nCX (G+1+1+1+1) om).trans cU) fun nFQ nCO nCt nCY=>?_
      refine wr ⟨rfl,.inl ⟨rfl,[.agg ⟨[Y 0,.slice none (0) 0,.bool false]⟩,Y 250],(qk (by rw[show(fV (.tmp 6)).run _=pt (G+1+1+1) 0 from by kernel_rfl];exact jO uq nJ ((nCY (G+1+1+1) om).trans nCs) rfl) (by rw[show(fV (.tmp 7)).run _=pt (G+1+1+1+1) 0 from by kernel_rfl];exact j_ pT nCt rfl)),?_⟩⟩
      exact⟨⟨0,⟨.slice none 0 0,[]⟩,false⟩,_,rfl,⟨tf⟩,.find (fg.1 bw) a_ (cs b7) ((yp.tV ck).elim (fun k=>k.2) (fun⟨_,_,_,k,_⟩=>absurd k cE)) rfl,od,((bJ.trans nCN).trans nCO)⟩
     ·
      refine WP.skip<|WP.qN [⟨[0,1,2,3,4,5,6],[0,1,2,3,4,5,6],some 7⟩,⟨[],[],some 8⟩,⟨[],[],none⟩] U _ rfl<|WD.kQ ?_
      obtain⟨ec,eo,bo⟩:=cP.shape
      have nFg:=cP.2.2
      refine WN.hQ rfl (WC.jP K (0) (.slice ec (M.l.length) eo) U nX cV (by rw[<-bo];rfl)<|nv 56 (pt (G+1) (0+3)) ?_)
      obtain⟨ee,ep,aB⟩:=aL.e6.1.shape
      have nFh:=aL.e6.1.2.2
      refine WN.hQ rfl (WC.jP (G+1) (0+3) (.slice ee (F.e6.l.length) ep) U nX cT (by rw[<-aB];rfl) ?_)
      obtain⟨k,aM,nD8,_,bd,nFd⟩:=(yp.tV ck).resolve_left (fun h=>cE (by rw[h.1];decide))
      refine nv 58 (Y (.ofNat k)) ?_ (fun _ _ _=>by rw[<-nD8];kernel_rfl)
      have cn:k<F.e6.l.length:=(fe.1 bd).1
      refine WN.hQ rfl (WC.iy aB aL.e6.1 (k) uh mJ (cn)<|WN.hQ rfl (WC.ly aB (aL.e6.1.mono bJ nR) bd y6 mJ<|WN.hQ rfl (WC.buildSlice [Y aM.nl,aM.lq.v,aM.fQ.v] rfl U ?_)))
      obtain⟨nFR,dz,am,cW⟩:=boxed nC0 (b_) [Y aM.nl,aM.lq.v,aM.fQ.v]
      rw[dz];clear dz
      have cH:=bJ.trans am
      have cX:=am.get cT
      have cY:=am.get cV
      refine WN.nil ⟨?_,?_⟩
      ·
       refine p7 K 0 (.slice ec (M.l.length) eo) nX cY (by rw[<-bo];rfl) (bo▸cP.js 8)<|cv (pt (G+1) (0+3)) (iK ..)<|p7 (G+1) (0+3) (.slice ee (F.e6.l.length) ep) nX cX (by rw[<-aB];rfl) (aB▸aL.e6.1.js 8)<|cv (Y (.ofNat k)) (iz ..) ?_ (fun _=>by rw[<-nD8];kernel_rfl)
       refine yL aB aL.e6.1 (k) uh mJ (cn)<|ZJ aB (aL.e6.1.mono cH nR) bd y6 mJ (K6 aM (aL.e6.2 aM (cs bd)))<|iX.new b_ (.slice (some ⟨b_,0,none⟩) (1) 1) [Y aM.nl,aM.lq.v,aM.fQ.v] (fun _=>by kernel_rfl) cW (uQ ..) (by simp[uG,iz,iH,ww,xH,(aL.e6.2 aM (List.mem_of_getElem? bd)).lq.js 8,(aL.e6.2 aM (List.mem_of_getElem? bd)).fQ.1.js 8]) ?_
       exact iX.nil
      obtain⟨inf,pq,vu⟩:=Q5
      refine WC.at rfl (WC.CO (enc:=iV) (J:=M) aM rfl (by rw[bo];kernel_rfl) U (hG.mono (((HE.refl (e) b0).trans al).trans am)) (DV _) cW rfl uh mJ BS pq rfl (xk aM (aL.e6.2 aM (cs bd))) vu om om rfl ?_)
      rintro eb eP nD9 bM eO ae bG
      have eF:=bG.ok (DV _) (by rw[bM,List.length_append];simp;omega)
      refine WD.kQ<|WN.nil ⟨?_,?_⟩
      ·
       exact iX.nil
      refine WC.at rfl (WC.uR K (0) (eb.v) [M.v] [eb.v] [eb.v] 1 rfl U U Vc eF.cells (e7.2 ⟨rfl,by rw[List.all_cons,eF.one];rfl⟩) ((ae _ om).trans cY) rfl rfl rfl ?_)
      obtain⟨nFS,dA,nCP,nCu,aJ⟩:=stored eP K (.cells [eb.v] gi.plain)
      rw[dA];clear dA
      refine WD.last<|WN.nil ⟨?_,?_⟩
      ·
       exact iX.nil
      refine WP.region<|ov 63 (Y (.ofNat (X+1))) ?_ (fun _ _ _=>by rw[<-gM (show X+1<9223372036854775808 by omega)];kernel_rfl)
      refine oN 1<|⟨r.iB.l.length-(X+1),om,rfl,rfl,X+1,eb,om,U,?_,?_,?_,?_,?_,?_,?_,?_,?_,?_,?_,?_⟩
      · exact od
      · exact((cH.trans ae).trans nCP)
      · exact((aJ G om).trans ((ae _ om).trans (am.get (al.get nDO))))
      · exact((aJ (G+1) om).trans ((ae _ om).trans cX))
      · exact((aJ (G+1+1) om).trans ((ae _ om).trans (am.get (al.get dO))))
      · exact((aJ (G+1+1+1) om).trans ((ae _ om).trans (am.get bO)))
      · exact((aJ (G+1+1+1+1) om).trans ((ae _ om).trans (am.get cU)))
      · exact nCu
      · exact bG.sV (fun q o=>aJ q om)
      · rw[bM];exact Lk cQ b7 nFd
      · intro x hx;rw[bM]at hx;rcases List.mem_append.1 hx with hx|hx
        · exact cf x hx
        · rw[List.mem_singleton.1 hx];exact cs bd
      · rw[bM,List.length_append,nD1];rfl
    ·
     refine WP.exit<|sr<|oA [.slice none (0) 0] Hf fun nFT au nCv=>?_
     have nDw:=e4 nDr (e_ (e))
     have nDx:=e4 nDs (e_ (e))
     have nDy:=e4 nDt (e_ (e))
     have nDz:=e4 nDu (e_ (e))
     have nDA:=e4 nDv (e_ (e))
     refine WO.nil<|sr<|oA [.bool false] Xc fun nFU an nCw=>?_
     have nDB:=e4 nDw (e_ (e+1))
     have nDC:=e4 nDx (e_ (e+1))
     have nDD:=e4 nDy (e_ (e+1))
     have nDE:=e4 nDz (e_ (e+1))
     have nDF:=e4 nDA (e_ (e+1))
     have nDG:=e4 (fb (e)) (e_ (e+1))
     refine oS (e+1) (0) (.bool false) [.bool false] [.bool false] PG rfl rfl nCw fun nC1 dn nCx aK=>?_
     have cI:=((bj.trans au).trans an).trans dn
     have cZ:=(aK (G+1) om).trans (an.get (au.get b9))
     refine WO.nil<|WP.seq<|sr<|WO.cons (WC.im (G+1) (0) (gK F) U pm ou cZ rfl<|WO.cons (WC.call 65 26 ([.agg (gK F).toArray]) kf ((OA F nC1 (e+1+1) (aL.mono cI)).mono ?_)))
     rintro _ dr j ⟨bf,rfl,nEr,eM,nGn,ay,af⟩
     have nDH:=e4 nDB ay
     have nDI:=e4 nDC ay
     have nDJ:=e4 nDD ay
     have nDK:=e4 nDE ay
     have nDL:=e4 nDF ay
     have nDM:=e4 nDG ay
     have nDN:=e4 (fb (e+1)) ay
     refine WO.nil<|WP.block<|WP.MI (.func (.func 59) #[] #[pt bf 0]) U fun cb ct=>?_
     obtain⟨aV,dE⟩:∃h:Ht,h=(dr.set (j) (some (.deferred (some [])))).set (j+1) (some (.loop cb)):=⟨_,rfl⟩
     rw[<-dE]
     have nD6:aV.get (j)=some (.deferred (some [])):=by rw[dE];exact(Tr.gA _ _ om).trans (Tr.ia ..)
     have nD7:aV.get (j+1)=some (.loop cb):=by rw[dE];exact Tr.ia ..
     have aN:HE (j) dr aV:=by rw[dE];exact(HE.set _ _ nR).trans (HE.set _ _ (e_ _))
     have nEB:=aN.get (af.get cZ)
     have nGw:=nDH
     have dL:=aN.get (af.get ((aK (G+1+1) om).trans (an.get (au.get dO))))
     have nF_:=nDI
     have dM:=aN.get (af.get ((aK (G+1+1+1) om).trans (an.get (au.get dP))))
     have nGa:=nDJ
     have dN:=aN.get (af.get ((aK (G+1+1+1+1) om).trans (an.get (au.get dQ))))
     have nGb:=nDK
     have eV:=aN.get (af.get ((aK K om).trans (an.get (au.get dR))))
     have nFu:=nDL
     have cy:=aN.get (af.get ((aK e om).trans (an.get nCv)))
     have nFv:=nDM
     have cz:=aN.get (af.get nCx)
     have nFw:=nDN
     have nEC:=aN.get nEr eM
     have nGx:=eM
     have cN:HE G O aV:=(cI.trans af).trans aN
     have nGo:G+2<=j:=by omega
     have nE_:r.iB.l.take X=r.iB.l:=fy om
     rw[nE_]at cQ
     have nFA:2<=M.l.length:=by rw[nD1];omega
     have nDY:∀q∈[(G+1+1+1),(G+1+1+1+1),e,(e+1),(j+1)],G<=q:=by intro q o;simp only[List.mem_cons,List.not_mem_nil,or_false]at o;omega
     have nD0:km (jW [(G+1+1+1),(G+1+1+1+1),e,(e+1),(j+1)] aV) (j+1+1) F:=aL.mono (cN.DG nDY)
     have nE9:ju iV 3 (fun O G y=>mf O G y) (jW [(G+1+1+1),(G+1+1+1+1),e,(e+1),(j+1)] aV) (j+1+1) M:=⟨(((cP.mono (((((HE.refl (e) b0).trans au).trans an).trans dn).trans af))).mono aN).Td (by
      intro q o m
      simp only[List.mem_cons,List.not_mem_nil,or_false]at o
      rcases o with rfl|rfl|rfl|rfl|rfl
      · exact vf (enc:=iV) (k:=3) (fun _=>rfl) dM _ (show(3:Nat)≠_ by omega) m
      · exact vf (enc:=iV) (k:=3) (fun _=>rfl) dN _ (show(1:Nat)≠_ by omega) m
      · exact vf (enc:=iV) (k:=3) (fun _=>rfl) cy _ (show(1:Nat)≠_ by omega) m
      · exact vf (enc:=iV) (k:=3) (fun _=>rfl) cz _ (show(1:Nat)≠_ by omega) m
      · exact BD nD7 _ m),fun x hx=>(aL.e6.2 x (cf x hx)).mono (cN.DG nDY)⟩
     refine(WV.func (f:=59) (show WF ex 59 (.func (.yield (j+1)) #[] #[]::(#[pt bf 0]:Array Value).toList) aV (j+1+1) _ from(K_ F (.func (.yield (j+1)) #[] #[]) [(G+1+1+1),(G+1+1+1+1),e,(e+1),(j+1)] bf (NU F.fq M.l ((G+1+1+1)) ((G+1+1+1+1)) (e) ((e+1)) (j+1) (j+1+1) cb) (Ze ((G+1+1+1)) ((G+1+1+1+1)) (j+1) (j+1+1) cb) (fun q=>q=bf) rfl aV (j+1+1) nD0 aV (j+1+1) nEC om nR (HE.refl _ _) ?_ (NU.mono om om om om om) ?_))).mono ?_
     · refine⟨⟨.slice none 0 0,[]⟩,false,cy,cz,dM,dN,nD7,.nil,tf,fun q o=>?_,Nat.le_refl _⟩
       subst o;exact⟨om,by simp;omega⟩
     ·
      rintro Pr w MB nGv a b hb dq ⟨J,aH,k1,k2,dY,dZ,cw,k6,k7,cx,k9⟩
      have nE8:(G+1+1+1)<b/\(G+1+1+1+1)<b/\e<b/\(e+1)<b/\(j+1)<b:=by omega
      have nDZ:km (jW [(G+1+1+1),(G+1+1+1+1),e,(e+1),(j+1)] a) b F:=nD0.mono dq hb
      have ad:ju iV 3 (fun O G y=>mf O G y) (jW [(G+1+1+1),(G+1+1+1+1),e,(e+1),(j+1)] a) b M:=nE9.mono (fun _ h he hn=>h.mono he hn) dq hb
      have cO:gx fc 2 (jW [(G+1+1+1),(G+1+1+1+1),e,(e+1),(j+1)] a) b J:=k7.NV k1 k2 dY dZ cw
      have nED:=(dq.q9 (c:=(G+1)) om (by simp;omega)).trans nEB
      have eW:=(dq.q9 (c:=K) om (by simp;omega)).trans eV
      have nFq:∀x∈M.l,x.fQ.l.length=F.gb.l.length+1:=fun x hx=>a_.PD (cf x hx)
      refine WV.round (cb.tmps.set 66 (Y (.ofNat w))) cw rfl (by rw[ct]) (by rw[ct];rfl) ?_
      subst ct
      refine WP.region<|oN 1<|⟨rfl,cw,fun nFe bz bC=>?_⟩
      have nCj:=(HE.refl b (jW [(G+1+1+1),(G+1+1+1+1),e,(e+1),(j+1)] a)).trans (HE.oo (B:=b) (l:=[(G+1+1+1),(G+1+1+1+1),e,(e+1),(j+1)]) fun q _ o=>bC q fun h=>o (by rw[h];simp))
      have c0:=(bC K om).trans eW
      refine WP.block<|sr<|oN 1<|WP.seq<|sr ?_
      obtain⟨ef,et,b6⟩:=ad.1.shape
      have nFi:=ad.1.2.2
      refine oZ K (0) (.slice ef (M.l.length) et) nX c0 (by rw[<-b6];rfl)<|oN 2<|WP.block ?_
      refine mg [4,6,7,15,16,17,18,67,68,69] (fun m hs ns vs=>∃(R:Nat) (be:SV (SV fL)) (gr:Nat) (aq:Bool),R+m=M.l.length/\vs=[pt (G+1) 0,pt (G+1+1+1) 0,pt (G+1+1+1+1) 0,pt e 0,pt (e+1) 0,Y (.ofNat w),be.v,.slice ef (M.l.length) et,Y (.ofNat (M.l.length)),Y (.ofNat R)]/\b<=ns/\HE b (jW [(G+1+1+1),(G+1+1+1+1),e,(e+1),(j+1)] a) (jW [(G+1+1+1),(G+1+1+1+1),e,(e+1),(j+1)] hs)/\hs.get (G+1)=some (.cells (gK F) gi.plain)/\hs.get K=some (.cells [M.v] gi.plain)/\hs.get (G+1+1+1)=some (.cells [Y 0,.slice none (0) 0,.bool false] gi.plain)/\hs.get (G+1+1+1+1)=some (.cells [Y 0] gi.plain)/\hs.get e=some (.cells [J.v] gi.plain)/\hs.get (e+1)=some (.cells [.bool aq] gi.plain)/\hs.get (j+1)=nFe.get (j+1)/\(lY lC 1 b gr (jW [(G+1+1+1),(G+1+1+1+1),e,(e+1),(j+1)] hs) ns be)/\(be.l.map (·.l)=(M.l.take R).map (wT F.fq w))/\(∀y∈be.l,gx fc 2 (jW [(G+1+1+1),(G+1+1+1+1),e,(e+1),(j+1)] hs) ns y)/\(aq=(aH||(M.l.take R).any (J6 w)))/\(∀x∈M.l.take R,xl [oO F.fq (wo x w)])/\(be.l.length=R)) ?_ (M.l.length) ?_
      ·
       rintro nGd b3 aa _ ⟨R,be,gr,aq,nFc,rfl,nCS,bk,nDP,nDQ,dS,dT,dU,dV,dW,bG,ce,bt,dx,eE,nE7⟩ nFy
       have nDh:=e8 nR nCS
       have dK:=HE.refl aa (jW [(G+1+1+1),(G+1+1+1+1),e,(e+1),(j+1)] b3)
       have nFz:=e9 aa
       have nEY:aq=true↔(aq=true):=gf
       refine sr ?_
       refine oq 70 (kL R M.l.length) fun nGi nET=>WO.nil<|WP.seq<|cq nET (fun nE0=>?_) (fun nE0=>?_)
       ·
        refine WP.skip<|WP.seq<|WP.block<|sr ?_
        have cp:R<M.l.length:=by omega
        refine WO.cons (WC.iy b6 ((ad.1.mono bk).qt) (R) uh mJ (cp) ?_)
        obtain⟨W,p⟩:=gE cp
        refine WO.cons (WC.ly b6 ((ad.1.mono bk).qt) p y6 mJ<|oA [Y 0,.slice none (0) 0,.slice none (0) 0] BS fun nFV ag nCy=>?_)
        have nDR:=e8 nFz (e_ (aa))
        refine oS aa (0) (.agg (iV W).toArray) (iV W) (iV W) mJ rfl (e7.2 ⟨rfl,xk _ (ad.2 W (cs p))⟩) nCy fun dt dp c3 az=>?_
        have ar:=(bk.trans (ag.jW (l:=[(G+1+1+1),(G+1+1+1+1),e,(e+1),(j+1)]))).trans (dp.jW (l:=[(G+1+1+1),(G+1+1+1+1),e,(e+1),(j+1)]))
        have nC6:=(dK.trans (ag.jW (l:=[(G+1+1+1),(G+1+1+1+1),e,(e+1),(j+1)]))).trans (dp.jW (l:=[(G+1+1+1),(G+1+1+1+1),e,(e+1),(j+1)]))
        have bP:=(az (G+1) om).trans (ag.get nDP)
        refine WO.nil<|WP.seq<|WP.qN [⟨[0,1,2,3,4,5],[0,1,2,3,4,5],some 6⟩,⟨[7,8,9,10],[7,8,9,10],some 11⟩,⟨[],[9,10],some 12⟩,⟨[],[10],some 13⟩,⟨[],[],none⟩] U _ rfl<|WD.kQ<|WN.hQ rfl (WC.im (G+1) (0) (gK F) U pm ou bP rfl<|nv 75 (pt aa (0+2)) ?_)
        obtain⟨eg,eu,aC⟩:=(ad.2 W (cs p)).fQ.1.shape
        have nFj:=(ad.2 W (cs p)).fQ.1.2.2
        refine WN.hQ rfl (WC.jP aa (0+2) (.slice eg (W.fQ.l.length) eu) U ql c3 (by rw[<-aC];rfl)<|nv 77 (Y (.ofNat w)) ?_)
        have bA:w<W.fQ.l.length:=by have:=nFq _ (cs p);omega
        refine WN.hQ rfl (WC.iy aC (((ad.2 W (cs p)).fQ.1.mono ar).qt) (w) tT sv (bA) ?_)
        obtain⟨N,aj⟩:=gE bA
        obtain⟨eh,ew,bp⟩:=((ad.2 W (cs p)).fQ.2 N (cs aj)).shape
        have nFk:=((ad.2 W (cs p)).fQ.2 N (cs aj)).2.2
        refine WN.hQ rfl (WC.lz (.slice eh (N.l.length) ew) aC (((ad.2 W (cs p)).fQ.1.mono ar).qt) aj (by rw[<-bp];rfl) tR<|WN.nil ⟨?_,?_⟩)
        ·
         refine co (.agg (gK F).toArray) (j9 ex.T dt.get 41 (pt (G+1) 0)) (jO pm ou bP rfl) (E8 F nDZ)<|cv (pt aa (0+2)) (iK ..)<|p7 aa (0+2) (.slice eg (W.fQ.l.length) eu) ql c3 (by rw[<-aC];rfl) (aC▸(ad.2 W (cs p)).fQ.1.js 8)<|ci (.ofNat w)<|yL aC (((ad.2 W (cs p)).fQ.1.mono ar).qt) (w) tT sv (bA)<|Gs (.slice eh (N.l.length) ew) aC (((ad.2 W (cs p)).fQ.1.mono ar).qt) aj (by rw[<-bp];rfl) tR (bp▸((ad.2 W (cs p)).fQ.2 N (cs aj)).js 8) ?_
         exact iX.nil
        refine WC.at rfl (WC.call 80 27 ([.agg (gK F).toArray,N.v]) (fun _ _ _=>by(try rw[bp]);kernel_rfl) ((UA hC F N dt (aa+1) (nDZ.mono ar).qt (((ad.2 W (cs p)).fQ.2 N (cs aj)).mono ar).qt a_.R5 (a_.Vb (cf _ (cs p)) (cs aj)) (e8 (Xb (cs aj)) (e8 (hw _ (cf _ (cs p))) (by decide)))).mono ?_))
        rintro _ nC2 S ⟨cc,aX,rfl,nEi,eG,nCT,ah⟩
        have cJ:=ar.trans (ah.jW (l:=[(G+1+1+1),(G+1+1+1+1),e,(e+1),(j+1)]))
        have bh:=ah.get ((az (G+1+1+1) om).trans (ag.get dS))
        have bQ:=ah.get ((az (G+1+1+1+1) om).trans (ag.get dT))
        have c5:=ah.get ((az e om).trans (ag.get dU))
        have bR:=ah.get ((az (e+1) om).trans (ag.get dV))
        have bS:=ah.get ((az (j+1) om).trans (ag.get dW))
        have dF:=nC6.trans (ah.jW (l:=[(G+1+1+1),(G+1+1+1+1),e,(e+1),(j+1)]))
        have nDS:=e8 nDR nCT
        have cj:=nEi.NV c5 bR bh bQ (bS.trans bz)
        have eR:=F2 aj
        have dG:=HE.refl S (jW [(G+1+1+1),(G+1+1+1+1),e,(e+1),(j+1)] nC2)
        have nDT:=e9 S
        obtain⟨aY,aZ,bq⟩:=cj.shape
        have nFl:=cj.2.2
        rw[bq]
        have nCZ:(N.l.any (·.jV))=true↔((N.l.any (·.jV))=true):=gf
        refine WD.kQ<|nv 73 (.tuple ⟨[.slice aY (cc.l.length) aZ,.bool (N.l.any (·.jV)),Y aX]⟩)<|nv 81 (.slice aY (cc.l.length) aZ)<|nv 82 (.bool (N.l.any (·.jV)))<|nv 83 (Y aX)<|WN.nil ⟨?_,?_⟩
        ·
         refine cv (.tuple ⟨[.slice aY (cc.l.length) aZ,.bool (N.l.any (·.jV)),Y aX]⟩) (Ph 7 _ (by intro v eQ;simp only[List.mem_cons,List.not_mem_nil,or_false]at eQ;rcases eQ with rfl|rfl|rfl<;>first|exact iz ..|exact iH ..|exact(bq▸cj.js 7))) ?_
         refine cv (.slice aY (cc.l.length) aZ) (bq▸cj.js 8)<|cv (.bool (N.l.any (·.jV))) (iH 8 (N.l.any (·.jV)))<|cv (Y aX) (iz ..) ?_
         exact iX.nil
        refine WC.at rfl (WC.val 21 (.slice aY (cc.l.length) aZ) kf<|WD.kQ<|WN.nil ⟨?_,?_⟩)
        ·
         refine cv (.bool (N.l.any (·.jV))) (iH 8 (N.l.any (·.jV)))<|cv (Y aX) (iz ..) ?_
         exact iX.nil
        refine WC.at rfl (WC.val 22 (.bool (N.l.any (·.jV))) kf<|WD.kQ<|WN.nil ⟨?_,?_⟩)
        ·
         refine cv (Y aX) (iz ..) ?_
         exact iX.nil
        refine WC.at rfl (WC.val 23 (Y aX) kf<|WD.last<|WN.nil ⟨?_,?_⟩)
        ·
         exact iX.nil
        refine WP.seq<|sr<|oX 1 ?_
        refine oq 85 (qG aX 0) fun nGj nEU=>WO.nil<|cq nEU (fun eY=>?_) (fun eY=>?_)
        ·
         refine sr<|WO.cons (WC.im (G+1+1+1) (0) [Y 0,.slice none (0) 0,.bool false] U uq nJ bh rfl<|oX 1<|oS (G+1+1+1) (0) (.agg ⟨[Y 0,.slice none (0) 0,.bool false]⟩) [Y 0,.slice none (0) 0,.bool false] [Y 0,.slice none (0) 0,.bool false] nJ rfl (e7.2 ⟨rfl,e7.2 ⟨rfl,e7.2 ⟨rfl,e7.2 ⟨rfl,rfl⟩⟩⟩⟩) bh fun nFW nFB nCz aQ=>?_)
         have nC7:=dF.trans (HE.oo (B:=S) (l:=[(G+1+1+1),(G+1+1+1+1),e,(e+1),(j+1)]) fun q _ o=>aQ q fun h=>o (by rw[h];simp))
         have nC8:=dG.trans (HE.oo (B:=S) (l:=[(G+1+1+1),(G+1+1+1+1),e,(e+1),(j+1)]) fun q _ o=>aQ q fun h=>o (by rw[h];simp))
         have nCk:=cJ.trans (HE.oo (B:=S) (l:=[(G+1+1+1),(G+1+1+1+1),e,(e+1),(j+1)]) fun q _ o=>aQ q fun h=>o (by rw[h];simp))
         refine oS (G+1+1+1+1) (0) (Y aX) [Y aX] [Y aX] qI rfl rfl ((aQ (G+1+1+1+1) om).trans bQ) fun nFX nFC nCA aR=>?_
         have nF5:=nC7.trans (HE.oo (B:=S) (l:=[(G+1+1+1),(G+1+1+1+1),e,(e+1),(j+1)]) fun q _ o=>aR q fun h=>o (by rw[h];simp))
         have nF6:=nC8.trans (HE.oo (B:=S) (l:=[(G+1+1+1),(G+1+1+1+1),e,(e+1),(j+1)]) fun q _ o=>aR q fun h=>o (by rw[h];simp))
         have cK:=nCk.trans (HE.oo (B:=S) (l:=[(G+1+1+1),(G+1+1+1+1),e,(e+1),(j+1)]) fun q _ o=>aR q fun h=>o (by rw[h];simp))
         refine WO.nil ?_
         have ak:=((aR (j+1) om).trans ((aQ (j+1) om).trans bS)).trans bz
         refine WP.ret ⟨rfl,ak,fun dw aO u=>⟨(show b<=S by omega),(HE.oo fun q o hn=>(u q (fun h=>hn (by rw[h];simp))).trans (cK.q9 om (by simp at hn⊢;omega))),(fun q o a6=>by obtain⟨p1,aE⟩:=cx q a6;exact(u q (fun h=>aE (by rw[h];simp))).trans (cK.q9 o (by simp at aE⊢;omega))),false,rfl,(fun h=>by cases h),fun _=>⟨(u _ om).trans ((aR (G+1+1+1) om).trans nCz),⟨aX,(eG.elim (fun h=>absurd h.1 eY) (fun h=>h.1)),(u _ om).trans nCA⟩,aO,(show(j+1+1)<=S by omega)⟩⟩⟩
        ·
         refine WP.skip<|sr<|oZ (e+1) (0) (.bool aq) w8 bR rfl<|oX 1<|og 89 (!aq) (.bool (N.l.any (·.jV))) (.bool aq) (by cases aq<;>rfl) (fun h=>by obtain rfl:=bF h;exact fun _ _ _=>by kernel_rfl) ?_
         obtain⟨bs,ez,nGy⟩:=nO nEY nCZ
         refine WO.cons (WC.me (v:=.bool bs) 91 (kZ (.bool aq) (.bool true) ((bif !aq then .bool (N.l.any (·.jV))else undef))) kf (by rw[ez];exact kS (fun h=>by obtain rfl:aq=false:=h;rfl))<|oS (e+1) (0) (.bool bs) [.bool bs] [.bool bs] PG rfl rfl bR fun nFY nFD nCB ai=>?_)
         have nC9:=dF.trans (HE.oo (B:=S) (l:=[(G+1+1+1),(G+1+1+1+1),e,(e+1),(j+1)]) fun q _ o=>ai q fun h=>o (by rw[h];simp))
         have nC_:=dG.trans (HE.oo (B:=S) (l:=[(G+1+1+1),(G+1+1+1+1),e,(e+1),(j+1)]) fun q _ o=>ai q fun h=>o (by rw[h];simp))
         have nCl:=cJ.trans (HE.oo (B:=S) (l:=[(G+1+1+1),(G+1+1+1+1),e,(e+1),(j+1)]) fun q _ o=>ai q fun h=>o (by rw[h];simp))
         refine WO.nil<|WP.region<|oX 2<|oL [.slice aY (cc.l.length) aZ] fun nFZ ac nCC=>?_
         have dH:=nC9.trans (ac.jW (l:=[(G+1+1+1),(G+1+1+1+1),e,(e+1),(j+1)]))
         have nDU:=e8 nDS (e_ (S))
         have nDV:=e8 nDT (e_ (S))
         have nD2:=cj.mono (nC_.trans (ac.jW (l:=[(G+1+1+1),(G+1+1+1+1),e,(e+1),(j+1)]))) nDV
         have eC:=bG.mono dH nDU
         obtain⟨inf,pq,vu⟩:=Te
         refine WO.cons (WC.MH (enc:=lC) (J:=be) cc rfl U U eC.qt (fun _ _=>rfl) nCC (by rw[<-bq];rfl) AW qH Hf pq rfl (e7.2 ⟨nD2.one,rfl⟩) vu om om rfl ?_)
         rintro nDX eP nD9 nE4 cA eO nD5 ae nEe _
         have nEf:=nEe.DG (L:=[(G+1+1+1),(G+1+1+1+1),e,(e+1),(j+1)]) (by intro q o;simp only[List.mem_cons,List.not_mem_nil,or_false]at o;omega)
         have nEh:=nD2.PE eC.qt nD5 eO
         have nEg:∀y∈nDX.l,gx fc 2 (jW [(G+1+1+1),(G+1+1+1+1),e,(e+1),(j+1)] eP) nD9 y:=by
          intro y hy;rw[cA]at hy
          rcases fI.1 hy with hy|hy
          · exact((bt y hy).mono dH).PE eC.qt nD5 eO
          · rw[List.mem_singleton.1 hy];exact nEh
         have nCm:=(nCl.trans (ac.jW (l:=[(G+1+1+1),(G+1+1+1+1),e,(e+1),(j+1)]))).trans (ae.jW (l:=[(G+1+1+1),(G+1+1+1+1),e,(e+1),(j+1)]))
         refine oN 1<|WP.region<|ov 96 (Y (.ofNat (R+1))) ?_ (fun _ _ _=>by rw[<-gM (show R+1<9223372036854775808 by omega)];kernel_rfl)
         refine oN 1<|⟨M.l.length-(R+1),om,rfl,rfl,R+1,nDX,nE4,bs,om,U,?_,?_,?_,?_,?_,?_,?_,?_,?_,?_,?_,?_,?_,?_,?_⟩
         · exact od
         · exact nCm
         · exact((ae _ om).trans (ac.get ((ai (G+1) om).trans (ah.get bP))))
         · exact((ae _ om).trans (ac.get ((ai K om).trans (ah.get ((az K om).trans (ag.get nDQ))))))
         · exact((ae _ om).trans (ac.get ((ai (G+1+1+1) om).trans bh)))
         · exact((ae _ om).trans (ac.get ((ai (G+1+1+1+1) om).trans bQ)))
         · exact((ae _ om).trans (ac.get ((ai e om).trans c5)))
         · exact((ae _ om).trans (ac.get nCB))
         · exact((ae _ om).trans (ac.get ((ai (j+1) om).trans bS)))
         · exact nEf
         · have nFp:cc.l=wT F.fq w W:=by unfold wT;rw[eR];exact eG.elim (fun h=>h.2.1) (fun h=>absurd (show aX≠0 by omega) (by assumption))
           rw[cA,List.map_append,ce,Ll p,<-nFp];rfl
         · exact nEg
         · rw[Lm p,<-Bool.or_assoc,<-dx];unfold J6;rw[eR];exact ez
         · intro x hx;rcases Ln p hx with hx|rfl
           · exact eE x hx
           · rw[eR];exact eG.elim (fun h=>h.2.2) (fun h=>absurd (show aX≠0 by omega) (by assumption))
         · rw[cA,List.length_append,nE7];rfl
       ·
        refine WP.exit<|WP.seq<|sr<|oX 1 ?_
        have nFa:M.l.take R=M.l:=fy om
        rw[nFa]at ce dx eE
        have eD:ju lC 1 (fun O G y=>gx fc 2 O G y) b3 (aa) be:=⟨(bG.mono dK).qt.ok (fun _ _=>rfl) om,fun y hy=>((bt y hy).mono dK).qt⟩
        refine oD 98 (FC (A:=fun y=>y.l=[]) be 29 #[] b3 (aa) eD (fun i x hx eZ e5 hn he=>Tf x eZ e5 ((eD.2 x (cs hx)).mono he hn))) fun nGk nEV nC3 br nCU av=>?_
        have bg:=bk.trans (av.jW (l:=[(G+1+1+1),(G+1+1+1+1),e,(e+1),(j+1)]))
        have c6:=av.get dS
        have c7:=av.get dT
        have c8:=av.get dU
        have c9:=av.get dV
        have c_:=av.get dW
        have b8:=dK.trans (av.jW (l:=[(G+1+1+1),(G+1+1+1+1),e,(e+1),(j+1)]))
        have nDi:=e8 nDh nCU
        refine WO.nil<|cq nEV (fun nCd=>?_) (fun nCd=>?_)
        ·
         refine WP.exit ?_
         have bD:=sW.skip (w:=w) k6 (NY ce nCd)
         rw[<-dx]at bD
         have bt:=(cO.mono bg nDi).qt
         have ak:=c_.trans bz
         refine⟨rfl,ak,fun dw aO u=>⟨(show b<=br by omega),(HE.oo fun q o hn=>(u q (fun h=>hn (by rw[h];simp))).trans (bg.q9 om (by simp at hn⊢;omega))),(fun q o a6=>by obtain⟨p1,aE⟩:=cx q a6;exact(u q (fun h=>aE (by rw[h];simp))).trans (bg.q9 o (by simp at aE⊢;omega))),true,rfl,fun _=>⟨J,aq,(u _ om).trans c8,(u _ om).trans c9,(u _ om).trans c6,(u _ om).trans c7,aO,bD,bt.J5 (BD ak _) u,fun q a6=>?_,(show(j+1+1)<=br by omega)⟩,(fun h=>by cases h)⟩⟩
         obtain⟨p1,aE⟩:=cx q a6;exact⟨(show q<br by omega),aE⟩
        ·
         refine WP.skip<|sr<|oX 1<|WO.cons (WC.call 101 30 ([be.v,.func (.func 31) #[] #[]]) kf ((WU hC be nC3 (br) ⟨(bG.mono b8).qt.ok (fun _ _=>rfl) om,fun y hy=>((bt y hy).mono b8).qt⟩).mono ?_))
         rintro _ du ap ⟨⟨JX,ea,rfl,nEk,nD4⟩,nFK,aw⟩
         have bK:=bg.trans (aw.jW (l:=[(G+1+1+1),(G+1+1+1+1),e,(e+1),(j+1)]))
         have bT:=aw.get c6
         have da:=aw.get c7
         have db:=aw.get c8
         have dc:=aw.get c_
         have dI:=b8.trans (aw.jW (l:=[(G+1+1+1),(G+1+1+1+1),e,(e+1),(j+1)]))
         refine oN 5<|WP.seq<|sr<|oX 1 ?_
         refine oq 105 (qG ea 0) fun nGl nEW=>WO.nil<|cq nEW (fun nCe=>?_) (fun nCe=>?_)
         ·
          refine sr<|WO.cons (WC.im (G+1+1+1) (0) [Y 0,.slice none (0) 0,.bool false] U uq nJ bT rfl<|oX 1<|oS (G+1+1+1) (0) (.agg ⟨[Y 0,.slice none (0) 0,.bool false]⟩) [Y 0,.slice none (0) 0,.bool false] [Y 0,.slice none (0) 0,.bool false] nJ rfl (e7.2 ⟨rfl,e7.2 ⟨rfl,e7.2 ⟨rfl,e7.2 ⟨rfl,rfl⟩⟩⟩⟩) bT fun nF0 nFE nCD bl=>?_)
          have nDa:=dI.trans (HE.oo (B:=ap) (l:=[(G+1+1+1),(G+1+1+1+1),e,(e+1),(j+1)]) fun q _ o=>bl q fun h=>o (by rw[h];simp))
          have nCn:=bK.trans (HE.oo (B:=ap) (l:=[(G+1+1+1),(G+1+1+1+1),e,(e+1),(j+1)]) fun q _ o=>bl q fun h=>o (by rw[h];simp))
          refine oS (G+1+1+1+1) (0) (Y ea) [Y ea] [Y ea] qI rfl rfl ((bl (G+1+1+1+1) om).trans da) fun nF1 nFF nCE bn=>?_
          have nF7:=nDa.trans (HE.oo (B:=ap) (l:=[(G+1+1+1),(G+1+1+1+1),e,(e+1),(j+1)]) fun q _ o=>bn q fun h=>o (by rw[h];simp))
          have cL:=nCn.trans (HE.oo (B:=ap) (l:=[(G+1+1+1),(G+1+1+1+1),e,(e+1),(j+1)]) fun q _ o=>bn q fun h=>o (by rw[h];simp))
          refine WO.nil ?_
          have ak:=((bn (j+1) om).trans ((bl (j+1) om).trans dc)).trans bz
          refine WP.ret ⟨rfl,ak,fun dw aO u=>⟨(show b<=ap by omega),(HE.oo fun q o hn=>(u q (fun h=>hn (by rw[h];simp))).trans (cL.q9 om (by simp at hn⊢;omega))),(fun q o a6=>by obtain⟨p1,aE⟩:=cx q a6;exact(u q (fun h=>aE (by rw[h];simp))).trans (cL.q9 o (by simp at aE⊢;omega))),false,rfl,(fun h=>by cases h),fun _=>⟨(u _ om).trans ((bn (G+1+1+1) om).trans nCD),⟨ea,(nD4.elim (fun h=>absurd h.1 nCe) (fun h=>h.1)),(u _ om).trans nCE⟩,aO,(show(j+1+1)<=ap by omega)⟩⟩⟩
         ·
          refine WP.skip<|sr ?_
          obtain⟨nEb,nEc,dy⟩:=cO.shape
          have nFm:=cO.2.2
          refine oZ e (0) (.slice nEb (J.l.length) nEc) nY db (by rw[<-dy];rfl)<|oX 1<|WO.cons (WC.call 111 32 ([J.v,JX.v]) (fun _ _ _=>by(try rw[dy]);kernel_rfl) ((M6 hC J JX du (ap) (cO.mono bK).qt (nEk.mono (HE.refl (ap) du))).mono ?_))
          rintro _ nC4 E ⟨⟨JU,d_,rfl,nEj,nD3⟩,nFL,ax⟩
          have dd:=ax.get bT
          have de:=ax.get da
          have df:=ax.get db
          have dg:=ax.get (aw.get c9)
          have dh:=ax.get dc
          have eH:=nEj.NV df dg dd de (dh.trans bz)
          have nDW:=e9 E
          refine oX 3<|oS e (0) (JU.v) [JU.v] [JU.v] qH eH.cells (e7.2 ⟨rfl,by rw[List.all_cons,eH.one];rfl⟩) df fun nF2 nFG nCF aA=>?_
          have nDb:=(dI.trans (ax.jW (l:=[(G+1+1+1),(G+1+1+1+1),e,(e+1),(j+1)]))).trans (HE.oo (B:=E) (l:=[(G+1+1+1),(G+1+1+1+1),e,(e+1),(j+1)]) fun q _ o=>aA q fun h=>o (by rw[h];simp))
          have dJ:=(HE.refl E (jW [(G+1+1+1),(G+1+1+1+1),e,(e+1),(j+1)] nC4)).trans (HE.oo (B:=E) (l:=[(G+1+1+1),(G+1+1+1+1),e,(e+1),(j+1)]) fun q _ o=>aA q fun h=>o (by rw[h];simp))
          have bL:=(bK.trans (ax.jW (l:=[(G+1+1+1),(G+1+1+1+1),e,(e+1),(j+1)]))).trans (HE.oo (B:=E) (l:=[(G+1+1+1),(G+1+1+1+1),e,(e+1),(j+1)]) fun q _ o=>aA q fun h=>o (by rw[h];simp))
          have bU:=(aA (G+1+1+1) om).trans dd
          have di:=(aA (G+1+1+1+1) om).trans de
          have dj:=(aA (j+1) om).trans dh
          refine oN 1<|sr<|oX 1 ?_
          refine oq 115 (qG d_ 0) fun nGm nEX=>WO.nil<|cq nEX (fun nCf=>?_) (fun nCf=>?_)
          ·
           refine sr<|WO.cons (WC.im (G+1+1+1) (0) [Y 0,.slice none (0) 0,.bool false] U uq nJ bU rfl<|oX 1<|oS (G+1+1+1) (0) (.agg ⟨[Y 0,.slice none (0) 0,.bool false]⟩) [Y 0,.slice none (0) 0,.bool false] [Y 0,.slice none (0) 0,.bool false] nJ rfl (e7.2 ⟨rfl,e7.2 ⟨rfl,e7.2 ⟨rfl,e7.2 ⟨rfl,rfl⟩⟩⟩⟩) bU fun nF3 nFH nCG aS=>?_)
           have nDc:=nDb.trans (HE.oo (B:=E) (l:=[(G+1+1+1),(G+1+1+1+1),e,(e+1),(j+1)]) fun q _ o=>aS q fun h=>o (by rw[h];simp))
           have nDd:=dJ.trans (HE.oo (B:=E) (l:=[(G+1+1+1),(G+1+1+1+1),e,(e+1),(j+1)]) fun q _ o=>aS q fun h=>o (by rw[h];simp))
           have nCo:=bL.trans (HE.oo (B:=E) (l:=[(G+1+1+1),(G+1+1+1+1),e,(e+1),(j+1)]) fun q _ o=>aS q fun h=>o (by rw[h];simp))
           refine oS (G+1+1+1+1) (0) (Y d_) [Y d_] [Y d_] qI rfl rfl ((aS (G+1+1+1+1) om).trans di) fun nF4 nFI nCH aT=>?_
           have nF8:=nDc.trans (HE.oo (B:=E) (l:=[(G+1+1+1),(G+1+1+1+1),e,(e+1),(j+1)]) fun q _ o=>aT q fun h=>o (by rw[h];simp))
           have nF9:=nDd.trans (HE.oo (B:=E) (l:=[(G+1+1+1),(G+1+1+1+1),e,(e+1),(j+1)]) fun q _ o=>aT q fun h=>o (by rw[h];simp))
           have cM:=nCo.trans (HE.oo (B:=E) (l:=[(G+1+1+1),(G+1+1+1+1),e,(e+1),(j+1)]) fun q _ o=>aT q fun h=>o (by rw[h];simp))
           refine WO.nil ?_
           have ak:=((aT (j+1) om).trans ((aS (j+1) om).trans dj)).trans bz
           refine WP.ret ⟨rfl,ak,fun dw aO u=>⟨(show b<=E by omega),(HE.oo fun q o hn=>(u q (fun h=>hn (by rw[h];simp))).trans (cM.q9 om (by simp at hn⊢;omega))),(fun q o a6=>by obtain⟨p1,aE⟩:=cx q a6;exact(u q (fun h=>aE (by rw[h];simp))).trans (cM.q9 o (by simp at aE⊢;omega))),false,rfl,(fun h=>by cases h),fun _=>⟨(u _ om).trans ((aT (G+1+1+1) om).trans nCG),⟨d_,(nD3.elim (fun h=>absurd h.1 nCf) (fun h=>h.1)),(u _ om).trans nCH⟩,aO,(show(j+1+1)<=E by omega)⟩⟩⟩
          ·
           refine WP.skip ?_
           have bD:=sW.add (w:=w) k6 (fun x hx h=>absurd (show∃y∈be.l,y.l=[]from NX ce hx h) (by assumption)) eE (nD4.elim (fun h=>ce▸h.2) (fun h=>absurd (show ea≠0 by omega) (by assumption))) (nD3.elim (fun h=>h.2) (fun h=>absurd (show d_≠0 by omega) (by assumption)))
           rw[<-dx]at bD
           have bt:=(eH.mono dJ nDW).qt
           have ak:=dj.trans bz
           refine⟨rfl,ak,fun dw aO u=>⟨(show b<=E by omega),(HE.oo fun q o hn=>(u q (fun h=>hn (by rw[h];simp))).trans (bL.q9 om (by simp at hn⊢;omega))),(fun q o a6=>by obtain⟨p1,aE⟩:=cx q a6;exact(u q (fun h=>aE (by rw[h];simp))).trans (bL.q9 o (by simp at aE⊢;omega))),true,rfl,fun _=>⟨JU,aq,(u _ om).trans nCF,(u _ om).trans ((aA (e+1) om).trans dg),(u _ om).trans bU,(u _ om).trans di,aO,bD,bt.J5 (BD ak _) u,fun q a6=>?_,(show(j+1+1)<=E by omega)⟩,(fun h=>by cases h)⟩⟩
           obtain⟨p1,aE⟩:=cx q a6;exact⟨(show q<E by omega),aE⟩
      ·
       exact⟨0,⟨.slice none 0 0,[]⟩,0,aH,om,U,e9 _,nCj,((bC (G+1) om).trans nED),c0,((bC (G+1+1+1) om).trans dY),((bC (G+1+1+1+1) om).trans dZ),((bC e om).trans k1),((bC (e+1) om).trans k2),rfl,lY.nil,rfl,(fun _ h=>by cases h),(by simp),(fun _ h=>by cases h),rfl⟩
     ·
      rintro _ b4 eX ⟨nGA,bH,nCK⟩
      have nE8:(G+1+1+1)<(j+1+1)/\(G+1+1+1+1)<(j+1+1)/\e<(j+1+1)/\(e+1)<(j+1+1)/\(j+1)<(j+1+1):=by omega
      rcases nCK with⟨Pr,J,aH,k1,k2,dY,dZ,cw,k6,k7,cx,k9⟩|⟨dY,⟨z,nFs,dZ⟩,cw,k9⟩
      ·
       refine⟨cb,0,cw,(fun h=>by rw[ct]at h;cases h),by rw[ct];rfl,?_⟩
       obtain⟨aU,cu⟩:∃h:Ht,h=b4.set (j+1) (some (.loop {cb with state:=.exhausted})):=⟨_,rfl⟩
       rw[<-cu]
       have ao:∀q,q≠(j+1)->aU.get q=b4.get q:=fun q o=>by rw[cu];exact Tr.gA _ _ o
       have cd:HE G O aU:=fun q o=>(ao q om).trans ((bH.q9 om (by simp;omega)).trans (cN q o))
       have nD_:=(ao (e) om).trans k1
       have nEa:=(ao ((e+1)) om).trans k2
       have dX:=(ao ((G+1+1+1)) om).trans dY
       have nCg:=(ao ((G+1+1+1+1)) om).trans dZ
       have qD:=(ao (j) om).trans ((bH.q9 om (by simp;omega)).trans nD6)
       have q5:=(ao ((G+1+1)) om).trans ((bH.q9 om (by simp;omega)).trans dL)
       have bu:=k7.J5 (eZ:=aU) (BD cw _) ao
       refine WP.seq<|WP.qN [⟨[0,1,2,3,4,5,6],[0,1,2,3,4,5,6],some 7⟩,⟨[],[],some 8⟩,⟨[],[],none⟩] U _ rfl<|WD.kQ<|nv 118 (pt (G+1+1) 0) ?_
       obtain⟨ei,ey,aD⟩:=hr.iB.shape
       have nFn:=hr.iB.2.2
       refine WN.hQ rfl (WC.jP (G+1+1) 0 (.slice ei (r.iB.l.length) ey) U lF q5 (by rw[<-aD];rfl) ?_)
       have bB:0<r.iB.l.length:=by omega
       refine WN.hQ rfl (WC.iy aD hr.iB (0) lG kp (bB) ?_)
       obtain⟨ab,dB⟩:=gE bB
       refine WN.hQ rfl (WC.lz (Y ab) aD (hr.iB.mono cd nR) dB rfl ft ?_)
       obtain⟨aF,aG,aW⟩:=bu.shape
       have nFo:=bu.2.2
       refine WN.hQ rfl (WC.jP e (0) (.slice aF (J.l.length) aG) U nY nD_ (by rw[<-aW];rfl)<|WN.hQ rfl (WC.jP (e+1) (0) (.bool aH) U w8 nEa rfl<|nv 124 (.agg ⟨[Y ab,.slice aF (J.l.length) aG,.bool aH]⟩)<|WN.nil ⟨?_,?_⟩))
       ·
        refine cv (pt (G+1+1) 0) (iK ..)<|p7 (G+1+1) 0 (.slice ei (r.iB.l.length) ey) lF q5 (by rw[<-aD];rfl) (aD▸hr.iB.js 8)<|yL aD hr.iB (0) lG kp (bB)<|Gs (Y ab) aD (hr.iB.mono cd nR) dB rfl ft (iz ..)<|p7 e 0 (.slice aF (J.l.length) aG) nY nD_ (by rw[<-aW];rfl) (aW▸bu.js 8)<|p7 (e+1) 0 (.bool aH) w8 nEa rfl (iH 8 aH)<|cv (.agg ⟨[Y ab,.slice aF (J.l.length) aG,.bool aH]⟩) (wv 7 _ (by intro v eQ;simp only[List.mem_cons,List.not_mem_nil,or_false]at eQ;rcases eQ with rfl|rfl|rfl<;>first|exact iz ..|exact iH ..|exact(aW▸bu.js 7))) ?_
        exact iX.nil
       refine WC.at rfl (WC.uR (G+1+1+1) (0) (.agg ⟨[Y ab,.slice aF (J.l.length) aG,.bool aH]⟩) [Y 0,.slice none (0) 0,.bool false] [Y ab,.slice aF (J.l.length) aG,.bool aH] [Y ab,.slice aF (J.l.length) aG,.bool aH] 3 rfl U U nJ rfl (e7.2 ⟨rfl,e7.2 ⟨rfl,e7.2 ⟨rfl,e7.2 ⟨rfl,rfl⟩⟩⟩⟩) dX rfl rfl rfl ?_)
       obtain⟨nC5,dC,nCQ,nCI,bY⟩:=stored aU (G+1+1+1) (.cells [Y ab,.slice aF (J.l.length) aG,.bool aH] gi.plain)
       rw[dC];clear dC
       have dl:=(bY (G+1+1+1+1) om).trans nCg
       refine WD.kQ<|WN.nil ⟨?_,?_⟩
       ·
        exact iX.nil
       refine WC.at rfl (WC.uR (G+1+1+1+1) (0) (Y 0) [Y 0] [Y 0] [Y 0] 1 rfl U U qI rfl rfl dl rfl rfl rfl ?_)
       obtain⟨dv,dD,nCR,nCJ,bZ⟩:=stored nC5 (G+1+1+1+1) (.cells [Y 0] gi.plain)
       rw[dD];clear dD
       have dm:=(bZ j om).trans ((bY j om).trans qD)
       refine WD.last<|WN.nil ⟨?_,?_⟩
       ·
        exact iX.nil
       obtain⟨cr,bE⟩:∃h:Ht,h=dv.set (j) (some (.deferred none)):=⟨_,rfl⟩
       have bc:∀q,q≠j->cr.get q=dv.get q:=fun q o=>by rw[bE];exact Tr.gA _ _ o
       have eA:cr.get ((G+1+1+1))=some (.cells (tM ⟨ab,J,aH⟩) gi.plain):=by rw[show tM ⟨ab,J,aH⟩=[Y ab,J.v,.bool aH]from rfl,aW];exact(bc ((G+1+1+1)) om).trans ((bZ (G+1+1+1) om).trans nCI)
       have eB:=(bc ((G+1+1+1+1)) om).trans nCJ
       refine WP.ret ⟨rfl,.inr ⟨j,rfl,dm,[.agg (tM ⟨ab,J,aH⟩).toArray,Y 0],(by rw[<-bE];exact qk (by rw[show(fV (.tmp 6)).run _=pt (G+1+1+1) 0 from by kernel_rfl];exact jO uq nJ eA rfl) (by rw[show(fV (.tmp 7)).run _=pt (G+1+1+1+1) 0 from by kernel_rfl];exact j_ pT eB rfl)),?_⟩⟩
       rw[<-bE]
       have nEx:gx fc 2 cr eX J:=(((bu.J5 (vf (enc:=fc) (k:=2) (fun _=>rfl) dX _ (xU (.inr rfl))) bY).J5 (vf (enc:=fc) (k:=2) (fun _=>rfl) dl _ (xU (.inl rfl))) bZ)).J5 (fun m h=>by rw[dm]at h;cases h) bc
       exact⟨⟨ab,J,aH⟩,0,rfl,⟨nEx⟩,.ok (fg.1 bw) a_ cQ k6,(show G<=eX by omega),(fun q o=>(bc q om).trans (((cd.trans nCQ).trans nCR) q o))⟩
      ·
       refine⟨{cb with state:=.done,pending:=some .ret},1,cw,(fun h=>by cases h),rfl,?_⟩
       obtain⟨aU,cu⟩:∃h:Ht,h=b4.set (j+1) (some (.loop {({cb with state:=.done,pending:=some .ret}:sU Tm)with state:=.exhausted})):=⟨_,rfl⟩
       rw[<-cu]
       have ao:∀q,q≠(j+1)->aU.get q=b4.get q:=fun q o=>by rw[cu];exact Tr.gA _ _ o
       have cd:HE G O aU:=fun q o=>(ao q om).trans ((bH.q9 om (by simp;omega)).trans (cN q o))
       have dX:=(ao ((G+1+1+1)) om).trans dY
       have nCg:=(ao ((G+1+1+1+1)) om).trans dZ
       have qD:=(ao (j) om).trans ((bH.q9 om (by simp;omega)).trans nD6)
       have q5:=(ao ((G+1+1)) om).trans ((bH.q9 om (by simp;omega)).trans dL)
       obtain⟨cr,bE⟩:∃h:Ht,h=aU.set (j) (some (.deferred none)):=⟨_,rfl⟩
       have bc:∀q,q≠j->cr.get q=aU.get q:=fun q o=>by rw[bE];exact Tr.gA _ _ o
       have eA:=(bc ((G+1+1+1)) om).trans dX
       have eB:=(bc ((G+1+1+1+1)) om).trans nCg
       show Nat.ble 1 1=true/\_
       refine⟨rfl,.inr ⟨j,rfl,qD,[.agg (tM ⟨0,⟨.slice none 0 0,[]⟩,false⟩).toArray,Y z],(by rw[<-bE];exact qk (by rw[show(fV (.tmp 6)).run _=pt (G+1+1+1) 0 from by kernel_rfl];exact jO uq nJ eA rfl) (by rw[show(fV (.tmp 7)).run _=pt (G+1+1+1+1) 0 from by kernel_rfl];exact j_ pT eB rfl)),?_⟩⟩
       rw[<-bE]
       exact⟨⟨0,⟨.slice none 0 0,[]⟩,false⟩,z,rfl,⟨tf⟩,.lim (fg.1 bw) a_ (NW cQ) nFs rfl,(show G<=eX by omega),(fun q o=>(bc q om).trans (cd q o))⟩
   ·
    exact⟨0,⟨.slice none 0 0,[]⟩,om,U,e9 _,(cG.trans aI),(aI.get (a8.get (a7.get eI))),(aI.get (a8.get eK)),cS,(aI.get bN),(aI.get cR),nCr,mq.nil,rfl,(fun _ h=>by cases h),rfl⟩
end
end Sw
namespace Sw
noncomputable section
open Go Go.RowKit
def mj(l:List fL)(t:Int):Prop:=∃s∈l,s.g_<=t/\t<=s.gU
def B4(l:List fL):Prop:=∀s∈l,um s
def tF:List fL->Prop
 |[]=>True
 |a::l=>a.g_<=a.gU/\(∀b∈l,a.gU+1<b.g_)/\tF l
theorem mj.nil{t:Int}:¬mj [] t:=fun⟨_,h,_⟩=>by cases h
theorem mj.cons{a:fL}{l:List fL}{t:Int}:mj (a::l) t↔(a.g_<=t/\t<=a.gU)\/mj l t:=by
 constructor
 · rintro ⟨s,hs,h⟩
   rcases fM.1 hs with rfl|hs
   · exact .inl h
   · exact .inr ⟨s,hs,h⟩
 · rintro(h|⟨s,hs,h⟩)
   · exact⟨a,fh ..,h⟩
   · exact⟨s,fw _ hs,h⟩
theorem mj.append{l k:List fL}{t:Int}:mj (l++k) t↔mj l t\/mj k t:=by
 constructor
 · rintro ⟨s,hs,h⟩
   rcases fI.1 hs with hs|hs
   · exact .inl ⟨s,hs,h⟩
   · exact .inr ⟨s,hs,h⟩
 · rintro(⟨s,hs,h⟩|⟨s,hs,h⟩)
   · exact⟨s,fC _ hs,h⟩
   · exact⟨s,gl _ hs,h⟩
theorem tF.lo{a:fL}{l:List fL}(h:tF (a::l)){t:Int}(b:mj l t):a.gU+1<t:=by
 obtain⟨s,hs,h1,D⟩:=b
 have:=h.2.1 s hs;omega
theorem tF.eq:∀{a b:List fL},tF a->tF b->(∀t,mj a t↔mj b t)->a=b
 |[],[],_,_,_=>rfl
 |[],b::l,_,hb,h=>absurd ((h b.g_).2 (mj.cons.2 (.inl ⟨gL _,hb.1⟩))) mj.nil
 |a::l,[],e,_,h=>absurd ((h a.g_).1 (mj.cons.2 (.inl ⟨gL _,e.1⟩))) mj.nil
 |a::l,b::k,e,hb,h=>by
  have o:a.g_=b.g_:=by
   rcases mj.cons.1 ((h a.g_).1 (mj.cons.2 (.inl ⟨gL _,e.1⟩)))with h1|h1
   · rcases mj.cons.1 ((h b.g_).2 (mj.cons.2 (.inl ⟨Int.le_refl _,hb.1⟩)))with D|D
     · omega
     · have:=e.lo D;have:=e.1;omega
   · have h3:=hb.lo h1
     rcases mj.cons.1 ((h b.g_).2 (mj.cons.2 (.inl ⟨gL _,hb.1⟩)))with D|D
     · have:=hb.1;omega
     · have:=e.lo D;have:=e.1;have:=hb.1;omega
  have m:a.gU=b.gU:=by
   rcases Int.lt_trichotomy a.gU b.gU with p|p|p
   · exfalso
     have y:=e.1
     rcases mj.cons.1 ((h (a.gU+1)).2 (mj.cons.2 (.inl ⟨by omega,by omega⟩)))with h1|h1
     · omega
     · have:=e.lo h1;omega
   · exact p
   · exfalso
     have z:=hb.1
     rcases mj.cons.1 ((h (b.gU+1)).1 (mj.cons.2 (.inl ⟨by omega,by omega⟩)))with h1|h1
     · omega
     · have:=hb.lo h1;omega
  have u:a=b:=by cases a;cases b;simp only at o m;rw[o,m]
  subst u
  rw[tF.eq e.2.2 hb.2.2 fun t=>?_]
  constructor
  · intro j
    rcases mj.cons.1 ((h t).1 (mj.cons.2 (.inr j)))with h1|h1
    · have:=e.lo j;omega
    · exact h1
  · intro j
    rcases mj.cons.1 ((h t).2 (mj.cons.2 (.inr j)))with h1|h1
    · have:=hb.lo j;omega
    · exact h1
theorem tF.snoc:∀{l:List fL} {x:fL},tF l->x.g_<=x.gU->(∀a∈l,a.gU+1<x.g_)->tF (l++[x])
 |[],x,_,hx,_=>⟨hx,(fun b h=>by cases h),trivial⟩
 |a::l,x,h,hx,k=>by
  refine⟨h.1,fun b hb=>?_,h.2.2.snoc hx fun b hb=>k b (fw _ hb)⟩
  rcases fI.1 hb with hb|hb
  · exact h.2.1 b hb
  · rw[List.mem_singleton.1 hb];exact k a (fh ..)
theorem tF.init:∀{l:List fL} {y:fL},tF (l++[y])->tF l/\y.g_<=y.gU/\∀a∈l,a.gU+1<y.g_
 |[],y,h=>⟨trivial,h.1,(fun a h=>by cases h)⟩
 |a::l,y,h=>by
  obtain⟨h1,D,h3⟩:=tF.init h.2.2
  refine⟨⟨h.1,fun b hb=>h.2.1 b (fC _ hb),h1⟩,D,fun b hb=>?_⟩
  rcases fM.1 hb with rfl|hb
  · exact h.2.1 y (gl _ (List.mem_singleton.2 rfl))
  · exact h3 b hb
theorem xV{z:Int}(h1:-9223372036854775808<=z)(D:z<9223372036854775808):gn .i64 z=z:=by
 rw[tI]
 show(if(true&&decide (z%18446744073709551616>=9223372036854775808))=true then z%18446744073709551616-18446744073709551616 else z%18446744073709551616)=z
 by_cases h:z%18446744073709551616>=9223372036854775808
 · rw[if_pos (by simpa using h)];omega
 · rw[if_neg (by simpa using h)];omega
structure Q6(J l:List fL):Prop where
 Q7:tF J
 oI:B4 J
 V9:∀t,mj J t↔mj l t
 low:∀a∈J,∃b∈l,a.g_=b.g_
open Classical in
theorem Tg{J l:List fL}{x:fL}(h:Q6 J l)(hx:um x)(hs:∀b∈l,b.g_<=x.g_):Q6 (sj J x) (l++[x]):=by
 have u:∀a∈J,a.g_<=x.g_:=fun a j=>by obtain⟨b,hb,e⟩:=h.low a j;rw[e];exact hs b hb
 rcases List.eq_nil_or_concat J with rfl|⟨m,y,rfl⟩
 · have e:sj [] x=[x]:=rfl
   rw[e]
   refine⟨⟨hx.2.2,fun b h=>(by cases h),trivial⟩,fun s hs=>by rw[List.mem_singleton.1 hs];exact hx,fun t=>?_,fun a j=>⟨x,by simp,by rw[List.mem_singleton.1 j]⟩⟩
   rw[mj.append,<-h.V9];simp[mj.nil]
 · simp only[List.concat_eq_append]at*
   obtain⟨c1,c2,z⟩:=h.Q7.init
   have hy:=h.oI y (by simp)
   have F:=u y (by simp)
   have e1:(m++[y])[(m++[y]).length-1]?=some y:=by simp
   have e2:sj (m++[y]) x=if Touch y x then(m++[y]).set ((m++[y]).length-1) (both y x)else(m++[y])++[x]:=by
    unfold sj;rw[e1]
   rw[e2]
   have hw:gn .i64 (y.gU+1)=y.gU+1:=xV (by have:=hy.2.1;have:=hy.1;have:=hy.2.2;omega) (by have:=hy.2.1;omega)
   split
   · rename_i p
     have e3:(m++[y]).set ((m++[y]).length-1) (both y x)=m++[both y x]:=by
      rw[List.set_append_right _ _ (by simp)];simp
     rw[e3]
     have C:x.g_<=y.gU+1:=by
      rcases p with rfl|p
      · have:=hy.2.2;omega
      · rw[hw]at p;exact p
     have hb:(both y x).g_=y.g_/\y.gU<=(both y x).gU/\x.gU<=(both y x).gU/\((both y x).gU=y.gU\/(both y x).gU=x.gU):=by
      cases hl:rI y.gU x.gU with
      |true=>
       have:=sA.1 hl
       have e:both y x=⟨y.g_,x.gU⟩:=by unfold both;rw[hl];rfl
       rw[e];exact⟨rfl,Int.le_of_lt this,gL _,.inr rfl⟩
      |false=>
       have:¬y.gU<x.gU:=fun k=>by rw[sA.2 k]at hl;cases hl
       have e:both y x=⟨y.g_,y.gU⟩:=by unfold both;rw[hl];rfl
       rw[e];exact⟨rfl,gL _,Int.not_lt.1 this,.inl rfl⟩
     have E:=hx.2.2
     refine⟨c1.snoc (by omega) (fun a j=>by rw[hb.1];exact z a j),fun s hs=>?_,fun t=>?_,fun a j=>?_⟩
     · rcases List.mem_append.1 hs with hs|hs
       · exact h.oI s (fC _ hs)
       · rw[List.mem_singleton.1 hs]
         have:=hx.1;have:=hx.2.1;have:=hy.1;have:=hy.2.1
         exact⟨by omega,by omega,by omega⟩
     · rw[mj.append,mj.append,<-h.V9,mj.append]
       constructor
       · rintro(k|⟨s,hs,k⟩)
         · exact .inl (.inl k)
         · rw[List.mem_singleton.1 hs]at k
           rcases Int.le_total t y.gU with q|q
           · exact .inl (.inr ⟨y,by simp,by omega,q⟩)
           · by_cases B:t<=y.gU
             · exact .inl (.inr ⟨y,by simp,by omega,B⟩)
             · exact .inr ⟨x,by simp,by omega,by omega⟩
       · rintro((k|⟨s,hs,k⟩)|⟨s,hs,k⟩)
         · exact .inl k
         · rw[List.mem_singleton.1 hs]at k;exact .inr ⟨both y x,by simp,by omega,by omega⟩
         · rw[List.mem_singleton.1 hs]at k;exact .inr ⟨both y x,by simp,by omega,by omega⟩
     · rcases List.mem_append.1 j with j|j
       · obtain⟨b,o,e⟩:=h.low a (List.mem_append_left _ j)
         exact⟨b,fC _ o,e⟩
       · rw[List.mem_singleton.1 j]
         obtain⟨b,o,e⟩:=h.low y (by simp)
         exact⟨b,fC _ o,by omega⟩
   · rename_i p
     have A:y.gU+1<x.g_:=by
      have:¬x.g_<=gn .i64 (y.gU+1):=fun k=>p (.inr k)
      rw[hw]at this;omega
     refine⟨h.Q7.snoc hx.2.2 fun a j=>?_,fun s hs=>?_,fun t=>?_,fun a j=>?_⟩
     · rcases List.mem_append.1 j with j|j
       · have:=z a j;omega
       · rw[List.mem_singleton.1 j];exact A
     · rcases List.mem_append.1 hs with hs|hs
       · exact h.oI s hs
       · rw[List.mem_singleton.1 hs];exact hx
     · rw[mj.append (l:=m++[y]),mj.append (l:=l),h.V9]
     · rcases List.mem_append.1 j with j|j
       · obtain⟨b,o,e⟩:=h.low a j
         exact⟨b,fC _ o,e⟩
       · exact⟨x,by simp,by rw[List.mem_singleton.1 j]⟩
theorem Th:∀(k:List fL),B4 k->k.Pairwise (fun a b=>a.g_<=b.g_)->∀(l J:List fL),Q6 J l->(∀a∈l,∀b∈k,a.g_<=b.g_)->Q6 (k.foldl sj J) (l++k)
 |[],_,_,l,J,h,_=>by rw[List.append_nil];exact h
 |x::k,hg,O,l,J,h,hl=>by
  rw[List.foldl_cons,show l++x::k=(l++[x])++k by simp]
  refine Th k (fun s hs=>hg s (fw _ hs)) (List.pairwise_cons.1 O).2 _ _ (Tg h (hg x (fh ..)) fun b hb=>hl b hb x (fh ..)) fun a e b hb=>?_
  rcases fI.1 e with e|e
  · exact hl a e b (fw _ hb)
  · rw[List.mem_singleton.1 e];exact(List.pairwise_cons.1 O).1 b hb
theorem N1{x y:fL}(h:(!(decide (wH y x<0)))=true):x.g_<=y.g_/\(x.g_=y.g_->x.gU<=y.gU):=by
 have h:¬wH y x<0:=by simpa using h
 unfold wH uV jj at h
 split at h<;>split at h<;>(try split at h)<;>(try split at h)<;>(try split at h)<;>omega
theorem FD{x y:fL}(h:x.g_<=y.g_/\(x.g_=y.g_->x.gU<=y.gU)):(!(decide (wH y x<0)))=true:=by
 have:¬wH y x<0:=by
  unfold wH uV jj
  split<;>split<;>(try split)<;>(try split)<;>(try split)<;>omega
 simpa using this
theorem Q8(l:List fL):(wI l).Pairwise fun a b=>a.g_<=b.g_:=by
 have:=List.pairwise_mergeSort (le:=fun x y=>!(decide (wH y x<0))) (fun a b c h1 D=>by
  have j:=N1 h1;have m:=N1 D
  exact FD ⟨by omega,fun e=>by have:=j.2 (by omega);have:=m.2 (by omega);omega⟩) (fun a b=>by
  rw[Bool.or_eq_true]
  rcases Int.lt_trichotomy a.g_ b.g_ with k|k|k
  · exact .inl (FD ⟨by omega,fun e=>by omega⟩)
  · rcases Int.le_total a.gU b.gU with q|q
    · exact .inl (FD ⟨by omega,fun _=>q⟩)
    · exact .inr (FD ⟨by omega,fun _=>q⟩)
  · exact .inr (FD ⟨by omega,fun e=>by omega⟩)) l
 exact this.imp fun h=>(N1 h).1
theorem BE{l:List fL}(h:B4 l):tF (uK l)/\B4 (uK l)/\∀t,mj (uK l) t↔mj l t:=by
 have O:=List.mergeSort_perm l fun x y=>!(decide (wH y x<0))
 have hm:∀s,s∈wI l↔s∈l:=fun s=>O.mem_iff
 have:=Th (wI l) (fun s hs=>h s ((hm s).1 hs)) (Q8 l) [] [] ⟨trivial,fun s h=>(by cases h),fun t=>gf,fun a h=>by cases h⟩ (fun a h=>by cases h)
 rw[List.nil_append]at this
 refine⟨this.Q7,this.oI,fun t=>(this.V9 t).trans ⟨fun⟨s,hs,k⟩=>⟨s,(hm s).1 hs,k⟩,fun⟨s,hs,k⟩=>⟨s,(hm s).2 hs,k⟩⟩⟩
end
end Sw
namespace Sw
noncomputable section
open Go Go.RowKit
def ua:List (List fL)->Int->Prop
 |[],t=>t=0
 |y::W,t=>∃u v,mj y u/\ua W v/\t=u+v
theorem ua.append:∀{W V:List (List fL)} {t:Int},ua (W++V) t↔∃u v,ua W u/\ua V v/\t=u+v
 |[],V,t=>⟨fun h=>⟨0,t,rfl,h,by omega⟩,fun⟨u,v,h1,D,h3⟩=>by
   have h1:u=0:=h1
   rw[show t=v by omega];exact D⟩
 |y::W,V,t=>by
  constructor
  · rintro ⟨u,v,h1,D,rfl⟩
    obtain⟨a,b,h3,h4,rfl⟩:=ua.append.1 D
    exact⟨u+a,b,⟨u,a,h1,h3,rfl⟩,h4,by omega⟩
  · rintro ⟨u,v,⟨a,b,h1,D,rfl⟩,h3,rfl⟩
    exact⟨a,b+v,h1,ua.append.2 ⟨b,v,D,h3,rfl⟩,by omega⟩
theorem ua.perm{W V:List (List fL)}(h:W.Perm V):∀{t:Int},ua W t->ua V t:=by
 induction h with
 |nil=>exact fun h=>h
 |cons x _ ih=>rintro t ⟨u,v,h1,D,h3⟩;exact⟨u,v,h1,ih D,h3⟩
 |swap x y l=>rintro t ⟨u,v,h1,⟨a,b,D,h3,rfl⟩,rfl⟩;exact⟨a,u+b,D,⟨u,b,h1,h3,rfl⟩,by omega⟩
 |trans _ _ i1 i2=>exact fun h=>i2 (i1 h)
theorem PH{s u:fL}(hs:um s)(hu:um u):(AH s u).g_=s.g_+u.g_/\(AH s u).gU=s.gU+u.gU:=by
 have h1:=hs.1;have D:=hs.2.1;have h3:=hs.2.2;have h4:=hu.1;have b:=hu.2.1;have e:=hu.2.2
 exact⟨xV (by omega) (by omega),xV (by omega) (by omega)⟩
theorem Vf{A B:List fL}(j:B4 A)(m:B4 B)(t:Int):mj (t_ A B) t↔∃u v,mj A u/\mj B v/\t=u+v:=by
 constructor
 · rintro ⟨x,hx,h1,D⟩
   obtain⟨s,hs,hx⟩:=List.mem_flatMap.1 hx
   obtain⟨u,hu,rfl⟩:=fO.1 hx
   have e:=PH (j s hs) (m u hu)
   have o:=(j s hs).2.2;have p:=(m u hu).2.2
   by_cases q:t-u.g_<=s.gU
   · exact⟨t-u.g_,u.g_,⟨s,hs,by omega,q⟩,⟨u,hu,gL _,p⟩,by omega⟩
   · exact⟨s.gU,t-s.gU,⟨s,hs,o,gL _⟩,⟨u,hu,by omega,by omega⟩,by omega⟩
 · rintro ⟨a,b,⟨s,hs,h1,D⟩,⟨u,hu,h3,h4⟩,rfl⟩
   have e:=PH (j s hs) (m u hu)
   exact⟨AH s u,List.mem_flatMap.2 ⟨s,hs,fO.2 ⟨u,hu,rfl⟩⟩,by omega,by omega⟩
theorem xl.oI{W:List (List fL)}(h:xl W){y:List fL}(hy:y∈W):B4 y:=fun s hs=>h.2 y hy s hs
def J7(y:List fL):Prop:=tF y/\B4 y
theorem M8.DW{A B l:List fL}(h:M8 A B l):J7 l/\∀t,mj l t↔∃u v,mj A u/\mj B v/\t=u+v:=by
 obtain⟨rfl,_,h3,h4⟩:=h
 have a:=BE (h3.oI (y:=A) (by simp))
 have b:=BE (h3.oI (y:=B) (by simp))
 have p:=BE h4
 refine⟨⟨p.1,p.2.1⟩,fun t=>(p.2.2 t).trans ((Vf a.2.1 b.2.1 t).trans ?_)⟩
 simp only[a.2.2,b.2.2]
theorem Iz.DW{A B l:List fL}(h:Iz A B l):J7 l/\∀t,mj l t↔mj A t\/mj B t:=by
 obtain⟨rfl,_,h3⟩:=h
 have p:=BE (l:=A++B) fun s hs=>by
  rcases fI.1 hs with hs|hs
  · exact h3.oI (y:=A) (by simp) s hs
  · exact h3.oI (y:=B) (by simp) s hs
 exact⟨⟨p.1,p.2.1⟩,fun t=>(p.2.2 t).trans mj.append⟩
theorem uX.DW{W:List (List fL)}{X:List fL}(h:uX W X)(e:∀y∈W,J7 y):J7 X/\∀t,mj X t↔ua W t:=by
 induction h with
 |one x=>exact⟨e x (by simp),fun t=>⟨fun h=>⟨t,0,h,rfl,by omega⟩,fun⟨u,v,h1,D,h3⟩=>by
   have D:v=0:=D
   rw[show t=u by omega];exact h1⟩⟩
 |@snoc W J y J' _ j ih=>
  have i:=ih fun y hy=>e y (fC _ hy)
  have a:=j.DW
  refine⟨a.1,fun t=>(a.2 t).trans (Iff.trans ?_ ua.append.symm)⟩
  constructor
  · rintro ⟨u,v,h1,D,rfl⟩;exact⟨u,v,(i.2 u).1 h1,⟨v,0,D,rfl,by omega⟩,rfl⟩
  · rintro ⟨u,v,h1,⟨a,b,D,h3,rfl⟩,rfl⟩
    have h3:b=0:=h3
    exact⟨u,a,(i.2 u).2 h1,D,by omega⟩
theorem PI{K:j8}{w:Nat}{x:ic}(h:xl [oO K (wo x w)]):J7 (wT K w x)/\∀t,mj (wT K w x) t↔mj (oO K (wo x w)) t:=by
 have p:=BE (h.oI (y:=oO K (wo x w)) (by simp))
 exact⟨⟨p.1,p.2.1⟩,p.2.2⟩
theorem sum_empty{W:List (List fL)}(h:[]∈W){t:Int}:¬ua W t:=by
 induction W generalizing t with
 |nil=>cases h
 |cons y W ih=>
  rintro ⟨u,v,h1,D,_⟩
  rcases fM.1 h with rfl|h
  · exact mj.nil h1
  · exact ih h D
theorem sW.DW{K:j8}{M:List ic}(j:M≠[]){l:List Nat}{S:List fL}{p:Bool}(h:sW K M l S p):J7 S/\(∀t,mj S t↔∃w∈l,ua (M.map (wT K w)) t)/\p=l.any fun w=>M.any (J6 w):=by
 induction h with
 |nil=>exact⟨⟨trivial,fun s h=>by cases h⟩,fun t=>⟨fun h=>absurd h mj.nil,fun⟨w,h,_⟩=>by cases h⟩,rfl⟩
 |@skip l S p w _ he ih=>
  obtain⟨i1,i2,i3⟩:=ih
  refine⟨i1,fun t=>(i2 t).trans ⟨fun⟨w,h1,D⟩=>⟨w,fC _ h1,D⟩,fun⟨w',h1,D⟩=>?_⟩,by rw[List.any_append,<-i3];simp⟩
  rcases fI.1 h1 with h1|h1
  · exact⟨w',h1,D⟩
  · rw[List.mem_singleton.1 h1]at D
    obtain⟨x,hx,e⟩:=he
    exact absurd D (sum_empty (e▸fO.2 ⟨x,hx,rfl⟩))
 |@add l S X S' p w _ jB b hf hu ih=>
  obtain⟨i1,i2,i3⟩:=ih
  have f:uX (M.map (wT K w)) X:=by
   rcases hf with⟨h,_⟩|h
   · exact absurd (List.map_eq_nil_iff.1 h) j
   · exact h
  have n:=f.DW fun y hy=>by
   obtain⟨x,hx,rfl⟩:=fO.1 hy
   exact(PI (b x hx)).1
  have u:=hu.DW
  refine⟨u.1,fun t=>(u.2 t).trans ?_,by rw[List.any_append,<-i3];simp⟩
  rw[i2,n.2]
  constructor
  · rintro(⟨w',h1,D⟩|h)
    · exact⟨w',fC _ h1,D⟩
    · exact⟨w,by simp,h⟩
  · rintro ⟨w',h1,D⟩
    rcases fI.1 h1 with h1|h1
    · exact .inl ⟨w',h1,D⟩
    · rw[List.mem_singleton.1 h1]at D;exact .inr D
theorem sW.same{K:j8}{M j:List ic}(m:M≠[])(O:M.Perm j){l:List Nat}{S S':List fL}{p u:Bool}(h:sW K M l S p)(y:sW K j l S' u):S=S'/\p=u:=by
 have o:j≠[]:=fun e=>m (List.Perm.eq_nil (e▸O))
 obtain⟨C,n2,E⟩:=h.DW m
 obtain⟨z,A,B⟩:=y.DW o
 refine⟨C.1.eq z.1 fun t=>(n2 t).trans (Iff.trans ?_ (A t).symm),?_⟩
 · exact⟨fun⟨w,a,b⟩=>⟨w,a,b.perm (O.map _)⟩,fun⟨w,a,b⟩=>⟨w,a,b.perm (O.symm.map _)⟩⟩
 · rw[E,B]
   congr 1;funext w
   rw[Bool.eq_iff_iff,List.any_eq_true,List.any_eq_true]
   exact⟨fun⟨x,a,b⟩=>⟨x,O.mem_iff.1 a,b⟩,fun⟨x,a,b⟩=>⟨x,O.mem_iff.2 a,b⟩⟩
theorem Vg{C:j4}{F:ji}{r:qz}{M:List ic}(hc:nP C r=0)(b:M.map some=r.iB.l.map (tV F)):M≠[]:=by
 rintro rfl
 have h1:=(DU hc).1.1.1
 have D:r.iB.l=[]:=List.map_eq_nil_iff.1 b.symm
 rw[D]at h1;simp at h1
end
end Sw
namespace Sw
noncomputable section
open Go Go.RowKit
def HF(l:List ja)(c:sE):Prop:=0<=c.mA/\c.mA<((l.length:Nat):Int)/\∀x,l[c.mA.toNat]?=some x->(x.jV=true->¬(c.fX<0\/0<c.fX))/\(x.jV=false->¬(c.fX<x.g_\/x.gU<c.fX))
def I1(K:j8)(L:List Int):Prop:=(∀o∈((0:Int)::L),¬(o< -2199023255552\/2199023255552<o))/\∀(i j:Nat) (r:SV Int) (w a b:Int),K.gz.l[i]?=some r->r.l[j]?=some w->((0:Int)::L)[i]?=some a->((0:Int)::L)[j]?=some b->¬(w<gn .i64 (b-a))
structure ur(F:ji)(H:lN):Prop where
 KQ:rY F
 w0:0<=H.ig
 w1:H.ig<=((F.gb.l.length:Nat):Int)
 Jx:q_ F H.ig.toNat
 N2:H.gB.l.length=F.fq.fp.l.length
 ZN:H.fZ.l.length=F.e6.l.length
 V_:I1 F.fq H.gB.l
 ch:∀(i:Nat) (c:sE) (x:ic),H.fZ.l[i]?=some c->F.e6.l[i]?=some x->HF (wo x H.ig.toNat) c
def B5(H:lN)(o:ja)(c:sE):Int:=if o.jV then 0 else if 0<=o.lh then gn .i64 (c.fX+(H.gB.l[o.lh.toNat]?).getD 0)else c.fX
def Q9(F:ji)(H:lN)(k:Nat)(n:Int)(out:Bool):Prop:=∃(x:ic) (c:sE) (o:ja),F.e6.l[k]?=some x/\H.fZ.l[k]?=some c/\(wo x H.ig.toNat)[c.mA.toNat]?=some o/\n=B5 H o c/\out=o.jV
theorem Ti{K:j8}(hc:tQ K){i j:Nat}(hi:i<=K.fp.l.length)(hj:j<=K.fp.l.length):∃(r:SV Int) (w:Int),K.gz.l[i]?=some r/\r.l[j]?=some w/\IB K i j=w/\-2199023255552<=w/\w<=2199023255552:=by
 have h1:=hc.V0
 have hr:=ff (l:=K.gz.l) (i:=i) (by omega)
 have b:=hc.row _ _ hr
 have hw:=ff (l:=(K.gz.l[i]'(by omega)).l) (i:=j) (by rw[b.1];omega)
 have hb:=b.2.2 _ (cs hw)
 exact⟨_,_,hr,hw,Hg hr hw,by omega,by omega⟩
theorem Tj{F:ji}{H:lN}(h:ur F H){k:Nat}{n:Int}{x:ic}(hx:F.e6.l[k]?=some x)(hn:Q9 F H k n false):mj (oO F.fq (wo x H.ig.toNat)) n:=by
 obtain⟨x',c,o,h1,D,h3,rfl,p⟩:=hn
 rw[hx]at h1;obtain rfl:=fS h1
 have y:=h.ch k c x D hx
 have S:=(y.2.2 o h3).2 p.symm
 have hm:=cs h3
 have A:uv F.fq o:=by
  obtain⟨os,b,_⟩:=h.Jx x (cs hx)
  rw[F2 b]at hm
  exact h.KQ.Vb (cs hx) (cs b) o hm
 obtain⟨s1,s2,W,X,aa⟩:=A.2 p.symm
 refine⟨pX F.fq o.lh ⟨o.g_,o.gU⟩,fO.2 ⟨o,f_.2 ⟨hm,by rw[<-p];rfl⟩,rfl⟩,?_⟩
 unfold B5
 rw[<-p]
 simp only[Bool.false_eq_true,if_false]
 by_cases hs:0<=o.lh
 · rw[if_pos hs]
   obtain⟨v,K⟩:∃v:Nat,o.lh=.ofNat v:=⟨o.lh.toNat,(gI hs).symm⟩
   have M:((v:Nat):Int)=o.lh:=K.symm
   have m:v<H.gB.l.length:=by rw[h.N2];omega
   have b:=ff m
   have B:o.lh.toNat=v:=by omega
   have u:(o.lh+1).toNat=v+1:=by omega
   rw[B,b]
   obtain⟨L,w0,a1,a2,a3,a4,a5⟩:=Ti h.KQ.R5 (i:=0) (j:=v+1) (by omega) (by rw[<-h.N2];omega)
   obtain⟨r1,w1,b1,b2,J,N,R⟩:=Ti h.KQ.R5 (i:=v+1) (j:=0) (by rw[<-h.N2];omega) (by omega)
   have g0:((0:Int)::H.gB.l)[0]?=some 0:=rfl
   have g1:((0:Int)::H.gB.l)[v+1]?=some (H.gB.l[v]'m):=by rw[List.getElem?_cons_succ];exact b
   have C:=h.V_.2 0 (v+1) L w0 _ _ a1 a2 g0 g1
   have E:=h.V_.2 (v+1) 0 r1 w1 _ _ b1 b2 g1 g0
   have hr:=h.V_.1 _ (cs g1)
   generalize H.gB.l[v]'m=z at C E hr
   rw[xV (by omega) (by omega)]at C E
   show _<=gn .i64 (c.fX+z)/\gn .i64 (c.fX+z)<=_
   have e:pX F.fq o.lh ⟨o.g_,o.gU⟩=⟨gn .i64 (o.g_-w1),gn .i64 (o.gU+w0)⟩:=by
    unfold pX;rw[if_neg (by omega),u,a3,J]
   rw[e]
   show gn .i64 (o.g_-w1)<=_/\_<=gn .i64 (o.gU+w0)
   rw[xV (z:=c.fX+z) (by omega) (by omega),xV (z:=o.g_-w1) (by omega) (by omega),xV (z:=o.gU+w0) (by omega) (by omega)]
   omega
 · rw[if_neg hs]
   have e:pX F.fq o.lh ⟨o.g_,o.gU⟩=⟨o.g_,o.gU⟩:=by unfold pX;rw[if_pos (by omega)]
   rw[e]
   exact⟨by show o.g_<=c.fX;omega,by show c.fX<=o.gU;omega⟩
inductive yI(F:ji)(H:lN):List ic->Int->Bool->Prop where
 |nil:yI F H [] 0 false
 |snoc {L:List ic} {s n:Int} {b c:Bool} {k:Nat} {x:ic}:yI F H L s b->F.e6.l[k]?=some x->Q9 F H k n c->yI F H (L++[x]) (gn .i64 (s+n)) (b||c)
theorem Vh(J:List fL)(x:fL):sj J x≠[]:=by
 unfold sj
 split
 · simp
 · rename_i y hy
   split
   · intro h
     have:=congrArg List.length h
     rw[List.length_set]at this
     obtain⟨D,_⟩:=fe.1 hy
     have h3:J.length=0:=this
     omega
   · simp
theorem Vi{l:List fL}(h:uK l=[]):l=[]:=by
 unfold uK jn at h
 have D:=FX l
 rcases List.eq_nil_or_concat (wI l)with e|⟨k,x,e⟩
 · rw[e]at D;exact fP D.symm
 · rw[e,List.concat_eq_append,List.foldl_append]at h
   exact absurd h (Vh _ _)
theorem sW.each{K:j8}{M:List ic}{l:List Nat}{S:List fL}{p:Bool}(h:sW K M l S p){w:Nat}(hw:w∈l):(∃x∈M,wT K w x=[])\/∀x∈M,xl [oO K (wo x w)]:=by
 induction h with
 |nil=>cases hw
 |@skip l S p w' _ he ih=>
  rcases fI.1 hw with hw|hw
  · exact ih hw
  · rw[List.mem_singleton.1 hw];exact .inl he
 |@add l S X S' p w' _ jB b hf hu ih=>
  rcases fI.1 hw with hw|hw
  · exact ih hw
  · rw[List.mem_singleton.1 hw];exact .inr b
theorem yI.out{F:ji}{H:lN}{L:List ic}{s:Int}{b:Bool}(h:yI F H L s b)(hb:b=true):∃x∈L,J6 H.ig.toNat x=true:=by
 induction h with
 |nil=>cases hb
 |@snoc L s n b c k x _ hx hn ih=>
  rcases Bool.or_eq_true_iff.1 hb with hb|hb
  · obtain⟨y,hy,e⟩:=ih hb
    exact⟨y,fC _ hy,e⟩
  · obtain⟨x',m,o,h1,D,h3,h4,j⟩:=hn
    rw[hx]at h1;obtain rfl:=fS h1
    exact⟨x,by simp,List.any_eq_true.2 ⟨o,cs h3,j.symm.trans hb⟩⟩
theorem yI.oO{F:ji}{H:lN}(hH:ur F H){L:List ic}{s:Int}{b:Bool}(h:yI F H L s b)(hb:b=false):∀x∈L,Sw.oO F.fq (wo x H.ig.toNat)≠[]:=by
 induction h with
 |nil=>intro x hx;cases hx
 |@snoc L s n b c k x _ hx hn ih=>
  rw[Bool.or_eq_false_iff]at hb
  intro y hy
  rcases fI.1 hy with hy|hy
  · exact ih hb.1 y hy
  · rw[List.mem_singleton.1 hy]
    obtain⟨_,rfl⟩:=hb
    intro e
    have:=Tj hH hx hn
    rw[e]at this
    exact mj.nil this
theorem yI.sum{F:ji}{H:lN}(hH:ur F H){L:List ic}{s:Int}{b:Bool}(h:yI F H L s b)(hb:b=false)(hl:L.length<=100)(j:∀x∈L,xl [Sw.oO F.fq (wo x H.ig.toNat)]):ua (L.map (wT F.fq H.ig.toNat)) s/\-(((L.length:Nat):Int)*70368744177664)<=s/\s<=((L.length:Nat):Int)*70368744177664:=by
 induction h with
 |nil=>exact⟨rfl,by decide,by decide⟩
 |@snoc L s n b c k x _ hx hn ih=>
  rw[Bool.or_eq_false_iff]at hb
  obtain⟨hb,rfl⟩:=hb
  rw[List.length_append]at hl
  have hl:L.length+1<=100:=hl
  obtain⟨i1,i2,i3⟩:=ih hb (by omega) fun y hy=>j y (fC _ hy)
  have o:=Tj hH hx hn
  have hk:=j x (by simp)
  have hw:=((PI hk).2 n).2 o
  obtain⟨p,m,h1,D⟩:=o
  have h3:=hk.oI (y:=Sw.oO F.fq (wo x H.ig.toNat)) (by simp) p m
  have h4:=h3.1;have u:=h3.2.1
  have e:gn .i64 (s+n)=s+n:=xV (by omega) (by omega)
  rw[e]
  refine⟨?_,?_,?_⟩
  · rw[List.map_append]
    exact ua.append.2 ⟨s,n,i1,⟨n,0,hw,rfl,by omega⟩,rfl⟩
  · rw[List.length_append];show -(((L.length+1:Nat):Int)*_)<=_;omega
  · rw[List.length_append];show _<=((L.length+1:Nat):Int)*_;omega
theorem Vj{F:ji}{w n:Nat}(hw:w<n)(h:q_ F w):w∈vk F n:=by
 unfold vk
 exact f_.2 ⟨gJ.2 hw,by simp[h]⟩
theorem KR{C:j4}{F:ji}{H:lN}{r:qz}{M:List ic}{S:List fL}{p:Bool}(hH:ur F H)(hc:nP C r=0)(m:M.map some=r.iB.l.map (tV F))(hT:sW F.fq M (vk F (F.gb.l.length+1)) S p){s:Int}{b:Bool}(j:yI F H M s b):(b=true->p=true)/\(b=false->mj S s):=by
 have jB:=Vg hc m
 have hw:H.ig.toNat∈vk F (F.gb.l.length+1):=Vj (by have:=hH.w0;have:=hH.w1;omega) hH.Jx
 obtain⟨_,n2,y⟩:=hT.DW jB
 constructor
 · intro hb
   obtain⟨x,hx,e⟩:=j.out hb
   rw[y]
   exact List.any_eq_true.2 ⟨_,hw,List.any_eq_true.2 ⟨x,hx,e⟩⟩
 · intro hb
   have u:=j.oO hH hb
   have o:∀x∈M,xl [Sw.oO F.fq (wo x H.ig.toNat)]:=by
    rcases hT.each hw with⟨x,hx,e⟩|h
    · exact absurd (Vi e) (u x hx)
    · exact h
   have hl:M.length<=100:=by
    have h1:=congrArg List.length m
    rw[List.length_map,List.length_map]at h1
    have:=(DU hc).1.1.2
    omega
   exact(n2 s).2 ⟨_,hw,(j.sum hH hb hl o).1⟩
end
end Sw
namespace Sw
noncomputable section
open Go Go.RowKit
section
variable {e:Env}{fm:Fm}{I:Tm}{ds:List Deferred}{O:Ht}{G:Nat}{gS:List Nat}{Q:St->Prop}{all:List Oper}{d:Tmp}{ty:TypeId}{pos:String}{j0:Array Edge}
end
end
end Sw
namespace Sw
noncomputable section
open Go Go.RowKit
section
variable {e:Env}{fm:Fm}{I:Tm}{ds:List Deferred}{O:Ht}{G:Nat}{gS:List Nat}{Q:St->Prop}{all:List Oper}{d:Tmp}{ty:TypeId}{pos:String}{j0:Array Edge}
theorem WC.Tk{α:Type}{enc:α->List Value}{st xt el:TypeId}{x y:Operand}{n m:Nat}{z w:Value}{inf:TypeInfo}{m0:gi}(b j:List α)(hl:e.low=0)(hx:(fV x).run I=.slice (some ⟨m,0,none⟩) b.length b.length)(hy:(fV y).run I=w)
 (hb:O.get m=some (.cells (b.flatMap enc) m0)) (M:m0.mG=none) (R:m<G) (hu:e.T.jh st=some (.slice el)) (hs:e.T.size el=some n) (S:e.T.zero el=some z) (hi:e.T.kd el=some inf)
 (L:pE e.T xt w=some (j.length,false)) (u:lL O.get (j.length*n) w=some (j.flatMap enc)) (F:uD n w=true) (hlen:∀y∈b++j,(enc y).length=n) (p:(j.flatMap enc).all one=true) (h0:0<b.length)
 (b1:(b.length+j.length)*inf.bytes<=70368744177664) (b2:inf.bytes<=1073741824) (X:b.length+j.length<=70368744177664)
 {qV:Array TypeId} (W:qV=#[st,xt]) (q:∀(J:SV α) eZ e5,J.l=b++j->G<=e5->HE G O eZ->gx enc n eZ e5 J->Q ⟨I.set d J.v,ds,eZ,e5,gS⟩):
 WC e fm (iJ all ⟨some d,.call {callee:=.builtin .append,args:=#[x,y],argTypes:=qV},ty,pos,j0,none⟩) ⟨I,ds,O,G,gS⟩ Q:=by
 subst W
 have B:Nat.ble ((b.length+j.length)*inf.bytes) 70368744177664=true:=gh b1
 have C:Nat.ble (b.length+j.length) 70368744177664=true:=gh (by omega)
 have o:(b++j).length=b.length+j.length:=List.length_append
 cases N:j with
 |nil=>
  have e1:jN e.T O.get st xt (.slice (some ⟨m,0,none⟩) b.length b.length) w G=some (.slice (some ⟨m,0,none⟩) b.length b.length,[],0):=by
   rw[N]at u L B C p
   simp only[List.length_nil,List.flatMap_nil,Nat.add_zero,Nat.zero_mul]at u L B C p
   have A:Nat.ble b.length b.length=true:=gh (e9 _)
   simp only[jN,hu,hs,S,hi,L,lX,cond_false,F,cond_true,u,Option.bind_some,p,B,Nat.ble_eq_true_of_le b2,C,Bool.and_true,A,Nat.add_zero,Nat.zero_mul]
  refine .Kq d (jN e.T O.get st xt (.slice (some ⟨m,0,none⟩) b.length b.length) w G) hl (fun _ _ _=>?_) e1 ?_
  · rw[<-hx,<-hy];rfl
  · refine q ⟨_,b⟩ _ _ (by rw[N,List.append_nil]) (e9 _) (HE.refl _ _) ⟨fun y hy=>hlen y (fC _ hy),.inr ⟨m,_,m0,rfl,h0,R,hb,e9 _,.inl M⟩,by show b.length<_;omega⟩
 |cons a K=>
  have MB:0<j.length:=by rw[N];simp
  have A:Nat.ble (b.length+j.length) b.length=false:=by
   cases hb:Nat.ble (b.length+j.length) b.length with
   |false=>rfl
   |true=>have:=fa hb;omega
  have E:(b.flatMap enc).length=b.length*n:=nk b fun x hx=>hlen x (fC _ hx)
  have hold:yM (b.flatMap enc) 0 (b.length*n)=some (b.flatMap enc):=by
   cases hk:b.length*n with
   |zero=>rw[hk]at E;rw[List.eq_nil_of_length_eq_zero E];rfl
   |succ k=>
    show lH (k+1) ((b.flatMap enc).drop 0)=_
    rw[List.drop_zero,<-hk];exact vI _ _ E
  have e1:jN e.T O.get st xt (.slice (some ⟨m,0,none⟩) b.length b.length) w G=some (.slice (some ⟨G+1,0,none⟩) (b.length+j.length) (b.length+j.length),[(G,some (jM.group [⟨G+1,0,(b.flatMap enc++j.flatMap enc).length⟩])),(G+1,some (jM.cells (b.flatMap enc++j.flatMap enc) ⟨false,some G,0,n⟩))],2):=by
   simp only[jN,hu,hs,S,hi,L,lX,cond_false,F,cond_true,u,Option.bind_some,p,B,Nat.ble_eq_true_of_le b2,C,Bool.and_true,A]
   rw[tw,hb]
   simp only[hold,Option.bind_some,M]
  refine .Kq d (jN e.T O.get st xt (.slice (some ⟨m,0,none⟩) b.length b.length) w G) hl (fun _ _ _=>?_) e1 (q ⟨_,b++j⟩ _ _ rfl (gv _ _) ((HE.set _ _ (e9 _)).trans (HE.set _ _ (e_ _)) (e9 _)) ?_)
  · rw[<-hx,<-hy];rfl
  · refine⟨hlen,.inr ⟨G+1,_,⟨false,some G,0,n⟩,by rw[o],by omega,by omega,?_,by rw[o];exact Nat.le_refl _,.inr rfl⟩,by rw[o];omega⟩
    rw[List.flatMap_append]
    exact Tr.ia ..
end
def Wa(b:Bool)(P:Prop)(G:Nat)(O:Ht):Value->Ht->Nat->Prop:=fun v eZ e5=>(∃z:Int,v=(bif b then .int .i64 z else undef)/\(z=0↔P))/\G<=e5/\HE G O eZ
theorem Wa.off{b:Bool}{P:Prop}{G:Nat}{O:Ht}(h:b=false):Wa b P G O undef O G:=by
 refine⟨?_,e9 _,HE.refl _ _⟩
 by_cases j:P
 · exact⟨0,by rw[h];rfl,⟨fun _=>j,fun _=>rfl⟩⟩
 · exact⟨1,by rw[h];rfl,⟨fun e=>absurd e (by decide),fun e=>absurd e j⟩⟩
end
end Sw
