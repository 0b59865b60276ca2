/- A part of the proof that the law returns true for every input that its row speaks of. No condition is added. -/
import Derived.Test.YtecbgehgkpgbmaaGreatDoorSwAL
import Derived.Test.YtecbgehgkpgbmaaGreatDoorSwAG
namespace Sw
noncomputable section
open Go Go.Proofs Go.RowKit
set_option maxRecDepth 100000
set_option maxHeartbeats 1600000
theorem CK.aao{C:ka}(h:CK C):∀x∈C.fD.l,(Cf (gy .i64 ((.ofNat (C.iD.l.length))-(1)))) x:=h.1.1.1.1.1.1.1.1.1.1.2
section
variable {C:ka}
theorem Vt(h:¬wg C):mO C=2:=if_pos h
theorem Tt(h:¬¬wg C)(D:¬BP C):mO C=70:=(if_neg h).trans (if_pos D)
theorem Tu(h:¬¬wg C)(D:¬¬BP C)(h3:¬CK C):mO C=71:=(if_neg h).trans ((if_neg D).trans (if_pos h3))
theorem Vu(h:¬¬wg C)(D:¬¬BP C)(h3:¬¬CK C)(h4:qC (C.n_.l.map .step)≠0):mO C=qC (C.n_.l.map .step):=(if_neg h).trans ((if_neg D).trans ((if_neg h3).trans (if_pos h4)))
theorem Tv(h:¬¬wg C)(D:¬¬BP C)(h3:¬¬CK C)(h4:¬qC (C.n_.l.map .step)≠0)(b:¬∀d∈C.fD.l,(Ds C (Jh C)) d):mO C=72:=(if_neg h).trans ((if_neg D).trans ((if_neg h3).trans ((if_neg h4).trans (if_pos b))))
theorem Vv(h:¬¬wg C)(D:¬¬BP C)(h3:¬¬CK C)(h4:¬qC (C.n_.l.map .step)≠0)(b:¬¬∀d∈C.fD.l,(Ds C (Jh C)) d):mO C=0:=(if_neg h).trans ((if_neg D).trans ((if_neg h3).trans ((if_neg h4).trans (if_neg b))))
end
theorem Oa:ex.T.agg 245=some false:=U
theorem yh:ex.T.agg 33=some true:=U
theorem Tw:ex.T.size 245=some 1:=U
theorem wk:ex.T.size 33=some 16:=U
theorem Tx:ex.T.zero 245=some (.map none):=U
theorem Rq(C:ka)(d:kc)(m j b u:Nat)(y:List MapEntry)(e:List mo)(R:Cf (gy .i64 ((.ofNat (C.iD.l.length))-(1))) d)(hH:uj 17 d.jP.l)(O:Ht)(G:Nat)(N:pc O G C)(hd:lZ O G d)(E:O.get m=some (.cells (iT C) gm.plain))(K:m<G)(B:O.get j=some (.cells [.map (some b)] gm.plain))(J:j<G)(F:O.get b=some (.map y u))(L:b<G)(z:kU (fun x:mo=>.agg (qd x).toArray) e (fun _=>.bool true) y)(A:e.Nodup):WF ex 101 [.agg (iS d).toArray,pt m 0,pt j 0] O G (fL G O (gi (Ds C e d))):=by
 refine wd Tryz.f101 9 [.tmp 4] fun hE=>sr<|oB (.agg (iS d).toArray) (iS d) fun jy iI ia=>?_
 have lq:=hE.trans iI
 refine oN 1<|sr<|WO.cons (WC.iz m (0) (iT C) U yh wk (iI.get E K) rfl<|WO.cons (WC.iz G (0) (iS d) U zv oz ia rfl<|oZ j (0) (.map (some b)) Oa (iI.get B J) rfl<|WO.cons (WC.call 8 102 ([.agg (iT C).toArray,.agg (iS d).toArray,.map (some b)]) kf ((Ro C d b _ _ e R hH jy (G+1) (N.mono lq) (hd.mono lq) (iI.get F L) om z A).mono ?_))))
 rintro _ W X ⟨⟨o,rfl,M⟩,S,p⟩
 refine oW 1 ⟨rfl,rfl,[.bool o],U,?_⟩
 refine⟨⟨o,rfl,?_⟩,od,(lq.trans p)⟩
 exact M
theorem Tz(qB:yM)(qV:wR)(C:ka)(O:Ht)(G:Nat)(e:pc O G C)(hlen:C.n_.l.length<=2932031007403):WF ex 52 [.agg (iT C).toArray] O G (fL G O (fun v=>v=Y (mO C))):=by
 refine wd Tryz.f52 44 [.tmp 2] fun hE=>sr<|oB (.agg (iT C).toArray) (iT C) fun jy iI ia=>?_
 have lq:=hE.trans iI
 refine oN 1<|WP.seq<|WP.block<|sr<|WO.cons (WC.iz G (0) (iT C) U yh wk ia rfl<|WO.cons (WC.call 8 96 ([.agg (iT C).toArray]) kf ((Xj C jy (G+1) (e.mono lq)).mono ?_)))
 rintro _ aY a6 ⟨⟨nZ,rfl,rZ⟩,bA,ak⟩
 have B:=lq.trans ak
 have ag:=ak.get ia
 refine oq 9 (nN rZ) fun bJ a7=>oN 1<|cq a7 (fun bf=>?_) (fun bf=>?_)
 ·
  refine sr<|oW 1 ⟨rfl,rfl,[Y 2],U,?_⟩
  exact⟨congrArg (Value.int .i64) (show mO C=2 from Vt (by assumption)).symm,od,B⟩
 ·
  refine sr<|WO.cons (WC.iz G (0) (iT C) U yh wk ag rfl<|WO.cons (WC.call 12 97 ([.agg (iT C).toArray]) kf ((U8 qB qV C aY (a6) (e.mono B)).mono ?_)))
  rintro _ aM aP ⟨⟨uL,rfl,uC⟩,bB,al⟩
  have E:=B.trans al
  have ah:=al.get ag
  refine oq 13 (nN uC) fun bK a8=>oN 1<|cq a8 (fun bg=>?_) (fun bg=>?_)
  ·
   refine sr<|oW 1 ⟨rfl,rfl,[Y 70],U,?_⟩
   exact⟨congrArg (Value.int .i64) (show mO C=70 from Tt (by assumption) (by assumption)).symm,od,E⟩
  ·
   refine sr<|WO.cons (WC.iz G (0) (iT C) U yh wk ah rfl<|WO.cons (WC.call 16 98 ([.agg (iT C).toArray]) kf ((Rk C (PW (fu.1 (by assumption:¬¬wg C))) aM (aP) (e.mono E)).mono ?_)))
   rintro _ aN aQ ⟨⟨bL,rfl,a_⟩,bC,an⟩
   have F:=E.trans an
   have ai:=an.get ah
   refine oq 17 (nN a_) fun bM bc=>oN 1<|cq bc (fun bh=>?_) (fun bh=>?_)
   ·
    refine sr<|oW 1 ⟨rfl,rfl,[Y 71],U,?_⟩
    exact⟨congrArg (Value.int .i64) (show mO C=71 from Tu (by assumption) (by assumption) (by assumption)).symm,od,F⟩
   ·
    refine WP.skip<|WP.seq<|sr<|oX 1 ?_
    obtain⟨a44,aW,aq⟩:=e.n_.1.shape
    have br:=e.n_.1.2.2
    refine oZ G (0+8) (.slice a44 (C.n_.l.length) aW) vu ai (by rw[<-aq];rfl)<|WO.cons (WC.call 20 99 ([C.n_.v]) (fun _ _ _=>by(try rw[aq]);kernel_rfl) ((Xr C.n_ aN (aQ) (e.n_.mono (fun _ h he hn=>h.mono he hn) F) hlen).mono ?_))
    rintro _ pU o4 ⟨rfl,CG,oY⟩
    have ae:=F.trans oY
    refine oN 1<|sr<|oX 1 ?_
    refine oq 22 (qS (qC (C.n_.l.map .step)) 0) fun bN bd=>WO.nil<|cq bd (fun bj=>?_) (fun bj=>?_)
    ·
     refine sr<|oW 2 ⟨rfl,rfl,[Y (qC (C.n_.l.map .step))],U,?_⟩
     exact⟨congrArg (Value.int .i64) (show mO C=qC (C.n_.l.map .step)from Vu (by assumption) (by assumption) (by assumption) (by assumption)).symm,od,ae⟩
    ·
     refine WP.skip<|sr<|WO.cons (WC.makeMap rfl ?_)
     obtain⟨bE,ar,tc,aG⟩:=mapped pU (o4) (.map [] 0)
     rw[ar];clear ar
     refine oA [.map none] Tx fun bG J aH=>?_
     refine oS (o4+1) (0) (.map (some o4)) [.map (some o4)] [.map (some o4)] Tw rfl rfl aH fun bH aJ aI ao=>?_
     have aj:=(ao G om).trans (J.get (tc.get (oY.get ai)))
     refine WO.nil<|WP.seq<|sr<|oX 1 ?_
     obtain⟨aB,aC,K⟩:=e.jY.shape
     have bs:=e.jY.2.2
     refine oZ G (0+2) (.slice aB (C.jY.l.length) aC) Di aj (by rw[<-K];rfl)<|oN 2<|WP.block ?_
     refine mu [1,3,26,27,28] (fun m hs ns vs=>∃(b:Nat) (A:List MapEntry) (ad:Nat),b+m=C.jY.l.length/\vs=[pt G 0,pt (o4+1) 0,.slice aB (C.jY.l.length) aC,Y (.ofNat (C.jY.l.length)),Y (.ofNat b)]/\o4+1+1<=ns/\HE G O hs/\hs.get G=some (.cells (iT C) gm.plain)/\hs.get o4=some (.map A ad)/\hs.get (o4+1)=some (.cells [.map (some o4)] gm.plain)/\(kU (fun x:mo=>.agg (qd x).toArray) (lC ((C.jY.l.take b).map yg)) (fun _=>.bool true) A)) ?_ (C.jY.l.length) ?_
     ·
      rintro bI aO y _ ⟨b,A,ad,bk,rfl,bD,o,L,aa,ab,af⟩ bu
      refine sr ?_
      refine oq 29 (kT b C.jY.l.length) fun bw aR=>WO.nil<|WP.seq<|cq aR (fun aU=>?_) (fun aU=>?_)
      ·
       refine WP.skip<|WP.seq<|WP.block<|sr ?_
       have z:b<C.jY.l.length:=by omega
       refine WO.cons (WC.iy K e.jY (b) J_ tQ (z) ?_)
       obtain⟨j,X⟩:=gE z
       refine WO.cons (WC.ly K (e.jY.mono o nR) X BR tQ<|oA [Y 0,Y 0,Y 0,Y 0] K4 fun bn p aw=>?_)
       refine oS y (0) (.agg (mH j).toArray) (mH j) (mH j) tQ rfl rfl aw fun bo ay N u=>?_
       have R:=(u (o4+1) om).trans (p.get ab)
       refine WO.nil<|WP.region<|oZ (o4+1) (0) (.map (some o4)) Oa R rfl<|oX 1<|oZ y 0 (Y j.lN) fy N rfl<|oX 1<|oZ y (0+1) (Y j.qa) fy N rfl<|oX 1<|WO.cons (WC.mapUpdate (g:=(fun _=>.bool true)) (g':=(fun _=>.bool true)) o4 (⟨j.lN,j.qa⟩:mo) (.bool true) rfl U U U Jd Jc ((u o4 om).trans (p.get aa)) af (rf _) rfl (fun _ _=>rfl) ?_)
       rintro au aE bp az ax S av
       refine WO.nil<|WP.region<|ov 38 (Y (.ofNat (b+1))) ?_ (fun _ _ _=>by rw[<-gQ (show b+1<9223372036854775808 by omega)];kernel_rfl)
       refine oN 1<|⟨C.jY.l.length-(b+1),om,rfl,rfl,b+1,au,aE,om,U,?_,?_,?_,?_,?_,?_⟩
       · exact od
       · exact(((o.trans p).trans ay).trans az)
       · exact((S G om).trans ((u G om).trans (p.get L)))
       · exact ax
       · exact((S (o4+1) om).trans R)
       · rw[u5 X];exact av
      ·
       refine WP.exit<|WP.seq<|sr<|oX 1 ?_
       obtain⟨a146,aF,W⟩:=e.fD.1.shape
       have aZ:=e.fD.1.2.2
       refine oZ G (0+3) (.slice a146 (C.fD.l.length) aF) r6 L (by rw[<-W];rfl)<|oX 1 ?_
       have aX:C.jY.l.take b=C.jY.l:=fJ om
       have aD:=af
       rw[aX]at aD
       have aK:=PW (fu.1 (by assumption:¬¬wg C))
       have aL:=CK.aao (fu.1 (by assumption:¬¬CK C))
       refine WO.cons (WC.call 42 100 ([C.fD.v,.func (.func 101) #[] #[pt G 0,pt (o4+1) 0]]) (fun _ _ _=>by(try rw[W]);kernel_rfl) ((Dp (Ds C (Jh C)) C.fD 101 #[pt G 0,pt (o4+1) 0] aO (y) (e.fD.mono (fun _ h he hn=>h.mono he hn) o) (fun i x hx e9 e_ hn he=>Rq C x G (o4+1) o4 _ _ (Jh C) (aL x (fa hx)) (aK x (fa hx)) e9 e_ ((e.mono o).mono he hn) (((e.fD.mono (fun _ h he hn=>h.mono he hn) o om).2 x (fa hx)).mono he hn) (he.get L) (fb om hn) (he.get ab) (fb om hn) (he.get aa) (fb om hn) aD (rf _))).mono ?_))
       rintro _ bq bt ⟨⟨bx,rfl,aS⟩,bl,aA⟩
       have M:=o.trans aA
       refine oq 43 (nN aS) fun bz aT=>WO.nil<|cq aT (fun aV=>?_) (fun aV=>?_)
       ·
        refine sr<|oW 1 ⟨rfl,rfl,[Y 72],U,?_⟩
        exact⟨congrArg (Value.int .i64) (show mO C=72 from Tv (by assumption) (by assumption) (by assumption) (by assumption) (by assumption)).symm,od,M⟩
       ·
        refine WP.skip<|sr<|oW 1 ⟨rfl,rfl,[Y 0],U,?_⟩
        exact⟨congrArg (Value.int .i64) (show mO C=0 from Vv (by assumption) (by assumption) (by assumption) (by assumption) (by assumption)).symm,od,M⟩
     ·
      exact⟨0,([]:List MapEntry),0,om,U,fg _,(((ae.trans tc).trans J).trans aJ),aj,((ao o4 om).trans (J.get aG)),aI,(show kU _ (lC ((C.jY.l.take 0).map yg)) _ _ from kU.nil)⟩
end
end Sw
namespace Sw
noncomputable section
open Go Go.Proofs Go.RowKit
set_option maxRecDepth 100000
set_option maxHeartbeats 1600000
theorem aap{K:SV Int}{O:Ht}{G l:Nat}(h:gB encI 1 O G K)(hl:l<=K.l.length):∃a c,vw K.v 1 0 l=.slice a l c/\K.v=.slice a K.l.length c/\lx 8 (.slice a l c) (.slice a l c)=true:=by
 have e:=YB 8 K.v 1 0 l
 rcases h.2.1 with⟨h1,D|⟨q,D⟩⟩|⟨b,cap,m,h1,_⟩
 · rw[h1]at hl⊢;obtain rfl:l=0:=by simpa using hl
   rw[D]at e⊢;exact⟨none,0,rfl,rfl,e⟩
 · rw[h1]at hl⊢;obtain rfl:l=0:=by simpa using hl
   rw[D]at e⊢;exact⟨_,0,rfl,rfl,e⟩
 · rw[h1]at e⊢;exact⟨_,cap,rfl,rfl,e⟩
def yW(L:List Int):Prop:=(∀b∈L,1<=b/\b<=9999)/\L.Nodup
theorem TA{l:List Int}{i:Nat}{x:Int}(hx:l[i]?=some x)(h:yW (l.take i))(q:¬((x<1\/9999<x)\/x∈l.take i)):yW (l.take (i+1)):=by
 rw[List.take_add_one,hx,Option.toList_some]
 refine⟨fun b hb=>?_,List.nodup_append.2 ⟨h.2,by simp,fun a e b hb=>?_⟩⟩
 · rcases List.mem_append.1 hb with hb|hb
   · exact h.1 b hb
   · rw[List.mem_singleton.1 hb];omega
 · rw[List.mem_singleton.1 hb];rintro rfl;exact q (.inr e)
theorem Vw{l:List Int}{i:Nat}{x:Int}(hx:l[i]?=some x)(q:(x<1\/9999<x)\/x∈l.take i):¬yW l:=by
 intro h
 rcases q with q|q
 · have:=h.1 x (fa hx);omega
 · have hi:=(List.getElem?_eq_some_iff.1 hx).1
   have e:l=l.take i++x::l.drop (i+1):=by
    have:=List.take_append_drop i l
    rw[List.drop_eq_getElem_cons hi,(List.getElem?_eq_some_iff.1 hx).2]at this
    exact this.symm
   have D:=h.2
   rw[e,List.nodup_append]at D
   exact D.2.2 _ q _ (fz ..) rfl
def FU(C:ka)(r:qM):Prop:=(2<=r.iH.l.length/\r.iH.l.length<=16)/\(0<=r.jf/\r.jf<((C.iD.l.length:Nat):Int))/\(∃k,C.iD.l[r.jf.toNat]?=some k/\k.jk=3)/\0<=r.DT/\r.DT<=1099511627776
section
open Classical
def n9(C:ka)(r:qM):Int:=if mO C≠0 then mO C else if¬FU C r then 320 else if¬yW r.iH.l then 320 else 0
variable {C:ka}{r:qM}
theorem Xt(h:mO C≠0):n9 C r=mO C:=if_pos h
theorem PX(h:¬mO C≠0)(D:¬FU C r):n9 C r=320:=(if_neg h).trans (if_pos D)
theorem Xu(h:¬mO C≠0)(D:¬yW r.iH.l):n9 C r=320:=by
 by_cases h3:FU C r
 · exact(if_neg h).trans ((if_neg (fun k=>k h3)).trans (if_pos D))
 · exact PX h h3
theorem Xv(h:¬mO C≠0)(D:FU C r)(h3:yW r.iH.l):n9 C r=0:=(if_neg h).trans ((if_neg (fun k=>k D)).trans (if_neg (fun k=>k h3)))
end
theorem Ob(K:SV Int)(l:Nat)(n:Int)(O:Ht)(G:Nat)(hK:gB encI 1 O G K)(hl:l<=K.l.length)(a:Option Addr)(c:Nat)(e:K.v=.slice a K.l.length c)(j:lx 8 (.slice a l c) (.slice a l c)=true):WF ex 53 [.slice a (l) c,Y n] O G (fL G O (gi (∃x∈K.l.take l,n=x))):=by
 refine wd Tryz.f53 9 [.tmp 4] fun hE=>sr<|oN 1<|sr<|oX 2<|WO.cons (WC.call 7 103 ([.slice a (l) c,Y n]) (fun _ _ _=>by(try rw[e]);kernel_rfl) ((SK K l n O (G) hK hl a c e j).mono ?_))
 rintro o y o_ ⟨BX,u,iI⟩
 obtain⟨z5,rfl,m⟩:∃z:Int,o=Y z/\(0<=z↔∃x∈K.l.take l,n=x):=qf.sign BX
 refine oq 8 (pS 0 z5) fun b p=>oW 1 ⟨rfl,rfl,[.bool b],U,?_⟩
 refine⟨⟨b,rfl,?_⟩,od,(hE.trans iI)⟩
 exact p.trans m
theorem Oc(K:SV Int)(l:Nat)(n:Int)(O:Ht)(G:Nat)(hK:gB encI 1 O G K)(hl:l<=K.l.length):WF ex 53 [vw K.v 1 (0) (l),Y n] O G (fL G O (gi (n∈K.l.take l))):=by
 obtain⟨a,c,h1,D,h3⟩:=aap hK hl
 rw[h1]
 exact(Ob K l n O G hK hl a c D h3).mono fun v _ _ ⟨⟨c,b,j⟩,k⟩=>⟨⟨c,b,j.trans ⟨fun⟨x,hx,e⟩=>e▸hx,fun h=>⟨n,h,rfl⟩⟩⟩,k⟩
theorem LC(qB:yM)(qV:wR)(C:ka)(r:qM)(O:Ht)(G:Nat)(ab:pc O G C)(hr:xG O G r)(hlen:C.n_.l.length<=2932031007403):WF ex 20 [.agg (iT C).toArray,.agg (pz r).toArray] O G (fL G O (fun v=>v=Y (n9 C r))):=by
 refine wd Tryz.f20 79 [.tmp 4] fun hE=>sr<|oB (.agg (iT C).toArray) (iT C) fun jy iI ia=>?_
 refine oB (.agg (pz r).toArray) (pz r) fun aG aj ay=>?_
 have ag:=(hE.trans iI).trans aj
 have ah:=aj.get ia
 refine oN 1<|WP.seq<|sr<|WO.cons (WC.iz G (0) (iT C) U yh wk ah rfl<|WO.cons (WC.call 9 52 ([.agg (iT C).toArray]) kf ((Tz qB qV C aG (G+1+1) (ab.mono ag) hlen).mono ?_)))
 rintro _ aB aq ⟨rfl,xI,jE⟩
 have y:=ag.trans jE
 have ai:=jE.get ah
 have j:=jE.get ay
 refine oN 1<|sr<|oX 1 ?_
 refine oq 11 (qS (mO C) 0) fun bl aH=>WO.nil<|cq aH (fun wZ=>?_) (fun wZ=>?_)
 ·
  refine sr<|oW 2 ⟨rfl,rfl,[Y (mO C)],U,?_⟩
  exact⟨congrArg (Value.int .i64) (show n9 C r=mO C from Xt wZ).symm,od,y⟩
 ·
  refine WP.skip<|WP.seq<|sr<|oX 1 ?_
  obtain⟨A,B,u⟩:=hr.iH.shape
  have a8:=hr.iH.2.2
  refine oZ (G+1) 0 (.slice A (r.iH.l.length) B) lO j (by rw[<-u];rfl)<|oX 1 ?_
  refine oq 16 (zm r.iH.l.length 2) fun S aI=>oX 1<|gF 17 S (pt (G+1) 0)<|nS 17 S (G+1) 0 (.slice A (r.iH.l.length) B) lO j (by rw[<-u];rfl)<|gF 17 S (Y (.ofNat (r.iH.l.length))) ?_
  refine nH 17 S (nQ 16 r.iH.l.length) fun bn aJ=>?_
  refine mI 22 (nO aI aJ) fun ad aK=>oX 1<|gF 23 ad (pt (G+1) (0+1))<|nS 23 ad (G+1) (0+1) (Y r.jf) fy j rfl ?_
  refine nH 23 ad (mE r.jf 0) fun bo aL=>?_
  refine mI 27 (nO aK aL) fun E aM=>oX 1<|gF 28 E (pt (G+1) (0+1))<|nS 28 E (G+1) (0+1) (Y r.jf) fy j rfl<|gF 28 E (pt G (0+1)) ?_
  obtain⟨K,aw,J⟩:=ab.iD.shape
  have a_:=ab.iD.2.2
  refine nS 28 E G (0+1) (.slice K (C.iD.l.length) aw) wP ai (by rw[<-J];rfl)<|gF 28 E (Y (.ofNat (C.iD.l.length))) ?_
  refine nH 28 E (Hv C.iD.l.length r.jf) fun bp aN=>?_
  refine mI 35 (nO aM aN) fun e L=>oX 1<|gF 36 e (pt G (0+1))<|nS 36 e G (0+1) (.slice K (C.iD.l.length) aw) wP ai (by rw[<-J];rfl)<|gF 36 e (pt (G+1) (0+1)) ?_
  obtain⟨kx,al⟩:∃k:Nat,k=(r.jf).toNat:=⟨_,rfl⟩
  have az:0<=r.jf->r.jf=.ofNat kx:=fun h=>by rw[al];exact(gK h).symm
  refine wW 36 (!e) (Y (.ofNat kx)) (.bool e) (by cases e<;>rfl) (fun h=>by obtain rfl:=bF h;have aD:=nf L;exact WC.jW (G+1) (0+1) (Y (.ofNat kx)) U fy j (by rw[<-az om];rfl) rfl) ?_
  have F:(!e)=true->kx<C.iD.l.length:=fun h=>by obtain rfl:e=false:=(by simpa using h);have aD:¬((((((r.iH.l.length:Nat):Int)<(2))\/((16)<((r.iH.l.length:Nat):Int)))\/((r.jf)<(0)))\/(((C.iD.l.length:Nat):Int)<=(r.jf))):=(fun k=>absurd ((L).2 k) (by decide));omega
  refine xY 36 e (pt (ga K) (0+(kx)*2)) (by rintro rfl;exact WC.iy J ab.iD (kx) Dm yc ((F rfl)) rfl)<|gF 36 e (pt (ga K) (0+(kx)*2+1)) ?_
  obtain⟨aa,ao⟩:∃aE,(!e)=true->C.iD.l[kx]?=some aE:=⟨(C.iD.l[kx]?).getD default,fun h=>by rw[List.getElem?_eq_getElem (by obtain rfl:e=false:=(by simpa using h);exact(F rfl))];rfl⟩
  have X:=fun(a0:¬((((((r.iH.l.length:Nat):Int)<(2))\/((16)<((r.iH.l.length:Nat):Int)))\/((r.jf)<(0)))\/(((C.iD.l.length:Nat):Int)<=(r.jf))))=>ao (by first|(rw[show e=false from Bool.eq_false_iff.2 (fun k=>a0 ((L).1 k))];rfl)|rw[show e=false from Bool.eq_false_iff.2 (fun k=>a0 ((L).1 k))])
  refine xY 36 e (Y aa.jk) (by rintro rfl;exact WC.sv (ga K) (0+(kx)*2+1) (Y aa.jk) U fy ((ab.iD.mono y nR).pw J (zl ((F rfl)))) (nE (ab.iD.mono y nR).1 (ao rfl) (by decide) rfl) rfl) ?_
  refine nH 36 e (qS aa.jk 3) fun bq aO=>?_
  refine mI 45 (nO L aO) fun ae aP=>oX 1<|gF 46 ae (pt (G+1) (0+2))<|nS 46 ae (G+1) (0+2) (Y r.DT) fy j rfl ?_
  refine nH 46 ae (mE r.DT 0) fun br aQ=>?_
  refine mI 50 (nO aP aQ) fun af aR=>oX 1<|gF 51 af (pt (G+1) (0+2))<|nS 51 af (G+1) (0+2) (Y r.DT) fy j rfl ?_
  refine nH 51 af (mE 1099511627776 r.DT) fun bs aS=>?_
  refine mI 55 (nO aR aS) fun bt aT=>WO.nil<|cq aT (fun aZ=>?_) (fun aZ=>?_)
  ·
   refine sr<|oW 1 ⟨rfl,rfl,[Y 320],U,?_⟩
   have an:=X
   have aF:¬FU C r:=by
    rintro ⟨h1,D,⟨k,h3,h4⟩,bA⟩
    have bd:=an om
    rw[<-al,bd]at h3;cases h3
    omega
   exact⟨congrArg (Value.int .i64) (show n9 C r=320 from PX (by assumption) aF).symm,od,y⟩
  ·
   refine WP.skip<|WP.seq<|sr<|oX 1<|oZ (G+1) 0 (.slice A (r.iH.l.length) B) lO j (by rw[<-u];rfl)<|oN 2<|WP.block ?_
   refine mu [3,57,58,59] (fun m hs ns vs=>∃(b:Nat),b+m=r.iH.l.length/\vs=[pt (G+1) 0,.slice A (r.iH.l.length) B,Y (.ofNat (r.iH.l.length)),Y (.ofNat b)]/\aq<=ns/\HE (aq) aB hs/\(yW (r.iH.l.take b))) ?_ (r.iH.l.length) ?_
   ·
    rintro bj N ar _ ⟨b,a7,rfl,aA,M,hinv⟩ bc
    have z:=y.trans M
    refine sr ?_
    refine oq 60 (kT b r.iH.l.length) fun bu aU=>WO.nil<|WP.seq<|cq aU (fun a6=>?_) (fun a6=>?_)
    ·
     refine WP.skip<|WP.seq<|WP.block<|sr<|oX 1 ?_
     have W:b<r.iH.l.length:=by omega
     refine WO.cons (WC.iy u hr.iH (b) lP kH (W) ?_)
     obtain⟨p,R⟩:=gE W
     refine WO.cons (WC.lz (Y p) u (hr.iH.mono z nR) R rfl fy<|oN 2<|sr<|oX 1 ?_)
     refine oq 65 (mE p 1) fun ax aV=>oX 1<|gF 66 ax (Y p) ?_
     refine nH 66 ax (mE 9999 p) fun bw aW=>?_
     refine mI 69 (nO aV aW) fun o au=>oX 1<|gF 70 o (pt (G+1) 0)<|nS 70 o (G+1) 0 (.slice A (r.iH.l.length) B) lO (M.get j) (by rw[<-u];rfl)<|gF 70 o (Y (.ofNat b))<|wW 70 (!o) (vw r.iH.v 1 (0) (b)) (.bool o) (by cases o<;>rfl) (fun h=>by obtain rfl:=bF h;have aD:=nf au;exact WC.mq (v:=vw r.iH.v 1 (0) (b)) 74 (sT ex.T N.get 42 (.slice A (r.iH.l.length) B) none (some (Y (.ofNat (b)))) none) kf (by rw[<-u];exact SJ (hr.iH.mono z nR) lP kH om) rfl) ?_
     refine gF 70 o (Y p)<|WO.cons (WC.gq (!o) (GB (!o) ((p)∈r.iH.l.take (b)) (ar) N) (.bool o) (g:=f_ (.tmp 70)) rfl U (by cases o<;>rfl) (fun h=>by obtain rfl:o=false:=(by simpa using h);have aD:¬(((p)<(1))\/((9999)<(p))):=(fun k=>absurd ((au).2 k) (by decide));exact WC.call 76 53 ([vw r.iH.v 1 (0) (b),Y p]) kf ((Oc r.iH (b) (p) N (ar) (hr.iH.mono z) om).mono fun v e9 e_ ⟨⟨c,bh,hc⟩,hn,he⟩=>⟨_,_,_,rfl,⟨c,bh,hc⟩,hn,he⟩)) (fun h=>GB.off h) ?_)
     rintro _ bg bk ⟨⟨bx,rfl,aX⟩,bf,ak⟩
     refine mI 77 (nO au aX) fun bz aY=>WO.nil<|cq aY (fun av=>?_) (fun av=>?_)
     ·
      refine sr<|oW 1 ⟨rfl,rfl,[Y 320],U,?_⟩
      exact⟨congrArg (Value.int .i64) (show n9 C r=320 from Xu (by assumption) (Vw R av)).symm,od,(z.trans ak)⟩
     ·
      refine WP.skip<|WP.region<|ov 78 (Y (.ofNat (b+1))) ?_ (fun _ _ _=>by rw[<-gQ (show b+1<9223372036854775808 by omega)];kernel_rfl)
      refine oN 1<|⟨r.iH.l.length-(b+1),om,rfl,rfl,b+1,om,U,?_,?_,?_⟩
      · exact od
      · exact(M.trans ak aA)
      · exact TA R hinv av
    ·
     refine WP.exit<|sr<|oW 1 ⟨rfl,rfl,[Y 0],U,?_⟩
     have hT:r.iH.l.take b=r.iH.l:=fJ om
     rw[hT]at hinv
     have an:=X om
     have aC:FU C r:=⟨om,om,⟨aa,by rw[<-al];exact an,om⟩,om⟩
     exact⟨congrArg (Value.int .i64) (show n9 C r=0 from Xv (by assumption) aC hinv).symm,od,z⟩
   ·
    exact⟨0,om,U,fg _,HE.refl _ _,⟨(fun _ h=>by cases h),List.nodup_nil⟩⟩
end
end Sw
namespace Sw
noncomputable section
open Go Go.RowKit
section
variable {α:Type}{enc:α->List Value}{n G b:Nat}{O e9:Ht}{s:SV α}{L:List Nat}
theorem gB.TC(h:gB enc n O G s)(e:∀q∈L,∀m,O.get q≠some (.cells (s.l.flatMap enc) m)):gB enc n (j3 L O) G s:=by
 refine⟨h.1,?_,h.2.2⟩
 rcases h.2.1 with k|⟨q,cap,m,h1,D,h3,h4,b⟩
 · exact .inl k
 · refine .inr ⟨q,cap,m,h1,D,h3,?_,b⟩
   rw[rX L O fun k=>e q k _ h4];exact h4
theorem gB.Kn(h:gB enc n O G s)(hb:∀m,O.get b≠some (.cells (s.l.flatMap enc) m))(o:∀q,q≠b->e9.get q=O.get q):gB enc n e9 G s:=by
 refine⟨h.1,?_,h.2.2⟩
 rcases h.2.1 with k|⟨q,cap,m,h1,D,h3,h4,j⟩
 · exact .inl k
 · refine .inr ⟨q,cap,m,h1,D,h3,?_,j⟩
   rw[o q fun e=>hb m (e▸h4)];exact h4
theorem HE.DW{B:Nat}{h1 D:Ht}(h:HE B h1 D)(b:∀q∈L,B<=q):HE B h1 (Sw.j3 L D):=fun q e=>by
 rw[rX L D fun k=>by have:=b q k;omega];exact h q e
end
theorem vy{α:Type}{enc:α->List Value}{k:Nat}(b:∀x,(enc x).length=k){O:Ht}{q:Nat}{Z:List Value}{j:gm}(h:O.get q=some (.cells Z j))(l:List α)(jI:Z.length≠l.length*k)(m:gm):O.get q≠some (.cells (l.flatMap enc) m):=fun e=>by
 rw[h]at e
 have e:Z=l.flatMap enc:=by injection e with e;injection e
 have e2:=nF l (fun x _=>b x)
 rw[<-e]at e2
 exact jI e2
theorem BT{O:Ht}{q:Nat}{r:td Tm}(h:O.get q=some (.loop r))(Z:List Value)(m:gm):O.get q≠some (.cells Z m):=fun e=>by rw[h]at e;cases e
def wo(x:im)(w:Nat):List jg:=match x.fV.l[w]? with
 |some o=>o.l
 |none=>[]
theorem Gi{x:im}{w:Nat}{o:SV jg}(h:x.fV.l[w]?=some o):wo x w=o.l:=by unfold wo;rw[h]
def wT(K:kg)(w:Nat)(x:im):List fQ:=uY (o6 K (wo x w))
def Ko(w:Nat)(x:im):Bool:=(wo x w).any (·.j2)
inductive tf(K:kg)(M:List im):List Nat->List fQ->Bool->Prop where
 |nil:tf K M [] [] false
 |skip {l:List Nat} {S:List fQ} {p:Bool} {w:Nat}:tf K M l S p->(∃x∈M,wT K w x=[])->tf K M (l++[w]) S (p||M.any (Ko w))
 |add {l:List Nat} {S X S':List fQ} {p:Bool} {w:Nat}:tf K M l S p->(∀x∈M,wT K w x≠[])->(∀x∈M,xE [o6 K (wo x w)])->Wo (M.map (wT K w)) X->IV S X S'->tf K M (l++[w]) S' (p||M.any (Ko w))
def ug(F:jq)(b:Int):Option im:=F.fc.l.find? fun r=>decide (r.nG=b)
theorem Rr{l:List im}{b:Int}:∀{i:Nat} {r:im},l[i]?=some r->r.nG=b->(∀(j:Nat) (y:im),j<i->l[j]?=some y->y.nG≠b)->l.find? (fun r=>decide (r.nG=b))=some r:=by
 induction l with
 |nil=>intro i r h;simp at h
 |cons x l ih=>
  intro i r h hb hj
  cases i with
  |zero=>
   obtain rfl:x=r:=by simpa using h
   rw[List.find?_cons];simp[hb]
  |succ i=>
   have hx:x.nG≠b:=hj 0 x (Nat.succ_pos i) rfl
   rw[List.find?_cons]
   simp only[hx,decide_false]
   exact ih (i:=i) (by simpa using h) hb fun j y k e=>hj (j+1) y (by omega) (by simpa using e)
theorem yG.ug{F:jq}{b z:Int}{c:Bool}(h:yG F b z c):(c=false/\ug F b=none)\/∃(i:Nat) (r:im),z=.ofNat i/\c=true/\F.fc.l[i]?=some r/\Sw.ug F b=some r:=by
 rcases h with⟨_,D,h3⟩|⟨i,r,h1,D,h3,h4,e⟩
 · exact .inl ⟨D,List.find?_eq_none.2 fun x hx=>by simp[h3 x hx]⟩
 · exact .inr ⟨i,r,h1,D,h3,Rr h3 h4 e⟩
theorem sh.Vx{F:jq}(h:sh F){x:im}(hx:x∈F.fc.l){o:SV jg}(b:o∈x.fV.l):∀y∈o.l,uJ F.fx y:=by
 obtain⟨j,hj⟩:=fS hx
 exact h.out j x hj o b
theorem sh.PY{F:jq}(h:sh F){x:im}(hx:x∈F.fc.l):x.fV.l.length=F.gj.l.length+1:=by
 obtain⟨j,hj⟩:=fS hx
 exact(h.run j x hj).2.2
theorem YR{l:List Nat}{n:Nat}(h:n∈l):n<=l.sum:=by
 induction l with
 |nil=>cases h
 |cons x l ih=>
  rw[List.sum_cons]
  rcases fT.1 h with rfl|h
  · omega
  · have:=ih h;omega
theorem Xw{x:im}{o:SV jg}(b:o∈x.fV.l):o.l.length<=Aq x:=
 YR (fU.2 ⟨o,b,rfl⟩)
inductive xw(C:ka)(F:jq)(r:qM):tN->Int->Prop where
 |qW {T:tN}:n9 C r≠0->T.qK.l=[]->xw C F r T (n9 C r)
 |Lc {T:tN}:n9 C r=0->¬sh F->T.qK.l=[]->xw C F r T 240
 |find {T:tN} {b:Int}:n9 C r=0->sh F->b∈r.iH.l->ug F b=none->T.qK.l=[]->xw C F r T 250
 |lim {T:tN} {z:Int}:n9 C r=0->sh F->(∀b∈r.iH.l,ug F b≠none)->(z=2\/z=10)->T.qK.l=[]->xw C F r T z
 |ok {T:tN} {M:List im}:n9 C r=0->sh F->M.map some=r.iH.l.map (ug F)->tf F.fx M (vD F (F.gj.l.length+1)) T.qK.l T.j2->xw C F r T 0
def TZ:List Value:=[.int .i64 0,.slice none 0 0,.bool false]
def Oe(K:kg)(M:List im)(m o e j p N:Nat)(z:td Tm)(y:Nat->Prop)(l:List Nat)(a:Ht)(b:Nat):Prop:=
 ∃(J:SV fQ) (u:Bool),a.get e=some (.cells [J.v] gm.plain)/\a.get j=some (.cells [.bool u] gm.plain)/\a.get m=some (.cells TZ gm.plain)/\a.get o=some (.cells [.int .i64 0] gm.plain)/\a.get p=some (.loop z)/\tf K M l J.l u/\gB fj 2 a b J/\(∀q,y q->q<b/\q∉[m,o,e,j,p])/\N<=b
def Zz(e j m N:Nat)(o:td Tm)(a:Ht)(b:Nat):Prop:=a.get e=some (.cells TZ gm.plain)/\(∃z:Int,(z=2\/z=10)/\a.get j=some (.cells [.int .i64 z] gm.plain))/\a.get m=some (.loop {o with state:=.done,pending:=some .ret})/\N<=b
theorem Oe.mono{K:kg}{M:List im}{p u e j y N:Nat}{z:td Tm}(h1:p<N)(D:u<N)(h3:e<N)(h4:j<N)(X:y<N):∀(o:Nat->Prop) (l:List Nat) (a:Ht) (b:Nat) (c:Ht) (d:Nat),Oe K M p u e j y N z o l a b->HE b a c->b<=d->Oe K M p u e j y N z (fun q=>o q\/(b<=q/\q<d)) l c d:=by
 rintro o l a b c d ⟨J,W,A,B,C,E,F,L,R,S,aa⟩ he hd
 refine⟨J,W,he.get A (by omega),he.get B (by omega),he.get C (by omega),he.get E (by omega),he.get F (by omega),L,R.mono he hd,fun q m=>?_,by omega⟩
 rcases m with m|m
 · have:=S q m
   exact⟨by omega,this.2⟩
 · exact⟨m.2,by simp;omega⟩
theorem yi{l:List fQ}{k:Nat}(hk:k=1\/k=3):k≠l.length*2:=by omega
theorem gB.Of{a:Ht}{b o p e j u:Nat}{s:SV fQ}{z A K:Value}{r:td Tm}{m15 m16 m6 m7:gm}(h:gB fj 2 a b s)(B:a.get e=some (.cells [z] m15))(C:a.get j=some (.cells [A] m16))(E:a.get o=some (.cells TZ m6))(F:a.get p=some (.cells [K] m7))(J:a.get u=some (.loop r)):gB fj 2 (j3 [o,p,e,j,u] a) b s:=by
 refine h.TC fun q y m=>?_
 simp only[List.mem_cons,List.not_mem_nil,or_false]at y
 rcases y with rfl|rfl|rfl|rfl|rfl
 · exact vy (enc:=fj) (k:=2) (fun _=>rfl) E _ (yi (.inr rfl)) m
 · exact vy (enc:=fj) (k:=2) (fun _=>rfl) F _ (yi (.inl rfl)) m
 · exact vy (enc:=fj) (k:=2) (fun _=>rfl) B _ (yi (.inl rfl)) m
 · exact vy (enc:=fj) (k:=2) (fun _=>rfl) C _ (yi (.inl rfl)) m
 · exact BT J _ m
end
end Sw
namespace Sw
noncomputable section
open Go Go.RowKit
section
variable {α β:Type}{enc:α->List Value}{N7:β->List Value}{n n2 B gr G e_:Nat}{O e9:Ht}{J:SV α}{s:SV β}{L:List Nat}
theorem mh.qG(h:mh enc n B gr (j3 L O) G J):mh enc n B gr O G J:=by
 have un:∀q o,(j3 L O).get q=some o->O.get q=some o:=fun q o e=>by
  by_cases k:q∈L
  · rw[C7 L _ k]at e;cases e
  · rwa[rX L _ k]at e
 rcases h with h|⟨b,ms,h1,D,h3,h4,j,m,p,u,y⟩
 · exact .inl h
 · exact .inr ⟨b,ms,h1,D,un _ _ h3,un _ _ h4,j,m,p,u,y⟩
theorem mh.DW(h:mh enc n B gr O G J)(e:∀q∈L,q<B):mh enc n B gr (j3 L O) G J:=by
 rcases h with h|⟨b,ms,h1,D,h3,h4,j,m,o,p,u⟩
 · exact .inl h
 · refine .inr ⟨b,ms,h1,D,?_,?_,j,m,o,p,u⟩
   · rw[rX L _ fun k=>by have:=e _ k;omega];exact h3
   · rw[rX L _ fun k=>by have:=e _ k;omega];exact h4
theorem gB.PZ(h:gB N7 n2 (j3 L O) G s)(hg:mh enc n B gr O G J)(he:∀c,c<G->(J.l≠[]->c≠gr)->e9.get c=O.get c)(hn:G<=e_):gB N7 n2 (j3 L e9) e_ s:=by
 refine⟨h.1,?_,h.2.2⟩
 rcases h.2.1 with h|⟨q,cap,m,h1,D,h3,h4,j⟩
 · exact .inl h
 · have e:q∉L:=fun k=>by rw[C7 L _ k]at h4;cases h4
   rw[rX L _ e]at h4
   refine .inr ⟨q,cap,m,h1,D,by omega,?_,j⟩
   rw[rX L _ e]
   refine(he q h3 fun k=>?_).trans h4
   rcases hg with hg|⟨b,ms,_,_,_,hg,_⟩
   · exact absurd hg.1 k
   · rintro rfl;rw[hg]at h4;cases h4
end
theorem Ec{C:ka}{r:qM}(h:n9 C r=0):FU C r/\yW r.iH.l/\mO C=0:=by
 unfold n9 at h
 by_cases h1:mO C≠0
 · rw[if_pos h1]at h;exact absurd h h1
 · rw[if_neg h1]at h
   by_cases D:FU C r
   · rw[if_neg (fun k=>k D)]at h
     by_cases h3:yW r.iH.l
     · exact⟨D,h3,fu.1 h1⟩
     · rw[if_pos h3]at h;cases h
   · rw[if_pos D]at h;cases h
theorem Og{F:jq}{B:List Int}{M:List im}(h:M.map some=B.map (ug F)):∀b∈B,ug F b≠none:=by
 intro b hb k
 have:ug F b∈M.map some:=by rw[h];exact fU.2 ⟨b,hb,rfl⟩
 rw[k]at this
 simp at this
end
end Sw
namespace Sw
noncomputable section
open Go Go.Proofs Go.RowKit
set_option maxRecDepth 100000
set_option maxHeartbeats 1600000
theorem Rs:∃i,ex.T.kn 116=some i/\i.bytes<=1024:=by
 cases h:ex.T.kn 116 with
 |none=>exact absurd (show(ex.T.kn 116).isSome=true by kernel_rfl) (by rw[h];decide)
 |some i=>
  refine⟨i,rfl,?_⟩
  have:((ex.T.kn 116).map fun i=>Nat.ble i.bytes 1024)=some true:=by kernel_rfl
  rw[h]at this
  exact fk (gb this)
theorem TD:∃i,ex.T.kn 48=some i/\i.bytes<=1024:=by
 cases h:ex.T.kn 48 with
 |none=>exact absurd (show(ex.T.kn 48).isSome=true by kernel_rfl) (by rw[h];decide)
 |some i=>
  refine⟨i,rfl,?_⟩
  have:((ex.T.kn 48).map fun i=>Nat.ble i.bytes 1024)=some true:=by kernel_rfl
  rw[h]at this
  exact fk (gb this)
theorem LD{F:jq}{B:List Int}{M:List im}{i:Nat}{b:Int}{x:im}(h:M.map some=(B.take i).map (ug F))(hb:B[i]?=some b)(hx:ug F b=some x):(M++[x]).map some=(B.take (i+1)).map (ug F):=by
 rw[List.take_add_one,hb,Option.toList_some,List.map_append,List.map_append,h];simp[hx]
theorem Ed(l:List im):∀y∈l,(ja y).length=3:=fun _ _=>rfl
theorem LF{α β:Type}{f:α->β}{l:List α}{i:Nat}{x:α}(h:l[i]?=some x):(l.take (i+1)).map f=(l.take i).map f++[f x]:=by
 rw[List.take_add_one,h];simp
theorem LH{α:Type}{f:α->Bool}{l:List α}{i:Nat}{x:α}(h:l[i]?=some x):(l.take (i+1)).any f=((l.take i).any f||f x):=by
 rw[List.take_add_one,h];simp
theorem LI{α:Type}{l:List α}{i:Nat}{x y:α}(h:l[i]?=some x)(hy:y∈l.take (i+1)):y∈l.take i\/y=x:=by
 rw[List.take_add_one,h]at hy
 rcases fR.1 hy with k|k
 · exact .inl k
 · exact .inr (List.mem_singleton.1 k)
def aar(C:ka)(F:jq)(r:qM)(O:Ht)(G:Nat)(v:Value)(e9:Ht)(e_:Nat):Prop:=∃(T:tN) (z:Int),v=.tuple ⟨[.agg (tY T).toArray,Y z]⟩/\BE e9 e_ T/\xw C F r T z/\G<=e_/\HE G O e9
theorem Oh{K:kg}{w:Nat}{b:List (SV fQ)}{M:List im}(h:b.map (·.l)=M.map (wT K w)){x:im}(hx:x∈M)(he:wT K w x=[]):∃y∈b,y.l=[]:=by
 have:wT K w x∈b.map (·.l):=by rw[h];exact fU.2 ⟨x,hx,rfl⟩
 obtain⟨y,hy,e⟩:=fU.1 this
 exact⟨y,hy,e.trans he⟩
theorem Oi{K:kg}{w:Nat}{b:List (SV fQ)}{M:List im}(h:b.map (·.l)=M.map (wT K w))(he:∃x∈b,(fun y:SV fQ=>y.l=[]) x):∃x∈M,wT K w x=[]:=by
 obtain⟨y,hy,e⟩:=he
 have:y.l∈M.map (wT K w):=by rw[<-h];exact fU.2 ⟨y,hy,rfl⟩
 obtain⟨x,hx,k⟩:=fU.1 this
 exact⟨x,hx,k.trans e⟩
theorem P0:ex.T.agg 44=some true:=U
theorem uF:ex.T.agg 50=some true:=U
theorem Vy:ex.T.size 39=some 1:=U
theorem P1:ex.T.size 4=some 1:=U
theorem Oj:ex.T.size 44=some 3:=U
theorem nW:ex.T.size 50=some 3:=U
theorem Vz:ex.T.zero 39=some (.slice none (0) 0):=U
theorem Xx:ex.T.zero 4=some (.bool false):=U
theorem Ol:ex.T.zero 50=some (.agg ⟨[Y 0,.slice none (0) 0,.bool false]⟩):=U
theorem Ji{A:SV fQ->Prop}(K:SV (SV fQ))(f:FuncId)(b:Array Value)(O:Ht)(G:Nat)(hK:jC lL 1 (fun O G y=>gB fj 2 O G y) O G K)(hf:∀(i:Nat) (x:SV fQ),K.l[i]?=some x->∀(e9:Ht) (e_:Nat),G<=e_->HE G O e9->WF ex f ((x.v)::b.toList) e9 e_ (fL e_ e9 (gi (A x)))):WF ex 63 [K.v,.func (.func f) #[] b] O G (fL G O (qf K.l A)):=by
 obtain⟨a1,c2,h_⟩:=hK.1.shape
 have mc:=hK.1.2.2
 rw[h_]
 refine wd Tryz.f63 19 [.tmp 4] fun hE=>sr<|oN 1<|WP.seq<|sr<|oN 3<|WP.block ?_
 refine mu [0,1,7,8] (fun m hs ns vs=>∃(fW:Nat),fW+m=K.l.length/\vs=[.slice a1 (K.l.length) c2,.func (.func f) #[] b,Y (.ofNat (K.l.length)),Y (.ofNat fW)]/\G<=ns/\HE (G) O hs/\(∀(j:Nat) (y:SV fQ),j<fW->K.l[j]?=some y->¬A y)) ?_ (K.l.length) ?_
 ·
  rintro ya ql jd _ ⟨fW,uz,rfl,oR,jt,hinv⟩ uA
  have j9:=hE.trans jt
  refine sr ?_
  refine oq 9 (kT fW K.l.length) fun nI rY=>WO.nil<|WP.seq<|cq rY (fun xq=>?_) (fun xq=>?_)
  ·
   refine WP.skip<|WP.seq<|WP.block<|sr<|oN 2<|sr<|oX 3 ?_
   have nL:fW<K.l.length:=by omega
   refine WO.cons (WC.iy h_ hK.1 (fW) Be qT (nL) ?_)
   obtain⟨lH,kM⟩:=gE nL
   obtain⟨u,yI,o⟩:=(hK.2 lH (fa kM)).shape
   have B:=(hK.2 lH (fa kM)).2.2
   refine WO.cons (WC.lz (.slice u (lH.l.length) yI) h_ (hK.1.mono j9 nR) kM (by rw[<-o];rfl) ox<|WO.cons (WC.call 16 f ((lH.v)::b.toList) (fun _ _ _=>by(try rw[o]);kernel_rfl) ((hf fW lH kM ql (jd) om j9).mono ?_)))
   rintro _ E F ⟨⟨J,rfl,z⟩,C,e⟩
   refine WO.nil<|cq z (fun p=>?_) (fun p=>?_)
   ·
    refine sr<|oW 2 ⟨rfl,rfl,[Y (.ofNat fW)],U,?_⟩
    exact⟨.inr ⟨fW,lH,rfl,kM,p,hinv⟩,od,(j9.trans e)⟩
   ·
    refine WP.skip<|WP.region<|ov 18 (Y (.ofNat (fW+1))) ?_ (fun _ _ _=>by rw[<-gQ (show fW+1<9223372036854775808 by omega)];kernel_rfl)
    refine oN 1<|⟨K.l.length-(fW+1),om,rfl,rfl,fW+1,om,U,?_,?_,?_⟩
    · exact od
    · exact(jt.trans e oR)
    · intro j y hj hy;rcases fE.1 hj with hj|rfl;exact hinv j y hj hy;rw[kM]at hy;cases hy;exact p
  ·
   refine WP.exit<|sr<|oW 1 ⟨rfl,rfl,[Y (-1)],U,?_⟩
   refine⟨.inl ⟨rfl,fun y hy=>?_⟩,od,j9⟩
   obtain⟨j,hj⟩:=fS hy
   exact hinv j y (by have:=(fp.1 hj).1;omega) hj
 ·
  exact⟨0,om,U,fg _,HE.refl _ _,(fun j y h=>absurd h (fK _))⟩
theorem FV{A:SV fQ->Prop}(K:SV (SV fQ))(f:FuncId)(b:Array Value)(O:Ht)(G:Nat)(hK:jC lL 1 (fun O G y=>gB fj 2 O G y) O G K)(hf:∀(i:Nat) (x:SV fQ),K.l[i]?=some x->∀(e9:Ht) (e_:Nat),G<=e_->HE G O e9->WF ex f ((x.v)::b.toList) e9 e_ (fL e_ e9 (gi (A x)))):WF ex 28 [K.v,.func (.func f) #[] b] O G (fL G O (gi (∃x∈K.l,A x))):=by
 have mL:=fF (e:=ex) 28 Tryz.f28 9 [.tmp 4]
 have nM:=@Ji
 exact Nj
theorem TE(x:SV fQ)(O:Ht)(G:Nat)(hx:gB fj 2 O G x):WF ex 29 [x.v] O G (fL G O (gi (x.l=[]))):=by
 obtain⟨a1,c2,h_⟩:=hx.shape
 have mc:=hx.2.2
 rw[h_]
 refine wd Tryz.f29 6 [.tmp 2] fun hE=>sr<|oN 1<|sr<|oX 2 ?_
 refine oq 5 (vY x.l.length 0) fun c4 p4=>oW 1 ⟨rfl,rfl,[.bool c4],U,?_⟩
 refine⟨⟨c4,rfl,?_⟩,nR,hE⟩
 exact p4.trans Rl
theorem VA(qB:yM)(qV:wR)(hC:zH)(C:ka)(F:jq)(r:qM)(O:Ht)(G:Nat)(nGy:pc O G C)(aO:kB O G F)(hr:xG O G r)(hlen:C.n_.l.length<=2932031007403)(hw:∀r∈F.fc.l,Aq r<=60):WF ex 8 [.agg (iT C).toArray,.agg (gO F).toArray,.agg (pz r).toArray] O G (aar C F r O G):=by
 refine WF.Wf (fi:=⟨Tryz.f8.body.getD .skip,125,[.cell 6 50,.cell 7 51]⟩) U U U rfl rfl ?_
 have hE:=HE.refl G O
 refine sr<|oB (.agg (iT C).toArray) (iT C) fun jy iI ia=>?_
 refine oB (.agg (gO F).toArray) (gO F) fun nH5 eV nFP=>?_
 refine oB (.agg (pz r).toArray) (pz r) fun nHT jE nFQ=>?_
 have nF8:=fb (fo (G+1)) (fh (G+1+1))
 refine oA [Y 0,.slice none (0) 0,.bool false] Ol fun nHU bZ nFR=>?_
 have nF9:=fb nF8 (fh (G+1+1+1))
 have nF_:=fb (fo (G+1+1)) (fh (G+1+1+1))
 refine oA [Y 0] Nt fun nF2 bC nFS=>?_
 have cG:=((((hE.trans iI).trans eV).trans jE).trans bZ).trans bC
 have eO:=bC.get (bZ.get (jE.get (eV.get ia)))
 have nGa:=fb nF9 (fh (G+1+1+1+1))
 have eP:=bC.get (bZ.get nFQ)
 have nGb:=fb nF_ (fh (G+1+1+1+1))
 have nGc:=fb (fo (G+1+1+1)) (fh (G+1+1+1+1))
 refine WO.nil<|WP.seq<|sr<|WO.cons (WC.iz G (0) (iT C) U yh wk eO rfl<|WO.cons (WC.iz (G+1+1) (0) (pz r) U P0 Oj eP rfl<|WO.cons (WC.call 28 20 ([.agg (iT C).toArray,.agg (pz r).toArray]) kf ((LC qB qV C r nF2 (G+1+1+1+1+1) (nGy.mono cG) (hr.mono cG) hlen).mono ?_))))
 rintro _ nF3 nGh ⟨rfl,b0,bc⟩
 have cH:=cG.trans bc
 have eQ:=bc.get (bC.get (bZ.get (jE.get nFP)))
 have nGd:=fb nGa b0
 have nGe:=fb nGb b0
 have cI:=bc.get (bC.get nFR)
 have nGf:=fb nGc b0
 have eR:=bc.get nFS
 have nGg:=fb (fo (G+1+1+1+1)) b0
 refine oN 1<|sr<|oX 1 ?_
 refine oq 30 (qS (n9 C r) 0) fun PO Dh=>WO.nil<|cq Dh (fun tP=>?_) (fun tP=>?_)
 ·
  refine sr<|WO.cons (WC.iz (G+1+1+1) (0) [Y 0,.slice none (0) 0,.bool false] U uF nW cI rfl<|oX 1<|oS (G+1+1+1) (0) (.agg ⟨[Y 0,.slice none (0) 0,.bool false]⟩) [Y 0,.slice none (0) 0,.bool false] [Y 0,.slice none (0) 0,.bool false] nW rfl (fe.2 ⟨rfl,fe.2 ⟨rfl,fe.2 ⟨rfl,fe.2 ⟨rfl,rfl⟩⟩⟩⟩) cI fun nHV nFW nFT nFZ=>?_)
  refine oS (G+1+1+1+1) (0) (Y (n9 C r)) [Y (n9 C r)] [Y (n9 C r)] qU rfl rfl ((nFZ (G+1+1+1+1) om).trans eR) fun nHW nFX nFU nF0=>?_
  refine wr ⟨rfl,.inl ⟨rfl,[.agg ⟨[Y 0,.slice none (0) 0,.bool false]⟩,Y (n9 C r)],(qy (by rw[show(f_ (.tmp 6)).run _=pt (G+1+1+1) 0 from by kernel_rfl];exact jV uF nW ((nF0 (G+1+1+1) om).trans nFT) rfl) (by rw[show(f_ (.tmp 7)).run _=pt (G+1+1+1+1) 0 from by kernel_rfl];exact ki qc nFU rfl)),?_⟩⟩
  exact⟨⟨0,⟨.slice none 0 0,[]⟩,false⟩,_,rfl,⟨tB⟩,.qW tP rfl,od,((cH.trans nFW).trans nFX)⟩
 ·
  refine WP.skip<|WP.seq<|sr ?_
  have bB:=tP
  have nHY:=(Ec (fu.1 bB)).1.1
  refine WO.cons (WC.iz (G+1) (0) (gO F) U pF oJ eQ rfl<|WO.cons (WC.call 34 25 ([.agg (gO F).toArray]) kf ((Ex F nF3 (nGh) (aO.mono cH) hw).mono ?_)))
  rintro _ nHX K ⟨⟨bM,rfl,e4,nFY⟩,b3,bd⟩
  have cL:=cH.trans bd
  have nEN:=fb nGd b3
  have nEO:=fb nGe b3
  have bR:=bd.get cI
  have nEP:=fb nGf b3
  have cW:=bd.get eR
  have nEQ:=fb nGg b3
  refine oN 1<|sr<|oX 1 ?_
  refine oq 36 (qS bM 0) fun nHJ nGi=>WO.nil<|cq nGi (fun cf=>?_) (fun cf=>?_)
  ·
   refine sr<|WO.cons (WC.iz (G+1+1+1) (0) [Y 0,.slice none (0) 0,.bool false] U uF nW bR rfl<|oX 1<|oS (G+1+1+1) (0) (.agg ⟨[Y 0,.slice none (0) 0,.bool false]⟩) [Y 0,.slice none (0) 0,.bool false] [Y 0,.slice none (0) 0,.bool false] nW rfl (fe.2 ⟨rfl,fe.2 ⟨rfl,fe.2 ⟨rfl,fe.2 ⟨rfl,rfl⟩⟩⟩⟩) bR fun nHf nEe nDT nEo=>?_)
   refine oS (G+1+1+1+1) (0) (Y bM) [Y bM] [Y bM] qU rfl rfl ((nEo (G+1+1+1+1) om).trans cW) fun nHg nEf nDU nEp=>?_
   refine wr ⟨rfl,.inl ⟨rfl,[.agg ⟨[Y 0,.slice none (0) 0,.bool false]⟩,Y bM],(qy (by rw[show(f_ (.tmp 6)).run _=pt (G+1+1+1) 0 from by kernel_rfl];exact jV uF nW ((nEp (G+1+1+1) om).trans nDT) rfl) (by rw[show(f_ (.tmp 7)).run _=pt (G+1+1+1+1) 0 from by kernel_rfl];exact ki qc nDU rfl)),?_⟩⟩
   have nGV:bM=240:=nFY.resolve_left cf
   refine⟨⟨0,⟨.slice none 0 0,[]⟩,false⟩,_,rfl,⟨tB⟩,?_,od,((cL.trans nEe).trans nEf)⟩
   rw[nGV];exact .Lc (fu.1 bB) (fun h=>cf (e4.2 h)) rfl
  ·
   refine WP.skip<|sr ?_
   have bg:sh F:=e4.1 (fu.1 cf)
   refine oA [.slice none (0) 0] Vz fun nHh aL nDV=>?_
   have nER:=fb nEN (fh (K))
   have cX:=aL.get (bd.get (bc.get eP))
   have nES:=fb nEO (fh (K))
   have nET:=fb nEP (fh (K))
   have nEU:=fb nEQ (fh (K))
   refine WO.nil<|WP.seq<|sr<|oX 1 ?_
   obtain⟨a152,ew,b9⟩:=hr.iH.shape
   have nGJ:=hr.iH.2.2
   refine oZ (G+1+1) 0 (.slice a152 (r.iH.l.length) ew) lO cX (by rw[<-b9];rfl)<|oN 2<|WP.block ?_
   refine mu [4,5,6,7,10,40,41,42] (fun m hs ns vs=>∃(X:Nat) (M:SV im),X+m=r.iH.l.length/\vs=[pt (G+1) 0,pt (G+1+1) 0,pt (G+1+1+1) 0,pt (G+1+1+1+1) 0,pt K 0,.slice a152 (r.iH.l.length) ew,Y (.ofNat (r.iH.l.length)),Y (.ofNat X)]/\K+1<=ns/\HE G O hs/\hs.get G=some (.cells (iT C) gm.plain)/\hs.get (G+1)=some (.cells (gO F) gm.plain)/\hs.get (G+1+1)=some (.cells (pz r) gm.plain)/\hs.get (G+1+1+1)=some (.cells [Y 0,.slice none (0) 0,.bool false] gm.plain)/\hs.get (G+1+1+1+1)=some (.cells [Y 0] gm.plain)/\hs.get K=some (.cells [M.v] gm.plain)/\(mD ja 3 (K+1) hs ns M)/\(M.l.map some=(r.iH.l.take X).map (ug F))/\(∀x∈M.l,x∈F.fc.l)/\(M.l.length=X)) ?_ (r.iH.l.length) ?_
   ·
    rintro nHG b6 e _ ⟨X,M,nGF,rfl,aS,bo,nFh,cc,dU,dV,dW,dX,hG,cV,cp,nFu⟩ nG1
    have nEV:=fb nER aS
    have nEW:=fb nES aS
    have nEX:=fb nET aS
    have nEY:=fb nEU aS
    have nEZ:=fb (fo (K)) aS
    have cU:=hG.ok (Ed _) om
    refine sr ?_
    refine oq 43 (kT X r.iH.l.length) fun nHK nGj=>WO.nil<|WP.seq<|cq nGj (fun nGs=>?_) (fun nGs=>?_)
    ·
     refine WP.skip<|WP.seq<|WP.block<|sr ?_
     have cu:X<r.iH.l.length:=by omega
     refine WO.cons (WC.iy b9 hr.iH (X) lP kH (cu) ?_)
     obtain⟨cK,ca⟩:=gE cu
     refine WO.cons (WC.lz (Y cK) b9 (hr.iH.mono bo nR) ca rfl fy<|oN 1<|sr<|WO.cons (WC.iz (G+1) (0) (gO F) U pF oJ cc rfl<|oX 1<|WO.cons (WC.call 49 11 ([.agg (gO F).toArray,Y cK]) kf ((Nn F (cK) b6 (e) (aO.mono bo)).mono ?_))))
     rintro _ nEt cd ⟨⟨nH3,ey,rfl,ct⟩,nHc,an⟩
     have nGk:ey=true↔(ey=true):=gk
     have bN:=bo.trans an
     have cY:=an.get cc
     have bS:=an.get dV
     have cZ:=an.get dW
     have c0:=an.get dX
     refine oN 5<|WP.seq<|sr<|oX 1 ?_
     refine oq 53 (nN nGk) fun nHL nGl=>WO.nil<|cq nGl (fun cJ=>?_) (fun cJ=>?_)
     ·
      refine sr<|WO.cons (WC.iz (G+1+1+1) (0) [Y 0,.slice none (0) 0,.bool false] U uF nW bS rfl<|oS (G+1+1+1) (0) (.agg ⟨[Y 0,.slice none (0) 0,.bool false]⟩) [Y 0,.slice none (0) 0,.bool false] [Y 0,.slice none (0) 0,.bool false] nW rfl (fe.2 ⟨rfl,fe.2 ⟨rfl,fe.2 ⟨rfl,fe.2 ⟨rfl,rfl⟩⟩⟩⟩) bS fun nHi nEg nDW nEq=>?_)
      refine oS (G+1+1+1+1) (0) (Y 250) [Y 250] [Y 250] qU rfl rfl ((nEq (G+1+1+1+1) om).trans cZ) fun nHj nEh nDX nEr=>?_
      refine wr ⟨rfl,.inl ⟨rfl,[.agg ⟨[Y 0,.slice none (0) 0,.bool false]⟩,Y 250],(qy (by rw[show(f_ (.tmp 6)).run _=pt (G+1+1+1) 0 from by kernel_rfl];exact jV uF nW ((nEr (G+1+1+1) om).trans nDW) rfl) (by rw[show(f_ (.tmp 7)).run _=pt (G+1+1+1+1) 0 from by kernel_rfl];exact ki qc nDX rfl)),?_⟩⟩
      exact⟨⟨0,⟨.slice none 0 0,[]⟩,false⟩,_,rfl,⟨tB⟩,.find (fu.1 bB) bg (fa ca) ((yG.ug ct).elim (fun k=>k.2) (fun⟨_,_,_,k,_⟩=>absurd k cJ)) rfl,od,((bN.trans nEg).trans nEh)⟩
     ·
      refine WP.skip<|WP.qZ [⟨[0,1,2,3,4,5,6],[0,1,2,3,4,5,6],some 7⟩,⟨[],[],some 8⟩,⟨[],[],none⟩] U _ rfl<|WD.kZ ?_
      obtain⟨ej,ez,bs⟩:=cU.shape
      have nGK:=cU.2.2
      refine WN.hZ rfl (WC.jW K (0) (.slice ej (M.l.length) ez) U ow c0 (by rw[<-bs];rfl)<|nv 56 (pt (G+1) (0+3)) ?_)
      obtain⟨en,eA,aE⟩:=aO.fc.1.shape
      have nGL:=aO.fc.1.2.2
      refine WN.hZ rfl (WC.jW (G+1) (0+3) (.slice en (F.fc.l.length) eA) U ow cY (by rw[<-aE];rfl) ?_)
      obtain⟨k,aP,nFB,_,bj,nGH⟩:=(yG.ug ct).resolve_left (fun h=>cJ (by rw[h.1];decide))
      refine nv 58 (Y (.ofNat k)) ?_ (fun _ _ _=>by rw[<-nFB];kernel_rfl)
      have cw:k<F.fc.l.length:=(fp.1 bj).1
      refine WN.hZ rfl (WC.iy aE aO.fc.1 (k) uy mS (cw)<|WN.hZ rfl (WC.ly aE (aO.fc.1.mono bN nR) bj zn mS<|WN.hZ rfl (WC.buildSlice [Y aP.nG,aP.lE.v,aP.fV.v] rfl U ?_)))
      obtain⟨nHk,dF,ao,c3⟩:=boxed nEt (cd) [Y aP.nG,aP.lE.v,aP.fV.v]
      rw[dF];clear dF
      have cM:=bN.trans ao
      have c5:=ao.get cY
      have c6:=ao.get c0
      refine WN.nil ⟨?_,?_⟩
      ·
       refine qk K 0 (.slice ej (M.l.length) ez) ow c6 (by rw[<-bs];rfl) (bs▸cU.jA 8)<|cv (pt (G+1) (0+3)) (iR ..)<|qk (G+1) (0+3) (.slice en (F.fc.l.length) eA) ow c5 (by rw[<-aE];rfl) (aE▸aO.fc.1.jA 8)<|cv (Y (.ofNat k)) (iF ..) ?_ (fun _=>by rw[<-nFB];kernel_rfl)
       refine y0 aE aO.fc.1 (k) uy mS (cw)<|Z4 aE (aO.fc.1.mono cM nR) bj zn mS (Lq aP (aO.fc.2 aP (fa bj)))<|jc.new cd (.slice (some ⟨cd,0,none⟩) (1) 1) [Y aP.nG,aP.lE.v,aP.fV.v] (fun _=>by kernel_rfl) c3 (u9 ..) (by simp[uU,iF,iO,wL,xW,(aO.fc.2 aP (List.mem_of_getElem? bj)).lE.jA 8,(aO.fc.2 aP (List.mem_of_getElem? bj)).fV.1.jA 8]) ?_
       exact jc.nil
      obtain⟨inf,pI,vL⟩:=Rs
      refine WC.at rfl (WC.C4 (enc:=ja) (J:=M) aP rfl (by rw[bs];kernel_rfl) U (hG.mono (((HE.refl (e) b6).trans an).trans ao)) (Ed _) c3 rfl uy mS B_ pI rfl (xD aP (aO.fc.2 aP (fa bj))) vL om om rfl ?_)
      rintro ei eX nFC bQ eW af bK
      have eL:=bK.ok (Ed _) (by rw[bQ,List.length_append];simp;omega)
      refine WD.kZ<|WN.nil ⟨?_,?_⟩
      ·
       exact jc.nil
      refine WC.at rfl (WC.u_ K (0) (ei.v) [M.v] [ei.v] [ei.v] 1 rfl U U Vy eL.cells (fe.2 ⟨rfl,by rw[List.all_cons,eL.one];rfl⟩) ((af _ om).trans c6) rfl rfl rfl ?_)
      obtain⟨nHl,dG,nEi,nDY,aM⟩:=stored eX K (.cells [ei.v] gm.plain)
      rw[dG];clear dG
      refine WD.last<|WN.nil ⟨?_,?_⟩
      ·
       exact jc.nil
      refine WP.region<|ov 63 (Y (.ofNat (X+1))) ?_ (fun _ _ _=>by rw[<-gQ (show X+1<9223372036854775808 by omega)];kernel_rfl)
      refine oN 1<|⟨r.iH.l.length-(X+1),om,rfl,rfl,X+1,ei,om,U,?_,?_,?_,?_,?_,?_,?_,?_,?_,?_,?_,?_⟩
      · exact od
      · exact((cM.trans af).trans nEi)
      · exact((aM G om).trans ((af _ om).trans (ao.get (an.get nFh))))
      · exact((aM (G+1) om).trans ((af _ om).trans c5))
      · exact((aM (G+1+1) om).trans ((af _ om).trans (ao.get (an.get dU))))
      · exact((aM (G+1+1+1) om).trans ((af _ om).trans (ao.get bS)))
      · exact((aM (G+1+1+1+1) om).trans ((af _ om).trans (ao.get cZ)))
      · exact nDY
      · exact bK.te (fun q o=>aM q om)
      · rw[bQ];exact LD cV ca nGH
      · intro x hx;rw[bQ]at hx;rcases List.mem_append.1 hx with hx|hx
        · exact cp x hx
        · rw[List.mem_singleton.1 hx];exact fa bj
      · rw[bQ,List.length_append,nFu];rfl
    ·
     refine WP.exit<|sr<|oA [.slice none (0) 0] Hz fun nHm ax nDZ=>?_
     have nE0:=fb nEV (fh (e))
     have nE1:=fb nEW (fh (e))
     have nE2:=fb nEX (fh (e))
     have nE3:=fb nEY (fh (e))
     have nE4:=fb nEZ (fh (e))
     refine WO.nil<|sr<|oA [.bool false] Xx fun nHn aq nD0=>?_
     have nE5:=fb nE0 (fh (e+1))
     have nE6:=fb nE1 (fh (e+1))
     have nE7:=fb nE2 (fh (e+1))
     have nE8:=fb nE3 (fh (e+1))
     have nE9:=fb nE4 (fh (e+1))
     have nE_:=fb (fo (e)) (fh (e+1))
     refine oS (e+1) (0) (.bool false) [.bool false] [.bool false] P1 rfl rfl nD0 fun nEu dv nD1 aN=>?_
     have cN:=((bo.trans ax).trans aq).trans dv
     have c7:=(aN (G+1) om).trans (aq.get (ax.get cc))
     refine WO.nil<|WP.seq<|sr<|WO.cons (WC.iz (G+1) (0) (gO F) U pF oJ c7 rfl<|WO.cons (WC.call 65 26 ([.agg (gO F).toArray]) kf ((OU F nEu (e+1+1) (aO.mono cN)).mono ?_)))
     rintro _ dy j ⟨bf,rfl,nFV,eU,nHR,aB,ag⟩
     have nFa:=fb nE5 aB
     have nFb:=fb nE6 aB
     have nFc:=fb nE7 aB
     have nFd:=fb nE8 aB
     have nFe:=fb nE9 aB
     have nFf:=fb nE_ aB
     have nFg:=fb (fo (e+1)) aB
     refine WO.nil<|WP.block<|WP.M3 (.func (.func 59) #[] #[pt bf 0]) U fun cj cz=>?_
     obtain⟨aY,dK⟩:∃h:Ht,h=(dy.set (j) (some (.deferred (some [])))).set (j+1) (some (.loop cj)):=⟨_,rfl⟩
     rw[<-dK]
     have nFz:aY.get (j)=some (.deferred (some [])):=by rw[dK];exact(Tr.gG _ _ om).trans (Tr.ig ..)
     have nFA:aY.get (j+1)=some (.loop cj):=by rw[dK];exact Tr.ig ..
     have aQ:HE (j) dy aY:=by rw[dK];exact(HE.set _ _ nR).trans (HE.set _ _ (fh _))
     have nF5:=aQ.get (ag.get c7)
     have nH0:=nFa
     have dR:=aQ.get (ag.get ((aN (G+1+1) om).trans (aq.get (ax.get dU))))
     have nHD:=nFb
     have dS:=aQ.get (ag.get ((aN (G+1+1+1) om).trans (aq.get (ax.get dV))))
     have nHE:=nFc
     have dT:=aQ.get (ag.get ((aN (G+1+1+1+1) om).trans (aq.get (ax.get dW))))
     have nHF:=nFd
     have e5:=aQ.get (ag.get ((aN K om).trans (aq.get (ax.get dX))))
     have nGY:=nFe
     have cD:=aQ.get (ag.get ((aN e om).trans (aq.get nDZ)))
     have nGZ:=nFf
     have cE:=aQ.get (ag.get nD1)
     have nG0:=nFg
     have nF6:=aQ.get nFV eU
     have nH1:=eU
     have cS:HE G O aY:=(cN.trans ag).trans aQ
     have nHS:G+2<=j:=by omega
     have nGD:r.iH.l.take X=r.iH.l:=fJ om
     rw[nGD]at cV
     have nG4:2<=M.l.length:=by rw[nFu];omega
     have nFr:∀q∈[(G+1+1+1),(G+1+1+1+1),e,(e+1),(j+1)],G<=q:=by intro q o;simp only[List.mem_cons,List.not_mem_nil,or_false]at o;omega
     have nFt:kB (j3 [(G+1+1+1),(G+1+1+1+1),e,(e+1),(j+1)] aY) (j+1+1) F:=aO.mono (cS.DW nFr)
     have nGC:jC ja 3 (fun O G y=>mr O G y) (j3 [(G+1+1+1),(G+1+1+1+1),e,(e+1),(j+1)] aY) (j+1+1) M:=⟨(((cU.mono (((((HE.refl (e) b6).trans ax).trans aq).trans dv).trans ag))).mono aQ).TC (by
      intro q o m
      simp only[List.mem_cons,List.not_mem_nil,or_false]at o
      rcases o with rfl|rfl|rfl|rfl|rfl
      · exact vy (enc:=ja) (k:=3) (fun _=>rfl) dS _ (show(3:Nat)≠_ by omega) m
      · exact vy (enc:=ja) (k:=3) (fun _=>rfl) dT _ (show(1:Nat)≠_ by omega) m
      · exact vy (enc:=ja) (k:=3) (fun _=>rfl) cD _ (show(1:Nat)≠_ by omega) m
      · exact vy (enc:=ja) (k:=3) (fun _=>rfl) cE _ (show(1:Nat)≠_ by omega) m
      · exact BT nFA _ m),fun x hx=>(aO.fc.2 x (cp x hx)).mono (cS.DW nFr)⟩
     refine(WV.func (f:=59) (show WF ex 59 (.func (.yield (j+1)) #[] #[]::(#[pt bf 0]:Array Value).toList) aY (j+1+1) _ from(Lu F (.func (.yield (j+1)) #[] #[]) [(G+1+1+1),(G+1+1+1+1),e,(e+1),(j+1)] bf (Oe F.fx M.l ((G+1+1+1)) ((G+1+1+1+1)) (e) ((e+1)) (j+1) (j+1+1) cj) (Zz ((G+1+1+1)) ((G+1+1+1+1)) (j+1) (j+1+1) cj) (fun q=>q=bf) rfl aY (j+1+1) nFt aY (j+1+1) nF6 om nR (HE.refl _ _) ?_ (Oe.mono om om om om om) ?_))).mono ?_
     · refine⟨⟨.slice none 0 0,[]⟩,false,cD,cE,dS,dT,nFA,.nil,tB,fun q o=>?_,Nat.le_refl _⟩
       subst o;exact⟨om,by simp;omega⟩
     ·
      rintro Pr w MV nHZ a b hb dx ⟨J,aK,k1,k2,ee,ef,cB,k6,k7,cC,k9⟩
      have nGB:(G+1+1+1)<b/\(G+1+1+1+1)<b/\e<b/\(e+1)<b/\(j+1)<b:=by omega
      have nFs:kB (j3 [(G+1+1+1),(G+1+1+1+1),e,(e+1),(j+1)] a) b F:=nFt.mono dx hb
      have ae:jC ja 3 (fun O G y=>mr O G y) (j3 [(G+1+1+1),(G+1+1+1+1),e,(e+1),(j+1)] a) b M:=nGC.mono (fun _ h he hn=>h.mono he hn) dx hb
      have cT:gB fj 2 (j3 [(G+1+1+1),(G+1+1+1+1),e,(e+1),(j+1)] a) b J:=k7.Of k1 k2 ee ef cB
      have nF7:=(dx.rK (c:=(G+1)) om (by simp;omega)).trans nF5
      have e6:=(dx.rK (c:=K) om (by simp;omega)).trans e5
      have nGU:∀x∈M.l,x.fV.l.length=F.gj.l.length+1:=fun x hx=>bg.PY (cp x hx)
      refine WV.round (cj.tmps.set 66 (Y (.ofNat w))) cB rfl (by rw[cz]) (by rw[cz];rfl) ?_
      subst cz
      refine WP.region<|oN 1<|⟨rfl,cB,fun nGI bD bH=>?_⟩
      have nDN:=(HE.refl b (j3 [(G+1+1+1),(G+1+1+1+1),e,(e+1),(j+1)] a)).trans (HE.oH (B:=b) (l:=[(G+1+1+1),(G+1+1+1+1),e,(e+1),(j+1)]) fun q _ o=>bH q fun h=>o (by rw[h];simp))
      have c8:=(bH K om).trans e6
      refine WP.block<|sr<|oN 1<|WP.seq<|sr ?_
      obtain⟨eo,eB,b_⟩:=ae.1.shape
      have nGM:=ae.1.2.2
      refine oZ K (0) (.slice eo (M.l.length) eB) ow c8 (by rw[<-b_];rfl)<|oN 2<|WP.block ?_
      refine mu [4,6,7,15,16,17,18,67,68,69] (fun m hs ns vs=>∃(R:Nat) (bk:SV (SV fQ)) (gr:Nat) (av:Bool),R+m=M.l.length/\vs=[pt (G+1) 0,pt (G+1+1+1) 0,pt (G+1+1+1+1) 0,pt e 0,pt (e+1) 0,Y (.ofNat w),bk.v,.slice eo (M.l.length) eB,Y (.ofNat (M.l.length)),Y (.ofNat R)]/\b<=ns/\HE b (j3 [(G+1+1+1),(G+1+1+1+1),e,(e+1),(j+1)] a) (j3 [(G+1+1+1),(G+1+1+1+1),e,(e+1),(j+1)] hs)/\hs.get (G+1)=some (.cells (gO F) gm.plain)/\hs.get K=some (.cells [M.v] gm.plain)/\hs.get (G+1+1+1)=some (.cells [Y 0,.slice none (0) 0,.bool false] gm.plain)/\hs.get (G+1+1+1+1)=some (.cells [Y 0] gm.plain)/\hs.get e=some (.cells [J.v] gm.plain)/\hs.get (e+1)=some (.cells [.bool av] gm.plain)/\hs.get (j+1)=nGI.get (j+1)/\(mh lL 1 b gr (j3 [(G+1+1+1),(G+1+1+1+1),e,(e+1),(j+1)] hs) ns bk)/\(bk.l.map (·.l)=(M.l.take R).map (wT F.fx w))/\(∀y∈bk.l,gB fj 2 (j3 [(G+1+1+1),(G+1+1+1+1),e,(e+1),(j+1)] hs) ns y)/\(av=(aK||(M.l.take R).any (Ko w)))/\(∀x∈M.l.take R,xE [o6 F.fx (wo x w)])/\(bk.l.length=R)) ?_ (M.l.length) ?_
      ·
       rintro nHH b7 aa _ ⟨R,bk,gr,av,nGG,rfl,nEl,bp,nFi,nFj,dY,dZ,d_,ea,eb,bK,cn,bz,dD,eK,nGA⟩ nG2
       have nEL:=ff nR nEl
       have dQ:=HE.refl aa (j3 [(G+1+1+1),(G+1+1+1+1),e,(e+1),(j+1)] b7)
       have nG3:=fg aa
       have nGr:av=true↔(av=true):=gk
       refine sr ?_
       refine oq 70 (kT R M.l.length) fun nHM nGm=>WO.nil<|WP.seq<|cq nGm (fun nGt=>?_) (fun nGt=>?_)
       ·
        refine WP.skip<|WP.seq<|WP.block<|sr ?_
        have cx:R<M.l.length:=by omega
        refine WO.cons (WC.iy b_ ((ae.1.mono bp).qG) (R) uy mS (cx) ?_)
        obtain⟨W,p⟩:=gE cx
        refine WO.cons (WC.ly b_ ((ae.1.mono bp).qG) p zn mS<|oA [Y 0,.slice none (0) 0,.slice none (0) 0] B_ fun nHo ah nD2=>?_)
        have nFk:=ff nG3 (fh (aa))
        refine oS aa (0) (.agg (ja W).toArray) (ja W) (ja W) mS rfl (fe.2 ⟨rfl,xD _ (ae.2 W (fa p))⟩) nD2 fun dz dw c9 aC=>?_
        have aw:=(bp.trans (ah.j3 (l:=[(G+1+1+1),(G+1+1+1+1),e,(e+1),(j+1)]))).trans (dw.j3 (l:=[(G+1+1+1),(G+1+1+1+1),e,(e+1),(j+1)]))
        have nEz:=(dQ.trans (ah.j3 (l:=[(G+1+1+1),(G+1+1+1+1),e,(e+1),(j+1)]))).trans (dw.j3 (l:=[(G+1+1+1),(G+1+1+1+1),e,(e+1),(j+1)]))
        have bT:=(aC (G+1) om).trans (ah.get nFi)
        refine WO.nil<|WP.seq<|WP.qZ [⟨[0,1,2,3,4,5],[0,1,2,3,4,5],some 6⟩,⟨[7,8,9,10],[7,8,9,10],some 11⟩,⟨[],[9,10],some 12⟩,⟨[],[10],some 13⟩,⟨[],[],none⟩] U _ rfl<|WD.kZ<|WN.hZ rfl (WC.iz (G+1) (0) (gO F) U pF oJ bT rfl<|nv 75 (pt aa (0+2)) ?_)
        obtain⟨ep,eC,aF⟩:=(ae.2 W (fa p)).fV.1.shape
        have nGN:=(ae.2 W (fa p)).fV.1.2.2
        refine WN.hZ rfl (WC.jW aa (0+2) (.slice ep (W.fV.l.length) eC) U qz c9 (by rw[<-aF];rfl)<|nv 77 (Y (.ofNat w)) ?_)
        have bE:w<W.fV.l.length:=by have:=nGU _ (fa p);omega
        refine WN.hZ rfl (WC.iy aF (((ae.2 W (fa p)).fV.1.mono aw).qG) (w) ue sI (bE) ?_)
        obtain⟨N,ak⟩:=gE bE
        obtain⟨et,eD,bt⟩:=((ae.2 W (fa p)).fV.2 N (fa ak)).shape
        have nGO:=((ae.2 W (fa p)).fV.2 N (fa ak)).2.2
        refine WN.hZ rfl (WC.lz (.slice et (N.l.length) eD) aF (((ae.2 W (fa p)).fV.1.mono aw).qG) ak (by rw[<-bt];rfl) uc<|WN.nil ⟨?_,?_⟩)
        ·
         refine co (.agg (gO F).toArray) (kh ex.T dz.get 41 (pt (G+1) 0)) (jV pF oJ bT rfl) (Fs F nFs)<|cv (pt aa (0+2)) (iR ..)<|qk aa (0+2) (.slice ep (W.fV.l.length) eC) qz c9 (by rw[<-aF];rfl) (aF▸(ae.2 W (fa p)).fV.1.jA 8)<|ci (.ofNat w)<|y0 aF (((ae.2 W (fa p)).fV.1.mono aw).qG) (w) ue sI (bE)<|GN (.slice et (N.l.length) eD) aF (((ae.2 W (fa p)).fV.1.mono aw).qG) ak (by rw[<-bt];rfl) uc (bt▸((ae.2 W (fa p)).fV.2 N (fa ak)).jA 8) ?_
         exact jc.nil
        refine WC.at rfl (WC.call 80 27 ([.agg (gO F).toArray,N.v]) (fun _ _ _=>by(try rw[bt]);kernel_rfl) ((UW hC F N dz (aa+1) (nFs.mono aw).qG (((ae.2 W (fa p)).fV.2 N (fa ak)).mono aw).qG bg.Sr (bg.Vx (cp _ (fa p)) (fa ak)) (ff (Xw (fa ak)) (ff (hw _ (cp _ (fa p))) (by decide)))).mono ?_))
        rintro _ nEv S ⟨ck,a6,rfl,nFM,eM,nEm,ai⟩
        have cO:=aw.trans (ai.j3 (l:=[(G+1+1+1),(G+1+1+1+1),e,(e+1),(j+1)]))
        have bn:=ai.get ((aC (G+1+1+1) om).trans (ah.get dY))
        have bU:=ai.get ((aC (G+1+1+1+1) om).trans (ah.get dZ))
        have c_:=ai.get ((aC e om).trans (ah.get d_))
        have bV:=ai.get ((aC (e+1) om).trans (ah.get ea))
        have bW:=ai.get ((aC (j+1) om).trans (ah.get eb))
        have dL:=nEz.trans (ai.j3 (l:=[(G+1+1+1),(G+1+1+1+1),e,(e+1),(j+1)]))
        have nFl:=ff nFk nEm
        have cr:=nFM.Of c_ bV bn bU (bW.trans bD)
        have eZ:=Gi ak
        have dM:=HE.refl S (j3 [(G+1+1+1),(G+1+1+1+1),e,(e+1),(j+1)] nEv)
        have nFm:=fg S
        obtain⟨a7,a8,bu⟩:=cr.shape
        have nGP:=cr.2.2
        rw[bu]
        have nEs:(N.l.any (·.j2))=true↔((N.l.any (·.j2))=true):=gk
        refine WD.kZ<|nv 73 (.tuple ⟨[.slice a7 (ck.l.length) a8,.bool (N.l.any (·.j2)),Y a6]⟩)<|nv 81 (.slice a7 (ck.l.length) a8)<|nv 82 (.bool (N.l.any (·.j2)))<|nv 83 (Y a6)<|WN.nil ⟨?_,?_⟩
        ·
         refine cv (.tuple ⟨[.slice a7 (ck.l.length) a8,.bool (N.l.any (·.j2)),Y a6]⟩) (PD 7 _ (by intro v eY;simp only[List.mem_cons,List.not_mem_nil,or_false]at eY;rcases eY with rfl|rfl|rfl<;>first|exact iF ..|exact iO ..|exact(bu▸cr.jA 7))) ?_
         refine cv (.slice a7 (ck.l.length) a8) (bu▸cr.jA 8)<|cv (.bool (N.l.any (·.j2))) (iO 8 (N.l.any (·.j2)))<|cv (Y a6) (iF ..) ?_
         exact jc.nil
        refine WC.at rfl (WC.val 21 (.slice a7 (ck.l.length) a8) kf<|WD.kZ<|WN.nil ⟨?_,?_⟩)
        ·
         refine cv (.bool (N.l.any (·.j2))) (iO 8 (N.l.any (·.j2)))<|cv (Y a6) (iF ..) ?_
         exact jc.nil
        refine WC.at rfl (WC.val 22 (.bool (N.l.any (·.j2))) kf<|WD.kZ<|WN.nil ⟨?_,?_⟩)
        ·
         refine cv (Y a6) (iF ..) ?_
         exact jc.nil
        refine WC.at rfl (WC.val 23 (Y a6) kf<|WD.last<|WN.nil ⟨?_,?_⟩)
        ·
         exact jc.nil
        refine WP.seq<|sr<|oX 1 ?_
        refine oq 85 (qS a6 0) fun nHN nGn=>WO.nil<|cq nGn (fun e8=>?_) (fun e8=>?_)
        ·
         refine sr<|WO.cons (WC.iz (G+1+1+1) (0) [Y 0,.slice none (0) 0,.bool false] U uF nW bn rfl<|oX 1<|oS (G+1+1+1) (0) (.agg ⟨[Y 0,.slice none (0) 0,.bool false]⟩) [Y 0,.slice none (0) 0,.bool false] [Y 0,.slice none (0) 0,.bool false] nW rfl (fe.2 ⟨rfl,fe.2 ⟨rfl,fe.2 ⟨rfl,fe.2 ⟨rfl,rfl⟩⟩⟩⟩) bn fun nHp nG5 nD3 aT=>?_)
         have nEA:=dL.trans (HE.oH (B:=S) (l:=[(G+1+1+1),(G+1+1+1+1),e,(e+1),(j+1)]) fun q _ o=>aT q fun h=>o (by rw[h];simp))
         have nEB:=dM.trans (HE.oH (B:=S) (l:=[(G+1+1+1),(G+1+1+1+1),e,(e+1),(j+1)]) fun q _ o=>aT q fun h=>o (by rw[h];simp))
         have nDO:=cO.trans (HE.oH (B:=S) (l:=[(G+1+1+1),(G+1+1+1+1),e,(e+1),(j+1)]) fun q _ o=>aT q fun h=>o (by rw[h];simp))
         refine oS (G+1+1+1+1) (0) (Y a6) [Y a6] [Y a6] qU rfl rfl ((aT (G+1+1+1+1) om).trans bU) fun nHq nG6 nD4 aU=>?_
         have nHy:=nEA.trans (HE.oH (B:=S) (l:=[(G+1+1+1),(G+1+1+1+1),e,(e+1),(j+1)]) fun q _ o=>aU q fun h=>o (by rw[h];simp))
         have nHz:=nEB.trans (HE.oH (B:=S) (l:=[(G+1+1+1),(G+1+1+1+1),e,(e+1),(j+1)]) fun q _ o=>aU q fun h=>o (by rw[h];simp))
         have cP:=nDO.trans (HE.oH (B:=S) (l:=[(G+1+1+1),(G+1+1+1+1),e,(e+1),(j+1)]) fun q _ o=>aU q fun h=>o (by rw[h];simp))
         refine WO.nil ?_
         have al:=((aU (j+1) om).trans ((aT (j+1) om).trans bW)).trans bD
         refine WP.ret ⟨rfl,al,fun dC aR u=>⟨(show b<=S by omega),(HE.oH fun q o hn=>(u q (fun h=>hn (by rw[h];simp))).trans (cP.rK om (by simp at hn⊢;omega))),(fun q o a_=>by obtain⟨p1,aH⟩:=cC q a_;exact(u q (fun h=>aH (by rw[h];simp))).trans (cP.rK o (by simp at aH⊢;omega))),false,rfl,(fun h=>by cases h),fun _=>⟨(u _ om).trans ((aU (G+1+1+1) om).trans nD3),⟨a6,(eM.elim (fun h=>absurd h.1 e8) (fun h=>h.1)),(u _ om).trans nD4⟩,aR,(show(j+1+1)<=S by omega)⟩⟩⟩
        ·
         refine WP.skip<|sr<|oZ (e+1) (0) (.bool av) xp bV rfl<|oX 1<|og 89 (!av) (.bool (N.l.any (·.j2))) (.bool av) (by cases av<;>rfl) (fun h=>by obtain rfl:=bF h;exact fun _ _ _=>by kernel_rfl) ?_
         obtain⟨bx,eF,nH2⟩:=nO nGr nEs
         refine WO.cons (WC.mq (v:=.bool bx) 91 (lu (.bool av) (.bool true) ((bif !av then .bool (N.l.any (·.j2))else undef))) kf (by rw[eF];exact lg (fun h=>by obtain rfl:av=false:=h;rfl))<|oS (e+1) (0) (.bool bx) [.bool bx] [.bool bx] P1 rfl rfl bV fun nHr nG7 nD5 aj=>?_)
         have nEC:=dL.trans (HE.oH (B:=S) (l:=[(G+1+1+1),(G+1+1+1+1),e,(e+1),(j+1)]) fun q _ o=>aj q fun h=>o (by rw[h];simp))
         have nED:=dM.trans (HE.oH (B:=S) (l:=[(G+1+1+1),(G+1+1+1+1),e,(e+1),(j+1)]) fun q _ o=>aj q fun h=>o (by rw[h];simp))
         have nDP:=cO.trans (HE.oH (B:=S) (l:=[(G+1+1+1),(G+1+1+1+1),e,(e+1),(j+1)]) fun q _ o=>aj q fun h=>o (by rw[h];simp))
         refine WO.nil<|WP.region<|oX 2<|oL [.slice a7 (ck.l.length) a8] fun nHs ad nD6=>?_
         have dN:=nEC.trans (ad.j3 (l:=[(G+1+1+1),(G+1+1+1+1),e,(e+1),(j+1)]))
         have nFn:=ff nFl (fh (S))
         have nFo:=ff nFm (fh (S))
         have nFv:=cr.mono (nED.trans (ad.j3 (l:=[(G+1+1+1),(G+1+1+1+1),e,(e+1),(j+1)]))) nFo
         have eI:=bK.mono dN nFn
         obtain⟨inf,pI,vL⟩:=TD
         refine WO.cons (WC.M1 (enc:=lL) (J:=bk) ck rfl U U eI.qG (fun _ _=>rfl) nD6 (by rw[<-bu];rfl) Be qT Hz pI rfl (fe.2 ⟨nFv.one,rfl⟩) vL om om rfl ?_)
         rintro nFq eX nFC nGx cF eW nFy af nFI _
         have nFJ:=nFI.DW (L:=[(G+1+1+1),(G+1+1+1+1),e,(e+1),(j+1)]) (by intro q o;simp only[List.mem_cons,List.not_mem_nil,or_false]at o;omega)
         have nFL:=nFv.PZ eI.qG nFy eW
         have nFK:∀y∈nFq.l,gB fj 2 (j3 [(G+1+1+1),(G+1+1+1+1),e,(e+1),(j+1)] eX) nFC y:=by
          intro y hy;rw[cF]at hy
          rcases fR.1 hy with hy|hy
          · exact((bz y hy).mono dN).PZ eI.qG nFy eW
          · rw[List.mem_singleton.1 hy];exact nFL
         have nDQ:=(nDP.trans (ad.j3 (l:=[(G+1+1+1),(G+1+1+1+1),e,(e+1),(j+1)]))).trans (af.j3 (l:=[(G+1+1+1),(G+1+1+1+1),e,(e+1),(j+1)]))
         refine oN 1<|WP.region<|ov 96 (Y (.ofNat (R+1))) ?_ (fun _ _ _=>by rw[<-gQ (show R+1<9223372036854775808 by omega)];kernel_rfl)
         refine oN 1<|⟨M.l.length-(R+1),om,rfl,rfl,R+1,nFq,nGx,bx,om,U,?_,?_,?_,?_,?_,?_,?_,?_,?_,?_,?_,?_,?_,?_,?_⟩
         · exact od
         · exact nDQ
         · exact((af _ om).trans (ad.get ((aj (G+1) om).trans (ai.get bT))))
         · exact((af _ om).trans (ad.get ((aj K om).trans (ai.get ((aC K om).trans (ah.get nFj))))))
         · exact((af _ om).trans (ad.get ((aj (G+1+1+1) om).trans bn)))
         · exact((af _ om).trans (ad.get ((aj (G+1+1+1+1) om).trans bU)))
         · exact((af _ om).trans (ad.get ((aj e om).trans c_)))
         · exact((af _ om).trans (ad.get nD5))
         · exact((af _ om).trans (ad.get ((aj (j+1) om).trans bW)))
         · exact nFJ
         · have nGT:ck.l=wT F.fx w W:=by unfold wT;rw[eZ];exact eM.elim (fun h=>h.2.1) (fun h=>absurd (show a6≠0 by omega) (by assumption))
           rw[cF,List.map_append,cn,LF p,<-nGT];rfl
         · exact nFK
         · rw[LH p,<-Bool.or_assoc,<-dD];unfold Ko;rw[eZ];exact eF
         · intro x hx;rcases LI p hx with hx|rfl
           · exact eK x hx
           · rw[eZ];exact eM.elim (fun h=>h.2.2) (fun h=>absurd (show a6≠0 by omega) (by assumption))
         · rw[cF,List.length_append,nGA];rfl
       ·
        refine WP.exit<|WP.seq<|sr<|oX 1 ?_
        have nGE:M.l.take R=M.l:=fJ om
        rw[nGE]at cn dD eK
        have eJ:jC lL 1 (fun O G y=>gB fj 2 O G y) b7 (aa) bk:=⟨(bK.mono dQ).qG.ok (fun _ _=>rfl) om,fun y hy=>((bz y hy).mono dQ).qG⟩
        refine oD 98 (FV (A:=fun y=>y.l=[]) bk 29 #[] b7 (aa) eJ (fun i x hx e9 e_ hn he=>TE x e9 e_ ((eJ.2 x (fa hx)).mono he hn))) fun nHO nGo nEw bw nEn ay=>?_
        have bl:=bp.trans (ay.j3 (l:=[(G+1+1+1),(G+1+1+1+1),e,(e+1),(j+1)]))
        have da:=ay.get dY
        have db:=ay.get dZ
        have dc:=ay.get d_
        have dd:=ay.get ea
        have de:=ay.get eb
        have cb:=dQ.trans (ay.j3 (l:=[(G+1+1+1),(G+1+1+1+1),e,(e+1),(j+1)]))
        have nEM:=ff nEL nEn
        refine WO.nil<|cq nGo (fun nDH=>?_) (fun nDH=>?_)
        ·
         refine WP.exit ?_
         have bI:=tf.skip (w:=w) k6 (Oi cn nDH)
         rw[<-dD]at bI
         have bz:=(cT.mono bl nEM).qG
         have al:=de.trans bD
         refine⟨rfl,al,fun dC aR u=>⟨(show b<=bw by omega),(HE.oH fun q o hn=>(u q (fun h=>hn (by rw[h];simp))).trans (bl.rK om (by simp at hn⊢;omega))),(fun q o a_=>by obtain⟨p1,aH⟩:=cC q a_;exact(u q (fun h=>aH (by rw[h];simp))).trans (bl.rK o (by simp at aH⊢;omega))),true,rfl,fun _=>⟨J,av,(u _ om).trans dc,(u _ om).trans dd,(u _ om).trans da,(u _ om).trans db,aR,bI,bz.Kn (BT al _) u,fun q a_=>?_,(show(j+1+1)<=bw by omega)⟩,(fun h=>by cases h)⟩⟩
         obtain⟨p1,aH⟩:=cC q a_;exact⟨(show q<bw by omega),aH⟩
        ·
         refine WP.skip<|sr<|oX 1<|WO.cons (WC.call 101 30 ([bk.v,.func (.func 31) #[] #[]]) kf ((Xf hC bk nEw (bw) ⟨(bK.mono cb).qG.ok (fun _ _=>rfl) om,fun y hy=>((bz y hy).mono cb).qG⟩).mono ?_))
         rintro _ dA au ⟨⟨JX,eh,rfl,nFO,nFx⟩,nHd,az⟩
         have bO:=bl.trans (az.j3 (l:=[(G+1+1+1),(G+1+1+1+1),e,(e+1),(j+1)]))
         have bX:=az.get da
         have df:=az.get db
         have dg:=az.get dc
         have dh:=az.get de
         have dO:=cb.trans (az.j3 (l:=[(G+1+1+1),(G+1+1+1+1),e,(e+1),(j+1)]))
         refine oN 5<|WP.seq<|sr<|oX 1 ?_
         refine oq 105 (qS eh 0) fun nHP nGp=>WO.nil<|cq nGp (fun nDI=>?_) (fun nDI=>?_)
         ·
          refine sr<|WO.cons (WC.iz (G+1+1+1) (0) [Y 0,.slice none (0) 0,.bool false] U uF nW bX rfl<|oX 1<|oS (G+1+1+1) (0) (.agg ⟨[Y 0,.slice none (0) 0,.bool false]⟩) [Y 0,.slice none (0) 0,.bool false] [Y 0,.slice none (0) 0,.bool false] nW rfl (fe.2 ⟨rfl,fe.2 ⟨rfl,fe.2 ⟨rfl,fe.2 ⟨rfl,rfl⟩⟩⟩⟩) bX fun nHt nG8 nD7 bq=>?_)
          have nEE:=dO.trans (HE.oH (B:=au) (l:=[(G+1+1+1),(G+1+1+1+1),e,(e+1),(j+1)]) fun q _ o=>bq q fun h=>o (by rw[h];simp))
          have nDR:=bO.trans (HE.oH (B:=au) (l:=[(G+1+1+1),(G+1+1+1+1),e,(e+1),(j+1)]) fun q _ o=>bq q fun h=>o (by rw[h];simp))
          refine oS (G+1+1+1+1) (0) (Y eh) [Y eh] [Y eh] qU rfl rfl ((bq (G+1+1+1+1) om).trans df) fun nHu nG9 nD8 br=>?_
          have nHA:=nEE.trans (HE.oH (B:=au) (l:=[(G+1+1+1),(G+1+1+1+1),e,(e+1),(j+1)]) fun q _ o=>br q fun h=>o (by rw[h];simp))
          have cQ:=nDR.trans (HE.oH (B:=au) (l:=[(G+1+1+1),(G+1+1+1+1),e,(e+1),(j+1)]) fun q _ o=>br q fun h=>o (by rw[h];simp))
          refine WO.nil ?_
          have al:=((br (j+1) om).trans ((bq (j+1) om).trans dh)).trans bD
          refine WP.ret ⟨rfl,al,fun dC aR u=>⟨(show b<=au by omega),(HE.oH fun q o hn=>(u q (fun h=>hn (by rw[h];simp))).trans (cQ.rK om (by simp at hn⊢;omega))),(fun q o a_=>by obtain⟨p1,aH⟩:=cC q a_;exact(u q (fun h=>aH (by rw[h];simp))).trans (cQ.rK o (by simp at aH⊢;omega))),false,rfl,(fun h=>by cases h),fun _=>⟨(u _ om).trans ((br (G+1+1+1) om).trans nD7),⟨eh,(nFx.elim (fun h=>absurd h.1 nDI) (fun h=>h.1)),(u _ om).trans nD8⟩,aR,(show(j+1+1)<=au by omega)⟩⟩⟩
         ·
          refine WP.skip<|sr ?_
          obtain⟨nFF,nFG,dE⟩:=cT.shape
          have nGQ:=cT.2.2
          refine oZ e (0) (.slice nFF (J.l.length) nFG) ox dg (by rw[<-dE];rfl)<|oX 1<|WO.cons (WC.call 111 32 ([J.v,JX.v]) (fun _ _ _=>by(try rw[dE]);kernel_rfl) ((Nq hC J JX dA (au) (cT.mono bO).qG (nFO.mono (HE.refl (au) dA))).mono ?_))
          rintro _ nEx E ⟨⟨JU,eg,rfl,nFN,nFw⟩,nHe,aA⟩
          have di:=aA.get bX
          have dj:=aA.get df
          have dm:=aA.get dg
          have dn:=aA.get (az.get dd)
          have dp:=aA.get dh
          have eN:=nFN.Of dm dn di dj (dp.trans bD)
          have nFp:=fg E
          refine oX 3<|oS e (0) (JU.v) [JU.v] [JU.v] qT eN.cells (fe.2 ⟨rfl,by rw[List.all_cons,eN.one];rfl⟩) dm fun nHv nG_ nD9 aD=>?_
          have nEF:=(dO.trans (aA.j3 (l:=[(G+1+1+1),(G+1+1+1+1),e,(e+1),(j+1)]))).trans (HE.oH (B:=E) (l:=[(G+1+1+1),(G+1+1+1+1),e,(e+1),(j+1)]) fun q _ o=>aD q fun h=>o (by rw[h];simp))
          have dP:=(HE.refl E (j3 [(G+1+1+1),(G+1+1+1+1),e,(e+1),(j+1)] nEx)).trans (HE.oH (B:=E) (l:=[(G+1+1+1),(G+1+1+1+1),e,(e+1),(j+1)]) fun q _ o=>aD q fun h=>o (by rw[h];simp))
          have bP:=(bO.trans (aA.j3 (l:=[(G+1+1+1),(G+1+1+1+1),e,(e+1),(j+1)]))).trans (HE.oH (B:=E) (l:=[(G+1+1+1),(G+1+1+1+1),e,(e+1),(j+1)]) fun q _ o=>aD q fun h=>o (by rw[h];simp))
          have bY:=(aD (G+1+1+1) om).trans di
          have dq:=(aD (G+1+1+1+1) om).trans dj
          have dr:=(aD (j+1) om).trans dp
          refine oN 1<|sr<|oX 1 ?_
          refine oq 115 (qS eg 0) fun nHQ nGq=>WO.nil<|cq nGq (fun nDJ=>?_) (fun nDJ=>?_)
          ·
           refine sr<|WO.cons (WC.iz (G+1+1+1) (0) [Y 0,.slice none (0) 0,.bool false] U uF nW bY rfl<|oX 1<|oS (G+1+1+1) (0) (.agg ⟨[Y 0,.slice none (0) 0,.bool false]⟩) [Y 0,.slice none (0) 0,.bool false] [Y 0,.slice none (0) 0,.bool false] nW rfl (fe.2 ⟨rfl,fe.2 ⟨rfl,fe.2 ⟨rfl,fe.2 ⟨rfl,rfl⟩⟩⟩⟩) bY fun nHw nHa nD_ aV=>?_)
           have nEG:=nEF.trans (HE.oH (B:=E) (l:=[(G+1+1+1),(G+1+1+1+1),e,(e+1),(j+1)]) fun q _ o=>aV q fun h=>o (by rw[h];simp))
           have nEH:=dP.trans (HE.oH (B:=E) (l:=[(G+1+1+1),(G+1+1+1+1),e,(e+1),(j+1)]) fun q _ o=>aV q fun h=>o (by rw[h];simp))
           have nDS:=bP.trans (HE.oH (B:=E) (l:=[(G+1+1+1),(G+1+1+1+1),e,(e+1),(j+1)]) fun q _ o=>aV q fun h=>o (by rw[h];simp))
           refine oS (G+1+1+1+1) (0) (Y eg) [Y eg] [Y eg] qU rfl rfl ((aV (G+1+1+1+1) om).trans dq) fun nHx nHb nEa aW=>?_
           have nHB:=nEG.trans (HE.oH (B:=E) (l:=[(G+1+1+1),(G+1+1+1+1),e,(e+1),(j+1)]) fun q _ o=>aW q fun h=>o (by rw[h];simp))
           have nHC:=nEH.trans (HE.oH (B:=E) (l:=[(G+1+1+1),(G+1+1+1+1),e,(e+1),(j+1)]) fun q _ o=>aW q fun h=>o (by rw[h];simp))
           have cR:=nDS.trans (HE.oH (B:=E) (l:=[(G+1+1+1),(G+1+1+1+1),e,(e+1),(j+1)]) fun q _ o=>aW q fun h=>o (by rw[h];simp))
           refine WO.nil ?_
           have al:=((aW (j+1) om).trans ((aV (j+1) om).trans dr)).trans bD
           refine WP.ret ⟨rfl,al,fun dC aR u=>⟨(show b<=E by omega),(HE.oH fun q o hn=>(u q (fun h=>hn (by rw[h];simp))).trans (cR.rK om (by simp at hn⊢;omega))),(fun q o a_=>by obtain⟨p1,aH⟩:=cC q a_;exact(u q (fun h=>aH (by rw[h];simp))).trans (cR.rK o (by simp at aH⊢;omega))),false,rfl,(fun h=>by cases h),fun _=>⟨(u _ om).trans ((aW (G+1+1+1) om).trans nD_),⟨eg,(nFw.elim (fun h=>absurd h.1 nDJ) (fun h=>h.1)),(u _ om).trans nEa⟩,aR,(show(j+1+1)<=E by omega)⟩⟩⟩
          ·
           refine WP.skip ?_
           have bI:=tf.add (w:=w) k6 (fun x hx h=>absurd (show∃y∈bk.l,y.l=[]from Oh cn hx h) (by assumption)) eK (nFx.elim (fun h=>cn▸h.2) (fun h=>absurd (show eh≠0 by omega) (by assumption))) (nFw.elim (fun h=>h.2) (fun h=>absurd (show eg≠0 by omega) (by assumption)))
           rw[<-dD]at bI
           have bz:=(eN.mono dP nFp).qG
           have al:=dr.trans bD
           refine⟨rfl,al,fun dC aR u=>⟨(show b<=E by omega),(HE.oH fun q o hn=>(u q (fun h=>hn (by rw[h];simp))).trans (bP.rK om (by simp at hn⊢;omega))),(fun q o a_=>by obtain⟨p1,aH⟩:=cC q a_;exact(u q (fun h=>aH (by rw[h];simp))).trans (bP.rK o (by simp at aH⊢;omega))),true,rfl,fun _=>⟨JU,av,(u _ om).trans nD9,(u _ om).trans ((aD (e+1) om).trans dn),(u _ om).trans bY,(u _ om).trans dq,aR,bI,bz.Kn (BT al _) u,fun q a_=>?_,(show(j+1+1)<=E by omega)⟩,(fun h=>by cases h)⟩⟩
           obtain⟨p1,aH⟩:=cC q a_;exact⟨(show q<E by omega),aH⟩
      ·
       exact⟨0,⟨.slice none 0 0,[]⟩,0,aK,om,U,fg _,nDN,((bH (G+1) om).trans nF7),c8,((bH (G+1+1+1) om).trans ee),((bH (G+1+1+1+1) om).trans ef),((bH e om).trans k1),((bH (e+1) om).trans k2),rfl,mh.nil,rfl,(fun _ h=>by cases h),(by simp),(fun _ h=>by cases h),rfl⟩
     ·
      rintro _ b8 e7 ⟨nH4,bL,nEd⟩
      have nGB:(G+1+1+1)<(j+1+1)/\(G+1+1+1+1)<(j+1+1)/\e<(j+1+1)/\(e+1)<(j+1+1)/\(j+1)<(j+1+1):=by omega
      rcases nEd with⟨Pr,J,aK,k1,k2,ee,ef,cB,k6,k7,cC,k9⟩|⟨ee,⟨z,nGW,ef⟩,cB,k9⟩
      ·
       refine⟨cj,0,cB,(fun h=>by rw[cz]at h;cases h),by rw[cz];rfl,?_⟩
       obtain⟨aX,cA⟩:∃h:Ht,h=b8.set (j+1) (some (.loop {cj with state:=.exhausted})):=⟨_,rfl⟩
       rw[<-cA]
       have ar:∀q,q≠(j+1)->aX.get q=b8.get q:=fun q o=>by rw[cA];exact Tr.gG _ _ o
       have cm:HE G O aX:=fun q o=>(ar q om).trans ((bL.rK om (by simp;omega)).trans (cS q o))
       have nFD:=(ar (e) om).trans k1
       have nFE:=(ar ((e+1)) om).trans k2
       have ec:=(ar ((G+1+1+1)) om).trans ee
       have nDK:=(ar ((G+1+1+1+1)) om).trans ef
       have qD:=(ar (j) om).trans ((bL.rK om (by simp;omega)).trans nFz)
       have q5:=(ar ((G+1+1)) om).trans ((bL.rK om (by simp;omega)).trans dR)
       have bA:=k7.Kn (e9:=aX) (BT cB _) ar
       refine WP.seq<|WP.qZ [⟨[0,1,2,3,4,5,6],[0,1,2,3,4,5,6],some 7⟩,⟨[],[],some 8⟩,⟨[],[],none⟩] U _ rfl<|WD.kZ<|nv 118 (pt (G+1+1) 0) ?_
       obtain⟨eu,eE,aG⟩:=hr.iH.shape
       have nGR:=hr.iH.2.2
       refine WN.hZ rfl (WC.jW (G+1+1) 0 (.slice eu (r.iH.l.length) eE) U lO q5 (by rw[<-aG];rfl) ?_)
       have bG:0<r.iH.l.length:=by omega
       refine WN.hZ rfl (WC.iy aG hr.iH (0) lP kH (bG) ?_)
       obtain⟨ab,dH⟩:=gE bG
       refine WN.hZ rfl (WC.lz (Y ab) aG (hr.iH.mono cm nR) dH rfl fy ?_)
       obtain⟨aI,aJ,aZ⟩:=bA.shape
       have nGS:=bA.2.2
       refine WN.hZ rfl (WC.jW e (0) (.slice aI (J.l.length) aJ) U ox nFD (by rw[<-aZ];rfl)<|WN.hZ rfl (WC.jW (e+1) (0) (.bool aK) U xp nFE rfl<|nv 124 (.agg ⟨[Y ab,.slice aI (J.l.length) aJ,.bool aK]⟩)<|WN.nil ⟨?_,?_⟩))
       ·
        refine cv (pt (G+1+1) 0) (iR ..)<|qk (G+1+1) 0 (.slice eu (r.iH.l.length) eE) lO q5 (by rw[<-aG];rfl) (aG▸hr.iH.jA 8)<|y0 aG hr.iH (0) lP kH (bG)<|GN (Y ab) aG (hr.iH.mono cm nR) dH rfl fy (iF ..)<|qk e 0 (.slice aI (J.l.length) aJ) ox nFD (by rw[<-aZ];rfl) (aZ▸bA.jA 8)<|qk (e+1) 0 (.bool aK) xp nFE rfl (iO 8 aK)<|cv (.agg ⟨[Y ab,.slice aI (J.l.length) aJ,.bool aK]⟩) (wK 7 _ (by intro v eY;simp only[List.mem_cons,List.not_mem_nil,or_false]at eY;rcases eY with rfl|rfl|rfl<;>first|exact iF ..|exact iO ..|exact(aZ▸bA.jA 7))) ?_
        exact jc.nil
       refine WC.at rfl (WC.u_ (G+1+1+1) (0) (.agg ⟨[Y ab,.slice aI (J.l.length) aJ,.bool aK]⟩) [Y 0,.slice none (0) 0,.bool false] [Y ab,.slice aI (J.l.length) aJ,.bool aK] [Y ab,.slice aI (J.l.length) aJ,.bool aK] 3 rfl U U nW rfl (fe.2 ⟨rfl,fe.2 ⟨rfl,fe.2 ⟨rfl,fe.2 ⟨rfl,rfl⟩⟩⟩⟩) ec rfl rfl rfl ?_)
       obtain⟨nEy,dI,nEj,nEb,b4⟩:=stored aX (G+1+1+1) (.cells [Y ab,.slice aI (J.l.length) aJ,.bool aK] gm.plain)
       rw[dI];clear dI
       have dt:=(b4 (G+1+1+1+1) om).trans nDK
       refine WD.kZ<|WN.nil ⟨?_,?_⟩
       ·
        exact jc.nil
       refine WC.at rfl (WC.u_ (G+1+1+1+1) (0) (Y 0) [Y 0] [Y 0] [Y 0] 1 rfl U U qU rfl rfl dt rfl rfl rfl ?_)
       obtain⟨dB,dJ,nEk,nEc,b5⟩:=stored nEy (G+1+1+1+1) (.cells [Y 0] gm.plain)
       rw[dJ];clear dJ
       have du:=(b5 j om).trans ((b4 j om).trans qD)
       refine WD.last<|WN.nil ⟨?_,?_⟩
       ·
        exact jc.nil
       obtain⟨cy,bJ⟩:∃h:Ht,h=dB.set (j) (some (.deferred none)):=⟨_,rfl⟩
       have bh:∀q,q≠j->cy.get q=dB.get q:=fun q o=>by rw[bJ];exact Tr.gG _ _ o
       have eG:cy.get ((G+1+1+1))=some (.cells (tY ⟨ab,J,aK⟩) gm.plain):=by rw[show tY ⟨ab,J,aK⟩=[Y ab,J.v,.bool aK]from rfl,aZ];exact(bh ((G+1+1+1)) om).trans ((b5 (G+1+1+1) om).trans nEb)
       have eH:=(bh ((G+1+1+1+1)) om).trans nEc
       refine WP.ret ⟨rfl,.inr ⟨j,rfl,du,[.agg (tY ⟨ab,J,aK⟩).toArray,Y 0],(by rw[<-bJ];exact qy (by rw[show(f_ (.tmp 6)).run _=pt (G+1+1+1) 0 from by kernel_rfl];exact jV uF nW eG rfl) (by rw[show(f_ (.tmp 7)).run _=pt (G+1+1+1+1) 0 from by kernel_rfl];exact ki qc eH rfl)),?_⟩⟩
       rw[<-bJ]
       have nF1:gB fj 2 cy e7 J:=(((bA.Kn (vy (enc:=fj) (k:=2) (fun _=>rfl) ec _ (yi (.inr rfl))) b4).Kn (vy (enc:=fj) (k:=2) (fun _=>rfl) dt _ (yi (.inl rfl))) b5)).Kn (fun m h=>by rw[du]at h;cases h) bh
       exact⟨⟨ab,J,aK⟩,0,rfl,⟨nF1⟩,.ok (fu.1 bB) bg cV k6,(show G<=e7 by omega),(fun q o=>(bh q om).trans (((cm.trans nEj).trans nEk) q o))⟩
      ·
       refine⟨{cj with state:=.done,pending:=some .ret},1,cB,(fun h=>by cases h),rfl,?_⟩
       obtain⟨aX,cA⟩:∃h:Ht,h=b8.set (j+1) (some (.loop {({cj with state:=.done,pending:=some .ret}:td Tm)with state:=.exhausted})):=⟨_,rfl⟩
       rw[<-cA]
       have ar:∀q,q≠(j+1)->aX.get q=b8.get q:=fun q o=>by rw[cA];exact Tr.gG _ _ o
       have cm:HE G O aX:=fun q o=>(ar q om).trans ((bL.rK om (by simp;omega)).trans (cS q o))
       have ec:=(ar ((G+1+1+1)) om).trans ee
       have nDK:=(ar ((G+1+1+1+1)) om).trans ef
       have qD:=(ar (j) om).trans ((bL.rK om (by simp;omega)).trans nFz)
       have q5:=(ar ((G+1+1)) om).trans ((bL.rK om (by simp;omega)).trans dR)
       obtain⟨cy,bJ⟩:∃h:Ht,h=aX.set (j) (some (.deferred none)):=⟨_,rfl⟩
       have bh:∀q,q≠j->cy.get q=aX.get q:=fun q o=>by rw[bJ];exact Tr.gG _ _ o
       have eG:=(bh ((G+1+1+1)) om).trans ec
       have eH:=(bh ((G+1+1+1+1)) om).trans nDK
       show Nat.ble 1 1=true/\_
       refine⟨rfl,.inr ⟨j,rfl,qD,[.agg (tY ⟨0,⟨.slice none 0 0,[]⟩,false⟩).toArray,Y z],(by rw[<-bJ];exact qy (by rw[show(f_ (.tmp 6)).run _=pt (G+1+1+1) 0 from by kernel_rfl];exact jV uF nW eG rfl) (by rw[show(f_ (.tmp 7)).run _=pt (G+1+1+1+1) 0 from by kernel_rfl];exact ki qc eH rfl)),?_⟩⟩
       rw[<-bJ]
       exact⟨⟨0,⟨.slice none 0 0,[]⟩,false⟩,z,rfl,⟨tB⟩,.lim (fu.1 bB) bg (Og cV) nGW rfl,(show G<=e7 by omega),(fun q o=>(bh q om).trans (cm q o))⟩
   ·
    exact⟨0,⟨.slice none 0 0,[]⟩,om,U,fg _,(cL.trans aL),(aL.get (bd.get (bc.get eO))),(aL.get (bd.get eQ)),cX,(aL.get bR),(aL.get cW),nDV,mD.nil,rfl,(fun _ h=>by cases h),rfl⟩
end
end Sw
namespace Sw
noncomputable section
open Go Go.RowKit
def mz(l:List fQ)(t:Int):Prop:=∃s∈l,s.hY<=t/\t<=s.gY
def Cj(l:List fQ):Prop:=∀s∈l,uD s
def tR:List fQ->Prop
 |[]=>True
 |a::l=>a.hY<=a.gY/\(∀b∈l,a.gY+1<b.hY)/\tR l
theorem mz.nil{t:Int}:¬mz [] t:=fun⟨_,h,_⟩=>by cases h
theorem mz.cons{a:fQ}{l:List fQ}{t:Int}:mz (a::l) t↔(a.hY<=t/\t<=a.gY)\/mz l t:=by
 constructor
 · rintro ⟨s,hs,h⟩
   rcases fT.1 hs with rfl|hs
   · exact .inl h
   · exact .inr ⟨s,hs,h⟩
 · rintro(h|⟨s,hs,h⟩)
   · exact⟨a,fz ..,h⟩
   · exact⟨s,fG _ hs,h⟩
theorem mz.append{l k:List fQ}{t:Int}:mz (l++k) t↔mz l t\/mz k t:=by
 constructor
 · rintro ⟨s,hs,h⟩
   rcases fR.1 hs with hs|hs
   · exact .inl ⟨s,hs,h⟩
   · exact .inr ⟨s,hs,h⟩
 · rintro(⟨s,hs,h⟩|⟨s,hs,h⟩)
   · exact⟨s,List.mem_append_left _ hs,h⟩
   · exact⟨s,List.mem_append_right _ hs,h⟩
theorem tR.lo{a:fQ}{l:List fQ}(h:tR (a::l)){t:Int}(b:mz l t):a.gY+1<t:=by
 obtain⟨s,hs,h1,D⟩:=b
 have:=h.2.1 s hs;omega
theorem tR.eq:∀{a b:List fQ},tR a->tR b->(∀t,mz a t↔mz b t)->a=b
 |[],[],_,_,_=>rfl
 |[],b::l,_,hb,h=>absurd ((h b.hY).2 (mz.cons.2 (.inl ⟨gM _,hb.1⟩))) mz.nil
 |a::l,[],e,_,h=>absurd ((h a.hY).1 (mz.cons.2 (.inl ⟨gM _,e.1⟩))) mz.nil
 |a::l,b::k,e,hb,h=>by
  have o:a.hY=b.hY:=by
   rcases mz.cons.1 ((h a.hY).1 (mz.cons.2 (.inl ⟨gM _,e.1⟩)))with h1|h1
   · rcases mz.cons.1 ((h b.hY).2 (mz.cons.2 (.inl ⟨Int.le_refl _,hb.1⟩)))with D|D
     · omega
     · have:=e.lo D;have:=e.1;omega
   · have h3:=hb.lo h1
     rcases mz.cons.1 ((h b.hY).2 (mz.cons.2 (.inl ⟨gM _,hb.1⟩)))with D|D
     · have:=hb.1;omega
     · have:=e.lo D;have:=e.1;have:=hb.1;omega
  have m:a.gY=b.gY:=by
   rcases Int.lt_trichotomy a.gY b.gY with p|p|p
   · exfalso
     have y:=e.1
     rcases mz.cons.1 ((h (a.gY+1)).2 (mz.cons.2 (.inl ⟨by omega,by omega⟩)))with h1|h1
     · omega
     · have:=e.lo h1;omega
   · exact p
   · exfalso
     have z:=hb.1
     rcases mz.cons.1 ((h (b.gY+1)).1 (mz.cons.2 (.inl ⟨by omega,by omega⟩)))with h1|h1
     · omega
     · have:=hb.lo h1;omega
  have u:a=b:=by cases a;cases b;simp only at o m;rw[o,m]
  subst u
  rw[tR.eq e.2.2 hb.2.2 fun t=>?_]
  constructor
  · intro j
    rcases mz.cons.1 ((h t).1 (mz.cons.2 (.inr j)))with h1|h1
    · have:=e.lo j;omega
    · exact h1
  · intro j
    rcases mz.cons.1 ((h t).2 (mz.cons.2 (.inr j)))with h1|h1
    · have:=hb.lo j;omega
    · exact h1
theorem tR.snoc:∀{l:List fQ} {x:fQ},tR l->x.hY<=x.gY->(∀a∈l,a.gY+1<x.hY)->tR (l++[x])
 |[],x,_,hx,_=>⟨hx,(fun b h=>by cases h),trivial⟩
 |a::l,x,h,hx,k=>by
  refine⟨h.1,fun b hb=>?_,h.2.2.snoc hx fun b hb=>k b (fG _ hb)⟩
  rcases fR.1 hb with hb|hb
  · exact h.2.1 b hb
  · rw[List.mem_singleton.1 hb];exact k a (fz ..)
theorem tR.init:∀{l:List fQ} {y:fQ},tR (l++[y])->tR l/\y.hY<=y.gY/\∀a∈l,a.gY+1<y.hY
 |[],y,h=>⟨trivial,h.1,(fun a h=>by cases h)⟩
 |a::l,y,h=>by
  obtain⟨h1,D,h3⟩:=tR.init h.2.2
  refine⟨⟨h.1,fun b hb=>h.2.1 b (List.mem_append_left _ hb),h1⟩,D,fun b hb=>?_⟩
  rcases fT.1 hb with rfl|hb
  · exact h.2.1 y (List.mem_append_right _ (List.mem_singleton.2 rfl))
  · exact h3 b hb
theorem yj{z:Int}(h1:-9223372036854775808<=z)(D:z<9223372036854775808):gy .i64 z=z:=by
 rw[tU]
 show(if(true&&decide (z%18446744073709551616>=9223372036854775808))=true then z%18446744073709551616-18446744073709551616 else z%18446744073709551616)=z
 by_cases h:z%18446744073709551616>=9223372036854775808
 · rw[if_pos (by simpa using h)];omega
 · rw[if_neg (by simpa using h)];omega
structure Rt(J l:List fQ):Prop where
 Ru:tR J
 oV:Cj J
 Wt:∀t,mz J t↔mz l t
 low:∀a∈J,∃b∈l,a.hY=b.hY
open Classical in
theorem TF{J l:List fQ}{x:fQ}(h:Rt J l)(hx:uD x)(hs:∀b∈l,b.hY<=x.hY):Rt (sC J x) (l++[x]):=by
 have u:∀a∈J,a.hY<=x.hY:=fun a j=>by obtain⟨b,hb,e⟩:=h.low a j;rw[e];exact hs b hb
 rcases List.eq_nil_or_concat J with rfl|⟨m,y,rfl⟩
 · have e:sC [] x=[x]:=rfl
   rw[e]
   refine⟨⟨hx.2.2,fun b h=>(by cases h),trivial⟩,fun s hs=>by rw[List.mem_singleton.1 hs];exact hx,fun t=>?_,fun a j=>⟨x,by simp,by rw[List.mem_singleton.1 j]⟩⟩
   rw[mz.append,<-h.Wt];simp[mz.nil]
 · simp only[List.concat_eq_append]at*
   obtain⟨c1,c2,z⟩:=h.Ru.init
   have hy:=h.oV y (by simp)
   have F:=u y (by simp)
   have e1:(m++[y])[(m++[y]).length-1]?=some y:=by simp
   have e2:sC (m++[y]) x=if Touch y x then(m++[y]).set ((m++[y]).length-1) (both y x)else(m++[y])++[x]:=by
    unfold sC;rw[e1]
   rw[e2]
   have hw:gy .i64 (y.gY+1)=y.gY+1:=yj (by have:=hy.2.1;have:=hy.1;have:=hy.2.2;omega) (by have:=hy.2.1;omega)
   split
   · rename_i p
     have e3:(m++[y]).set ((m++[y]).length-1) (both y x)=m++[both y x]:=by
      rw[List.set_append_right _ _ (by simp)];simp
     rw[e3]
     have C:x.hY<=y.gY+1:=by
      rcases p with rfl|p
      · have:=hy.2.2;omega
      · rw[hw]at p;exact p
     have hb:(both y x).hY=y.hY/\y.gY<=(both y x).gY/\x.gY<=(both y x).gY/\((both y x).gY=y.gY\/(both y x).gY=x.gY):=by
      cases hl:rU y.gY x.gY with
      |true=>
       have:=sM.1 hl
       have e:both y x=⟨y.hY,x.gY⟩:=by unfold both;rw[hl];rfl
       rw[e];exact⟨rfl,Int.le_of_lt this,gM _,.inr rfl⟩
      |false=>
       have:¬y.gY<x.gY:=fun k=>by rw[sM.2 k]at hl;cases hl
       have e:both y x=⟨y.hY,y.gY⟩:=by unfold both;rw[hl];rfl
       rw[e];exact⟨rfl,gM _,Int.not_lt.1 this,.inl rfl⟩
     have E:=hx.2.2
     refine⟨c1.snoc (by omega) (fun a j=>by rw[hb.1];exact z a j),fun s hs=>?_,fun t=>?_,fun a j=>?_⟩
     · rcases List.mem_append.1 hs with hs|hs
       · exact h.oV s (List.mem_append_left _ hs)
       · rw[List.mem_singleton.1 hs]
         have:=hx.1;have:=hx.2.1;have:=hy.1;have:=hy.2.1
         exact⟨by omega,by omega,by omega⟩
     · rw[mz.append,mz.append,<-h.Wt,mz.append]
       constructor
       · rintro(k|⟨s,hs,k⟩)
         · exact .inl (.inl k)
         · rw[List.mem_singleton.1 hs]at k
           rcases Int.le_total t y.gY with q|q
           · exact .inl (.inr ⟨y,by simp,by omega,q⟩)
           · by_cases B:t<=y.gY
             · exact .inl (.inr ⟨y,by simp,by omega,B⟩)
             · exact .inr ⟨x,by simp,by omega,by omega⟩
       · rintro((k|⟨s,hs,k⟩)|⟨s,hs,k⟩)
         · exact .inl k
         · rw[List.mem_singleton.1 hs]at k;exact .inr ⟨both y x,by simp,by omega,by omega⟩
         · rw[List.mem_singleton.1 hs]at k;exact .inr ⟨both y x,by simp,by omega,by omega⟩
     · rcases List.mem_append.1 j with j|j
       · obtain⟨b,o,e⟩:=h.low a (List.mem_append_left _ j)
         exact⟨b,List.mem_append_left _ o,e⟩
       · rw[List.mem_singleton.1 j]
         obtain⟨b,o,e⟩:=h.low y (by simp)
         exact⟨b,List.mem_append_left _ o,by omega⟩
   · rename_i p
     have A:y.gY+1<x.hY:=by
      have:¬x.hY<=gy .i64 (y.gY+1):=fun k=>p (.inr k)
      rw[hw]at this;omega
     refine⟨h.Ru.snoc hx.2.2 fun a j=>?_,fun s hs=>?_,fun t=>?_,fun a j=>?_⟩
     · rcases List.mem_append.1 j with j|j
       · have:=z a j;omega
       · rw[List.mem_singleton.1 j];exact A
     · rcases List.mem_append.1 hs with hs|hs
       · exact h.oV s hs
       · rw[List.mem_singleton.1 hs];exact hx
     · rw[mz.append (l:=m++[y]),mz.append (l:=l),h.Wt]
     · rcases List.mem_append.1 j with j|j
       · obtain⟨b,o,e⟩:=h.low a j
         exact⟨b,List.mem_append_left _ o,e⟩
       · exact⟨x,by simp,by rw[List.mem_singleton.1 j]⟩
theorem TG:∀(k:List fQ),Cj k->k.Pairwise (fun a b=>a.hY<=b.hY)->∀(l J:List fQ),Rt J l->(∀a∈l,∀b∈k,a.hY<=b.hY)->Rt (k.foldl sC J) (l++k)
 |[],_,_,l,J,h,_=>by rw[List.append_nil];exact h
 |x::k,hg,O,l,J,h,hl=>by
  rw[List.foldl_cons,show l++x::k=(l++[x])++k by simp]
  refine TG k (fun s hs=>hg s (fG _ hs)) (List.pairwise_cons.1 O).2 _ _ (TF h (hg x (fz ..)) fun b hb=>hl b hb x (fz ..)) fun a e b hb=>?_
  rcases fR.1 e with e|e
  · exact hl a e b (fG _ hb)
  · rw[List.mem_singleton.1 e];exact(List.pairwise_cons.1 O).1 b hb
theorem Om{x y:fQ}(h:(!(decide (wX y x<0)))=true):x.hY<=y.hY/\(x.hY=y.hY->x.gY<=y.gY):=by
 have h:¬wX y x<0:=by simpa using h
 unfold wX vg jr at h
 split at h<;>split at h<;>(try split at h)<;>(try split at h)<;>(try split at h)<;>omega
theorem FW{x y:fQ}(h:x.hY<=y.hY/\(x.hY=y.hY->x.gY<=y.gY)):(!(decide (wX y x<0)))=true:=by
 have:¬wX y x<0:=by
  unfold wX vg jr
  split<;>split<;>(try split)<;>(try split)<;>(try split)<;>omega
 simpa using this
theorem Rv(l:List fQ):(wY l).Pairwise fun a b=>a.hY<=b.hY:=by
 have:=List.pairwise_mergeSort (le:=fun x y=>!(decide (wX y x<0))) (fun a b c h1 D=>by
  have j:=Om h1;have m:=Om D
  exact FW ⟨by omega,fun e=>by have:=j.2 (by omega);have:=m.2 (by omega);omega⟩) (fun a b=>by
  rw[Bool.or_eq_true]
  rcases Int.lt_trichotomy a.hY b.hY with k|k|k
  · exact .inl (FW ⟨by omega,fun e=>by omega⟩)
  · rcases Int.le_total a.gY b.gY with q|q
    · exact .inl (FW ⟨by omega,fun _=>q⟩)
    · exact .inr (FW ⟨by omega,fun _=>q⟩)
  · exact .inr (FW ⟨by omega,fun e=>by omega⟩)) l
 exact this.imp fun h=>(Om h).1
theorem BU{l:List fQ}(h:Cj l):tR (uY l)/\Cj (uY l)/\∀t,mz (uY l) t↔mz l t:=by
 have O:=List.mergeSort_perm l fun x y=>!(decide (wX y x<0))
 have hm:∀s,s∈wY l↔s∈l:=fun s=>O.mem_iff
 have:=TG (wY l) (fun s hs=>h s ((hm s).1 hs)) (Rv l) [] [] ⟨trivial,fun s h=>(by cases h),fun t=>gk,fun a h=>by cases h⟩ (fun a h=>by cases h)
 rw[List.nil_append]at this
 refine⟨this.Ru,this.oV,fun t=>(this.Wt t).trans ⟨fun⟨s,hs,k⟩=>⟨s,(hm s).1 hs,k⟩,fun⟨s,hs,k⟩=>⟨s,(hm s).2 hs,k⟩⟩⟩
end
end Sw
namespace Sw
noncomputable section
open Go Go.RowKit
def uo:List (List fQ)->Int->Prop
 |[],t=>t=0
 |y::W,t=>∃u v,mz y u/\uo W v/\t=u+v
theorem uo.append:∀{W V:List (List fQ)} {t:Int},uo (W++V) t↔∃u v,uo W u/\uo V v/\t=u+v
 |[],V,t=>⟨fun h=>⟨0,t,rfl,h,by omega⟩,fun⟨u,v,h1,D,h3⟩=>by
   have h1:u=0:=h1
   rw[show t=v by omega];exact D⟩
 |y::W,V,t=>by
  constructor
  · rintro ⟨u,v,h1,D,rfl⟩
    obtain⟨a,b,h3,h4,rfl⟩:=uo.append.1 D
    exact⟨u+a,b,⟨u,a,h1,h3,rfl⟩,h4,by omega⟩
  · rintro ⟨u,v,⟨a,b,h1,D,rfl⟩,h3,rfl⟩
    exact⟨a,b+v,h1,uo.append.2 ⟨b,v,D,h3,rfl⟩,by omega⟩
theorem uo.perm{W V:List (List fQ)}(h:W.Perm V):∀{t:Int},uo W t->uo V t:=by
 induction h with
 |nil=>exact fun h=>h
 |cons x _ ih=>rintro t ⟨u,v,h1,D,h3⟩;exact⟨u,v,h1,ih D,h3⟩
 |swap x y l=>rintro t ⟨u,v,h1,⟨a,b,D,h3,rfl⟩,rfl⟩;exact⟨a,u+b,D,⟨u,b,h1,h3,rfl⟩,by omega⟩
 |trans _ _ i1 i2=>exact fun h=>i2 (i1 h)
theorem P2{s u:fQ}(hs:uD s)(hu:uD u):(AX s u).hY=s.hY+u.hY/\(AX s u).gY=s.gY+u.gY:=by
 have h1:=hs.1;have D:=hs.2.1;have h3:=hs.2.2;have h4:=hu.1;have b:=hu.2.1;have e:=hu.2.2
 exact⟨yj (by omega) (by omega),yj (by omega) (by omega)⟩
theorem VB{A B:List fQ}(j:Cj A)(m:Cj B)(t:Int):mz (um A B) t↔∃u v,mz A u/\mz B v/\t=u+v:=by
 constructor
 · rintro ⟨x,hx,h1,D⟩
   obtain⟨s,hs,hx⟩:=List.mem_flatMap.1 hx
   obtain⟨u,hu,rfl⟩:=fU.1 hx
   have e:=P2 (j s hs) (m u hu)
   have o:=(j s hs).2.2;have p:=(m u hu).2.2
   by_cases q:t-u.hY<=s.gY
   · exact⟨t-u.hY,u.hY,⟨s,hs,by omega,q⟩,⟨u,hu,gM _,p⟩,by omega⟩
   · exact⟨s.gY,t-s.gY,⟨s,hs,o,gM _⟩,⟨u,hu,by omega,by omega⟩,by omega⟩
 · rintro ⟨a,b,⟨s,hs,h1,D⟩,⟨u,hu,h3,h4⟩,rfl⟩
   have e:=P2 (j s hs) (m u hu)
   exact⟨AX s u,List.mem_flatMap.2 ⟨s,hs,fU.2 ⟨u,hu,rfl⟩⟩,by omega,by omega⟩
theorem xE.oV{W:List (List fQ)}(h:xE W){y:List fQ}(hy:y∈W):Cj y:=fun s hs=>h.2 y hy s hs
def Kp(y:List fQ):Prop:=tR y/\Cj y
theorem Ns.Ee{A B l:List fQ}(h:Ns A B l):Kp l/\∀t,mz l t↔∃u v,mz A u/\mz B v/\t=u+v:=by
 obtain⟨rfl,_,h3,h4⟩:=h
 have a:=BU (h3.oV (y:=A) (by simp))
 have b:=BU (h3.oV (y:=B) (by simp))
 have p:=BU h4
 refine⟨⟨p.1,p.2.1⟩,fun t=>(p.2.2 t).trans ((VB a.2.1 b.2.1 t).trans ?_)⟩
 simp only[a.2.2,b.2.2]
theorem IV.Ee{A B l:List fQ}(h:IV A B l):Kp l/\∀t,mz l t↔mz A t\/mz B t:=by
 obtain⟨rfl,_,h3⟩:=h
 have p:=BU (l:=A++B) fun s hs=>by
  rcases fR.1 hs with hs|hs
  · exact h3.oV (y:=A) (by simp) s hs
  · exact h3.oV (y:=B) (by simp) s hs
 exact⟨⟨p.1,p.2.1⟩,fun t=>(p.2.2 t).trans mz.append⟩
theorem vi.Ee{W:List (List fQ)}{X:List fQ}(h:vi W X)(e:∀y∈W,Kp y):Kp X/\∀t,mz X t↔uo W t:=by
 induction h with
 |one x=>exact⟨e x (by simp),fun t=>⟨fun h=>⟨t,0,h,rfl,by omega⟩,fun⟨u,v,h1,D,h3⟩=>by
   have D:v=0:=D
   rw[show t=u by omega];exact h1⟩⟩
 |@snoc W J y J' _ j ih=>
  have i:=ih fun y hy=>e y (List.mem_append_left _ hy)
  have a:=j.Ee
  refine⟨a.1,fun t=>(a.2 t).trans (Iff.trans ?_ uo.append.symm)⟩
  constructor
  · rintro ⟨u,v,h1,D,rfl⟩;exact⟨u,v,(i.2 u).1 h1,⟨v,0,D,rfl,by omega⟩,rfl⟩
  · rintro ⟨u,v,h1,⟨a,b,D,h3,rfl⟩,rfl⟩
    have h3:b=0:=h3
    exact⟨u,a,(i.2 u).2 h1,D,by omega⟩
theorem P3{K:kg}{w:Nat}{x:im}(h:xE [o6 K (wo x w)]):Kp (wT K w x)/\∀t,mz (wT K w x) t↔mz (o6 K (wo x w)) t:=by
 have p:=BU (h.oV (y:=o6 K (wo x w)) (by simp))
 exact⟨⟨p.1,p.2.1⟩,p.2.2⟩
theorem sum_empty{W:List (List fQ)}(h:[]∈W){t:Int}:¬uo W t:=by
 induction W generalizing t with
 |nil=>cases h
 |cons y W ih=>
  rintro ⟨u,v,h1,D,_⟩
  rcases fT.1 h with rfl|h
  · exact mz.nil h1
  · exact ih h D
theorem tf.Ee{K:kg}{M:List im}(j:M≠[]){l:List Nat}{S:List fQ}{p:Bool}(h:tf K M l S p):Kp S/\(∀t,mz S t↔∃w∈l,uo (M.map (wT K w)) t)/\p=l.any fun w=>M.any (Ko w):=by
 induction h with
 |nil=>exact⟨⟨trivial,fun s h=>by cases h⟩,fun t=>⟨fun h=>absurd h mz.nil,fun⟨w,h,_⟩=>by cases h⟩,rfl⟩
 |@skip l S p w _ he ih=>
  obtain⟨i1,i2,i3⟩:=ih
  refine⟨i1,fun t=>(i2 t).trans ⟨fun⟨w,h1,D⟩=>⟨w,List.mem_append_left _ h1,D⟩,fun⟨w',h1,D⟩=>?_⟩,by rw[List.any_append,<-i3];simp⟩
  rcases fR.1 h1 with h1|h1
  · exact⟨w',h1,D⟩
  · rw[List.mem_singleton.1 h1]at D
    obtain⟨x,hx,e⟩:=he
    exact absurd D (sum_empty (e▸fU.2 ⟨x,hx,rfl⟩))
 |@add l S X S' p w _ jI b hf hu ih=>
  obtain⟨i1,i2,i3⟩:=ih
  have f:vi (M.map (wT K w)) X:=by
   rcases hf with⟨h,_⟩|h
   · exact absurd (List.map_eq_nil_iff.1 h) j
   · exact h
  have n:=f.Ee fun y hy=>by
   obtain⟨x,hx,rfl⟩:=fU.1 hy
   exact(P3 (b x hx)).1
  have u:=hu.Ee
  refine⟨u.1,fun t=>(u.2 t).trans ?_,by rw[List.any_append,<-i3];simp⟩
  rw[i2,n.2]
  constructor
  · rintro(⟨w',h1,D⟩|h)
    · exact⟨w',List.mem_append_left _ h1,D⟩
    · exact⟨w,by simp,h⟩
  · rintro ⟨w',h1,D⟩
    rcases fR.1 h1 with h1|h1
    · exact .inl ⟨w',h1,D⟩
    · rw[List.mem_singleton.1 h1]at D;exact .inr D
theorem tf.same{K:kg}{M j:List im}(m:M≠[])(O:M.Perm j){l:List Nat}{S S':List fQ}{p u:Bool}(h:tf K M l S p)(y:tf K j l S' u):S=S'/\p=u:=by
 have o:j≠[]:=fun e=>m (List.Perm.eq_nil (e▸O))
 obtain⟨C,n2,E⟩:=h.Ee m
 obtain⟨z,A,B⟩:=y.Ee o
 refine⟨C.1.eq z.1 fun t=>(n2 t).trans (Iff.trans ?_ (A t).symm),?_⟩
 · exact⟨fun⟨w,a,b⟩=>⟨w,a,b.perm (O.map _)⟩,fun⟨w,a,b⟩=>⟨w,a,b.perm (O.symm.map _)⟩⟩
 · rw[E,B]
   congr 1;funext w
   rw[Bool.eq_iff_iff,List.any_eq_true,List.any_eq_true]
   exact⟨fun⟨x,a,b⟩=>⟨x,O.mem_iff.1 a,b⟩,fun⟨x,a,b⟩=>⟨x,O.mem_iff.2 a,b⟩⟩
theorem VC{C:ka}{F:jq}{r:qM}{M:List im}(hc:n9 C r=0)(b:M.map some=r.iH.l.map (ug F)):M≠[]:=by
 rintro rfl
 have h1:=(Ec hc).1.1.1
 have D:r.iH.l=[]:=List.map_eq_nil_iff.1 b.symm
 rw[D]at h1;simp at h1
end
end Sw
namespace Sw
noncomputable section
open Go Go.RowKit
def HW(l:List jg)(c:sQ):Prop:=0<=c.mJ/\c.mJ<((l.length:Nat):Int)/\∀x,l[c.mJ.toNat]?=some x->(x.j2=true->¬(c.fX<0\/0<c.fX))/\(x.j2=false->¬(c.fX<x.hY\/x.gY<c.fX))
def Jj(K:kg)(L:List Int):Prop:=(∀o∈((0:Int)::L),¬(o< -2199023255552\/2199023255552<o))/\∀(i j:Nat) (r:SV Int) (w a b:Int),K.gD.l[i]?=some r->r.l[j]?=some w->((0:Int)::L)[i]?=some a->((0:Int)::L)[j]?=some b->¬(w<gy .i64 (b-a))
structure uG(F:jq)(H:lW):Prop where
 Lc:sh F
 w0:0<=H.iu
 w1:H.iu<=((F.gj.l.length:Nat):Int)
 JR:rL F H.iu.toNat
 On:H.gH.l.length=F.fx.fw.l.length
 Z8:H.abp.l.length=F.fc.l.length
 Wu:Jj F.fx H.gH.l
 ch:∀(i:Nat) (c:sQ) (x:im),H.abp.l[i]?=some c->F.fc.l[i]?=some x->HW (wo x H.iu.toNat) c
def Ck(H:lW)(o:jg)(c:sQ):Int:=if o.j2 then 0 else if 0<=o.lA then gy .i64 (c.fX+(H.gH.l[o.lA.toNat]?).getD 0)else c.fX
def Rw(F:jq)(H:lW)(k:Nat)(n:Int)(out:Bool):Prop:=∃(x:im) (c:sQ) (o:jg),F.fc.l[k]?=some x/\H.abp.l[k]?=some c/\(wo x H.iu.toNat)[c.mJ.toNat]?=some o/\n=Ck H o c/\out=o.j2
theorem TH{K:kg}(hc:ub K){i j:Nat}(hi:i<=K.fw.l.length)(hj:j<=K.fw.l.length):∃(r:SV Int) (w:Int),K.gD.l[i]?=some r/\r.l[j]?=some w/\IX K i j=w/\-2199023255552<=w/\w<=2199023255552:=by
 have h1:=hc.Wm
 have hr:=fq (l:=K.gD.l) (i:=i) (by omega)
 have b:=hc.row _ _ hr
 have hw:=fq (l:=(K.gD.l[i]'(by omega)).l) (i:=j) (by rw[b.1];omega)
 have hb:=b.2.2 _ (fa hw)
 exact⟨_,_,hr,hw,HA hr hw,by omega,by omega⟩
theorem TI{F:jq}{H:lW}(h:uG F H){k:Nat}{n:Int}{x:im}(hx:F.fc.l[k]?=some x)(hn:Rw F H k n false):mz (o6 F.fx (wo x H.iu.toNat)) n:=by
 obtain⟨x',c,o,h1,D,h3,rfl,p⟩:=hn
 rw[hx]at h1;obtain rfl:=gb h1
 have y:=h.ch k c x D hx
 have S:=(y.2.2 o h3).2 p.symm
 have hm:=fa h3
 have A:uJ F.fx o:=by
  obtain⟨os,b,_⟩:=h.JR x (fa hx)
  rw[Gi b]at hm
  exact h.Lc.Vx (fa hx) (fa b) o hm
 obtain⟨s1,s2,W,X,aa⟩:=A.2 p.symm
 refine⟨qg F.fx o.lA ⟨o.hY,o.gY⟩,fU.2 ⟨o,List.mem_filter.2 ⟨hm,by rw[<-p];rfl⟩,rfl⟩,?_⟩
 unfold Ck
 rw[<-p]
 simp only[Bool.false_eq_true,if_false]
 by_cases hs:0<=o.lA
 · rw[if_pos hs]
   obtain⟨v,K⟩:∃v:Nat,o.lA=.ofNat v:=⟨o.lA.toNat,(gK hs).symm⟩
   have M:((v:Nat):Int)=o.lA:=K.symm
   have m:v<H.gH.l.length:=by rw[h.On];omega
   have b:=fq m
   have B:o.lA.toNat=v:=by omega
   have u:(o.lA+1).toNat=v+1:=by omega
   rw[B,b]
   obtain⟨L,w0,a1,a2,a3,a4,a5⟩:=TH h.Lc.Sr (i:=0) (j:=v+1) (by omega) (by rw[<-h.On];omega)
   obtain⟨r1,w1,b1,b2,J,N,R⟩:=TH h.Lc.Sr (i:=v+1) (j:=0) (by rw[<-h.On];omega) (by omega)
   have g0:((0:Int)::H.gH.l)[0]?=some 0:=rfl
   have g1:((0:Int)::H.gH.l)[v+1]?=some (H.gH.l[v]'m):=by rw[List.getElem?_cons_succ];exact b
   have C:=h.Wu.2 0 (v+1) L w0 _ _ a1 a2 g0 g1
   have E:=h.Wu.2 (v+1) 0 r1 w1 _ _ b1 b2 g1 g0
   have hr:=h.Wu.1 _ (fa g1)
   generalize H.gH.l[v]'m=z at C E hr
   rw[yj (by omega) (by omega)]at C E
   show _<=gy .i64 (c.fX+z)/\gy .i64 (c.fX+z)<=_
   have e:qg F.fx o.lA ⟨o.hY,o.gY⟩=⟨gy .i64 (o.hY-w1),gy .i64 (o.gY+w0)⟩:=by
    unfold qg;rw[if_neg (by omega),u,a3,J]
   rw[e]
   show gy .i64 (o.hY-w1)<=_/\_<=gy .i64 (o.gY+w0)
   rw[yj (z:=c.fX+z) (by omega) (by omega),yj (z:=o.hY-w1) (by omega) (by omega),yj (z:=o.gY+w0) (by omega) (by omega)]
   omega
 · rw[if_neg hs]
   have e:qg F.fx o.lA ⟨o.hY,o.gY⟩=⟨o.hY,o.gY⟩:=by unfold qg;rw[if_pos (by omega)]
   rw[e]
   exact⟨by show o.hY<=c.fX;omega,by show c.fX<=o.gY;omega⟩
inductive yX(F:jq)(H:lW):List im->Int->Bool->Prop where
 |nil:yX F H [] 0 false
 |snoc {L:List im} {s n:Int} {b c:Bool} {k:Nat} {x:im}:yX F H L s b->F.fc.l[k]?=some x->Rw F H k n c->yX F H (L++[x]) (gy .i64 (s+n)) (b||c)
theorem VD(J:List fQ)(x:fQ):sC J x≠[]:=by
 unfold sC
 split
 · simp
 · rename_i y hy
   split
   · intro h
     have:=congrArg List.length h
     rw[List.length_set]at this
     obtain⟨D,_⟩:=fp.1 hy
     have h3:J.length=0:=this
     omega
   · simp
theorem VE{l:List fQ}(h:uY l=[]):l=[]:=by
 unfold uY jn at h
 have D:=Gd l
 rcases List.eq_nil_or_concat (wY l)with e|⟨k,x,e⟩
 · rw[e]at D;exact fZ D.symm
 · rw[e,List.concat_eq_append,List.foldl_append]at h
   exact absurd h (VD _ _)
theorem tf.each{K:kg}{M:List im}{l:List Nat}{S:List fQ}{p:Bool}(h:tf K M l S p){w:Nat}(hw:w∈l):(∃x∈M,wT K w x=[])\/∀x∈M,xE [o6 K (wo x w)]:=by
 induction h with
 |nil=>cases hw
 |@skip l S p w' _ he ih=>
  rcases fR.1 hw with hw|hw
  · exact ih hw
  · rw[List.mem_singleton.1 hw];exact .inl he
 |@add l S X S' p w' _ jI b hf hu ih=>
  rcases fR.1 hw with hw|hw
  · exact ih hw
  · rw[List.mem_singleton.1 hw];exact .inr b
theorem yX.out{F:jq}{H:lW}{L:List im}{s:Int}{b:Bool}(h:yX F H L s b)(hb:b=true):∃x∈L,Ko H.iu.toNat x=true:=by
 induction h with
 |nil=>cases hb
 |@snoc L s n b c k x _ hx hn ih=>
  rcases Bool.or_eq_true_iff.1 hb with hb|hb
  · obtain⟨y,hy,e⟩:=ih hb
    exact⟨y,List.mem_append_left _ hy,e⟩
  · obtain⟨x',m,o,h1,D,h3,h4,j⟩:=hn
    rw[hx]at h1;obtain rfl:=gb h1
    exact⟨x,by simp,List.any_eq_true.2 ⟨o,fa h3,j.symm.trans hb⟩⟩
theorem yX.o6{F:jq}{H:lW}(hH:uG F H){L:List im}{s:Int}{b:Bool}(h:yX F H L s b)(hb:b=false):∀x∈L,Sw.o6 F.fx (wo x H.iu.toNat)≠[]:=by
 induction h with
 |nil=>intro x hx;cases hx
 |@snoc L s n b c k x _ hx hn ih=>
  rw[Bool.or_eq_false_iff]at hb
  intro y hy
  rcases fR.1 hy with hy|hy
  · exact ih hb.1 y hy
  · rw[List.mem_singleton.1 hy]
    obtain⟨_,rfl⟩:=hb
    intro e
    have:=TI hH hx hn
    rw[e]at this
    exact mz.nil this
theorem yX.sum{F:jq}{H:lW}(hH:uG F H){L:List im}{s:Int}{b:Bool}(h:yX F H L s b)(hb:b=false)(hl:L.length<=100)(j:∀x∈L,xE [Sw.o6 F.fx (wo x H.iu.toNat)]):uo (L.map (wT F.fx H.iu.toNat)) s/\-(((L.length:Nat):Int)*70368744177664)<=s/\s<=((L.length:Nat):Int)*70368744177664:=by
 induction h with
 |nil=>exact⟨rfl,by decide,by decide⟩
 |@snoc L s n b c k x _ hx hn ih=>
  rw[Bool.or_eq_false_iff]at hb
  obtain⟨hb,rfl⟩:=hb
  rw[List.length_append]at hl
  have hl:L.length+1<=100:=hl
  obtain⟨i1,i2,i3⟩:=ih hb (by omega) fun y hy=>j y (List.mem_append_left _ hy)
  have o:=TI hH hx hn
  have hk:=j x (by simp)
  have hw:=((P3 hk).2 n).2 o
  obtain⟨p,m,h1,D⟩:=o
  have h3:=hk.oV (y:=Sw.o6 F.fx (wo x H.iu.toNat)) (by simp) p m
  have h4:=h3.1;have u:=h3.2.1
  have e:gy .i64 (s+n)=s+n:=yj (by omega) (by omega)
  rw[e]
  refine⟨?_,?_,?_⟩
  · rw[List.map_append]
    exact uo.append.2 ⟨s,n,i1,⟨n,0,hw,rfl,by omega⟩,rfl⟩
  · rw[List.length_append];show -(((L.length+1:Nat):Int)*_)<=_;omega
  · rw[List.length_append];show _<=((L.length+1:Nat):Int)*_;omega
theorem VF{F:jq}{w n:Nat}(hw:w<n)(h:rL F w):w∈vD F n:=by
 unfold vD
 exact List.mem_filter.2 ⟨gL.2 hw,by simp[h]⟩
theorem Ld{C:ka}{F:jq}{H:lW}{r:qM}{M:List im}{S:List fQ}{p:Bool}(hH:uG F H)(hc:n9 C r=0)(m:M.map some=r.iH.l.map (ug F))(hT:tf F.fx M (vD F (F.gj.l.length+1)) S p){s:Int}{b:Bool}(j:yX F H M s b):(b=true->p=true)/\(b=false->mz S s):=by
 have jI:=VC hc m
 have hw:H.iu.toNat∈vD F (F.gj.l.length+1):=VF (by have:=hH.w0;have:=hH.w1;omega) hH.JR
 obtain⟨_,n2,y⟩:=hT.Ee jI
 constructor
 · intro hb
   obtain⟨x,hx,e⟩:=j.out hb
   rw[y]
   exact List.any_eq_true.2 ⟨_,hw,List.any_eq_true.2 ⟨x,hx,e⟩⟩
 · intro hb
   have u:=j.o6 hH hb
   have o:∀x∈M,xE [Sw.o6 F.fx (wo x H.iu.toNat)]:=by
    rcases hT.each hw with⟨x,hx,e⟩|h
    · exact absurd (VE e) (u x hx)
    · exact h
   have hl:M.length<=100:=by
    have h1:=congrArg List.length m
    rw[List.length_map,List.length_map]at h1
    have:=(Ec hc).1.1.2
    omega
   exact(n2 s).2 ⟨_,hw,(j.sum hH hb hl o).1⟩
end
end Sw
namespace Sw
noncomputable section
open Go Go.RowKit
section
variable {e:Env}{fm:Fm}{I:Tm}{ds:List Deferred}{O:Ht}{G:Nat}{gX:List Nat}{Q:St->Prop}{all:List Oper}{d:Tmp}{ty:TypeId}{pos:String}{j7:Array Edge}
end
end
end Sw
namespace Sw
noncomputable section
open Go Go.RowKit
section
variable {e:Env}{fm:Fm}{I:Tm}{ds:List Deferred}{O:Ht}{G:Nat}{gX:List Nat}{Q:St->Prop}{all:List Oper}{d:Tmp}{ty:TypeId}{pos:String}{j7:Array Edge}
theorem WC.TJ{α:Type}{enc:α->List Value}{st xt el:TypeId}{x y:Operand}{n m:Nat}{z w:Value}{inf:TypeInfo}{m0:gm}(b j:List α)(hl:e.low=0)(hx:(f_ x).run I=.slice (some ⟨m,0,none⟩) b.length b.length)(hy:(f_ y).run I=w)
 (hb:O.get m=some (.cells (b.flatMap enc) m0)) (M:m0.mP=none) (R:m<G) (hu:e.T.jo st=some (.slice el)) (hs:e.T.size el=some n) (S:e.T.zero el=some z) (hi:e.T.kn el=some inf)
 (L:pR e.T xt w=some (j.length,false)) (u:lU O.get (j.length*n) w=some (j.flatMap enc)) (F:uR n w=true) (hlen:∀y∈b++j,(enc y).length=n) (p:(j.flatMap enc).all one=true) (h0:0<b.length)
 (b1:(b.length+j.length)*inf.bytes<=70368744177664) (b2:inf.bytes<=1073741824) (X:b.length+j.length<=70368744177664)
 {rF:Array TypeId} (W:rF=#[st,xt]) (q:∀(J:SV α) e9 e_,J.l=b++j->G<=e_->HE G O e9->gB enc n e9 e_ J->Q ⟨I.set d J.v,ds,e9,e_,gX⟩):
 WC e fm (iQ all ⟨some d,.call {callee:=.builtin .append,args:=#[x,y],argTypes:=rF},ty,pos,j7,none⟩) ⟨I,ds,O,G,gX⟩ Q:=by
 subst W
 have B:Nat.ble ((b.length+j.length)*inf.bytes) 70368744177664=true:=gl b1
 have C:Nat.ble (b.length+j.length) 70368744177664=true:=gl (by omega)
 have o:(b++j).length=b.length+j.length:=List.length_append
 cases N:j with
 |nil=>
  have e1:jU e.T O.get st xt (.slice (some ⟨m,0,none⟩) b.length b.length) w G=some (.slice (some ⟨m,0,none⟩) b.length b.length,[],0):=by
   rw[N]at u L B C p
   simp only[List.length_nil,List.flatMap_nil,Nat.add_zero,Nat.zero_mul]at u L B C p
   have A:Nat.ble b.length b.length=true:=gl (fg _)
   simp only[jU,hu,hs,S,hi,L,mg,cond_false,F,cond_true,u,Option.bind_some,p,B,Nat.ble_eq_true_of_le b2,C,Bool.and_true,A,Nat.add_zero,Nat.zero_mul]
  refine .KK d (jU e.T O.get st xt (.slice (some ⟨m,0,none⟩) b.length b.length) w G) hl (fun _ _ _=>?_) e1 ?_
  · rw[<-hx,<-hy];rfl
  · refine q ⟨_,b⟩ _ _ (by rw[N,List.append_nil]) (fg _) (HE.refl _ _) ⟨fun y hy=>hlen y (List.mem_append_left _ hy),.inr ⟨m,_,m0,rfl,h0,R,hb,fg _,.inl M⟩,by show b.length<_;omega⟩
 |cons a K=>
  have MV:0<j.length:=by rw[N];simp
  have A:Nat.ble (b.length+j.length) b.length=false:=by
   cases hb:Nat.ble (b.length+j.length) b.length with
   |false=>rfl
   |true=>have:=fk hb;omega
  have E:(b.flatMap enc).length=b.length*n:=nF b fun x hx=>hlen x (List.mem_append_left _ hx)
  have hold:y4 (b.flatMap enc) 0 (b.length*n)=some (b.flatMap enc):=by
   cases hk:b.length*n with
   |zero=>rw[hk]at E;rw[List.eq_nil_of_length_eq_zero E];rfl
   |succ k=>
    show lQ (k+1) ((b.flatMap enc).drop 0)=_
    rw[List.drop_zero,<-hk];exact vW _ _ E
  have e1:jU e.T O.get st xt (.slice (some ⟨m,0,none⟩) b.length b.length) w G=some (.slice (some ⟨G+1,0,none⟩) (b.length+j.length) (b.length+j.length),[(G,some (jT.group [⟨G+1,0,(b.flatMap enc++j.flatMap enc).length⟩])),(G+1,some (jT.cells (b.flatMap enc++j.flatMap enc) ⟨false,some G,0,n⟩))],2):=by
   simp only[jU,hu,hs,S,hi,L,mg,cond_false,F,cond_true,u,Option.bind_some,p,B,Nat.ble_eq_true_of_le b2,C,Bool.and_true,A]
   rw[tJ,hb]
   simp only[hold,Option.bind_some,M]
  refine .KK d (jU e.T O.get st xt (.slice (some ⟨m,0,none⟩) b.length b.length) w G) hl (fun _ _ _=>?_) e1 (q ⟨_,b++j⟩ _ _ rfl (gv _ _) ((HE.set _ _ (fg _)).trans (HE.set _ _ (fh _)) (fg _)) ?_)
  · rw[<-hx,<-hy];rfl
  · refine⟨hlen,.inr ⟨G+1,_,⟨false,some G,0,n⟩,by rw[o],by omega,by omega,?_,by rw[o];exact Nat.le_refl _,.inr rfl⟩,by rw[o];omega⟩
    rw[List.flatMap_append]
    exact Tr.ig ..
end
def Wv(b:Bool)(P:Prop)(G:Nat)(O:Ht):Value->Ht->Nat->Prop:=fun v e9 e_=>(∃z:Int,v=(bif b then .int .i64 z else undef)/\(z=0↔P))/\G<=e_/\HE G O e9
theorem Wv.off{b:Bool}{P:Prop}{G:Nat}{O:Ht}(h:b=false):Wv b P G O undef O G:=by
 refine⟨?_,fg _,HE.refl _ _⟩
 by_cases j:P
 · exact⟨0,by rw[h];rfl,⟨fun _=>j,fun _=>rfl⟩⟩
 · exact⟨1,by rw[h];rfl,⟨fun e=>absurd e (by decide),fun e=>absurd e j⟩⟩
end
end Sw
