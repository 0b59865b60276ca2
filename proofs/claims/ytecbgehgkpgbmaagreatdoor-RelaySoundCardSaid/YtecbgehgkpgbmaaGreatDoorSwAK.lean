/- A part of the proof that the law returns true for every input that its row speaks of. No condition is added. -/
import Derived.Test.YtecbgehgkpgbmaaGreatDoorSwAJ
import Derived.Test.YtecbgehgkpgbmaaGreatDoorSwAG
namespace Sw
noncomputable section
open Go Go.Proofs Go.RowKit
set_option maxRecDepth 100000
set_option maxHeartbeats 1600000
theorem HL:∃i,ex.T.kn 466=some i/\i.bytes=16:=by
 cases h:ex.T.kn 466 with
 |none=>exact absurd (show(ex.T.kn 466).isSome=true by kernel_rfl) (by rw[h];decide)
 |some i=>
  refine⟨i,rfl,?_⟩
  have:((ex.T.kn 466).map fun i=>i.bytes)=some 16:=by kernel_rfl
  rw[h]at this
  exact gb this
theorem oK(l:List kd):∀y∈l,(mw y).length=1:=fun _ _=>rfl
theorem KX:∀(l:List kd),(l.flatMap mw).all one=true
 |[]=>rfl
 |x::l=>by
  rw[List.flatMap_cons,List.all_append,KX l]
  simp only[mw,List.all_cons,List.all_nil,YE,Bool.and_true]
def D5(L:List kd)(O:Ht)(G:Nat)(v:Value)(e9:Ht)(e_:Nat):Prop:=∃J:SV kd,v=J.v/\J.l=L/\mD mw 1 G e9 e_ J/\G<=e_/\HE G O e9
theorem YK{α:Type}{l:List α}{P:α->Prop}:(¬∃x∈l,¬P x)↔∀x∈l,P x:=
 ⟨fun h x hx=>fu.1 fun k=>h ⟨x,hx,k⟩,fun h ⟨x,hx,k⟩=>k (h x hx)⟩
theorem BR:ex.T.agg 142=some true:=U
theorem NN:ex.T.agg 151=some true:=U
theorem U9:ex.T.agg 250=some false:=U
theorem HM:ex.T.agg 361=some false:=U
theorem NO:ex.T.agg 365=some true:=U
theorem NP:ex.T.agg 366=some false:=U
theorem U_:ex.T.agg 368=some false:=U
theorem Va:ex.T.agg 369=some false:=U
theorem D6:ex.T.agg 371=some true:=U
theorem Vb:ex.T.agg 372=some false:=U
theorem Vc:ex.T.agg 374=some false:=U
theorem Vd:ex.T.agg 379=some false:=U
theorem Ve:ex.T.agg 382=some false:=U
theorem tQ:ex.T.size 142=some 4:=U
theorem KY:ex.T.size 365=some 3:=U
theorem yf:ex.T.size 371=some 4:=U
theorem z6:ex.T.size 466=some 1:=U
theorem Vf:ex.T.jo 107=some (.slice 365):=U
theorem J_:ex.T.jo 23=some (.slice 142):=U
theorem PU:ex.T.jo 28=some (.slice 371):=U
theorem zx:ex.T.jo 389=some (.slice 466):=U
theorem S9:ex.T.zero 149=some (.agg ⟨[Y 0,Y 0,Y 0,.slice none (0) 0]⟩):=U
theorem S_:ex.T.zero 151=some (.agg ⟨[Y 0,Y 0,Y 0,Y 0,Y 0,.slice none (0) 0,.slice none (0) 0,.slice none (0) 0]⟩):=U
theorem FK:ex.T.zero 466=some (.nilIface):=U
theorem Re(lo hi n:Int)(e b:Nat)(O:Ht)(G:Nat)(o:O.get e=some (.cells [Y lo] gm.plain))(z:e<G)(m:O.get b=some (.cells [Y hi] gm.plain))(y:b<G):WF ex 263 [Y n,pt e 0,pt b 0] O G (fL G O (gi (n<lo\/hi<n))):=by
 refine wd Tryz.f263 13 [.tmp 4] fun hE=>sr<|oN 1<|sr<|oX 1<|oZ e (0) (Y lo) fy o rfl ?_
 refine oq 7 (mE n lo) fun c1 p1=>oX 1<|gF 8 c1 (Y n)<|nS 8 c1 b (0) (Y hi) fy m rfl ?_
 refine nH 8 c1 (mE hi n) fun c2 p=>?_
 refine mI 12 (nO p1 p) fun j u=>oW 1 ⟨rfl,rfl,[.bool j],U,?_⟩
 refine⟨⟨j,rfl,?_⟩,nR,hE⟩
 exact u
theorem z7(lo hi:Int)(K:SV Int)(O:Ht)(G:Nat)(hK:gB encI 1 O G K):WF ex 179 [Y lo,Y hi,K.v] O G (fL G O (gi (∀x∈K.l,lo<=x/\x<=hi))):=by
 obtain⟨a1,c2,h_⟩:=hK.shape
 have mc:=hK.2.2
 rw[h_]
 refine wd Tryz.f179 11 [.tmp 6] fun hE=>sr<|oB (Y lo) [Y lo] fun zV pP uE=>?_
 refine oB (Y hi) [Y hi] fun m xO e=>?_
 have xb:=(hE.trans pP).trans xO
 refine oN 1<|sr<|oX 2<|WO.cons (WC.call 9 108 ([K.v,.func (.func 263) #[] #[pt G 0,pt (G+1) 0]]) (fun _ _ _=>by(try rw[h_]);kernel_rfl) ((xH (A:=fun n=>n<(lo)\/(hi)<n) K 263 #[pt G 0,pt (G+1) 0] m (G+1+1) (hK.mono xb) (fun i x hx e9 e_ hn he=>Re (lo) (hi) x G (G+1) e9 e_ (he.get (xO.get uE)) (fb om hn) (he.get e) (fb (fo (G+1)) hn))).mono ?_))
 rintro _ u y ⟨⟨uL,rfl,uC⟩,p,j⟩
 refine oq 10 (nN uC) fun b o=>oW 1 ⟨rfl,rfl,[.bool b],U,?_⟩
 refine⟨⟨b,rfl,?_⟩,od,(xb.trans j)⟩
 exact o.trans ⟨fun h x hx=>by constructor<;>(apply Int.not_lt.1;intro k;exact h ⟨x,hx,om⟩),fun h ⟨x,hx,k⟩=>by have:=h x hx;omega⟩
theorem KZ(c:RCond)(O:Ht)(G:Nat)(hc:lM O G c):WF ex 356 [.agg (iw c).toArray] O G (fL G O (gi (nV c))):=by
 refine wd Tryz.f356 26 [.tmp 2] fun hE=>sr<|oB (.agg (iw c).toArray) (iw c) fun jy iI ia=>?_
 refine oN 1<|sr<|oX 2<|oZ G (0+0+0) (Y c.jk) fy ia rfl ?_
 refine oq 6 (sZ c.jk 0) fun j C=>oX 1<|gT 7 j (pt G 0)<|gT 7 j (pt G (0+0+1))<|lG 7 j G (0+0+1) (Y c.se) fy ia rfl ?_
 refine qH 7 j (sZ c.se 0) fun K E=>?_
 refine nh 12 (nA C E) fun e u=>oX 1<|gT 13 e (pt G 0)<|gT 13 e (pt G (0+0+2))<|lG 13 e G (0+0+2) (Y c.fN) fy ia rfl ?_
 refine qH 13 e (sZ c.fN 0) fun F y=>?_
 refine nh 18 (nA u y) fun nZ rZ=>oX 1<|gT 19 nZ (pt G 0)<|gT 19 nZ (pt G (0+0+3)) ?_
 obtain⟨p,De,o⟩:=hc.fY.1.shape
 have B:=hc.fY.1.2.2
 refine lG 19 nZ G (0+0+3) (.slice p (c.fY.l.length) De) s7 ia (by rw[<-o];rfl)<|gT 19 nZ (Y (.ofNat (c.fY.l.length))) ?_
 refine qH 19 nZ (vY c.fY.l.length 0) fun J z=>?_
 refine nh 25 (nA rZ z) fun m A=>oW 1 ⟨rfl,rfl,[.bool m],U,?_⟩
 refine⟨⟨m,rfl,?_⟩,od,(hE.trans iI)⟩
 exact A.trans ⟨fun⟨⟨⟨a,b⟩,c⟩,d⟩=>⟨a,b,c,fZ om⟩,fun⟨a,b,c,d⟩=>⟨⟨⟨a,b⟩,c⟩,by rw[d];rfl⟩⟩
theorem Vg(l:SV RCond)(O:Ht)(G:Nat)(hl:jC iw 4 (fun O G y=>lM O G y) O G l)(hlen:l.l.length<=2932031007403):WF ex 449 [l.v] O G (D5 (l.l.map .cond) O G):=by
 obtain⟨a1,c2,h_⟩:=hl.1.shape
 have mc:=hl.1.2.2
 rw[h_]
 refine wd Tryz.f449 19 [.tmp 2] fun hE=>sr<|oN 1<|WP.seq<|sr<|oN 3<|WP.block ?_
 refine mu [2,5,6,7] (fun m hs ns vs=>∃(fW:Nat) (J:SV kd),fW+m=l.l.length/\vs=[J.v,.slice a1 (l.l.length) c2,Y (.ofNat (l.l.length)),Y (.ofNat fW)]/\G<=ns/\HE G O hs/\(mD mw 1 (G) hs ns J)/\(J.l=(l.l.take fW).map .cond)/\(J.l.length=fW)) ?_ (l.l.length) ?_
 ·
  rintro ya ql jd _ ⟨fW,J,uz,rfl,oR,jt,ax,L,ay⟩ uA
  have e:=ff nR oR
  have ag:=HE.refl (jd) ql
  have E:=fg (jd)
  refine sr ?_
  obtain⟨De,aw,BO⟩:=kT fW l.l.length
  refine ob 8 aw<|WO.nil<|WP.seq<|cq BO (fun az=>?_) (fun az=>?_)
  ·
   refine WP.skip<|WP.seq<|WP.block<|sr ?_
   have o:fW<l.l.length:=by omega
   refine WO.cons (WC.iy h_ hl.1 (fW) NA sK (o) ?_)
   obtain⟨b,j⟩:=gE o
   refine WO.cons (WC.ly h_ (hl.1.mono jt e) j xM sK<|oA [Y 0,Y 0,Y 0,.slice none (0) 0] S9 fun aC p X=>?_)
   have M:=jt.trans p e
   have ah:=ag.trans p E
   have F:=ff E (fh (jd))
   have an:=ff oR (fh (jd))
   have al:=ff e (fh (jd))
   refine oS jd (0) (.agg (iw b).toArray) (iw b) (iw b) sK rfl (fe.2 ⟨rfl,xm _ (hl.2 b (fa j))⟩) X fun aD u aa aB=>?_
   have N:=M.trans u om
   have ai:=ah.trans u om
   refine WO.nil<|WP.region<|oX 1<|WO.cons (WC.iz jd (0) (iw b) U xM sK aa rfl<|oX 2<|oL [.iface 553 (.agg (iw b).toArray)] fun aE z ab=>?_)
   have R:=N.trans z al
   have aj:=ai.trans z F
   have ao:=ff F (fh (jd+1))
   have aq:=ff an (fh (jd+1))
   obtain⟨aA,A,K⟩:=HL
   refine WO.cons (WC.M4 (enc:=mw) (J:=J) (kd.cond b) rfl U U (ax.mono aj ao) (oK _) ab rfl zx z6 FK A rfl rfl (by decide) (by rw[K];omega) om om om rfl ?_)
   rintro av af C B ae ad W
   have S:=R.trans ad om
   have ar:=ff aq ae
   have ak:=HE.refl (C) af
   have au:=fg (C)
   refine oN 1<|WP.region<|ov 17 (Y (.ofNat (fW+1))) ?_ (fun _ _ _=>by rw[<-gQ (show fW+1<9223372036854775808 by omega)];kernel_rfl)
   refine oN 1<|⟨l.l.length-(fW+1),om,rfl,rfl,fW+1,av,om,U,?_,?_,?_,?_,?_⟩
   · exact ar
   · exact S
   · exact W.mono ak au
   · rw[B,L,List.take_add_one,j];simp
   · rw[B,List.length_append,ay];rfl
  ·
   refine WP.exit<|sr<|oW 2 ⟨rfl,rfl,[J.v],U,?_⟩
   have hi:fW=l.l.length:=by omega
   exact⟨J,rfl,by rw[L,hi,List.take_length],ax,e,jt⟩
 ·
  exact⟨0,⟨.slice none 0 0,[]⟩,om,U,fg _,hE,mD.nil,(by simp),rfl⟩
theorem HN(l:SV RStep)(O:Ht)(G:Nat)(hl:jC jG 8 (fun O G y=>j_ O G y) O G l)(hlen:l.l.length<=2932031007403):WF ex 201 [l.v] O G (D5 (l.l.map .step) O G):=by
 obtain⟨a1,c2,h_⟩:=hl.1.shape
 have mc:=hl.1.2.2
 rw[h_]
 refine wd Tryz.f201 19 [.tmp 2] fun hE=>sr<|oN 1<|WP.seq<|sr<|oN 3<|WP.block ?_
 refine mu [2,5,6,7] (fun m hs ns vs=>∃(fW:Nat) (J:SV kd),fW+m=l.l.length/\vs=[J.v,.slice a1 (l.l.length) c2,Y (.ofNat (l.l.length)),Y (.ofNat fW)]/\G<=ns/\HE G O hs/\(mD mw 1 (G) hs ns J)/\(J.l=(l.l.take fW).map .step)/\(J.l.length=fW)) ?_ (l.l.length) ?_
 ·
  rintro ya ql jd _ ⟨fW,J,uz,rfl,oR,jt,aw,L,ax⟩ uA
  have e:=ff nR oR
  have ag:=HE.refl (jd) ql
  have E:=fg (jd)
  refine sr ?_
  refine oq 8 (kT fW l.l.length) fun De BO=>WO.nil<|WP.seq<|cq BO (fun ay=>?_) (fun ay=>?_)
  ·
   refine WP.skip<|WP.seq<|WP.block<|sr ?_
   have o:fW<l.l.length:=by omega
   refine WO.cons (WC.iy h_ hl.1 (fW) Dk uM (o) ?_)
   obtain⟨b,j⟩:=gE o
   refine WO.cons (WC.ly h_ (hl.1.mono jt e) j NN uM<|oA [Y 0,Y 0,Y 0,Y 0,Y 0,.slice none (0) 0,.slice none (0) 0,.slice none (0) 0] S_ fun aB p X=>?_)
   have M:=jt.trans p e
   have ah:=ag.trans p E
   have F:=ff E (fh (jd))
   have an:=ff oR (fh (jd))
   have al:=ff e (fh (jd))
   refine oS jd (0) (.agg (jG b).toArray) (jG b) (jG b) uM rfl (fe.2 ⟨rfl,CE _ (hl.2 b (fa j))⟩) X fun aC u aa aA=>?_
   have N:=M.trans u om
   have ai:=ah.trans u om
   refine WO.nil<|WP.region<|oX 1<|WO.cons (WC.iz jd (0) (jG b) U NN uM aa rfl<|oX 2<|oL [.iface 469 (.agg (jG b).toArray)] fun aD z ab=>?_)
   have R:=N.trans z al
   have aj:=ai.trans z F
   have ao:=ff F (fh (jd+1))
   have aq:=ff an (fh (jd+1))
   obtain⟨az,A,K⟩:=HL
   refine WO.cons (WC.M4 (enc:=mw) (J:=J) (kd.step b) rfl U U (aw.mono aj ao) (oK _) ab rfl zx z6 FK A rfl rfl (by decide) (by rw[K];omega) om om om rfl ?_)
   rintro av af C B ae ad W
   have S:=R.trans ad om
   have ar:=ff aq ae
   have ak:=HE.refl (C) af
   have au:=fg (C)
   refine oN 1<|WP.region<|ov 17 (Y (.ofNat (fW+1))) ?_ (fun _ _ _=>by rw[<-gQ (show fW+1<9223372036854775808 by omega)];kernel_rfl)
   refine oN 1<|⟨l.l.length-(fW+1),om,rfl,rfl,fW+1,av,om,U,?_,?_,?_,?_,?_⟩
   · exact ar
   · exact S
   · exact W.mono ak au
   · rw[B,L,List.take_add_one,j];simp
   · rw[B,List.length_append,ax];rfl
  ·
   refine WP.exit<|sr<|oW 2 ⟨rfl,rfl,[J.v],U,?_⟩
   have hi:fW=l.l.length:=by omega
   exact⟨J,rfl,by rw[L,hi,List.take_length],aw,e,jt⟩
 ·
  exact⟨0,⟨.slice none 0 0,[]⟩,om,U,fg _,hE,mD.nil,(by simp),rfl⟩
theorem yN(c:RCond)(O:Ht)(G:Nat)(hc:lM O G c):WF ex 417 [.agg (iw c).toArray] O G (D5 (qN (.cond c)) O G):=by
 refine wd Tryz.f417 7 [.tmp 2] fun hE=>sr<|oB (.agg (iw c).toArray) (iw c) fun jy iI ia=>?_
 have lq:=hE.trans iI
 refine oN 1<|sr<|oX 2 ?_
 obtain⟨p,u,b⟩:=hc.fY.1.shape
 have o:=hc.fY.1.2.2
 refine oZ G (0+0+3) (.slice p (c.fY.l.length) u) s7 ia (by rw[<-b];rfl)<|WO.cons (WC.call 6 449 ([c.fY.v]) (fun _ _ _=>by(try rw[b]);kernel_rfl) ((Vg c.fY jy (G+1) (hc.fY.mono (fun _ h he hn=>h.mono he hn) lq) (by have:=hc.len;omega)).mono ?_))
 rintro _ zq vE ⟨e,rfl,m,j,Ka,xO⟩
 refine oW 1 ⟨rfl,rfl,[e.v],U,?_⟩
 exact⟨e,rfl,m,j.low om,od,(lq.trans xO)⟩
theorem yO(s:RStep)(O:Ht)(G:Nat)(hs:j_ O G s):WF ex 418 [.agg (jG s).toArray] O G (D5 (qN (.step s)) O G):=by
 refine wd Tryz.f418 12 [.tmp 2] fun hE=>sr<|oB (.agg (jG s).toArray) (jG s) fun jy iI ia=>?_
 have lq:=hE.trans iI
 refine oN 1<|WP.seq<|WP.qZ [⟨[0,1,2,4,5,6],[0,1,2,4,5,6],some 3⟩,⟨[],[4,5,6],some 7⟩,⟨[],[],some 8⟩,⟨[],[],some 9⟩,⟨[],[],none⟩] U _ rfl<|WD.kZ<|nv 3 (pt G 0)<|nv 4 (pt G (0+0+6)) ?_
 obtain⟨ad,af,e⟩:=hs.mj.1.shape
 have ai:=hs.mj.1.2.2
 refine WN.hZ rfl (WC.jW G (0+0+6) (.slice ad (s.mj.l.length) af) U vu ia (by rw[<-e];rfl)<|nv 7 (pt G 0)<|nv 8 (pt G (0+0+7)) ?_)
 obtain⟨o,nZ,b⟩:=hs.nU.1.shape
 have aj:=hs.nU.1.2.2
 refine WN.hZ rfl (WC.jW G (0+0+7) (.slice o (s.nU.l.length) nZ) U vu ia (by rw[<-b];rfl)<|WN.nil ⟨?_,?_⟩)
 ·
  refine cv (pt G 0) (iR ..)<|cv (pt G (0+0+6)) (iR ..)<|qk G (0+0+6) (.slice ad (s.mj.l.length) af) vu ia (by rw[<-e];rfl) (e▸hs.mj.1.jA 8)<|cv (pt G 0) (iR ..)<|cv (pt G (0+0+7)) (iR ..)<|qk G (0+0+7) (.slice o (s.nU.l.length) nZ) vu ia (by rw[<-b];rfl) (b▸hs.nU.1.jA 8) ?_
  exact jc.nil
 refine WC.at rfl (WC.call 6 201 ([s.mj.v]) (fun _ _ _=>by(try rw[e]);kernel_rfl) ((HN s.mj jy (G+1) (hs.mj.mono (fun _ h he hn=>h.mono he hn) lq) (by have:=hs.len;omega)).mono ?_))
 rintro _ X aa ⟨K,rfl,A,L,al,u⟩
 have p:=lq.trans u
 refine WD.kZ<|WN.nil ⟨?_,?_⟩
 ·
  refine cv (pt G 0) (iR ..)<|cv (pt G (0+0+7)) (iR ..)<|qk G (0+0+7) (.slice o (s.nU.l.length) nZ) vu (u.get ia) (by rw[<-b];rfl) (b▸hs.nU.1.jA 8) ?_
  exact jc.nil
 refine WC.at rfl (WC.call 10 201 ([s.nU.v]) (fun _ _ _=>by(try rw[b]);kernel_rfl) ((HN s.nU X (aa) (hs.nU.mono (fun _ h he hn=>h.mono he hn) p) (by have:=hs.len;omega)).mono ?_))
 rintro _ ao ar ⟨j,rfl,B,M,W,y⟩
 refine WD.kZ<|WN.nil ⟨?_,?_⟩
 ·
  exact jc.nil
 obtain⟨ak,z,F⟩:=HL
 have ag:K.l.length=s.mj.l.length:=by rw[A,List.length_map]
 have ah:j.l.length=s.nU.l.length:=by rw[B,List.length_map]
 have av:=hs.len
 have E:=M.ok (oK _) om
 obtain⟨ab,ae,C⟩:=E.shape
 refine WC.at rfl (WC.zh (enc:=mw) (J:=K) (w:=.slice ab j.l.length ae) j.l rfl U (by rw[<-C];kernel_rfl) ((L.mono y W).low om:mD mw 1 G _ _ _) (oK _) zx z6 FK z (by simp only[pR,zx]) (E.src C) rfl (oK _) (KX _) (by decide) (by rw[F];omega) om om om rfl ?_)
 rintro m aq au S an R N
 refine WD.kZ<|WN.nil ⟨?_,?_⟩
 ·
  exact jc.nil
 refine WC.at rfl (WC.val 2 (m.v) kf<|WD.last<|WN.nil ⟨?_,?_⟩)
 ·
  exact jc.nil
 refine WP.ret ⟨rfl,rfl,[m.v],U,?_⟩
 exact⟨m,rfl,(by rw[S,A,B];rfl),N.low om,od,((p.trans y).trans R)⟩
theorem mT(lo hi a:Int)(K:SV Int)(O:Ht)(G:Nat)(hK:gB encI 1 O G K)(h:K.l=[a]):WF ex 179 [Y lo,Y hi,K.v] O G (fL G O (gi (lo<=a/\a<=hi))):=
 (z7 lo hi K O G hK).mono fun v _ _ ⟨⟨c,h1,D⟩,k⟩=>⟨⟨c,h1,D.trans (by rw[h];simp)⟩,k⟩
theorem yP(lo hi a b:Int)(K:SV Int)(O:Ht)(G:Nat)(hK:gB encI 1 O G K)(h:K.l=[a,b]):WF ex 179 [Y lo,Y hi,K.v] O G (fL G O (gi ((lo<=a/\a<=hi)/\lo<=b/\b<=hi))):=
 (z7 lo hi K O G hK).mono fun v _ _ ⟨⟨c,h1,D⟩,k⟩=>⟨⟨c,h1,D.trans (by rw[h];simp)⟩,k⟩
theorem FL{A:kc->Prop}(K:SV kc)(f:FuncId)(b:Array Value)(O:Ht)(G:Nat)(hK:jC iS 5 (fun O G y=>lZ O G y) O G K)(hf:∀(i:Nat) (x:kc),K.l[i]?=some x->∀(e9:Ht) (e_:Nat),G<=e_->HE G O e9->WF ex f ((.agg (iS x).toArray)::b.toList) e9 e_ (fL e_ e9 (gi (A x)))):WF ex 283 [K.v,.func (.func f) #[] b] O G (fL G O (qf K.l A)):=by
 have mL:=fF (e:=ex) 283 Tryz.f283 19 [.tmp 4]
 have nM:=@wQ
 have pq:=@oz
 have tj:=@zv
 let pK:=iS
 exact UN
theorem Dn{A:kc->Prop}(K:SV kc)(f:FuncId)(b:Array Value)(O:Ht)(G:Nat)(hK:jC iS 5 (fun O G y=>lZ O G y) O G K)(hf:∀(i:Nat) (x:kc),K.l[i]?=some x->∀(e9:Ht) (e_:Nat),G<=e_->HE G O e9->WF ex f ((.agg (iS x).toArray)::b.toList) e9 e_ (fL e_ e9 (gi (A x)))):WF ex 202 [K.v,.func (.func f) #[] b] O G (fL G O (gi (∃x∈K.l,A x))):=by
 have mL:=fF (e:=ex) 202 Tryz.f202 9 [.tmp 4]
 have nM:=@FL
 exact Nj
theorem D7{p:Prop}(h:p:=by
 refine GM mL fun hE=>sr<|oB (.agg (pK x).toArray) (pK x) fun jy iI ia=>?_
 have lq:=hE.trans iI
 refine oN 1<|sr<|oZ bb (0) (.func (.func f) #[] b) nM (iI.get hb jH) rfl<|WO.cons (WC.iz G (0) (pK x) U pq tj ia rfl<|WO.cons (WC.call 6 f ((.agg (pK x).toArray)::b.toList) kf ((hf jy (G+1) om lq).mono ?_)))
 rintro _ CH US ⟨⟨De,rfl,BO⟩,aai,xa⟩
 refine oq 7 (nN BO) fun sJ v_=>oW 1 ⟨rfl,rfl,[.bool sJ],U,?_⟩
 refine⟨⟨sJ,rfl,?_⟩,od,(lq.trans xa)⟩
 exact v_):p:=h
theorem I9{A:Prop}(x:kc)(f:FuncId)(b:Array Value)(bb:Nat)(O:Ht)(G:Nat)(hx:lZ O G x)(hb:O.get bb=some (.cells [.func (.func f) #[] b] gm.plain))(jH:bb<G)(hf:∀(e9:Ht) (e_:Nat),G<=e_->HE G O e9->WF ex f ((.agg (iS x).toArray)::b.toList) e9 e_ (fL e_ e9 (gi A))):WF ex 203 [.agg (iS x).toArray,pt bb 0] O G (fL G O (gi (¬A))):=by
 have mL:=fF (e:=ex) 203 Tryz.f203 8 [.tmp 3]
 have nM:=@U9
 have pq:=@zv
 have tj:=@oz
 let pK:=iS
 exact D7
theorem YL{p:Prop}(h:p:=by
 obtain⟨a1,c2,h_⟩:=hK.1.shape
 have mc:=hK.1.2.2
 rw[h_]
 refine GM mL fun hE=>sr<|oB (.func (.func f) #[] b) [.func (.func f) #[] b] fun zV pP uE=>?_
 have AD:=hE.trans pP nR
 have As:=ff nR (fh (G))
 refine oN 1<|sr<|oX 2<|WO.cons (WC.call 7 _ ([K.v,.func (.func _) #[] #[pt G 0]]) (fun _ _ _=>by(try rw[h_]);kernel_rfl) ((nM (A:=fun x=>¬A x) K _ #[pt G 0] zV (G+1) (hK.mono (fun _ h he hn=>h.mono he hn) AD As) (fun i x hx e9 e_ hn he=>pq (A:=A x) x f b G e9 e_ (((hK.mono (fun _ h he hn=>h.mono he hn) AD As).2 x (fa hx)).mono he hn) (he.get uE (fo (G))) (fb (fo (G)) hn) (fun jy o_ yr ui=>hf i x hx jy o_ (ff As (ff hn yr)) ((AD.trans he As).trans ui (ff As hn))))).mono ?_))
 rintro _ zq vE ⟨⟨r5,rfl,vh⟩,Ka,xO⟩
 have xb:=AD.trans xO As
 have Rf:=ff As Ka
 refine oq 8 (nN vh) fun yI FA=>oW 1 ⟨rfl,rfl,[.bool yI],U,?_⟩
 refine⟨⟨yI,rfl,?_⟩,Rf,xb⟩
 exact FA.trans YK):p:=h
theorem Dp(A:kc->Prop)(K:SV kc)(f:FuncId)(b:Array Value)(O:Ht)(G:Nat)(hK:jC iS 5 (fun O G y=>lZ O G y) O G K)(hf:∀(i:Nat) (x:kc),K.l[i]?=some x->∀(e9:Ht) (e_:Nat),G<=e_->HE G O e9->WF ex f ((.agg (iS x).toArray)::b.toList) e9 e_ (fL e_ e9 (gi (A x)))):WF ex 100 [K.v,.func (.func f) #[] b] O G (fL G O (gi (∀x∈K.l,A x))):=by
 have mL:=fF (e:=ex) 100 Tryz.f100 9 [.tmp 4]
 have nM:=@Dn
 have pq:=@I9
 exact YL
theorem Kb{A:RPart->Prop}(K:SV RPart)(f:FuncId)(b:Array Value)(O:Ht)(G:Nat)(hK:jC jQ 3 (fun O G y=>kV O G y) O G K)(hf:∀(i:Nat) (x:RPart),K.l[i]?=some x->∀(e9:Ht) (e_:Nat),G<=e_->HE G O e9->WF ex f ((.agg (jQ x).toArray)::b.toList) e9 e_ (fL e_ e9 (gi (A x)))):WF ex 349 [K.v,.func (.func f) #[] b] O G (fL G O (qf K.l A)):=by
 have mL:=fF (e:=ex) 349 Tryz.f349 19 [.tmp 4]
 have nM:=@zt
 have pq:=@rO
 have tj:=@DX
 let pK:=jQ
 exact UN
theorem Gq{A:RPart->Prop}(K:SV RPart)(f:FuncId)(b:Array Value)(O:Ht)(G:Nat)(hK:jC jQ 3 (fun O G y=>kV O G y) O G K)(hf:∀(i:Nat) (x:RPart),K.l[i]?=some x->∀(e9:Ht) (e_:Nat),G<=e_->HE G O e9->WF ex f ((.agg (jQ x).toArray)::b.toList) e9 e_ (fL e_ e9 (gi (A x)))):WF ex 264 [K.v,.func (.func f) #[] b] O G (fL G O (gi (∃x∈K.l,A x))):=by
 have mL:=fF (e:=ex) 264 Tryz.f264 9 [.tmp 4]
 have nM:=@Kb
 exact Nj
theorem OW{A:Prop}(x:RPart)(f:FuncId)(b:Array Value)(bb:Nat)(O:Ht)(G:Nat)(hx:kV O G x)(hb:O.get bb=some (.cells [.func (.func f) #[] b] gm.plain))(jH:bb<G)(hf:∀(e9:Ht) (e_:Nat),G<=e_->HE G O e9->WF ex f ((.agg (jQ x).toArray)::b.toList) e9 e_ (fL e_ e9 (gi A))):WF ex 265 [.agg (jQ x).toArray,pt bb 0] O G (fL G O (gi (¬A))):=by
 have mL:=fF (e:=ex) 265 Tryz.f265 8 [.tmp 3]
 have nM:=@HM
 have pq:=@DX
 have tj:=@rO
 let pK:=jQ
 exact D7
theorem I_(A:RPart->Prop)(K:SV RPart)(f:FuncId)(b:Array Value)(O:Ht)(G:Nat)(hK:jC jQ 3 (fun O G y=>kV O G y) O G K)(hf:∀(i:Nat) (x:RPart),K.l[i]?=some x->∀(e9:Ht) (e_:Nat),G<=e_->HE G O e9->WF ex f ((.agg (jQ x).toArray)::b.toList) e9 e_ (fL e_ e9 (gi (A x)))):WF ex 180 [K.v,.func (.func f) #[] b] O G (fL G O (gi (∀x∈K.l,A x))):=by
 have mL:=fF (e:=ex) 180 Tryz.f180 9 [.tmp 4]
 have nM:=@Gq
 have pq:=@OW
 exact YL
theorem HO{A:o7->Prop}(K:SV o7)(f:FuncId)(b:Array Value)(O:Ht)(G:Nat)(hK:gB lY 3 O G K)(hf:∀(i:Nat) (x:o7),K.l[i]?=some x->∀(e9:Ht) (e_:Nat),G<=e_->HE G O e9->WF ex f ((.agg (lY x).toArray)::b.toList) e9 e_ (fL e_ e9 (gi (A x)))):WF ex 350 [K.v,.func (.func f) #[] b] O G (fL G O (qf K.l A)):=by
 have mL:=fF (e:=ex) 350 Tryz.f350 19 [.tmp 4]
 have nM:=@Vf
 have pq:=@KY
 have tj:=@NO
 let pK:=lY
 exact Fy
theorem EB{A:o7->Prop}(K:SV o7)(f:FuncId)(b:Array Value)(O:Ht)(G:Nat)(hK:gB lY 3 O G K)(hf:∀(i:Nat) (x:o7),K.l[i]?=some x->∀(e9:Ht) (e_:Nat),G<=e_->HE G O e9->WF ex f ((.agg (lY x).toArray)::b.toList) e9 e_ (fL e_ e9 (gi (A x)))):WF ex 266 [K.v,.func (.func f) #[] b] O G (fL G O (gi (∃x∈K.l,A x))):=by
 have mL:=fF (e:=ex) 266 Tryz.f266 9 [.tmp 4]
 have nM:=@HO
 exact Fw
theorem Ly{A:Prop}(x:o7)(f:FuncId)(b:Array Value)(bb:Nat)(O:Ht)(G:Nat)(hb:O.get bb=some (.cells [.func (.func f) #[] b] gm.plain))(jH:bb<G)(hf:∀(e9:Ht) (e_:Nat),G<=e_->HE G O e9->WF ex f ((.agg (lY x).toArray)::b.toList) e9 e_ (fL e_ e9 (gi A))):WF ex 267 [.agg (lY x).toArray,pt bb 0] O G (fL G O (gi (¬A))):=by
 have mL:=fF (e:=ex) 267 Tryz.f267 8 [.tmp 3]
 have nM:=@NP
 have pq:=@NO
 have tj:=@KY
 let pK:=lY
 exact D7
theorem D8{p:Prop}(h:p:=by
 obtain⟨a1,c2,h_⟩:=hK.shape
 have mc:=hK.2.2
 rw[h_]
 refine GM mL fun hE=>sr<|oB (.func (.func f) #[] b) [.func (.func f) #[] b] fun zV pP uE=>?_
 have AD:=hE.trans pP
 refine oN 1<|sr<|oX 2<|WO.cons (WC.call 7 _ ([K.v,.func (.func _) #[] #[pt G 0]]) (fun _ _ _=>by(try rw[h_]);kernel_rfl) ((nM (A:=fun x=>¬A x) K _ #[pt G 0] zV (G+1) (hK.mono AD) (fun i x hx e9 e_ hn he=>pq (A:=A x) x f b G e9 e_ (he.get uE) (fb (fo (G)) hn) (fun jy o_ yr ui=>hf i x hx jy o_ (ff om (ff hn yr)) ((AD.trans he).trans ui (ff om hn))))).mono ?_))
 rintro _ zq vE ⟨⟨r5,rfl,vh⟩,Ka,xO⟩
 refine oq 8 (nN vh) fun yI FA=>oW 1 ⟨rfl,rfl,[.bool yI],U,?_⟩
 refine⟨⟨yI,rfl,?_⟩,od,(AD.trans xO)⟩
 exact FA.trans YK):p:=h
theorem FM(A:o7->Prop)(K:SV o7)(f:FuncId)(b:Array Value)(O:Ht)(G:Nat)(hK:gB lY 3 O G K)(hf:∀(i:Nat) (x:o7),K.l[i]?=some x->∀(e9:Ht) (e_:Nat),G<=e_->HE G O e9->WF ex f ((.agg (lY x).toArray)::b.toList) e9 e_ (fL e_ e9 (gi (A x)))):WF ex 183 [K.v,.func (.func f) #[] b] O G (fL G O (gi (∀x∈K.l,A x))):=by
 have mL:=fF (e:=ex) 183 Tryz.f183 9 [.tmp 4]
 have nM:=@EB
 have pq:=@Ly
 exact D8
theorem Lz{A:tZ->Prop}(K:SV tZ)(f:FuncId)(b:Array Value)(O:Ht)(G:Nat)(hK:gB pn 2 O G K)(hf:∀(i:Nat) (x:tZ),K.l[i]?=some x->∀(e9:Ht) (e_:Nat),G<=e_->HE G O e9->WF ex f ((.agg (pn x).toArray)::b.toList) e9 e_ (fL e_ e9 (gi (A x)))):WF ex 351 [K.v,.func (.func f) #[] b] O G (fL G O (qf K.l A)):=by
 have mL:=fF (e:=ex) 351 Tryz.f351 19 [.tmp 4]
 have nM:=@Dm
 have pq:=@yc
 have tj:=@HD
 let pK:=pn
 exact Fy
theorem HP{A:tZ->Prop}(K:SV tZ)(f:FuncId)(b:Array Value)(O:Ht)(G:Nat)(hK:gB pn 2 O G K)(hf:∀(i:Nat) (x:tZ),K.l[i]?=some x->∀(e9:Ht) (e_:Nat),G<=e_->HE G O e9->WF ex f ((.agg (pn x).toArray)::b.toList) e9 e_ (fL e_ e9 (gi (A x)))):WF ex 268 [K.v,.func (.func f) #[] b] O G (fL G O (gi (∃x∈K.l,A x))):=by
 have mL:=fF (e:=ex) 268 Tryz.f268 9 [.tmp 4]
 have nM:=@Lz
 exact Fw
theorem Rg{A:Prop}(x:tZ)(f:FuncId)(b:Array Value)(bb:Nat)(O:Ht)(G:Nat)(hb:O.get bb=some (.cells [.func (.func f) #[] b] gm.plain))(jH:bb<G)(hf:∀(e9:Ht) (e_:Nat),G<=e_->HE G O e9->WF ex f ((.agg (pn x).toArray)::b.toList) e9 e_ (fL e_ e9 (gi A))):WF ex 269 [.agg (pn x).toArray,pt bb 0] O G (fL G O (gi (¬A))):=by
 have mL:=fF (e:=ex) 269 Tryz.f269 8 [.tmp 3]
 have nM:=@Vc
 have pq:=@HD
 have tj:=@yc
 let pK:=pn
 exact D7
theorem Ta(A:tZ->Prop)(K:SV tZ)(f:FuncId)(b:Array Value)(O:Ht)(G:Nat)(hK:gB pn 2 O G K)(hf:∀(i:Nat) (x:tZ),K.l[i]?=some x->∀(e9:Ht) (e_:Nat),G<=e_->HE G O e9->WF ex f ((.agg (pn x).toArray)::b.toList) e9 e_ (fL e_ e9 (gi (A x)))):WF ex 187 [K.v,.func (.func f) #[] b] O G (fL G O (gi (∀x∈K.l,A x))):=by
 have mL:=fF (e:=ex) 187 Tryz.f187 9 [.tmp 4]
 have nM:=@HP
 have pq:=@Rg
 exact D8
theorem LA{A:tn->Prop}(K:SV tn)(f:FuncId)(b:Array Value)(O:Ht)(G:Nat)(hK:gB mH 4 O G K)(hf:∀(i:Nat) (x:tn),K.l[i]?=some x->∀(e9:Ht) (e_:Nat),G<=e_->HE G O e9->WF ex f ((.agg (mH x).toArray)::b.toList) e9 e_ (fL e_ e9 (gi (A x)))):WF ex 255 [K.v,.func (.func f) #[] b] O G (fL G O (qf K.l A)):=by
 have mL:=fF (e:=ex) 255 Tryz.f255 19 [.tmp 4]
 have nM:=@J_
 have pq:=@tQ
 have tj:=@BR
 let pK:=mH
 exact Fy
theorem HQ{A:tn->Prop}(K:SV tn)(f:FuncId)(b:Array Value)(O:Ht)(G:Nat)(hK:gB mH 4 O G K)(hf:∀(i:Nat) (x:tn),K.l[i]?=some x->∀(e9:Ht) (e_:Nat),G<=e_->HE G O e9->WF ex f ((.agg (mH x).toArray)::b.toList) e9 e_ (fL e_ e9 (gi (A x)))):WF ex 270 [K.v,.func (.func f) #[] b] O G (fL G O (gi (∃x∈K.l,A x))):=by
 have mL:=fF (e:=ex) 270 Tryz.f270 9 [.tmp 4]
 have nM:=@LA
 exact Fw
theorem Rh{A:Prop}(x:tn)(f:FuncId)(b:Array Value)(bb:Nat)(O:Ht)(G:Nat)(hb:O.get bb=some (.cells [.func (.func f) #[] b] gm.plain))(jH:bb<G)(hf:∀(e9:Ht) (e_:Nat),G<=e_->HE G O e9->WF ex f ((.agg (mH x).toArray)::b.toList) e9 e_ (fL e_ e9 (gi A))):WF ex 271 [.agg (mH x).toArray,pt bb 0] O G (fL G O (gi (¬A))):=by
 have mL:=fF (e:=ex) 271 Tryz.f271 8 [.tmp 3]
 have nM:=@U_
 have pq:=@BR
 have tj:=@tQ
 let pK:=mH
 exact D7
theorem Tb(A:tn->Prop)(K:SV tn)(f:FuncId)(b:Array Value)(O:Ht)(G:Nat)(hK:gB mH 4 O G K)(hf:∀(i:Nat) (x:tn),K.l[i]?=some x->∀(e9:Ht) (e_:Nat),G<=e_->HE G O e9->WF ex f ((.agg (mH x).toArray)::b.toList) e9 e_ (fL e_ e9 (gi (A x)))):WF ex 189 [K.v,.func (.func f) #[] b] O G (fL G O (gi (∀x∈K.l,A x))):=by
 have mL:=fF (e:=ex) 189 Tryz.f189 9 [.tmp 4]
 have nM:=@HQ
 have pq:=@Rh
 exact D8
theorem Kc{A:q_->Prop}(K:SV q_)(f:FuncId)(b:Array Value)(O:Ht)(G:Nat)(hK:gB nT 2 O G K)(hf:∀(i:Nat) (x:q_),K.l[i]?=some x->∀(e9:Ht) (e_:Nat),G<=e_->HE G O e9->WF ex f ((.agg (nT x).toArray)::b.toList) e9 e_ (fL e_ e9 (gi (A x)))):WF ex 352 [K.v,.func (.func f) #[] b] O G (fL G O (qf K.l A)):=by
 have mL:=fF (e:=ex) 352 Tryz.f352 19 [.tmp 4]
 have nM:=@PR
 have pq:=@FI
 have tj:=@HF
 let pK:=nT
 exact Fy
theorem Gr{A:q_->Prop}(K:SV q_)(f:FuncId)(b:Array Value)(O:Ht)(G:Nat)(hK:gB nT 2 O G K)(hf:∀(i:Nat) (x:q_),K.l[i]?=some x->∀(e9:Ht) (e_:Nat),G<=e_->HE G O e9->WF ex f ((.agg (nT x).toArray)::b.toList) e9 e_ (fL e_ e9 (gi (A x)))):WF ex 272 [K.v,.func (.func f) #[] b] O G (fL G O (gi (∃x∈K.l,A x))):=by
 have mL:=fF (e:=ex) 272 Tryz.f272 9 [.tmp 4]
 have nM:=@Kc
 exact Fw
theorem OX{A:Prop}(x:q_)(f:FuncId)(b:Array Value)(bb:Nat)(O:Ht)(G:Nat)(hb:O.get bb=some (.cells [.func (.func f) #[] b] gm.plain))(jH:bb<G)(hf:∀(e9:Ht) (e_:Nat),G<=e_->HE G O e9->WF ex f ((.agg (nT x).toArray)::b.toList) e9 e_ (fL e_ e9 (gi A))):WF ex 273 [.agg (nT x).toArray,pt bb 0] O G (fL G O (gi (¬A))):=by
 have mL:=fF (e:=ex) 273 Tryz.f273 8 [.tmp 3]
 have nM:=@Vd
 have pq:=@HF
 have tj:=@FI
 let pK:=nT
 exact D7
theorem Ri(A:q_->Prop)(K:SV q_)(f:FuncId)(b:Array Value)(O:Ht)(G:Nat)(hK:gB nT 2 O G K)(hf:∀(i:Nat) (x:q_),K.l[i]?=some x->∀(e9:Ht) (e_:Nat),G<=e_->HE G O e9->WF ex f ((.agg (nT x).toArray)::b.toList) e9 e_ (fL e_ e9 (gi (A x)))):WF ex 192 [K.v,.func (.func f) #[] b] O G (fL G O (gi (∀x∈K.l,A x))):=by
 have mL:=fF (e:=ex) 192 Tryz.f192 9 [.tmp 4]
 have nM:=@Gr
 have pq:=@OX
 exact D8
theorem Gs{A:mV->Prop}(K:SV mV)(f:FuncId)(b:Array Value)(O:Ht)(G:Nat)(hK:gB kl 4 O G K)(hf:∀(i:Nat) (x:mV),K.l[i]?=some x->∀(e9:Ht) (e_:Nat),G<=e_->HE G O e9->WF ex f ((.agg (kl x).toArray)::b.toList) e9 e_ (fL e_ e9 (gi (A x)))):WF ex 353 [K.v,.func (.func f) #[] b] O G (fL G O (qf K.l A)):=by
 have mL:=fF (e:=ex) 353 Tryz.f353 19 [.tmp 4]
 have nM:=@PS
 have pq:=@yd
 have tj:=@DZ
 let pK:=kl
 exact Fy
theorem D9{A:mV->Prop}(K:SV mV)(f:FuncId)(b:Array Value)(O:Ht)(G:Nat)(hK:gB kl 4 O G K)(hf:∀(i:Nat) (x:mV),K.l[i]?=some x->∀(e9:Ht) (e_:Nat),G<=e_->HE G O e9->WF ex f ((.agg (kl x).toArray)::b.toList) e9 e_ (fL e_ e9 (gi (A x)))):WF ex 274 [K.v,.func (.func f) #[] b] O G (fL G O (gi (∃x∈K.l,A x))):=by
 have mL:=fF (e:=ex) 274 Tryz.f274 9 [.tmp 4]
 have nM:=@Gs
 exact Fw
theorem Kd{A:Prop}(x:mV)(f:FuncId)(b:Array Value)(bb:Nat)(O:Ht)(G:Nat)(hb:O.get bb=some (.cells [.func (.func f) #[] b] gm.plain))(jH:bb<G)(hf:∀(e9:Ht) (e_:Nat),G<=e_->HE G O e9->WF ex f ((.agg (kl x).toArray)::b.toList) e9 e_ (fL e_ e9 (gi A))):WF ex 275 [.agg (kl x).toArray,pt bb 0] O G (fL G O (gi (¬A))):=by
 have mL:=fF (e:=ex) 275 Tryz.f275 8 [.tmp 3]
 have nM:=@Va
 have pq:=@DZ
 have tj:=@yd
 let pK:=kl
 exact D7
theorem LB(A:mV->Prop)(K:SV mV)(f:FuncId)(b:Array Value)(O:Ht)(G:Nat)(hK:gB kl 4 O G K)(hf:∀(i:Nat) (x:mV),K.l[i]?=some x->∀(e9:Ht) (e_:Nat),G<=e_->HE G O e9->WF ex f ((.agg (kl x).toArray)::b.toList) e9 e_ (fL e_ e9 (gi (A x)))):WF ex 194 [K.v,.func (.func f) #[] b] O G (fL G O (gi (∀x∈K.l,A x))):=by
 have mL:=fF (e:=ex) 194 Tryz.f194 9 [.tmp 4]
 have nM:=@D9
 have pq:=@Kd
 exact D8
theorem FN{A:l_->Prop}(K:SV l_)(f:FuncId)(b:Array Value)(O:Ht)(G:Nat)(hK:gB j1 3 O G K)(hf:∀(i:Nat) (x:l_),K.l[i]?=some x->∀(e9:Ht) (e_:Nat),G<=e_->HE G O e9->WF ex f ((.agg (j1 x).toArray)::b.toList) e9 e_ (fL e_ e9 (gi (A x)))):WF ex 354 [K.v,.func (.func f) #[] b] O G (fL G O (qf K.l A)):=by
 have mL:=fF (e:=ex) 354 Tryz.f354 19 [.tmp 4]
 have nM:=@PT
 have pq:=@ye
 have tj:=@D0
 let pK:=j1
 exact Fy
theorem Dq{A:l_->Prop}(K:SV l_)(f:FuncId)(b:Array Value)(O:Ht)(G:Nat)(hK:gB j1 3 O G K)(hf:∀(i:Nat) (x:l_),K.l[i]?=some x->∀(e9:Ht) (e_:Nat),G<=e_->HE G O e9->WF ex f ((.agg (j1 x).toArray)::b.toList) e9 e_ (fL e_ e9 (gi (A x)))):WF ex 276 [K.v,.func (.func f) #[] b] O G (fL G O (gi (∃x∈K.l,A x))):=by
 have mL:=fF (e:=ex) 276 Tryz.f276 9 [.tmp 4]
 have nM:=@FN
 exact Fw
theorem Ja{A:Prop}(x:l_)(f:FuncId)(b:Array Value)(bb:Nat)(O:Ht)(G:Nat)(hb:O.get bb=some (.cells [.func (.func f) #[] b] gm.plain))(jH:bb<G)(hf:∀(e9:Ht) (e_:Nat),G<=e_->HE G O e9->WF ex f ((.agg (j1 x).toArray)::b.toList) e9 e_ (fL e_ e9 (gi A))):WF ex 277 [.agg (j1 x).toArray,pt bb 0] O G (fL G O (gi (¬A))):=by
 have mL:=fF (e:=ex) 277 Tryz.f277 8 [.tmp 3]
 have nM:=@Ve
 have pq:=@D0
 have tj:=@ye
 let pK:=j1
 exact D7
theorem Ke(A:l_->Prop)(K:SV l_)(f:FuncId)(b:Array Value)(O:Ht)(G:Nat)(hK:gB j1 3 O G K)(hf:∀(i:Nat) (x:l_),K.l[i]?=some x->∀(e9:Ht) (e_:Nat),G<=e_->HE G O e9->WF ex f ((.agg (j1 x).toArray)::b.toList) e9 e_ (fL e_ e9 (gi (A x)))):WF ex 195 [K.v,.func (.func f) #[] b] O G (fL G O (gi (∀x∈K.l,A x))):=by
 have mL:=fF (e:=ex) 195 Tryz.f195 9 [.tmp 4]
 have nM:=@Dq
 have pq:=@Ja
 exact D8
theorem Jb{A:po->Prop}(K:SV po)(f:FuncId)(b:Array Value)(O:Ht)(G:Nat)(hK:gB lD 4 O G K)(hf:∀(i:Nat) (x:po),K.l[i]?=some x->∀(e9:Ht) (e_:Nat),G<=e_->HE G O e9->WF ex f ((.agg (lD x).toArray)::b.toList) e9 e_ (fL e_ e9 (gi (A x)))):WF ex 355 [K.v,.func (.func f) #[] b] O G (fL G O (qf K.l A)):=by
 have mL:=fF (e:=ex) 355 Tryz.f355 19 [.tmp 4]
 have nM:=@PU
 have pq:=@yf
 have tj:=@D6
 let pK:=lD
 exact Fy
theorem FO{A:po->Prop}(K:SV po)(f:FuncId)(b:Array Value)(O:Ht)(G:Nat)(hK:gB lD 4 O G K)(hf:∀(i:Nat) (x:po),K.l[i]?=some x->∀(e9:Ht) (e_:Nat),G<=e_->HE G O e9->WF ex f ((.agg (lD x).toArray)::b.toList) e9 e_ (fL e_ e9 (gi (A x)))):WF ex 278 [K.v,.func (.func f) #[] b] O G (fL G O (gi (∃x∈K.l,A x))):=by
 have mL:=fF (e:=ex) 278 Tryz.f278 9 [.tmp 4]
 have nM:=@Jb
 exact Fw
theorem NQ{A:Prop}(x:po)(f:FuncId)(b:Array Value)(bb:Nat)(O:Ht)(G:Nat)(hb:O.get bb=some (.cells [.func (.func f) #[] b] gm.plain))(jH:bb<G)(hf:∀(e9:Ht) (e_:Nat),G<=e_->HE G O e9->WF ex f ((.agg (lD x).toArray)::b.toList) e9 e_ (fL e_ e9 (gi A))):WF ex 279 [.agg (lD x).toArray,pt bb 0] O G (fL G O (gi (¬A))):=by
 have mL:=fF (e:=ex) 279 Tryz.f279 8 [.tmp 3]
 have nM:=@Vb
 have pq:=@D6
 have tj:=@yf
 let pK:=lD
 exact D7
theorem OY(A:po->Prop)(K:SV po)(f:FuncId)(b:Array Value)(O:Ht)(G:Nat)(hK:gB lD 4 O G K)(hf:∀(i:Nat) (x:po),K.l[i]?=some x->∀(e9:Ht) (e_:Nat),G<=e_->HE G O e9->WF ex f ((.agg (lD x).toArray)::b.toList) e9 e_ (fL e_ e9 (gi (A x)))):WF ex 197 [K.v,.func (.func f) #[] b] O G (fL G O (gi (∀x∈K.l,A x))):=by
 have mL:=fF (e:=ex) 197 Tryz.f197 9 [.tmp 4]
 have nM:=@FO
 have pq:=@NQ
 exact D8
end
end Sw
namespace Sw
noncomputable section
open Go Go.Proofs Go.RowKit
set_option maxRecDepth 100000
set_option maxHeartbeats 1600000
structure mo where
 lN:Int
 qa:Int
instance :Inhabited mo:=⟨⟨default,default⟩⟩
def qd(x:mo):List Value:=[Y x.lN,Y x.qa]
structure yQ where
 kF:Int
 km:Int
 oQ:Int
instance :Inhabited yQ:=⟨⟨default,default,default⟩⟩
def sj(x:yQ):List Value:=[Y x.kF,Y x.km,Y x.oQ]
def sE:Nat->Int->RPart->Prop
 |0,_,_=>False
 |n+1,M,p=>(p.ku=0/\(0<=p.jf/\p.jf<=M)/\p.fY.l.length=0)\/(p.ku≠0/\(1<=p.ku/\p.ku<=64)/\p.jf=0/\0<p.fY.l.length/\∀q∈p.fY.l,sE n M q)
def Kf(M:Int)(x:o7):Prop:=((0<=x.jf/\x.jf<=M)/\1<=x.BF)/\0<=x.xn/\x.xn<=1099511627776
def Cf(M:Int)(d:kc):Prop:=(((1<=d.vo/\d.vo<=3)/\-1<=d.jX/\d.jX<=M)/\∀q∈d.jP.l,(sE 17 M) q)/\∀x∈d.jx.l,(Kf M) x
def HR(M:Int)(x:tn):Prop:=(((0<=x.lN/\x.lN<=M)/\0<=x.qa/\x.qa<=M)/\(0<=x.zj/\x.zj<=68719476736)/\0<=x.zk/\x.zk<=68719476736)/\x.zj<=x.zk
def D_(x:mV):Prop:=(x.j2=true/\x.uX=0/\x.ku=0)\/(¬x.j2=true/\x.ku≠0/\x.uX=0/\1<=x.ku/\x.ku<=64)\/(¬x.j2=true/\x.ku=0/\0<=x.uX/\x.uX<=68719476736)
def yR(C:ka)(x:po):Prop:=(((0<=x.kF/\x.kF<=(gy .i64 ((.ofNat (C.fD.l.length))-(1))))/\-1<=x.km/\x.km<=(gy .i64 ((.ofNat (C.iC.l.length))-(1))))/\1<=x.oQ/\x.oQ<=4000)/\1<=x.vp/\x.vp<=1125899906842624
def NR(x:tZ):Prop:=1<=x.jk/\x.jk<=3
def Gh(x:q_):Prop:=0<=x.Ft/\x.Ft<=1099511627776
def Kg(x:l_):Prop:=((0<=x.lN/\x.lN<=120)/\0<=x.qa/\x.qa<=120)/\x.lN<=x.qa
def Cg{α β:Type}(k:α->β)(l:List α):Prop:=(((lC (l.map k)).length:Nat):Int)=((l.length:Nat):Int)
def yg(x:tn):mo:=⟨x.lN,x.qa⟩
def yS(x:po):yQ:=⟨x.kF,x.km,x.oQ⟩
def aal(C:ka):Prop:=((((((((∀x∈C.iD.l,(NR) x)/\(∀x∈C.jY.l,(HR (gy .i64 ((.ofNat (C.iD.l.length))-(1)))) x))/\Cg yg C.jY.l)/\(∀x∈C.fD.l,(Cf (gy .i64 ((.ofNat (C.iD.l.length))-(1)))) x))/\(∀x∈C.kS.l,(Gh) x))/\(∀x∈C.jB.l,(D_) x))/\(∀x∈C.iC.l,(Kg) x))/\(∀x∈C.ln.l,(yR C) x))/\Cg yS C.ln.l
def CK(C:ka):Prop:=((((aal C/\(0<=C.iU.sN/\C.iU.sN<=16)/\0<=C.iU.sO/\C.iU.sO<=16)/\(0<=C.iU.sP/\C.iU.sP<=4294967296)/\0<=C.iU.qb/\C.iU.qb<=4294967296)/\0<=C.iU.ux/\C.iU.ux<=100000)/\0<=C.Ap/\C.Ap<=1125899906842624)/\0<=C.sH/\C.sH<=1099511627776
theorem OZ(x y:mo):yq ex.T 12 247 (.agg (qd x).toArray) (.agg (qd y).toArray)=(bif (kN x.lN y.lN)then(bif (kN x.qa y.qa)then(some true)else(some false))else(some false)):=by kernel_rfl
theorem O0(x y:mo):((kN x.lN y.lN)&&(kN x.qa y.qa))=true↔x=y:=by
 constructor
 · intro h;cases x;cases y;simp only[Bool.and_eq_true,lS,beq_iff_eq,rJ]at h;obtain h:=h;simp_all
 · rintro rfl;simp only[Bool.and_eq_true,lS,beq_iff_eq,rJ,and_self]
theorem O1(x y:mo):yq ex.T 12 247 (.agg (qd x).toArray) (.agg (qd y).toArray)=some ((kN x.lN y.lN)&&(kN x.qa y.qa)):=by
 rw[OZ]
 (cases(kN x.lN y.lN))<;>(cases(kN x.qa y.qa))<;>rfl
theorem NS(x y:yQ):yq ex.T 12 386 (.agg (sj x).toArray) (.agg (sj y).toArray)=(bif (kN x.kF y.kF)then(bif (kN x.km y.km)then(bif (kN x.oQ y.oQ)then(some true)else(some false))else(some false))else(some false)):=by kernel_rfl
theorem NT(x y:yQ):((kN x.kF y.kF)&&(kN x.km y.km)&&(kN x.oQ y.oQ))=true↔x=y:=by
 constructor
 · intro h;cases x;cases y;simp only[Bool.and_eq_true,lS,beq_iff_eq,rJ]at h;obtain h:=h;simp_all
 · rintro rfl;simp only[Bool.and_eq_true,lS,beq_iff_eq,rJ,and_self]
theorem NU(x y:yQ):yq ex.T 12 386 (.agg (sj x).toArray) (.agg (sj y).toArray)=some ((kN x.kF y.kF)&&(kN x.km y.km)&&(kN x.oQ y.oQ)):=by
 rw[NS]
 (cases(kN x.kF y.kF))<;>(cases(kN x.km y.km))<;>(cases(kN x.oQ y.oQ))<;>rfl
theorem Vh:ex.T.agg 247=some true:=U
theorem Xm:ex.T.agg 31=some true:=U
theorem Vi:ex.T.agg 386=some true:=U
theorem K0:ex.T.size 247=some 2:=U
theorem NV:ex.T.size 31=some 5:=U
theorem Tc:ex.T.size 361=some 1:=U
theorem Td:ex.T.size 366=some 1:=U
theorem K3:ex.T.size 386=some 3:=U
theorem K4:ex.T.zero 142=some (.agg ⟨[Y 0,Y 0,Y 0,Y 0]⟩):=U
theorem Te:ex.T.zero 247=some (.agg ⟨[Y 0,Y 0]⟩):=U
theorem Vj:ex.T.zero 31=some (.agg ⟨[Y 0,Y 0,Y 0,Y 0,Y 0]⟩):=U
theorem Tf:ex.T.zero 361=some (.nilFunc):=U
theorem Tg:ex.T.zero 366=some (.nilFunc):=U
theorem Th:ex.T.zero 371=some (.agg ⟨[Y 0,Y 0,Y 0,Y 0]⟩):=U
theorem Ti:ex.T.zero 386=some (.agg ⟨[Y 0,Y 0,Y 0]⟩):=U
theorem Jc:ex.T.jo 245=some (.map 247 4):=U
theorem Wr:ex.T.jo 459=some (.map 386 4):=U
theorem Jd:MK ex.T 247 (fun x:mo=>.agg (qd x).toArray):=
 ⟨fun x=>by kernel_rfl,fun x y=>⟨_,(show rV ex.T 247 (.agg (qd x).toArray) (.agg (qd y).toArray)=yq ex.T 12 247 (.agg (qd x).toArray) (.agg (qd y).toArray)from by kernel_rfl).trans (O1 x y),O0 x y⟩,fun x=>CJ [x.lN,x.qa]⟩
theorem YM:MK ex.T 386 (fun x:yQ=>.agg (sj x).toArray):=
 ⟨fun x=>by kernel_rfl,fun x y=>⟨_,(show rV ex.T 386 (.agg (sj x).toArray) (.agg (sj y).toArray)=yq ex.T 12 386 (.agg (sj x).toArray) (.agg (sj y).toArray)from by kernel_rfl).trans (NU x y),NT x y⟩,fun x=>CJ [x.kF,x.km,x.oQ]⟩
theorem O2(M:Int)(b1:Nat)(x:o7)(O:Ht)(G:Nat)(h1:O.get b1=some (.cells [Y M] gm.plain))(aa:b1<G):WF ex 181 [.agg (lY x).toArray,pt b1 0] O G (fL G O (gi (Kf M x))):=by
 refine wd Tryz.f181 20 [.tmp 3] fun hE=>sr<|oB (.agg (lY x).toArray) (lY x) fun jy iI ia=>?_
 refine oN 1<|sr<|oZ b1 (0) (Y M) fy (iI.get h1 aa) rfl<|oX 1<|oZ G 0 (Y x.jf) fy ia rfl<|oL [Y x.jf] fun CH p C=>?_
 refine oD 8 (mT (0) (M) (x.jf) (⟨.slice (some ⟨(G+1),0,none⟩) 1 1,[x.jf]⟩:SV Int) CH (G+1+1) (gB.ny (enc:=encI) (by simp[encI]) C rfl (by decide) om (by simp):gB encI 1 CH (G+1+1) (⟨.slice (some ⟨(G+1),0,none⟩) 1 1,[x.jf]⟩:SV Int)) rfl) fun e L K b S u=>?_
 have m:=((hE.trans iI).trans p).trans u
 have o:=u.get (p.get ia)
 refine oX 1<|gT 9 e (pt G (0+1))<|lG 9 e G (0+1) (Y x.BF) fy o rfl ?_
 refine qH 9 e (pS 1 x.BF) fun ad N=>?_
 refine nh 13 (nA L N) fun j B=>oX 1<|gT 14 j (pt G (0+2))<|lG 14 j G (0+2) (Y x.xn) fy o rfl ?_
 cases j with
 |true=>
  have ae:=(B).1 rfl
  refine WO.cons (WC.lh (x:=.bool true) (g:=f_ (.tmp 14)) rfl U rfl (WC.buildSlice [Y x.xn] rfl U ?_))
  obtain⟨y,z,F,E⟩:=boxed K (b) [Y x.xn]
  rw[z];clear z
  refine WO.cons (WC.lh (x:=.bool true) (g:=f_ (.tmp 14)) rfl U rfl (WC.call 18 179 ([Y 0,Y 1099511627776,(⟨.slice (some ⟨b,0,none⟩) 1 1,[x.xn]⟩:SV Int).v]) kf ((mT (0) (1099511627776) (x.xn) (⟨.slice (some ⟨b,0,none⟩) 1 1,[x.xn]⟩:SV Int) y (b+1) (gB.ny (enc:=encI) (by simp[encI]) E rfl (by decide) om (by simp):gB encI 1 y (b+1) (⟨.slice (some ⟨b,0,none⟩) 1 1,[x.xn]⟩:SV Int)) rfl).mono ?_)))
  rintro _ X ab ⟨⟨A,rfl,R⟩,W,J⟩
  refine oW 2 ⟨rfl,rfl,[.bool A],U,?_⟩
  exact⟨⟨A,rfl,R.trans (by unfold Kf;omega)⟩,od,((m.trans F).trans J)⟩
 |false=>
  have af:¬(((0)<=(x.jf)/\(x.jf)<=(M))/\((1)<=(x.BF))):=nf B
  refine oW 4 ⟨rfl,rfl,[.bool false],U,?_⟩
  exact⟨⟨false,rfl,fun h=>(by cases h),fun h=>(by unfold Kf at h;omega)⟩,od,m⟩
theorem O3(M:Int)(b1:Nat)(x:tn)(O:Ht)(G:Nat)(h1:O.get b1=some (.cells [Y M] gm.plain))(ab:b1<G):WF ex 184 [.agg (mH x).toArray,pt b1 0] O G (fL G O (gi (HR M x))):=by
 refine wd Tryz.f184 26 [.tmp 3] fun hE=>sr<|oB (.agg (mH x).toArray) (mH x) fun jy iI ia=>?_
 refine oN 1<|sr<|oZ b1 (0) (Y M) fy (iI.get h1 ab) rfl<|oX 1<|oZ G 0 (Y x.lN) fy ia rfl<|oX 1<|oZ G (0+1) (Y x.qa) fy ia rfl<|oL [Y x.lN,Y x.qa] fun CH u J=>?_
 refine oD 10 (yP (0) (M) (x.lN) (x.qa) (⟨.slice (some ⟨(G+1),0,none⟩) 2 2,[x.lN,x.qa]⟩:SV Int) CH (G+1+1) (gB.ny (enc:=encI) (by simp[encI]) J rfl (by decide) om (by simp):gB encI 1 CH (G+1+1) (⟨.slice (some ⟨(G+1),0,none⟩) 2 2,[x.lN,x.qa]⟩:SV Int)) rfl) fun e F L b W y=>?_
 have o:=((hE.trans iI).trans u).trans y
 have m:=y.get (u.get ia)
 refine oX 1<|gT 11 e (pt G (0+2))<|lG 11 e G (0+2) (Y x.zj) fy m rfl<|gT 11 e (pt G (0+3))<|lG 11 e G (0+3) (Y x.zk) fy m rfl ?_
 cases e with
 |true=>
  have af:=(F).1 rfl
  refine WO.cons (WC.lh (x:=.bool true) (g:=f_ (.tmp 11)) rfl U rfl (WC.buildSlice [Y x.zj,Y x.zk] rfl U ?_))
  obtain⟨B,C,z,K⟩:=boxed L (b) [Y x.zj,Y x.zk]
  rw[C];clear C
  refine WO.cons (WC.lh (x:=.bool true) (g:=f_ (.tmp 11)) rfl U rfl (WC.call 17 179 ([Y 0,Y 68719476736,(⟨.slice (some ⟨b,0,none⟩) 2 2,[x.zj,x.zk]⟩:SV Int).v]) kf ((yP (0) (68719476736) (x.zj) (x.zk) (⟨.slice (some ⟨b,0,none⟩) 2 2,[x.zj,x.zk]⟩:SV Int) B (b+1) (gB.ny (enc:=encI) (by simp[encI]) K rfl (by decide) om (by simp):gB encI 1 B (b+1) (⟨.slice (some ⟨b,0,none⟩) 2 2,[x.zj,x.zk]⟩:SV Int)) rfl).mono ?_)))
  rintro _ aa ad ⟨⟨j,rfl,N⟩,X,A⟩
  have p:=A.get (z.get m)
  refine oX 2<|gT 19 j (pt G (0+2))<|lG 19 j G (0+2) (Y x.zj) fy p rfl<|gT 19 j (pt G (0+3))<|lG 19 j G (0+3) (Y x.zk) fy p rfl ?_
  refine qH 19 j (pS x.zj x.zk) fun ae R=>?_
  refine nh 25 (nA N R) fun E S=>oW 1 ⟨rfl,rfl,[.bool E],U,?_⟩
  exact⟨⟨E,rfl,S.trans (by unfold HR;omega)⟩,od,((o.trans z).trans A)⟩
 |false=>
  have ag:¬(((0)<=(x.lN)/\(x.lN)<=(M))/\(0)<=(x.qa)/\(x.qa)<=(M)):=nf F
  refine oW 11 ⟨rfl,rfl,[.bool false],U,?_⟩
  exact⟨⟨false,rfl,fun h=>(by cases h),fun h=>(by unfold HR at h;omega)⟩,od,o⟩
theorem O4(x:tZ)(O:Ht)(G:Nat):WF ex 188 [.agg (pn x).toArray] O G (fL G O (gi (NR x))):=by
 refine wd Tryz.f188 7 [.tmp 2] fun hE=>sr<|oB (.agg (pn x).toArray) (pn x) fun jy iI ia=>?_
 refine oN 1<|sr<|oX 1<|oZ G (0+1) (Y x.jk) fy ia rfl<|oL [Y x.jk] fun b jt e=>?_
 refine oD 6 (mT (1) (3) (x.jk) (⟨.slice (some ⟨(G+1),0,none⟩) 1 1,[x.jk]⟩:SV Int) b (G+1+1) (gB.ny (enc:=encI) (by simp[encI]) e rfl (by decide) om (by simp):gB encI 1 b (G+1+1) (⟨.slice (some ⟨(G+1),0,none⟩) 1 1,[x.jk]⟩:SV Int)) rfl) fun sJ v_ j m xI jE=>?_
 refine oW 1 ⟨rfl,rfl,[.bool sJ],U,?_⟩
 exact⟨⟨sJ,rfl,v_.trans (by unfold NR;omega)⟩,od,(((hE.trans iI).trans jt).trans jE)⟩
theorem O5(x:q_)(O:Ht)(G:Nat):WF ex 193 [.agg (nT x).toArray] O G (fL G O (gi (Gh x))):=by
 refine wd Tryz.f193 7 [.tmp 2] fun hE=>sr<|oB (.agg (nT x).toArray) (nT x) fun jy iI ia=>?_
 refine oN 1<|sr<|oX 1<|oZ G (0+1) (Y x.Ft) fy ia rfl<|oL [Y x.Ft] fun b jt e=>?_
 refine oD 6 (mT (0) (1099511627776) (x.Ft) (⟨.slice (some ⟨(G+1),0,none⟩) 1 1,[x.Ft]⟩:SV Int) b (G+1+1) (gB.ny (enc:=encI) (by simp[encI]) e rfl (by decide) om (by simp):gB encI 1 b (G+1+1) (⟨.slice (some ⟨(G+1),0,none⟩) 1 1,[x.Ft]⟩:SV Int)) rfl) fun sJ v_ j m xI jE=>?_
 refine oW 1 ⟨rfl,rfl,[.bool sJ],U,?_⟩
 exact⟨⟨sJ,rfl,v_.trans (by unfold Gh;omega)⟩,od,(((hE.trans iI).trans jt).trans jE)⟩
theorem NW(x:l_)(O:Ht)(G:Nat):WF ex 196 [.agg (j1 x).toArray] O G (fL G O (gi (Kg x))):=by
 refine wd Tryz.f196 16 [.tmp 2] fun hE=>sr<|oB (.agg (j1 x).toArray) (j1 x) fun jy iI ia=>?_
 refine oN 1<|sr<|oX 1<|oZ G (0+1) (Y x.lN) fy ia rfl<|oX 1<|oZ G (0+2) (Y x.qa) fy ia rfl<|oL [Y x.lN,Y x.qa] fun j jt m=>?_
 refine oD 8 (yP (0) (120) (x.lN) (x.qa) (⟨.slice (some ⟨(G+1),0,none⟩) 2 2,[x.lN,x.qa]⟩:SV Int) j (G+1+1) (gB.ny (enc:=encI) (by simp[encI]) m rfl (by decide) om (by simp):gB encI 1 j (G+1+1) (⟨.slice (some ⟨(G+1),0,none⟩) 2 2,[x.lN,x.qa]⟩:SV Int)) rfl) fun sJ v_ u y xI jE=>?_
 have b:=jE.get (jt.get ia)
 refine oX 1<|gT 9 sJ (pt G (0+1))<|lG 9 sJ G (0+1) (Y x.lN) fy b rfl<|gT 9 sJ (pt G (0+2))<|lG 9 sJ G (0+2) (Y x.qa) fy b rfl ?_
 refine qH 9 sJ (pS x.lN x.qa) fun z o=>?_
 refine nh 15 (nA v_ o) fun e p=>oW 1 ⟨rfl,rfl,[.bool e],U,?_⟩
 exact⟨⟨e,rfl,p.trans (by unfold Kg;omega)⟩,od,(((hE.trans iI).trans jt).trans jE)⟩
theorem O6(x:mV)(O:Ht)(G:Nat):WF ex 185 [.agg (kl x).toArray] O G (fL G O (gi (D_ x))):=by
 refine wd Tryz.f185 31 [.tmp 2] fun hE=>sr<|oB (.agg (kl x).toArray) (kl x) fun jy iI ia=>?_
 have lq:=hE.trans iI
 refine oN 1<|WP.seq<|WP.block<|sr<|oX 1 ?_
 obtain⟨K,L,aa⟩:=@nb (x.j2) (x.j2=true) (by first|done|exact gk)
 refine oZ G (0+3) (.bool K) xp ia (by rw[L];rfl)<|oN 1<|cq aa (fun b=>?_) (fun b=>?_)
 ·
  refine sr<|oX 1<|oZ G (0+1) (Y x.uX) fy ia rfl ?_
  refine oq 8 (sZ x.uX 0) fun e C=>oX 1<|gT 9 e (pt G (0+2))<|lG 9 e G (0+2) (Y x.ku) fy ia rfl ?_
  refine qH 9 e (sZ x.ku 0) fun nZ rZ=>?_
  refine nh 13 (nA C rZ) fun nI rY=>oW 1 ⟨rfl,rfl,[.bool nI],U,?_⟩
  exact⟨⟨nI,rfl,rY.trans (by unfold D_;by_cases hb:x.j2=true<;>simp only[hb,true_and,false_and,not_true_eq_false,not_false_eq_true,or_false,false_or,Bool.false_eq_true]<;>first|exact absurd hb b|exact absurd b hb|omega)⟩,od,lq⟩
 ·
  refine sr<|oX 1<|oZ G (0+2) (Y x.ku) fy ia rfl ?_
  refine oq 17 (qS x.ku 0) fun De BO=>oN 1<|cq BO (fun J=>?_) (fun J=>?_)
  ·
   refine sr<|oX 1<|oZ G (0+1) (Y x.uX) fy ia rfl ?_
   refine oq 20 (sZ x.uX 0) fun j u=>oX 1<|gT 21 j (pt G (0+2))<|lG 21 j G (0+2) (Y x.ku) fy ia rfl ?_
   cases j with
   |true=>
    have ab:=(u).1 rfl
    refine WO.cons (WC.lh (x:=.bool true) (g:=f_ (.tmp 21)) rfl U rfl (WC.buildSlice [Y x.ku] rfl U ?_))
    obtain⟨JZ,m,z,y⟩:=boxed jy (G+1) [Y x.ku]
    rw[m];clear m
    refine WO.cons (WC.lh (x:=.bool true) (g:=f_ (.tmp 21)) rfl U rfl (WC.call 25 179 ([Y 1,Y 64,(⟨.slice (some ⟨(G+1),0,none⟩) 1 1,[x.ku]⟩:SV Int).v]) kf ((mT (1) (64) (x.ku) (⟨.slice (some ⟨(G+1),0,none⟩) 1 1,[x.ku]⟩:SV Int) JZ (G+1+1) (gB.ny (enc:=encI) (by simp[encI]) y rfl (by decide) om (by simp):gB encI 1 JZ (G+1+1) (⟨.slice (some ⟨(G+1),0,none⟩) 1 1,[x.ku]⟩:SV Int)) rfl).mono ?_)))
    rintro _ R W ⟨⟨o,rfl,E⟩,M,A⟩
    refine oW 2 ⟨rfl,rfl,[.bool o],U,?_⟩
    exact⟨⟨o,rfl,E.trans (by unfold D_;by_cases hb:x.j2=true<;>simp only[hb,true_and,false_and,not_true_eq_false,not_false_eq_true,or_false,false_or,Bool.false_eq_true]<;>first|exact absurd hb b|exact absurd b hb|omega)⟩,od,((lq.trans z).trans A)⟩
   |false=>
    have ad:¬((x.uX)=(0)):=nf u
    refine oW 4 ⟨rfl,rfl,[.bool false],U,?_⟩
    exact⟨⟨false,rfl,fun h=>(by cases h),fun h=>(by unfold D_ at h;by_cases hb:x.j2=true<;>simp only[hb,true_and,false_and,not_true_eq_false,not_false_eq_true,or_false,false_or]at h<;>first|exact absurd hb b|exact absurd b hb|omega)⟩,od,lq⟩
  ·
   refine WP.skip<|sr<|oX 1<|oZ G (0+1) (Y x.uX) fy ia rfl<|oL [Y x.uX] fun xK u4 xL=>?_
   refine oD 30 (mT (0) (68719476736) (x.uX) (⟨.slice (some ⟨(G+1),0,none⟩) 1 1,[x.uX]⟩:SV Int) xK (G+1+1) (gB.ny (enc:=encI) (by simp[encI]) xL rfl (by decide) om (by simp):gB encI 1 xK (G+1+1) (⟨.slice (some ⟨(G+1),0,none⟩) 1 1,[x.uX]⟩:SV Int)) rfl) fun p F S X N B=>?_
   refine oW 1 ⟨rfl,rfl,[.bool p],U,?_⟩
   exact⟨⟨p,rfl,F.trans (by unfold D_;by_cases hb:x.j2=true<;>simp only[hb,true_and,false_and,not_true_eq_false,not_false_eq_true,or_false,false_or,Bool.false_eq_true]<;>first|exact absurd hb b|exact absurd b hb|omega)⟩,od,((lq.trans u4).trans B)⟩
theorem O7(C:ka)(z:Nat)(x:po)(O:Ht)(G:Nat)(af:pc O G C)(hb:O.get z=some (.cells (iT C) gm.plain))(jH:z<G):WF ex 186 [.agg (lD x).toArray,pt z 0] O G (fL G O (gi (yR C x))):=by
 refine wd Tryz.f186 34 [.tmp 3] fun hE=>sr<|oB (.agg (lD x).toArray) (lD x) fun jy iI ia=>?_
 have aj:=iI.get hb jH
 refine oN 1<|sr<|oX 1 ?_
 obtain⟨aA,aB,ax⟩:=af.fD.1.shape
 have aF:=af.fD.1.2.2
 refine oZ z (0+3) (.slice aA (C.fD.l.length) aB) r6 aj (by rw[<-ax];rfl)<|oX 3<|oZ G 0 (Y x.kF) fy ia rfl<|oL [Y x.kF] fun X o ao=>?_
 refine oD 11 (mT (0) (gy .i64 ((.ofNat (C.fD.l.length))-(1))) (x.kF) (⟨.slice (some ⟨(G+1),0,none⟩) 1 1,[x.kF]⟩:SV Int) X (G+1+1) (gB.ny (enc:=encI) (by simp[encI]) ao rfl (by decide) om (by simp):gB encI 1 X (G+1+1) (⟨.slice (some ⟨(G+1),0,none⟩) 1 1,[x.kF]⟩:SV Int)) rfl) fun m ak au b aI p=>?_
 have F:=((hE.trans iI).trans o).trans p
 have L:=p.get (o.get ia)
 refine oX 1<|gT 12 m (pt z (0+6)) ?_
 obtain⟨a37,aC,ay⟩:=af.iC.shape
 have aG:=af.iC.2.2
 refine lG 12 m z (0+6) (.slice a37 (C.iC.l.length) aC) Dj (p.get (o.get aj)) (by rw[<-ay];rfl)<|gT 12 m (Y (.ofNat (C.iC.l.length)))<|gT 12 m (Y (gy .i64 ((.ofNat (C.iC.l.length))-(1))))<|gT 12 m (pt G (0+1))<|lG 12 m G (0+1) (Y x.km) fy L rfl ?_
 cases m with
 |true=>
  have aP:=(ak).1 rfl
  refine WO.cons (WC.lh (x:=.bool true) (g:=f_ (.tmp 12)) rfl U rfl (WC.buildSlice [Y x.km] rfl U ?_))
  obtain⟨aa,ad,N,aq⟩:=boxed au (b) [Y x.km]
  rw[ad];clear ad
  refine WO.cons (WC.lh (x:=.bool true) (g:=f_ (.tmp 12)) rfl U rfl (WC.call 20 179 ([Y (-1),Y (gy .i64 ((.ofNat (C.iC.l.length))-(1))),(⟨.slice (some ⟨b,0,none⟩) 1 1,[x.km]⟩:SV Int).v]) kf ((mT (-1) (gy .i64 ((.ofNat (C.iC.l.length))-(1))) (x.km) (⟨.slice (some ⟨b,0,none⟩) 1 1,[x.km]⟩:SV Int) aa (b+1) (gB.ny (enc:=encI) (by simp[encI]) aq rfl (by decide) om (by simp):gB encI 1 aa (b+1) (⟨.slice (some ⟨b,0,none⟩) 1 1,[x.km]⟩:SV Int)) rfl).mono ?_)))
  rintro _ av e ⟨⟨B,rfl,al⟩,aJ,R⟩
  have J:=(F.trans N).trans R
  have M:=R.get (N.get L)
  refine oX 2<|gT 22 B (pt G (0+2))<|lG 22 B G (0+2) (Y x.oQ) fy M rfl ?_
  cases B with
  |true=>
   have aQ:=(al).1 rfl
   refine WO.cons (WC.lh (x:=.bool true) (g:=f_ (.tmp 22)) rfl U rfl (WC.buildSlice [Y x.oQ] rfl U ?_))
   obtain⟨ab,ae,S,ar⟩:=boxed av (e) [Y x.oQ]
   rw[ae];clear ae
   refine WO.cons (WC.lh (x:=.bool true) (g:=f_ (.tmp 22)) rfl U rfl (WC.call 26 179 ([Y 1,Y 4000,(⟨.slice (some ⟨e,0,none⟩) 1 1,[x.oQ]⟩:SV Int).v]) kf ((mT (1) (4000) (x.oQ) (⟨.slice (some ⟨e,0,none⟩) 1 1,[x.oQ]⟩:SV Int) ab (e+1) (gB.ny (enc:=encI) (by simp[encI]) ar rfl (by decide) om (by simp):gB encI 1 ab (e+1) (⟨.slice (some ⟨e,0,none⟩) 1 1,[x.oQ]⟩:SV Int)) rfl).mono ?_)))
   rintro _ aw j ⟨⟨E,rfl,an⟩,aK,W⟩
   have K:=(J.trans S).trans W
   refine oX 2<|gT 28 E (pt G (0+3))<|lG 28 E G (0+3) (Y x.vp) fy (W.get (S.get M)) rfl ?_
   cases E with
   |true=>
    have aL:=(an).1 rfl
    refine WO.cons (WC.lh (x:=.bool true) (g:=f_ (.tmp 28)) rfl U rfl (WC.buildSlice [Y x.vp] rfl U ?_))
    obtain⟨u,y,ah,ag⟩:=boxed aw (j) [Y x.vp]
    rw[y];clear y
    refine WO.cons (WC.lh (x:=.bool true) (g:=f_ (.tmp 28)) rfl U rfl (WC.call 32 179 ([Y 1,Y 1125899906842624,(⟨.slice (some ⟨j,0,none⟩) 1 1,[x.vp]⟩:SV Int).v]) kf ((mT (1) (1125899906842624) (x.vp) (⟨.slice (some ⟨j,0,none⟩) 1 1,[x.vp]⟩:SV Int) u (j+1) (gB.ny (enc:=encI) (by simp[encI]) ag rfl (by decide) om (by simp):gB encI 1 u (j+1) (⟨.slice (some ⟨j,0,none⟩) 1 1,[x.vp]⟩:SV Int)) rfl).mono ?_)))
    rintro _ aE aH ⟨⟨A,rfl,az⟩,aD,ai⟩
    refine oW 2 ⟨rfl,rfl,[.bool A],U,?_⟩
    exact⟨⟨A,rfl,az.trans (by unfold yR;omega)⟩,od,((K.trans ah).trans ai)⟩
   |false=>
    have aM:¬((1)<=(x.oQ)/\(x.oQ)<=(4000)):=nf an
    refine oW 4 ⟨rfl,rfl,[.bool false],U,?_⟩
    exact⟨⟨false,rfl,fun h=>(by cases h),fun h=>(by unfold yR at h;omega)⟩,od,K⟩
  |false=>
   have aN:¬((-1)<=(x.km)/\(x.km)<=(gy .i64 ((.ofNat (C.iC.l.length))-(1)))):=nf al
   refine oW 10 ⟨rfl,rfl,[.bool false],U,?_⟩
   exact⟨⟨false,rfl,fun h=>(by cases h),fun h=>(by unfold yR at h;omega)⟩,od,J⟩
 |false=>
  have aO:¬((0)<=(x.kF)/\(x.kF)<=(gy .i64 ((.ofNat (C.fD.l.length))-(1)))):=nf ak
  refine oW 16 ⟨rfl,rfl,[.bool false],U,?_⟩
  exact⟨⟨false,rfl,fun h=>(by cases h),fun h=>(by unfold yR at h;omega)⟩,od,F⟩
theorem K5(n:Nat)(M:Int)(b1 b2:Nat)(p:RPart)(ih:∀x∈p.fY.l,∀(O:Ht) (G:Nat),kV O G x->O.get b1=some (.cells [Y M] gm.plain)->b1<G->O.get b2=some (.cells [.func (.func 178) #[] #[pt b1 0,pt b2 0]] gm.plain)->b2<G->WF ex 178 [.agg (jQ x).toArray,pt b1 0,pt b2 0] O G (fL G O (gi (sE n M x))))(O:Ht)(G:Nat)(j:kV O G p)(h1:O.get b1=some (.cells [Y M] gm.plain))(aP:b1<G)(D:O.get b2=some (.cells [.func (.func 178) #[] #[pt b1 0,pt b2 0]] gm.plain))(aQ:b2<G):WF ex 178 [.agg (jQ p).toArray,pt b1 0,pt b2 0] O G (fL G O (gi (sE (n+1) M p))):=by
 refine wd Tryz.f178 40 [.tmp 4] fun hE=>sr<|oB (.agg (jQ p).toArray) (jQ p) fun jy iI ia=>?_
 have lq:=hE.trans iI nR
 have al:=iI.get h1 aP
 have an:=fb aP (fh (G))
 have aO:=iI.get D aQ
 have ab:=fb aQ (fh (G))
 have o:=ff nR (fh (G))
 refine oN 1<|WP.seq<|sr<|oX 1<|oZ G (0+1) (Y p.ku) fy ia rfl ?_
 refine oq 7 (sZ p.ku 0) fun nZ rZ=>WO.nil<|cq rZ (fun y=>?_) (fun y=>?_)
 ·
  refine sr<|oZ b1 (0) (Y M) fy al rfl<|oX 1<|oZ G 0 (Y p.jf) fy ia rfl<|oL [Y p.jf] fun R L aw=>?_
  have aq:=lq.trans L o
  have ax:=L.get ia (fo (G))
  have aK:=fb (fo (G)) (fh (G+1))
  have X:=ff o (fh (G+1))
  refine oD 12 (mT (0) (M) (p.jf) (⟨.slice (some ⟨(G+1),0,none⟩) 1 1,[p.jf]⟩:SV Int) R (G+1+1) (gB.ny (enc:=encI) (by simp[encI]) aw rfl (by decide) om (by simp):gB encI 1 R (G+1+1) (⟨.slice (some ⟨(G+1),0,none⟩) 1 1,[p.jf]⟩:SV Int)) rfl) fun E aR a8 bd aF N=>?_
  have ar:=aq.trans N X
  have ay:=N.get ax aK
  have aI:=ff X aF
  refine oX 1<|gT 13 E (pt G (0+2)) ?_
  obtain⟨aM,aN,aH⟩:=j.fY.1.shape
  have a6:=j.fY.1.2.2
  refine lG 13 E G (0+2) (.slice aM (p.fY.l.length) aN) pV ay (by rw[<-aH];rfl)<|gT 13 E (Y (.ofNat (p.fY.l.length))) ?_
  refine qH 13 E (vY p.fY.l.length 0) fun bg aS=>?_
  refine nh 18 (nA aR aS) fun ai aT=>oW 1 ⟨rfl,rfl,[.bool ai],U,?_⟩
  exact⟨⟨ai,rfl,aT.trans ⟨fun h=>.inl ⟨y,h.1,om⟩,fun h=>by
   rcases h with⟨_,a,b⟩|⟨a,_⟩
   · exact⟨a,om⟩
   · exact absurd y a⟩⟩,aI,ar⟩
 ·
  refine WP.skip<|sr<|oX 1<|oZ G (0+1) (Y p.ku) fy ia rfl<|oL [Y p.ku] fun S oY az=>?_
  have au:=lq.trans oY o
  have aA:=oY.get al an
  have ad:=fb an (fh (G+1))
  have aB:=oY.get aO ab
  have ae:=fb ab (fh (G+1))
  have aC:=oY.get ia (fo (G))
  have aL:=fb (fo (G)) (fh (G+1))
  have aa:=ff o (fh (G+1))
  refine oD 22 (mT (1) (64) (p.ku) (⟨.slice (some ⟨(G+1),0,none⟩) 1 1,[p.ku]⟩:SV Int) S (G+1+1) (gB.ny (enc:=encI) (by simp[encI]) az rfl (by decide) om (by simp):gB encI 1 S (G+1+1) (⟨.slice (some ⟨(G+1),0,none⟩) 1 1,[p.ku]⟩:SV Int)) rfl) fun J aU W ah B m=>?_
  have z:=au.trans m aa
  have aD:=m.get aA ad
  have af:=fb ad B
  have K:=m.get aB ae
  have ag:=fb ae B
  have A:=m.get aC aL
  have u:=ff aa B
  refine oX 1<|gT 23 J (pt G 0)<|lG 23 J G 0 (Y p.jf) fy A rfl ?_
  refine qH 23 J (sZ p.jf 0) fun jN aV=>?_
  refine nh 27 (nA aU aV) fun F aW=>oX 1<|gT 28 F (pt G (0+2)) ?_
  obtain⟨a78,aj,C⟩:=j.fY.1.shape
  have a7:=j.fY.1.2.2
  refine lG 28 F G (0+2) (.slice a78 (p.fY.l.length) aj) pV A (by rw[<-C];rfl)<|gT 28 F (Y (.ofNat (p.fY.l.length))) ?_
  refine qH 28 F (nQ 0 p.fY.l.length) fun bh aX=>?_
  refine nh 33 (nA aW aX) fun e ao=>oX 1<|gT 34 e (pt G (0+2))<|lG 34 e G (0+2) (.slice a78 (p.fY.l.length) aj) pV A (by rw[<-C];rfl)<|lG 34 e b2 (0) (.func (.func 178) #[] #[pt b1 0,pt b2 0]) HM K rfl<|WO.cons (WC.gq (e) (GB (e) (∀x∈p.fY.l,(sE n M) x) (ah) W) (.bool e) (g:=f_ (.tmp 34)) rfl U (by cases e<;>rfl) (fun h=>by obtain rfl:e=true:=(by simpa using h);have bk:=(ao).1 rfl;exact WC.call 38 180 ([p.fY.v,.func (.func 178) #[] #[pt b1 0,pt b2 0]]) (fun _ _ _=>by(try rw[C]);kernel_rfl) ((I_ (sE n M) p.fY 178 #[pt b1 0,pt b2 0] W (ah) (j.fY.mono (fun _ h he hn=>h.mono he hn) z u) (fun i x hx e9 e_ hn he=>ih x (fa hx) e9 e_ (((j.fY.mono (fun _ h he hn=>h.mono he hn) z u).2 x (fa hx)).mono he hn) (he.get aD af) (fb af hn) (he.get K ag) (fb ag hn))).mono fun v e9 e_ ⟨⟨c,bc,hc⟩,hn,he⟩=>⟨_,_,_,rfl,⟨c,bc,hc⟩,hn,he⟩)) (fun h=>GB.off h) ?_)
  rintro _ a_ bf ⟨⟨bj,rfl,aY⟩,aG,aE⟩
  have av:=z.trans aE u
  have aJ:=ff u aG
  refine nh 39 (nA ao aY) fun ak aZ=>oW 1 ⟨rfl,rfl,[.bool ak],U,?_⟩
  exact⟨⟨ak,rfl,aZ.trans ⟨fun h=>.inr ⟨y,h.1.1.1,h.1.1.2,by have:=h.1.2;omega,h.2⟩,fun h=>by
   rcases h with⟨a,_⟩|⟨_,a,b,c,d⟩
   · exact absurd a y
   · exact⟨⟨⟨a,b⟩,om⟩,d⟩⟩⟩,aJ,av⟩
theorem Xn(n:Nat)(M:Int)(b1 b2:Nat)(p:RPart)(hH:uj n p.fY.l)(O:Ht)(G:Nat)(j:kV O G p)(h1:O.get b1=some (.cells [Y M] gm.plain))(m:b1<G)(D:O.get b2=some (.cells [.func (.func 178) #[] #[pt b1 0,pt b2 0]] gm.plain))(o:b2<G):WF ex 178 [.agg (jQ p).toArray,pt b1 0,pt b2 0] O G (fL G O (gi (sE (n+1) M p))):=by
 induction n generalizing p O G with
 |zero=>
  have h0:p.fY.l=[]:=hH
  exact K5 0 M b1 b2 p (fun x hx=>by rw[h0]at hx;cases hx) O G j h1 m D o
 |succ n ih=>exact K5 (n+1) M b1 b2 p (fun x hx O G a b c d e=>ih x (hH x hx) O G a b c d e) O G j h1 m D o
theorem O9(M:Int)(b1 b2 aK:Nat)(d:kc)(hH:uj 17 d.jP.l)(O:Ht)(G:Nat)(hd:lZ O G d)(h1:O.get b1=some (.cells [Y M] gm.plain))(bC:b1<G)(D:O.get b2=some (.cells [.func (.func 178) #[] #[pt b1 0,pt b2 0]] gm.plain))(bD:b2<G)(h3:O.get aK=some (.cells [.func (.func 181) #[] #[pt b1 0]] gm.plain))(bE:aK<G):WF ex 182 [.agg (iS d).toArray,pt b1 0,pt b2 0,pt aK 0] O G (fL G O (gi (Cf M d))):=by
 refine wd Tryz.f182 29 [.tmp 5] fun hE=>sr<|oB (.agg (iS d).toArray) (iS d) fun jy iI ia=>?_
 have lq:=hE.trans iI nR
 have bz:=iI.get h1 bC
 have aP:=fb bC (fh (G))
 have bA:=iI.get D bD
 have ao:=fb bD (fh (G))
 have aW:=iI.get h3 bE
 have aq:=fb bE (fh (G))
 have ak:=ff nR (fh (G))
 refine oN 1<|sr<|oX 1<|oZ G (0+2) (Y d.vo) fy ia rfl<|oL [Y d.vo] fun af m aX=>?_
 have aU:=lq.trans m ak
 have aY:=m.get bz aP
 have ar:=fb aP (fh (G+1))
 have aZ:=m.get bA ao
 have au:=fb ao (fh (G+1))
 have a6:=m.get aW aq
 have av:=fb aq (fh (G+1))
 have a7:=m.get ia (fo (G))
 have aw:=fb (fo (G)) (fh (G+1))
 have al:=ff ak (fh (G+1))
 refine oD 9 (mT (1) (3) (d.vo) (⟨.slice (some ⟨(G+1),0,none⟩) 1 1,[d.vo]⟩:SV Int) af (G+1+1) (gB.ny (enc:=encI) (by simp[encI]) aX rfl (by decide) om (by simp):gB encI 1 af (G+1+1) (⟨.slice (some ⟨(G+1),0,none⟩) 1 1,[d.vo]⟩:SV Int)) rfl) fun K aQ bo b y o=>?_
 have R:=aU.trans o al
 have W:=o.get aY ar
 have ax:=fb ar y
 have a8:=o.get aZ au
 have ay:=fb au y
 have a_:=o.get a6 av
 have az:=fb av y
 have X:=o.get a7 aw
 have aA:=fb aw y
 have J:=ff al y
 refine oX 1<|lG 10 K b1 (0) (Y M) fy W rfl<|gT 10 K (pt G (0+4))<|lG 10 K G (0+4) (Y d.jX) fy X rfl ?_
 cases K with
 |true=>
  have bH:=(aQ).1 rfl
  refine WO.cons (WC.lh (x:=.bool true) (g:=f_ (.tmp 10)) rfl U rfl (WC.buildSlice [Y d.jX] rfl U ?_))
  obtain⟨pU,aj,p,bc⟩:=boxed bo (b) [Y d.jX]
  rw[aj];clear aj
  have aV:=R.trans p J
  have bd:=p.get W ax
  have aB:=fb ax (fh (b))
  have bf:=p.get a8 ay
  have aC:=fb ay (fh (b))
  have bg:=p.get a_ az
  have aD:=fb az (fh (b))
  have bh:=p.get X aA
  have aE:=fb aA (fh (b))
  have an:=ff J (fh (b))
  refine WO.cons (WC.lh (x:=.bool true) (g:=f_ (.tmp 10)) rfl U rfl (WC.call 15 179 ([Y (-1),Y M,(⟨.slice (some ⟨b,0,none⟩) 1 1,[d.jX]⟩:SV Int).v]) kf ((mT (-1) (M) (d.jX) (⟨.slice (some ⟨b,0,none⟩) 1 1,[d.jX]⟩:SV Int) pU (b+1) (gB.ny (enc:=encI) (by simp[encI]) bc rfl (by decide) om (by simp):gB encI 1 pU (b+1) (⟨.slice (some ⟨b,0,none⟩) 1 1,[d.jX]⟩:SV Int)) rfl).mono ?_)))
  rintro _ ag aH ⟨⟨j,rfl,aR⟩,z,u⟩
  have F:=aV.trans u an
  have aa:=u.get bd aB
  have E:=fb aB z
  have ab:=u.get bf aC
  have aF:=fb aC z
  have bj:=u.get bg aD
  have bq:=fb aD z
  have ad:=u.get bh aE
  have br:=fb aE z
  have C:=ff an z
  refine oX 2<|gT 17 j (pt G (0+1)) ?_
  obtain⟨bw,bx,ai⟩:=hd.jP.1.shape
  have bJ:=hd.jP.1.2.2
  refine lG 17 j G (0+1) (.slice bw (d.jP.l.length) bx) pV ad (by rw[<-ai];rfl)<|lG 17 j b2 (0) (.func (.func 178) #[] #[pt b1 0,pt b2 0]) HM ab rfl<|WO.cons (WC.gq (j) (GB (j) (∀x∈d.jP.l,(sE 17 M) x) (aH) ag) (.bool j) (g:=f_ (.tmp 17)) rfl U (by cases j<;>rfl) (fun h=>by obtain rfl:j=true:=(by simpa using h);have bM:=(aR).1 rfl;exact WC.call 21 180 ([d.jP.v,.func (.func 178) #[] #[pt b1 0,pt b2 0]]) (fun _ _ _=>by(try rw[ai]);kernel_rfl) ((I_ (sE 17 M) d.jP 178 #[pt b1 0,pt b2 0] ag (aH) (hd.jP.mono (fun _ h he hn=>h.mono he hn) F C) (fun i x hx e9 e_ hn he=>Xn 16 M b1 b2 x (hH x (fa hx)) e9 e_ (((hd.jP.mono (fun _ h he hn=>h.mono he hn) F C).2 x (fa hx)).mono he hn) (he.get aa E) (fb E hn) (he.get ab aF) (fb aF hn))).mono fun v e9 e_ ⟨⟨c,bp,hc⟩,hn,he⟩=>⟨_,_,_,rfl,⟨c,bp,hc⟩,hn,he⟩)) (fun h=>GB.off h) ?_)
  rintro _ ah aI ⟨⟨bN,rfl,bG⟩,ae,A⟩
  have S:=F.trans A C
  have bk:=A.get aa E
  have aG:=fb E ae
  have bl:=A.get bj bq
  have bn:=A.get ad br
  have B:=ff C ae
  refine nh 22 (nA aR bG) fun e aJ=>oX 1<|gT 23 e (pt G (0+3)) ?_
  obtain⟨aS,aT,L⟩:=hd.jx.shape
  have bB:=hd.jx.2.2
  refine lG 23 e G (0+3) (.slice aS (d.jx.l.length) aT) zr bn (by rw[<-L];rfl)<|lG 23 e aK (0) (.func (.func 181) #[] #[pt b1 0]) NP bl rfl<|WO.cons (WC.gq (e) (GB (e) (∀x∈d.jx.l,(Kf M) x) (aI) ah) (.bool e) (g:=f_ (.tmp 23)) rfl U (by cases e<;>rfl) (fun h=>by obtain rfl:e=true:=(by simpa using h);have bM:=(aJ).1 rfl;exact WC.call 27 183 ([d.jx.v,.func (.func 181) #[] #[pt b1 0]]) (fun _ _ _=>by(try rw[L]);kernel_rfl) ((FM (Kf M) d.jx 181 #[pt b1 0] ah (aI) (hd.jx.mono S B) (fun i x hx e9 e_ hn he=>O2 M b1 x e9 e_ (he.get bk aG) (fb aG hn))).mono fun v e9 e_ ⟨⟨c,bp,hc⟩,hn,he⟩=>⟨_,_,_,rfl,⟨c,bp,hc⟩,hn,he⟩)) (fun h=>GB.off h) ?_)
  rintro _ bI bK ⟨⟨bL,rfl,bs⟩,aN,aM⟩
  have aL:=S.trans aM B
  have aO:=ff B aN
  refine nh 28 (nA aJ bs) fun N bt=>oW 1 ⟨rfl,rfl,[.bool N],U,?_⟩
  exact⟨⟨N,rfl,bt.trans ⟨fun h=>⟨⟨⟨bH,h.1.1⟩,h.1.2⟩,h.2⟩,fun h=>⟨⟨h.1.1.2,h.1.2⟩,h.2⟩⟩⟩,aO,aL⟩
 |false=>
  have bu:¬((1)<=(d.vo)/\(d.vo)<=(3)):=nf aQ
  refine oW 16 ⟨rfl,rfl,[.bool false],U,?_⟩
  exact⟨⟨false,rfl,fun h=>(by cases h),fun h=>absurd h.1.1.1 bu⟩,J,R⟩
theorem Rj(N:tn->mo)(K:SV tn)(f:FuncId)(b:Array Value)(O:Ht)(G:Nat)(hK:gB mH 4 O G K)(hf:∀(i:Nat) (x:tn),K.l[i]?=some x->∀(e9:Ht) (e_:Nat),G<=e_->HE G O e9->WF ex f ((.agg (mH x).toArray)::b.toList) e9 e_ (fL e_ e9 (fun v=>v=.agg (qd (N x)).toArray))):WF ex 190 [K.v,.func (.func f) #[] b] O G (fL G O (gi (Cg N K.l))):=by
 obtain⟨a1,c2,h_⟩:=hK.shape
 have mc:=hK.2.2
 rw[h_]
 refine wd Tryz.f190 25 [.tmp 4] fun hE=>sr<|oN 1<|sr<|WO.cons (WC.makeMap rfl ?_)
 obtain⟨zV,zZ,pP,uE⟩:=mapped O (G) (.map [] 0)
 rw[zZ];clear zZ
 refine oN 1<|WP.seq<|sr<|oN 3<|WP.block ?_
 refine mu [0,1,5,9,10,11] (fun m hs ns vs=>∃(hR:Nat) (s9:List MapEntry) (wh:Nat),hR+m=K.l.length/\vs=[.slice a1 (K.l.length) c2,.func (.func f) #[] b,.map (some G),.slice a1 (K.l.length) c2,Y (.ofNat (K.l.length)),Y (.ofNat hR)]/\G+1<=ns/\HE G O hs/\hs.get G=some (.map s9 wh)/\(kU (fun x:mo=>.agg (qd x).toArray) (lC ((K.l.take hR).map N)) (fun _=>.bool true) s9)) ?_ (K.l.length) ?_
 ·
  rintro Fx D4 s_ _ ⟨hR,s9,wh,I7,rfl,xI,jE,zw,wi⟩ Cb
  refine sr ?_
  obtain⟨uL,y,uC⟩:=kT hR K.l.length
  refine ob 12 y<|WO.nil<|WP.seq<|cq uC (fun yH=>?_) (fun yH=>?_)
  ·
   refine WP.skip<|WP.seq<|WP.block<|sr ?_
   have r7:hR<K.l.length:=by omega
   refine WO.cons (WC.iy h_ hK (hR) J_ tQ (r7) ?_)
   obtain⟨lF,pL⟩:=gE r7
   refine WO.cons (WC.ly h_ (hK.mono jE nR) pL BR tQ<|oA [Y 0,Y 0,Y 0,Y 0] K4 fun wa s6 uZ=>?_)
   refine oS s_ (0) (.agg (mH lF).toArray) (mH lF) (mH lF) tQ rfl rfl uZ fun xK u4 xL BQ=>?_
   have wj:=(jE.trans s6).trans u4
   refine WO.nil<|WP.region<|oX 2<|WO.cons (WC.iz s_ (0) (mH lF) U BR tQ xL rfl<|WO.cons (WC.call 18 f ((.agg (mH lF).toArray)::b.toList) kf ((hf hR lF pL xK (s_+1) om wj).mono ?_)))
   rintro _ pU o4 ⟨rfl,CG,oY⟩
   refine WO.cons (WC.mapUpdate (g:=(fun _=>.bool true)) (g':=(fun _=>.bool true)) G (N lF) (.bool true) rfl U U U Jd Jc (oY.get ((BQ G om).trans (s6.get zw))) wi (rf _) rfl (fun _ _=>rfl) ?_)
   rintro j u C tc p B o
   refine WO.nil<|WP.region<|ov 19 (Y (.ofNat (hR+1))) ?_ (fun _ _ _=>by rw[<-gQ (show hR+1<9223372036854775808 by omega)];kernel_rfl)
   refine oN 1<|⟨K.l.length-(hR+1),om,rfl,rfl,hR+1,j,u,om,U,?_,?_,?_,?_⟩
   · exact od
   · exact((wj.trans oY).trans tc)
   · exact p
   · rw[u5 pL];exact o
  ·
   refine WP.exit<|sr<|oX 1<|WO.cons (WC.mq (v:=Y (.ofNat (lC ((K.l.take hR).map N)).length)) 21 (G_ ex.T D4.get 245 (.map (some G))) kf (NF (O:=D4.get) Jc zw wi)<|oX 2 ?_)
   obtain⟨e,z,A⟩:=Yj ((lC ((K.l.take hR).map N)).length) K.l.length
   refine ob 24 z<|oW 1 ⟨rfl,rfl,[.bool e],U,?_⟩
   have hT:K.l.take hR=K.l:=fJ om
   exact⟨⟨e,rfl,A.trans (by rw[hT];exact gk)⟩,od,jE⟩
 ·
  exact⟨0,([]:List MapEntry),0,om,U,fg _,(hE.trans pP),uE,(show kU _ (lC ((K.l.take 0).map N)) _ _ from kU.nil)⟩
theorem O_(x:tn)(O:Ht)(G:Nat):WF ex 191 [.agg (mH x).toArray] O G (fL G O (fun v=>v=.agg (qd (yg x)).toArray)):=by
 refine wd Tryz.f191 8 [.cell 2 247] fun hE=>sr<|oB (.agg (mH x).toArray) (mH x) fun jy iI ia=>?_
 refine oA [Y 0,Y 0] Te fun y e j=>?_
 have b:=e.get ia
 refine WO.nil<|sr<|oX 1<|oZ G 0 (Y x.lN) fy b rfl<|oX 1<|oZ G (0+1) (Y x.qa) fy b rfl<|oX 1<|oS (G+1) (0) (.agg ⟨[Y x.lN,Y x.qa]⟩) [Y x.lN,Y x.qa] [Y x.lN,Y x.qa] K0 rfl rfl j fun u o m p=>?_
 refine wr ⟨rfl,rfl,[.agg ⟨[Y x.lN,Y x.qa]⟩],(sX (by rw[show(f_ (.tmp 2)).run _=pt (G+1) 0 from by kernel_rfl];exact jV Vh K0 m rfl)),?_⟩
 exact⟨rfl,od,(((hE.trans iI).trans e).trans o)⟩
theorem NX(N:po->yQ)(K:SV po)(f:FuncId)(b:Array Value)(O:Ht)(G:Nat)(hK:gB lD 4 O G K)(hf:∀(i:Nat) (x:po),K.l[i]?=some x->∀(e9:Ht) (e_:Nat),G<=e_->HE G O e9->WF ex f ((.agg (lD x).toArray)::b.toList) e9 e_ (fL e_ e9 (fun v=>v=.agg (sj (N x)).toArray))):WF ex 198 [K.v,.func (.func f) #[] b] O G (fL G O (gi (Cg N K.l))):=by
 obtain⟨a1,c2,h_⟩:=hK.shape
 have mc:=hK.2.2
 rw[h_]
 refine wd Tryz.f198 25 [.tmp 4] fun hE=>sr<|oN 1<|sr<|WO.cons (WC.makeMap rfl ?_)
 obtain⟨zV,zZ,pP,uE⟩:=mapped O (G) (.map [] 0)
 rw[zZ];clear zZ
 refine oN 1<|WP.seq<|sr<|oN 3<|WP.block ?_
 refine mu [0,1,5,9,10,11] (fun m hs ns vs=>∃(hR:Nat) (s9:List MapEntry) (wh:Nat),hR+m=K.l.length/\vs=[.slice a1 (K.l.length) c2,.func (.func f) #[] b,.map (some G),.slice a1 (K.l.length) c2,Y (.ofNat (K.l.length)),Y (.ofNat hR)]/\G+1<=ns/\HE G O hs/\hs.get G=some (.map s9 wh)/\(kU (fun x:yQ=>.agg (sj x).toArray) (lC ((K.l.take hR).map N)) (fun _=>.bool true) s9)) ?_ (K.l.length) ?_
 ·
  rintro Fx D4 s_ _ ⟨hR,s9,wh,I7,rfl,xI,jE,zw,wi⟩ Cb
  refine sr ?_
  refine oq 12 (kT hR K.l.length) fun uL uC=>WO.nil<|WP.seq<|cq uC (fun yH=>?_) (fun yH=>?_)
  ·
   refine WP.skip<|WP.seq<|WP.block<|sr ?_
   have r7:hR<K.l.length:=by omega
   refine WO.cons (WC.iy h_ hK (hR) PU yf (r7) ?_)
   obtain⟨lF,pL⟩:=gE r7
   refine WO.cons (WC.ly h_ (hK.mono jE nR) pL D6 yf<|oA [Y 0,Y 0,Y 0,Y 0] Th fun wa s6 uZ=>?_)
   refine oS s_ (0) (.agg (lD lF).toArray) (lD lF) (lD lF) yf rfl rfl uZ fun xK u4 xL BQ=>?_
   have wj:=(jE.trans s6).trans u4
   refine WO.nil<|WP.region<|oX 2<|WO.cons (WC.iz s_ (0) (lD lF) U D6 yf xL rfl<|WO.cons (WC.call 18 f ((.agg (lD lF).toArray)::b.toList) kf ((hf hR lF pL xK (s_+1) om wj).mono ?_)))
   rintro _ pU o4 ⟨rfl,CG,oY⟩
   refine WO.cons (WC.mapUpdate (g:=(fun _=>.bool true)) (g':=(fun _=>.bool true)) G (N lF) (.bool true) rfl U U U YM Wr (oY.get ((BQ G om).trans (s6.get zw))) wi (rf _) rfl (fun _ _=>rfl) ?_)
   rintro j u A tc p z o
   refine WO.nil<|WP.region<|ov 19 (Y (.ofNat (hR+1))) ?_ (fun _ _ _=>by rw[<-gQ (show hR+1<9223372036854775808 by omega)];kernel_rfl)
   refine oN 1<|⟨K.l.length-(hR+1),om,rfl,rfl,hR+1,j,u,om,U,?_,?_,?_,?_⟩
   · exact od
   · exact((wj.trans oY).trans tc)
   · exact p
   · rw[u5 pL];exact o
  ·
   refine WP.exit<|sr<|oX 1<|WO.cons (WC.mq (v:=Y (.ofNat (lC ((K.l.take hR).map N)).length)) 21 (G_ ex.T D4.get 459 (.map (some G))) kf (NF (O:=D4.get) Wr zw wi)<|oX 2 ?_)
   refine oq 24 (Yj ((lC ((K.l.take hR).map N)).length) K.l.length) fun e y=>oW 1 ⟨rfl,rfl,[.bool e],U,?_⟩
   have hT:K.l.take hR=K.l:=fJ om
   exact⟨⟨e,rfl,y.trans (by rw[hT];exact gk)⟩,od,jE⟩
 ·
  exact⟨0,([]:List MapEntry),0,om,U,fg _,(hE.trans pP),uE,(show kU _ (lC ((K.l.take 0).map N)) _ _ from kU.nil)⟩
theorem NY(x:po)(O:Ht)(G:Nat):WF ex 199 [.agg (lD x).toArray] O G (fL G O (fun v=>v=.agg (sj (yS x)).toArray)):=by
 refine wd Tryz.f199 10 [.cell 2 386] fun hE=>sr<|oB (.agg (lD x).toArray) (lD x) fun jy iI ia=>?_
 refine oA [Y 0,Y 0,Y 0] Ti fun y e j=>?_
 have b:=e.get ia
 refine WO.nil<|sr<|oX 1<|oZ G 0 (Y x.kF) fy b rfl<|oX 1<|oZ G (0+1) (Y x.km) fy b rfl<|oX 1<|oZ G (0+2) (Y x.oQ) fy b rfl<|oX 1<|oS (G+1) (0) (.agg ⟨[Y x.kF,Y x.km,Y x.oQ]⟩) [Y x.kF,Y x.km,Y x.oQ] [Y x.kF,Y x.km,Y x.oQ] K3 rfl rfl j fun u o m p=>?_
 refine wr ⟨rfl,rfl,[.agg ⟨[Y x.kF,Y x.km,Y x.oQ]⟩],(sX (by rw[show(f_ (.tmp 2)).run _=pt (G+1) 0 from by kernel_rfl];exact jV Vi K3 m rfl)),?_⟩
 exact⟨rfl,od,(((hE.trans iI).trans e).trans o)⟩
theorem Rk(C:ka)(nD3:∀d∈C.fD.l,uj 17 d.jP.l)(O:Ht)(G:Nat)(b:pc O G C):WF ex 98 [.agg (iT C).toArray] O G (fL G O (gi (CK C))):=by
 refine wd Tryz.f98 103 [.tmp 2] fun hE=>sr<|oB (.agg (iT C).toArray) (iT C) fun jy iI ia=>?_
 have lq:=hE.trans iI nR
 have eI:=ff nR (fh (G))
 refine oN 1<|sr<|oX 1 ?_
 obtain⟨a8,c9,a7⟩:=b.iD.shape
 have nEx:=b.iD.2.2
 refine oZ G (0+1) (.slice a8 (C.iD.l.length) c9) wP ia (by rw[<-a7];rfl)<|oX 2<|oA [Y 0] Bd fun nEH xO eZ=>?_
 have xb:=lq.trans xO eI
 have e4:=xO.get ia (fo (G))
 have db:=fb (fo (G)) (fh (G+1))
 have Rf:=ff eI (fh (G+1))
 refine oS (G+1) (0) (Y (gy .i64 ((.ofNat (C.iD.l.length))-(1)))) [Y (gy .i64 ((.ofNat (C.iD.l.length))-(1)))] [Y (gy .i64 ((.ofNat (C.iD.l.length))-(1)))] kH rfl rfl eZ fun nEI uB e5 nD4=>?_
 have eR:=xb.trans uB om
 have e6:=(nD4 G om).trans e4
 refine WO.nil<|sr<|oA [.nilFunc] Tf fun nEJ aZ e7=>?_
 have eU:=eR.trans aZ Rf
 have e8:=aZ.get e6 db
 have dc:=fb db (fh (G+1+1))
 have nDH:=aZ.get e5 (fo (G+1))
 have dd:=fb (fo (G+1)) (fh (G+1+1))
 have c_:=ff Rf (fh (G+1+1))
 refine WO.nil<|sr<|oX 1<|oS (G+1+1) (0) (.func (.func 178) #[] #[pt (G+1) 0,pt (G+1+1) 0]) [.func (.func 178) #[] #[pt (G+1) 0,pt (G+1+1) 0]] [.func (.func 178) #[] #[pt (G+1) 0,pt (G+1+1) 0]] Tc rfl rfl e7 fun nEK nD1 nDI c7=>?_
 have eV:=eU.trans nD1 om
 have nDJ:=(c7 G om).trans e8
 have nDK:=(c7 (G+1) om).trans nDH
 refine WO.nil<|sr<|oX 1<|oA [.nilFunc] Tg fun pU aC nDL=>?_
 have eW:=eV.trans aC c_
 have nDM:=aC.get nDJ dc
 have de:=fb dc (fh (G+1+1+1))
 have nDN:=aC.get nDK dd
 have df:=fb dd (fh (G+1+1+1))
 have nDO:=aC.get nDI (fo (G+1+1))
 have dg:=fb (fo (G+1+1)) (fh (G+1+1+1))
 have da:=ff c_ (fh (G+1+1+1))
 refine oS (G+1+1+1) (0) (.func (.func 181) #[] #[pt (G+1) 0]) [.func (.func 181) #[] #[pt (G+1) 0]] [.func (.func 181) #[] #[pt (G+1) 0]] Td rfl rfl nDL fun nEL tc nDP a6=>?_
 have eX:=eW.trans tc om
 have c3:=(a6 G om).trans nDM
 have nDQ:=(a6 (G+1) om).trans nDN
 have nDR:=(a6 (G+1+1) om).trans nDO
 refine WO.nil<|sr<|oN 2<|sr<|oN 2<|sr<|oN 1<|sr<|oN 2<|sr<|oX 1<|WO.cons (WC.iz G (0+9) (zO C.iU) U Xm NV c3 rfl<|oA [Y 0,Y 0,Y 0,Y 0,Y 0] Vj fun nEM ai nDS=>?_)
 have eY:=eX.trans ai da
 have nDT:=ai.get c3 de
 have dh:=fb de (fh (G+1+1+1+1))
 have nDU:=ai.get nDQ df
 have di:=fb df (fh (G+1+1+1+1))
 have nDV:=ai.get nDR dg
 have dj:=fb dg (fh (G+1+1+1+1))
 have nDW:=ai.get nDP (fo (G+1+1+1))
 have dm:=fb (fo (G+1+1+1)) (fh (G+1+1+1+1))
 have a_:=ff da (fh (G+1+1+1+1))
 refine oS (G+1+1+1+1) (0) (.agg (zO C.iU).toArray) (zO C.iU) (zO C.iU) NV rfl rfl nDS fun nD5 nD2 nDX aK=>?_
 have cZ:=eY.trans nD2 om
 have c5:=(aK G om).trans nDT
 have nDY:=(aK (G+1) om).trans nDU
 have nDZ:=(aK (G+1+1) om).trans nDV
 have nD0:=(aK (G+1+1+1) om).trans nDW
 refine WO.nil<|sr<|oX 1<|oZ G (0+1) (.slice a8 (C.iD.l.length) c9) wP c5 (by rw[<-a7];rfl)<|WO.cons (WC.call 24 187 ([C.iD.v,.func (.func 188) #[] #[]]) (fun _ _ _=>by(try rw[a7]);kernel_rfl) ((Ta (NR) C.iD 188 #[] nD5 (G+1+1+1+1+1) (b.iD.mono cZ a_) (fun i x hx e9 e_ hn he=>O4 x e9 e_)).mono ?_))
 rintro _ c8 dn ⟨⟨W,rfl,eJ⟩,S,R⟩
 have c0:=cZ.trans R a_
 have c6:=R.get c5 dh
 have b9:=fb dh S
 have bq:=R.get nDY di
 have ae:=fb di S
 have dI:=R.get nDZ dj
 have b_:=fb dj S
 have dJ:=R.get nD0 dm
 have ca:=fb dm S
 have dK:=R.get nDX (fo (G+1+1+1+1))
 have cb:=fb (fo (G+1+1+1+1)) S
 have aL:=ff a_ S
 refine oX 1<|gT 25 W (pt G (0+2)) ?_
 obtain⟨cV,cW,X⟩:=b.jY.shape
 have nEq:=b.jY.2.2
 refine lG 25 W G (0+2) (.slice cV (C.jY.l.length) cW) Di c6 (by rw[<-X];rfl)<|gT 25 W (.func (.func 184) #[] #[pt (G+1) 0])<|WO.cons (WC.gq (W) (GB (W) (∀x∈C.jY.l,(HR (gy .i64 ((.ofNat (C.iD.l.length))-(1)))) x) (dn) c8) (.bool W) (g:=f_ (.tmp 25)) rfl U (by cases W<;>rfl) (fun h=>by obtain rfl:W=true:=(by simpa using h);have bc:=(eJ).1 rfl;exact WC.call 29 189 ([C.jY.v,.func (.func 184) #[] #[pt (G+1) 0]]) (fun _ _ _=>by(try rw[X]);kernel_rfl) ((Tb (HR (gy .i64 ((.ofNat (C.iD.l.length))-(1)))) C.jY 184 #[pt (G+1) 0] c8 (dn) (b.jY.mono c0 aL) (fun i x hx e9 e_ hn he=>O3 (gy .i64 ((.ofNat (C.iD.l.length))-(1))) (G+1) x e9 e_ (he.get bq ae) (fb ae hn))).mono fun v e9 e_ ⟨⟨c,N,hc⟩,hn,he⟩=>⟨_,_,_,rfl,⟨c,N,hc⟩,hn,he⟩)) (fun h=>GB.off h) ?_)
 rintro _ bH cO ⟨⟨nEz,rfl,nD6⟩,E,A⟩
 have bd:=c0.trans A aL
 have br:=A.get c6 b9
 have cc:=fb b9 E
 have dL:=A.get bq ae
 have cd:=fb ae E
 have dM:=A.get dI b_
 have cf:=fb b_ E
 have dN:=A.get dJ ca
 have cj:=fb ca E
 have dO:=A.get dK cb
 have ck:=fb cb E
 have aM:=ff aL E
 refine nh 30 (nA eJ nD6) fun J dp=>oX 1<|gT 31 J (pt G (0+2))<|lG 31 J G (0+2) (.slice cV (C.jY.l.length) cW) Di br (by rw[<-X];rfl)<|WO.cons (WC.gq (J) (GB (J) (Cg yg C.jY.l) (cO) bH) (.bool J) (g:=f_ (.tmp 31)) rfl U (by cases J<;>rfl) (fun h=>by obtain rfl:J=true:=(by simpa using h);have bc:=(dp).1 rfl;exact WC.call 34 190 ([C.jY.v,.func (.func 191) #[] #[]]) (fun _ _ _=>by(try rw[X]);kernel_rfl) ((Rj yg C.jY 191 #[] bH (cO) (b.jY.mono bd aM) (fun i x hx e9 e_ hn he=>O_ x e9 e_)).mono fun v e9 e_ ⟨⟨c,N,hc⟩,hn,he⟩=>⟨_,_,_,rfl,⟨c,N,hc⟩,hn,he⟩)) (fun h=>GB.off h) ?_)
 rintro _ bI cP ⟨⟨nEA,rfl,nD7⟩,F,B⟩
 have aj:=bd.trans B aM
 have bs:=B.get br cc
 have cm:=fb cc F
 have dP:=B.get dL cd
 have cn:=fb cd F
 have dQ:=B.get dM cf
 have cp:=fb cf F
 have dR:=B.get dN cj
 have cr:=fb cj F
 have dS:=B.get dO ck
 have ct:=fb ck F
 have ab:=ff aM F
 refine nh 35 (nA dp nD7) fun u dq=>oX 1<|gT 36 u (pt G (0+3)) ?_
 obtain⟨eK,eN,bT⟩:=b.fD.1.shape
 have nEr:=b.fD.1.2.2
 refine lG 36 u G (0+3) (.slice eK (C.fD.l.length) eN) r6 bs (by rw[<-bT];rfl)<|gT 36 u (.func (.func 182) #[] #[pt (G+1) 0,pt (G+1+1) 0,pt (G+1+1+1) 0])<|WO.cons (WC.gq (u) (GB (u) (∀x∈C.fD.l,(Cf (gy .i64 ((.ofNat (C.iD.l.length))-(1)))) x) (cP) bI) (.bool u) (g:=f_ (.tmp 36)) rfl U (by cases u<;>rfl) (fun h=>by obtain rfl:u=true:=(by simpa using h);have bc:=(dq).1 rfl;exact WC.call 40 100 ([C.fD.v,.func (.func 182) #[] #[pt (G+1) 0,pt (G+1+1) 0,pt (G+1+1+1) 0]]) (fun _ _ _=>by(try rw[bT]);kernel_rfl) ((Dp (Cf (gy .i64 ((.ofNat (C.iD.l.length))-(1)))) C.fD 182 #[pt (G+1) 0,pt (G+1+1) 0,pt (G+1+1+1) 0] bI (cP) (b.fD.mono (fun _ h he hn=>h.mono he hn) aj ab) (fun i x hx e9 e_ hn he=>O9 (gy .i64 ((.ofNat (C.iD.l.length))-(1))) (G+1) (G+1+1) (G+1+1+1) x (nD3 x (fa hx)) e9 e_ (((b.fD.mono (fun _ h he hn=>h.mono he hn) aj ab).2 x (fa hx)).mono he hn) (he.get dP cn) (fb cn hn) (he.get dQ cp) (fb cp hn) (he.get dR cr) (fb cr hn))).mono fun v e9 e_ ⟨⟨c,N,hc⟩,hn,he⟩=>⟨_,_,_,rfl,⟨c,N,hc⟩,hn,he⟩)) (fun h=>GB.off h) ?_)
 rintro _ bJ cQ ⟨⟨nEB,rfl,nD8⟩,aD,aq⟩
 have bf:=aj.trans aq ab
 have bt:=aq.get bs cm
 have cu:=fb cm aD
 have dT:=aq.get dS ct
 have cw:=fb ct aD
 have aN:=ff ab aD
 refine nh 41 (nA dq nD8) fun K dr=>oX 1<|gT 42 K (pt G (0+4)) ?_
 obtain⟨eL,eO,bU⟩:=b.kS.shape
 have nEs:=b.kS.2.2
 refine lG 42 K G (0+4) (.slice eL (C.kS.l.length) eO) Ge bt (by rw[<-bU];rfl)<|WO.cons (WC.gq (K) (GB (K) (∀x∈C.kS.l,(Gh) x) (cQ) bJ) (.bool K) (g:=f_ (.tmp 42)) rfl U (by cases K<;>rfl) (fun h=>by obtain rfl:K=true:=(by simpa using h);have bc:=(dr).1 rfl;exact WC.call 45 192 ([C.kS.v,.func (.func 193) #[] #[]]) (fun _ _ _=>by(try rw[bU]);kernel_rfl) ((Ri (Gh) C.kS 193 #[] bJ (cQ) (b.kS.mono bf aN) (fun i x hx e9 e_ hn he=>O5 x e9 e_)).mono fun v e9 e_ ⟨⟨c,N,hc⟩,hn,he⟩=>⟨_,_,_,rfl,⟨c,N,hc⟩,hn,he⟩)) (fun h=>GB.off h) ?_)
 rintro _ bK cR ⟨⟨nEC,rfl,nD9⟩,aE,ar⟩
 have bg:=bf.trans ar aN
 have bu:=ar.get bt cu
 have cx:=fb cu aE
 have dU:=ar.get dT cw
 have cy:=fb cw aE
 have aO:=ff aN aE
 refine nh 46 (nA dr nD9) fun y dt=>oX 1<|gT 47 y (pt G (0+5)) ?_
 obtain⟨eM,eP,bV⟩:=b.jB.shape
 have nEt:=b.jB.2.2
 refine lG 47 y G (0+5) (.slice eM (C.jB.l.length) eP) Gf bu (by rw[<-bV];rfl)<|gT 47 y (.func (.func 185) #[] #[])<|WO.cons (WC.gq (y) (GB (y) (∀x∈C.jB.l,(D_) x) (cR) bK) (.bool y) (g:=f_ (.tmp 47)) rfl U (by cases y<;>rfl) (fun h=>by obtain rfl:y=true:=(by simpa using h);have bc:=(dt).1 rfl;exact WC.call 51 194 ([C.jB.v,.func (.func 185) #[] #[]]) (fun _ _ _=>by(try rw[bV]);kernel_rfl) ((LB (D_) C.jB 185 #[] bK (cR) (b.jB.mono bg aO) (fun i x hx e9 e_ hn he=>O6 x e9 e_)).mono fun v e9 e_ ⟨⟨c,N,hc⟩,hn,he⟩=>⟨_,_,_,rfl,⟨c,N,hc⟩,hn,he⟩)) (fun h=>GB.off h) ?_)
 rintro _ bL cS ⟨⟨nED,rfl,nD_⟩,aF,au⟩
 have bh:=bg.trans au aO
 have bw:=au.get bu cx
 have cz:=fb cx aF
 have dV:=au.get dU cy
 have cA:=fb cy aF
 have aP:=ff aO aF
 refine nh 52 (nA dt nD_) fun L du=>oX 1<|gT 53 L (pt G (0+6)) ?_
 obtain⟨a212,eQ,bW⟩:=b.iC.shape
 have nEu:=b.iC.2.2
 refine lG 53 L G (0+6) (.slice a212 (C.iC.l.length) eQ) Dj bw (by rw[<-bW];rfl)<|WO.cons (WC.gq (L) (GB (L) (∀x∈C.iC.l,(Kg) x) (cS) bL) (.bool L) (g:=f_ (.tmp 53)) rfl U (by cases L<;>rfl) (fun h=>by obtain rfl:L=true:=(by simpa using h);have bc:=(du).1 rfl;exact WC.call 56 195 ([C.iC.v,.func (.func 196) #[] #[]]) (fun _ _ _=>by(try rw[bW]);kernel_rfl) ((Ke (Kg) C.iC 196 #[] bL (cS) (b.iC.mono bh aP) (fun i x hx e9 e_ hn he=>NW x e9 e_)).mono fun v e9 e_ ⟨⟨c,N,hc⟩,hn,he⟩=>⟨_,_,_,rfl,⟨c,N,hc⟩,hn,he⟩)) (fun h=>GB.off h) ?_)
 rintro _ bM cT ⟨⟨nEE,rfl,nEa⟩,aG,av⟩
 have ak:=bh.trans av aP
 have al:=av.get bw cz
 have af:=fb cz aG
 have dW:=av.get dV cA
 have cB:=fb cA aG
 have ad:=ff aP aG
 refine nh 57 (nA du nEa) fun z dv=>oX 1<|gT 58 z (pt G (0+7)) ?_
 obtain⟨a233,cX,aa⟩:=b.ln.shape
 have nEv:=b.ln.2.2
 refine lG 58 z G (0+7) (.slice a233 (C.ln.l.length) cX) Gg al (by rw[<-aa];rfl)<|gT 58 z (.func (.func 186) #[] #[pt G 0])<|WO.cons (WC.gq (z) (GB (z) (∀x∈C.ln.l,(yR C) x) (cT) bM) (.bool z) (g:=f_ (.tmp 58)) rfl U (by cases z<;>rfl) (fun h=>by obtain rfl:z=true:=(by simpa using h);have bc:=(dv).1 rfl;exact WC.call 62 197 ([C.ln.v,.func (.func 186) #[] #[pt G 0]]) (fun _ _ _=>by(try rw[aa]);kernel_rfl) ((OY (yR C) C.ln 186 #[pt G 0] bM (cT) (b.ln.mono ak ad) (fun i x hx e9 e_ hn he=>O7 C G x e9 e_ ((b.mono ak ad).mono he hn) (he.get al af) (fb af hn))).mono fun v e9 e_ ⟨⟨c,N,hc⟩,hn,he⟩=>⟨_,_,_,rfl,⟨c,N,hc⟩,hn,he⟩)) (fun h=>GB.off h) ?_)
 rintro _ bN cU ⟨⟨nEF,rfl,nEb⟩,aH,aw⟩
 have bj:=ak.trans aw ad
 have bx:=aw.get al af
 have cC:=fb af aH
 have dX:=aw.get dW cB
 have cD:=fb cB aH
 have aQ:=ff ad aH
 refine nh 63 (nA dv nEb) fun M dw=>oX 1<|gT 64 M (pt G (0+7))<|lG 64 M G (0+7) (.slice a233 (C.ln.l.length) cX) Gg bx (by rw[<-aa];rfl)<|WO.cons (WC.gq (M) (GB (M) (Cg yS C.ln.l) (cU) bN) (.bool M) (g:=f_ (.tmp 64)) rfl U (by cases M<;>rfl) (fun h=>by obtain rfl:M=true:=(by simpa using h);have bc:=(dw).1 rfl;exact WC.call 67 198 ([C.ln.v,.func (.func 199) #[] #[]]) (fun _ _ _=>by(try rw[aa]);kernel_rfl) ((NX yS C.ln 199 #[] bN (cU) (b.ln.mono bj aQ) (fun i x hx e9 e_ hn he=>NY x e9 e_)).mono fun v e9 e_ ⟨⟨c,N,hc⟩,hn,he⟩=>⟨_,_,_,rfl,⟨c,N,hc⟩,hn,he⟩)) (fun h=>GB.off h) ?_)
 rintro _ eA e ⟨⟨nEG,rfl,nEc⟩,aI,ax⟩
 have bk:=bj.trans ax aQ
 have dY:=ax.get bx cC
 have cE:=fb cC aI
 have an:=ax.get dX cD
 have cF:=fb cD aI
 have aR:=ff aQ aI
 refine nh 68 (nA dw nEc) fun ag dx=>oX 1<|gT 69 ag (pt (G+1+1+1+1) 0)<|lG 69 ag (G+1+1+1+1) 0 (Y C.iU.sN) fy an rfl<|gT 69 ag (pt (G+1+1+1+1) (0+1))<|lG 69 ag (G+1+1+1+1) (0+1) (Y C.iU.sO) fy an rfl ?_
 cases ag with
 |true=>
  have nEe:=(dx).1 rfl
  refine WO.cons (WC.lh (x:=.bool true) (g:=f_ (.tmp 69)) rfl U rfl (WC.buildSlice [Y C.iU.sN,Y C.iU.sO] rfl U ?_))
  obtain⟨bO,bX,ay,dZ⟩:=boxed eA (e) [Y C.iU.sN,Y C.iU.sO]
  rw[bX];clear bX
  have dC:=bk.trans ay aR
  have d_:=ay.get dY cE
  have cG:=fb cE (fh (e))
  have ea:=ay.get an cF
  have cH:=fb cF (fh (e))
  have b4:=ff aR (fh (e))
  refine WO.cons (WC.lh (x:=.bool true) (g:=f_ (.tmp 69)) rfl U rfl (WC.call 75 179 ([Y 0,Y 16,(⟨.slice (some ⟨e,0,none⟩) 2 2,[C.iU.sN,C.iU.sO]⟩:SV Int).v]) kf ((yP (0) (16) (C.iU.sN) (C.iU.sO) (⟨.slice (some ⟨e,0,none⟩) 2 2,[C.iU.sN,C.iU.sO]⟩:SV Int) bO (e+1) (gB.ny (enc:=encI) (by simp[encI]) dZ rfl (by decide) om (by simp):gB encI 1 bO (e+1) (⟨.slice (some ⟨e,0,none⟩) 2 2,[C.iU.sN,C.iU.sO]⟩:SV Int)) rfl).mono ?_)))
  rintro _ eB j ⟨⟨ah,rfl,dy⟩,aJ,az⟩
  have bl:=dC.trans az b4
  have eb:=az.get d_ cG
  have cI:=fb cG aJ
  have ao:=az.get ea cH
  have cJ:=fb cH aJ
  have aS:=ff b4 aJ
  refine oX 2<|gT 77 ah (pt (G+1+1+1+1) (0+2))<|lG 77 ah (G+1+1+1+1) (0+2) (Y C.iU.sP) fy ao rfl<|gT 77 ah (pt (G+1+1+1+1) (0+3))<|lG 77 ah (G+1+1+1+1) (0+3) (Y C.iU.qb) fy ao rfl ?_
  cases ah with
  |true=>
   have nEf:=(dy).1 rfl
   refine WO.cons (WC.lh (x:=.bool true) (g:=f_ (.tmp 77)) rfl U rfl (WC.buildSlice [Y C.iU.sP,Y C.iU.qb] rfl U ?_))
   obtain⟨bP,bY,aA,ec⟩:=boxed eB (j) [Y C.iU.sP,Y C.iU.qb]
   rw[bY];clear bY
   have dD:=bl.trans aA aS
   have ee:=aA.get eb cI
   have cK:=fb cI (fh (j))
   have ef:=aA.get ao cJ
   have eG:=fb cJ (fh (j))
   have b5:=ff aS (fh (j))
   refine WO.cons (WC.lh (x:=.bool true) (g:=f_ (.tmp 77)) rfl U rfl (WC.call 83 179 ([Y 0,Y 4294967296,(⟨.slice (some ⟨j,0,none⟩) 2 2,[C.iU.sP,C.iU.qb]⟩:SV Int).v]) kf ((yP (0) (4294967296) (C.iU.sP) (C.iU.qb) (⟨.slice (some ⟨j,0,none⟩) 2 2,[C.iU.sP,C.iU.qb]⟩:SV Int) bP (j+1) (gB.ny (enc:=encI) (by simp[encI]) ec rfl (by decide) om (by simp):gB encI 1 bP (j+1) (⟨.slice (some ⟨j,0,none⟩) 2 2,[C.iU.sP,C.iU.qb]⟩:SV Int)) rfl).mono ?_)))
   rintro _ eC m ⟨⟨aW,rfl,dz⟩,bE,aB⟩
   have bn:=dD.trans aB b5
   have eg:=aB.get ee cK
   have cL:=fb cK bE
   have eh:=aB.get ef eG
   have aT:=ff b5 bE
   refine oX 2<|gT 85 aW (pt (G+1+1+1+1) (0+4))<|lG 85 aW (G+1+1+1+1) (0+4) (Y C.iU.ux) fy eh rfl ?_
   cases aW with
   |true=>
    have nEg:=(dz).1 rfl
    refine WO.cons (WC.lh (x:=.bool true) (g:=f_ (.tmp 85)) rfl U rfl (WC.buildSlice [Y C.iU.ux] rfl U ?_))
    obtain⟨bQ,bZ,bA,ei⟩:=boxed eC (m) [Y C.iU.ux]
    rw[bZ];clear bZ
    have dE:=bn.trans bA aT
    have ej:=bA.get eg cL
    have cM:=fb cL (fh (m))
    have b6:=ff aT (fh (m))
    refine WO.cons (WC.lh (x:=.bool true) (g:=f_ (.tmp 85)) rfl U rfl (WC.call 89 179 ([Y 0,Y 100000,(⟨.slice (some ⟨m,0,none⟩) 1 1,[C.iU.ux]⟩:SV Int).v]) kf ((mT (0) (100000) (C.iU.ux) (⟨.slice (some ⟨m,0,none⟩) 1 1,[C.iU.ux]⟩:SV Int) bQ (m+1) (gB.ny (enc:=encI) (by simp[encI]) ei rfl (by decide) om (by simp):gB encI 1 bQ (m+1) (⟨.slice (some ⟨m,0,none⟩) 1 1,[C.iU.ux]⟩:SV Int)) rfl).mono ?_)))
    rintro _ eD o ⟨⟨aX,rfl,dA⟩,bG,bB⟩
    have bo:=dE.trans bB b6
    have bz:=bB.get ej cM
    have cN:=fb cM bG
    have aU:=ff b6 bG
    refine oX 2<|gT 91 aX (pt G (0+14))<|lG 91 aX G (0+14) (Y C.Ap) fy bz rfl ?_
    cases aX with
    |true=>
     have nEh:=(dA).1 rfl
     refine WO.cons (WC.lh (x:=.bool true) (g:=f_ (.tmp 91)) rfl U rfl (WC.buildSlice [Y C.Ap] rfl U ?_))
     obtain⟨bR,b0,bC,en⟩:=boxed eD (o) [Y C.Ap]
     rw[b0];clear b0
     have dF:=bo.trans bC aU
     have eo:=bC.get bz cN
     have eH:=fb cN (fh (o))
     have b7:=ff aU (fh (o))
     refine WO.cons (WC.lh (x:=.bool true) (g:=f_ (.tmp 91)) rfl U rfl (WC.call 95 179 ([Y 0,Y 1125899906842624,(⟨.slice (some ⟨o,0,none⟩) 1 1,[C.Ap]⟩:SV Int).v]) kf ((mT (0) (1125899906842624) (C.Ap) (⟨.slice (some ⟨o,0,none⟩) 1 1,[C.Ap]⟩:SV Int) bR (o+1) (gB.ny (enc:=encI) (by simp[encI]) en rfl (by decide) om (by simp):gB encI 1 bR (o+1) (⟨.slice (some ⟨o,0,none⟩) 1 1,[C.Ap]⟩:SV Int)) rfl).mono ?_)))
     rintro _ eE p ⟨⟨aY,rfl,dB⟩,ey,bD⟩
     have bp:=dF.trans bD b7
     have ep:=bD.get eo eH
     have aV:=ff b7 ey
     refine oX 2<|gT 97 aY (pt G (0+15))<|lG 97 aY G (0+15) (Y C.sH) fy ep rfl ?_
     cases aY with
     |true=>
      have nEi:=(dB).1 rfl
      refine WO.cons (WC.lh (x:=.bool true) (g:=f_ (.tmp 97)) rfl U rfl (WC.buildSlice [Y C.sH] rfl U ?_))
      obtain⟨bS,b3,eu,et⟩:=boxed eE (p) [Y C.sH]
      rw[b3];clear b3
      have dG:=bp.trans eu aV
      have b8:=ff aV (fh (p))
      refine WO.cons (WC.lh (x:=.bool true) (g:=f_ (.tmp 97)) rfl U rfl (WC.call 101 179 ([Y 0,Y 1099511627776,(⟨.slice (some ⟨p,0,none⟩) 1 1,[C.sH]⟩:SV Int).v]) kf ((mT (0) (1099511627776) (C.sH) (⟨.slice (some ⟨p,0,none⟩) 1 1,[C.sH]⟩:SV Int) bS (p+1) (gB.ny (enc:=encI) (by simp[encI]) et rfl (by decide) om (by simp):gB encI 1 bS (p+1) (⟨.slice (some ⟨p,0,none⟩) 1 1,[C.sH]⟩:SV Int)) rfl).mono ?_)))
      rintro _ nEw nEy ⟨⟨cY,rfl,nEd⟩,ez,ew⟩
      have dH:=dG.trans ew b8
      have eF:=ff b8 ez
      refine oW 2 ⟨rfl,rfl,[.bool cY],U,?_⟩
      exact⟨⟨cY,rfl,nEd.trans ⟨fun h=>⟨⟨⟨⟨⟨nEe,nEf⟩,nEg⟩,nEh⟩,nEi⟩,h⟩,fun h=>h.2⟩⟩,eF,dH⟩
     |false=>
      have nEj:¬((0)<=(C.Ap)/\(C.Ap)<=(1125899906842624)):=nf dB
      refine oW 4 ⟨rfl,rfl,[.bool false],U,?_⟩
      exact⟨⟨false,rfl,fun h=>(by cases h),fun h=>absurd h.1.2 nEj⟩,aV,bp⟩
    |false=>
     have nEk:¬((0)<=(C.iU.ux)/\(C.iU.ux)<=(100000)):=nf dA
     refine oW 10 ⟨rfl,rfl,[.bool false],U,?_⟩
     exact⟨⟨false,rfl,fun h=>(by cases h),fun h=>absurd h.1.1.2 nEk⟩,aU,bo⟩
   |false=>
    have nEl:¬(((0)<=(C.iU.sP)/\(C.iU.sP)<=(4294967296))/\(0)<=(C.iU.qb)/\(C.iU.qb)<=(4294967296)):=nf dz
    refine oW 16 ⟨rfl,rfl,[.bool false],U,?_⟩
    exact⟨⟨false,rfl,fun h=>(by cases h),fun h=>absurd h.1.1.1.2 nEl⟩,aT,bn⟩
  |false=>
   have nEm:¬(((0)<=(C.iU.sN)/\(C.iU.sN)<=(16))/\(0)<=(C.iU.sO)/\(C.iU.sO)<=(16)):=nf dy
   refine oW 22 ⟨rfl,rfl,[.bool false],U,?_⟩
   exact⟨⟨false,rfl,fun h=>(by cases h),fun h=>absurd h.1.1.1.1.2 nEm⟩,aS,bl⟩
 |false=>
  have nEn:¬(((((((((∀x∈C.iD.l,(NR) x)/\(∀x∈C.jY.l,(HR (gy .i64 ((.ofNat (C.iD.l.length))-(1)))) x))/\(Cg yg C.jY.l))/\(∀x∈C.fD.l,(Cf (gy .i64 ((.ofNat (C.iD.l.length))-(1)))) x))/\(∀x∈C.kS.l,(Gh) x))/\(∀x∈C.jB.l,(D_) x))/\(∀x∈C.iC.l,(Kg) x))/\(∀x∈C.ln.l,(yR C) x))/\(Cg yS C.ln.l)):=nf dx
  refine oW 30 ⟨rfl,rfl,[.bool false],U,?_⟩
  exact⟨⟨false,rfl,fun h=>(by cases h),fun h=>absurd h.1.1.1.1.1 nEn⟩,aR,bk⟩
end
end Sw
