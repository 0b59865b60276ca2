/- A part of the proof that the law returns true for every input that its row speaks of. No condition is added. -/
import Derived.Test.YtecbgehgkpgbmaaGreatDoorSwAJ
import Derived.Test.YtecbgehgkpgbmaaGreatDoorSwAG
namespace Sw
noncomputable section
open Go Go.Proofs Go.RowKit
set_option maxRecDepth 100000
set_option maxHeartbeats 1600000
theorem Hr:∃i,ex.T.kd 466=some i/\i.bytes=16:=by
 cases h:ex.T.kd 466 with
 |none=>exact absurd (show(ex.T.kd 466).isSome=true by kernel_rfl) (by rw[h];decide)
 |some i=>
  refine⟨i,rfl,?_⟩
  have:((ex.T.kd 466).map fun i=>i.bytes)=some 16:=by kernel_rfl
  rw[h]at this
  exact fS this
theorem ow(l:List j7):∀y∈l,(mh y).length=1:=fun _ _=>rfl
theorem KE:∀(l:List j7),(l.flatMap mh).all one=true
 |[]=>rfl
 |x::l=>by
  rw[List.flatMap_cons,List.all_append,KE l]
  simp only[mh,List.all_cons,List.all_nil,Yj,Bool.and_true]
def DM(L:List j7)(O:Ht)(G:Nat)(v:Value)(eZ:Ht)(e5:Nat):Prop:=∃J:SV j7,v=J.v/\J.l=L/\mq mh 1 G eZ e5 J/\G<=e5/\HE G O eZ
theorem Yp{α:Type}{l:List α}{P:α->Prop}:(¬∃x∈l,¬P x)↔∀x∈l,P x:=
 ⟨fun h x hx=>fg.1 fun k=>h ⟨x,hx,k⟩,fun h ⟨x,hx,k⟩=>k (h x hx)⟩
theorem BB:ex.T.agg 142=some true:=U
theorem Nt:ex.T.agg 151=some true:=U
theorem UN:ex.T.agg 250=some false:=U
theorem Hs:ex.T.agg 361=some false:=U
theorem Nu:ex.T.agg 365=some true:=U
theorem Nv:ex.T.agg 366=some false:=U
theorem UO:ex.T.agg 368=some false:=U
theorem UP:ex.T.agg 369=some false:=U
theorem DN:ex.T.agg 371=some true:=U
theorem UQ:ex.T.agg 372=some false:=U
theorem UR:ex.T.agg 374=some false:=U
theorem US:ex.T.agg 379=some false:=U
theorem UT:ex.T.agg 382=some false:=U
theorem tE:ex.T.size 142=some 4:=U
theorem KF:ex.T.size 365=some 3:=U
theorem xR:ex.T.size 371=some 4:=U
theorem zI:ex.T.size 466=some 1:=U
theorem UU:ex.T.jh 107=some (.slice 365):=U
theorem JM:ex.T.jh 23=some (.slice 142):=U
theorem Pz:ex.T.jh 28=some (.slice 371):=U
theorem zg:ex.T.jh 389=some (.slice 466):=U
theorem SH:ex.T.zero 149=some (.agg ⟨[Y 0,Y 0,Y 0,.slice none (0) 0]⟩):=U
theorem SI:ex.T.zero 151=some (.agg ⟨[Y 0,Y 0,Y 0,Y 0,Y 0,.slice none (0) 0,.slice none (0) 0,.slice none (0) 0]⟩):=U
theorem Ft:ex.T.zero 466=some (.nilIface):=U
theorem QT(lo hi n:Int)(e b:Nat)(O:Ht)(G:Nat)(o:O.get e=some (.cells [Y lo] gi.plain))(z:e<G)(m:O.get b=some (.cells [Y hi] gi.plain))(y:b<G):WF ex 263 [Y n,pt e 0,pt b 0] O G (fG G O (ga (n<lo\/hi<n))):=by
 refine wd Tryz.f263 13 [.tmp 4] fun hE=>sr<|oN 1<|sr<|oX 1<|oZ e (0) (Y lo) ft o rfl ?_
 refine oq 7 (mr n lo) fun c1 p1=>oX 1<|gF 8 c1 (Y n)<|nF 8 c1 b (0) (Y hi) ft m rfl ?_
 refine nm 8 c1 (mr hi n) fun c2 p=>?_
 refine mz 12 (nO p1 p) fun j u=>oW 1 ⟨rfl,rfl,[.bool j],U,?_⟩
 refine⟨⟨j,rfl,?_⟩,nR,hE⟩
 exact u
theorem zJ(lo hi:Int)(K:SV Int)(O:Ht)(G:Nat)(hK:gx encI 1 O G K):WF ex 179 [Y lo,Y hi,K.v] O G (fG G O (ga (∀x∈K.l,lo<=x/\x<=hi))):=by
 obtain⟨a1,c2,hR⟩:=hK.shape
 have lU:=hK.2.2
 rw[hR]
 refine wd Tryz.f179 11 [.tmp 6] fun hE=>sr<|oB (Y lo) [Y lo] fun zE pC uo=>?_
 refine oB (Y hi) [Y hi] fun m xz e=>?_
 have wS:=(hE.trans pC).trans xz
 refine oN 1<|sr<|oX 2<|WO.cons (WC.call 9 108 ([K.v,.func (.func 263) #[] #[pt G 0,pt (G+1) 0]]) (fun _ _ _=>by(try rw[hR]);kernel_rfl) ((xp (A:=fun n=>n<(lo)\/(hi)<n) K 263 #[pt G 0,pt (G+1) 0] m (G+1+1) (hK.mono wS) (fun i x hx eZ e5 hn he=>QT (lo) (hi) x G (G+1) eZ e5 (he.get (xz.get uo)) (e4 om hn) (he.get e) (e4 (fb (G+1)) hn))).mono ?_))
 rintro _ u y ⟨⟨ux,rfl,ul⟩,p,j⟩
 refine oq 10 (nN ul) fun b o=>oW 1 ⟨rfl,rfl,[.bool b],U,?_⟩
 refine⟨⟨b,rfl,?_⟩,od,(wS.trans j)⟩
 exact o.trans ⟨fun h x hx=>by constructor<;>(apply Int.not_lt.1;intro k;exact h ⟨x,hx,om⟩),fun h ⟨x,hx,k⟩=>by have:=h x hx;omega⟩
theorem KG(c:RCond)(O:Ht)(G:Nat)(hc:lD O G c):WF ex 356 [.agg (ij c).toArray] O G (fG G O (ga (nI c))):=by
 refine wd Tryz.f356 26 [.tmp 2] fun hE=>sr<|oB (.agg (ij c).toArray) (ij c) fun jq iC hU=>?_
 refine oN 1<|sr<|oX 2<|oZ G (0+0+0) (Y c.je) ft hU rfl ?_
 refine oq 6 (sN c.je 0) fun j C=>oX 1<|gT 7 j (pt G 0)<|gT 7 j (pt G (0+0+1))<|lu 7 j G (0+0+1) (Y c.rW) ft hU rfl ?_
 refine qu 7 j (sN c.rW 0) fun K E=>?_
 refine mT 12 (nA C E) fun e u=>oX 1<|gT 13 e (pt G 0)<|gT 13 e (pt G (0+0+2))<|lu 13 e G (0+0+2) (Y c.fN) ft hU rfl ?_
 refine qu 13 e (sN c.fN 0) fun F y=>?_
 refine mT 18 (nA u y) fun nM rN=>oX 1<|gT 19 nM (pt G 0)<|gT 19 nM (pt G (0+0+3)) ?_
 obtain⟨p,CY,o⟩:=hc.fT.1.shape
 have B:=hc.fT.1.2.2
 refine lu 19 nM G (0+0+3) (.slice p (c.fT.l.length) CY) sP hU (by rw[<-o];rfl)<|gT 19 nM (Y (.ofNat (c.fT.l.length))) ?_
 refine qu 19 nM (vK c.fT.l.length 0) fun J z=>?_
 refine mT 25 (nA rN z) fun m A=>oW 1 ⟨rfl,rfl,[.bool m],U,?_⟩
 refine⟨⟨m,rfl,?_⟩,od,(hE.trans iC)⟩
 exact A.trans ⟨fun⟨⟨⟨a,b⟩,c⟩,d⟩=>⟨a,b,c,fP om⟩,fun⟨a,b,c,d⟩=>⟨⟨⟨a,b⟩,c⟩,by rw[d];rfl⟩⟩
theorem UW(l:SV RCond)(O:Ht)(G:Nat)(hl:ju ij 4 (fun O G y=>lD O G y) O G l)(hlen:l.l.length<=2932031007403):WF ex 449 [l.v] O G (DM (l.l.map .cond) O G):=by
 obtain⟨a1,c2,hR⟩:=hl.1.shape
 have lU:=hl.1.2.2
 rw[hR]
 refine wd Tryz.f449 19 [.tmp 2] fun hE=>sr<|oN 1<|WP.seq<|sr<|oN 3<|WP.block ?_
 refine mg [2,5,6,7] (fun m hs ns vs=>∃(fR:Nat) (J:SV j7),fR+m=l.l.length/\vs=[J.v,.slice a1 (l.l.length) c2,Y (.ofNat (l.l.length)),Y (.ofNat fR)]/\G<=ns/\HE G O hs/\(mq mh 1 (G) hs ns J)/\(J.l=(l.l.take fR).map .cond)/\(J.l.length=fR)) ?_ (l.l.length) ?_
 ·
  rintro xM p_ iY _ ⟨fR,J,ui,rfl,oF,jl,au,L,av⟩ uj
  have e:=e8 nR oF
  have af:=HE.refl (iY) p_
  have E:=e9 (iY)
  refine sr ?_
  obtain⟨CY,ar,By⟩:=kL fR l.l.length
  refine ob 8 ar<|WO.nil<|WP.seq<|cq By (fun aw=>?_) (fun aw=>?_)
  ·
   refine WP.skip<|WP.seq<|WP.block<|sr ?_
   have o:fR<l.l.length:=by omega
   refine WO.cons (WC.iy hR hl.1 (fR) Ng sx (o) ?_)
   obtain⟨b,j⟩:=gE o
   refine WO.cons (WC.ly hR (hl.1.mono jl e) j xx sx<|oA [Y 0,Y 0,Y 0,.slice none (0) 0] SH fun az p X=>?_)
   have M:=jl.trans p e
   have ag:=af.trans p E
   have F:=e8 E (e_ (iY))
   have al:=e8 oF (e_ (iY))
   have ak:=e8 e (e_ (iY))
   refine oS iY (0) (.agg (ij b).toArray) (ij b) (ij b) sx rfl (e7.2 ⟨rfl,w6 _ (hl.2 b (cs j))⟩) X fun aA u aa ay=>?_
   have N:=M.trans u om
   have ah:=ag.trans u om
   refine WO.nil<|WP.region<|oX 1<|WO.cons (WC.im iY (0) (ij b) U xx sx aa rfl<|oX 2<|oL [.iface 553 (.agg (ij b).toArray)] fun aB z ab=>?_)
   have R:=N.trans z ak
   have ai:=ah.trans z F
   have am:=e8 F (e_ (iY+1))
   have an:=e8 al (e_ (iY+1))
   obtain⟨ax,A,K⟩:=Hr
   refine WO.cons (WC.MJ (enc:=mh) (J:=J) (j7.cond b) rfl U U (au.mono ai am) (ow _) ab rfl zg zI Ft A rfl rfl (by decide) (by rw[K];omega) om om om rfl ?_)
   rintro aq ae C B ad ac W
   have S:=R.trans ac om
   have ao:=e8 an ad
   have aj:=HE.refl (C) ae
   have ap:=e9 (C)
   refine oN 1<|WP.region<|ov 17 (Y (.ofNat (fR+1))) ?_ (fun _ _ _=>by rw[<-gM (show fR+1<9223372036854775808 by omega)];kernel_rfl)
   refine oN 1<|⟨l.l.length-(fR+1),om,rfl,rfl,fR+1,aq,om,U,?_,?_,?_,?_,?_⟩
   · exact ao
   · exact S
   · exact W.mono aj ap
   · rw[B,L,List.take_add_one,j];simp
   · rw[B,List.length_append,av];rfl
  ·
   refine WP.exit<|sr<|oW 2 ⟨rfl,rfl,[J.v],U,?_⟩
   have hi:fR=l.l.length:=by omega
   exact⟨J,rfl,by rw[L,hi,List.take_length],au,e,jl⟩
 ·
  exact⟨0,⟨.slice none 0 0,[]⟩,om,U,e9 _,hE,mq.nil,(by simp),rfl⟩
theorem Hu(l:SV RStep)(O:Ht)(G:Nat)(hl:ju jz 8 (fun O G y=>j3 O G y) O G l)(hlen:l.l.length<=2932031007403):WF ex 201 [l.v] O G (DM (l.l.map .step) O G):=by
 obtain⟨a1,c2,hR⟩:=hl.1.shape
 have lU:=hl.1.2.2
 rw[hR]
 refine wd Tryz.f201 19 [.tmp 2] fun hE=>sr<|oN 1<|WP.seq<|sr<|oN 3<|WP.block ?_
 refine mg [2,5,6,7] (fun m hs ns vs=>∃(fR:Nat) (J:SV j7),fR+m=l.l.length/\vs=[J.v,.slice a1 (l.l.length) c2,Y (.ofNat (l.l.length)),Y (.ofNat fR)]/\G<=ns/\HE G O hs/\(mq mh 1 (G) hs ns J)/\(J.l=(l.l.take fR).map .step)/\(J.l.length=fR)) ?_ (l.l.length) ?_
 ·
  rintro xM p_ iY _ ⟨fR,J,ui,rfl,oF,jl,ar,L,au⟩ uj
  have e:=e8 nR oF
  have af:=HE.refl (iY) p_
  have E:=e9 (iY)
  refine sr ?_
  refine oq 8 (kL fR l.l.length) fun CY By=>WO.nil<|WP.seq<|cq By (fun av=>?_) (fun av=>?_)
  ·
   refine WP.skip<|WP.seq<|WP.block<|sr ?_
   have o:fR<l.l.length:=by omega
   refine WO.cons (WC.iy hR hl.1 (fR) C4 uy (o) ?_)
   obtain⟨b,j⟩:=gE o
   refine WO.cons (WC.ly hR (hl.1.mono jl e) j Nt uy<|oA [Y 0,Y 0,Y 0,Y 0,Y 0,.slice none (0) 0,.slice none (0) 0,.slice none (0) 0] SI fun ay p X=>?_)
   have M:=jl.trans p e
   have ag:=af.trans p E
   have F:=e8 E (e_ (iY))
   have al:=e8 oF (e_ (iY))
   have ak:=e8 e (e_ (iY))
   refine oS iY (0) (.agg (jz b).toArray) (jz b) (jz b) uy rfl (e7.2 ⟨rfl,Cn _ (hl.2 b (cs j))⟩) X fun az u aa ax=>?_
   have N:=M.trans u om
   have ah:=ag.trans u om
   refine WO.nil<|WP.region<|oX 1<|WO.cons (WC.im iY (0) (jz b) U Nt uy aa rfl<|oX 2<|oL [.iface 469 (.agg (jz b).toArray)] fun aA z ab=>?_)
   have R:=N.trans z ak
   have ai:=ah.trans z F
   have am:=e8 F (e_ (iY+1))
   have an:=e8 al (e_ (iY+1))
   obtain⟨aw,A,K⟩:=Hr
   refine WO.cons (WC.MJ (enc:=mh) (J:=J) (j7.step b) rfl U U (ar.mono ai am) (ow _) ab rfl zg zI Ft A rfl rfl (by decide) (by rw[K];omega) om om om rfl ?_)
   rintro aq ae C B ad ac W
   have S:=R.trans ac om
   have ao:=e8 an ad
   have aj:=HE.refl (C) ae
   have ap:=e9 (C)
   refine oN 1<|WP.region<|ov 17 (Y (.ofNat (fR+1))) ?_ (fun _ _ _=>by rw[<-gM (show fR+1<9223372036854775808 by omega)];kernel_rfl)
   refine oN 1<|⟨l.l.length-(fR+1),om,rfl,rfl,fR+1,aq,om,U,?_,?_,?_,?_,?_⟩
   · exact ao
   · exact S
   · exact W.mono aj ap
   · rw[B,L,List.take_add_one,j];simp
   · rw[B,List.length_append,au];rfl
  ·
   refine WP.exit<|sr<|oW 2 ⟨rfl,rfl,[J.v],U,?_⟩
   have hi:fR=l.l.length:=by omega
   exact⟨J,rfl,by rw[L,hi,List.take_length],ar,e,jl⟩
 ·
  exact⟨0,⟨.slice none 0 0,[]⟩,om,U,e9 _,hE,mq.nil,(by simp),rfl⟩
theorem yy(c:RCond)(O:Ht)(G:Nat)(hc:lD O G c):WF ex 417 [.agg (ij c).toArray] O G (DM (qA (.cond c)) O G):=by
 refine wd Tryz.f417 7 [.tmp 2] fun hE=>sr<|oB (.agg (ij c).toArray) (ij c) fun jq iC hU=>?_
 have kW:=hE.trans iC
 refine oN 1<|sr<|oX 2 ?_
 obtain⟨p,u,b⟩:=hc.fT.1.shape
 have o:=hc.fT.1.2.2
 refine oZ G (0+0+3) (.slice p (c.fT.l.length) u) sP hU (by rw[<-b];rfl)<|WO.cons (WC.call 6 449 ([c.fT.v]) (fun _ _ _=>by(try rw[b]);kernel_rfl) ((UW c.fT jq (G+1) (hc.fT.mono (fun _ h he hn=>h.mono he hn) kW) (by have:=hc.len;omega)).mono ?_))
 rintro _ y9 vl ⟨e,rfl,m,j,JN,xz⟩
 refine oW 1 ⟨rfl,rfl,[e.v],U,?_⟩
 exact⟨e,rfl,m,j.low om,od,(kW.trans xz)⟩
theorem yz(s:RStep)(O:Ht)(G:Nat)(hs:j3 O G s):WF ex 418 [.agg (jz s).toArray] O G (DM (qA (.step s)) O G):=by
 refine wd Tryz.f418 12 [.tmp 2] fun hE=>sr<|oB (.agg (jz s).toArray) (jz s) fun jq iC hU=>?_
 have kW:=hE.trans iC
 refine oN 1<|WP.seq<|WP.qN [⟨[0,1,2,4,5,6],[0,1,2,4,5,6],some 3⟩,⟨[],[4,5,6],some 7⟩,⟨[],[],some 8⟩,⟨[],[],some 9⟩,⟨[],[],none⟩] U _ rfl<|WD.kQ<|nv 3 (pt G 0)<|nv 4 (pt G (0+0+6)) ?_
 obtain⟨ac,ae,e⟩:=hs.l_.1.shape
 have ah:=hs.l_.1.2.2
 refine WN.hQ rfl (WC.jP G (0+0+6) (.slice ac (s.l_.l.length) ae) U vd hU (by rw[<-e];rfl)<|nv 7 (pt G 0)<|nv 8 (pt G (0+0+7)) ?_)
 obtain⟨o,nM,b⟩:=hs.nH.1.shape
 have ai:=hs.nH.1.2.2
 refine WN.hQ rfl (WC.jP G (0+0+7) (.slice o (s.nH.l.length) nM) U vd hU (by rw[<-b];rfl)<|WN.nil ⟨?_,?_⟩)
 ·
  refine cv (pt G 0) (iK ..)<|cv (pt G (0+0+6)) (iK ..)<|p7 G (0+0+6) (.slice ac (s.l_.l.length) ae) vd hU (by rw[<-e];rfl) (e▸hs.l_.1.js 8)<|cv (pt G 0) (iK ..)<|cv (pt G (0+0+7)) (iK ..)<|p7 G (0+0+7) (.slice o (s.nH.l.length) nM) vd hU (by rw[<-b];rfl) (b▸hs.nH.1.js 8) ?_
  exact iX.nil
 refine WC.at rfl (WC.call 6 201 ([s.l_.v]) (fun _ _ _=>by(try rw[e]);kernel_rfl) ((Hu s.l_ jq (G+1) (hs.l_.mono (fun _ h he hn=>h.mono he hn) kW) (by have:=hs.len;omega)).mono ?_))
 rintro _ X aa ⟨K,rfl,A,L,ak,u⟩
 have p:=kW.trans u
 refine WD.kQ<|WN.nil ⟨?_,?_⟩
 ·
  refine cv (pt G 0) (iK ..)<|cv (pt G (0+0+7)) (iK ..)<|p7 G (0+0+7) (.slice o (s.nH.l.length) nM) vd (u.get hU) (by rw[<-b];rfl) (b▸hs.nH.1.js 8) ?_
  exact iX.nil
 refine WC.at rfl (WC.call 10 201 ([s.nH.v]) (fun _ _ _=>by(try rw[b]);kernel_rfl) ((Hu s.nH X (aa) (hs.nH.mono (fun _ h he hn=>h.mono he hn) p) (by have:=hs.len;omega)).mono ?_))
 rintro _ am ao ⟨j,rfl,B,M,W,y⟩
 refine WD.kQ<|WN.nil ⟨?_,?_⟩
 ·
  exact iX.nil
 obtain⟨aj,z,F⟩:=Hr
 have af:K.l.length=s.l_.l.length:=by rw[A,List.length_map]
 have ag:j.l.length=s.nH.l.length:=by rw[B,List.length_map]
 have aq:=hs.len
 have E:=M.ok (ow _) om
 obtain⟨ab,ad,C⟩:=E.shape
 refine WC.at rfl (WC.yY (enc:=mh) (J:=K) (w:=.slice ab j.l.length ad) j.l rfl U (by rw[<-C];kernel_rfl) ((L.mono y W).low om:mq mh 1 G _ _ _) (ow _) zg zI Ft z (by simp only[pE,zg]) (E.src C) rfl (ow _) (KE _) (by decide) (by rw[F];omega) om om om rfl ?_)
 rintro m an ap S al R N
 refine WD.kQ<|WN.nil ⟨?_,?_⟩
 ·
  exact iX.nil
 refine WC.at rfl (WC.val 2 (m.v) kf<|WD.last<|WN.nil ⟨?_,?_⟩)
 ·
  exact iX.nil
 refine WP.ret ⟨rfl,rfl,[m.v],U,?_⟩
 exact⟨m,rfl,(by rw[S,A,B];rfl),N.low om,od,((p.trans y).trans R)⟩
theorem mK(lo hi a:Int)(K:SV Int)(O:Ht)(G:Nat)(hK:gx encI 1 O G K)(h:K.l=[a]):WF ex 179 [Y lo,Y hi,K.v] O G (fG G O (ga (lo<=a/\a<=hi))):=
 (zJ lo hi K O G hK).mono fun v _ _ ⟨⟨c,h1,D⟩,k⟩=>⟨⟨c,h1,D.trans (by rw[h];simp)⟩,k⟩
theorem yA(lo hi a b:Int)(K:SV Int)(O:Ht)(G:Nat)(hK:gx encI 1 O G K)(h:K.l=[a,b]):WF ex 179 [Y lo,Y hi,K.v] O G (fG G O (ga ((lo<=a/\a<=hi)/\lo<=b/\b<=hi))):=
 (zJ lo hi K O G hK).mono fun v _ _ ⟨⟨c,h1,D⟩,k⟩=>⟨⟨c,h1,D.trans (by rw[h];simp)⟩,k⟩
theorem Fu{A:j6->Prop}(K:SV j6)(f:FuncId)(b:Array Value)(O:Ht)(G:Nat)(hK:ju iL 5 (fun O G y=>lQ O G y) O G K)(hf:∀(i:Nat) (x:j6),K.l[i]?=some x->∀(eZ:Ht) (e5:Nat),G<=e5->HE G O eZ->WF ex f ((.agg (iL x).toArray)::b.toList) eZ e5 (fG e5 eZ (ga (A x)))):WF ex 283 [K.v,.func (.func f) #[] b] O G (fG G O (pW K.l A)):=by
 have mC:=fF (e:=ex) 283 Tryz.f283 19 [.tmp 4]
 have nC:=@wB
 have pa:=@n9
 have sY:=@ze
 let pu:=iL
 exact Us
theorem C7{A:j6->Prop}(K:SV j6)(f:FuncId)(b:Array Value)(O:Ht)(G:Nat)(hK:ju iL 5 (fun O G y=>lQ O G y) O G K)(hf:∀(i:Nat) (x:j6),K.l[i]?=some x->∀(eZ:Ht) (e5:Nat),G<=e5->HE G O eZ->WF ex f ((.agg (iL x).toArray)::b.toList) eZ e5 (fG e5 eZ (ga (A x)))):WF ex 202 [K.v,.func (.func f) #[] b] O G (fG G O (ga (∃x∈K.l,A x))):=by
 have mC:=fF (e:=ex) 202 Tryz.f202 9 [.tmp 4]
 have nC:=@Fu
 exact MZ
theorem DO{p:Prop}(h:p:=by
 refine Gr mC fun hE=>sr<|oB (.agg (pu x).toArray) (pu x) fun jq iC hU=>?_
 have kW:=hE.trans iC
 refine oN 1<|sr<|oZ bb (0) (.func (.func f) #[] b) nC (iC.get hb jA) rfl<|WO.cons (WC.im G (0) (pu x) U pa sY hU rfl<|WO.cons (WC.call 6 f ((.agg (pu x).toArray)::b.toList) kf ((hf jq (G+1) om kW).mono ?_)))
 rintro _ Cq Ux ⟨⟨CY,rfl,By⟩,ZY,wR⟩
 refine oq 7 (nN By) fun sw vN=>oW 1 ⟨rfl,rfl,[.bool sw],U,?_⟩
 refine⟨⟨sw,rfl,?_⟩,od,(kW.trans wR)⟩
 exact vN):p:=h
theorem IQ{A:Prop}(x:j6)(f:FuncId)(b:Array Value)(bb:Nat)(O:Ht)(G:Nat)(hx:lQ O G x)(hb:O.get bb=some (.cells [.func (.func f) #[] b] gi.plain))(jA:bb<G)(hf:∀(eZ:Ht) (e5:Nat),G<=e5->HE G O eZ->WF ex f ((.agg (iL x).toArray)::b.toList) eZ e5 (fG e5 eZ (ga A))):WF ex 203 [.agg (iL x).toArray,pt bb 0] O G (fG G O (ga (¬A))):=by
 have mC:=fF (e:=ex) 203 Tryz.f203 8 [.tmp 3]
 have nC:=@UN
 have pa:=@ze
 have sY:=@n9
 let pu:=iL
 exact DO
theorem Yq{p:Prop}(h:p:=by
 obtain⟨a1,c2,hR⟩:=hK.1.shape
 have lU:=hK.1.2.2
 rw[hR]
 refine Gr mC fun hE=>sr<|oB (.func (.func f) #[] b) [.func (.func f) #[] b] fun zE pC uo=>?_
 have Am:=hE.trans pC nR
 have Ad:=e8 nR (e_ (G))
 refine oN 1<|sr<|oX 2<|WO.cons (WC.call 7 _ ([K.v,.func (.func _) #[] #[pt G 0]]) (fun _ _ _=>by(try rw[hR]);kernel_rfl) ((nC (A:=fun x=>¬A x) K _ #[pt G 0] zE (G+1) (hK.mono (fun _ h he hn=>h.mono he hn) Am Ad) (fun i x hx eZ e5 hn he=>pa (A:=A x) x f b G eZ e5 (((hK.mono (fun _ h he hn=>h.mono he hn) Am Ad).2 x (cs hx)).mono he hn) (he.get uo (fb (G))) (e4 (fb (G)) hn) (fun jq oT yb tX=>hf i x hx jq oT (e8 Ad (e8 hn yb)) ((Am.trans he Ad).trans tX (e8 Ad hn))))).mono ?_))
 rintro _ y9 vl ⟨⟨rO,rfl,uW⟩,JN,xz⟩
 have wS:=Am.trans xz Ad
 have QU:=e8 Ad JN
 refine oq 8 (nN uW) fun yr Fg=>oW 1 ⟨rfl,rfl,[.bool yr],U,?_⟩
 refine⟨⟨yr,rfl,?_⟩,QU,wS⟩
 exact Fg.trans Yp):p:=h
theorem C8(A:j6->Prop)(K:SV j6)(f:FuncId)(b:Array Value)(O:Ht)(G:Nat)(hK:ju iL 5 (fun O G y=>lQ O G y) O G K)(hf:∀(i:Nat) (x:j6),K.l[i]?=some x->∀(eZ:Ht) (e5:Nat),G<=e5->HE G O eZ->WF ex f ((.agg (iL x).toArray)::b.toList) eZ e5 (fG e5 eZ (ga (A x)))):WF ex 100 [K.v,.func (.func f) #[] b] O G (fG G O (ga (∀x∈K.l,A x))):=by
 have mC:=fF (e:=ex) 100 Tryz.f100 9 [.tmp 4]
 have nC:=@C7
 have pa:=@IQ
 exact Yq
theorem JO{A:RPart->Prop}(K:SV RPart)(f:FuncId)(b:Array Value)(O:Ht)(G:Nat)(hK:ju jJ 3 (fun O G y=>kN O G y) O G K)(hf:∀(i:Nat) (x:RPart),K.l[i]?=some x->∀(eZ:Ht) (e5:Nat),G<=e5->HE G O eZ->WF ex f ((.agg (jJ x).toArray)::b.toList) eZ e5 (fG e5 eZ (ga (A x)))):WF ex 349 [K.v,.func (.func f) #[] b] O G (fG G O (pW K.l A)):=by
 have mC:=fF (e:=ex) 349 Tryz.f349 19 [.tmp 4]
 have nC:=@zc
 have pa:=@rq
 have sY:=@DH
 let pu:=jJ
 exact Us
theorem F8{A:RPart->Prop}(K:SV RPart)(f:FuncId)(b:Array Value)(O:Ht)(G:Nat)(hK:ju jJ 3 (fun O G y=>kN O G y) O G K)(hf:∀(i:Nat) (x:RPart),K.l[i]?=some x->∀(eZ:Ht) (e5:Nat),G<=e5->HE G O eZ->WF ex f ((.agg (jJ x).toArray)::b.toList) eZ e5 (fG e5 eZ (ga (A x)))):WF ex 264 [K.v,.func (.func f) #[] b] O G (fG G O (ga (∃x∈K.l,A x))):=by
 have mC:=fF (e:=ex) 264 Tryz.f264 9 [.tmp 4]
 have nC:=@JO
 exact MZ
theorem OC{A:Prop}(x:RPart)(f:FuncId)(b:Array Value)(bb:Nat)(O:Ht)(G:Nat)(hx:kN O G x)(hb:O.get bb=some (.cells [.func (.func f) #[] b] gi.plain))(jA:bb<G)(hf:∀(eZ:Ht) (e5:Nat),G<=e5->HE G O eZ->WF ex f ((.agg (jJ x).toArray)::b.toList) eZ e5 (fG e5 eZ (ga A))):WF ex 265 [.agg (jJ x).toArray,pt bb 0] O G (fG G O (ga (¬A))):=by
 have mC:=fF (e:=ex) 265 Tryz.f265 8 [.tmp 3]
 have nC:=@Hs
 have pa:=@DH
 have sY:=@rq
 let pu:=jJ
 exact DO
theorem IR(A:RPart->Prop)(K:SV RPart)(f:FuncId)(b:Array Value)(O:Ht)(G:Nat)(hK:ju jJ 3 (fun O G y=>kN O G y) O G K)(hf:∀(i:Nat) (x:RPart),K.l[i]?=some x->∀(eZ:Ht) (e5:Nat),G<=e5->HE G O eZ->WF ex f ((.agg (jJ x).toArray)::b.toList) eZ e5 (fG e5 eZ (ga (A x)))):WF ex 180 [K.v,.func (.func f) #[] b] O G (fG G O (ga (∀x∈K.l,A x))):=by
 have mC:=fF (e:=ex) 180 Tryz.f180 9 [.tmp 4]
 have nC:=@F8
 have pa:=@OC
 exact Yq
theorem Hv{A:oP->Prop}(K:SV oP)(f:FuncId)(b:Array Value)(O:Ht)(G:Nat)(hK:gx lP 3 O G K)(hf:∀(i:Nat) (x:oP),K.l[i]?=some x->∀(eZ:Ht) (e5:Nat),G<=e5->HE G O eZ->WF ex f ((.agg (lP x).toArray)::b.toList) eZ e5 (fG e5 eZ (ga (A x)))):WF ex 350 [K.v,.func (.func f) #[] b] O G (fG G O (pW K.l A)):=by
 have mC:=fF (e:=ex) 350 Tryz.f350 19 [.tmp 4]
 have nC:=@UU
 have pa:=@KF
 have sY:=@Nu
 let pu:=lP
 exact Fe
theorem Ek{A:oP->Prop}(K:SV oP)(f:FuncId)(b:Array Value)(O:Ht)(G:Nat)(hK:gx lP 3 O G K)(hf:∀(i:Nat) (x:oP),K.l[i]?=some x->∀(eZ:Ht) (e5:Nat),G<=e5->HE G O eZ->WF ex f ((.agg (lP x).toArray)::b.toList) eZ e5 (fG e5 eZ (ga (A x)))):WF ex 266 [K.v,.func (.func f) #[] b] O G (fG G O (ga (∃x∈K.l,A x))):=by
 have mC:=fF (e:=ex) 266 Tryz.f266 9 [.tmp 4]
 have nC:=@Hv
 exact Fb
theorem Lf{A:Prop}(x:oP)(f:FuncId)(b:Array Value)(bb:Nat)(O:Ht)(G:Nat)(hb:O.get bb=some (.cells [.func (.func f) #[] b] gi.plain))(jA:bb<G)(hf:∀(eZ:Ht) (e5:Nat),G<=e5->HE G O eZ->WF ex f ((.agg (lP x).toArray)::b.toList) eZ e5 (fG e5 eZ (ga A))):WF ex 267 [.agg (lP x).toArray,pt bb 0] O G (fG G O (ga (¬A))):=by
 have mC:=fF (e:=ex) 267 Tryz.f267 8 [.tmp 3]
 have nC:=@Nv
 have pa:=@Nu
 have sY:=@KF
 let pu:=lP
 exact DO
theorem DP{p:Prop}(h:p:=by
 obtain⟨a1,c2,hR⟩:=hK.shape
 have lU:=hK.2.2
 rw[hR]
 refine Gr mC fun hE=>sr<|oB (.func (.func f) #[] b) [.func (.func f) #[] b] fun zE pC uo=>?_
 have Am:=hE.trans pC
 refine oN 1<|sr<|oX 2<|WO.cons (WC.call 7 _ ([K.v,.func (.func _) #[] #[pt G 0]]) (fun _ _ _=>by(try rw[hR]);kernel_rfl) ((nC (A:=fun x=>¬A x) K _ #[pt G 0] zE (G+1) (hK.mono Am) (fun i x hx eZ e5 hn he=>pa (A:=A x) x f b G eZ e5 (he.get uo) (e4 (fb (G)) hn) (fun jq oT yb tX=>hf i x hx jq oT (e8 om (e8 hn yb)) ((Am.trans he).trans tX (e8 om hn))))).mono ?_))
 rintro _ y9 vl ⟨⟨rO,rfl,uW⟩,JN,xz⟩
 refine oq 8 (nN uW) fun yr Fg=>oW 1 ⟨rfl,rfl,[.bool yr],U,?_⟩
 refine⟨⟨yr,rfl,?_⟩,od,(Am.trans xz)⟩
 exact Fg.trans Yp):p:=h
theorem Fv(A:oP->Prop)(K:SV oP)(f:FuncId)(b:Array Value)(O:Ht)(G:Nat)(hK:gx lP 3 O G K)(hf:∀(i:Nat) (x:oP),K.l[i]?=some x->∀(eZ:Ht) (e5:Nat),G<=e5->HE G O eZ->WF ex f ((.agg (lP x).toArray)::b.toList) eZ e5 (fG e5 eZ (ga (A x)))):WF ex 183 [K.v,.func (.func f) #[] b] O G (fG G O (ga (∀x∈K.l,A x))):=by
 have mC:=fF (e:=ex) 183 Tryz.f183 9 [.tmp 4]
 have nC:=@Ek
 have pa:=@Lf
 exact DP
theorem Lg{A:tN->Prop}(K:SV tN)(f:FuncId)(b:Array Value)(O:Ht)(G:Nat)(hK:gx o9 2 O G K)(hf:∀(i:Nat) (x:tN),K.l[i]?=some x->∀(eZ:Ht) (e5:Nat),G<=e5->HE G O eZ->WF ex f ((.agg (o9 x).toArray)::b.toList) eZ e5 (fG e5 eZ (ga (A x)))):WF ex 351 [K.v,.func (.func f) #[] b] O G (fG G O (pW K.l A)):=by
 have mC:=fF (e:=ex) 351 Tryz.f351 19 [.tmp 4]
 have nC:=@C6
 have pa:=@xO
 have sY:=@Hi
 let pu:=o9
 exact Fe
theorem Hw{A:tN->Prop}(K:SV tN)(f:FuncId)(b:Array Value)(O:Ht)(G:Nat)(hK:gx o9 2 O G K)(hf:∀(i:Nat) (x:tN),K.l[i]?=some x->∀(eZ:Ht) (e5:Nat),G<=e5->HE G O eZ->WF ex f ((.agg (o9 x).toArray)::b.toList) eZ e5 (fG e5 eZ (ga (A x)))):WF ex 268 [K.v,.func (.func f) #[] b] O G (fG G O (ga (∃x∈K.l,A x))):=by
 have mC:=fF (e:=ex) 268 Tryz.f268 9 [.tmp 4]
 have nC:=@Lg
 exact Fb
theorem QV{A:Prop}(x:tN)(f:FuncId)(b:Array Value)(bb:Nat)(O:Ht)(G:Nat)(hb:O.get bb=some (.cells [.func (.func f) #[] b] gi.plain))(jA:bb<G)(hf:∀(eZ:Ht) (e5:Nat),G<=e5->HE G O eZ->WF ex f ((.agg (o9 x).toArray)::b.toList) eZ e5 (fG e5 eZ (ga A))):WF ex 269 [.agg (o9 x).toArray,pt bb 0] O G (fG G O (ga (¬A))):=by
 have mC:=fF (e:=ex) 269 Tryz.f269 8 [.tmp 3]
 have nC:=@UR
 have pa:=@Hi
 have sY:=@xO
 let pu:=o9
 exact DO
theorem SJ(A:tN->Prop)(K:SV tN)(f:FuncId)(b:Array Value)(O:Ht)(G:Nat)(hK:gx o9 2 O G K)(hf:∀(i:Nat) (x:tN),K.l[i]?=some x->∀(eZ:Ht) (e5:Nat),G<=e5->HE G O eZ->WF ex f ((.agg (o9 x).toArray)::b.toList) eZ e5 (fG e5 eZ (ga (A x)))):WF ex 187 [K.v,.func (.func f) #[] b] O G (fG G O (ga (∀x∈K.l,A x))):=by
 have mC:=fF (e:=ex) 187 Tryz.f187 9 [.tmp 4]
 have nC:=@Hw
 have pa:=@QV
 exact DP
theorem Lh{A:s6->Prop}(K:SV s6)(f:FuncId)(b:Array Value)(O:Ht)(G:Nat)(hK:gx my 4 O G K)(hf:∀(i:Nat) (x:s6),K.l[i]?=some x->∀(eZ:Ht) (e5:Nat),G<=e5->HE G O eZ->WF ex f ((.agg (my x).toArray)::b.toList) eZ e5 (fG e5 eZ (ga (A x)))):WF ex 255 [K.v,.func (.func f) #[] b] O G (fG G O (pW K.l A)):=by
 have mC:=fF (e:=ex) 255 Tryz.f255 19 [.tmp 4]
 have nC:=@JM
 have pa:=@tE
 have sY:=@BB
 let pu:=my
 exact Fe
theorem Hx{A:s6->Prop}(K:SV s6)(f:FuncId)(b:Array Value)(O:Ht)(G:Nat)(hK:gx my 4 O G K)(hf:∀(i:Nat) (x:s6),K.l[i]?=some x->∀(eZ:Ht) (e5:Nat),G<=e5->HE G O eZ->WF ex f ((.agg (my x).toArray)::b.toList) eZ e5 (fG e5 eZ (ga (A x)))):WF ex 270 [K.v,.func (.func f) #[] b] O G (fG G O (ga (∃x∈K.l,A x))):=by
 have mC:=fF (e:=ex) 270 Tryz.f270 9 [.tmp 4]
 have nC:=@Lh
 exact Fb
theorem QW{A:Prop}(x:s6)(f:FuncId)(b:Array Value)(bb:Nat)(O:Ht)(G:Nat)(hb:O.get bb=some (.cells [.func (.func f) #[] b] gi.plain))(jA:bb<G)(hf:∀(eZ:Ht) (e5:Nat),G<=e5->HE G O eZ->WF ex f ((.agg (my x).toArray)::b.toList) eZ e5 (fG e5 eZ (ga A))):WF ex 271 [.agg (my x).toArray,pt bb 0] O G (fG G O (ga (¬A))):=by
 have mC:=fF (e:=ex) 271 Tryz.f271 8 [.tmp 3]
 have nC:=@UO
 have pa:=@BB
 have sY:=@tE
 let pu:=my
 exact DO
theorem SK(A:s6->Prop)(K:SV s6)(f:FuncId)(b:Array Value)(O:Ht)(G:Nat)(hK:gx my 4 O G K)(hf:∀(i:Nat) (x:s6),K.l[i]?=some x->∀(eZ:Ht) (e5:Nat),G<=e5->HE G O eZ->WF ex f ((.agg (my x).toArray)::b.toList) eZ e5 (fG e5 eZ (ga (A x)))):WF ex 189 [K.v,.func (.func f) #[] b] O G (fG G O (ga (∀x∈K.l,A x))):=by
 have mC:=fF (e:=ex) 189 Tryz.f189 9 [.tmp 4]
 have nC:=@Hx
 have pa:=@QW
 exact DP
theorem JP{A:qP->Prop}(K:SV qP)(f:FuncId)(b:Array Value)(O:Ht)(G:Nat)(hK:gx nG 2 O G K)(hf:∀(i:Nat) (x:qP),K.l[i]?=some x->∀(eZ:Ht) (e5:Nat),G<=e5->HE G O eZ->WF ex f ((.agg (nG x).toArray)::b.toList) eZ e5 (fG e5 eZ (ga (A x)))):WF ex 352 [K.v,.func (.func f) #[] b] O G (fG G O (pW K.l A)):=by
 have mC:=fF (e:=ex) 352 Tryz.f352 19 [.tmp 4]
 have nC:=@Pw
 have pa:=@Fq
 have sY:=@Hj
 let pu:=nG
 exact Fe
theorem F9{A:qP->Prop}(K:SV qP)(f:FuncId)(b:Array Value)(O:Ht)(G:Nat)(hK:gx nG 2 O G K)(hf:∀(i:Nat) (x:qP),K.l[i]?=some x->∀(eZ:Ht) (e5:Nat),G<=e5->HE G O eZ->WF ex f ((.agg (nG x).toArray)::b.toList) eZ e5 (fG e5 eZ (ga (A x)))):WF ex 272 [K.v,.func (.func f) #[] b] O G (fG G O (ga (∃x∈K.l,A x))):=by
 have mC:=fF (e:=ex) 272 Tryz.f272 9 [.tmp 4]
 have nC:=@JP
 exact Fb
theorem OD{A:Prop}(x:qP)(f:FuncId)(b:Array Value)(bb:Nat)(O:Ht)(G:Nat)(hb:O.get bb=some (.cells [.func (.func f) #[] b] gi.plain))(jA:bb<G)(hf:∀(eZ:Ht) (e5:Nat),G<=e5->HE G O eZ->WF ex f ((.agg (nG x).toArray)::b.toList) eZ e5 (fG e5 eZ (ga A))):WF ex 273 [.agg (nG x).toArray,pt bb 0] O G (fG G O (ga (¬A))):=by
 have mC:=fF (e:=ex) 273 Tryz.f273 8 [.tmp 3]
 have nC:=@US
 have pa:=@Hj
 have sY:=@Fq
 let pu:=nG
 exact DO
theorem QX(A:qP->Prop)(K:SV qP)(f:FuncId)(b:Array Value)(O:Ht)(G:Nat)(hK:gx nG 2 O G K)(hf:∀(i:Nat) (x:qP),K.l[i]?=some x->∀(eZ:Ht) (e5:Nat),G<=e5->HE G O eZ->WF ex f ((.agg (nG x).toArray)::b.toList) eZ e5 (fG e5 eZ (ga (A x)))):WF ex 192 [K.v,.func (.func f) #[] b] O G (fG G O (ga (∀x∈K.l,A x))):=by
 have mC:=fF (e:=ex) 192 Tryz.f192 9 [.tmp 4]
 have nC:=@F9
 have pa:=@OD
 exact DP
theorem F_{A:mM->Prop}(K:SV mM)(f:FuncId)(b:Array Value)(O:Ht)(G:Nat)(hK:gx kb 4 O G K)(hf:∀(i:Nat) (x:mM),K.l[i]?=some x->∀(eZ:Ht) (e5:Nat),G<=e5->HE G O eZ->WF ex f ((.agg (kb x).toArray)::b.toList) eZ e5 (fG e5 eZ (ga (A x)))):WF ex 353 [K.v,.func (.func f) #[] b] O G (fG G O (pW K.l A)):=by
 have mC:=fF (e:=ex) 353 Tryz.f353 19 [.tmp 4]
 have nC:=@Px
 have pa:=@xP
 have sY:=@DJ
 let pu:=kb
 exact Fe
theorem DQ{A:mM->Prop}(K:SV mM)(f:FuncId)(b:Array Value)(O:Ht)(G:Nat)(hK:gx kb 4 O G K)(hf:∀(i:Nat) (x:mM),K.l[i]?=some x->∀(eZ:Ht) (e5:Nat),G<=e5->HE G O eZ->WF ex f ((.agg (kb x).toArray)::b.toList) eZ e5 (fG e5 eZ (ga (A x)))):WF ex 274 [K.v,.func (.func f) #[] b] O G (fG G O (ga (∃x∈K.l,A x))):=by
 have mC:=fF (e:=ex) 274 Tryz.f274 9 [.tmp 4]
 have nC:=@F_
 exact Fb
theorem JQ{A:Prop}(x:mM)(f:FuncId)(b:Array Value)(bb:Nat)(O:Ht)(G:Nat)(hb:O.get bb=some (.cells [.func (.func f) #[] b] gi.plain))(jA:bb<G)(hf:∀(eZ:Ht) (e5:Nat),G<=e5->HE G O eZ->WF ex f ((.agg (kb x).toArray)::b.toList) eZ e5 (fG e5 eZ (ga A))):WF ex 275 [.agg (kb x).toArray,pt bb 0] O G (fG G O (ga (¬A))):=by
 have mC:=fF (e:=ex) 275 Tryz.f275 8 [.tmp 3]
 have nC:=@UP
 have pa:=@DJ
 have sY:=@xP
 let pu:=kb
 exact DO
theorem Li(A:mM->Prop)(K:SV mM)(f:FuncId)(b:Array Value)(O:Ht)(G:Nat)(hK:gx kb 4 O G K)(hf:∀(i:Nat) (x:mM),K.l[i]?=some x->∀(eZ:Ht) (e5:Nat),G<=e5->HE G O eZ->WF ex f ((.agg (kb x).toArray)::b.toList) eZ e5 (fG e5 eZ (ga (A x)))):WF ex 194 [K.v,.func (.func f) #[] b] O G (fG G O (ga (∀x∈K.l,A x))):=by
 have mC:=fF (e:=ex) 194 Tryz.f194 9 [.tmp 4]
 have nC:=@DQ
 have pa:=@JQ
 exact DP
theorem Fw{A:lR->Prop}(K:SV lR)(f:FuncId)(b:Array Value)(O:Ht)(G:Nat)(hK:gx jU 3 O G K)(hf:∀(i:Nat) (x:lR),K.l[i]?=some x->∀(eZ:Ht) (e5:Nat),G<=e5->HE G O eZ->WF ex f ((.agg (jU x).toArray)::b.toList) eZ e5 (fG e5 eZ (ga (A x)))):WF ex 354 [K.v,.func (.func f) #[] b] O G (fG G O (pW K.l A)):=by
 have mC:=fF (e:=ex) 354 Tryz.f354 19 [.tmp 4]
 have nC:=@Py
 have pa:=@xQ
 have sY:=@DK
 let pu:=jU
 exact Fe
theorem C9{A:lR->Prop}(K:SV lR)(f:FuncId)(b:Array Value)(O:Ht)(G:Nat)(hK:gx jU 3 O G K)(hf:∀(i:Nat) (x:lR),K.l[i]?=some x->∀(eZ:Ht) (e5:Nat),G<=e5->HE G O eZ->WF ex f ((.agg (jU x).toArray)::b.toList) eZ e5 (fG e5 eZ (ga (A x)))):WF ex 276 [K.v,.func (.func f) #[] b] O G (fG G O (ga (∃x∈K.l,A x))):=by
 have mC:=fF (e:=ex) 276 Tryz.f276 9 [.tmp 4]
 have nC:=@Fw
 exact Fb
theorem IS{A:Prop}(x:lR)(f:FuncId)(b:Array Value)(bb:Nat)(O:Ht)(G:Nat)(hb:O.get bb=some (.cells [.func (.func f) #[] b] gi.plain))(jA:bb<G)(hf:∀(eZ:Ht) (e5:Nat),G<=e5->HE G O eZ->WF ex f ((.agg (jU x).toArray)::b.toList) eZ e5 (fG e5 eZ (ga A))):WF ex 277 [.agg (jU x).toArray,pt bb 0] O G (fG G O (ga (¬A))):=by
 have mC:=fF (e:=ex) 277 Tryz.f277 8 [.tmp 3]
 have nC:=@UT
 have pa:=@DK
 have sY:=@xQ
 let pu:=jU
 exact DO
theorem JR(A:lR->Prop)(K:SV lR)(f:FuncId)(b:Array Value)(O:Ht)(G:Nat)(hK:gx jU 3 O G K)(hf:∀(i:Nat) (x:lR),K.l[i]?=some x->∀(eZ:Ht) (e5:Nat),G<=e5->HE G O eZ->WF ex f ((.agg (jU x).toArray)::b.toList) eZ e5 (fG e5 eZ (ga (A x)))):WF ex 195 [K.v,.func (.func f) #[] b] O G (fG G O (ga (∀x∈K.l,A x))):=by
 have mC:=fF (e:=ex) 195 Tryz.f195 9 [.tmp 4]
 have nC:=@C9
 have pa:=@IS
 exact DP
theorem IT{A:o_->Prop}(K:SV o_)(f:FuncId)(b:Array Value)(O:Ht)(G:Nat)(hK:gx ln 4 O G K)(hf:∀(i:Nat) (x:o_),K.l[i]?=some x->∀(eZ:Ht) (e5:Nat),G<=e5->HE G O eZ->WF ex f ((.agg (ln x).toArray)::b.toList) eZ e5 (fG e5 eZ (ga (A x)))):WF ex 355 [K.v,.func (.func f) #[] b] O G (fG G O (pW K.l A)):=by
 have mC:=fF (e:=ex) 355 Tryz.f355 19 [.tmp 4]
 have nC:=@Pz
 have pa:=@xR
 have sY:=@DN
 let pu:=ln
 exact Fe
theorem Fx{A:o_->Prop}(K:SV o_)(f:FuncId)(b:Array Value)(O:Ht)(G:Nat)(hK:gx ln 4 O G K)(hf:∀(i:Nat) (x:o_),K.l[i]?=some x->∀(eZ:Ht) (e5:Nat),G<=e5->HE G O eZ->WF ex f ((.agg (ln x).toArray)::b.toList) eZ e5 (fG e5 eZ (ga (A x)))):WF ex 278 [K.v,.func (.func f) #[] b] O G (fG G O (ga (∃x∈K.l,A x))):=by
 have mC:=fF (e:=ex) 278 Tryz.f278 9 [.tmp 4]
 have nC:=@IT
 exact Fb
theorem Nw{A:Prop}(x:o_)(f:FuncId)(b:Array Value)(bb:Nat)(O:Ht)(G:Nat)(hb:O.get bb=some (.cells [.func (.func f) #[] b] gi.plain))(jA:bb<G)(hf:∀(eZ:Ht) (e5:Nat),G<=e5->HE G O eZ->WF ex f ((.agg (ln x).toArray)::b.toList) eZ e5 (fG e5 eZ (ga A))):WF ex 279 [.agg (ln x).toArray,pt bb 0] O G (fG G O (ga (¬A))):=by
 have mC:=fF (e:=ex) 279 Tryz.f279 8 [.tmp 3]
 have nC:=@UQ
 have pa:=@DN
 have sY:=@xR
 let pu:=ln
 exact DO
theorem OE(A:o_->Prop)(K:SV o_)(f:FuncId)(b:Array Value)(O:Ht)(G:Nat)(hK:gx ln 4 O G K)(hf:∀(i:Nat) (x:o_),K.l[i]?=some x->∀(eZ:Ht) (e5:Nat),G<=e5->HE G O eZ->WF ex f ((.agg (ln x).toArray)::b.toList) eZ e5 (fG e5 eZ (ga (A x)))):WF ex 197 [K.v,.func (.func f) #[] b] O G (fG G O (ga (∀x∈K.l,A x))):=by
 have mC:=fF (e:=ex) 197 Tryz.f197 9 [.tmp 4]
 have nC:=@Fx
 have pa:=@Nw
 exact DP
end
end Sw
namespace Sw
noncomputable section
open Go Go.Proofs Go.RowKit
set_option maxRecDepth 100000
set_option maxHeartbeats 1600000
structure mc where
 lE:Int
 pR:Int
instance :Inhabited mc:=⟨⟨default,default⟩⟩
def pU(x:mc):List Value:=[Y x.lE,Y x.pR]
structure yB where
 ko:Int
 kc:Int
 oE:Int
instance :Inhabited yB:=⟨⟨default,default,default⟩⟩
def r5(x:yB):List Value:=[Y x.ko,Y x.kc,Y x.oE]
def sn:Nat->Int->RPart->Prop
 |0,_,_=>False
 |n+1,M,p=>(p.kj=0/\(0<=p.i_/\p.i_<=M)/\p.fT.l.length=0)\/(p.kj≠0/\(1<=p.kj/\p.kj<=64)/\p.i_=0/\0<p.fT.l.length/\∀q∈p.fT.l,sn n M q)
def JS(M:Int)(x:oP):Prop:=((0<=x.i_/\x.i_<=M)/\1<=x.Bp)/\0<=x.w7/\x.w7<=1099511627776
def BY(M:Int)(d:j6):Prop:=(((1<=d.u7/\d.u7<=3)/\-1<=d.jQ/\d.jQ<=M)/\∀q∈d.jI.l,(sn 17 M) q)/\∀x∈d.jp.l,(JS M) x
def Hy(M:Int)(x:s6):Prop:=(((0<=x.lE/\x.lE<=M)/\0<=x.pR/\x.pR<=M)/\(0<=x.y0/\x.y0<=68719476736)/\0<=x.y4/\x.y4<=68719476736)/\x.y0<=x.y4
def DR(x:mM):Prop:=(x.jV=true/\x.uJ=0/\x.kj=0)\/(¬x.jV=true/\x.kj≠0/\x.uJ=0/\1<=x.kj/\x.kj<=64)\/(¬x.jV=true/\x.kj=0/\0<=x.uJ/\x.uJ<=68719476736)
def yC(C:j4)(x:o_):Prop:=(((0<=x.ko/\x.ko<=(gn .i64 ((.ofNat (C.fu.l.length))-(1))))/\-1<=x.kc/\x.kc<=(gn .i64 ((.ofNat (C.iu.l.length))-(1))))/\1<=x.oE/\x.oE<=4000)/\1<=x.u9/\x.u9<=1125899906842624
def Nx(x:tN):Prop:=1<=x.je/\x.je<=3
def F1(x:qP):Prop:=0<=x.E9/\x.E9<=1099511627776
def JV(x:lR):Prop:=((0<=x.lE/\x.lE<=120)/\0<=x.pR/\x.pR<=120)/\x.lE<=x.pR
def BZ{α β:Type}(k:α->β)(l:List α):Prop:=(((lj (l.map k)).length:Nat):Int)=((l.length:Nat):Int)
def xS(x:s6):mc:=⟨x.lE,x.pR⟩
def yD(x:o_):yB:=⟨x.ko,x.kc,x.oE⟩
def Z1(C:j4):Prop:=((((((((∀x∈C.iv.l,(Nx) x)/\(∀x∈C.jR.l,(Hy (gn .i64 ((.ofNat (C.iv.l.length))-(1)))) x))/\BZ xS C.jR.l)/\(∀x∈C.fu.l,(BY (gn .i64 ((.ofNat (C.iv.l.length))-(1)))) x))/\(∀x∈C.kK.l,(F1) x))/\(∀x∈C.jt.l,(DR) x))/\(∀x∈C.iu.l,(JV) x))/\(∀x∈C.kV.l,(yC C) x))/\BZ yD C.kV.l
def Ct(C:j4):Prop:=((((Z1 C/\(0<=C.iO.sB/\C.iO.sB<=16)/\0<=C.iO.sC/\C.iO.sC<=16)/\(0<=C.iO.sD/\C.iO.sD<=4294967296)/\0<=C.iO.pS/\C.iO.pS<=4294967296)/\0<=C.iO.ug/\C.iO.ug<=100000)/\0<=C.Aa/\C.Aa<=1125899906842624)/\0<=C.su/\C.su<=1099511627776
theorem OF(x y:mc):ya ex.T 12 247 (.agg (pU x).toArray) (.agg (pU y).toArray)=(bif (kC x.lE y.lE)then(bif (kC x.pR y.pR)then(some true)else(some false))else(some false)):=by kernel_rfl
theorem OG(x y:mc):((kC x.lE y.lE)&&(kC x.pR y.pR))=true↔x=y:=by
 constructor
 · intro h;cases x;cases y;simp only[Bool.and_eq_true,lJ,beq_iff_eq,qZ]at h;obtain h:=h;simp_all
 · rintro rfl;simp only[Bool.and_eq_true,lJ,beq_iff_eq,qZ,and_self]
theorem OH(x y:mc):ya ex.T 12 247 (.agg (pU x).toArray) (.agg (pU y).toArray)=some ((kC x.lE y.lE)&&(kC x.pR y.pR)):=by
 rw[OF]
 (cases(kC x.lE y.lE))<;>(cases(kC x.pR y.pR))<;>rfl
theorem Ny(x y:yB):ya ex.T 12 386 (.agg (r5 x).toArray) (.agg (r5 y).toArray)=(bif (kC x.ko y.ko)then(bif (kC x.kc y.kc)then(bif (kC x.oE y.oE)then(some true)else(some false))else(some false))else(some false)):=by kernel_rfl
theorem Nz(x y:yB):((kC x.ko y.ko)&&(kC x.kc y.kc)&&(kC x.oE y.oE))=true↔x=y:=by
 constructor
 · intro h;cases x;cases y;simp only[Bool.and_eq_true,lJ,beq_iff_eq,qZ]at h;obtain h:=h;simp_all
 · rintro rfl;simp only[Bool.and_eq_true,lJ,beq_iff_eq,qZ,and_self]
theorem NA(x y:yB):ya ex.T 12 386 (.agg (r5 x).toArray) (.agg (r5 y).toArray)=some ((kC x.ko y.ko)&&(kC x.kc y.kc)&&(kC x.oE y.oE)):=by
 rw[Ny]
 (cases(kC x.ko y.ko))<;>(cases(kC x.kc y.kc))<;>(cases(kC x.oE y.oE))<;>rfl
theorem UX:ex.T.agg 247=some true:=U
theorem W2:ex.T.agg 31=some true:=U
theorem UY:ex.T.agg 386=some true:=U
theorem KH:ex.T.size 247=some 2:=U
theorem NB:ex.T.size 31=some 5:=U
theorem SL:ex.T.size 361=some 1:=U
theorem SM:ex.T.size 366=some 1:=U
theorem KI:ex.T.size 386=some 3:=U
theorem KJ:ex.T.zero 142=some (.agg ⟨[Y 0,Y 0,Y 0,Y 0]⟩):=U
theorem SN:ex.T.zero 247=some (.agg ⟨[Y 0,Y 0]⟩):=U
theorem UZ:ex.T.zero 31=some (.agg ⟨[Y 0,Y 0,Y 0,Y 0,Y 0]⟩):=U
theorem SO:ex.T.zero 361=some (.nilFunc):=U
theorem SP:ex.T.zero 366=some (.nilFunc):=U
theorem SQ:ex.T.zero 371=some (.agg ⟨[Y 0,Y 0,Y 0,Y 0]⟩):=U
theorem SR:ex.T.zero 386=some (.agg ⟨[Y 0,Y 0,Y 0]⟩):=U
theorem IU:ex.T.jh 245=some (.map 247 4):=U
theorem V7:ex.T.jh 459=some (.map 386 4):=U
theorem IV:MK ex.T 247 (fun x:mc=>.agg (pU x).toArray):=
 ⟨fun x=>by kernel_rfl,fun x y=>⟨_,(show rJ ex.T 247 (.agg (pU x).toArray) (.agg (pU y).toArray)=ya ex.T 12 247 (.agg (pU x).toArray) (.agg (pU y).toArray)from by kernel_rfl).trans (OH x y),OG x y⟩,fun x=>Cs [x.lE,x.pR]⟩
theorem Yr:MK ex.T 386 (fun x:yB=>.agg (r5 x).toArray):=
 ⟨fun x=>by kernel_rfl,fun x y=>⟨_,(show rJ ex.T 386 (.agg (r5 x).toArray) (.agg (r5 y).toArray)=ya ex.T 12 386 (.agg (r5 x).toArray) (.agg (r5 y).toArray)from by kernel_rfl).trans (NA x y),Nz x y⟩,fun x=>Cs [x.ko,x.kc,x.oE]⟩
theorem OI(M:Int)(b1:Nat)(x:oP)(O:Ht)(G:Nat)(h1:O.get b1=some (.cells [Y M] gi.plain))(aa:b1<G):WF ex 181 [.agg (lP x).toArray,pt b1 0] O G (fG G O (ga (JS M x))):=by
 refine wd Tryz.f181 20 [.tmp 3] fun hE=>sr<|oB (.agg (lP x).toArray) (lP x) fun jq iC hU=>?_
 refine oN 1<|sr<|oZ b1 (0) (Y M) ft (iC.get h1 aa) rfl<|oX 1<|oZ G 0 (Y x.i_) ft hU rfl<|oL [Y x.i_] fun Cq p C=>?_
 refine oD 8 (mK (0) (M) (x.i_) (⟨.slice (some ⟨(G+1),0,none⟩) 1 1,[x.i_]⟩:SV Int) Cq (G+1+1) (gx.m_ (enc:=encI) (by simp[encI]) C rfl (by decide) om (by simp):gx encI 1 Cq (G+1+1) (⟨.slice (some ⟨(G+1),0,none⟩) 1 1,[x.i_]⟩:SV Int)) rfl) fun e L K b S u=>?_
 have m:=((hE.trans iC).trans p).trans u
 have o:=u.get (p.get hU)
 refine oX 1<|gT 9 e (pt G (0+1))<|lu 9 e G (0+1) (Y x.Bp) ft o rfl ?_
 refine qu 9 e (pF 1 x.Bp) fun ac N=>?_
 refine mT 13 (nA L N) fun j B=>oX 1<|gT 14 j (pt G (0+2))<|lu 14 j G (0+2) (Y x.w7) ft o rfl ?_
 cases j with
 |true=>
  have ad:=(B).1 rfl
  refine WO.cons (WC.kT (x:=.bool true) (g:=fV (.tmp 14)) rfl U rfl (WC.buildSlice [Y x.w7] rfl U ?_))
  obtain⟨y,z,F,E⟩:=boxed K (b) [Y x.w7]
  rw[z];clear z
  refine WO.cons (WC.kT (x:=.bool true) (g:=fV (.tmp 14)) rfl U rfl (WC.call 18 179 ([Y 0,Y 1099511627776,(⟨.slice (some ⟨b,0,none⟩) 1 1,[x.w7]⟩:SV Int).v]) kf ((mK (0) (1099511627776) (x.w7) (⟨.slice (some ⟨b,0,none⟩) 1 1,[x.w7]⟩:SV Int) y (b+1) (gx.m_ (enc:=encI) (by simp[encI]) E rfl (by decide) om (by simp):gx encI 1 y (b+1) (⟨.slice (some ⟨b,0,none⟩) 1 1,[x.w7]⟩:SV Int)) rfl).mono ?_)))
  rintro _ X ab ⟨⟨A,rfl,R⟩,W,J⟩
  refine oW 2 ⟨rfl,rfl,[.bool A],U,?_⟩
  exact⟨⟨A,rfl,R.trans (by unfold JS;omega)⟩,od,((m.trans F).trans J)⟩
 |false=>
  have ae:¬(((0)<=(x.i_)/\(x.i_)<=(M))/\((1)<=(x.Bp))):=nf B
  refine oW 4 ⟨rfl,rfl,[.bool false],U,?_⟩
  exact⟨⟨false,rfl,fun h=>(by cases h),fun h=>(by unfold JS at h;omega)⟩,od,m⟩
theorem OJ(M:Int)(b1:Nat)(x:s6)(O:Ht)(G:Nat)(h1:O.get b1=some (.cells [Y M] gi.plain))(ab:b1<G):WF ex 184 [.agg (my x).toArray,pt b1 0] O G (fG G O (ga (Hy M x))):=by
 refine wd Tryz.f184 26 [.tmp 3] fun hE=>sr<|oB (.agg (my x).toArray) (my x) fun jq iC hU=>?_
 refine oN 1<|sr<|oZ b1 (0) (Y M) ft (iC.get h1 ab) rfl<|oX 1<|oZ G 0 (Y x.lE) ft hU rfl<|oX 1<|oZ G (0+1) (Y x.pR) ft hU rfl<|oL [Y x.lE,Y x.pR] fun Cq u J=>?_
 refine oD 10 (yA (0) (M) (x.lE) (x.pR) (⟨.slice (some ⟨(G+1),0,none⟩) 2 2,[x.lE,x.pR]⟩:SV Int) Cq (G+1+1) (gx.m_ (enc:=encI) (by simp[encI]) J rfl (by decide) om (by simp):gx encI 1 Cq (G+1+1) (⟨.slice (some ⟨(G+1),0,none⟩) 2 2,[x.lE,x.pR]⟩:SV Int)) rfl) fun e F L b W y=>?_
 have o:=((hE.trans iC).trans u).trans y
 have m:=y.get (u.get hU)
 refine oX 1<|gT 11 e (pt G (0+2))<|lu 11 e G (0+2) (Y x.y0) ft m rfl<|gT 11 e (pt G (0+3))<|lu 11 e G (0+3) (Y x.y4) ft m rfl ?_
 cases e with
 |true=>
  have ae:=(F).1 rfl
  refine WO.cons (WC.kT (x:=.bool true) (g:=fV (.tmp 11)) rfl U rfl (WC.buildSlice [Y x.y0,Y x.y4] rfl U ?_))
  obtain⟨B,C,z,K⟩:=boxed L (b) [Y x.y0,Y x.y4]
  rw[C];clear C
  refine WO.cons (WC.kT (x:=.bool true) (g:=fV (.tmp 11)) rfl U rfl (WC.call 17 179 ([Y 0,Y 68719476736,(⟨.slice (some ⟨b,0,none⟩) 2 2,[x.y0,x.y4]⟩:SV Int).v]) kf ((yA (0) (68719476736) (x.y0) (x.y4) (⟨.slice (some ⟨b,0,none⟩) 2 2,[x.y0,x.y4]⟩:SV Int) B (b+1) (gx.m_ (enc:=encI) (by simp[encI]) K rfl (by decide) om (by simp):gx encI 1 B (b+1) (⟨.slice (some ⟨b,0,none⟩) 2 2,[x.y0,x.y4]⟩:SV Int)) rfl).mono ?_)))
  rintro _ aa ac ⟨⟨j,rfl,N⟩,X,A⟩
  have p:=A.get (z.get m)
  refine oX 2<|gT 19 j (pt G (0+2))<|lu 19 j G (0+2) (Y x.y0) ft p rfl<|gT 19 j (pt G (0+3))<|lu 19 j G (0+3) (Y x.y4) ft p rfl ?_
  refine qu 19 j (pF x.y0 x.y4) fun ad R=>?_
  refine mT 25 (nA N R) fun E S=>oW 1 ⟨rfl,rfl,[.bool E],U,?_⟩
  exact⟨⟨E,rfl,S.trans (by unfold Hy;omega)⟩,od,((o.trans z).trans A)⟩
 |false=>
  have af:¬(((0)<=(x.lE)/\(x.lE)<=(M))/\(0)<=(x.pR)/\(x.pR)<=(M)):=nf F
  refine oW 11 ⟨rfl,rfl,[.bool false],U,?_⟩
  exact⟨⟨false,rfl,fun h=>(by cases h),fun h=>(by unfold Hy at h;omega)⟩,od,o⟩
theorem OK(x:tN)(O:Ht)(G:Nat):WF ex 188 [.agg (o9 x).toArray] O G (fG G O (ga (Nx x))):=by
 refine wd Tryz.f188 7 [.tmp 2] fun hE=>sr<|oB (.agg (o9 x).toArray) (o9 x) fun jq iC hU=>?_
 refine oN 1<|sr<|oX 1<|oZ G (0+1) (Y x.je) ft hU rfl<|oL [Y x.je] fun b jl e=>?_
 refine oD 6 (mK (1) (3) (x.je) (⟨.slice (some ⟨(G+1),0,none⟩) 1 1,[x.je]⟩:SV Int) b (G+1+1) (gx.m_ (enc:=encI) (by simp[encI]) e rfl (by decide) om (by simp):gx encI 1 b (G+1+1) (⟨.slice (some ⟨(G+1),0,none⟩) 1 1,[x.je]⟩:SV Int)) rfl) fun sw vN j m xq jx=>?_
 refine oW 1 ⟨rfl,rfl,[.bool sw],U,?_⟩
 exact⟨⟨sw,rfl,vN.trans (by unfold Nx;omega)⟩,od,(((hE.trans iC).trans jl).trans jx)⟩
theorem OL(x:qP)(O:Ht)(G:Nat):WF ex 193 [.agg (nG x).toArray] O G (fG G O (ga (F1 x))):=by
 refine wd Tryz.f193 7 [.tmp 2] fun hE=>sr<|oB (.agg (nG x).toArray) (nG x) fun jq iC hU=>?_
 refine oN 1<|sr<|oX 1<|oZ G (0+1) (Y x.E9) ft hU rfl<|oL [Y x.E9] fun b jl e=>?_
 refine oD 6 (mK (0) (1099511627776) (x.E9) (⟨.slice (some ⟨(G+1),0,none⟩) 1 1,[x.E9]⟩:SV Int) b (G+1+1) (gx.m_ (enc:=encI) (by simp[encI]) e rfl (by decide) om (by simp):gx encI 1 b (G+1+1) (⟨.slice (some ⟨(G+1),0,none⟩) 1 1,[x.E9]⟩:SV Int)) rfl) fun sw vN j m xq jx=>?_
 refine oW 1 ⟨rfl,rfl,[.bool sw],U,?_⟩
 exact⟨⟨sw,rfl,vN.trans (by unfold F1;omega)⟩,od,(((hE.trans iC).trans jl).trans jx)⟩
theorem NC(x:lR)(O:Ht)(G:Nat):WF ex 196 [.agg (jU x).toArray] O G (fG G O (ga (JV x))):=by
 refine wd Tryz.f196 16 [.tmp 2] fun hE=>sr<|oB (.agg (jU x).toArray) (jU x) fun jq iC hU=>?_
 refine oN 1<|sr<|oX 1<|oZ G (0+1) (Y x.lE) ft hU rfl<|oX 1<|oZ G (0+2) (Y x.pR) ft hU rfl<|oL [Y x.lE,Y x.pR] fun j jl m=>?_
 refine oD 8 (yA (0) (120) (x.lE) (x.pR) (⟨.slice (some ⟨(G+1),0,none⟩) 2 2,[x.lE,x.pR]⟩:SV Int) j (G+1+1) (gx.m_ (enc:=encI) (by simp[encI]) m rfl (by decide) om (by simp):gx encI 1 j (G+1+1) (⟨.slice (some ⟨(G+1),0,none⟩) 2 2,[x.lE,x.pR]⟩:SV Int)) rfl) fun sw vN u y xq jx=>?_
 have b:=jx.get (jl.get hU)
 refine oX 1<|gT 9 sw (pt G (0+1))<|lu 9 sw G (0+1) (Y x.lE) ft b rfl<|gT 9 sw (pt G (0+2))<|lu 9 sw G (0+2) (Y x.pR) ft b rfl ?_
 refine qu 9 sw (pF x.lE x.pR) fun z o=>?_
 refine mT 15 (nA vN o) fun e p=>oW 1 ⟨rfl,rfl,[.bool e],U,?_⟩
 exact⟨⟨e,rfl,p.trans (by unfold JV;omega)⟩,od,(((hE.trans iC).trans jl).trans jx)⟩
theorem OM(x:mM)(O:Ht)(G:Nat):WF ex 185 [.agg (kb x).toArray] O G (fG G O (ga (DR x))):=by
 refine wd Tryz.f185 31 [.tmp 2] fun hE=>sr<|oB (.agg (kb x).toArray) (kb x) fun jq iC hU=>?_
 have kW:=hE.trans iC
 refine oN 1<|WP.seq<|WP.block<|sr<|oX 1 ?_
 obtain⟨K,L,aa⟩:=@nb (x.jV) (x.jV=true) (by first|done|exact gf)
 refine oZ G (0+3) (.bool K) w8 hU (by rw[L];rfl)<|oN 1<|cq aa (fun b=>?_) (fun b=>?_)
 ·
  refine sr<|oX 1<|oZ G (0+1) (Y x.uJ) ft hU rfl ?_
  refine oq 8 (sN x.uJ 0) fun e C=>oX 1<|gT 9 e (pt G (0+2))<|lu 9 e G (0+2) (Y x.kj) ft hU rfl ?_
  refine qu 9 e (sN x.kj 0) fun nM rN=>?_
  refine mT 13 (nA C rN) fun nu rM=>oW 1 ⟨rfl,rfl,[.bool nu],U,?_⟩
  exact⟨⟨nu,rfl,rM.trans (by unfold DR;by_cases hb:x.jV=true<;>simp only[hb,true_and,false_and,not_true_eq_false,not_false_eq_true,or_false,false_or,Bool.false_eq_true]<;>first|exact absurd hb b|exact absurd b hb|omega)⟩,od,kW⟩
 ·
  refine sr<|oX 1<|oZ G (0+2) (Y x.kj) ft hU rfl ?_
  refine oq 17 (qG x.kj 0) fun CY By=>oN 1<|cq By (fun J=>?_) (fun J=>?_)
  ·
   refine sr<|oX 1<|oZ G (0+1) (Y x.uJ) ft hU rfl ?_
   refine oq 20 (sN x.uJ 0) fun j u=>oX 1<|gT 21 j (pt G (0+2))<|lu 21 j G (0+2) (Y x.kj) ft hU rfl ?_
   cases j with
   |true=>
    have ab:=(u).1 rfl
    refine WO.cons (WC.kT (x:=.bool true) (g:=fV (.tmp 21)) rfl U rfl (WC.buildSlice [Y x.kj] rfl U ?_))
    obtain⟨JD,m,z,y⟩:=boxed jq (G+1) [Y x.kj]
    rw[m];clear m
    refine WO.cons (WC.kT (x:=.bool true) (g:=fV (.tmp 21)) rfl U rfl (WC.call 25 179 ([Y 1,Y 64,(⟨.slice (some ⟨(G+1),0,none⟩) 1 1,[x.kj]⟩:SV Int).v]) kf ((mK (1) (64) (x.kj) (⟨.slice (some ⟨(G+1),0,none⟩) 1 1,[x.kj]⟩:SV Int) JD (G+1+1) (gx.m_ (enc:=encI) (by simp[encI]) y rfl (by decide) om (by simp):gx encI 1 JD (G+1+1) (⟨.slice (some ⟨(G+1),0,none⟩) 1 1,[x.kj]⟩:SV Int)) rfl).mono ?_)))
    rintro _ R W ⟨⟨o,rfl,E⟩,M,A⟩
    refine oW 2 ⟨rfl,rfl,[.bool o],U,?_⟩
    exact⟨⟨o,rfl,E.trans (by unfold DR;by_cases hb:x.jV=true<;>simp only[hb,true_and,false_and,not_true_eq_false,not_false_eq_true,or_false,false_or,Bool.false_eq_true]<;>first|exact absurd hb b|exact absurd b hb|omega)⟩,od,((kW.trans z).trans A)⟩
   |false=>
    have ac:¬((x.uJ)=(0)):=nf u
    refine oW 4 ⟨rfl,rfl,[.bool false],U,?_⟩
    exact⟨⟨false,rfl,fun h=>(by cases h),fun h=>(by unfold DR at h;by_cases hb:x.jV=true<;>simp only[hb,true_and,false_and,not_true_eq_false,not_false_eq_true,or_false,false_or]at h<;>first|exact absurd hb b|exact absurd b hb|omega)⟩,od,kW⟩
  ·
   refine WP.skip<|sr<|oX 1<|oZ G (0+1) (Y x.uJ) ft hU rfl<|oL [Y x.uJ] fun xv uM xw=>?_
   refine oD 30 (mK (0) (68719476736) (x.uJ) (⟨.slice (some ⟨(G+1),0,none⟩) 1 1,[x.uJ]⟩:SV Int) xv (G+1+1) (gx.m_ (enc:=encI) (by simp[encI]) xw rfl (by decide) om (by simp):gx encI 1 xv (G+1+1) (⟨.slice (some ⟨(G+1),0,none⟩) 1 1,[x.uJ]⟩:SV Int)) rfl) fun p F S X N B=>?_
   refine oW 1 ⟨rfl,rfl,[.bool p],U,?_⟩
   exact⟨⟨p,rfl,F.trans (by unfold DR;by_cases hb:x.jV=true<;>simp only[hb,true_and,false_and,not_true_eq_false,not_false_eq_true,or_false,false_or,Bool.false_eq_true]<;>first|exact absurd hb b|exact absurd b hb|omega)⟩,od,((kW.trans uM).trans B)⟩
theorem ON(C:j4)(z:Nat)(x:o_)(O:Ht)(G:Nat)(ae:oV O G C)(hb:O.get z=some (.cells (iM C) gi.plain))(jA:z<G):WF ex 186 [.agg (ln x).toArray,pt z 0] O G (fG G O (ga (yC C x))):=by
 refine wd Tryz.f186 34 [.tmp 3] fun hE=>sr<|oB (.agg (ln x).toArray) (ln x) fun jq iC hU=>?_
 have ai:=iC.get hb jA
 refine oN 1<|sr<|oX 1 ?_
 obtain⟨ax,ay,au⟩:=ae.fu.1.shape
 have aC:=ae.fu.1.2.2
 refine oZ z (0+3) (.slice ax (C.fu.l.length) ay) rP ai (by rw[<-au];rfl)<|oX 3<|oZ G 0 (Y x.ko) ft hU rfl<|oL [Y x.ko] fun X o am=>?_
 refine oD 11 (mK (0) (gn .i64 ((.ofNat (C.fu.l.length))-(1))) (x.ko) (⟨.slice (some ⟨(G+1),0,none⟩) 1 1,[x.ko]⟩:SV Int) X (G+1+1) (gx.m_ (enc:=encI) (by simp[encI]) am rfl (by decide) om (by simp):gx encI 1 X (G+1+1) (⟨.slice (some ⟨(G+1),0,none⟩) 1 1,[x.ko]⟩:SV Int)) rfl) fun m aj ap b aF p=>?_
 have F:=((hE.trans iC).trans o).trans p
 have L:=p.get (o.get hU)
 refine oX 1<|gT 12 m (pt z (0+6)) ?_
 obtain⟨a37,az,av⟩:=ae.iu.shape
 have aD:=ae.iu.2.2
 refine lu 12 m z (0+6) (.slice a37 (C.iu.l.length) az) C3 (p.get (o.get ai)) (by rw[<-av];rfl)<|gT 12 m (Y (.ofNat (C.iu.l.length)))<|gT 12 m (Y (gn .i64 ((.ofNat (C.iu.l.length))-(1))))<|gT 12 m (pt G (0+1))<|lu 12 m G (0+1) (Y x.kc) ft L rfl ?_
 cases m with
 |true=>
  have aM:=(aj).1 rfl
  refine WO.cons (WC.kT (x:=.bool true) (g:=fV (.tmp 12)) rfl U rfl (WC.buildSlice [Y x.kc] rfl U ?_))
  obtain⟨aa,ac,N,an⟩:=boxed ap (b) [Y x.kc]
  rw[ac];clear ac
  refine WO.cons (WC.kT (x:=.bool true) (g:=fV (.tmp 12)) rfl U rfl (WC.call 20 179 ([Y (-1),Y (gn .i64 ((.ofNat (C.iu.l.length))-(1))),(⟨.slice (some ⟨b,0,none⟩) 1 1,[x.kc]⟩:SV Int).v]) kf ((mK (-1) (gn .i64 ((.ofNat (C.iu.l.length))-(1))) (x.kc) (⟨.slice (some ⟨b,0,none⟩) 1 1,[x.kc]⟩:SV Int) aa (b+1) (gx.m_ (enc:=encI) (by simp[encI]) an rfl (by decide) om (by simp):gx encI 1 aa (b+1) (⟨.slice (some ⟨b,0,none⟩) 1 1,[x.kc]⟩:SV Int)) rfl).mono ?_)))
  rintro _ aq e ⟨⟨B,rfl,ak⟩,aG,R⟩
  have J:=(F.trans N).trans R
  have M:=R.get (N.get L)
  refine oX 2<|gT 22 B (pt G (0+2))<|lu 22 B G (0+2) (Y x.oE) ft M rfl ?_
  cases B with
  |true=>
   have aN:=(ak).1 rfl
   refine WO.cons (WC.kT (x:=.bool true) (g:=fV (.tmp 22)) rfl U rfl (WC.buildSlice [Y x.oE] rfl U ?_))
   obtain⟨ab,ad,S,ao⟩:=boxed aq (e) [Y x.oE]
   rw[ad];clear ad
   refine WO.cons (WC.kT (x:=.bool true) (g:=fV (.tmp 22)) rfl U rfl (WC.call 26 179 ([Y 1,Y 4000,(⟨.slice (some ⟨e,0,none⟩) 1 1,[x.oE]⟩:SV Int).v]) kf ((mK (1) (4000) (x.oE) (⟨.slice (some ⟨e,0,none⟩) 1 1,[x.oE]⟩:SV Int) ab (e+1) (gx.m_ (enc:=encI) (by simp[encI]) ao rfl (by decide) om (by simp):gx encI 1 ab (e+1) (⟨.slice (some ⟨e,0,none⟩) 1 1,[x.oE]⟩:SV Int)) rfl).mono ?_)))
   rintro _ ar j ⟨⟨E,rfl,al⟩,aH,W⟩
   have K:=(J.trans S).trans W
   refine oX 2<|gT 28 E (pt G (0+3))<|lu 28 E G (0+3) (Y x.u9) ft (W.get (S.get M)) rfl ?_
   cases E with
   |true=>
    have aI:=(al).1 rfl
    refine WO.cons (WC.kT (x:=.bool true) (g:=fV (.tmp 28)) rfl U rfl (WC.buildSlice [Y x.u9] rfl U ?_))
    obtain⟨u,y,ag,af⟩:=boxed ar (j) [Y x.u9]
    rw[y];clear y
    refine WO.cons (WC.kT (x:=.bool true) (g:=fV (.tmp 28)) rfl U rfl (WC.call 32 179 ([Y 1,Y 1125899906842624,(⟨.slice (some ⟨j,0,none⟩) 1 1,[x.u9]⟩:SV Int).v]) kf ((mK (1) (1125899906842624) (x.u9) (⟨.slice (some ⟨j,0,none⟩) 1 1,[x.u9]⟩:SV Int) u (j+1) (gx.m_ (enc:=encI) (by simp[encI]) af rfl (by decide) om (by simp):gx encI 1 u (j+1) (⟨.slice (some ⟨j,0,none⟩) 1 1,[x.u9]⟩:SV Int)) rfl).mono ?_)))
    rintro _ aB aE ⟨⟨A,rfl,aw⟩,aA,ah⟩
    refine oW 2 ⟨rfl,rfl,[.bool A],U,?_⟩
    exact⟨⟨A,rfl,aw.trans (by unfold yC;omega)⟩,od,((K.trans ag).trans ah)⟩
   |false=>
    have aJ:¬((1)<=(x.oE)/\(x.oE)<=(4000)):=nf al
    refine oW 4 ⟨rfl,rfl,[.bool false],U,?_⟩
    exact⟨⟨false,rfl,fun h=>(by cases h),fun h=>(by unfold yC at h;omega)⟩,od,K⟩
  |false=>
   have aK:¬((-1)<=(x.kc)/\(x.kc)<=(gn .i64 ((.ofNat (C.iu.l.length))-(1)))):=nf ak
   refine oW 10 ⟨rfl,rfl,[.bool false],U,?_⟩
   exact⟨⟨false,rfl,fun h=>(by cases h),fun h=>(by unfold yC at h;omega)⟩,od,J⟩
 |false=>
  have aL:¬((0)<=(x.ko)/\(x.ko)<=(gn .i64 ((.ofNat (C.fu.l.length))-(1)))):=nf aj
  refine oW 16 ⟨rfl,rfl,[.bool false],U,?_⟩
  exact⟨⟨false,rfl,fun h=>(by cases h),fun h=>(by unfold yC at h;omega)⟩,od,F⟩
theorem KK(n:Nat)(M:Int)(b1 b2:Nat)(p:RPart)(ih:∀x∈p.fT.l,∀(O:Ht) (G:Nat),kN O G x->O.get b1=some (.cells [Y M] gi.plain)->b1<G->O.get b2=some (.cells [.func (.func 178) #[] #[pt b1 0,pt b2 0]] gi.plain)->b2<G->WF ex 178 [.agg (jJ x).toArray,pt b1 0,pt b2 0] O G (fG G O (ga (sn n M x))))(O:Ht)(G:Nat)(j:kN O G p)(h1:O.get b1=some (.cells [Y M] gi.plain))(aM:b1<G)(D:O.get b2=some (.cells [.func (.func 178) #[] #[pt b1 0,pt b2 0]] gi.plain))(aN:b2<G):WF ex 178 [.agg (jJ p).toArray,pt b1 0,pt b2 0] O G (fG G O (ga (sn (n+1) M p))):=by
 refine wd Tryz.f178 40 [.tmp 4] fun hE=>sr<|oB (.agg (jJ p).toArray) (jJ p) fun jq iC hU=>?_
 have kW:=hE.trans iC nR
 have ak:=iC.get h1 aM
 have al:=e4 aM (e_ (G))
 have aL:=iC.get D aN
 have ab:=e4 aN (e_ (G))
 have o:=e8 nR (e_ (G))
 refine oN 1<|WP.seq<|sr<|oX 1<|oZ G (0+1) (Y p.kj) ft hU rfl ?_
 refine oq 7 (sN p.kj 0) fun nM rN=>WO.nil<|cq rN (fun y=>?_) (fun y=>?_)
 ·
  refine sr<|oZ b1 (0) (Y M) ft ak rfl<|oX 1<|oZ G 0 (Y p.i_) ft hU rfl<|oL [Y p.i_] fun R L ar=>?_
  have an:=kW.trans L o
  have au:=L.get hU (fb (G))
  have aH:=e4 (fb (G)) (e_ (G+1))
  have X:=e8 o (e_ (G+1))
  refine oD 12 (mK (0) (M) (p.i_) (⟨.slice (some ⟨(G+1),0,none⟩) 1 1,[p.i_]⟩:SV Int) R (G+1+1) (gx.m_ (enc:=encI) (by simp[encI]) ar rfl (by decide) om (by simp):gx encI 1 R (G+1+1) (⟨.slice (some ⟨(G+1),0,none⟩) 1 1,[p.i_]⟩:SV Int)) rfl) fun E aO aZ a8 aC N=>?_
  have ao:=an.trans N X
  have av:=N.get au aH
  have aF:=e8 X aC
  refine oX 1<|gT 13 E (pt G (0+2)) ?_
  obtain⟨aJ,aK,aE⟩:=j.fT.1.shape
  have aX:=j.fT.1.2.2
  refine lu 13 E G (0+2) (.slice aJ (p.fT.l.length) aK) pI av (by rw[<-aE];rfl)<|gT 13 E (Y (.ofNat (p.fT.l.length))) ?_
  refine qu 13 E (vK p.fT.l.length 0) fun bc aP=>?_
  refine mT 18 (nA aO aP) fun ah aQ=>oW 1 ⟨rfl,rfl,[.bool ah],U,?_⟩
  exact⟨⟨ah,rfl,aQ.trans ⟨fun h=>.inl ⟨y,h.1,om⟩,fun h=>by
   rcases h with⟨_,a,b⟩|⟨a,_⟩
   · exact⟨a,om⟩
   · exact absurd y a⟩⟩,aF,ao⟩
 ·
  refine WP.skip<|sr<|oX 1<|oZ G (0+1) (Y p.kj) ft hU rfl<|oL [Y p.kj] fun S oJ aw=>?_
  have ap:=kW.trans oJ o
  have ax:=oJ.get ak al
  have ac:=e4 al (e_ (G+1))
  have ay:=oJ.get aL ab
  have ad:=e4 ab (e_ (G+1))
  have az:=oJ.get hU (fb (G))
  have aI:=e4 (fb (G)) (e_ (G+1))
  have aa:=e8 o (e_ (G+1))
  refine oD 22 (mK (1) (64) (p.kj) (⟨.slice (some ⟨(G+1),0,none⟩) 1 1,[p.kj]⟩:SV Int) S (G+1+1) (gx.m_ (enc:=encI) (by simp[encI]) aw rfl (by decide) om (by simp):gx encI 1 S (G+1+1) (⟨.slice (some ⟨(G+1),0,none⟩) 1 1,[p.kj]⟩:SV Int)) rfl) fun J aR W ag B m=>?_
  have z:=ap.trans m aa
  have aA:=m.get ax ac
  have ae:=e4 ac B
  have K:=m.get ay ad
  have af:=e4 ad B
  have A:=m.get az aI
  have u:=e8 aa B
  refine oX 1<|gT 23 J (pt G 0)<|lu 23 J G 0 (Y p.i_) ft A rfl ?_
  refine qu 23 J (sN p.i_ 0) fun jG aS=>?_
  refine mT 27 (nA aR aS) fun F aT=>oX 1<|gT 28 F (pt G (0+2)) ?_
  obtain⟨a78,ai,C⟩:=j.fT.1.shape
  have aY:=j.fT.1.2.2
  refine lu 28 F G (0+2) (.slice a78 (p.fT.l.length) ai) pI A (by rw[<-C];rfl)<|gT 28 F (Y (.ofNat (p.fT.l.length))) ?_
  refine qu 28 F (nE 0 p.fT.l.length) fun bd aU=>?_
  refine mT 33 (nA aT aU) fun e am=>oX 1<|gT 34 e (pt G (0+2))<|lu 34 e G (0+2) (.slice a78 (p.fT.l.length) ai) pI A (by rw[<-C];rfl)<|lu 34 e b2 (0) (.func (.func 178) #[] #[pt b1 0,pt b2 0]) Hs K rfl<|WO.cons (WC.gq (e) (GB (e) (∀x∈p.fT.l,(sn n M) x) (ag) W) (.bool e) (g:=fV (.tmp 34)) rfl U (by cases e<;>rfl) (fun h=>by obtain rfl:e=true:=(by simpa using h);have bf:=(am).1 rfl;exact WC.call 38 180 ([p.fT.v,.func (.func 178) #[] #[pt b1 0,pt b2 0]]) (fun _ _ _=>by(try rw[C]);kernel_rfl) ((IR (sn n M) p.fT 178 #[pt b1 0,pt b2 0] W (ag) (j.fT.mono (fun _ h he hn=>h.mono he hn) z u) (fun i x hx eZ e5 hn he=>ih x (cs hx) eZ e5 (((j.fT.mono (fun _ h he hn=>h.mono he hn) z u).2 x (cs hx)).mono he hn) (he.get aA ae) (e4 ae hn) (he.get K af) (e4 af hn))).mono fun v eZ e5 ⟨⟨c,a7,hc⟩,hn,he⟩=>⟨_,_,_,rfl,⟨c,a7,hc⟩,hn,he⟩)) (fun h=>GB.off h) ?_)
  rintro _ a6 a_ ⟨⟨be,rfl,aV⟩,aD,aB⟩
  have aq:=z.trans aB u
  have aG:=e8 u aD
  refine mT 39 (nA am aV) fun aj aW=>oW 1 ⟨rfl,rfl,[.bool aj],U,?_⟩
  exact⟨⟨aj,rfl,aW.trans ⟨fun h=>.inr ⟨y,h.1.1.1,h.1.1.2,by have:=h.1.2;omega,h.2⟩,fun h=>by
   rcases h with⟨a,_⟩|⟨_,a,b,c,d⟩
   · exact absurd a y
   · exact⟨⟨⟨a,b⟩,om⟩,d⟩⟩⟩,aG,aq⟩
theorem W3(n:Nat)(M:Int)(b1 b2:Nat)(p:RPart)(hH:tY n p.fT.l)(O:Ht)(G:Nat)(j:kN O G p)(h1:O.get b1=some (.cells [Y M] gi.plain))(m:b1<G)(D:O.get b2=some (.cells [.func (.func 178) #[] #[pt b1 0,pt b2 0]] gi.plain))(o:b2<G):WF ex 178 [.agg (jJ p).toArray,pt b1 0,pt b2 0] O G (fG G O (ga (sn (n+1) M p))):=by
 induction n generalizing p O G with
 |zero=>
  have h0:p.fT.l=[]:=hH
  exact KK 0 M b1 b2 p (fun x hx=>by rw[h0]at hx;cases hx) O G j h1 m D o
 |succ n ih=>exact KK (n+1) M b1 b2 p (fun x hx O G a b c d e=>ih x (hH x hx) O G a b c d e) O G j h1 m D o
theorem OO(M:Int)(b1 b2 aH:Nat)(d:j6)(hH:tY 17 d.jI.l)(O:Ht)(G:Nat)(hd:lQ O G d)(h1:O.get b1=some (.cells [Y M] gi.plain))(bx:b1<G)(D:O.get b2=some (.cells [.func (.func 178) #[] #[pt b1 0,pt b2 0]] gi.plain))(bz:b2<G)(h3:O.get aH=some (.cells [.func (.func 181) #[] #[pt b1 0]] gi.plain))(bA:aH<G):WF ex 182 [.agg (iL d).toArray,pt b1 0,pt b2 0,pt aH 0] O G (fG G O (ga (BY M d))):=by
 refine wd Tryz.f182 29 [.tmp 5] fun hE=>sr<|oB (.agg (iL d).toArray) (iL d) fun jq iC hU=>?_
 have kW:=hE.trans iC nR
 have bt:=iC.get h1 bx
 have aM:=e4 bx (e_ (G))
 have bu:=iC.get D bz
 have am:=e4 bz (e_ (G))
 have aT:=iC.get h3 bA
 have an:=e4 bA (e_ (G))
 have aj:=e8 nR (e_ (G))
 refine oN 1<|sr<|oX 1<|oZ G (0+2) (Y d.u7) ft hU rfl<|oL [Y d.u7] fun ae m aU=>?_
 have aR:=kW.trans m aj
 have aV:=m.get bt aM
 have ao:=e4 aM (e_ (G+1))
 have aW:=m.get bu am
 have ap:=e4 am (e_ (G+1))
 have aX:=m.get aT an
 have aq:=e4 an (e_ (G+1))
 have aY:=m.get hU (fb (G))
 have ar:=e4 (fb (G)) (e_ (G+1))
 have ak:=e8 aj (e_ (G+1))
 refine oD 9 (mK (1) (3) (d.u7) (⟨.slice (some ⟨(G+1),0,none⟩) 1 1,[d.u7]⟩:SV Int) ae (G+1+1) (gx.m_ (enc:=encI) (by simp[encI]) aU rfl (by decide) om (by simp):gx encI 1 ae (G+1+1) (⟨.slice (some ⟨(G+1),0,none⟩) 1 1,[d.u7]⟩:SV Int)) rfl) fun K aN bj b y o=>?_
 have R:=aR.trans o ak
 have W:=o.get aV ao
 have au:=e4 ao y
 have aZ:=o.get aW ap
 have av:=e4 ap y
 have a6:=o.get aX aq
 have aw:=e4 aq y
 have X:=o.get aY ar
 have ax:=e4 ar y
 have J:=e8 ak y
 refine oX 1<|lu 10 K b1 (0) (Y M) ft W rfl<|gT 10 K (pt G (0+4))<|lu 10 K G (0+4) (Y d.jQ) ft X rfl ?_
 cases K with
 |true=>
  have bC:=(aN).1 rfl
  refine WO.cons (WC.kT (x:=.bool true) (g:=fV (.tmp 10)) rfl U rfl (WC.buildSlice [Y d.jQ] rfl U ?_))
  obtain⟨pH,ai,p,a7⟩:=boxed bj (b) [Y d.jQ]
  rw[ai];clear ai
  have aS:=R.trans p J
  have a8:=p.get W au
  have ay:=e4 au (e_ (b))
  have a_:=p.get aZ av
  have az:=e4 av (e_ (b))
  have bc:=p.get a6 aw
  have aA:=e4 aw (e_ (b))
  have bd:=p.get X ax
  have aB:=e4 ax (e_ (b))
  have al:=e8 J (e_ (b))
  refine WO.cons (WC.kT (x:=.bool true) (g:=fV (.tmp 10)) rfl U rfl (WC.call 15 179 ([Y (-1),Y M,(⟨.slice (some ⟨b,0,none⟩) 1 1,[d.jQ]⟩:SV Int).v]) kf ((mK (-1) (M) (d.jQ) (⟨.slice (some ⟨b,0,none⟩) 1 1,[d.jQ]⟩:SV Int) pH (b+1) (gx.m_ (enc:=encI) (by simp[encI]) a7 rfl (by decide) om (by simp):gx encI 1 pH (b+1) (⟨.slice (some ⟨b,0,none⟩) 1 1,[d.jQ]⟩:SV Int)) rfl).mono ?_)))
  rintro _ af aE ⟨⟨j,rfl,aO⟩,z,u⟩
  have F:=aS.trans u al
  have aa:=u.get a8 ay
  have E:=e4 ay z
  have ab:=u.get a_ az
  have aC:=e4 az z
  have be:=u.get bc aA
  have bl:=e4 aA z
  have ac:=u.get bd aB
  have bn:=e4 aB z
  have C:=e8 al z
  refine oX 2<|gT 17 j (pt G (0+1)) ?_
  obtain⟨br,bs,ah⟩:=hd.jI.1.shape
  have bE:=hd.jI.1.2.2
  refine lu 17 j G (0+1) (.slice br (d.jI.l.length) bs) pI ac (by rw[<-ah];rfl)<|lu 17 j b2 (0) (.func (.func 178) #[] #[pt b1 0,pt b2 0]) Hs ab rfl<|WO.cons (WC.gq (j) (GB (j) (∀x∈d.jI.l,(sn 17 M) x) (aE) af) (.bool j) (g:=fV (.tmp 17)) rfl U (by cases j<;>rfl) (fun h=>by obtain rfl:j=true:=(by simpa using h);have bI:=(aO).1 rfl;exact WC.call 21 180 ([d.jI.v,.func (.func 178) #[] #[pt b1 0,pt b2 0]]) (fun _ _ _=>by(try rw[ah]);kernel_rfl) ((IR (sn 17 M) d.jI 178 #[pt b1 0,pt b2 0] af (aE) (hd.jI.mono (fun _ h he hn=>h.mono he hn) F C) (fun i x hx eZ e5 hn he=>W3 16 M b1 b2 x (hH x (cs hx)) eZ e5 (((hd.jI.mono (fun _ h he hn=>h.mono he hn) F C).2 x (cs hx)).mono he hn) (he.get aa E) (e4 E hn) (he.get ab aC) (e4 aC hn))).mono fun v eZ e5 ⟨⟨c,bk,hc⟩,hn,he⟩=>⟨_,_,_,rfl,⟨c,bk,hc⟩,hn,he⟩)) (fun h=>GB.off h) ?_)
  rintro _ ag aF ⟨⟨bJ,rfl,bB⟩,ad,A⟩
  have S:=F.trans A C
  have bf:=A.get aa E
  have aD:=e4 E ad
  have bg:=A.get be bl
  have bh:=A.get ac bn
  have B:=e8 C ad
  refine mT 22 (nA aO bB) fun e aG=>oX 1<|gT 23 e (pt G (0+3)) ?_
  obtain⟨aP,aQ,L⟩:=hd.jp.shape
  have bw:=hd.jp.2.2
  refine lu 23 e G (0+3) (.slice aP (d.jp.l.length) aQ) y_ bh (by rw[<-L];rfl)<|lu 23 e aH (0) (.func (.func 181) #[] #[pt b1 0]) Nv bg rfl<|WO.cons (WC.gq (e) (GB (e) (∀x∈d.jp.l,(JS M) x) (aF) ag) (.bool e) (g:=fV (.tmp 23)) rfl U (by cases e<;>rfl) (fun h=>by obtain rfl:e=true:=(by simpa using h);have bI:=(aG).1 rfl;exact WC.call 27 183 ([d.jp.v,.func (.func 181) #[] #[pt b1 0]]) (fun _ _ _=>by(try rw[L]);kernel_rfl) ((Fv (JS M) d.jp 181 #[pt b1 0] ag (aF) (hd.jp.mono S B) (fun i x hx eZ e5 hn he=>OI M b1 x eZ e5 (he.get bf aD) (e4 aD hn))).mono fun v eZ e5 ⟨⟨c,bk,hc⟩,hn,he⟩=>⟨_,_,_,rfl,⟨c,bk,hc⟩,hn,he⟩)) (fun h=>GB.off h) ?_)
  rintro _ bD bG ⟨⟨bH,rfl,bo⟩,aK,aJ⟩
  have aI:=S.trans aJ B
  have aL:=e8 B aK
  refine mT 28 (nA aG bo) fun N bp=>oW 1 ⟨rfl,rfl,[.bool N],U,?_⟩
  exact⟨⟨N,rfl,bp.trans ⟨fun h=>⟨⟨⟨bC,h.1.1⟩,h.1.2⟩,h.2⟩,fun h=>⟨⟨h.1.1.2,h.1.2⟩,h.2⟩⟩⟩,aL,aI⟩
 |false=>
  have bq:¬((1)<=(d.u7)/\(d.u7)<=(3)):=nf aN
  refine oW 16 ⟨rfl,rfl,[.bool false],U,?_⟩
  exact⟨⟨false,rfl,fun h=>(by cases h),fun h=>absurd h.1.1.1 bq⟩,J,R⟩
theorem QY(N:s6->mc)(K:SV s6)(f:FuncId)(b:Array Value)(O:Ht)(G:Nat)(hK:gx my 4 O G K)(hf:∀(i:Nat) (x:s6),K.l[i]?=some x->∀(eZ:Ht) (e5:Nat),G<=e5->HE G O eZ->WF ex f ((.agg (my x).toArray)::b.toList) eZ e5 (fG e5 eZ (fun v=>v=.agg (pU (N x)).toArray))):WF ex 190 [K.v,.func (.func f) #[] b] O G (fG G O (ga (BZ N K.l))):=by
 obtain⟨a1,c2,hR⟩:=hK.shape
 have lU:=hK.2.2
 rw[hR]
 refine wd Tryz.f190 25 [.tmp 4] fun hE=>sr<|oN 1<|sr<|WO.cons (WC.makeMap rfl ?_)
 obtain⟨zE,zH,pC,uo⟩:=mapped O (G) (.map [] 0)
 rw[zH];clear zH
 refine oN 1<|WP.seq<|sr<|oN 3<|WP.block ?_
 refine mg [0,1,5,9,10,11] (fun m hs ns vs=>∃(gY:Nat) (sR:List MapEntry) (vR:Nat),gY+m=K.l.length/\vs=[.slice a1 (K.l.length) c2,.func (.func f) #[] b,.map (some G),.slice a1 (K.l.length) c2,Y (.ofNat (K.l.length)),Y (.ofNat gY)]/\G+1<=ns/\HE G O hs/\hs.get G=some (.map sR vR)/\(kM (fun x:mc=>.agg (pU x).toArray) (lj ((K.l.take gY).map N)) (fun _=>.bool true) sR)) ?_ (K.l.length) ?_
 ·
  rintro Fc DL sS _ ⟨gY,sR,vR,IN,rfl,xq,jx,zf,vS⟩ BU
  refine sr ?_
  obtain⟨ux,y,ul⟩:=kL gY K.l.length
  refine ob 12 y<|WO.nil<|WP.seq<|cq ul (fun yq=>?_) (fun yq=>?_)
  ·
   refine WP.skip<|WP.seq<|WP.block<|sr ?_
   have rQ:gY<K.l.length:=by omega
   refine WO.cons (WC.iy hR hK (gY) JM tE (rQ) ?_)
   obtain⟨lr,pw⟩:=gE rQ
   refine WO.cons (WC.ly hR (hK.mono jx nR) pw BB tE<|oA [Y 0,Y 0,Y 0,Y 0] KJ fun vO sO uL=>?_)
   refine oS sS (0) (.agg (my lr).toArray) (my lr) (my lr) tE rfl rfl uL fun xv uM xw BA=>?_
   have vT:=(jx.trans sO).trans uM
   refine WO.nil<|WP.region<|oX 2<|WO.cons (WC.im sS (0) (my lr) U BB tE xw rfl<|WO.cons (WC.call 18 f ((.agg (my lr).toArray)::b.toList) kf ((hf gY lr pw xv (sS+1) om vT).mono ?_)))
   rintro _ pH oK ⟨rfl,Cp,oJ⟩
   refine WO.cons (WC.mapUpdate (g:=(fun _=>.bool true)) (g':=(fun _=>.bool true)) G (N lr) (.bool true) rfl U U U IV IU (oJ.get ((BA G om).trans (sO.get zf))) vS (qR _) rfl (fun _ _=>rfl) ?_)
   rintro j u C sT p B o
   refine WO.nil<|WP.region<|ov 19 (Y (.ofNat (gY+1))) ?_ (fun _ _ _=>by rw[<-gM (show gY+1<9223372036854775808 by omega)];kernel_rfl)
   refine oN 1<|⟨K.l.length-(gY+1),om,rfl,rfl,gY+1,j,u,om,U,?_,?_,?_,?_⟩
   · exact od
   · exact((vT.trans oJ).trans sT)
   · exact p
   · rw[uN pw];exact o
  ·
   refine WP.exit<|sr<|oX 1<|WO.cons (WC.me (v:=Y (.ofNat (lj ((K.l.take gY).map N)).length)) 21 (GP ex.T DL.get 245 (.map (some G))) kf (Nk (O:=DL.get) IU zf vS)<|oX 2 ?_)
   obtain⟨e,z,A⟩:=XZ ((lj ((K.l.take gY).map N)).length) K.l.length
   refine ob 24 z<|oW 1 ⟨rfl,rfl,[.bool e],U,?_⟩
   have hT:K.l.take gY=K.l:=fy om
   exact⟨⟨e,rfl,A.trans (by rw[hT];exact gf)⟩,od,jx⟩
 ·
  exact⟨0,([]:List MapEntry),0,om,U,e9 _,(hE.trans pC),uo,(show kM _ (lj ((K.l.take 0).map N)) _ _ from kM.nil)⟩
theorem OP(x:s6)(O:Ht)(G:Nat):WF ex 191 [.agg (my x).toArray] O G (fG G O (fun v=>v=.agg (pU (xS x)).toArray)):=by
 refine wd Tryz.f191 8 [.cell 2 247] fun hE=>sr<|oB (.agg (my x).toArray) (my x) fun jq iC hU=>?_
 refine oA [Y 0,Y 0] SN fun y e j=>?_
 have b:=e.get hU
 refine WO.nil<|sr<|oX 1<|oZ G 0 (Y x.lE) ft b rfl<|oX 1<|oZ G (0+1) (Y x.pR) ft b rfl<|oX 1<|oS (G+1) (0) (.agg ⟨[Y x.lE,Y x.pR]⟩) [Y x.lE,Y x.pR] [Y x.lE,Y x.pR] KH rfl rfl j fun u o m p=>?_
 refine wr ⟨rfl,rfl,[.agg ⟨[Y x.lE,Y x.pR]⟩],(sL (by rw[show(fV (.tmp 2)).run _=pt (G+1) 0 from by kernel_rfl];exact jO UX KH m rfl)),?_⟩
 exact⟨rfl,od,(((hE.trans iC).trans e).trans o)⟩
theorem ND(N:o_->yB)(K:SV o_)(f:FuncId)(b:Array Value)(O:Ht)(G:Nat)(hK:gx ln 4 O G K)(hf:∀(i:Nat) (x:o_),K.l[i]?=some x->∀(eZ:Ht) (e5:Nat),G<=e5->HE G O eZ->WF ex f ((.agg (ln x).toArray)::b.toList) eZ e5 (fG e5 eZ (fun v=>v=.agg (r5 (N x)).toArray))):WF ex 198 [K.v,.func (.func f) #[] b] O G (fG G O (ga (BZ N K.l))):=by
 obtain⟨a1,c2,hR⟩:=hK.shape
 have lU:=hK.2.2
 rw[hR]
 refine wd Tryz.f198 25 [.tmp 4] fun hE=>sr<|oN 1<|sr<|WO.cons (WC.makeMap rfl ?_)
 obtain⟨zE,zH,pC,uo⟩:=mapped O (G) (.map [] 0)
 rw[zH];clear zH
 refine oN 1<|WP.seq<|sr<|oN 3<|WP.block ?_
 refine mg [0,1,5,9,10,11] (fun m hs ns vs=>∃(gY:Nat) (sR:List MapEntry) (vR:Nat),gY+m=K.l.length/\vs=[.slice a1 (K.l.length) c2,.func (.func f) #[] b,.map (some G),.slice a1 (K.l.length) c2,Y (.ofNat (K.l.length)),Y (.ofNat gY)]/\G+1<=ns/\HE G O hs/\hs.get G=some (.map sR vR)/\(kM (fun x:yB=>.agg (r5 x).toArray) (lj ((K.l.take gY).map N)) (fun _=>.bool true) sR)) ?_ (K.l.length) ?_
 ·
  rintro Fc DL sS _ ⟨gY,sR,vR,IN,rfl,xq,jx,zf,vS⟩ BU
  refine sr ?_
  refine oq 12 (kL gY K.l.length) fun ux ul=>WO.nil<|WP.seq<|cq ul (fun yq=>?_) (fun yq=>?_)
  ·
   refine WP.skip<|WP.seq<|WP.block<|sr ?_
   have rQ:gY<K.l.length:=by omega
   refine WO.cons (WC.iy hR hK (gY) Pz xR (rQ) ?_)
   obtain⟨lr,pw⟩:=gE rQ
   refine WO.cons (WC.ly hR (hK.mono jx nR) pw DN xR<|oA [Y 0,Y 0,Y 0,Y 0] SQ fun vO sO uL=>?_)
   refine oS sS (0) (.agg (ln lr).toArray) (ln lr) (ln lr) xR rfl rfl uL fun xv uM xw BA=>?_
   have vT:=(jx.trans sO).trans uM
   refine WO.nil<|WP.region<|oX 2<|WO.cons (WC.im sS (0) (ln lr) U DN xR xw rfl<|WO.cons (WC.call 18 f ((.agg (ln lr).toArray)::b.toList) kf ((hf gY lr pw xv (sS+1) om vT).mono ?_)))
   rintro _ pH oK ⟨rfl,Cp,oJ⟩
   refine WO.cons (WC.mapUpdate (g:=(fun _=>.bool true)) (g':=(fun _=>.bool true)) G (N lr) (.bool true) rfl U U U Yr V7 (oJ.get ((BA G om).trans (sO.get zf))) vS (qR _) rfl (fun _ _=>rfl) ?_)
   rintro j u A sT p z o
   refine WO.nil<|WP.region<|ov 19 (Y (.ofNat (gY+1))) ?_ (fun _ _ _=>by rw[<-gM (show gY+1<9223372036854775808 by omega)];kernel_rfl)
   refine oN 1<|⟨K.l.length-(gY+1),om,rfl,rfl,gY+1,j,u,om,U,?_,?_,?_,?_⟩
   · exact od
   · exact((vT.trans oJ).trans sT)
   · exact p
   · rw[uN pw];exact o
  ·
   refine WP.exit<|sr<|oX 1<|WO.cons (WC.me (v:=Y (.ofNat (lj ((K.l.take gY).map N)).length)) 21 (GP ex.T DL.get 459 (.map (some G))) kf (Nk (O:=DL.get) V7 zf vS)<|oX 2 ?_)
   refine oq 24 (XZ ((lj ((K.l.take gY).map N)).length) K.l.length) fun e y=>oW 1 ⟨rfl,rfl,[.bool e],U,?_⟩
   have hT:K.l.take gY=K.l:=fy om
   exact⟨⟨e,rfl,y.trans (by rw[hT];exact gf)⟩,od,jx⟩
 ·
  exact⟨0,([]:List MapEntry),0,om,U,e9 _,(hE.trans pC),uo,(show kM _ (lj ((K.l.take 0).map N)) _ _ from kM.nil)⟩
theorem NE(x:o_)(O:Ht)(G:Nat):WF ex 199 [.agg (ln x).toArray] O G (fG G O (fun v=>v=.agg (r5 (yD x)).toArray)):=by
 refine wd Tryz.f199 10 [.cell 2 386] fun hE=>sr<|oB (.agg (ln x).toArray) (ln x) fun jq iC hU=>?_
 refine oA [Y 0,Y 0,Y 0] SR fun y e j=>?_
 have b:=e.get hU
 refine WO.nil<|sr<|oX 1<|oZ G 0 (Y x.ko) ft b rfl<|oX 1<|oZ G (0+1) (Y x.kc) ft b rfl<|oX 1<|oZ G (0+2) (Y x.oE) ft b rfl<|oX 1<|oS (G+1) (0) (.agg ⟨[Y x.ko,Y x.kc,Y x.oE]⟩) [Y x.ko,Y x.kc,Y x.oE] [Y x.ko,Y x.kc,Y x.oE] KI rfl rfl j fun u o m p=>?_
 refine wr ⟨rfl,rfl,[.agg ⟨[Y x.ko,Y x.kc,Y x.oE]⟩],(sL (by rw[show(fV (.tmp 2)).run _=pt (G+1) 0 from by kernel_rfl];exact jO UY KI m rfl)),?_⟩
 exact⟨rfl,od,(((hE.trans iC).trans e).trans o)⟩
theorem QZ(C:j4)(nCz:∀d∈C.fu.l,tY 17 d.jI.l)(O:Ht)(G:Nat)(b:oV O G C):WF ex 98 [.agg (iM C).toArray] O G (fG G O (ga (Ct C))):=by
 refine wd Tryz.f98 103 [.tmp 2] fun hE=>sr<|oB (.agg (iM C).toArray) (iM C) fun jq iC hU=>?_
 have kW:=hE.trans iC nR
 have eC:=e8 nR (e_ (G))
 refine oN 1<|sr<|oX 1 ?_
 obtain⟨a8,c9,aY⟩:=b.iv.shape
 have nC4:=b.iv.2.2
 refine oZ G (0+1) (.slice a8 (C.iv.l.length) c9) wA hU (by rw[<-aY];rfl)<|oX 2<|oA [Y 0] AV fun nDd xz eR=>?_
 have wS:=kW.trans xz eC
 have eU:=xz.get hU (fb (G))
 have c6:=e4 (fb (G)) (e_ (G+1))
 have QU:=e8 eC (e_ (G+1))
 refine oS (G+1) (0) (Y (gn .i64 ((.ofNat (C.iv.l.length))-(1)))) [Y (gn .i64 ((.ofNat (C.iv.l.length))-(1)))] [Y (gn .i64 ((.ofNat (C.iv.l.length))-(1)))] kp rfl rfl eR fun nDe uk eV nCA=>?_
 have eL:=wS.trans uk om
 have eW:=(nCA G om).trans eU
 refine WO.nil<|sr<|oA [.nilFunc] SO fun nDf aW eX=>?_
 have eM:=eL.trans aW QU
 have eY:=aW.get eW c6
 have c7:=e4 c6 (e_ (G+1+1))
 have nCd:=aW.get eV (fb (G+1))
 have c8:=e4 (fb (G+1)) (e_ (G+1+1))
 have c3:=e8 QU (e_ (G+1+1))
 refine WO.nil<|sr<|oX 1<|oS (G+1+1) (0) (.func (.func 178) #[] #[pt (G+1) 0,pt (G+1+1) 0]) [.func (.func 178) #[] #[pt (G+1) 0,pt (G+1+1) 0]] [.func (.func 178) #[] #[pt (G+1) 0,pt (G+1+1) 0]] SL rfl rfl eX fun nDg nCx nCe cZ=>?_
 have eN:=eM.trans nCx om
 have nCf:=(cZ G om).trans eY
 have nCg:=(cZ (G+1) om).trans nCd
 refine WO.nil<|sr<|oX 1<|oA [.nilFunc] SP fun pH az nCh=>?_
 have eO:=eN.trans az c3
 have nCi:=az.get nCf c7
 have c_:=e4 c7 (e_ (G+1+1+1))
 have nCj:=az.get nCg c8
 have da:=e4 c8 (e_ (G+1+1+1))
 have nCk:=az.get nCe (fb (G+1+1))
 have db:=e4 (fb (G+1+1)) (e_ (G+1+1+1))
 have c5:=e8 c3 (e_ (G+1+1+1))
 refine oS (G+1+1+1) (0) (.func (.func 181) #[] #[pt (G+1) 0]) [.func (.func 181) #[] #[pt (G+1) 0]] [.func (.func 181) #[] #[pt (G+1) 0]] SM rfl rfl nCh fun nDh sT nCl aX=>?_
 have eP:=eO.trans sT om
 have cW:=(aX G om).trans nCi
 have nCm:=(aX (G+1) om).trans nCj
 have nCn:=(aX (G+1+1) om).trans nCk
 refine WO.nil<|sr<|oN 2<|sr<|oN 2<|sr<|oN 1<|sr<|oN 2<|sr<|oX 1<|WO.cons (WC.im G (0+9) (zz C.iO) U W2 NB cW rfl<|oA [Y 0,Y 0,Y 0,Y 0,Y 0] UZ fun nDi ah nCo=>?_)
 have eQ:=eP.trans ah c5
 have nCp:=ah.get cW c_
 have dc:=e4 c_ (e_ (G+1+1+1+1))
 have nCq:=ah.get nCm da
 have dd:=e4 da (e_ (G+1+1+1+1))
 have nCr:=ah.get nCn db
 have de:=e4 db (e_ (G+1+1+1+1))
 have nCs:=ah.get nCl (fb (G+1+1+1))
 have df:=e4 (fb (G+1+1+1)) (e_ (G+1+1+1+1))
 have aZ:=e8 c5 (e_ (G+1+1+1+1))
 refine oS (G+1+1+1+1) (0) (.agg (zz C.iO).toArray) (zz C.iO) (zz C.iO) NB rfl rfl nCo fun nCB nCy nCt aH=>?_
 have cU:=eQ.trans nCy om
 have cX:=(aH G om).trans nCp
 have nCu:=(aH (G+1) om).trans nCq
 have nCv:=(aH (G+1+1) om).trans nCr
 have nCw:=(aH (G+1+1+1) om).trans nCs
 refine WO.nil<|sr<|oX 1<|oZ G (0+1) (.slice a8 (C.iv.l.length) c9) wA cX (by rw[<-aY];rfl)<|WO.cons (WC.call 24 187 ([C.iv.v,.func (.func 188) #[] #[]]) (fun _ _ _=>by(try rw[aY]);kernel_rfl) ((SJ (Nx) C.iv 188 #[] nCB (G+1+1+1+1+1) (b.iv.mono cU aZ) (fun i x hx eZ e5 hn he=>OK x eZ e5)).mono ?_))
 rintro _ c0 dg ⟨⟨W,rfl,eD⟩,S,R⟩
 have cV:=cU.trans R aZ
 have cY:=R.get cX dc
 have b5:=e4 dc S
 have bl:=R.get nCu dd
 have ad:=e4 dd S
 have dC:=R.get nCv de
 have b6:=e4 de S
 have dD:=R.get nCw df
 have b7:=e4 df S
 have dE:=R.get nCt (fb (G+1+1+1+1))
 have b8:=e4 (fb (G+1+1+1+1)) S
 have aI:=e8 aZ S
 refine oX 1<|gT 25 W (pt G (0+2)) ?_
 obtain⟨cQ,cR,X⟩:=b.jR.shape
 have nCX:=b.jR.2.2
 refine lu 25 W G (0+2) (.slice cQ (C.jR.l.length) cR) C2 cY (by rw[<-X];rfl)<|gT 25 W (.func (.func 184) #[] #[pt (G+1) 0])<|WO.cons (WC.gq (W) (GB (W) (∀x∈C.jR.l,(Hy (gn .i64 ((.ofNat (C.iv.l.length))-(1)))) x) (dg) c0) (.bool W) (g:=fV (.tmp 25)) rfl U (by cases W<;>rfl) (fun h=>by obtain rfl:W=true:=(by simpa using h);have a6:=(eD).1 rfl;exact WC.call 29 189 ([C.jR.v,.func (.func 184) #[] #[pt (G+1) 0]]) (fun _ _ _=>by(try rw[X]);kernel_rfl) ((SK (Hy (gn .i64 ((.ofNat (C.iv.l.length))-(1)))) C.jR 184 #[pt (G+1) 0] c0 (dg) (b.jR.mono cV aI) (fun i x hx eZ e5 hn he=>OJ (gn .i64 ((.ofNat (C.iv.l.length))-(1))) (G+1) x eZ e5 (he.get bl ad) (e4 ad hn))).mono fun v eZ e5 ⟨⟨c,N,hc⟩,hn,he⟩=>⟨_,_,_,rfl,⟨c,N,hc⟩,hn,he⟩)) (fun h=>GB.off h) ?_)
 rintro _ bC cJ ⟨⟨nC6,rfl,nCC⟩,E,A⟩
 have a7:=cV.trans A aI
 have bn:=A.get cY b5
 have b9:=e4 b5 E
 have dF:=A.get bl ad
 have b_:=e4 ad E
 have dG:=A.get dC b6
 have ca:=e4 b6 E
 have dH:=A.get dD b7
 have cb:=e4 b7 E
 have dI:=A.get dE b8
 have cc:=e4 b8 E
 have aJ:=e8 aI E
 refine mT 30 (nA eD nCC) fun J dh=>oX 1<|gT 31 J (pt G (0+2))<|lu 31 J G (0+2) (.slice cQ (C.jR.l.length) cR) C2 bn (by rw[<-X];rfl)<|WO.cons (WC.gq (J) (GB (J) (BZ xS C.jR.l) (cJ) bC) (.bool J) (g:=fV (.tmp 31)) rfl U (by cases J<;>rfl) (fun h=>by obtain rfl:J=true:=(by simpa using h);have a6:=(dh).1 rfl;exact WC.call 34 190 ([C.jR.v,.func (.func 191) #[] #[]]) (fun _ _ _=>by(try rw[X]);kernel_rfl) ((QY xS C.jR 191 #[] bC (cJ) (b.jR.mono a7 aJ) (fun i x hx eZ e5 hn he=>OP x eZ e5)).mono fun v eZ e5 ⟨⟨c,N,hc⟩,hn,he⟩=>⟨_,_,_,rfl,⟨c,N,hc⟩,hn,he⟩)) (fun h=>GB.off h) ?_)
 rintro _ bD cK ⟨⟨nC7,rfl,nCD⟩,F,B⟩
 have ai:=a7.trans B aJ
 have bo:=B.get bn b9
 have cd:=e4 b9 F
 have dJ:=B.get dF b_
 have ce:=e4 b_ F
 have dK:=B.get dG ca
 have cf:=e4 ca F
 have dL:=B.get dH cb
 have cj:=e4 cb F
 have dM:=B.get dI cc
 have ck:=e4 cc F
 have ab:=e8 aJ F
 refine mT 35 (nA dh nCD) fun u di=>oX 1<|gT 36 u (pt G (0+3)) ?_
 obtain⟨eE,eH,bP⟩:=b.fu.1.shape
 have nCY:=b.fu.1.2.2
 refine lu 36 u G (0+3) (.slice eE (C.fu.l.length) eH) rP bo (by rw[<-bP];rfl)<|gT 36 u (.func (.func 182) #[] #[pt (G+1) 0,pt (G+1+1) 0,pt (G+1+1+1) 0])<|WO.cons (WC.gq (u) (GB (u) (∀x∈C.fu.l,(BY (gn .i64 ((.ofNat (C.iv.l.length))-(1)))) x) (cK) bD) (.bool u) (g:=fV (.tmp 36)) rfl U (by cases u<;>rfl) (fun h=>by obtain rfl:u=true:=(by simpa using h);have a6:=(di).1 rfl;exact WC.call 40 100 ([C.fu.v,.func (.func 182) #[] #[pt (G+1) 0,pt (G+1+1) 0,pt (G+1+1+1) 0]]) (fun _ _ _=>by(try rw[bP]);kernel_rfl) ((C8 (BY (gn .i64 ((.ofNat (C.iv.l.length))-(1)))) C.fu 182 #[pt (G+1) 0,pt (G+1+1) 0,pt (G+1+1+1) 0] bD (cK) (b.fu.mono (fun _ h he hn=>h.mono he hn) ai ab) (fun i x hx eZ e5 hn he=>OO (gn .i64 ((.ofNat (C.iv.l.length))-(1))) (G+1) (G+1+1) (G+1+1+1) x (nCz x (cs hx)) eZ e5 (((b.fu.mono (fun _ h he hn=>h.mono he hn) ai ab).2 x (cs hx)).mono he hn) (he.get dJ ce) (e4 ce hn) (he.get dK cf) (e4 cf hn) (he.get dL cj) (e4 cj hn))).mono fun v eZ e5 ⟨⟨c,N,hc⟩,hn,he⟩=>⟨_,_,_,rfl,⟨c,N,hc⟩,hn,he⟩)) (fun h=>GB.off h) ?_)
 rintro _ bE cL ⟨⟨nC8,rfl,nCE⟩,aA,an⟩
 have a_:=ai.trans an ab
 have bp:=an.get bo cd
 have cm:=e4 cd aA
 have dN:=an.get dM ck
 have cn:=e4 ck aA
 have aK:=e8 ab aA
 refine mT 41 (nA di nCE) fun K dj=>oX 1<|gT 42 K (pt G (0+4)) ?_
 obtain⟨eF,eI,bQ⟩:=b.kK.shape
 have nCZ:=b.kK.2.2
 refine lu 42 K G (0+4) (.slice eF (C.kK.l.length) eI) FY bp (by rw[<-bQ];rfl)<|WO.cons (WC.gq (K) (GB (K) (∀x∈C.kK.l,(F1) x) (cL) bE) (.bool K) (g:=fV (.tmp 42)) rfl U (by cases K<;>rfl) (fun h=>by obtain rfl:K=true:=(by simpa using h);have a6:=(dj).1 rfl;exact WC.call 45 192 ([C.kK.v,.func (.func 193) #[] #[]]) (fun _ _ _=>by(try rw[bQ]);kernel_rfl) ((QX (F1) C.kK 193 #[] bE (cL) (b.kK.mono a_ aK) (fun i x hx eZ e5 hn he=>OL x eZ e5)).mono fun v eZ e5 ⟨⟨c,N,hc⟩,hn,he⟩=>⟨_,_,_,rfl,⟨c,N,hc⟩,hn,he⟩)) (fun h=>GB.off h) ?_)
 rintro _ bG cM ⟨⟨nC9,rfl,nCF⟩,aB,ao⟩
 have bc:=a_.trans ao aK
 have bq:=ao.get bp cm
 have cp:=e4 cm aB
 have dO:=ao.get dN cn
 have cr:=e4 cn aB
 have aL:=e8 aK aB
 refine mT 46 (nA dj nCF) fun y dl=>oX 1<|gT 47 y (pt G (0+5)) ?_
 obtain⟨eG,eJ,bR⟩:=b.jt.shape
 have nC0:=b.jt.2.2
 refine lu 47 y G (0+5) (.slice eG (C.jt.l.length) eJ) FZ bq (by rw[<-bR];rfl)<|gT 47 y (.func (.func 185) #[] #[])<|WO.cons (WC.gq (y) (GB (y) (∀x∈C.jt.l,(DR) x) (cM) bG) (.bool y) (g:=fV (.tmp 47)) rfl U (by cases y<;>rfl) (fun h=>by obtain rfl:y=true:=(by simpa using h);have a6:=(dl).1 rfl;exact WC.call 51 194 ([C.jt.v,.func (.func 185) #[] #[]]) (fun _ _ _=>by(try rw[bR]);kernel_rfl) ((Li (DR) C.jt 185 #[] bG (cM) (b.jt.mono bc aL) (fun i x hx eZ e5 hn he=>OM x eZ e5)).mono fun v eZ e5 ⟨⟨c,N,hc⟩,hn,he⟩=>⟨_,_,_,rfl,⟨c,N,hc⟩,hn,he⟩)) (fun h=>GB.off h) ?_)
 rintro _ bH cN ⟨⟨nC_,rfl,nCG⟩,aC,ap⟩
 have bd:=bc.trans ap aL
 have br:=ap.get bq cp
 have ct:=e4 cp aC
 have dP:=ap.get dO cr
 have cu:=e4 cr aC
 have aM:=e8 aL aC
 refine mT 52 (nA dl nCG) fun L dm=>oX 1<|gT 53 L (pt G (0+6)) ?_
 obtain⟨a212,eK,bS⟩:=b.iu.shape
 have nC1:=b.iu.2.2
 refine lu 53 L G (0+6) (.slice a212 (C.iu.l.length) eK) C3 br (by rw[<-bS];rfl)<|WO.cons (WC.gq (L) (GB (L) (∀x∈C.iu.l,(JV) x) (cN) bH) (.bool L) (g:=fV (.tmp 53)) rfl U (by cases L<;>rfl) (fun h=>by obtain rfl:L=true:=(by simpa using h);have a6:=(dm).1 rfl;exact WC.call 56 195 ([C.iu.v,.func (.func 196) #[] #[]]) (fun _ _ _=>by(try rw[bS]);kernel_rfl) ((JR (JV) C.iu 196 #[] bH (cN) (b.iu.mono bd aM) (fun i x hx eZ e5 hn he=>NC x eZ e5)).mono fun v eZ e5 ⟨⟨c,N,hc⟩,hn,he⟩=>⟨_,_,_,rfl,⟨c,N,hc⟩,hn,he⟩)) (fun h=>GB.off h) ?_)
 rintro _ bI cO ⟨⟨nDa,rfl,nCH⟩,aD,aq⟩
 have aj:=bd.trans aq aM
 have ak:=aq.get br ct
 have ae:=e4 ct aD
 have dQ:=aq.get dP cu
 have cw:=e4 cu aD
 have ac:=e8 aM aD
 refine mT 57 (nA dm nCH) fun z dn=>oX 1<|gT 58 z (pt G (0+7)) ?_
 obtain⟨a233,cS,aa⟩:=b.kV.shape
 have nC2:=b.kV.2.2
 refine lu 58 z G (0+7) (.slice a233 (C.kV.l.length) cS) F0 ak (by rw[<-aa];rfl)<|gT 58 z (.func (.func 186) #[] #[pt G 0])<|WO.cons (WC.gq (z) (GB (z) (∀x∈C.kV.l,(yC C) x) (cO) bI) (.bool z) (g:=fV (.tmp 58)) rfl U (by cases z<;>rfl) (fun h=>by obtain rfl:z=true:=(by simpa using h);have a6:=(dn).1 rfl;exact WC.call 62 197 ([C.kV.v,.func (.func 186) #[] #[pt G 0]]) (fun _ _ _=>by(try rw[aa]);kernel_rfl) ((OE (yC C) C.kV 186 #[pt G 0] bI (cO) (b.kV.mono aj ac) (fun i x hx eZ e5 hn he=>ON C G x eZ e5 ((b.mono aj ac).mono he hn) (he.get ak ae) (e4 ae hn))).mono fun v eZ e5 ⟨⟨c,N,hc⟩,hn,he⟩=>⟨_,_,_,rfl,⟨c,N,hc⟩,hn,he⟩)) (fun h=>GB.off h) ?_)
 rintro _ bJ cP ⟨⟨nDb,rfl,nCI⟩,aE,ar⟩
 have be:=aj.trans ar ac
 have bs:=ar.get ak ae
 have cx:=e4 ae aE
 have dR:=ar.get dQ cw
 have cy:=e4 cw aE
 have aN:=e8 ac aE
 refine mT 63 (nA dn nCI) fun M dp=>oX 1<|gT 64 M (pt G (0+7))<|lu 64 M G (0+7) (.slice a233 (C.kV.l.length) cS) F0 bs (by rw[<-aa];rfl)<|WO.cons (WC.gq (M) (GB (M) (BZ yD C.kV.l) (cP) bJ) (.bool M) (g:=fV (.tmp 64)) rfl U (by cases M<;>rfl) (fun h=>by obtain rfl:M=true:=(by simpa using h);have a6:=(dp).1 rfl;exact WC.call 67 198 ([C.kV.v,.func (.func 199) #[] #[]]) (fun _ _ _=>by(try rw[aa]);kernel_rfl) ((ND yD C.kV 199 #[] bJ (cP) (b.kV.mono be aN) (fun i x hx eZ e5 hn he=>NE x eZ e5)).mono fun v eZ e5 ⟨⟨c,N,hc⟩,hn,he⟩=>⟨_,_,_,rfl,⟨c,N,hc⟩,hn,he⟩)) (fun h=>GB.off h) ?_)
 rintro _ ep e ⟨⟨nDc,rfl,nCJ⟩,aF,au⟩
 have bf:=be.trans au aN
 have dS:=au.get bs cx
 have cz:=e4 cx aF
 have al:=au.get dR cy
 have cA:=e4 cy aF
 have aO:=e8 aN aF
 refine mT 68 (nA dp nCJ) fun af dq=>oX 1<|gT 69 af (pt (G+1+1+1+1) 0)<|lu 69 af (G+1+1+1+1) 0 (Y C.iO.sB) ft al rfl<|gT 69 af (pt (G+1+1+1+1) (0+1))<|lu 69 af (G+1+1+1+1) (0+1) (Y C.iO.sC) ft al rfl ?_
 cases af with
 |true=>
  have nCL:=(dq).1 rfl
  refine WO.cons (WC.kT (x:=.bool true) (g:=fV (.tmp 69)) rfl U rfl (WC.buildSlice [Y C.iO.sB,Y C.iO.sC] rfl U ?_))
  obtain⟨bK,bT,av,dT⟩:=boxed ep (e) [Y C.iO.sB,Y C.iO.sC]
  rw[bT];clear bT
  have dw:=bf.trans av aO
  have dU:=av.get dS cz
  have cB:=e4 cz (e_ (e))
  have dV:=av.get al cA
  have cC:=e4 cA (e_ (e))
  have bY:=e8 aO (e_ (e))
  refine WO.cons (WC.kT (x:=.bool true) (g:=fV (.tmp 69)) rfl U rfl (WC.call 75 179 ([Y 0,Y 16,(⟨.slice (some ⟨e,0,none⟩) 2 2,[C.iO.sB,C.iO.sC]⟩:SV Int).v]) kf ((yA (0) (16) (C.iO.sB) (C.iO.sC) (⟨.slice (some ⟨e,0,none⟩) 2 2,[C.iO.sB,C.iO.sC]⟩:SV Int) bK (e+1) (gx.m_ (enc:=encI) (by simp[encI]) dT rfl (by decide) om (by simp):gx encI 1 bK (e+1) (⟨.slice (some ⟨e,0,none⟩) 2 2,[C.iO.sB,C.iO.sC]⟩:SV Int)) rfl).mono ?_)))
  rintro _ et j ⟨⟨ag,rfl,dr⟩,aG,aw⟩
  have bg:=dw.trans aw bY
  have dW:=aw.get dU cB
  have cD:=e4 cB aG
  have am:=aw.get dV cC
  have cE:=e4 cC aG
  have aP:=e8 bY aG
  refine oX 2<|gT 77 ag (pt (G+1+1+1+1) (0+2))<|lu 77 ag (G+1+1+1+1) (0+2) (Y C.iO.sD) ft am rfl<|gT 77 ag (pt (G+1+1+1+1) (0+3))<|lu 77 ag (G+1+1+1+1) (0+3) (Y C.iO.pS) ft am rfl ?_
  cases ag with
  |true=>
   have nCM:=(dr).1 rfl
   refine WO.cons (WC.kT (x:=.bool true) (g:=fV (.tmp 77)) rfl U rfl (WC.buildSlice [Y C.iO.sD,Y C.iO.pS] rfl U ?_))
   obtain⟨bL,bU,ax,dX⟩:=boxed et (j) [Y C.iO.sD,Y C.iO.pS]
   rw[bU];clear bU
   have dx:=bg.trans ax aP
   have dY:=ax.get dW cD
   have cF:=e4 cD (e_ (j))
   have dZ:=ax.get am cE
   have eA:=e4 cE (e_ (j))
   have bZ:=e8 aP (e_ (j))
   refine WO.cons (WC.kT (x:=.bool true) (g:=fV (.tmp 77)) rfl U rfl (WC.call 83 179 ([Y 0,Y 4294967296,(⟨.slice (some ⟨j,0,none⟩) 2 2,[C.iO.sD,C.iO.pS]⟩:SV Int).v]) kf ((yA (0) (4294967296) (C.iO.sD) (C.iO.pS) (⟨.slice (some ⟨j,0,none⟩) 2 2,[C.iO.sD,C.iO.pS]⟩:SV Int) bL (j+1) (gx.m_ (enc:=encI) (by simp[encI]) dX rfl (by decide) om (by simp):gx encI 1 bL (j+1) (⟨.slice (some ⟨j,0,none⟩) 2 2,[C.iO.sD,C.iO.pS]⟩:SV Int)) rfl).mono ?_)))
   rintro _ eu m ⟨⟨aT,rfl,dt⟩,bA,ay⟩
   have bh:=dx.trans ay bZ
   have d_:=ay.get dY cF
   have cG:=e4 cF bA
   have ea:=ay.get dZ eA
   have aQ:=e8 bZ bA
   refine oX 2<|gT 85 aT (pt (G+1+1+1+1) (0+4))<|lu 85 aT (G+1+1+1+1) (0+4) (Y C.iO.ug) ft ea rfl ?_
   cases aT with
   |true=>
    have nCN:=(dt).1 rfl
    refine WO.cons (WC.kT (x:=.bool true) (g:=fV (.tmp 85)) rfl U rfl (WC.buildSlice [Y C.iO.ug] rfl U ?_))
    obtain⟨bM,bV,bu,eb⟩:=boxed eu (m) [Y C.iO.ug]
    rw[bV];clear bV
    have dy:=bh.trans bu aQ
    have ec:=bu.get d_ cG
    have cH:=e4 cG (e_ (m))
    have b0:=e8 aQ (e_ (m))
    refine WO.cons (WC.kT (x:=.bool true) (g:=fV (.tmp 85)) rfl U rfl (WC.call 89 179 ([Y 0,Y 100000,(⟨.slice (some ⟨m,0,none⟩) 1 1,[C.iO.ug]⟩:SV Int).v]) kf ((mK (0) (100000) (C.iO.ug) (⟨.slice (some ⟨m,0,none⟩) 1 1,[C.iO.ug]⟩:SV Int) bM (m+1) (gx.m_ (enc:=encI) (by simp[encI]) eb rfl (by decide) om (by simp):gx encI 1 bM (m+1) (⟨.slice (some ⟨m,0,none⟩) 1 1,[C.iO.ug]⟩:SV Int)) rfl).mono ?_)))
    rintro _ ew o ⟨⟨aU,rfl,du⟩,bB,bw⟩
    have bj:=dy.trans bw b0
    have bt:=bw.get ec cH
    have cI:=e4 cH bB
    have aR:=e8 b0 bB
    refine oX 2<|gT 91 aU (pt G (0+14))<|lu 91 aU G (0+14) (Y C.Aa) ft bt rfl ?_
    cases aU with
    |true=>
     have nCO:=(du).1 rfl
     refine WO.cons (WC.kT (x:=.bool true) (g:=fV (.tmp 91)) rfl U rfl (WC.buildSlice [Y C.Aa] rfl U ?_))
     obtain⟨bN,bW,bx,ee⟩:=boxed ew (o) [Y C.Aa]
     rw[bW];clear bW
     have dz:=bj.trans bx aR
     have ef:=bx.get bt cI
     have eB:=e4 cI (e_ (o))
     have b3:=e8 aR (e_ (o))
     refine WO.cons (WC.kT (x:=.bool true) (g:=fV (.tmp 91)) rfl U rfl (WC.call 95 179 ([Y 0,Y 1125899906842624,(⟨.slice (some ⟨o,0,none⟩) 1 1,[C.Aa]⟩:SV Int).v]) kf ((mK (0) (1125899906842624) (C.Aa) (⟨.slice (some ⟨o,0,none⟩) 1 1,[C.Aa]⟩:SV Int) bN (o+1) (gx.m_ (enc:=encI) (by simp[encI]) ee rfl (by decide) om (by simp):gx encI 1 bN (o+1) (⟨.slice (some ⟨o,0,none⟩) 1 1,[C.Aa]⟩:SV Int)) rfl).mono ?_)))
     rintro _ ey p ⟨⟨aV,rfl,dv⟩,en,bz⟩
     have bk:=dz.trans bz b3
     have eg:=bz.get ef eB
     have aS:=e8 b3 en
     refine oX 2<|gT 97 aV (pt G (0+15))<|lu 97 aV G (0+15) (Y C.su) ft eg rfl ?_
     cases aV with
     |true=>
      have nCP:=(dv).1 rfl
      refine WO.cons (WC.kT (x:=.bool true) (g:=fV (.tmp 97)) rfl U rfl (WC.buildSlice [Y C.su] rfl U ?_))
      obtain⟨bO,bX,ei,eh⟩:=boxed ey (p) [Y C.su]
      rw[bX];clear bX
      have dA:=bk.trans ei aS
      have b4:=e8 aS (e_ (p))
      refine WO.cons (WC.kT (x:=.bool true) (g:=fV (.tmp 97)) rfl U rfl (WC.call 101 179 ([Y 0,Y 1099511627776,(⟨.slice (some ⟨p,0,none⟩) 1 1,[C.su]⟩:SV Int).v]) kf ((mK (0) (1099511627776) (C.su) (⟨.slice (some ⟨p,0,none⟩) 1 1,[C.su]⟩:SV Int) bO (p+1) (gx.m_ (enc:=encI) (by simp[encI]) eh rfl (by decide) om (by simp):gx encI 1 bO (p+1) (⟨.slice (some ⟨p,0,none⟩) 1 1,[C.su]⟩:SV Int)) rfl).mono ?_)))
      rintro _ nC3 nC5 ⟨⟨cT,rfl,nCK⟩,eo,ej⟩
      have dB:=dA.trans ej b4
      have ez:=e8 b4 eo
      refine oW 2 ⟨rfl,rfl,[.bool cT],U,?_⟩
      exact⟨⟨cT,rfl,nCK.trans ⟨fun h=>⟨⟨⟨⟨⟨nCL,nCM⟩,nCN⟩,nCO⟩,nCP⟩,h⟩,fun h=>h.2⟩⟩,ez,dB⟩
     |false=>
      have nCQ:¬((0)<=(C.Aa)/\(C.Aa)<=(1125899906842624)):=nf dv
      refine oW 4 ⟨rfl,rfl,[.bool false],U,?_⟩
      exact⟨⟨false,rfl,fun h=>(by cases h),fun h=>absurd h.1.2 nCQ⟩,aS,bk⟩
    |false=>
     have nCR:¬((0)<=(C.iO.ug)/\(C.iO.ug)<=(100000)):=nf du
     refine oW 10 ⟨rfl,rfl,[.bool false],U,?_⟩
     exact⟨⟨false,rfl,fun h=>(by cases h),fun h=>absurd h.1.1.2 nCR⟩,aR,bj⟩
   |false=>
    have nCS:¬(((0)<=(C.iO.sD)/\(C.iO.sD)<=(4294967296))/\(0)<=(C.iO.pS)/\(C.iO.pS)<=(4294967296)):=nf dt
    refine oW 16 ⟨rfl,rfl,[.bool false],U,?_⟩
    exact⟨⟨false,rfl,fun h=>(by cases h),fun h=>absurd h.1.1.1.2 nCS⟩,aQ,bh⟩
  |false=>
   have nCT:¬(((0)<=(C.iO.sB)/\(C.iO.sB)<=(16))/\(0)<=(C.iO.sC)/\(C.iO.sC)<=(16)):=nf dr
   refine oW 22 ⟨rfl,rfl,[.bool false],U,?_⟩
   exact⟨⟨false,rfl,fun h=>(by cases h),fun h=>absurd h.1.1.1.1.2 nCT⟩,aP,bg⟩
 |false=>
  have nCU:¬(((((((((∀x∈C.iv.l,(Nx) x)/\(∀x∈C.jR.l,(Hy (gn .i64 ((.ofNat (C.iv.l.length))-(1)))) x))/\(BZ xS C.jR.l))/\(∀x∈C.fu.l,(BY (gn .i64 ((.ofNat (C.iv.l.length))-(1)))) x))/\(∀x∈C.kK.l,(F1) x))/\(∀x∈C.jt.l,(DR) x))/\(∀x∈C.iu.l,(JV) x))/\(∀x∈C.kV.l,(yC C) x))/\(BZ yD C.kV.l)):=nf dq
  refine oW 30 ⟨rfl,rfl,[.bool false],U,?_⟩
  exact⟨⟨false,rfl,fun h=>(by cases h),fun h=>absurd h.1.1.1.1.1 nCU⟩,aO,bf⟩
end
end Sw
