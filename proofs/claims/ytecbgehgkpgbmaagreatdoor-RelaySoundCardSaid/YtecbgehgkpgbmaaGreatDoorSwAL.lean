/- A part of the proof that the law returns true for every input that its row speaks of. No condition is added. -/
import Derived.Test.YtecbgehgkpgbmaaGreatDoorSwAK
import Derived.Test.YtecbgehgkpgbmaaGreatDoorSwAG
import Derived.Test.YtecbgehgkpgbmaaGreatDoorSwAJ
import Derived.Test.YtecbgehgkpgbmaaGreatDoorSwAF
namespace Sw
noncomputable section
open Go Go.Proofs Go.RowKit
set_option maxRecDepth 100000
set_option maxHeartbeats 1600000
theorem Kh{x lo hi:Int}:(∀y∈[x],lo<=y/\y<=hi)↔lo<=x/\x<=hi:=by simp
theorem Ws{α:Type}{l:List α}{P:α->Prop}:(¬∃x∈l,¬P x)↔∀x∈l,P x:=
 ⟨fun h x hx=>fu.1 fun k=>h ⟨x,hx,k⟩,fun h ⟨x,hx,k⟩=>k (h x hx)⟩
theorem Rl{α:Type}{l:List α}:((l.length:Nat):Int)=0↔l=[]:=by rw[<-List.length_eq_zero_iff];omega
section
variable {c:RCond}{s:RStep}
theorem ml.Ki(k:c.jk=1):ml c↔(1<=c.se/\c.se<=3)/\(0<=c.fN/\c.fN<=10000)/\c.fY.l=[]:=
 ⟨fun h=>by
   cases h with
   |leaf _ v n p=>exact⟨v,n,p⟩
   |neg b=>omega
   |many b=>omega,fun⟨v,n,p⟩=>.leaf k v n p⟩
theorem ml.YN(k:c.jk=4):ml c↔(c.se=0/\c.fN=0/\c.fY.l.length=1)/\∀x∈c.fY.l,ml x:=
 ⟨fun h=>by
   cases h with
   |leaf b=>omega
   |neg _ v n p h=>exact⟨⟨v,n,p⟩,h⟩
   |many b=>omega,fun⟨⟨v,n,p⟩,h⟩=>.neg k v n p h⟩
theorem ml.FP(k:c.jk=2\/c.jk=3):ml c↔(c.se=0/\c.fN=0/\0<c.fY.l.length/\c.fY.l.length<=16)/\∀x∈c.fY.l,ml x:=
 ⟨fun h=>by
   cases h with
   |leaf b=>omega
   |neg b=>omega
   |many _ v n p h=>exact⟨⟨v,n,p⟩,h⟩,fun⟨⟨v,n,p⟩,h⟩=>.many k v n p h⟩
theorem ml.Vk(h1:¬c.jk=1)(D:¬c.jk=2)(h3:¬c.jk=3)(h4:¬c.jk=4):¬ml c:=fun h=>by
 cases h with
 |leaf k=>exact h1 k
 |neg k=>exact h4 k
 |many k=>omega
theorem Au:(∀x∈qN (.cond c),re x)↔∀x∈c.fY.l,ml x:=by simp[qN,re]
theorem pN.Ki(k:s.jk=1):pN s↔(1<=s.BD/\s.BD<=5)/\nV s.je/\qN (.step s)=[]:=
 ⟨fun h=>by
   cases h with
   |one _ b c t e=>exact⟨b,c,by simp[qN,t,e]⟩
   |We j=>omega,fun⟨b,c,p⟩=>by
   simp[qN]at p
   exact .one k b c p.1 p.2⟩
theorem pN.FP(k:s.jk=2):pN s↔s.BD=0/\ml s.je/\0<s.mj.l.length/\∀x∈qN (.step s),re x:=
 ⟨fun h=>by
   cases h with
   |one j=>omega
   |We _ b c t0 t e=>
    refine⟨b,c,List.length_pos_iff.2 t0,fun x hx=>?_⟩
    rcases fR.1 hx with hx|hx
    · obtain⟨y,hy,rfl⟩:=fU.1 hx;exact t y hy
    · obtain⟨y,hy,rfl⟩:=fU.1 hx;exact e y hy,
 fun⟨b,c,t0,h⟩=>.We k b c (List.length_pos_iff.1 t0) (fun x hx=>h (.step x) (List.mem_append_left _ (fU.2 ⟨x,hx,rfl⟩))) (fun x hx=>h (.step x) (List.mem_append_right _ (fU.2 ⟨x,hx,rfl⟩)))⟩
theorem pN.Vk(h1:¬s.jk=1)(D:¬s.jk=2):¬pN s:=fun h=>by
 cases h with
 |one k=>exact h1 k
 |We k=>exact D k
end
section
open Classical
variable (sub:List kd->Int->Int->Int->Bool×Int×Int)
def z_(f:kd)(a b d:Int):Bool×Int×Int:=if 64<a\/256<b then(false,a,b)else sub (qN f) a b (gy .i64 (d+1))
def vM(f:kd)(a b d:Int):Bool×Int×Int:=match f with
 |.cond _=>z_ sub f a (gy .i64 (b+1)) d
 |.step s=>if nV s.je then z_ sub f (gy .i64 (a+1)) b d else if(sub [.cond s.je] (gy .i64 (a+1)) b 0).1=true then z_ sub f (sub [.cond s.je] (gy .i64 (a+1)) b 0).2.1 (sub [.cond s.je] (gy .i64 (a+1)) b 0).2.2 d else sub [.cond s.je] (gy .i64 (a+1)) b 0
def K6:List kd->Int->Int->Int->Bool×Int×Int
 |[],a,b,_=>(true,a,b)
 |f::l,a,b,d=>if(vM sub f a b d).1=true then K6 l (vM sub f a b d).2.1 (vM sub f a b d).2.2 d else vM sub f a b d
end
section
open Classical
def BS:Nat->List kd->Int->Int->Int->Bool×Int×Int
 |0,_,a,b,_=>(true,a,b)
 |k+1,l,a,b,d=>if 0<((l.length:Nat):Int)/\16<d then(false,a,b)else K6 (BS k) l a b d
variable {sub:List kd->Int->Int->Int->Bool×Int×Int}{f:kd}{c:RCond}{s:RStep}{a b d a' b' na nb:Int}{r:Bool×Int×Int}{l:List kd}{i k:Nat}
theorem yT(h:64<a\/256<b):z_ sub f a b d=(false,a,b):=if_pos h
theorem wS(h:¬(64<a\/256<b)):z_ sub f a b d=sub (qN f) a b (gy .i64 (d+1)):=if_neg h
theorem Ea:vM sub (.cond c) a b d=z_ sub (.cond c) a (gy .i64 (b+1)) d:=rfl
theorem CL(h:nV s.je):vM sub (.step s) a b d=z_ sub (.step s) (gy .i64 (a+1)) b d:=if_pos h
theorem xv(h:¬nV s.je)(D:sub [.cond s.je] (gy .i64 (a+1)) b 0=(true,na,nb)):vM sub (.step s) a b d=z_ sub (.step s) na nb d:=
 (if_neg h).trans (by rw[D];exact if_pos rfl)
theorem Pa(h:¬nV s.je)(D:sub [.cond s.je] (gy .i64 (a+1)) b 0=(false,na,nb)):vM sub (.step s) a b d=(false,na,nb):=
 (if_neg h).trans (by rw[D];exact if_neg (fun h=>by cases h))
theorem NZ(hx:l[i]?=some f):l.drop i=f::l.drop (i+1):=by
 have hi:=(fp.1 hx).1
 rw[List.drop_eq_getElem_cons hi,(List.getElem?_eq_some_iff.1 hx).2]
theorem HS(hx:l[i]?=some f)(h:vM sub f a b d=(true,a',b')):K6 sub (l.drop i) a b d=K6 sub (l.drop (i+1)) a' b' d:=by
 rw[NZ hx]
 show(if(vM sub f a b d).1=true then _ else _)=_
 rw[h];exact if_pos rfl
theorem xP(hx:l[i]?=some f)(h:vM sub f a b d=(false,a',b')):K6 sub (l.drop i) a b d=(false,a',b'):=by
 rw[NZ hx]
 show(if(vM sub f a b d).1=true then _ else _)=_
 rw[h];exact if_neg (fun h=>by cases h)
theorem Aa(hk:∀f∈l,yb f<k)(h:¬(0<((l.length:Nat):Int)/\16<d)):BS k l a b d=K6 (BS (k-1)) l a b d:=by
 cases k with
 |zero=>
  cases l with
  |nil=>rfl
  |cons f l=>exact absurd (hk f (fz ..)) (fK _)
 |succ k=>exact if_neg h
theorem Xo(hk:∀f∈l,yb f<k)(h:0<((l.length:Nat):Int)/\16<d):BS k l a b d=(false,a,b):=by
 cases k with
 |zero=>
  cases l with
  |nil=>exact absurd h.1 (by simp)
  |cons f l=>exact absurd (hk f (fz ..)) (fK _)
 |succ k=>exact if_pos h
def N0:List kd->Nat
 |[]=>0
 |f::l=>max (yb f+1) (N0 l)
theorem Tj:∀(l:List kd),∀f∈l,yb f<N0 l
 |[],_,h=>by cases h
 |g::l,f,h=>by
  rcases fT.1 h with rfl|h
  · show yb f<max _ _;omega
  · have:=Tj l f h;show yb f<max _ _;omega
def qC(l:List kd):Int:=if¬(BS (N0 l) l 0 0 0).1=true then 2 else if((l.length:Nat):Int)=0\/∃x∈l,¬re x then 71 else 0
theorem Xp{c:Bool}{a b:Int}(h:(c,a,b)=BS (N0 l) l 0 0 0)(hc:¬c=true):qC l=2:=if_pos (by rw[<-h];exact hc)
theorem Vl{c:Bool}{a b:Int}(h:(c,a,b)=BS (N0 l) l 0 0 0)(hc:c=true)(e:((l.length:Nat):Int)=0\/∃x∈l,¬re x):qC l=71:=(if_neg (by rw[<-h];exact fun k=>k hc)).trans (if_pos e)
theorem Xq{c:Bool}{a b:Int}(h:(c,a,b)=BS (N0 l) l 0 0 0)(hc:c=true)(e:¬(((l.length:Nat):Int)=0\/∃x∈l,¬re x)):qC l=0:=(if_neg (by rw[<-h];exact fun k=>k hc)).trans (if_neg e)
end
theorem N1:ex.T.agg 466=some false:=U
theorem N2:ex.T.agg 469=some true:=U
theorem xQ:ex.T.agg 553=some true:=U
theorem Ch:ex.T.size 469=some 8:=U
theorem rP:ex.T.size 553=some 4:=U
theorem K7:ex.T.zero 469=some (.agg ⟨[Y 0,Y 0,Y 0,Y 0,Y 0,.slice none (0) 0,.slice none (0) 0,.slice none (0) 0]⟩):=U
theorem Ci:ex.T.zero 553=some (.agg ⟨[Y 0,Y 0,Y 0,.slice none (0) 0]⟩):=U
theorem Kj{A:kd->Prop}(K:SV kd)(f:FuncId)(b:Array Value)(O:Ht)(G:Nat)(hK:jC mw 1 (fun O G y=>my O G y) O G K)(hf:∀(i:Nat) (x:kd),K.l[i]?=some x->∀(e9:Ht) (e_:Nat),G<=e_->HE G O e9->WF ex f ((fv x)::b.toList) e9 e_ (fL e_ e9 (gi (A x)))):WF ex 357 [K.v,.func (.func f) #[] b] O G (fL G O (qf K.l A)):=by
 obtain⟨a1,c2,h_⟩:=hK.1.shape
 have mc:=hK.1.2.2
 rw[h_]
 refine wd Tryz.f357 19 [.tmp 4] fun hE=>sr<|oN 1<|WP.seq<|sr<|oN 3<|WP.block ?_
 refine mu [0,1,7,8] (fun m hs ns vs=>∃(fW:Nat),fW+m=K.l.length/\vs=[.slice a1 (K.l.length) c2,.func (.func f) #[] b,Y (.ofNat (K.l.length)),Y (.ofNat fW)]/\G<=ns/\HE (G) O hs/\(∀(j:Nat) (y:kd),j<fW->K.l[j]?=some y->¬A y)) ?_ (K.l.length) ?_
 ·
  rintro ya ql jd _ ⟨fW,uz,rfl,oR,jt,hinv⟩ uA
  have j9:=hE.trans jt
  refine sr ?_
  refine oq 9 (kT fW K.l.length) fun nI rY=>WO.nil<|WP.seq<|cq rY (fun xq=>?_) (fun xq=>?_)
  ·
   refine WP.skip<|WP.seq<|WP.block<|sr<|oN 2<|sr<|oX 3 ?_
   have nL:fW<K.l.length:=by omega
   refine WO.cons (WC.iy h_ hK.1 (fW) zx z6 (nL) ?_)
   obtain⟨lH,kM⟩:=gE nL
   refine WO.cons (WC.lz (fv lH) h_ (hK.1.mono j9 nR) kM rfl N1<|WO.cons (WC.call 16 f ((fv lH)::b.toList) kf ((hf fW lH kM ql (jd) om j9).mono ?_)))
   rintro _ JZ UI ⟨⟨Fv,rfl,Db⟩,UJ,uB⟩
   refine WO.nil<|cq Db (fun wZ=>?_) (fun wZ=>?_)
   ·
    refine sr<|oW 2 ⟨rfl,rfl,[Y (.ofNat fW)],U,?_⟩
    exact⟨.inr ⟨fW,lH,rfl,kM,wZ,hinv⟩,od,(j9.trans uB)⟩
   ·
    refine WP.skip<|WP.region<|ov 18 (Y (.ofNat (fW+1))) ?_ (fun _ _ _=>by rw[<-gQ (show fW+1<9223372036854775808 by omega)];kernel_rfl)
    refine oN 1<|⟨K.l.length-(fW+1),om,rfl,rfl,fW+1,om,U,?_,?_,?_⟩
    · exact od
    · exact(jt.trans uB oR)
    · intro j y hj hy;rcases fE.1 hj with hj|rfl;exact hinv j y hj hy;rw[kM]at hy;cases hy;exact wZ
  ·
   refine WP.exit<|sr<|oW 1 ⟨rfl,rfl,[Y (-1)],U,?_⟩
   refine⟨.inl ⟨rfl,fun y hy=>?_⟩,od,j9⟩
   obtain⟨j,hj⟩:=fS hy
   exact hinv j y (by have:=(fp.1 hj).1;omega) hj
 ·
  exact⟨0,om,U,fg _,HE.refl _ _,(fun j y h=>absurd h (fK _))⟩
theorem sx{A:kd->Prop}(K:SV kd)(f:FuncId)(b:Array Value)(O:Ht)(G:Nat)(hK:jC mw 1 (fun O G y=>my O G y) O G K)(hf:∀(i:Nat) (x:kd),K.l[i]?=some x->∀(e9:Ht) (e_:Nat),G<=e_->HE G O e9->WF ex f ((fv x)::b.toList) e9 e_ (fL e_ e9 (gi (A x)))):WF ex 281 [K.v,.func (.func f) #[] b] O G (fL G O (gi (∃x∈K.l,A x))):=by
 have mL:=fF (e:=ex) 281 Tryz.f281 9 [.tmp 4]
 have nM:=@Kj
 exact Nj
theorem yU(f:kd)(O:Ht)(G:Nat)(hf:my O G f)(b:WF ex 358 [fv f] O G (fL G O (gi (re f)))):WF ex 282 [fv f] O G (fL G O (gi (¬re f))):=by
 refine wd Tryz.f282 6 [.tmp 2] fun hE=>sr<|oN 1<|sr<|oX 1<|oD 4 (b) fun u j p o_ o iI=>?_
 refine oq 5 (nN j) fun e m=>oW 1 ⟨rfl,rfl,[.bool e],U,?_⟩
 refine⟨⟨e,rfl,?_⟩,od,(hE.trans iI)⟩
 exact m
theorem Pb(k:Nat)(ih:∀(f:kd) (O:Ht) (G:Nat),yb f<k->my O G f->WF ex 358 [fv f] O G (fL G O (gi (re f))))(c:RCond)(O:Ht)(G:Nat)(hk:sizeOf c<k+1)(hc:lM O G c):WF ex 358 [.iface 553 (.agg (iw c).toArray)] O G (fL G O (gi (re (.cond c)))):=by
 refine wd Tryz.f358 131 [.tmp 2] fun hE=>sr<|oN 1<|WP.seq<|sr<|oN 1<|WP.block<|sr<|oN 3<|WP.cond true U (fun h1=>?_) (fun h1=>by cases h1)
 refine sr<|oA [Y 0,Y 0,Y 0,.slice none (0) 0] Ci fun c3 cr cp=>?_
 have cn:=hE.trans cr nR
 have m:=ff nR (fh (G))
 refine oS G (0) (.agg (iw c).toArray) (iw c) (iw c) rP rfl (fe.2 ⟨rfl,xm _ hc⟩) cp fun aW bQ b cR=>?_
 have j:=cn.trans bQ om
 refine WO.nil<|sr<|oX 2<|oZ G (0+0+1) (Y c.se) fy b rfl ?_
 refine oq 14 (sZ c.se 0) fun r5 vh=>oX 1<|gT 15 r5 (pt G 0)<|gT 15 r5 (pt G (0+0+2))<|lG 15 r5 G (0+0+2) (Y c.fN) fy b rfl ?_
 refine qH 15 r5 (sZ c.fN 0) fun cW cw=>?_
 refine nh 20 (nA vh cw) fun e bd=>oN 1<|WP.seq<|sr<|oX 2<|oZ G (0+0+0) (Y c.jk) fy b rfl<|WO.nil<|WP.block<|sr ?_
 refine oq 25 (sZ c.jk 1) fun cX cx=>oN 1<|cq cx (fun aE=>?_) (fun aE=>?_)
 ·
  refine sr<|oX 2<|oZ G (0+0+1) (Y c.se) fy b rfl<|oL [Y c.se] fun aU aQ bL=>?_
  have bH:=j.trans aQ m
  have bM:=aQ.get b (fo (G))
  have a6:=fb (fo (G)) (fh (G+1))
  have aY:=ff m (fh (G+1))
  refine oD 30 (z7 (1) (3) (⟨.slice (some ⟨(G+1),0,none⟩) 1 1,[c.se]⟩:SV Int) aU (G+1+1) (gB.ny (enc:=encI) (by simp[encI]) bL rfl (by decide) om (by simp):gB encI 1 aU (G+1+1) (⟨.slice (some ⟨(G+1),0,none⟩) 1 1,[c.se]⟩:SV Int))) fun aB bB bW o aT s6=>?_
  have aO:=bH.trans s6 aY
  have aP:=s6.get bM a6
  have a7:=fb a6 aT
  have az:=ff aY aT
  refine oX 1<|gT 31 aB (pt G 0)<|gT 31 aB (pt G (0+0+2))<|lG 31 aB G (0+0+2) (Y c.fN) fy aP rfl ?_
  cases aB with
  |true=>
   have cC:=(bB).1 rfl
   refine WO.cons (WC.lh (x:=.bool true) (g:=f_ (.tmp 31)) rfl U rfl (WC.buildSlice [Y c.fN] rfl U ?_))
   obtain⟨aV,aX,aR,bN⟩:=boxed bW (o) [Y c.fN]
   rw[aX];clear aX
   have bI:=aO.trans aR az
   have bO:=aR.get aP a7
   have b0:=fb a7 (fh (o))
   have aZ:=ff az (fh (o))
   refine WO.cons (WC.lh (x:=.bool true) (g:=f_ (.tmp 31)) rfl U rfl (WC.call 36 179 ([Y 0,Y 10000,(⟨.slice (some ⟨o,0,none⟩) 1 1,[c.fN]⟩:SV Int).v]) kf ((z7 (0) (10000) (⟨.slice (some ⟨o,0,none⟩) 1 1,[c.fN]⟩:SV Int) aV (o+1) (gB.ny (enc:=encI) (by simp[encI]) bN rfl (by decide) om (by simp):gB encI 1 aV (o+1) (⟨.slice (some ⟨o,0,none⟩) 1 1,[c.fN]⟩:SV Int))).mono ?_)))
   rintro _ cS cU ⟨⟨an,rfl,cy⟩,bT,aS⟩
   have bJ:=bI.trans aS aZ
   have bP:=aS.get bO b0
   have bZ:=ff aZ bT
   refine oX 2<|gT 38 an (pt G 0)<|gT 38 an (pt G (0+0+3)) ?_
   obtain⟨a66,cm,bX⟩:=hc.fY.1.shape
   have cG:=hc.fY.1.2.2
   refine lG 38 an G (0+0+3) (.slice a66 (c.fY.l.length) cm) s7 bP (by rw[<-bX];rfl)<|gT 38 an (Y (.ofNat (c.fY.l.length))) ?_
   refine qH 38 an (vY c.fY.l.length 0) fun cY cz=>?_
   refine nh 44 (nA cy cz) fun xu FJ=>oW 1 ⟨rfl,rfl,[.bool xu],U,?_⟩
   refine⟨⟨xu,rfl,?_⟩,bZ,bJ⟩
   show _↔ml c
   rw[ml.Ki aE]
   exact(FJ).trans ⟨fun h=>⟨Kh.1 cC,Kh.1 h.1,Rl.1 h.2⟩,fun h=>⟨Kh.2 h.2.1,Rl.2 h.2.2⟩⟩
  |false=>
   have cD:¬(∀x∈(⟨.slice (some ⟨(G+1),0,none⟩) 1 1,[c.se]⟩:SV Int).l,(1)<=x/\x<=(3)):=nf bB
   refine oW 11 ⟨rfl,rfl,[.bool false],U,?_⟩
   refine⟨⟨false,rfl,?_⟩,az,aO⟩
   show _↔ml c
   rw[ml.Ki aE]
   exact⟨fun h=>(by cases h),fun h=>absurd (Kh.2 h.1) cD⟩
 ·
  refine sr ?_
  refine oq 46 (sZ c.jk 4) fun PO Dh=>oN 1<|cq Dh (fun tP=>?_) (fun tP=>?_)
  ·
   refine WP.region<|oX 2<|gT 48 e (pt G 0)<|gT 48 e (pt G (0+0+3)) ?_
   obtain⟨a75,jN,bY⟩:=hc.fY.1.shape
   have cH:=hc.fY.1.2.2
   refine lG 48 e G (0+0+3) (.slice a75 (c.fY.l.length) jN) s7 b (by rw[<-bY];rfl)<|gT 48 e (Y (.ofNat (c.fY.l.length))) ?_
   refine qH 48 e (vY c.fY.l.length 1) fun cZ cA=>?_
   refine nh 54 (nA bd cA) fun bA bC=>oN 1<|sr<|oX 2<|Fu 74 bA (.agg (iw c).toArray) (by rintro rfl;exact WC.iz G (0) (iw c) U xQ rP b rfl rfl) ?_
   cases bA with
   |true=>
    have bf:=(bC).1 rfl
    refine WO.cons (WC.lh (x:=.bool true) (g:=f_ (.tmp 74)) rfl U rfl (WC.call 76 417 ([.agg (iw c).toArray]) kf ((yN c aW (G+1) (hc.mono j m)).mono ?_)))
    rintro _ ax af ⟨aF,rfl,W,bK,bU,bR⟩
    have aw:=j.trans bR m
    have ae:=ff m bU
    have M:jC mw 1 (fun O G y=>my O G y) ax (af) aF:=⟨bK.ok (oK _) (by rw[W];have:=qA (f:=.cond c) ((hc.mono aw ae));omega),fun x hx=>rN (f:=.cond c) ((hc.mono aw ae)) x (W▸hx)⟩
    have ay:=HE.refl (af) ax
    have aA:=fg (af)
    refine WO.cons (WC.lh (x:=.bool true) (g:=f_ (.tmp 74)) rfl U rfl (WC.call 77 281 ([aF.v,.func (.func 282) #[] #[]]) kf ((sx (A:=fun x=>¬re x) aF 282 #[] ax (af) (M.mono (fun _ h he hn=>h.mono he hn) ay aA) (fun i x hx e9 e_ hn he=>yU x e9 e_ (((M.mono (fun _ h he hn=>h.mono he hn) ay aA).2 x (fa hx)).mono he hn) (ih x e9 e_ (by have:=we (f:=.cond c) (W▸fa hx);have hk:=hk;simp only[yb]at this⊢;omega) (((M.mono (fun _ h he hn=>h.mono he hn) ay aA).2 x (fa hx)).mono he hn)))).mono ?_)))
    rintro _ cT cV ⟨⟨c0,rfl,cB⟩,bV,bS⟩
    have bg:=aw.trans bS ae
    have bw:=ff ae bV
    obtain⟨ar,bD,b3⟩:=nN cB
    refine WO.cons (WC.lh (x:=.bool true) (g:=f_ (.tmp 74)) rfl U rfl (WC.val 78 (.bool ar) (fun _ _ _=>by subst bD;kernel_rfl)<|oW 2 ⟨rfl,rfl,[.bool ar],U,?_⟩))
    refine⟨⟨ar,rfl,?_⟩,bw,bg⟩
    show _↔ml c
    rw[ml.YN tP]
    exact(b3).trans (Ws.trans ((W▸Au).trans ⟨fun h=>⟨⟨bf.1.1,bf.1.2,by have:=bf.2;omega⟩,h⟩,fun h=>h.2⟩))
   |false=>
    have cf:¬((((c.se)=(0))/\((c.fN)=(0)))/\(((c.fY.l.length:Nat):Int)=(1))):=nf bC
    refine oW 5 ⟨rfl,rfl,[.bool false],U,?_⟩
    refine⟨⟨false,rfl,?_⟩,m,j⟩
    show _↔ml c
    rw[ml.YN tP]
    exact⟨fun h=>(by cases h),fun h=>absurd h.1 (fun k=>cf ⟨⟨k.1,k.2.1⟩,by rw[k.2.2];rfl⟩)⟩
  ·
   refine WP.seq<|sr ?_
   refine oq 56 (sZ c.jk 2) fun aI a8=>oN 1<|WP.cond aI U (fun N=>?_) (fun N=>?_)
   ·
    have ag:=(a8).1 N
    refine WP.skip<|WP.cond aI U (fun aN=>?_) (fun aN=>absurd (N.symm.trans aN) (by decide))
    refine WP.region<|oX 2<|gT 59 e (pt G 0)<|gT 59 e (pt G (0+0+3)) ?_
    obtain⟨aG,aJ,aC⟩:=hc.fY.1.shape
    have ct:=hc.fY.1.2.2
    refine lG 59 e G (0+0+3) (.slice aG (c.fY.l.length) aJ) s7 b (by rw[<-aC];rfl)<|gT 59 e (Y (.ofNat (c.fY.l.length))) ?_
    refine qH 59 e (nQ 0 c.fY.l.length) fun cK b4=>?_
    refine nh 65 (nA bd b4) fun K b5=>oX 1<|gT 66 K (pt G 0)<|gT 66 K (pt G (0+0+3))<|lG 66 K G (0+0+3) (.slice aG (c.fY.l.length) aJ) s7 b (by rw[<-aC];rfl)<|gT 66 K (Y (.ofNat (c.fY.l.length))) ?_
    refine qH 66 K (Hv c.fY.l.length 16) fun cL b6=>?_
    refine nh 72 (nA b5 b6) fun aK a_=>oN 1<|sr<|oX 2<|Fu 74 aK (.agg (iw c).toArray) (by rintro rfl;exact WC.iz G (0) (iw c) U xQ rP b rfl rfl) ?_
    cases aK with
    |true=>
     have ah:=(a_).1 rfl
     refine WO.cons (WC.lh (x:=.bool true) (g:=f_ (.tmp 74)) rfl U rfl (WC.call 76 417 ([.agg (iw c).toArray]) kf ((yN c aW (G+1) (hc.mono j m)).mono ?_)))
     rintro _ X F ⟨ao,rfl,z,bk,br,bn⟩
     have R:=j.trans bn m
     have C:=ff m br
     have p:jC mw 1 (fun O G y=>my O G y) X (F) ao:=⟨bk.ok (oK _) (by rw[z];have:=qA (f:=.cond c) ((hc.mono R C));omega),fun x hx=>rN (f:=.cond c) ((hc.mono R C)) x (z▸hx)⟩
     have ab:=HE.refl (F) X
     have ak:=fg (F)
     refine WO.cons (WC.lh (x:=.bool true) (g:=f_ (.tmp 74)) rfl U rfl (WC.call 77 281 ([ao.v,.func (.func 282) #[] #[]]) kf ((sx (A:=fun x=>¬re x) ao 282 #[] X (F) (p.mono (fun _ h he hn=>h.mono he hn) ab ak) (fun i x hx e9 e_ hn he=>yU x e9 e_ (((p.mono (fun _ h he hn=>h.mono he hn) ab ak).2 x (fa hx)).mono he hn) (ih x e9 e_ (by have:=we (f:=.cond c) (z▸fa hx);have hk:=hk;simp only[yb]at this⊢;omega) (((p.mono (fun _ h he hn=>h.mono he hn) ab ak).2 x (fa hx)).mono he hn)))).mono ?_)))
     rintro _ cE cI ⟨⟨cM,rfl,b7⟩,bs,bo⟩
     have bh:=R.trans bo C
     have bx:=ff C bs
     obtain⟨au,bE,b8⟩:=nN b7
     refine WO.cons (WC.lh (x:=.bool true) (g:=f_ (.tmp 74)) rfl U rfl (WC.val 78 (.bool au) (fun _ _ _=>by subst bE;kernel_rfl)<|oW 2 ⟨rfl,rfl,[.bool au],U,?_⟩))
     refine⟨⟨au,rfl,?_⟩,bx,bh⟩
     show _↔ml c
     rw[ml.FP (.inl ag)]
     exact(b8).trans (Ws.trans ((z▸Au).trans ⟨fun h=>⟨⟨ah.1.1.1,ah.1.1.2,by have:=ah.1.2;omega,by have:=ah.2;omega⟩,h⟩,fun h=>h.2⟩))
    |false=>
     have cj:¬(((((c.se)=(0))/\((c.fN)=(0)))/\((0)<((c.fY.l.length:Nat):Int)))/\(((c.fY.l.length:Nat):Int)<=(16))):=nf a_
     refine oW 5 ⟨rfl,rfl,[.bool false],U,?_⟩
     refine⟨⟨false,rfl,?_⟩,m,j⟩
     show _↔ml c
     rw[ml.FP (.inl ag)]
     exact⟨fun h=>(by cases h),fun h=>absurd h.1 (fun k=>cj ⟨⟨⟨k.1,k.2.1⟩,by have:=k.2.2.1;omega⟩,by have:=k.2.2.2;omega⟩)⟩
   ·
    have ag:=nq a8 N
    refine WP.region ?_
    refine oq 57 (sZ c.jk 3) fun cN b9=>oN 1<|cq b9 (fun ai=>?_) (fun ai=>?_)
    ·
     refine WP.region<|oX 2<|gT 59 e (pt G 0)<|gT 59 e (pt G (0+0+3)) ?_
     obtain⟨aH,aL,aD⟩:=hc.fY.1.shape
     have cu:=hc.fY.1.2.2
     refine lG 59 e G (0+0+3) (.slice aH (c.fY.l.length) aL) s7 b (by rw[<-aD];rfl)<|gT 59 e (Y (.ofNat (c.fY.l.length))) ?_
     refine qH 59 e (nQ 0 c.fY.l.length) fun cO b_=>?_
     refine nh 65 (nA bd b_) fun L ca=>oX 1<|gT 66 L (pt G 0)<|gT 66 L (pt G (0+0+3))<|lG 66 L G (0+0+3) (.slice aH (c.fY.l.length) aL) s7 b (by rw[<-aD];rfl)<|gT 66 L (Y (.ofNat (c.fY.l.length))) ?_
     refine qH 66 L (Hv c.fY.l.length 16) fun cP cb=>?_
     refine nh 72 (nA ca cb) fun aM bc=>oN 1<|sr<|oX 2<|Fu 74 aM (.agg (iw c).toArray) (by rintro rfl;exact WC.iz G (0) (iw c) U xQ rP b rfl rfl) ?_
     cases aM with
     |true=>
      have aj:=(bc).1 rfl
      refine WO.cons (WC.lh (x:=.bool true) (g:=f_ (.tmp 74)) rfl U rfl (WC.call 76 417 ([.agg (iw c).toArray]) kf ((yN c aW (G+1) (hc.mono j m)).mono ?_)))
      rintro _ aa J ⟨aq,rfl,B,bl,bt,bp⟩
      have S:=j.trans bp m
      have E:=ff m bt
      have u:jC mw 1 (fun O G y=>my O G y) aa (J) aq:=⟨bl.ok (oK _) (by rw[B];have:=qA (f:=.cond c) ((hc.mono S E));omega),fun x hx=>rN (f:=.cond c) ((hc.mono S E)) x (B▸hx)⟩
      have ad:=HE.refl (J) aa
      have al:=fg (J)
      refine WO.cons (WC.lh (x:=.bool true) (g:=f_ (.tmp 74)) rfl U rfl (WC.call 77 281 ([aq.v,.func (.func 282) #[] #[]]) kf ((sx (A:=fun x=>¬re x) aq 282 #[] aa (J) (u.mono (fun _ h he hn=>h.mono he hn) ad al) (fun i x hx e9 e_ hn he=>yU x e9 e_ (((u.mono (fun _ h he hn=>h.mono he hn) ad al).2 x (fa hx)).mono he hn) (ih x e9 e_ (by have:=we (f:=.cond c) (B▸fa hx);have hk:=hk;simp only[yb]at this⊢;omega) (((u.mono (fun _ h he hn=>h.mono he hn) ad al).2 x (fa hx)).mono he hn)))).mono ?_)))
      rintro _ cF cJ ⟨⟨cQ,rfl,cc⟩,bu,bq⟩
      have bj:=S.trans bq E
      have bz:=ff E bu
      obtain⟨av,bG,cd⟩:=nN cc
      refine WO.cons (WC.lh (x:=.bool true) (g:=f_ (.tmp 74)) rfl U rfl (WC.val 78 (.bool av) (fun _ _ _=>by subst bG;kernel_rfl)<|oW 2 ⟨rfl,rfl,[.bool av],U,?_⟩))
      refine⟨⟨av,rfl,?_⟩,bz,bj⟩
      show _↔ml c
      rw[ml.FP (.inr ai)]
      exact(cd).trans (Ws.trans ((B▸Au).trans ⟨fun h=>⟨⟨aj.1.1.1,aj.1.1.2,by have:=aj.1.2;omega,by have:=aj.2;omega⟩,h⟩,fun h=>h.2⟩))
     |false=>
      have ck:¬(((((c.se)=(0))/\((c.fN)=(0)))/\((0)<((c.fY.l.length:Nat):Int)))/\(((c.fY.l.length:Nat):Int)<=(16))):=nf bc
      refine oW 5 ⟨rfl,rfl,[.bool false],U,?_⟩
      refine⟨⟨false,rfl,?_⟩,m,j⟩
      show _↔ml c
      rw[ml.FP (.inr ai)]
      exact⟨fun h=>(by cases h),fun h=>absurd h.1 (fun k=>ck ⟨⟨⟨k.1,k.2.1⟩,by have:=k.2.2.1;omega⟩,by have:=k.2.2.2;omega⟩)⟩
    ·
     refine sr<|oW 1 ⟨rfl,rfl,[.bool false],U,?_⟩
     refine⟨⟨false,rfl,?_⟩,m,j⟩
     show _↔ml c
     exact⟨fun h=>(by cases h),fun h=>absurd h (ml.Vk aE ag ai tP)⟩
theorem Pc(k:Nat)(ih:∀(f:kd) (O:Ht) (G:Nat),yb f<k->my O G f->WF ex 358 [fv f] O G (fL G O (gi (re f))))(s:RStep)(O:Ht)(G:Nat)(hk:sizeOf s<k+1)(hs:j_ O G s):WF ex 358 [.iface 469 (.agg (jG s).toArray)] O G (fL G O (gi (re (.step s)))):=by
 refine wd Tryz.f358 131 [.tmp 2] fun hE=>sr<|oN 1<|WP.seq<|sr<|oN 1<|WP.block<|sr<|oN 3<|WP.cond false U (fun h1=>by cases h1) (fun h1=>?_)
 refine sr<|oN 3<|WP.cond true U (fun D=>?_) (fun D=>by cases D)
 refine sr<|oA [Y 0,Y 0,Y 0,Y 0,Y 0,.slice none (0) 0,.slice none (0) 0,.slice none (0) 0] K7 fun Ev bN bM=>?_
 have bL:=hE.trans bN nR
 have aR:=ff nR (fh (G))
 refine oS G (0) (.agg (jG s).toArray) (jG s) (jG s) Ch rfl (fe.2 ⟨rfl,CE _ hs⟩) bM fun CH bj ar b3=>?_
 have aX:=bL.trans bj om
 refine WO.nil<|sr<|oX 2<|WO.cons (WC.iz G (0+0+2) (iw s.je) U xM sK ar rfl<|oX 1<|oA [Y 0,Y 0,Y 0,.slice none (0) 0] Ci fun b4 av a7=>?_)
 have aY:=aX.trans av aR
 have a8:=av.get ar (fo (G))
 have aj:=fb (fo (G)) (fh (G+1))
 have b:=ff aR (fh (G+1))
 refine oS (G+1) (0) (.agg (iw s.je).toArray) (iw s.je) (iw s.je) rP rfl (fe.2 ⟨rfl,xm _ hs.je⟩) a7 fun bq bk au bp=>?_
 have z:=aY.trans bk om
 have B:=(bp G om).trans a8
 refine WO.nil<|sr<|oX 2<|oZ G (0+0+0) (Y s.jk) fy B rfl<|WO.nil<|WP.block<|sr ?_
 refine oq 91 (sZ s.jk 1) fun b6 bP=>oN 1<|cq bP (fun S=>?_) (fun S=>?_)
 ·
  refine sr<|oX 2<|oZ G (0+0+1) (Y s.BD) fy B rfl<|oL [Y s.BD] fun ay af a_=>?_
  have aZ:=z.trans af b
  have bc:=af.get B aj
  have aA:=fb aj (fh (G+1+1))
  have bd:=af.get au (fo (G+1))
  have bw:=fb (fo (G+1)) (fh (G+1+1))
  have az:=ff b (fh (G+1+1))
  refine oD 96 (z7 (1) (5) (⟨.slice (some ⟨(G+1+1),0,none⟩) 1 1,[s.BD]⟩:SV Int) ay (G+1+1+1) (gB.ny (enc:=encI) (by simp[encI]) a_ rfl (by decide) om (by simp):gB encI 1 ay (G+1+1+1) (⟨.slice (some ⟨(G+1+1),0,none⟩) 1 1,[s.BD]⟩:SV Int))) fun aP aS br bz ax ag=>?_
  have ab:=aZ.trans ag az
  have bf:=ag.get bc aA
  have bx:=fb aA ax
  have bg:=ag.get bd bw
  have L:=ff az ax
  refine oX 1<|Fu 97 aP (.agg (iw s.je).toArray) (by rintro rfl;exact WC.iz (G+1) (0) (iw s.je) U xQ rP bg rfl rfl) ?_
  cases aP with
  |true=>
   have bS:=(aS).1 rfl
   refine WO.cons (WC.lh (x:=.bool true) (g:=f_ (.tmp 97)) rfl U rfl (WC.call 99 356 ([.agg (iw s.je).toArray]) kf ((KZ s.je br (bz) (hs.je.mono ab L)).mono ?_)))
   rintro _ bs bA ⟨⟨aQ,rfl,aT⟩,bn,aw⟩
   have ad:=ab.trans aw L
   have bh:=aw.get bf bx
   have M:=ff L bn
   refine oX 2<|Fu 101 aQ (.agg (jG s).toArray) (by rintro rfl;exact WC.iz G (0) (jG s) U N2 Ch bh rfl rfl) ?_
   cases aQ with
   |true=>
    have bT:=(aT).1 rfl
    refine WO.cons (WC.lh (x:=.bool true) (g:=f_ (.tmp 101)) rfl U rfl (WC.call 103 418 ([.agg (jG s).toArray]) kf ((yO s bs (bA) (hs.mono ad M)).mono ?_)))
    rintro _ bt bB ⟨an,rfl,ah,a6,bo,bl⟩
    have ae:=ad.trans bl M
    have ai:=ff M bo
    have R:jC mw 1 (fun O G y=>my O G y) bt (bB) an:=⟨a6.ok (oK _) (by rw[ah];have:=qA (f:=.step s) ((hs.mono ae ai));omega),fun x hx=>rN (f:=.step s) ((hs.mono ae ai)) x (ah▸hx)⟩
    obtain⟨b5,b7,bu⟩:=R.1.shape
    have bX:=R.1.2.2
    refine WO.cons (WC.lh (x:=.bool true) (g:=f_ (.tmp 101)) rfl U rfl (WC.val 104 (Y (.ofNat (an.l.length))) (fun _ _ _=>by rw[bu];kernel_rfl) ?_))
    obtain⟨aq,bK,bQ⟩:=vY an.l.length 0
    refine WO.cons (WC.lh (x:=.bool true) (g:=f_ (.tmp 101)) rfl U rfl (WC.val 105 (.bool aq) (fun _ _ _=>by subst bK;kernel_rfl)<|oW 2 ⟨rfl,rfl,[.bool aq],U,?_⟩))
    refine⟨⟨aq,rfl,?_⟩,ai,ae⟩
    show _↔pN s
    rw[pN.Ki S]
    exact(bQ).trans ((Rl.trans (by rw[ah])).trans ⟨fun h=>⟨Kh.1 bS,bT,h⟩,fun h=>h.2.2⟩)
   |false=>
    have bU:¬(nV s.je):=nf aT
    refine oW 5 ⟨rfl,rfl,[.bool false],U,?_⟩
    refine⟨⟨false,rfl,?_⟩,M,ad⟩
    show _↔pN s
    rw[pN.Ki S]
    exact⟨fun h=>(by cases h),fun h=>absurd h.2.1 bU⟩
  |false=>
   have bV:¬(∀x∈(⟨.slice (some ⟨(G+1+1),0,none⟩) 1 1,[s.BD]⟩:SV Int).l,(1)<=x/\x<=(5)):=nf aS
   refine oW 9 ⟨rfl,rfl,[.bool false],U,?_⟩
   refine⟨⟨false,rfl,?_⟩,L,ab⟩
   show _↔pN s
   rw[pN.Ki S]
   exact⟨fun h=>(by cases h),fun h=>absurd (Kh.2 h.1) bV⟩
 ·
  refine sr ?_
  refine oq 108 (sZ s.jk 2) fun b8 bR=>oN 1<|cq bR (fun C=>?_) (fun C=>?_)
  ·
   refine sr<|oX 2<|oZ G (0+0+1) (Y s.BD) fy B rfl ?_
   refine oq 112 (sZ s.BD 0) fun X aB=>oX 1<|Fu 113 X (.agg (iw s.je).toArray) (by rintro rfl;exact WC.iz (G+1) (0) (iw s.je) U xQ rP au rfl rfl)<|gT 113 X (.iface 553 (.agg (iw s.je).toArray)) ?_
   cases X with
   |true=>
    have bH:=(aB).1 rfl
    refine WO.cons (WC.lh (x:=.bool true) (g:=f_ (.tmp 113)) rfl U rfl (WC.call 116 358 ([.iface 553 (.agg (iw s.je).toArray)]) kf ((ih (kd.cond s.je) bq (G+1+1) (by have:=RStep.PH s;simp only[yb];omega) (hs.je.mono z b)).mono ?_)))
    rintro _ aL aO ⟨⟨u,rfl,bC⟩,aI,al⟩
    have E:=z.trans al b
    have ak:=al.get B aj
    have m:=ff b aI
    refine oX 2<|gT 118 u (pt G 0)<|gT 118 u (pt G (0+0+6)) ?_
    obtain⟨aU,aV,aM⟩:=hs.mj.1.shape
    have bO:=hs.mj.1.2.2
    refine lG 118 u G (0+0+6) (.slice aU (s.mj.l.length) aV) vu ak (by rw[<-aM];rfl)<|gT 118 u (Y (.ofNat (s.mj.l.length))) ?_
    refine qH 118 u (nQ 0 s.mj.l.length) fun bZ bD=>?_
    refine nh 124 (nA bC bD) fun ao aC=>oX 1<|Fu 125 ao (.agg (jG s).toArray) (by rintro rfl;exact WC.iz G (0) (jG s) U N2 Ch ak rfl rfl) ?_
    cases ao with
    |true=>
     have aD:=(aC).1 rfl
     refine WO.cons (WC.lh (x:=.bool true) (g:=f_ (.tmp 125)) rfl U rfl (WC.call 127 418 ([.agg (jG s).toArray]) kf ((yO s aL (aO) (hs.mono E m)).mono ?_)))
     rintro _ J p ⟨W,rfl,e,aF,aJ,aG⟩
     have F:=E.trans aG m
     have o:=ff m aJ
     have j:jC mw 1 (fun O G y=>my O G y) J (p) W:=⟨aF.ok (oK _) (by rw[e];have:=qA (f:=.step s) ((hs.mono F o));omega),fun x hx=>rN (f:=.step s) ((hs.mono F o)) x (e▸hx)⟩
     have K:=HE.refl (p) J
     have N:=fg (p)
     refine WO.cons (WC.lh (x:=.bool true) (g:=f_ (.tmp 125)) rfl U rfl (WC.call 128 281 ([W.v,.func (.func 282) #[] #[]]) kf ((sx (A:=fun x=>¬re x) W 282 #[] J (p) (j.mono (fun _ h he hn=>h.mono he hn) K N) (fun i x hx e9 e_ hn he=>yU x e9 e_ (((j.mono (fun _ h he hn=>h.mono he hn) K N).2 x (fa hx)).mono he hn) (ih x e9 e_ (by have:=we (f:=.step s) (e▸fa hx);have hk:=hk;simp only[yb]at this⊢;omega) (((j.mono (fun _ h he hn=>h.mono he hn) K N).2 x (fa hx)).mono he hn)))).mono ?_)))
     rintro _ bW bY ⟨⟨b0,rfl,bE⟩,aK,aH⟩
     have aE:=F.trans aH o
     have aN:=ff o aK
     obtain⟨aa,aW,bG⟩:=nN bE
     refine WO.cons (WC.lh (x:=.bool true) (g:=f_ (.tmp 125)) rfl U rfl (WC.val 129 (.bool aa) (fun _ _ _=>by subst aW;kernel_rfl)<|oW 2 ⟨rfl,rfl,[.bool aa],U,?_⟩))
     refine⟨⟨aa,rfl,?_⟩,aN,aE⟩
     show _↔pN s
     rw[pN.FP C]
     exact(bG).trans (Ws.trans ⟨fun h=>⟨bH,aD.1,by have:=aD.2;omega,e▸h⟩,fun h=>e▸h.2.2.2⟩)
    |false=>
     have bI:¬((re (kd.cond s.je))/\((0)<((s.mj.l.length:Nat):Int))):=nf aC
     refine oW 5 ⟨rfl,rfl,[.bool false],U,?_⟩
     refine⟨⟨false,rfl,?_⟩,m,E⟩
     show _↔pN s
     rw[pN.FP C]
     exact⟨fun h=>(by cases h),fun h=>(bI ⟨h.2.1,by have:=h.2.2.1;omega⟩).elim⟩
   |false=>
    have bJ:¬((s.BD)=(0)):=nf aB
    refine oW 16 ⟨rfl,rfl,[.bool false],U,?_⟩
    refine⟨⟨false,rfl,?_⟩,b,z⟩
    show _↔pN s
    rw[pN.FP C]
    exact⟨fun h=>(by cases h),fun h=>absurd h.1 bJ⟩
  ·
   refine WP.skip<|sr<|oW 1 ⟨rfl,rfl,[.bool false],U,?_⟩
   refine⟨⟨false,rfl,?_⟩,b,z⟩
   show _↔pN s
   exact⟨fun h=>(by cases h),fun h=>absurd h (pN.Vk S C)⟩
theorem Vm(f:kd)(O:Ht)(G:Nat)(hf:my O G f):WF ex 358 [fv f] O G (fL G O (gi (re f))):=by
 have h:∀(k:Nat),∀(f:kd) (O:Ht) (G:Nat),yb f<k->my O G f->WF ex 358 [fv f] O G (fL G O (gi (re f))):=by
  intro k
  induction k with
  |zero=>intro _ _ _ h;exact absurd h (fK _)
  |succ k ih=>
   intro f O G hk hf
   cases f with
   |cond c=>exact Pb k ih c O G hk hf
   |step s=>exact Pc k ih s O G hk hf
 exact h _ f O G (fo _) hf
theorem PV(k:Nat)(ih:∀j,j+1=k->∀(l:SV kd) (o:Nat) (a b d:Int) (O:Ht) (G:Nat),O.get o=some (.cells [Y a,Y b] gm.plain)->o<G->jC mw 1 (fun O G y=>my O G y) (O.set o none) G l->(∀f∈l.l,yb f<j)->WF ex 280 [pt o 0,l.v,Y d] O G (fun v e9 e_=>(∃(c:Bool) (a' b':Int),v=.bool c/\(c,a',b')=BS j l.l a b d/\e9.get o=some (.cells [Y a',Y b'] gm.plain))/\G<=e_/\HE G (O.set o none) (e9.set o none)))(l:SV kd)(o:Nat)(a b d:Int)(O:Ht)(G:Nat)(hb:O.get o=some (.cells [Y a,Y b] gm.plain))(jH:o<G)(hl:jC mw 1 (fun O G y=>my O G y) (O.set o none) G l)(hk:∀f∈l.l,yb f<k):WF ex 280 [pt o 0,l.v,Y d] O G (fun v e9 e_=>(∃(c:Bool) (a' b':Int),v=.bool c/\(c,a',b')=BS k l.l a b d/\e9.get o=some (.cells [Y a',Y b'] gm.plain))/\G<=e_/\HE G (O.set o none) (e9.set o none)):=by
 obtain⟨a1,c2,h_⟩:=hl.1.shape
 have mc:=hl.1.2.2
 rw[h_]
 refine wb ⟨Tryz.f280.body.getD .skip,83,[.tmp 6]⟩ ?_
 have hE:=HE.refl G (O.set o none)
 refine sr<|oN 1<|WP.seq<|sr<|oX 2 ?_
 refine oq 14 (nQ 0 l.l.length) fun c4 p4=>oX 1<|gT 15 c4 (Y d) ?_
 refine qH 15 c4 (mE 16 d) fun dw de=>?_
 refine nh 18 (nA p4 de) fun dx df=>WO.nil<|cq df (fun al=>?_) (fun al=>?_)
 ·
  refine sr<|oW 1 ⟨rfl,rfl,[.bool false],U,?_⟩
  exact⟨⟨_,_,_,rfl,(Xo hk al).symm,hb⟩,nR,hE⟩
 ·
  refine WP.skip<|WP.seq<|sr<|oN 3<|WP.block ?_
  refine mu [0,2,19,20,21] (fun m hs ns vs=>∃(z:Nat) (C:Int) (E:Int),z+m=l.l.length/\vs=[pt o 0,Y d,.slice a1 (l.l.length) c2,Y (.ofNat (l.l.length)),Y (.ofNat z)]/\G<=ns/\HE G (O.set o none) (hs.set o none)/\hs.get o=some (.cells [Y C,Y E] gm.plain)/\(K6 (BS (k-1)) l.l a b d=K6 (BS (k-1)) (l.l.drop z) C E d)) ?_ (l.l.length) ?_
  ·
   rintro dt zq vE _ ⟨z,C,E,cK,rfl,c8,ak,aF,aj⟩ dp
   refine sr ?_
   refine oq 22 (kT z l.l.length) fun dq cC=>WO.nil<|WP.seq<|cq cC (fun cH=>?_) (fun cH=>?_)
   ·
    refine WP.skip<|WP.seq<|WP.block<|sr ?_
    have aU:z<l.l.length:=by omega
    refine WO.cons (WC.iy h_ ((hl.1.mono ak).un) (z) zx z6 (aU) ?_)
    obtain⟨bT,p⟩:=gE aU
    refine WO.cons (WC.lz (fv bT) h_ ((hl.1.mono ak).un) p rfl N1<|oN 1<|WP.seq<|sr<|oN 1<|WP.block<|WP.seq ?_)
    rcases bT with e|e
    ·
     have X:lM (O.set o none) G e:=hl.2 _ (fa p)
     refine WP.region<|oN 3<|WP.cond true U (fun bO=>?_) (fun bO=>by cases bO)
     refine sr<|oA [Y 0,Y 0,Y 0,.slice none (0) 0] Ci fun c_ bn b0=>?_
     refine oS vE (0) (.agg (iw e).toArray) (iw e) (iw e) rP rfl (fe.2 ⟨rfl,xm _ X⟩) b0 fun da b4 c3 b5=>?_
     have bk:=(b5 o om).trans (bn.get aF)
     refine WO.nil<|WP.region<|oX 3<|oZ o (0+1) (Y E) fy bk rfl<|oX 3<|oS o (0+1) (Y (gy .i64 ((E)+(1)))) [Y C,Y (gy .i64 ((E)+(1)))] [Y (gy .i64 ((E)+(1)))] kH rfl rfl bk fun b7 c7 aq b6=>?_
     have aC:=((ak.trans (bn.er (b:=o))).trans (b4.er (b:=o))).trans (HE.Z2 (B:=G) b6)
     refine WO.nil<|sr<|oX 3<|oZ o 0 (Y C) fy aq rfl ?_
     refine oq 65 (mE 64 C) fun aw cD=>oX 1<|gF 66 aw (pt o 0)<|gF 66 aw (pt o 0)<|gF 66 aw (pt o (0+1))<|nS 66 aw o (0+1) (Y (gy .i64 ((E)+(1)))) fy aq rfl ?_
     refine nH 66 aw (mE 256 (gy .i64 ((E)+(1)))) fun dr cE=>?_
     refine mI 72 (nO cD cE) fun a_ bS=>oX 1<|gF 73 a_ (pt o 0)<|gF 73 a_ (.iface 553 (.agg (iw e).toArray)) ?_
     cases a_ with
     |true=>
      have du:=(bS).1 rfl
      refine oN 6<|WP.cond true U (fun bP=>?_) (fun bP=>by cases bP)
      refine sr<|oW 1 ⟨rfl,rfl,[.bool false],U,?_⟩
      exact⟨⟨_,_,_,rfl,((Aa hk al).trans (aj.trans (xP p (Ea.trans (yT om))))).symm,aq⟩,od,aC⟩
     |false=>
      have dv:¬(((64)<(C))\/((256)<(gy .i64 ((E)+(1))))):=nf bS
      refine WO.cons (WC.lh (x:=.bool false) (g:=f_ (.tmp 73)) rfl U rfl (WC.call 76 417 ([.agg (iw e).toArray]) kf ((yN e b7 (vE+1) (X.mono aC).un).mono ?_)))
      rintro _ vC J9 ⟨a8,rfl,W,bj,Rc,tc⟩
      have ao:=aC.trans (tc.er (b:=o))
      have cA:jC mw 1 (fun O G y=>my O G y) vC (J9) a8:=⟨bj.ok (oK _) (by rw[W];have:=qA (f:=.cond e) ((X.mono ao).un);omega),fun x hx=>rN (f:=.cond e) ((X.mono ao).un) x (W▸hx)⟩
      refine oX 2<|WO.cons (WC.lh (x:=.bool false) (g:=f_ (.tmp 73)) rfl U rfl (WC.call 79 280 ([pt o 0,a8.v,Y (gy .i64 ((d)+(1)))]) kf ((ih (k-1) (by have:=hk _ (fa p);omega) a8 o (C) (gy .i64 ((E)+(1))) (gy .i64 ((d)+(1))) vC (J9) (tc.get aq) om ⟨((bj.te (fun q cB=>Tr.gG _ _ om)).ok (oK _) (by rw[W];have:=qA (f:=.cond e) X;omega)),fun x hx=>(rN (f:=.cond e) X x (W▸hx)).mono ao⟩ (fun g hg=>by have:=we (W▸hg:g∈qN (.cond e));have:=hk _ (fa p);omega)).mono ?_)))
      rintro _ db dd ⟨⟨ax,b8,b9,rfl,aE,bl⟩,c9,xN⟩
      rw[W]at aE
      have bh:=ao.trans xN
      have cF:ax=true↔(ax=true):=gk
      obtain⟨cy,cz,cG⟩:=nN cF
      refine WO.cons (WC.lh (x:=.bool false) (g:=f_ (.tmp 73)) rfl U rfl (WC.val 80 (.bool cy) (fun _ _ _=>by subst cz;kernel_rfl)<|oN 1<|cq cG (fun cI=>?_) (fun cI=>?_)))
      ·
       refine sr<|oW 1 ⟨rfl,rfl,[.bool false],U,?_⟩
       exact⟨⟨_,_,_,rfl,((Aa hk al).trans (aj.trans (xP p (Ea.trans ((wS om).trans (aE.symm.trans (by rw[show ax=false from Bool.eq_false_iff.2 (by assumption)]))))))).symm,bl⟩,od,bh⟩
      ·
       refine WP.skip<|WP.region<|ov 82 (Y (.ofNat (z+1))) ?_ (fun _ _ _=>by rw[<-gQ (show z+1<9223372036854775808 by omega)];kernel_rfl)
       refine oN 1<|⟨l.l.length-(z+1),om,rfl,rfl,z+1,b8,b9,om,U,?_,?_,?_,?_⟩
       · exact od
       · exact bh
       · exact bl
       · exact aj.trans (HS p (Ea.trans ((wS om).trans (aE.symm.trans (by rw[show ax=true from(Classical.not_not.1 (by assumption:¬¬(ax=true)))])))))
    ·
     have u:j_ (O.set o none) G e:=hl.2 _ (fa p)
     refine WP.region<|oN 3<|WP.cond false U (fun bQ=>by cases bQ) (fun bQ=>?_)
     refine sr<|oN 3<|WP.cond true U (fun bR=>?_) (fun bR=>by cases bR)
     refine sr<|oA [Y 0,Y 0,Y 0,Y 0,Y 0,.slice none (0) 0,.slice none (0) 0,.slice none (0) 0] K7 fun dc bo b3=>?_
     refine oS vE (0) (.agg (jG e).toArray) (jG e) (jG e) Ch rfl (fe.2 ⟨rfl,CE _ u⟩) b3 fun cR bx bs bD=>?_
     have aM:=(bD o om).trans (bo.get aF)
     refine WO.nil<|sr<|oX 3<|oZ o 0 (Y C) fy aM rfl<|oX 3<|oS o 0 (Y (gy .i64 ((C)+(1)))) [Y (gy .i64 ((C)+(1))),Y E] [Y (gy .i64 ((C)+(1)))] kH rfl rfl aM fun cS cJ bt aV=>?_
     refine WO.nil<|sr<|oX 2<|WO.cons (WC.iz vE (0+0+2) (iw e.je) U xM sK ((aV vE om).trans bs) rfl<|oX 1<|oA [Y 0,Y 0,Y 0,.slice none (0) 0] Ci fun cT aQ bu=>?_)
     refine oS (vE+1) (0) (.agg (iw e.je).toArray) (iw e.je) (iw e.je) rP rfl (fe.2 ⟨rfl,xm _ u.je⟩) bu fun bG bz aN bE=>?_
     have aG:=((((ak.trans (bo.er (b:=o))).trans (bx.er (b:=o))).trans (HE.Z2 (B:=G) aV)).trans (aQ.er (b:=o))).trans (bz.er (b:=o))
     refine WO.nil<|sr<|WO.cons (WC.iz (vE+1) (0) (iw e.je) U xQ rP aN rfl<|WO.cons (WC.call 51 356 ([.agg (iw e.je).toArray]) kf ((KZ e.je bG (vE+1+1) (u.je.mono aG).un).mono ?_)))
     rintro _ aW S ⟨⟨cY,rfl,b_⟩,cL,ar⟩
     have aa:=aG.trans (ar.er (b:=o))
     have N:=ar.get ((bE o om).trans (aQ.get bt))
     refine oq 52 (nN b_) fun an bp=>oX 1<|gT 53 an (pt o 0)<|Fu 53 an (.agg (iw e.je).toArray) (by rintro rfl;exact WC.iz (vE+1) (0) (iw e.je) U xQ rP (ar.get aN) rfl rfl)<|gT 53 an (.iface 553 (.agg (iw e.je).toArray)) ?_
     cases an with
     |true=>
      have dg:=(bp).1 rfl
      refine WO.cons (WC.lh (x:=.bool true) (g:=f_ (.tmp 53)) rfl U rfl (WC.buildSlice [.iface 553 (.agg (iw e.je).toArray)] rfl U ?_))
      obtain⟨bH,aZ,aR,bw⟩:=boxed aW (S) [.iface 553 (.agg (iw e.je).toArray)]
      rw[aZ];clear aZ
      have aH:=aa.trans (aR.er (b:=o))
      refine WO.cons (WC.lh (x:=.bool true) (g:=f_ (.tmp 53)) rfl U rfl (WC.call 58 280 ([pt o 0,(⟨.slice (some ⟨S,0,none⟩) 1 1,[(kd.cond e.je)]⟩:SV kd).v,Y 0]) kf ((ih (k-1) (by have:=hk _ (fa p);omega) (⟨.slice (some ⟨S,0,none⟩) 1 1,[(kd.cond e.je)]⟩:SV kd) o (gy .i64 ((C)+(1))) (E) (0) bH (S+1) (aR.get N) om ⟨gB.ny (enc:=mw) (oK _) ((Tr.gG _ _ om).trans bw) rfl (by decide) om (by simp),fun x hx=>by rw[List.mem_singleton.1 hx];exact u.je.mono aH⟩ (fun g hg=>by rw[List.mem_singleton.1 hg];have:=RStep.PH e;have:=hk _ (fa p);simp only[yb]at this⊢;omega)).mono ?_)))
      rintro _ bI bN ⟨⟨A,L,M,rfl,K,R⟩,cM,bA⟩
      have ab:=aH.trans bA
      have ca:A=true↔(A=true):=gk
      obtain⟨bU,bX,cb⟩:=nN ca
      refine WO.cons (WC.lh (x:=.bool true) (g:=f_ (.tmp 53)) rfl U rfl (WC.val 59 (.bool bU) (fun _ _ _=>by subst bX;kernel_rfl)<|oN 1<|cq cb (fun cr=>?_) (fun cr=>?_)))
      ·
       refine sr<|oW 1 ⟨rfl,rfl,[.bool false],U,?_⟩
       have aD:vM (BS (k-1)) (.step e) C E d=(false,L,M):=by first|exact(Pa (by assumption:¬nV e.je) (K.symm.trans (by rw[show A=false from Bool.eq_false_iff.2 (by assumption)])))|exact((xv (by assumption:¬nV e.je) (K.symm.trans (by rw[show A=true from(Classical.not_not.1 (by assumption:¬¬(A=true)))]))).trans (yT om))
       exact⟨⟨_,_,_,rfl,((Aa hk al).trans (aj.trans (xP p aD))).symm,R⟩,od,ab⟩
      ·
       refine WP.skip<|sr<|oX 3<|oZ o 0 (Y L) fy R rfl ?_
       refine oq 65 (mE 64 L) fun af cc=>oX 1<|gF 66 af (pt o 0)<|gF 66 af (pt o 0)<|gF 66 af (pt o (0+1))<|nS 66 af o (0+1) (Y M) fy R rfl ?_
       refine nH 66 af (mE 256 M) fun cZ cd=>?_
       refine mI 72 (nO cc cd) fun aA bq=>oX 1<|gF 73 aA (pt o 0)<|gF 73 aA (.iface 469 (.agg (jG e).toArray)) ?_
       cases aA with
       |true=>
        have dh:=(bq).1 rfl
        refine oN 6<|WP.cond true U (fun bd=>?_) (fun bd=>by cases bd)
        refine sr<|oW 1 ⟨rfl,rfl,[.bool false],U,?_⟩
        have aD:vM (BS (k-1)) (.step e) C E d=(false,L,M):=by first|exact((xv (by assumption:¬nV e.je) (K.symm.trans (by rw[show A=true from(Classical.not_not.1 (by assumption:¬¬(A=true)))]))).trans (yT om))|exact((xv (by assumption:¬nV e.je) (K.symm.trans (by rw[show A=true from(Classical.not_not.1 (by assumption:¬¬(A=true)))]))).trans (yT om))
        exact⟨⟨_,_,_,rfl,((Aa hk al).trans (aj.trans (xP p aD))).symm,R⟩,od,ab⟩
       |false=>
        have di:¬(((64)<(L))\/((256)<(M))):=nf bq
        refine WO.cons (WC.lh (x:=.bool false) (g:=f_ (.tmp 73)) rfl U rfl (WC.call 76 418 ([.agg (jG e).toArray]) kf ((yO e bI (bN) (u.mono ab).un).mono ?_)))
        rintro _ aX a6 ⟨ay,rfl,F,aK,cN,aS⟩
        have ad:=ab.trans (aS.er (b:=o))
        have cw:jC mw 1 (fun O G y=>my O G y) aX (a6) ay:=⟨aK.ok (oK _) (by rw[F];have:=qA (f:=.step e) ((u.mono ad).un);omega),fun x hx=>rN (f:=.step e) ((u.mono ad).un) x (F▸hx)⟩
        refine oX 2<|WO.cons (WC.lh (x:=.bool false) (g:=f_ (.tmp 73)) rfl U rfl (WC.call 79 280 ([pt o 0,ay.v,Y (gy .i64 ((d)+(1)))]) kf ((ih (k-1) (by have:=hk _ (fa p);omega) ay o (L) (M) (gy .i64 ((d)+(1))) aX (a6) (aS.get R) om ⟨((aK.te (fun q cB=>Tr.gG _ _ om)).ok (oK _) (by rw[F];have:=qA (f:=.step e) u;omega)),fun x hx=>(rN (f:=.step e) u x (F▸hx)).mono ad⟩ (fun g hg=>by have:=we (F▸hg:g∈qN (.step e));have:=hk _ (fa p);omega)).mono ?_)))
        rintro _ cU cW ⟨⟨ag,bJ,bL,rfl,au,aO⟩,cO,bB⟩
        rw[F]at au
        have aI:=ad.trans bB
        have cf:ag=true↔(ag=true):=gk
        obtain⟨bV,bY,cj⟩:=nN cf
        refine WO.cons (WC.lh (x:=.bool false) (g:=f_ (.tmp 73)) rfl U rfl (WC.val 80 (.bool bV) (fun _ _ _=>by subst bY;kernel_rfl)<|oN 1<|cq cj (fun ct=>?_) (fun ct=>?_)))
        ·
         refine sr<|oW 1 ⟨rfl,rfl,[.bool false],U,?_⟩
         exact⟨⟨_,_,_,rfl,((Aa hk al).trans (aj.trans (xP p ((xv (by assumption:¬nV e.je) (K.symm.trans (by rw[show A=true from(Classical.not_not.1 (by assumption:¬¬(A=true)))]))).trans ((wS om).trans (au.symm.trans (by rw[show ag=false from Bool.eq_false_iff.2 (by assumption)]))))))).symm,aO⟩,od,aI⟩
        ·
         refine WP.skip<|WP.region<|ov 82 (Y (.ofNat (z+1))) ?_ (fun _ _ _=>by rw[<-gQ (show z+1<9223372036854775808 by omega)];kernel_rfl)
         refine oN 1<|⟨l.l.length-(z+1),om,rfl,rfl,z+1,bJ,bL,om,U,?_,?_,?_,?_⟩
         · exact od
         · exact aI
         · exact aO
         · exact aj.trans (HS p ((xv (by assumption:¬nV e.je) (K.symm.trans (by rw[show A=true from(Classical.not_not.1 (by assumption:¬¬(A=true)))]))).trans ((wS om).trans (au.symm.trans (by rw[show ag=true from(Classical.not_not.1 (by assumption:¬¬(ag=true)))])))))
     |false=>
      have dj:¬(¬(nV e.je)):=nf bp
      refine oN 4<|WP.cond false U (fun bf=>by cases bf) (fun bf=>?_)
      refine WP.skip<|sr<|oX 3<|oZ o 0 (Y (gy .i64 ((C)+(1)))) fy N rfl ?_
      refine oq 65 (mE 64 (gy .i64 ((C)+(1)))) fun ah ck=>oX 1<|gF 66 ah (pt o 0)<|gF 66 ah (pt o 0)<|gF 66 ah (pt o (0+1))<|nS 66 ah o (0+1) (Y E) fy N rfl ?_
      refine nH 66 ah (mE 256 E) fun c0 cm=>?_
      refine mI 72 (nO ck cm) fun aB br=>oX 1<|gF 73 aB (pt o 0)<|gF 73 aB (.iface 469 (.agg (jG e).toArray)) ?_
      cases aB with
      |true=>
       have dm:=(br).1 rfl
       refine oN 6<|WP.cond true U (fun bg=>?_) (fun bg=>by cases bg)
       refine sr<|oW 1 ⟨rfl,rfl,[.bool false],U,?_⟩
       exact⟨⟨_,_,_,rfl,((Aa hk al).trans (aj.trans (xP p ((CL (fu.1 (by assumption:¬¬nV e.je))).trans (yT om))))).symm,N⟩,od,aa⟩
      |false=>
       have dn:¬(((64)<(gy .i64 ((C)+(1))))\/((256)<(E))):=nf br
       refine WO.cons (WC.lh (x:=.bool false) (g:=f_ (.tmp 73)) rfl U rfl (WC.call 76 418 ([.agg (jG e).toArray]) kf ((yO e aW (S) (u.mono aa).un).mono ?_)))
       rintro _ aY a7 ⟨az,rfl,J,aL,cP,aT⟩
       have ae:=aa.trans (aT.er (b:=o))
       have cx:jC mw 1 (fun O G y=>my O G y) aY (a7) az:=⟨aL.ok (oK _) (by rw[J];have:=qA (f:=.step e) ((u.mono ae).un);omega),fun x hx=>rN (f:=.step e) ((u.mono ae).un) x (J▸hx)⟩
       refine oX 2<|WO.cons (WC.lh (x:=.bool false) (g:=f_ (.tmp 73)) rfl U rfl (WC.call 79 280 ([pt o 0,az.v,Y (gy .i64 ((d)+(1)))]) kf ((ih (k-1) (by have:=hk _ (fa p);omega) az o (gy .i64 ((C)+(1))) (E) (gy .i64 ((d)+(1))) aY (a7) (aT.get N) om ⟨((aL.te (fun q cB=>Tr.gG _ _ om)).ok (oK _) (by rw[J];have:=qA (f:=.step e) u;omega)),fun x hx=>(rN (f:=.step e) u x (J▸hx)).mono ae⟩ (fun g hg=>by have:=we (J▸hg:g∈qN (.step e));have:=hk _ (fa p);omega)).mono ?_)))
       rintro _ cV cX ⟨⟨ai,bK,bM,rfl,av,aP⟩,cQ,bC⟩
       rw[J]at av
       have aJ:=ae.trans bC
       have cn:ai=true↔(ai=true):=gk
       obtain⟨bW,bZ,cp⟩:=nN cn
       refine WO.cons (WC.lh (x:=.bool false) (g:=f_ (.tmp 73)) rfl U rfl (WC.val 80 (.bool bW) (fun _ _ _=>by subst bZ;kernel_rfl)<|oN 1<|cq cp (fun cu=>?_) (fun cu=>?_)))
       ·
        refine sr<|oW 1 ⟨rfl,rfl,[.bool false],U,?_⟩
        exact⟨⟨_,_,_,rfl,((Aa hk al).trans (aj.trans (xP p ((CL (fu.1 (by assumption:¬¬nV e.je))).trans ((wS om).trans (av.symm.trans (by rw[show ai=false from Bool.eq_false_iff.2 (by assumption)]))))))).symm,aP⟩,od,aJ⟩
       ·
        refine WP.skip<|WP.region<|ov 82 (Y (.ofNat (z+1))) ?_ (fun _ _ _=>by rw[<-gQ (show z+1<9223372036854775808 by omega)];kernel_rfl)
        refine oN 1<|⟨l.l.length-(z+1),om,rfl,rfl,z+1,bK,bM,om,U,?_,?_,?_,?_⟩
        · exact od
        · exact aJ
        · exact aP
        · exact aj.trans (HS p ((CL (fu.1 (by assumption:¬¬nV e.je))).trans ((wS om).trans (av.symm.trans (by rw[show ai=true from(Classical.not_not.1 (by assumption:¬¬(ai=true)))])))))
   ·
    refine WP.exit<|sr<|oW 1 ⟨rfl,rfl,[.bool true],U,?_⟩
    exact⟨⟨_,_,_,rfl,(by rw[Aa hk al,aj,List.drop_eq_nil_of_le om];rfl),aF⟩,od,ak⟩
  ·
   exact⟨0,a,b,om,U,fg _,hE,hb,rfl⟩
theorem Zy(k:Nat):∀(l:SV kd) (e:Nat) (a b d:Int) (O:Ht) (G:Nat),O.get e=some (.cells [Y a,Y b] gm.plain)->e<G->jC mw 1 (fun O G y=>my O G y) (O.set e none) G l->(∀f∈l.l,yb f<k)->WF ex 280 [pt e 0,l.v,Y d] O G (fun v e9 e_=>(∃(c:Bool) (a' b':Int),v=.bool c/\(c,a',b')=BS k l.l a b d/\e9.get e=some (.cells [Y a',Y b'] gm.plain))/\G<=e_/\HE G (O.set e none) (e9.set e none)):=by
 induction k with
 |zero=>intro l e a b d O G hb jH hl hk;exact PV 0 (fun j h=>by omega) l e a b d O G hb jH hl hk
 |succ k ih=>intro l e a b d O G hb jH hl hk;exact PV (k+1) (fun j h=>by obtain rfl:j=k:=om;exact ih) l e a b d O G hb jH hl hk
theorem Vn(l:SV kd)(O:Ht)(G:Nat)(hl:jC mw 1 (fun O G y=>my O G y) O G l):WF ex 200 [l.v] O G (fL G O (fun v=>v=Y (qC l.l))):=by
 obtain⟨a1,c2,h_⟩:=hl.1.shape
 have mc:=hl.1.2.2
 rw[h_]
 refine wd Tryz.f200 17 [.tmp 2] fun hE=>sr<|oN 1<|sr<|oX 1<|oB (.agg ⟨[Y 0,Y 0]⟩) [Y 0,Y 0] fun zV pP uE=>?_
 have AD:=hE.trans pP nR
 have As:=ff nR (fh (G))
 refine oN 1<|WP.seq<|sr<|oX 2<|WO.cons (WC.call 8 280 ([pt G 0,l.v,Y 0]) (fun _ _ _=>by(try rw[h_]);kernel_rfl) ((Zy (N0 l.l) l (G) (0) (0) (0) zV (G+1) uE (fo (G)) (hl.mono (fun _ h he hn=>h.mono he hn) (AD.trans (HE.set _ _ (show G<=G by omega)) nR) As) (Tj _)).mono ?_))
 rintro _ zq vE ⟨⟨r5,R,S,rfl,m,L⟩,Ka,xO⟩
 have e:=AD.trans (show HE G _ _ from fun q ab=>xO.erG om om) nR
 have b:=ff As Ka
 have F:r5=true↔(r5=true):=gk
 refine oq 9 (nN F) fun Fv Db=>WO.nil<|cq Db (fun B=>?_) (fun B=>?_)
 ·
  refine sr<|oW 1 ⟨rfl,rfl,[Y 2],U,?_⟩
  exact⟨congrArg (Value.int .i64) (show qC l.l=2 from Xp m B).symm,b,e⟩
 ·
  refine WP.skip<|WP.seq<|sr<|oX 2 ?_
  refine oq 12 (vY l.l.length 0) fun j z=>oX 1<|gF 13 j (.slice a1 (l.l.length) c2)<|WO.cons (WC.gq (!j) (GB (!j) (∃x∈l.l,(fun x=>¬re x) x) (vE) zq) (.bool j) (g:=f_ (.tmp 13)) rfl U (by cases j<;>rfl) (fun h=>by obtain rfl:j=false:=(by simpa using h);have ad:¬(((l.l.length:Nat):Int)=(0)):=(fun k=>absurd ((z).2 k) (by decide));exact WC.call 15 281 ([l.v,.func (.func 282) #[] #[]]) (fun _ _ _=>by(try rw[h_]);kernel_rfl) ((sx (A:=fun x=>¬re x) l 282 #[] zq (vE) (hl.mono (fun _ h he hn=>h.mono he hn) e b) (fun i x hx e9 e_ hn he=>yU x e9 e_ (((hl.mono (fun _ h he hn=>h.mono he hn) e b).2 x (fa hx)).mono he hn) (Vm x e9 e_ (((hl.mono (fun _ h he hn=>h.mono he hn) e b).2 x (fa hx)).mono he hn)))).mono fun v e9 e_ ⟨⟨c,N,hc⟩,hn,he⟩=>⟨_,_,_,rfl,⟨c,N,hc⟩,hn,he⟩)) (fun h=>GB.off h) ?_)
  rintro _ M W ⟨⟨X,rfl,J⟩,E,C⟩
  have o:=e.trans C b
  have p:=ff b E
  refine mI 16 (nO z J) fun aa K=>WO.nil<|cq K (fun u=>?_) (fun u=>?_)
  ·
   refine sr<|oW 1 ⟨rfl,rfl,[Y 71],U,?_⟩
   exact⟨congrArg (Value.int .i64) (show qC l.l=71 from Vl m (fu.1 (by assumption:¬¬(r5=true))) u).symm,p,o⟩
  ·
   refine WP.skip<|sr<|oW 1 ⟨rfl,rfl,[Y 0],U,?_⟩
   exact⟨congrArg (Value.int .i64) (show qC l.l=0 from Xq m (fu.1 (by assumption:¬¬(r5=true))) u).symm,p,o⟩
theorem Xr(l:SV RStep)(O:Ht)(G:Nat)(hl:jC jG 8 (fun O G y=>j_ O G y) O G l)(hlen:l.l.length<=2932031007403):WF ex 99 [l.v] O G (fL G O (fun v=>v=Y (qC (l.l.map .step)))):=by
 obtain⟨a1,c2,h_⟩:=hl.1.shape
 have mc:=hl.1.2.2
 rw[h_]
 refine wd Tryz.f99 6 [.tmp 2] fun hE=>sr<|oN 1<|sr<|oX 1<|WO.cons (WC.call 4 201 ([l.v]) (fun _ _ _=>by(try rw[h_]);kernel_rfl) ((HN l O (G) (hl.mono (fun _ h he hn=>h.mono he hn) hE) hlen).mono ?_))
 rintro _ Ev IQ ⟨J,rfl,b,o,Nh,pP⟩
 have e:=hE.trans pP
 have j:jC mw 1 (fun O G y=>my O G y) Ev (IQ) J:=⟨o.ok (oK _) (by rw[b,List.length_map];omega),fun x hx=>by
  rw[b]at hx;obtain⟨y,hy,rfl⟩:=fU.1 hx
  exact(hl.2 y hy).mono e⟩
 refine WO.cons (WC.call 5 200 ([J.v]) kf ((Vn J Ev (IQ) j).mono ?_))
 rintro _ u z ⟨rfl,p,m⟩
 refine oW 1 ⟨rfl,rfl,[Y (qC J.l)],U,?_⟩
 exact⟨congrArg (fun q=>Value.int .i64 (qC q)) b,od,(e.trans m)⟩
end
end Sw
namespace Sw
noncomputable section
open Go Go.RowKit
theorem uj.nil:∀n,uj n []
 |0=>rfl
 |_+1=>fun _ h=>by cases h
theorem uj.up:∀{n:Nat} {l:List RPart},uj n l->uj (n+1) l
 |0,l,h=>fun p O=>by rw[show l=[]from h]at O;cases O
 |_+1,_,h=>fun p O=>uj.up (h p O)
theorem uj.le{n m:Nat}{l:List RPart}(h:uj n l)(hm:n<=m):uj m l:=by
 induction m with
 |zero=>obtain rfl:n=0:=by omega
        exact h
 |succ m ih=>
  rcases gn m n with k|k
  · obtain rfl:n=m+1:=by omega
    exact h
  · exact(ih k).up
theorem N3(n:Nat)(sub:List RPart->Nat×Nat)(s:Nat×Nat)(p:RPart):s.1<=(sD n sub s p).1/\s.2<=(sD n sub s p).2:=by
 unfold sD;split
 · exact⟨fg _,fg _⟩
 · constructor<;>simp only<;>omega
theorem N4(n:Nat)(sub:List RPart->Nat×Nat):∀(l:List RPart) (s:Nat×Nat),s.1<=(l.foldl (sD n sub) s).1/\s.2<=(l.foldl (sD n sub) s).2
 |[],s=>⟨fg _,fg _⟩
 |p::l,s=>by
  have h1:=N3 n sub s p
  have D:=N4 n sub l (sD n sub s p)
  rw[List.foldl_cons];omega
theorem K8{n:Nat}(hn:n≠0)(sub:List RPart->Nat×Nat):∀(l:List RPart) (s:Nat×Nat) (p:RPart),p∈l->p.fY.l.length≠0->(l.foldl (sD n sub) s).2<=256->
 (sub p.fY.l).1+1<=(l.foldl (sD n sub) s).1/\(sub p.fY.l).2<=(l.foldl (sD n sub) s).2
 |q::l,s,p,O,h0,hb=>by
  rw[List.foldl_cons]at hb⊢
  have D:=N4 n sub l (sD n sub s q)
  rcases fT.1 O with rfl|O
  · have h1:=N3 n sub s p
    have:sD n sub s p=(max s.1 ((sub p.fY.l).1+1),s.2+(sub p.fY.l).2):=if_neg (by omega)
    rw[this]at D hb⊢
    simp only at D;omega
  · exact K8 hn sub l _ p O h0 hb
theorem K9:∀(n:Nat) (l:List RPart),(s8 n l).2<=256->(s8 n l).1<n->uj ((s8 n l).1+1) l
 |0,_,_,h=>absurd h (fK _)
 |n+1,l,D,h1=>fun p O=>by
  by_cases h0:p.fY.l.length=0
  · rw[List.eq_nil_of_length_eq_zero h0];exact uj.nil _
  · have k:=K8 (n:=n+1) (by omega) (s8 n) l (0,l.length) p O h0 D
    have e:s8 (n+1) l=l.foldl (sD (n+1) (s8 n)) (0,l.length):=rfl
    rw[<-e]at k
    exact(K9 n p.fY.l (by omega) (by omega)).le k.1
theorem zu.le{d:kc}(h:zu d):uj 17 d.jP.l:=(K9 17 _ h.2.2 (by have:=h.2.1;omega)).le (by have:=h.2.1;omega)
theorem PW{C:ka}(h:wg C):∀d∈C.fD.l,uj 17 d.jP.l:=fun d hd=>(h.2 d hd).le
def Dr(vj out:List Int):List Int:=if 256<out.length then out else out++vj
def yV(vj:List Int):Nat->List Int->List Int
 |0,out=>out
 |k+1,out=>Dr vj (yV vj k out)
def AZ(sub:List RPart->List Int)(p:RPart):List Int:=if 0<p.ku then sub p.fY.l else [p.jf]
def u6(p:RPart):Nat:=(bif rU p.ku 1 then(1:Int)else p.ku).toNat
theorem HT(p:RPart):((u6 p:Nat):Int)=bif rU p.ku 1 then(1:Int)else p.ku:=by
 unfold u6
 cases h:rU p.ku 1 with
 |true=>rfl
 |false=>
  have:¬p.ku<1:=fun k=>by rw[sM.2 k]at h;cases h
  simp only[cond_false];omega
def wU(sub:List RPart->List Int)(out:List Int)(p:RPart):List Int:=yV (AZ sub p) (u6 p) out
def m_:Nat->List RPart->List Int
 |0,_=>[]
 |n+1,l=>l.foldl (wU (m_ n)) []
theorem Je{n:Nat}{l:List RPart}(h:uj n l):m_ n l=l.foldl (wU (m_ (n-1))) []:=by
 cases n with
 |zero=>rw[show l=[]from h];rfl
 |succ n=>rfl
theorem FQ{vj:List Int}{k:Nat}{out:List Int}(h:256<(yV vj k out).length):∀m,yV vj (k+m) out=yV vj k out
 |0=>rfl
 |m+1=>by
  show Dr vj (yV vj (k+m) out)=_
  rw[FQ h m];exact if_pos h
theorem Vo{vj out:List Int}(h:256<out.length)(k:Nat):yV vj k out=out:=by
 have:=FQ (vj:=vj) (k:=0) (out:=out) h k
 rwa[Nat.zero_add]at this
theorem GS{sub:List RPart->List Int}:∀(l:List RPart) {out:List Int},256<out.length->l.foldl (wU sub) out=out
 |[],_,_=>rfl
 |p::l,out,h=>by rw[List.foldl_cons,wU,Vo h,GS l h]
theorem Tk{α β:Type}{f:β->α->β}{b:β}{l:List α}{i:Nat}{x:α}(hx:l[i]?=some x):l.foldl f b=(l.drop (i+1)).foldl f (f ((l.take i).foldl f b) x):=by
 have hi:=(fp.1 hx).1
 have e:l=l.take i++x::l.drop (i+1):=by
  have:=List.take_append_drop i l
  rw[List.drop_eq_getElem_cons hi,(List.getElem?_eq_some_iff.1 hx).2]at this
  exact this.symm
 conv=>lhs;rw[e]
 rw[List.foldl_append,List.foldl_cons]
theorem N5{n:Nat}{l:List RPart}{i j:Nat}{p:RPart}{J:List Int}(h:uj n l)(hx:l[i]?=some p)(b:J=yV (AZ (m_ (n-1)) p) j ((l.take i).foldl (wU (m_ (n-1))) []))(hj:j<=u6 p)(hb:256<J.length):J=m_ n l:=by
 subst b
 rw[Je h,Tk hx,wU]
 obtain⟨m,hm⟩:∃m,u6 p=j+m:=⟨u6 p-j,by omega⟩
 rw[hm,FQ hb,GS _ hb]
theorem N6(vj:List Int)(B:Nat)(h:256+vj.length<=B):∀(k:Nat) (out:List Int),out.length<=B->(yV vj k out).length<=B
 |0,_,h0=>h0
 |k+1,out,h0=>by
  show(Dr vj (yV vj k out)).length<=B
  unfold Dr;split
  · exact N6 vj B h k out h0
  · rw[List.length_append];omega
theorem GU:∀(n:Nat) (l:List RPart),(m_ n l).length<=257*n
 |0,_=>fg _
 |n+1,l=>by
  have:∀(l:List RPart) (out:List Int),out.length<=257*(n+1)->(l.foldl (wU (m_ n)) out).length<=257*(n+1):=by
   intro l
   induction l with
   |nil=>intro out h;exact h
   |cons p l ih=>
    intro out h
    refine ih _ (N6 _ _ ?_ _ _ h)
    unfold AZ;split
    · have:=GU n p.fY.l;omega
    · simp;omega
  exact this l [] (gI _)
theorem K_{n:Nat}{l:List RPart}{i:Nat}{p:RPart}(h:uj n l)(hx:l[i]?=some p):(AZ (m_ (n-1)) p).length<=257*n/\256+(AZ (m_ (n-1)) p).length<=257*n:=by
 have hn:n≠0:=by
  rintro rfl
  rw[show l=[]from h]at hx;cases hx
 unfold AZ;split
 · have:=GU (n-1) p.fY.l;omega
 · simp;omega
theorem uj.sub{n:Nat}{l:List RPart}{i:Nat}{p:RPart}(h:uj n l)(hx:l[i]?=some p):n=(n-1)+1/\uj (n-1) p.fY.l:=by
 cases n with
 |zero=>rw[show l=[]from h]at hx;cases hx
 |succ n=>exact⟨rfl,h p (fa hx)⟩
end
end Sw
namespace Sw
noncomputable section
open Go Go.RowKit
section
variable {α:Type}{enc:α->List Value}{n B gr:Nat}{O e9:Ht}{G e_:Nat}{J:SV α}
theorem mh.zh{T:Ty}{st xt el:TypeId}{w z:Value}{inf:TypeInfo}(j:List α)(h:mh enc n B gr O G J)(hlen:∀y∈J.l,(enc y).length=n)(hu:T.jo st=some (.slice el))(hs:T.size el=some n)(R:T.zero el=some z)(hi:T.kn el=some inf)
 (hx:pR T xt w=some (j.length,false)) (o:lU O.get (j.length*n) w=some (j.flatMap enc)) (C:uR n w=true) (N:∀y∈j,(enc y).length=n) (F:(j.flatMap enc).all one=true) (X:0<n)
 (b1:(J.l.length+j.length)*inf.bytes<=70368744177664) (b2:inf.bytes<=1073741824) (E:J.l.length+j.length<=70368744177664) (L:B<=G):
 ∃v' jJ k K,jU T O.get st xt J.v w G=some (v',jJ,k)/\mh enc n B K (jm jJ O) (G+k) ⟨v',J.l++j⟩/\(∀c,c<G->(J.l≠[]->c≠gr)->(jm jJ O).get c=O.get c):=by
 have hl:=nF J.l hlen
 have ab:=nF j N
 have p:(J.l++j).flatMap enc=J.l.flatMap enc++j.flatMap enc:=by simp
 have u:(J.l++j).length=J.l.length+j.length:=by simp
 have W:∃a,J.v=.slice a J.l.length J.l.length:=by
  rcases h with⟨h1,D⟩|⟨b,ms,h1,_⟩
  · exact⟨none,by rw[D,h1];rfl⟩
  · exact⟨_,h1⟩
 by_cases D:j=[]
 · obtain⟨a,S⟩:=W
   subst D
   have m:Nat.ble (J.l.length+0) J.l.length=true:=gl (by omega)
   refine⟨J.v,[],0,gr,?_,?_,fun c _ _=>rfl⟩
   · rw[S]
     simp only[List.length_nil,Nat.add_zero,List.flatMap_nil]at hx o b1 E m
     simp only[jU,hu,hs,R,hi,hx,mg,cond_false,C,cond_true,o,Option.bind_some,List.all_nil,Nat.ble_eq_true_of_le b1,Nat.ble_eq_true_of_le b2,Nat.ble_eq_true_of_le E,Bool.and_true,m,Nat.add_zero]
   · show mh enc n B gr O G ⟨J.v,J.l++[]⟩
     rw[List.append_nil];exact h
 · have hm:0<j.length:=List.length_pos_iff.2 D
   have m:Nat.ble (J.l.length+j.length) J.l.length=false:=by
    cases hb:Nat.ble (J.l.length+j.length) J.l.length with
    |false=>rfl
    |true=>have:=fk hb;omega
   have e1:∀a',jU T O.get st xt (.slice a' J.l.length J.l.length) w G=pZ O.get a' J.l.length n (j.flatMap enc) j.length G:=fun a'=>by
    simp only[jU,hu,hs,R,hi,hx,mg,cond_false,C,cond_true,o,Option.bind_some,F,Nat.ble_eq_true_of_le b1,Nat.ble_eq_true_of_le b2,Nat.ble_eq_true_of_le E,Bool.and_true,m]
   rcases h with⟨h1,D⟩|⟨b,ms,h1,D,hb,hg,qX,jH,aa,h3,h4⟩
   · have h0:J.l.length=0:=by rw[h1];rfl
     have e2:=e1 none
     rw[h0]at e2
     rw[D]
     refine⟨_,_,_,G,e2,.inr ⟨G+1,_,by rw[u,h0],by rw[u];omega,?_,(Tr.gG _ _ (by omega)).trans (Tr.ig ..),fun e he=>?_,by omega,by omega,by omega,L⟩,fun c hc _=>?_⟩
     · rw[p,h1];exact Tr.ig ..
     · rw[List.mem_singleton.1 he,p,h1];simp
     · exact(Tr.gG _ _ (by omega)).trans (Tr.gG _ _ (by omega))
   · have A:∀e∈ms,beyond (0+0+J.l.length*n) e=false:=fun e he=>by
      have:=qX e he
      cases M:beyond (0+0+J.l.length*n) e with
      |false=>rfl
      |true=>
       unfold beyond at M
       have:=mN.1 M
       omega
     have f1:ms.filter (beyond (0+0+J.l.length*n))=[]:=by
      rw[List.filter_eq_nil_iff];intro e he;rw[A e he];simp
     have f2:(ms.filter fun e=>!(beyond (0+0+J.l.length*n) e))=ms:=by
      rw[List.filter_eq_self];intro e he;rw[A e he];rfl
     have e2:pZ O.get (some ⟨b,0,none⟩) J.l.length n (j.flatMap enc) j.length G=some (.slice (some ⟨G,0,none⟩) (J.l.length+j.length) (J.l.length+j.length),
      [(gr,some (jT.group (ms++[⟨G,0,(J.l.flatMap enc++j.flatMap enc).length⟩]))),(G,some (jT.cells (J.l.flatMap enc++j.flatMap enc) ⟨false,some gr,0,n⟩))],1):=by
      simp only[tJ,hb,Ba _ _ hl,Option.bind_some,hg,oF,f1,List.all_nil,Bool.not_false,Nat.beq_refl,Bool.and_true,cond_true,nw,List.map_nil,List.nil_append,f2]
     have jI:J.l≠[]:=fun k=>by rw[k]at D;simp at D
     rw[h1]
     refine⟨_,_,_,gr,(e1 _).trans e2,.inr ⟨G,_,by rw[u],by rw[u];omega,?_,(Tr.gG _ _ (by omega)).trans (Tr.ig ..),fun e he=>?_,by omega,L,by omega,h4⟩,fun c hc hd=>?_⟩
     · rw[p];exact Tr.ig ..
     · rw[p]
       rcases fR.1 he with he|he
       · have:=qX e he;rw[List.length_append];omega
       · rw[List.mem_singleton.1 he];simp
     · exact(Tr.gG _ _ (by omega)).trans (Tr.gG _ _ (hd jI))
theorem gB.Tl{β:Type}{N7:β->List Value}{n2:Nat}{s:SV β}(h:gB N7 n2 O G s)(hg:mh enc n B gr O G J)(he:∀c,c<G->(J.l≠[]->c≠gr)->e9.get c=O.get c)(hn:G<=e_):gB N7 n2 e9 e_ s:=by
 refine⟨h.1,?_,h.2.2⟩
 rcases h.2.1 with h|⟨q,cap,m,h1,D,h3,h4,e⟩
 · exact .inl h
 · refine .inr ⟨q,cap,m,h1,D,by omega,(he q h3 fun k=>?_).trans h4,e⟩
   rcases hg with hg|⟨b,ms,_,_,_,hg,_⟩
   · exact absurd hg.1 k
   · rintro rfl;rw[hg]at h4;cases h4
end
section
variable {e:Env}{fm:Fm}{I:Tm}{ds:List Deferred}{O:Ht}{G:Nat}{gX:List Nat}{Q:St->Prop}{all:List Oper}{d:Tmp}{ty:TypeId}{pos:String}{j7:Array Edge}
theorem WC.N8{α:Type}{enc:α->List Value}{st xt el:TypeId}{x y:Operand}{B n gr:Nat}{z w:Value}{inf:TypeInfo}{J:SV α}(b:List α)(hl:e.low=0)(hx:(f_ x).run I=J.v)(hy:(f_ y).run I=w)
 (h:mh enc n B gr O G J) (hlen:∀y∈J.l,(enc y).length=n) (hu:e.T.jo st=some (.slice el)) (hs:e.T.size el=some n) (L:e.T.zero el=some z) (hi:e.T.kn el=some inf)
 (F:pR e.T xt w=some (b.length,false)) (o:lU O.get (b.length*n) w=some (b.flatMap enc)) (p:uR n w=true) (A:∀y∈b,(enc y).length=n) (m:(b.flatMap enc).all one=true) (u:0<n)
 (b1:(J.l.length+b.length)*inf.bytes<=70368744177664) (b2:inf.bytes<=1073741824) (C:J.l.length+b.length<=70368744177664) (E:B<=G)
 {rF:Array TypeId} (K:rF=#[st,xt]) (q:∀(J':SV α) e9 e_ j,J'.l=J.l++b->G<=e_->(∀c,c<G->(J.l≠[]->c≠gr)->e9.get c=O.get c)->HE B O e9->mh enc n B j e9 e_ J'->Q ⟨I.set d J'.v,ds,e9,e_,gX⟩):
 WC e fm (iQ all ⟨some d,.call {callee:=.builtin .append,args:=#[x,y],argTypes:=rF},ty,pos,j7,none⟩) ⟨I,ds,O,G,gX⟩ Q:=by
 subst K
 obtain⟨v',jJ,k,j,h1,D,h3⟩:=h.zh b hlen hu hs L hi F o p A m u b1 b2 C E
 refine .KK d (jU e.T O.get st xt J.v w G) hl (fun _ _ _=>?_) h1 (q ⟨v',J.l++b⟩ _ _ j rfl (by omega) h3 (fun c hc=>h3 c (by omega) fun hj=>?_) D)
 · rw[<-hx,<-hy];rfl
 · rcases h with h|⟨_,_,_,_,_,_,_,_,_,_,M⟩
   · exact absurd h.1 hj
   · omega
end
theorem Eb:∀l:List Int,(l.flatMap encI).all one=true
 |[]=>rfl
 |x::l=>by rw[List.flatMap_cons,List.all_append,Eb l];rfl
end
end Sw
namespace Sw
noncomputable section
open Go Go.Proofs Go.RowKit
set_option maxRecDepth 100000
set_option maxHeartbeats 1600000
theorem sE.YO{n:Nat}{M:Int}{p:RPart}(h:sE n M p):p.ku<=64:=by
 cases n with
 |zero=>exact h.elim
 |succ n=>rcases h with⟨h,_⟩|⟨_,h,_⟩<;>omega
theorem N9{p:RPart}(h:p.ku<=64):u6 p<=64:=by
 have:=HT p
 cases k:rU p.ku 1 with
 |true=>rw[k]at this;simp only[cond_true]at this;omega
 |false=>rw[k]at this;simp only[cond_false]at this;omega
theorem sE.sub{n:Nat}{M:Int}{p:RPart}(h:sE n M p):∀q∈p.fY.l,sE (n-1) M q:=by
 cases n with
 |zero=>exact h.elim
 |succ n=>
  rcases h with⟨_,_,h⟩|⟨_,_,_,_,h⟩
  · intro q b;rw[List.eq_nil_of_length_eq_zero h]at b;cases b
  · exact h
def Kk(L:List Int)(O:Ht)(G:Nat)(v:Value)(e9:Ht)(e_:Nat):Prop:=∃J:SV Int,v=J.v/\J.l=L/\gB encI 1 e9 e_ J/\G<=e_/\HE G O e9
theorem Kl:∃i,ex.T.kn 3=some i/\i.bytes=8:=by
 cases h:ex.T.kn 3 with
 |none=>exact absurd (show(ex.T.kn 3).isSome=true by kernel_rfl) (by rw[h];decide)
 |some i=>
  refine⟨i,rfl,?_⟩
  have:((ex.T.kn 3).map fun i=>i.bytes)=some 8:=by kernel_rfl
  rw[h]at this
  exact gb this
theorem N_{w:Value}{a:Option Addr}{n c:Nat}(h:w=.slice a n c):pR ex.T 42 w=some (n,false):=by
 subst h
 have:ex.T.jo 42=some (.slice 3):=by kernel_rfl
 simp only[pR,this]
theorem GW(n:Nat)(M:Int)(hn:n<=17)(l:SV RPart)(hH:uj n l.l)(bR:∀p∈l.l,sE n M p)(ih:n≠0->∀(l:SV RPart) (O:Ht) (G:Nat),uj (n-1) l.l->(∀p∈l.l,sE (n-1) M p)->jC jQ 3 (fun O G y=>kV O G y) O G l->WF ex 204 [l.v] O G (Kk (m_ (n-1) l.l) O G))(O:Ht)(G:Nat)(hl:jC jQ 3 (fun O G y=>kV O G y) O G l):WF ex 204 [l.v] O G (Kk (m_ n l.l) O G):=by
 obtain⟨a1,c2,h_⟩:=hl.1.shape
 have mc:=hl.1.2.2
 rw[h_]
 refine wd Tryz.f204 36 [.tmp 2] fun hE=>sr<|oN 1<|WP.seq<|sr<|oN 3<|WP.block ?_
 refine mu [2,6,7,8] (fun m hs ns vs=>∃(fW:Nat) (J:SV Int) (gr:Nat),fW+m=l.l.length/\vs=[J.v,.slice a1 (l.l.length) c2,Y (.ofNat (l.l.length)),Y (.ofNat fW)]/\G<=ns/\HE G O hs/\(mh encI 1 G gr hs ns J)/\(J.l=(l.l.take fW).foldl (wU (m_ (n-1))) [])/\(J.l.length<=257*n)) ?_ (l.l.length) ?_
 ·
  rintro ya ql jd _ ⟨fW,J,gr,uz,rfl,oR,jt,bQ,aI,bK⟩ uA
  have ab:=ff nR oR
  have bV:=HE.refl (jd) ql
  have a_:=fg (jd)
  have bn:=bQ.ok (fun _ _=>rfl) om
  have bW:=HE.refl (jd) ql
  have ca:=fg (jd)
  refine sr ?_
  refine oq 9 (kT fW l.l.length) fun cV cy=>WO.nil<|WP.seq<|cq cy (fun cB=>?_) (fun cB=>?_)
  ·
   refine WP.skip<|WP.seq<|WP.block<|sr ?_
   have aC:fW<l.l.length:=by omega
   refine WO.cons (WC.iy h_ hl.1 (fW) zt rO (aC) ?_)
   obtain⟨b,e⟩:=gE aC
   refine WO.cons (WC.ly h_ (hl.1.mono jt ab) e DX rO<|oA [Y 0,Y 0,.slice none (0) 0] KW fun cS aV bS=>?_)
   have bN:=jt.trans aV ab
   have bX:=bV.trans aV a_
   have bc:=ff a_ (fh (jd))
   have cb:=ff oR (fh (jd))
   have a7:=ff ab (fh (jd))
   refine oS jd (0) (.agg (jQ b).toArray) (jQ b) (jQ b) rO rfl (fe.2 ⟨rfl,GL _ (hl.2 b (fa e))⟩) bS fun cT aW aS cR=>?_
   have bO:=bN.trans aW om
   have bY:=bX.trans aW om
   refine WO.nil<|sr<|oX 1<|oZ jd 0 (Y b.jf) fy aS rfl<|oL [Y b.jf] fun aw an bT=>?_
   have aj:=bO.trans an a7
   have R:=an.get aS (fo (jd))
   have b6:=fb (fo (jd)) (fh (jd+1))
   have aZ:=bY.trans an bc
   have ay:=ff bc (fh (jd+1))
   have bd:=ff cb (fh (jd+1))
   have ad:=ff a7 (fh (jd+1))
   refine oN 1<|WP.seq<|sr<|oX 1<|oZ jd (0+1) (Y b.ku) fy R rfl ?_
   refine oq 17 (mE 0 b.ku) fun cW cz=>WO.nil<|cq cz (fun a8=>?_) (fun a8=>?_)
   ·
    refine WP.region<|oX 1 ?_
    obtain⟨a60,cm,a6⟩:=(hl.2 b (fa e)).fY.1.shape
    have cF:=(hl.2 b (fa e)).fY.1.2.2
    refine oZ jd (0+2) (.slice a60 (b.fY.l.length) cm) pV R (by rw[<-a6];rfl)<|WO.cons (WC.call 20 204 ([b.fY.v]) (fun _ _ _=>by(try rw[a6]);kernel_rfl) ((ih (fun h0=>by have:=(hH.sub e).1;omega) b.fY aw (jd+1+1) (hH.sub e).2 (bR _ (fa e)).sub ((hl.2 b (fa e)).fY.mono (fun _ h he hn=>h.mono he hn) aj ad)).mono ?_))
    rintro _ aX ae ⟨aL,rfl,bo,aN,au,ao⟩
    have bP:=aj.trans ao ad
    have bU:=ao.get R b6
    have bZ:=aZ.trans ao ay
    have cc:=ff ay au
    have cd:=ff bd au
    have b4:=ff ad au
    have b0:=HE.refl (ae) aX
    have cf:=fg (ae)
    refine oN 1<|sr<|oX 1<|oZ jd (0+1) (Y b.ku) fy bU rfl<|oN 2<|WP.block ?_
    obtain⟨W,aR,L,aO⟩:∃W:SV Int,W.v=aL.v/\W.l=AZ (m_ (n-1)) b/\gB encI 1 aX (ae) W:=⟨aL,rfl,bo.trans (if_pos (by have:=a8;omega)).symm,(aN.mono b0 cf)⟩
    have aQ:=K_ hH e
    rw[<-L]at aQ
    have cr:=HT b
    have aM:=(bQ.mono bZ cc)
    have ar:=(bR _ (fa e)).YO
    have cp:=N9 ar
    refine mu [2,5,6,7,8,23,24] (fun m hs ns vs=>∃(u:Nat) (o:SV Int) (F:Nat),u+m=u6 b/\vs=[o.v,aL.v,.slice a1 (l.l.length) c2,Y (.ofNat (l.l.length)),Y (.ofNat fW),Y ((bif rU (b.ku) (1)then(1)else(b.ku))),Y (.ofNat u)]/\ae<=ns/\HE G O hs/\(mh encI 1 G F hs ns o)/\(o.l=yV W.l u J.l)/\(gB encI 1 hs ns W)/\(o.l.length<=257*n)) ?_ (u6 b) ?_
    ·
     rintro cU aY af _ ⟨u,o,F,cE,rfl,av,aq,z,A,al,ak⟩ cH
     have cj:=ff cd av
     have b5:=ff b4 av
     have ax:=HE.refl (af) aY
     have az:=fg (af)
     have N:=z.ok (fun _ _=>rfl) om
     have b3:=HE.refl (af) aY
     have ck:=fg (af)
     refine sr ?_
     refine oq 25 (zm u (bif rU (b.ku) (1)then(1)else(b.ku))) fun cX cA=>WO.nil<|WP.seq<|cq cA (fun cC=>?_) (fun cC=>?_)
     ·
      refine WP.skip<|WP.seq<|WP.block<|WP.seq<|sr<|oX 1 ?_
      obtain⟨cI,cK,bA⟩:=N.shape
      have ct:=N.2.2
      refine ov 27 (Y (.ofNat (o.l.length))) ?_ (fun _ _ _=>by rw[bA];kernel_rfl)
      refine oq 28 (nQ 256 o.l.length) fun cL b7=>WO.nil<|cq b7 (fun ag=>?_) (fun ag=>?_)
      ·
       refine sr<|oW 2 ⟨rfl,rfl,[o.v],U,?_⟩
       exact⟨o,rfl,N5 hH e (by rw[A,<-L,aI]) om (by have:=ag;omega),(N.mono b3 ck),b5,aq⟩
      ·
       refine WP.skip<|WP.region<|oX 2 ?_
       obtain⟨cw,aJ,aT⟩:=Kl
       obtain⟨cJ,cM,B⟩:=al.shape
       refine WO.cons (WC.N8 (enc:=encI) (J:=o) (w:=W.v) W.l rfl U (by rw[aR];kernel_rfl) (z.mono ax az) (fun _ _=>rfl) lP kH Bd aJ (N_ B) (by rw[B];exact al.src B) (by rw[B];rfl) (fun _ _=>rfl) (Eb _) (by decide) (by rw[aT];omega) om om om rfl ?_)
       rintro bL bt aG bf aA aD bp br bk
       have aP:=al.Tl (z.mono ax az) bp aD
       have bh:=aq.trans br om
       have bD:=ff av aD
       have bw:=HE.refl (aG) bt
       have bE:=fg (aG)
       refine oN 1<|WP.region<|ov 33 (Y (.ofNat (u+1))) ?_ (fun _ _ _=>by rw[<-gQ (show u+1<9223372036854775808 by omega)];kernel_rfl)
       refine oN 1<|⟨u6 b-(u+1),om,rfl,rfl,u+1,bL,bf,om,U,?_,?_,?_,?_,?_,?_⟩
       · exact bD
       · exact bh
       · exact(bk.mono bw bE)
       · rw[aA,A];exact(if_neg (by rw[<-A];have:=ag;omega)).symm
       · exact aP
       · rw[aA,List.length_append];have:=ag;omega
     ·
      refine WP.exit<|WP.region<|ov 34 (Y (.ofNat (fW+1))) ?_ (fun _ _ _=>by rw[<-gQ (show fW+1<9223372036854775808 by omega)];kernel_rfl)
      refine oN 1<|⟨l.l.length-(fW+1),om,rfl,rfl,fW+1,o,F,om,U,?_,?_,?_,?_,?_⟩
      · exact cj
      · exact aq
      · exact(z.mono ax az)
      · have hj:u=u6 b:=by omega
        rw[Cc e,<-aI,A,hj,L];rfl
      · exact ak
    ·
     exact⟨0,J,gr,om,U,fg _,bP,(aM),rfl,aO,bK⟩
   ·
    refine WP.skip<|sr<|oX 1<|oZ jd (0+1) (Y b.ku) fy R rfl<|oN 2<|WP.block ?_
    obtain⟨W,aR,L,aO⟩:∃W:SV Int,W.v=.slice (some ⟨(jd+1),0,none⟩) (1) 1/\W.l=AZ (m_ (n-1)) b/\gB encI 1 aw (jd+1+1) W:=⟨(⟨.slice (some ⟨(jd+1),0,none⟩) 1 1,[b.jf]⟩:SV Int),rfl,(if_neg (by have:=a8;omega)).symm,(gB.ny (enc:=encI) (by simp[encI]) bT rfl (by decide) om (by simp):gB encI 1 aw (jd+1+1) (⟨.slice (some ⟨(jd+1),0,none⟩) 1 1,[b.jf]⟩:SV Int))⟩
    have aQ:=K_ hH e
    rw[<-L]at aQ
    have cr:=HT b
    have aM:=(bQ.mono aZ ay)
    have ar:=(bR _ (fa e)).YO
    have cp:=N9 ar
    refine mu [2,5,6,7,8,23,24] (fun m hs ns vs=>∃(j:Nat) (o:SV Int) (F:Nat),j+m=u6 b/\vs=[o.v,.slice (some ⟨(jd+1),0,none⟩) (1) 1,.slice a1 (l.l.length) c2,Y (.ofNat (l.l.length)),Y (.ofNat fW),Y ((bif rU (b.ku) (1)then(1)else(b.ku))),Y (.ofNat j)]/\jd+1+1<=ns/\HE G O hs/\(mh encI 1 G F hs ns o)/\(o.l=yV W.l j J.l)/\(gB encI 1 hs ns W)/\(o.l.length<=257*n)) ?_ (u6 b) ?_
    ·
     rintro cG aF E _ ⟨j,o,F,cn,rfl,X,S,z,A,al,ak⟩ cD
     have bG:=ff bd X
     have bC:=ff ad X
     have aa:=HE.refl (E) aF
     have ai:=fg (E)
     have K:=z.ok (fun _ _=>rfl) om
     have bx:=HE.refl (E) aF
     have bH:=fg (E)
     refine sr ?_
     refine oq 25 (zm j (bif rU (b.ku) (1)then(1)else(b.ku))) fun cN b8=>WO.nil<|WP.seq<|cq b8 (fun b_=>?_) (fun b_=>?_)
     ·
      refine WP.skip<|WP.seq<|WP.block<|WP.seq<|sr<|oX 1 ?_
      obtain⟨a146,cO,bB⟩:=K.shape
      have cu:=K.2.2
      refine ov 27 (Y (.ofNat (o.l.length))) ?_ (fun _ _ _=>by rw[bB];kernel_rfl)
      refine oq 28 (nQ 256 o.l.length) fun cP b9=>WO.nil<|cq b9 (fun ah=>?_) (fun ah=>?_)
      ·
       refine sr<|oW 2 ⟨rfl,rfl,[o.v],U,?_⟩
       exact⟨o,rfl,N5 hH e (by rw[A,<-L,aI]) om (by have:=ah;omega),(K.mono bx bH),bC,S⟩
      ·
       refine WP.skip<|WP.region<|oX 2 ?_
       obtain⟨cx,aK,aU⟩:=Kl
       obtain⟨a164,cQ,C⟩:=al.shape
       refine WO.cons (WC.N8 (enc:=encI) (J:=o) (w:=W.v) W.l rfl U (by rw[aR];kernel_rfl) (z.mono aa ai) (fun _ _=>rfl) lP kH Bd aK (N_ C) (by rw[C];exact al.src C) (by rw[C];rfl) (fun _ _=>rfl) (Eb _) (by decide) (by rw[aU];omega) om om om rfl ?_)
       rintro bM bu aH bg aB aE bq bs bl
       have aP:=al.Tl (z.mono aa ai) bq aE
       have bj:=S.trans bs om
       have bI:=ff X aE
       have bz:=HE.refl (aH) bu
       have bJ:=fg (aH)
       refine oN 1<|WP.region<|ov 33 (Y (.ofNat (j+1))) ?_ (fun _ _ _=>by rw[<-gQ (show j+1<9223372036854775808 by omega)];kernel_rfl)
       refine oN 1<|⟨u6 b-(j+1),om,rfl,rfl,j+1,bM,bg,om,U,?_,?_,?_,?_,?_,?_⟩
       · exact bI
       · exact bj
       · exact(bl.mono bz bJ)
       · rw[aB,A];exact(if_neg (by rw[<-A];have:=ah;omega)).symm
       · exact aP
       · rw[aB,List.length_append];have:=ah;omega
     ·
      refine WP.exit<|WP.region<|ov 34 (Y (.ofNat (fW+1))) ?_ (fun _ _ _=>by rw[<-gQ (show fW+1<9223372036854775808 by omega)];kernel_rfl)
      refine oN 1<|⟨l.l.length-(fW+1),om,rfl,rfl,fW+1,o,F,om,U,?_,?_,?_,?_,?_⟩
      · exact bG
      · exact S
      · exact(z.mono aa ai)
      · have hj:j=u6 b:=by omega
        rw[Cc e,<-aI,A,hj,L];rfl
      · exact ak
    ·
     exact⟨0,J,gr,om,U,fg _,aj,(aM),rfl,aO,bK⟩
  ·
   refine WP.exit<|sr<|oW 2 ⟨rfl,rfl,[J.v],U,?_⟩
   have hT:l.l.take fW=l.l:=fJ om
   rw[hT,<-Je hH]at aI
   exact⟨J,rfl,aI,(bn.mono bW ca),ab,jt⟩
 ·
  exact⟨0,⟨.slice none 0 0,[]⟩,0,om,U,fg _,hE,mh.nil,rfl,(gI _)⟩
theorem Tn(n:Nat)(M:Int)(hn:n<=17)(l:SV RPart)(hH:uj n l.l)(b:∀p∈l.l,sE n M p)(O:Ht)(G:Nat)(hl:jC jQ 3 (fun O G y=>kV O G y) O G l):WF ex 204 [l.v] O G (Kk (m_ n l.l) O G):=by
 induction n generalizing l O G with
 |zero=>exact GW 0 M hn l hH b (fun h=>absurd rfl h) O G hl
 |succ n ih=>exact GW (n+1) M hn l hH b (fun _ l O G hH b hl=>ih om l hH b O G hl) O G hl
end
end Sw
namespace Sw
noncomputable section
open Go Go.RowKit
theorem HU{n:Nat}(h:n<9223372036854775808):gy .i64 ((.ofNat n)-(1))=((n:Nat):Int)-1:=by
 cases n with
 |zero=>rfl
 |succ n=>exact(Bb (i:=n+1) (j:=1) h (by omega)).trans (by show Int.ofNat (n+1-1)=_;simp)
theorem Km{vj out:List Int}{P:Int->Prop}(hl:∀r∈vj,P r)(h:∀r∈out,P r):∀k,∀r∈yV vj k out,P r
 |0=>h
 |k+1=>by
  show∀r∈Dr vj (yV vj k out),P r
  unfold Dr;split
  · exact Km hl h k
  · intro r hr
    rcases fR.1 hr with hr|hr
    · exact Km hl h k r hr
    · exact hl r hr
theorem Jf{M:Int}:∀(n:Nat) (l:List RPart),(∀p∈l,sE n M p)->∀r∈m_ n l,0<=r/\r<=M
 |0,_,_=>fun r h=>by cases h
 |n+1,l,b=>by
  have:∀(l:List RPart) (out:List Int),(∀p∈l,sE (n+1) M p)->(∀r∈out,0<=r/\r<=M)->∀r∈l.foldl (wU (m_ n)) out,0<=r/\r<=M:=by
   intro l
   induction l with
   |nil=>intro out _ h;exact h
   |cons p l ih=>
    intro out b h
    refine ih _ (fun q e=>b q (fG _ e)) (Km ?_ h _)
    have O:=b p (fz ..)
    unfold AZ;split
    · exact Jf n _ O.sub
    · intro r hr
      rw[List.mem_singleton.1 hr]
      rcases O with⟨_,h,_⟩|⟨_,h,_⟩
      · exact h
      · omega
  exact this l [] b (fun r h=>by cases h)
theorem Pd{β:Type}{l:List β}{i:Nat}{x:β}(h:l[i]?=some x):lC (l.take (i+1))=yK (lC (l.take i)) x:=by
 rw[List.take_add_one,h,Option.toList_some];exact I2 _ _
theorem Vp{l:List Int}{i:Nat}{x:Int}(h:l[i]?=some x):List.count x (l.take (i+1))=List.count x (l.take i)+1:=by
 rw[List.take_add_one,h,Option.toList_some,List.count_append];simp
theorem To{l:List Int}{i:Nat}{x z:Int}(h:l[i]?=some x)(b:z≠x):List.count z (l.take (i+1))=List.count z (l.take i):=by
 rw[List.take_add_one,h,Option.toList_some,List.count_append,List.count_eq_zero_of_not_mem (l:=[x]) (by simpa using b)];rfl
theorem Vq{l:List Int}(z:Int)(h:z∉lC l):List.count z l=0:=List.count_eq_zero_of_not_mem fun k=>h ((FF l).2 k)
def pM(l:List Int)(i:Nat)(z:Int):Nat:=List.count z (l.take i)
theorem Xs(l:List Int)(i:Nat)(z:Int):pM l i z<=l.length:=by
 unfold pM
 have h1:=List.count_le_length (a:=z) (l:=l.take i)
 rw[List.length_take]at h1;omega
theorem Vs{l:List Int}{i:Nat}(h:l.length<=i)(z:Int):pM l i z=List.count z l:=by unfold pM;rw[List.take_of_length_le h]
theorem FR{l:List Int}{i:Nat}(z:Int)(h:z∉lC (l.take i)):pM l i z=0:=Vq z h
theorem Tp{l:List Int}{i:Nat}{x:Int}(h:l[i]?=some x):Value.int .i64 (.ofNat (pM l (i+1) x))=.int .i64 (.ofNat (pM l i x+1)):=by unfold pM;rw[Vp h]
theorem Rn{l:List Int}{i:Nat}{x z:Int}(h:l[i]?=some x)(b:z≠x):Value.int .i64 (.ofNat (pM l (i+1) z))=.int .i64 (.ofNat (pM l i z)):=by unfold pM;rw[To h b]
end
end Sw
namespace Sw
noncomputable section
open Go Go.Proofs Go.RowKit
set_option maxRecDepth 100000
set_option maxHeartbeats 1600000
theorem Jg:MK ex.T 3 (fun x:Int=>Y x):=YF U
theorem LW:ex.T.jo 326=some (.map 3 3):=U
theorem YP:ex.T.zero 3=some (Y 0):=U
def YQ(C:ka)(b:List mo)(R:List Int)(i:Nat):Prop:=∃m k,R[i]?=some m/\C.iD.l[m.toNat]?=some k/\((¬(k.jk=1↔((i:Nat):Int)=0)\/¬(k.jk=3↔((i:Nat):Int)=((R.length:Nat):Int)-1))\/(((0:Int)<((i:Nat):Int))/\∃q,R[i-1]?=some q/\¬(⟨q,m⟩:mo)∈b))
def aam(C:ka)(b:List mo)(R:List Int)(x:Int):Prop:=0<=x/\∃k,C.iD.l[x.toNat]?=some k/\((((List.count x R:Nat):Int)=0\/k.jk≠2)\/¬(⟨x,x⟩:mo)∈b)
def aan(R:List Int)(x:o7):Prop:=x.BF<=((List.count x.jf R:Nat):Int)
def Ds(C:ka)(b:List mo)(d:kc):Prop:=(((2<=(m_ 17 d.jP.l).length/\(m_ 17 d.jP.l).length<=256)/\∀i,i<(m_ 17 d.jP.l).length->¬YQ C b (m_ 17 d.jP.l) i)/\¬aam C b (m_ 17 d.jP.l) d.jX)/\∀x∈d.jx.l,(aan (m_ 17 d.jP.l)) x
def Jh(C:ka):List mo:=lC (C.jY.l.map yg)
section
open Classical
def mO(C:ka):Int:=if¬wg C then 2 else if¬BP C then 70 else if¬CK C then 71 else if qC (C.n_.l.map .step)≠0 then qC (C.n_.l.map .step)else if¬∀d∈C.fD.l,(Ds C (Jh C)) d then 72 else 0
end
theorem HV:ex.T.agg 326=some false:=U
theorem Tq:ex.T.size 326=some 1:=U
theorem Ts:ex.T.zero 326=some (.map none):=U
theorem Pe(L:List Int)(F:Int->Nat)(x:o7)(b bm:Nat)(es:List MapEntry)(y:Nat)(O:Ht)(G:Nat)(A:O.get b=some (.cells [.map (some bm)] gm.plain))(C:b<G)(hm:O.get bm=some (.map es y))(E:bm<G)(B:kU (fun x:Int=>Y x) L (fun z=>Y (.ofNat (F z))) es)(o:∀z,z∉L->F z=0):WF ex 205 [.agg (lY x).toArray,pt b 0] O G (fL G O (gi (x.BF<=((F x.jf:Nat):Int)))):=by
 refine WF.body (fi:=⟨Tryz.f205.body.getD .skip,11,[.tmp 3]⟩) U U U rfl ?_
 have hE:=HE.refl G O
 refine sr ?_
 refine WO.cons (WC.box (.agg (lY x).toArray) (lY x) rfl U rfl ?_)
 obtain⟨jy,e,iI,ia⟩:=boxed O (G) (lY x)
 rw[e];clear e
 have lq:=hE.trans iI nR
 have p:=iI.get A C
 have u:=iI.get hm E
 have j:=ff nR (fh (G))
 refine ov 3 (.bool false) ?_
 refine WO.nil ?_
 refine sr ?_
 refine WO.cons (WC.jW b (0) (.map (some bm)) U HV p rfl ?_)
 refine ov 5 (pt G 0) ?_
 refine WO.cons (WC.jW G 0 (Y x.jf) U fy ia rfl ?_)
 refine WO.cons (WC.mq (v:=Y (.ofNat (F (x.jf)))) 7 (pD ex.T jy.get 326 (.map (some bm)) ((fun x:Int=>Y x) (x.jf)) false) kf (CI (O:=jy.get) (f:=F) Jg LW YP u B o (x.jf)) ?_)
 refine ov 8 (pt G (0+1)) ?_
 refine WO.cons (WC.jW G (0+1) (Y x.BF) U fy ia rfl ?_)
 obtain⟨nZ,m,rZ⟩:=@nb (Eg (x.BF) (.ofNat (F (x.jf)))) ((x.BF)<=(((F (x.jf)):Nat):Int)) (zg)
 refine ov 10 (.bool nZ) ?_ (fun _ _ _=>by subst m;kernel_rfl)
 refine ov 3 (.bool nZ) ?_
 refine WO.nil ?_
 refine WP.ret ⟨rfl,rfl,[.bool nZ],U,?_⟩
 refine⟨⟨nZ,rfl,?_⟩,j,lq⟩
 exact rZ
theorem Ro(C:ka)(d:kc)(al b_:Nat)(cR:List MapEntry)(ad:List mo)(cS:Cf (gy .i64 ((.ofNat (C.iD.l.length))-(1))) d)(hH:uj 17 d.jP.l)(O:Ht)(G:Nat)(ag:pc O G C)(hd:lZ O G d)(ea:O.get al=some (.map cR b_))(cf:al<G)(ca:kU (fun x:mo=>.agg (qd x).toArray) ad (fun _=>.bool true) cR)(eH:ad.Nodup):WF ex 102 [.agg (iT C).toArray,.agg (iS d).toArray,.map (some al)] O G (fL G O (gi (Ds C ad d))):=by
 refine WF.body (fi:=⟨Tryz.f102.body.getD .skip,105,[.tmp 6]⟩) U U U rfl ?_
 have hE:=HE.refl G O
 refine sr ?_
 refine WO.cons (WC.box (.agg (iT C).toArray) (iT C) rfl U rfl ?_)
 obtain⟨jy,cc,iI,ia⟩:=boxed O (G) (iT C)
 rw[cc];clear cc
 have lq:=hE.trans iI nR
 have d_:=iI.get ea cf
 have ck:=fb cf (fh (G))
 have cj:=ff nR (fh (G))
 refine WO.cons (WC.box (.agg (iS d).toArray) (iS d) rfl U rfl ?_)
 obtain⟨zq,bG,xa,bA⟩:=boxed jy (G+1) (iS d)
 rw[bG];clear bG
 have bx:=lq.trans xa cj
 have cW:=xa.get d_ ck
 have bM:=fb ck (fh (G+1))
 have cX:=xa.get ia (fo (G))
 have bN:=fb (fo (G)) (fh (G+1))
 have a7:=ff cj (fh (G+1))
 refine ov 6 (.bool false) ?_
 refine WO.nil ?_
 refine sr ?_
 refine ov 14 (pt (G+1) (0+1)) ?_
 obtain⟨a21,dU,bE⟩:=hd.jP.1.shape
 have eu:=hd.jP.1.2.2
 refine WO.cons (WC.jW (G+1) (0+1) (.slice a21 (d.jP.l.length) dU) U pV bA (by rw[<-bE];rfl) ?_)
 refine WO.cons (WC.call 16 204 ([d.jP.v]) (fun _ _ _=>by(try rw[bE]);kernel_rfl) ((Tn 17 _ (by decide) d.jP hH (fun p O=>cS.1.2 p O) zq (G+1+1) (hd.jP.mono (fun _ h he hn=>h.mono he hn) bx a7)).mono ?_))
 rintro _ a6 u ⟨R,rfl,aa,ab,aD,aC⟩
 have bz:=bx.trans aC a7
 have cY:=aC.get cW bM
 have bO:=fb bM aD
 have cZ:=aC.get cX bN
 have bP:=fb bN aD
 have c0:=aC.get bA (fo (G+1))
 have bQ:=fb (fo (G+1)) aD
 have a8:=ff a7 aD
 have dm:=HE.refl (u) a6
 have bS:=fg (u)
 have cb:∀r∈R.l,0<=r/\r<((C.iD.l.length:Nat):Int):=fun r hr=>by
  have h1:=Jf 17 _ (fun p O=>cS.1.2 p O) r (by rw[<-aa];exact hr)
  have D:=ag.iD.2.2
  rw[HU om]at h1;omega
 obtain⟨ak,aw,av⟩:=ab.shape
 have ew:=ab.2.2
 rw[av]
 refine ov 7 (.slice ak (R.l.length) aw) ?_
 refine WO.nil ?_
 refine sr ?_
 refine ov 17 (.slice ak (R.l.length) aw) ?_
 refine ov 18 (Y (.ofNat (R.l.length))) ?_
 obtain⟨z,b8⟩:∃z:Int,z=gy .i64 ((.ofNat (R.l.length))-(1)):=⟨_,rfl⟩
 have eI:=ab.2.2
 have cd:z=((R.l.length:Nat):Int)-1:=by rw[b8];exact HU om
 refine ov 19 (Y z) ?_ (fun _ _ _=>by rw[b8];kernel_rfl)
 refine ov 8 (Y z) ?_
 refine WO.nil ?_
 refine WP.seq ?_
 refine sr ?_
 refine ov 20 (Y z) ?_
 obtain⟨W,dW,eh⟩:=@nb (rU (z) (1)) ((z)<(1)) (sM)
 refine ov 21 (.bool W) ?_ (fun _ _ _=>by subst dW;kernel_rfl)
 refine ov 22 (.bool W) ?_
 refine og 22 (!W) (Y z) (.bool W) (by cases W<;>rfl) (fun h=>by obtain rfl:=bF h;exact fun _ _ _=>by kernel_rfl) ?_
 obtain⟨bt,dX,ei⟩:=@nb (Eg (256) (z)) ((256)<=(z)) (zg)
 refine og 22 (!W) (.bool bt) (.bool W) (by cases W<;>rfl) (fun h=>by obtain rfl:=bF h;exact fun _ _ _=>by subst dX;kernel_rfl) ?_
 obtain⟨dV,dY,ej⟩:=@nb ((W||bt)) (((z)<(1))\/((256)<=(z))) (by rw[Bool.or_eq_true,eh,ei])
 refine WO.cons (WC.mq (v:=.bool dV) 25 (lu (.bool W) (.bool true) ((bif !W then .bool bt else undef))) kf (by rw[dY];exact lg (fun h=>by obtain rfl:W=false:=h;rfl)) ?_)
 refine WO.nil ?_
 refine cq ej (fun bR=>?_) (fun bR=>?_)
 ·
  refine sr ?_
  refine ov 6 (.bool false) ?_
  refine WO.nil ?_
  refine WP.ret ⟨rfl,rfl,[.bool false],U,?_⟩
  exact⟨⟨false,rfl,fun h=>(by cases h),fun h=>(by have h:=h.1.1.1;rw[<-aa]at h;omega)⟩,a8,bz⟩
 ·
  refine WP.skip ?_
  refine sr ?_
  refine WO.cons (WC.makeMap rfl ?_)
  obtain⟨pU,bH,aq,c3⟩:=mapped a6 (u) (.map [] 0)
  rw[bH];clear bH
  have cT:=bz.trans aq a8
  have c5:=aq.get cY bO
  have dt:=fb bO (fh (u))
  have c6:=aq.get cZ bP
  have du:=fb bP (fh (u))
  have c7:=aq.get c0 bQ
  have dv:=fb bQ (fh (u))
  have dn:=dm.trans aq bS
  have bT:=ff bS (fh (u))
  have bL:=ff a8 (fh (u))
  refine WO.cons (WC.alloc _ [.map none] rfl Ts rfl ?_)
  obtain⟨dj,bI,ae,c8⟩:=boxed pU (u+1) [.map none]
  rw[bI];clear bI
  have cU:=cT.trans ae bL
  have c9:=ae.get c5 dt
  have c_:=ae.get c6 du
  have da:=ae.get c7 dv
  have db:=ae.get c3 (fo (u))
  have dw:=fb (fo (u)) (fh (u+1))
  have dp:=dn.trans ae bT
  have dT:=ff bT (fh (u+1))
  have dr:=ff bL (fh (u+1))
  refine WO.cons (WC.u_ (u+1) (0) (.map (some u)) [.map none] [.map (some u)] [.map (some u)] 1 rfl U U Tq rfl rfl c8 rfl rfl rfl ?_)
  obtain⟨eD,bJ,bB,dc,aE⟩:=stored dj (u+1) (.cells [.map (some u)] gm.plain)
  rw[bJ];clear bJ
  have cV:=cU.trans bB om
  have dq:=dp.trans bB om
  have dd:=(aE al om).trans c9
  have de:=(aE G om).trans c_
  have df:=(aE (G+1) om).trans da
  have dg:=(aE u om).trans db
  refine WO.nil ?_
  refine WP.seq ?_
  refine sr ?_
  refine ov 27 (.slice ak (R.l.length) aw) ?_
  refine ov 28 (Y (.ofNat (R.l.length))) ?_
  refine ov 29 (Y 0) ?_
  refine WO.nil ?_
  refine WP.block ?_
  refine mu [2,3,4,7,8,9,27,28,29] (fun m hs ns vs=>∃(e:Nat) (aZ:List MapEntry) (bu:Nat),e+m=R.l.length/\vs=[.map (some al),pt G 0,pt (G+1) 0,.slice ak (R.l.length) aw,Y z,pt (u+1) 0,.slice ak (R.l.length) aw,Y (.ofNat (R.l.length)),Y (.ofNat e)]/\u+1+1<=ns/\HE G O hs/\hs.get al=some (.map cR b_)/\hs.get G=some (.cells (iT C) gm.plain)/\hs.get (G+1)=some (.cells (iS d) gm.plain)/\hs.get u=some (.map aZ bu)/\hs.get (u+1)=some (.cells [.map (some u)] gm.plain)/\HE (u) a6 hs/\(∀j,j<e->¬YQ C ad R.l j)/\(kU (fun x:Int=>Y x) (lC (R.l.take e)) (fun z=>Y (.ofNat ((pM R.l e) z))) aZ)) ?_ (R.l.length) ?_
  ·
   rintro eE N dx _ ⟨e,aZ,bu,eo,rfl,au,M,a_,aK,aL,ai,aj,aM,hinv,aB⟩ ez
   have bp:=fb dw au
   have bq:=fb (fo (u+1)) au
   have br:=ff dT au
   have K:=ff dr au
   refine sr ?_
   obtain⟨cm,cw,dy⟩:=@nb (rU (.ofNat e) (.ofNat (R.l.length))) (((e:Nat):Int)<((R.l.length:Nat):Int)) (sM)
   refine ov 30 (.bool cm) ?_ (fun _ _ _=>by subst cw;kernel_rfl)
   refine WO.nil ?_
   refine WP.seq ?_
   refine cq dy (fun dS=>?_) (fun dS=>?_)
   ·
    refine WP.skip ?_
    refine WP.seq ?_
    refine WP.block ?_
    refine sr ?_
    refine ov 31 (Y (.ofNat e)) ?_
    have aP:e<R.l.length:=by omega
    refine WO.cons (WC.iy av ab (e) lP kH (aP) ?_)
    obtain⟨E,S⟩:=gE aP
    refine WO.cons (WC.lz (Y E) av (ab.mono aM br) S rfl fy ?_)
    refine ov 10 (Y (.ofNat e)) ?_
    refine ov 11 (Y E) ?_
    refine WO.nil ?_
    refine sr ?_
    refine ov 34 (pt G (0+1)) ?_
    obtain⟨aR,cn,aF⟩:=ag.iD.shape
    have ec:=ag.iD.2.2
    refine WO.cons (WC.jW G (0+1) (.slice aR (C.iD.l.length) cn) U wP aK (by rw[<-aF];rfl) ?_)
    have bK:=cb E (fa S)
    obtain⟨af,bn⟩:∃k:Nat,E=.ofNat k:=⟨(E).toNat,(gK bK.1).symm⟩
    have aO:af=(E).toNat:=by rw[bn];rfl
    refine ov 36 (Y (.ofNat af)) ?_ (fun _ _ _=>by rw[<-bn];kernel_rfl)
    have ar:af<C.iD.l.length:=by omega
    refine WO.cons (WC.iy aF ag.iD (af) Dm yc (ar) ?_)
    refine ov 38 (pt (ga aR) (0+(af)*2+1)) ?_
    obtain⟨J,aH⟩:=gE ar
    refine WO.cons (WC.sv (ga aR) (0+(af)*2+1) (Y J.jk) U fy ((ag.iD.mono M K).pw aF (zl ar)) (nE (ag.iD.mono M K).1 aH (by decide) rfl) ?_)
    refine ov 12 (Y J.jk) ?_
    refine WO.nil ?_
    refine WP.seq ?_
    refine sr ?_
    refine ov 40 (Y J.jk) ?_
    obtain⟨ax,cx,dz⟩:=@nb (kN (J.jk) (1)) ((J.jk)=(1)) (lS)
    refine ov 41 (.bool ax) ?_ (fun _ _ _=>by subst cx;kernel_rfl)
    refine ov 42 (Y (.ofNat e)) ?_
    obtain⟨an,cy,dA⟩:=@nb (kN (.ofNat e) (0)) (((e:Nat):Int)=(0)) (lS)
    refine ov 43 (.bool an) ?_ (fun _ _ _=>by subst cy;kernel_rfl)
    obtain⟨F,cz,dB⟩:=@nb (!(bif ax then an else !an)) (¬(((J.jk)=(1))↔(((e:Nat):Int)=(0)))) (by rw[<-dz,<-dA];cases ax<;>cases an<;>simp)
    refine ov 44 (.bool F) ?_ (fun _ _ _=>by subst cz;cases ax<;>cases an<;>kernel_rfl)
    refine ov 45 (.bool F) ?_
    refine og 45 (!F) (Y J.jk) (.bool F) (by cases F<;>rfl) (fun h=>by obtain rfl:=bF h;exact fun _ _ _=>by kernel_rfl) ?_
    obtain⟨ay,cA,dC⟩:=@nb (kN (J.jk) (3)) ((J.jk)=(3)) (lS)
    refine og 45 (!F) (.bool ay) (.bool F) (by cases F<;>rfl) (fun h=>by obtain rfl:=bF h;exact fun _ _ _=>by subst cA;kernel_rfl) ?_
    refine og 45 (!F) (Y (.ofNat e)) (.bool F) (by cases F<;>rfl) (fun h=>by obtain rfl:=bF h;exact fun _ _ _=>by kernel_rfl) ?_
    refine og 45 (!F) (Y z) (.bool F) (by cases F<;>rfl) (fun h=>by obtain rfl:=bF h;exact fun _ _ _=>by kernel_rfl) ?_
    obtain⟨ao,cB,dD⟩:=@nb (kN (.ofNat e) (z)) (((e:Nat):Int)=(z)) (lS)
    refine og 45 (!F) (.bool ao) (.bool F) (by cases F<;>rfl) (fun h=>by obtain rfl:=bF h;exact fun _ _ _=>by subst cB;kernel_rfl) ?_
    obtain⟨aS,cC,dE⟩:=@nb (!(bif ay then ao else !ao)) (¬(((J.jk)=(3))↔(((e:Nat):Int)=(z)))) (by rw[<-dC,<-dD];cases ay<;>cases ao<;>simp)
    refine og 45 (!F) (.bool aS) (.bool F) (by cases F<;>rfl) (fun h=>by obtain rfl:=bF h;exact fun _ _ _=>by subst cC;cases ay<;>cases ao<;>kernel_rfl) ?_
    obtain⟨o,cD,bc⟩:=@nb ((F||aS)) ((¬(((J.jk)=(1))↔(((e:Nat):Int)=(0))))\/(¬(((J.jk)=(3))↔(((e:Nat):Int)=(z))))) (by rw[Bool.or_eq_true,dB,dE])
    refine WO.cons (WC.mq (v:=.bool o) 52 (lu (.bool F) (.bool true) ((bif !F then .bool aS else undef))) kf (by rw[cD];exact lg (fun h=>by obtain rfl:F=false:=h;rfl)) ?_)
    refine ov 53 (.bool o) ?_
    refine og 53 (!o) (Y (.ofNat e)) (.bool o) (by cases o<;>rfl) (fun h=>by obtain rfl:=bF h;exact fun _ _ _=>by kernel_rfl) ?_
    obtain⟨y,cE,bd⟩:=@nb (rU (0) (.ofNat e)) ((0)<((e:Nat):Int)) (sM)
    refine og 53 (!o) (.bool y) (.bool o) (by cases o<;>rfl) (fun h=>by obtain rfl:=bF h;exact fun _ _ _=>by subst cE;kernel_rfl) ?_
    refine og 53 (!o) (.bool y) (.bool o) (by cases o<;>rfl) (fun h=>by obtain rfl:=bF h;exact fun _ _ _=>by kernel_rfl) ?_
    refine og 56 (!o&&y) (.map (some al)) ((bif !o then .bool y else undef)) (by cases o<;>cases y<;>rfl) (fun h=>by obtain⟨rfl,rfl⟩:=sY h;exact fun _ _ _=>by kernel_rfl) ?_
    refine og 56 (!o&&y) (.slice ak (R.l.length) aw) ((bif !o then .bool y else undef)) (by cases o<;>cases y<;>rfl) (fun h=>by obtain⟨rfl,rfl⟩:=sY h;exact fun _ _ _=>by kernel_rfl) ?_
    refine og 56 (!o&&y) (Y (.ofNat e)) ((bif !o then .bool y else undef)) (by cases o<;>cases y<;>rfl) (fun h=>by obtain⟨rfl,rfl⟩:=sY h;exact fun _ _ _=>by kernel_rfl) ?_
    refine og 56 (!o&&y) (Y (.ofNat (e-1))) ((bif !o then .bool y else undef)) (by cases o<;>cases y<;>rfl) (fun h=>by obtain⟨rfl,rfl⟩:=sY h;have dQ:=nf bc;have dR:=(bd).1 rfl;exact fun _ _ _=>by rw[<-Bb (show e<9223372036854775808 by omega) om];kernel_rfl) ?_
    have bD:(!o&&y)=true->e-1<R.l.length:=fun h=>by obtain⟨rfl,rfl⟩:o=false/\y=true:=(by simpa[and_assoc]using h);have dQ:¬((¬(((J.jk)=(1))↔(((e:Nat):Int)=(0))))\/(¬(((J.jk)=(3))↔(((e:Nat):Int)=(z))))):=(fun k=>absurd ((bc).2 k) (by decide));have dR:=(bd).1 rfl;omega
    refine wW 56 (!o&&y) (pt (ga ak) (0+(e-1)*1)) ((bif !o then .bool y else undef)) (by cases o<;>cases y<;>rfl) (fun h=>by obtain⟨rfl,rfl⟩:=sY h;exact WC.iy av ab (e-1) lP kH ((bD rfl)) rfl) ?_
    obtain⟨L,aI⟩:∃bw,R.l[e-1]?=some bw:=⟨_,fq om⟩
    refine wW 56 (!o&&y) (Y L) ((bif !o then .bool y else undef)) (by cases o<;>cases y<;>rfl) (fun h=>by obtain⟨rfl,rfl⟩:=sY h;exact WC.lz (Y L) av (ab.mono aM br) aI rfl fy rfl) ?_
    refine og 56 (!o&&y) (Y E) ((bif !o then .bool y else undef)) (by cases o<;>cases y<;>rfl) (fun h=>by obtain⟨rfl,rfl⟩:=sY h;exact fun _ _ _=>by kernel_rfl) ?_
    refine og 56 (!o&&y) (.agg ⟨[Y L,Y E]⟩) ((bif !o then .bool y else undef)) (by cases o<;>cases y<;>rfl) (fun h=>by obtain⟨rfl,rfl⟩:=sY h;exact fun _ _ _=>by kernel_rfl) ?_
    obtain⟨aT,cF,dF⟩:=@nb (@decide ((⟨L,E⟩:mo)∈ad) (Classical.propDecidable _)) ((⟨L,E⟩:mo)∈ad) (@decide_eq_true_iff _ (Classical.propDecidable _))
    refine wW 56 (!o&&y) (.bool aT) ((bif !o then .bool y else undef)) (by cases o<;>cases y<;>rfl) (fun h=>by obtain⟨rfl,rfl⟩:=sY h;exact WC.mq (v:=.bool aT) 65 (pD ex.T N.get 245 (.map (some al)) ((fun x:mo=>.agg (qd x).toArray) (⟨L,E⟩:mo)) false) kf (vv (O:=N.get) Jd Jc PQ a_ ca (⟨L,E⟩:mo) cF) rfl) ?_
    obtain⟨aU,cG,dG⟩:=@nb (!aT) (¬((⟨L,E⟩:mo)∈ad)) (by rw[Bool.not_eq_true',<-Bool.not_eq_true,dF])
    refine og 56 (!o&&y) (.bool aU) ((bif !o then .bool y else undef)) (by cases o<;>cases y<;>rfl) (fun h=>by obtain⟨rfl,rfl⟩:=sY h;exact fun _ _ _=>by subst cG;kernel_rfl) ?_
    obtain⟨az,cH,dH⟩:=@nb ((y&&aU)) (((0)<((e:Nat):Int))/\(¬((⟨L,E⟩:mo)∈ad))) (by rw[Bool.and_eq_true,bd,dG])
    refine wW 53 (!o) (.bool az) (.bool o) (by cases o<;>rfl) (fun h=>by obtain rfl:=bF h;exact WC.mq (v:=.bool az) 67 (lu (.bool y) ((bif !false&&y then .bool aU else undef)) (.bool false)) kf (by rw[cH];exact tL (fun h=>by obtain rfl:y=true:=h;rfl)) rfl) ?_
    obtain⟨cp,cI,dI⟩:=@nb ((o||az)) (((¬(((J.jk)=(1))↔(((e:Nat):Int)=(0))))\/(¬(((J.jk)=(3))↔(((e:Nat):Int)=(z)))))\/(((0)<((e:Nat):Int))/\(¬((⟨L,E⟩:mo)∈ad)))) (by rw[Bool.or_eq_true,bc,dH])
    refine WO.cons (WC.mq (v:=.bool cp) 68 (lu (.bool o) (.bool true) ((bif !o then .bool az else undef))) kf (by rw[cI];exact lg (fun h=>by obtain rfl:o=false:=h;rfl)) ?_)
    refine WO.nil ?_
    refine cq dI (fun bh=>?_) (fun bh=>?_)
    ·
     refine sr ?_
     refine ov 6 (.bool false) ?_
     refine WO.nil ?_
     refine WP.ret ⟨rfl,rfl,[.bool false],U,?_⟩
     refine⟨⟨false,rfl,fun h=>(by cases h),fun h=>absurd (h.1.1.2 e (by rw[<-aa];omega)) (fun k=>k ?_)⟩,K,M⟩
     rw[<-aa];refine⟨E,J,S,by rw[<-aO];exact aH,?_⟩
     rcases bh with(h3|h3)|⟨h3,h4⟩
     · exact .inl (.inl h3)
     · exact .inl (.inr (by rw[<-cd];exact h3))
     · exact .inr ⟨h3,L,aI,h4⟩
    ·
     refine WP.skip ?_
     refine WP.region ?_
     refine WO.cons (WC.jW (u+1) (0) (.map (some u)) U HV aj rfl ?_)
     refine ov 70 (Y E) ?_
     refine WO.cons (WC.mq (v:=Y (.ofNat ((pM R.l e) E))) 71 (pD ex.T N.get 326 (.map (some u)) ((fun x:Int=>Y x) E) false) kf (CI (O:=N.get) (f:=(pM R.l e)) Jg LW YP ai aB FR E) ?_)
     have eC:(pM R.l e) E<=R.l.length:=Xs _ _ _
     refine ov 72 (Y (.ofNat (((pM R.l e) E)+1))) ?_ (fun _ _ _=>by rw[<-gQ (show((pM R.l e) E)+1<9223372036854775808 by omega)];kernel_rfl)
     refine WO.cons (WC.mapUpdate (g:=(fun z=>Y (.ofNat ((pM R.l e) z)))) (g':=(fun z=>Y (.ofNat ((pM R.l (e+1)) z)))) u E (Y (.ofNat (((pM R.l e) E)+1))) rfl U U U Jg LW ai aB (rf _) (Tp S) (fun z b8=>Rn S b8) ?_)
     rintro bU cr ep bk bY ah bX
     have bV:=M.trans bk om
     have b7:=aM.trans bk om
     have bZ:=(ah al om).trans a_
     have b0:=(ah G om).trans aK
     have b3:=(ah (G+1) om).trans aL
     have b4:=(ah (u+1) om).trans aj
     refine WO.nil ?_
     refine WP.region ?_
     refine ov 73 (Y (.ofNat (e+1))) ?_ (fun _ _ _=>by rw[<-gQ (show e+1<9223372036854775808 by omega)];kernel_rfl)
     refine ov 29 (Y (.ofNat (e+1))) ?_
     refine WO.nil ?_
     refine⟨R.l.length-(e+1),om,rfl,rfl,e+1,bU,cr,om,U,?_,?_,?_,?_,?_,?_,?_,?_,?_,?_⟩
     · exact au
     · exact bV
     · exact bZ
     · exact b0
     · exact b3
     · exact bY
     · exact b4
     · exact b7
     · intro j hj;rcases Nat.lt_succ_iff_lt_or_eq.1 hj with hj|rfl
       · exact hinv j hj
       · rintro ⟨m,k,h1,D,h3⟩
         rw[S]at h1;cases h1
         rw[<-aO,aH]at D;cases D
         refine bh ?_
         rcases h3 with(h3|h3)|⟨h3,q,h4,eA⟩
         · exact .inl (.inl h3)
         · exact .inl (.inr (by rw[cd];exact h3))
         · rw[aI]at h4;cases h4;exact .inr ⟨h3,eA⟩
     · rw[Pd S];exact bX
   ·
    refine WP.exit ?_
    refine WP.seq ?_
    refine sr ?_
    have bj:∀z,pM R.l e z=List.count z R.l:=Vs om
    have en:R.l.take e=R.l:=fJ om
    obtain⟨eF,eb⟩:∃r,R.l[0]?=some r:=⟨_,fq (by have:=bR;omega)⟩
    have eB:=cb eF (fa eb)
    have dZ:=cS.1.1.2
    have eG:=ag.iD.2.2
    rw[HU om]at dZ
    refine ov 74 (pt (G+1) (0+4)) ?_
    refine WO.cons (WC.jW (G+1) (0+4) (Y d.jX) U fy aL rfl ?_)
    refine ov 13 (Y d.jX) ?_
    refine WO.nil ?_
    refine sr ?_
    refine ov 76 (Y d.jX) ?_
    obtain⟨b,cJ,bf⟩:=@nb (Eg (0) (d.jX)) ((0)<=(d.jX)) (zg)
    refine ov 77 (.bool b) ?_ (fun _ _ _=>by subst cJ;kernel_rfl)
    refine ov 78 (.bool b) ?_
    refine wW 78 (b) (.map (some u)) (.bool b) (by cases b<;>rfl) (fun h=>by obtain rfl:=h;exact WC.jW (u+1) (0) (.map (some u)) U HV aj rfl rfl) ?_
    refine og 78 (b) (Y d.jX) (.bool b) (by cases b<;>rfl) (fun h=>by obtain rfl:=h;exact fun _ _ _=>by kernel_rfl) ?_
    refine wW 78 (b) (Y (.ofNat ((pM R.l e) (d.jX)))) (.bool b) (by cases b<;>rfl) (fun h=>by obtain rfl:=h;exact WC.mq (v:=Y (.ofNat ((pM R.l e) (d.jX)))) 81 (pD ex.T N.get 326 (.map (some u)) ((fun x:Int=>Y x) (d.jX)) false) kf (CI (O:=N.get) (f:=(pM R.l e)) Jg LW YP ai aB FR (d.jX)) rfl) ?_
    obtain⟨A,cK,bg⟩:=@nb (kN (.ofNat ((pM R.l e) (d.jX))) (0)) (((((pM R.l e) (d.jX)):Nat):Int)=(0)) (lS)
    refine og 78 (b) (.bool A) (.bool b) (by cases b<;>rfl) (fun h=>by obtain rfl:=h;exact fun _ _ _=>by subst cK;kernel_rfl) ?_
    refine og 78 (b) (.bool A) (.bool b) (by cases b<;>rfl) (fun h=>by obtain rfl:=h;exact fun _ _ _=>by kernel_rfl) ?_
    refine og 83 (b&&!A) (pt G (0+1)) ((bif b then .bool A else undef)) (by cases b<;>cases A<;>rfl) (fun h=>by obtain⟨rfl,rfl⟩:=yD h;exact fun _ _ _=>by kernel_rfl) ?_
    obtain⟨a159,bs,aG⟩:=ag.iD.shape
    have ee:=ag.iD.2.2
    refine wW 83 (b&&!A) (.slice a159 (C.iD.l.length) bs) ((bif b then .bool A else undef)) (by cases b<;>cases A<;>rfl) (fun h=>by obtain⟨rfl,rfl⟩:=yD h;exact WC.jW G (0+1) (.slice a159 (C.iD.l.length) bs) U wP aK (by rw[<-aG];rfl) rfl) ?_
    obtain⟨kx,bC⟩:∃k:Nat,k=(d.jX).toNat:=⟨_,rfl⟩
    have dh:0<=d.jX->d.jX=.ofNat kx:=fun h=>by rw[bC];exact(gK h).symm
    have di:kx<C.iD.l.length:=by omega
    refine og 83 (b&&!A) (Y (.ofNat kx)) ((bif b then .bool A else undef)) (by cases b<;>cases A<;>rfl) (fun h=>by obtain⟨rfl,rfl⟩:=yD h;have dQ:=(bf).1 rfl;have dR:=nf bg;exact fun _ _ _=>by rw[<-dh om];kernel_rfl) ?_
    have aQ:(b&&!A)=true->kx<C.iD.l.length:=fun h=>by obtain⟨rfl,rfl⟩:b=true/\A=false:=(by simpa[and_assoc]using h);have dQ:=(bf).1 rfl;have dR:¬(((((pM R.l e) (d.jX)):Nat):Int)=(0)):=(fun k=>absurd ((bg).2 k) (by decide));exact di
    refine wW 83 (b&&!A) (pt (ga a159) (0+(kx)*2)) ((bif b then .bool A else undef)) (by cases b<;>cases A<;>rfl) (fun h=>by obtain⟨rfl,rfl⟩:=yD h;exact WC.iy aG ag.iD (kx) Dm yc ((aQ rfl)) rfl) ?_
    refine og 83 (b&&!A) (pt (ga a159) (0+(kx)*2+1)) ((bif b then .bool A else undef)) (by cases b<;>cases A<;>rfl) (fun h=>by obtain⟨rfl,rfl⟩:=yD h;exact fun _ _ _=>by kernel_rfl) ?_
    obtain⟨X,aJ⟩:∃bw,C.iD.l[kx]?=some bw:=⟨_,fq om⟩
    refine wW 83 (b&&!A) (Y X.jk) ((bif b then .bool A else undef)) (by cases b<;>cases A<;>rfl) (fun h=>by obtain⟨rfl,rfl⟩:=yD h;exact WC.sv (ga a159) (0+(kx)*2+1) (Y X.jk) U fy ((ag.iD.mono M K).pw aG (zl ((aQ rfl)))) (nE (ag.iD.mono M K).1 aJ (by decide) rfl) rfl) ?_
    obtain⟨aV,cL,dJ⟩:=@nb ((!(kN (X.jk) (2)))) ((X.jk)≠(2)) (F_)
    refine og 83 (b&&!A) (.bool aV) ((bif b then .bool A else undef)) (by cases b<;>cases A<;>rfl) (fun h=>by obtain⟨rfl,rfl⟩:=yD h;exact fun _ _ _=>by subst cL;kernel_rfl) ?_
    obtain⟨B,cM,dK⟩:=@nb ((A||aV)) ((((((pM R.l e) (d.jX)):Nat):Int)=(0))\/((X.jk)≠(2))) (by rw[Bool.or_eq_true,bg,dJ])
    refine wW 78 (b) (.bool B) (.bool b) (by cases b<;>rfl) (fun h=>by obtain rfl:=h;exact WC.mq (v:=.bool B) 91 (lu (.bool A) (.bool true) ((bif true&&!A then .bool aV else undef))) kf (by rw[cM];exact lg (fun h=>by obtain rfl:A=false:=h;rfl)) rfl) ?_
    refine og 78 (b) (.bool B) (.bool b) (by cases b<;>rfl) (fun h=>by obtain rfl:=h;exact fun _ _ _=>by kernel_rfl) ?_
    refine og 92 (b&&!B) (.map (some al)) ((bif b then .bool B else undef)) (by cases b<;>cases B<;>rfl) (fun h=>by obtain⟨rfl,rfl⟩:=yD h;exact fun _ _ _=>by kernel_rfl) ?_
    refine og 92 (b&&!B) (Y d.jX) ((bif b then .bool B else undef)) (by cases b<;>cases B<;>rfl) (fun h=>by obtain⟨rfl,rfl⟩:=yD h;exact fun _ _ _=>by kernel_rfl) ?_
    refine og 92 (b&&!B) (Y d.jX) ((bif b then .bool B else undef)) (by cases b<;>cases B<;>rfl) (fun h=>by obtain⟨rfl,rfl⟩:=yD h;exact fun _ _ _=>by kernel_rfl) ?_
    refine og 92 (b&&!B) (.agg ⟨[Y d.jX,Y d.jX]⟩) ((bif b then .bool B else undef)) (by cases b<;>cases B<;>rfl) (fun h=>by obtain⟨rfl,rfl⟩:=yD h;exact fun _ _ _=>by kernel_rfl) ?_
    obtain⟨aW,cN,dL⟩:=@nb (@decide ((⟨d.jX,d.jX⟩:mo)∈ad) (Classical.propDecidable _)) ((⟨d.jX,d.jX⟩:mo)∈ad) (@decide_eq_true_iff _ (Classical.propDecidable _))
    refine wW 92 (b&&!B) (.bool aW) ((bif b then .bool B else undef)) (by cases b<;>cases B<;>rfl) (fun h=>by obtain⟨rfl,rfl⟩:=yD h;exact WC.mq (v:=.bool aW) 97 (pD ex.T N.get 245 (.map (some al)) ((fun x:mo=>.agg (qd x).toArray) (⟨d.jX,d.jX⟩:mo)) false) kf (vv (O:=N.get) Jd Jc PQ a_ ca (⟨d.jX,d.jX⟩:mo) cN) rfl) ?_
    obtain⟨aX,cO,dM⟩:=@nb (!aW) (¬((⟨d.jX,d.jX⟩:mo)∈ad)) (by rw[Bool.not_eq_true',<-Bool.not_eq_true,dL])
    refine og 92 (b&&!B) (.bool aX) ((bif b then .bool B else undef)) (by cases b<;>cases B<;>rfl) (fun h=>by obtain⟨rfl,rfl⟩:=yD h;exact fun _ _ _=>by subst cO;kernel_rfl) ?_
    obtain⟨aA,cP,dN⟩:=@nb ((B||aX)) (((((((pM R.l e) (d.jX)):Nat):Int)=(0))\/((X.jk)≠(2)))\/(¬((⟨d.jX,d.jX⟩:mo)∈ad))) (by rw[Bool.or_eq_true,dK,dM])
    refine wW 78 (b) (.bool aA) (.bool b) (by cases b<;>rfl) (fun h=>by obtain rfl:=h;exact WC.mq (v:=.bool aA) 99 (lu (.bool B) (.bool true) ((bif true&&!B then .bool aX else undef))) kf (by rw[cP];exact lg (fun h=>by obtain rfl:B=false:=h;rfl)) rfl) ?_
    obtain⟨ct,cQ,dO⟩:=@nb ((b&&aA)) (((0)<=(d.jX))/\(((((((pM R.l e) (d.jX)):Nat):Int)=(0))\/((X.jk)≠(2)))\/(¬((⟨d.jX,d.jX⟩:mo)∈ad)))) (by rw[Bool.and_eq_true,bf,dN])
    refine WO.cons (WC.mq (v:=.bool ct) 100 (lu (.bool b) ((bif b then .bool aA else undef)) (.bool false)) kf (by rw[cQ];exact tL (fun h=>by obtain rfl:b=true:=h;rfl)) ?_)
    refine WO.nil ?_
    refine cq dO (fun aN=>?_) (fun aN=>?_)
    ·
     refine sr ?_
     refine ov 6 (.bool false) ?_
     refine WO.nil ?_
     refine WP.ret ⟨rfl,rfl,[.bool false],U,?_⟩
     refine⟨⟨false,rfl,fun h=>(by cases h),fun h=>absurd ?_ h.1.2⟩,K,M⟩
     rw[<-aa];exact⟨aN.1,X,by rw[<-bC];exact aJ,by have D:=aN.2;rwa[bj]at D⟩
    ·
     refine WP.skip ?_
     refine sr ?_
     refine ov 101 (pt (G+1) (0+3)) ?_
     obtain⟨a173,cu,bo⟩:=hd.jx.shape
     have ef:=hd.jx.2.2
     refine WO.cons (WC.jW (G+1) (0+3) (.slice a173 (d.jx.l.length) cu) U zr aL (by rw[<-bo];rfl) ?_)
     refine ov 103 (.func (.func 205) #[] #[pt (u+1) 0]) ?_
     refine WO.cons (WC.call 104 183 ([d.jx.v,.func (.func 205) #[] #[pt (u+1) 0]]) (fun _ _ _=>by(try rw[bo]);kernel_rfl) ((FM (fun x:o7=>x.BF<=(((pM R.l e) x.jf:Nat):Int)) d.jx 205 #[pt (u+1) 0] N (dx) (hd.jx.mono M K) (fun i x hx e9 e_ hn he=>Pe _ (pM R.l e) x (u+1) u _ _ e9 e_ (he.get aj bq) (fb bq hn) (he.get ai bp) (fb bp hn) aB FR)).mono ?_))
     rintro _ et ey ⟨⟨aY,rfl,dP⟩,b6,b5⟩
     have bW:=M.trans b5 K
     have b9:=ff K b6
     refine ov 6 (.bool aY) ?_
     refine WO.nil ?_
     refine WP.ret ⟨rfl,rfl,[.bool aY],U,?_⟩
     refine⟨⟨aY,rfl,dP.trans ⟨fun h=>⟨⟨⟨by rw[<-aa];have:=bR;omega,fun j hj=>by rw[<-aa]at hj⊢;exact hinv j om⟩,?_⟩,fun x hx=>by have h:=h x hx;simp only[bj]at h;rw[<-aa];exact h⟩,fun h x hx=>by have h:=h.2 x hx;rw[<-aa]at h;simp only[bj];exact h⟩⟩,b9,bW⟩
     rw[<-aa];rintro ⟨h1,k,D,h3⟩;rw[<-bC,aJ]at D;cases D;exact aN ⟨h1,by rw[bj];exact h3⟩
  ·
   exact⟨0,([]:List MapEntry),0,om,U,fg _,cV,dd,de,df,dg,dc,dq,(fun j h=>absurd h (fK _)),(show kU _ (lC (R.l.take 0)) _ _ from kU.nil)⟩
end
end Sw
