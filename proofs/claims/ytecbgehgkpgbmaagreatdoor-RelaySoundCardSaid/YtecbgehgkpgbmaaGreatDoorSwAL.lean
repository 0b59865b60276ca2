/- A part of the proof that the law returns true for every input that its row speaks of. No condition is added. -/
import Derived.Test.YtecbgehgkpgbmaaGreatDoorSwAK
import Derived.Test.YtecbgehgkpgbmaaGreatDoorSwAG
import Derived.Test.YtecbgehgkpgbmaaGreatDoorSwAJ
import Derived.Test.YtecbgehgkpgbmaaGreatDoorSwAF
namespace Sw
noncomputable section
open Go Go.Proofs Go.RowKit
set_option maxRecDepth 100000
set_option maxHeartbeats 1600000
theorem JW{x lo hi:Int}:(∀y∈[x],lo<=y/\y<=hi)↔lo<=x/\x<=hi:=by simp
theorem V8{α:Type}{l:List α}{P:α->Prop}:(¬∃x∈l,¬P x)↔∀x∈l,P x:=
 ⟨fun h x hx=>fg.1 fun k=>h ⟨x,hx,k⟩,fun h ⟨x,hx,k⟩=>k (h x hx)⟩
theorem Q0{α:Type}{l:List α}:((l.length:Nat):Int)=0↔l=[]:=by rw[<-List.length_eq_zero_iff];omega
section
variable {c:RCond}{s:RStep}
theorem ma.JY(k:c.je=1):ma c↔(1<=c.rW/\c.rW<=3)/\(0<=c.fN/\c.fN<=10000)/\c.fT.l=[]:=
 ⟨fun h=>by
   cases h with
   |leaf _ v n p=>exact⟨v,n,p⟩
   |neg b=>omega
   |many b=>omega,fun⟨v,n,p⟩=>.leaf k v n p⟩
theorem ma.Ys(k:c.je=4):ma c↔(c.rW=0/\c.fN=0/\c.fT.l.length=1)/\∀x∈c.fT.l,ma x:=
 ⟨fun h=>by
   cases h with
   |leaf b=>omega
   |neg _ v n p h=>exact⟨⟨v,n,p⟩,h⟩
   |many b=>omega,fun⟨⟨v,n,p⟩,h⟩=>.neg k v n p h⟩
theorem ma.Fy(k:c.je=2\/c.je=3):ma c↔(c.rW=0/\c.fN=0/\0<c.fT.l.length/\c.fT.l.length<=16)/\∀x∈c.fT.l,ma x:=
 ⟨fun h=>by
   cases h with
   |leaf b=>omega
   |neg b=>omega
   |many _ v n p h=>exact⟨⟨v,n,p⟩,h⟩,fun⟨⟨v,n,p⟩,h⟩=>.many k v n p h⟩
theorem ma.U0(h1:¬c.je=1)(D:¬c.je=2)(h3:¬c.je=3)(h4:¬c.je=4):¬ma c:=fun h=>by
 cases h with
 |leaf k=>exact h1 k
 |neg k=>exact h4 k
 |many k=>omega
theorem Ae:(∀x∈qA (.cond c),qQ x)↔∀x∈c.fT.l,ma x:=by simp[qA,qQ]
theorem pB.JY(k:s.je=1):pB s↔(1<=s.Bn/\s.Bn<=5)/\nI s.iZ/\qA (.step s)=[]:=
 ⟨fun h=>by
   cases h with
   |one _ b c t e=>exact⟨b,c,by simp[qA,t,e]⟩
   |VS j=>omega,fun⟨b,c,p⟩=>by
   simp[qA]at p
   exact .one k b c p.1 p.2⟩
theorem pB.Fy(k:s.je=2):pB s↔s.Bn=0/\ma s.iZ/\0<s.l_.l.length/\∀x∈qA (.step s),qQ x:=
 ⟨fun h=>by
   cases h with
   |one j=>omega
   |VS _ b c t0 t e=>
    refine⟨b,c,List.length_pos_iff.2 t0,fun x hx=>?_⟩
    rcases fI.1 hx with hx|hx
    · obtain⟨y,hy,rfl⟩:=fO.1 hx;exact t y hy
    · obtain⟨y,hy,rfl⟩:=fO.1 hx;exact e y hy,
 fun⟨b,c,t0,h⟩=>.VS k b c (List.length_pos_iff.1 t0) (fun x hx=>h (.step x) (fC _ (fO.2 ⟨x,hx,rfl⟩))) (fun x hx=>h (.step x) (gl _ (fO.2 ⟨x,hx,rfl⟩)))⟩
theorem pB.U0(h1:¬s.je=1)(D:¬s.je=2):¬pB s:=fun h=>by
 cases h with
 |one k=>exact h1 k
 |VS k=>exact D k
end
section
open Classical
variable (sub:List j7->Int->Int->Int->Bool×Int×Int)
def zK(f:j7)(a b d:Int):Bool×Int×Int:=if 64<a\/256<b then(false,a,b)else sub (qA f) a b (gn .i64 (d+1))
def vv(f:j7)(a b d:Int):Bool×Int×Int:=match f with
 |.cond _=>zK sub f a (gn .i64 (b+1)) d
 |.step s=>if nI s.iZ then zK sub f (gn .i64 (a+1)) b d else if(sub [.cond s.iZ] (gn .i64 (a+1)) b 0).1=true then zK sub f (sub [.cond s.iZ] (gn .i64 (a+1)) b 0).2.1 (sub [.cond s.iZ] (gn .i64 (a+1)) b 0).2.2 d else sub [.cond s.iZ] (gn .i64 (a+1)) b 0
def KL:List j7->Int->Int->Int->Bool×Int×Int
 |[],a,b,_=>(true,a,b)
 |f::l,a,b,d=>if(vv sub f a b d).1=true then KL l (vv sub f a b d).2.1 (vv sub f a b d).2.2 d else vv sub f a b d
end
section
open Classical
def BC:Nat->List j7->Int->Int->Int->Bool×Int×Int
 |0,_,a,b,_=>(true,a,b)
 |k+1,l,a,b,d=>if 0<((l.length:Nat):Int)/\16<d then(false,a,b)else KL (BC k) l a b d
variable {sub:List j7->Int->Int->Int->Bool×Int×Int}{f:j7}{c:RCond}{s:RStep}{a b d a' b' na nb:Int}{r:Bool×Int×Int}{l:List j7}{i k:Nat}
theorem yE(h:64<a\/256<b):zK sub f a b d=(false,a,b):=if_pos h
theorem wD(h:¬(64<a\/256<b)):zK sub f a b d=sub (qA f) a b (gn .i64 (d+1)):=if_neg h
theorem DS:vv sub (.cond c) a b d=zK sub (.cond c) a (gn .i64 (b+1)) d:=rfl
theorem Cu(h:nI s.iZ):vv sub (.step s) a b d=zK sub (.step s) (gn .i64 (a+1)) b d:=if_pos h
theorem xa(h:¬nI s.iZ)(D:sub [.cond s.iZ] (gn .i64 (a+1)) b 0=(true,na,nb)):vv sub (.step s) a b d=zK sub (.step s) na nb d:=
 (if_neg h).trans (by rw[D];exact if_pos rfl)
theorem OQ(h:¬nI s.iZ)(D:sub [.cond s.iZ] (gn .i64 (a+1)) b 0=(false,na,nb)):vv sub (.step s) a b d=(false,na,nb):=
 (if_neg h).trans (by rw[D];exact if_neg (fun h=>by cases h))
theorem NF(hx:l[i]?=some f):l.drop i=f::l.drop (i+1):=by
 have hi:=(fe.1 hx).1
 rw[List.drop_eq_getElem_cons hi,(List.getElem?_eq_some_iff.1 hx).2]
theorem Hz(hx:l[i]?=some f)(h:vv sub f a b d=(true,a',b')):KL sub (l.drop i) a b d=KL sub (l.drop (i+1)) a' b' d:=by
 rw[NF hx]
 show(if(vv sub f a b d).1=true then _ else _)=_
 rw[h];exact if_pos rfl
theorem xA(hx:l[i]?=some f)(h:vv sub f a b d=(false,a',b')):KL sub (l.drop i) a b d=(false,a',b'):=by
 rw[NF hx]
 show(if(vv sub f a b d).1=true then _ else _)=_
 rw[h];exact if_neg (fun h=>by cases h)
theorem zL(hk:∀f∈l,xN f<k)(h:¬(0<((l.length:Nat):Int)/\16<d)):BC k l a b d=KL (BC (k-1)) l a b d:=by
 cases k with
 |zero=>
  cases l with
  |nil=>rfl
  |cons f l=>exact absurd (hk f (fh ..)) (fz _)
 |succ k=>exact if_neg h
theorem W4(hk:∀f∈l,xN f<k)(h:0<((l.length:Nat):Int)/\16<d):BC k l a b d=(false,a,b):=by
 cases k with
 |zero=>
  cases l with
  |nil=>exact absurd h.1 (by simp)
  |cons f l=>exact absurd (hk f (fh ..)) (fz _)
 |succ k=>exact if_pos h
def NG:List j7->Nat
 |[]=>0
 |f::l=>max (xN f+1) (NG l)
theorem SS:∀(l:List j7),∀f∈l,xN f<NG l
 |[],_,h=>by cases h
 |g::l,f,h=>by
  rcases fM.1 h with rfl|h
  · show xN f<max _ _;omega
  · have:=SS l f h;show xN f<max _ _;omega
def qo(l:List j7):Int:=if¬(BC (NG l) l 0 0 0).1=true then 2 else if((l.length:Nat):Int)=0\/∃x∈l,¬qQ x then 71 else 0
theorem W5{c:Bool}{a b:Int}(h:(c,a,b)=BC (NG l) l 0 0 0)(hc:¬c=true):qo l=2:=if_pos (by rw[<-h];exact hc)
theorem U1{c:Bool}{a b:Int}(h:(c,a,b)=BC (NG l) l 0 0 0)(hc:c=true)(e:((l.length:Nat):Int)=0\/∃x∈l,¬qQ x):qo l=71:=(if_neg (by rw[<-h];exact fun k=>k hc)).trans (if_pos e)
theorem W6{c:Bool}{a b:Int}(h:(c,a,b)=BC (NG l) l 0 0 0)(hc:c=true)(e:¬(((l.length:Nat):Int)=0\/∃x∈l,¬qQ x)):qo l=0:=(if_neg (by rw[<-h];exact fun k=>k hc)).trans (if_neg e)
end
theorem NH:ex.T.agg 466=some false:=U
theorem NI:ex.T.agg 469=some true:=U
theorem xB:ex.T.agg 553=some true:=U
theorem B2:ex.T.size 469=some 8:=U
theorem ru:ex.T.size 553=some 4:=U
theorem KM:ex.T.zero 469=some (.agg ⟨[Y 0,Y 0,Y 0,Y 0,Y 0,.slice none (0) 0,.slice none (0) 0,.slice none (0) 0]⟩):=U
theorem B3:ex.T.zero 553=some (.agg ⟨[Y 0,Y 0,Y 0,.slice none (0) 0]⟩):=U
theorem JZ{A:j7->Prop}(K:SV j7)(f:FuncId)(b:Array Value)(O:Ht)(G:Nat)(hK:ju mh 1 (fun O G y=>mi O G y) O G K)(hf:∀(i:Nat) (x:j7),K.l[i]?=some x->∀(eZ:Ht) (e5:Nat),G<=e5->HE G O eZ->WF ex f ((fv x)::b.toList) eZ e5 (fG e5 eZ (ga (A x)))):WF ex 357 [K.v,.func (.func f) #[] b] O G (fG G O (pW K.l A)):=by
 obtain⟨a1,c2,hR⟩:=hK.1.shape
 have lU:=hK.1.2.2
 rw[hR]
 refine wd Tryz.f357 19 [.tmp 4] fun hE=>sr<|oN 1<|WP.seq<|sr<|oN 3<|WP.block ?_
 refine mg [0,1,7,8] (fun m hs ns vs=>∃(fR:Nat),fR+m=K.l.length/\vs=[.slice a1 (K.l.length) c2,.func (.func f) #[] b,Y (.ofNat (K.l.length)),Y (.ofNat fR)]/\G<=ns/\HE (G) O hs/\(∀(j:Nat) (y:j7),j<fR->K.l[j]?=some y->¬A y)) ?_ (K.l.length) ?_
 ·
  rintro xM p_ iY _ ⟨fR,ui,rfl,oF,jl,hinv⟩ uj
  have j2:=hE.trans jl
  refine sr ?_
  refine oq 9 (kL fR K.l.length) fun nu rM=>WO.nil<|WP.seq<|cq rM (fun w9=>?_) (fun w9=>?_)
  ·
   refine WP.skip<|WP.seq<|WP.block<|sr<|oN 2<|sr<|oX 3 ?_
   have nz:fR<K.l.length:=by omega
   refine WO.cons (WC.iy hR hK.1 (fR) zg zI (nz) ?_)
   obtain⟨lv,kB⟩:=gE nz
   refine WO.cons (WC.lz (fv lv) hR (hK.1.mono j2 nR) kB rfl NH<|WO.cons (WC.call 16 f ((fv lv)::b.toList) kf ((hf fR lv kB p_ (iY) om j2).mono ?_)))
   rintro _ JD Un ⟨⟨Fa,rfl,CW⟩,Uo,uk⟩
   refine WO.nil<|cq CW (fun wJ=>?_) (fun wJ=>?_)
   ·
    refine sr<|oW 2 ⟨rfl,rfl,[Y (.ofNat fR)],U,?_⟩
    exact⟨.inr ⟨fR,lv,rfl,kB,wJ,hinv⟩,od,(j2.trans uk)⟩
   ·
    refine WP.skip<|WP.region<|ov 18 (Y (.ofNat (fR+1))) ?_ (fun _ _ _=>by rw[<-gM (show fR+1<9223372036854775808 by omega)];kernel_rfl)
    refine oN 1<|⟨K.l.length-(fR+1),om,rfl,rfl,fR+1,om,U,?_,?_,?_⟩
    · exact od
    · exact(jl.trans uk oF)
    · intro j y hj hy;rcases fo.1 hj with hj|rfl;exact hinv j y hj hy;rw[kB]at hy;cases hy;exact wJ
  ·
   refine WP.exit<|sr<|oW 1 ⟨rfl,rfl,[Y (-1)],U,?_⟩
   refine⟨.inl ⟨rfl,fun y hy=>?_⟩,od,j2⟩
   obtain⟨j,hj⟩:=fJ hy
   exact hinv j y (by have:=(fe.1 hj).1;omega) hj
 ·
  exact⟨0,om,U,e9 _,HE.refl _ _,(fun j y h=>absurd h (fz _))⟩
theorem se{A:j7->Prop}(K:SV j7)(f:FuncId)(b:Array Value)(O:Ht)(G:Nat)(hK:ju mh 1 (fun O G y=>mi O G y) O G K)(hf:∀(i:Nat) (x:j7),K.l[i]?=some x->∀(eZ:Ht) (e5:Nat),G<=e5->HE G O eZ->WF ex f ((fv x)::b.toList) eZ e5 (fG e5 eZ (ga (A x)))):WF ex 281 [K.v,.func (.func f) #[] b] O G (fG G O (ga (∃x∈K.l,A x))):=by
 have mC:=fF (e:=ex) 281 Tryz.f281 9 [.tmp 4]
 have nC:=@JZ
 exact MZ
theorem yF(f:j7)(O:Ht)(G:Nat)(hf:mi O G f)(b:WF ex 358 [fv f] O G (fG G O (ga (qQ f)))):WF ex 282 [fv f] O G (fG G O (ga (¬qQ f))):=by
 refine wd Tryz.f282 6 [.tmp 2] fun hE=>sr<|oN 1<|sr<|oX 1<|oD 4 (b) fun u j p oT o iC=>?_
 refine oq 5 (nN j) fun e m=>oW 1 ⟨rfl,rfl,[.bool e],U,?_⟩
 refine⟨⟨e,rfl,?_⟩,od,(hE.trans iC)⟩
 exact m
theorem OR(k:Nat)(ih:∀(f:j7) (O:Ht) (G:Nat),xN f<k->mi O G f->WF ex 358 [fv f] O G (fG G O (ga (qQ f))))(c:RCond)(O:Ht)(G:Nat)(hk:sizeOf c<k+1)(hc:lD O G c):WF ex 358 [.iface 553 (.agg (ij c).toArray)] O G (fG G O (ga (qQ (.cond c)))):=by
 refine wd Tryz.f358 131 [.tmp 2] fun hE=>sr<|oN 1<|WP.seq<|sr<|oN 1<|WP.block<|sr<|oN 3<|WP.cond true U (fun h1=>?_) (fun h1=>by cases h1)
 refine sr<|oA [Y 0,Y 0,Y 0,.slice none (0) 0] B3 fun cW cj cf=>?_
 have ce:=hE.trans cj nR
 have m:=e8 nR (e_ (G))
 refine oS G (0) (.agg (ij c).toArray) (ij c) (ij c) ru rfl (e7.2 ⟨rfl,w6 _ hc⟩) cf fun aT bM b cM=>?_
 have j:=ce.trans bM om
 refine WO.nil<|sr<|oX 2<|oZ G (0+0+1) (Y c.rW) ft b rfl ?_
 refine oq 14 (sN c.rW 0) fun rO uW=>oX 1<|gT 15 rO (pt G 0)<|gT 15 rO (pt G (0+0+2))<|lu 15 rO G (0+0+2) (Y c.fN) ft b rfl ?_
 refine qu 15 rO (sN c.fN 0) fun cR cn=>?_
 refine mT 20 (nA uW cn) fun e a8=>oN 1<|WP.seq<|sr<|oX 2<|oZ G (0+0+0) (Y c.je) ft b rfl<|WO.nil<|WP.block<|sr ?_
 refine oq 25 (sN c.je 1) fun cS cp=>oN 1<|cq cp (fun aB=>?_) (fun aB=>?_)
 ·
  refine sr<|oX 2<|oZ G (0+0+1) (Y c.rW) ft b rfl<|oL [Y c.rW] fun aR aN bH=>?_
  have bC:=j.trans aN m
  have bI:=aN.get b (fb (G))
  have aX:=e4 (fb (G)) (e_ (G+1))
  have aV:=e8 m (e_ (G+1))
  refine oD 30 (zJ (1) (3) (⟨.slice (some ⟨(G+1),0,none⟩) 1 1,[c.rW]⟩:SV Int) aR (G+1+1) (gx.m_ (enc:=encI) (by simp[encI]) bH rfl (by decide) om (by simp):gx encI 1 aR (G+1+1) (⟨.slice (some ⟨(G+1),0,none⟩) 1 1,[c.rW]⟩:SV Int))) fun ay bw bS o aQ sO=>?_
  have aL:=bC.trans sO aV
  have aM:=sO.get bI aX
  have aY:=e4 aX aQ
  have aw:=e8 aV aQ
  refine oX 1<|gT 31 ay (pt G 0)<|gT 31 ay (pt G (0+0+2))<|lu 31 ay G (0+0+2) (Y c.fN) ft aM rfl ?_
  cases ay with
  |true=>
   have cx:=(bw).1 rfl
   refine WO.cons (WC.kT (x:=.bool true) (g:=fV (.tmp 31)) rfl U rfl (WC.buildSlice [Y c.fN] rfl U ?_))
   obtain⟨aS,aU,aO,bJ⟩:=boxed bS (o) [Y c.fN]
   rw[aU];clear aU
   have bD:=aL.trans aO aw
   have bK:=aO.get aM aY
   have bW:=e4 aY (e_ (o))
   have aW:=e8 aw (e_ (o))
   refine WO.cons (WC.kT (x:=.bool true) (g:=fV (.tmp 31)) rfl U rfl (WC.call 36 179 ([Y 0,Y 10000,(⟨.slice (some ⟨o,0,none⟩) 1 1,[c.fN]⟩:SV Int).v]) kf ((zJ (0) (10000) (⟨.slice (some ⟨o,0,none⟩) 1 1,[c.fN]⟩:SV Int) aS (o+1) (gx.m_ (enc:=encI) (by simp[encI]) bJ rfl (by decide) om (by simp):gx encI 1 aS (o+1) (⟨.slice (some ⟨o,0,none⟩) 1 1,[c.fN]⟩:SV Int))).mono ?_)))
   rintro _ cN cP ⟨⟨al,rfl,cr⟩,bP,aP⟩
   have bE:=bD.trans aP aW
   have bL:=aP.get bK bW
   have bV:=e8 aW bP
   refine oX 2<|gT 38 al (pt G 0)<|gT 38 al (pt G (0+0+3)) ?_
   obtain⟨a66,cd,bT⟩:=hc.fT.1.shape
   have cB:=hc.fT.1.2.2
   refine lu 38 al G (0+0+3) (.slice a66 (c.fT.l.length) cd) sP bL (by rw[<-bT];rfl)<|gT 38 al (Y (.ofNat (c.fT.l.length))) ?_
   refine qu 38 al (vK c.fT.l.length 0) fun cT ct=>?_
   refine mT 44 (nA cr ct) fun w_ Fs=>oW 1 ⟨rfl,rfl,[.bool w_],U,?_⟩
   refine⟨⟨w_,rfl,?_⟩,bV,bE⟩
   show _↔ma c
   rw[ma.JY aB]
   exact(Fs).trans ⟨fun h=>⟨JW.1 cx,JW.1 h.1,Q0.1 h.2⟩,fun h=>⟨JW.2 h.2.1,Q0.2 h.2.2⟩⟩
  |false=>
   have cy:¬(∀x∈(⟨.slice (some ⟨(G+1),0,none⟩) 1 1,[c.rW]⟩:SV Int).l,(1)<=x/\x<=(3)):=nf bw
   refine oW 11 ⟨rfl,rfl,[.bool false],U,?_⟩
   refine⟨⟨false,rfl,?_⟩,aw,aL⟩
   show _↔ma c
   rw[ma.JY aB]
   exact⟨fun h=>(by cases h),fun h=>absurd (JW.2 h.1) cy⟩
 ·
  refine sr ?_
  refine oq 46 (sN c.je 4) fun Pu C1=>oN 1<|cq C1 (fun tD=>?_) (fun tD=>?_)
  ·
   refine WP.region<|oX 2<|gT 48 e (pt G 0)<|gT 48 e (pt G (0+0+3)) ?_
   obtain⟨a75,jG,bU⟩:=hc.fT.1.shape
   have cC:=hc.fT.1.2.2
   refine lu 48 e G (0+0+3) (.slice a75 (c.fT.l.length) jG) sP b (by rw[<-bU];rfl)<|gT 48 e (Y (.ofNat (c.fT.l.length))) ?_
   refine qu 48 e (vK c.fT.l.length 1) fun cU cu=>?_
   refine mT 54 (nA a8 cu) fun bu bx=>oN 1<|sr<|oX 2<|E_ 74 bu (.agg (ij c).toArray) (by rintro rfl;exact WC.im G (0) (ij c) U xB ru b rfl rfl) ?_
   cases bu with
   |true=>
    have a_:=(bx).1 rfl
    refine WO.cons (WC.kT (x:=.bool true) (g:=fV (.tmp 74)) rfl U rfl (WC.call 76 417 ([.agg (ij c).toArray]) kf ((yy c aT (G+1) (hc.mono j m)).mono ?_)))
    rintro _ au ae ⟨aC,rfl,W,bG,bQ,bN⟩
    have ar:=j.trans bN m
    have ad:=e8 m bQ
    have M:ju mh 1 (fun O G y=>mi O G y) au (ae) aC:=⟨bG.ok (ow _) (by rw[W];have:=qm (f:=.cond c) ((hc.mono ar ad));omega),fun x hx=>rf (f:=.cond c) ((hc.mono ar ad)) x (W▸hx)⟩
    have av:=HE.refl (ae) au
    have ax:=e9 (ae)
    refine WO.cons (WC.kT (x:=.bool true) (g:=fV (.tmp 74)) rfl U rfl (WC.call 77 281 ([aC.v,.func (.func 282) #[] #[]]) kf ((se (A:=fun x=>¬qQ x) aC 282 #[] au (ae) (M.mono (fun _ h he hn=>h.mono he hn) av ax) (fun i x hx eZ e5 hn he=>yF x eZ e5 (((M.mono (fun _ h he hn=>h.mono he hn) av ax).2 x (cs hx)).mono he hn) (ih x eZ e5 (by have:=vP (f:=.cond c) (W▸cs hx);have hk:=hk;simp only[xN]at this⊢;omega) (((M.mono (fun _ h he hn=>h.mono he hn) av ax).2 x (cs hx)).mono he hn)))).mono ?_)))
    rintro _ cO cQ ⟨⟨cV,rfl,cw⟩,bR,bO⟩
    have bc:=ar.trans bO ad
    have br:=e8 ad bR
    obtain⟨ao,bz,bX⟩:=nN cw
    refine WO.cons (WC.kT (x:=.bool true) (g:=fV (.tmp 74)) rfl U rfl (WC.val 78 (.bool ao) (fun _ _ _=>by subst bz;kernel_rfl)<|oW 2 ⟨rfl,rfl,[.bool ao],U,?_⟩))
    refine⟨⟨ao,rfl,?_⟩,br,bc⟩
    show _↔ma c
    rw[ma.Ys tD]
    exact(bX).trans (V8.trans ((W▸Ae).trans ⟨fun h=>⟨⟨a_.1.1,a_.1.2,by have:=a_.2;omega⟩,h⟩,fun h=>h.2⟩))
   |false=>
    have ca:¬((((c.rW)=(0))/\((c.fN)=(0)))/\(((c.fT.l.length:Nat):Int)=(1))):=nf bx
    refine oW 5 ⟨rfl,rfl,[.bool false],U,?_⟩
    refine⟨⟨false,rfl,?_⟩,m,j⟩
    show _↔ma c
    rw[ma.Ys tD]
    exact⟨fun h=>(by cases h),fun h=>absurd h.1 (fun k=>ca ⟨⟨k.1,k.2.1⟩,by rw[k.2.2];rfl⟩)⟩
  ·
   refine WP.seq<|sr ?_
   refine oq 56 (sN c.je 2) fun aF aZ=>oN 1<|WP.cond aF U (fun N=>?_) (fun N=>?_)
   ·
    have af:=(aZ).1 N
    refine WP.skip<|WP.cond aF U (fun aK=>?_) (fun aK=>absurd (N.symm.trans aK) (by decide))
    refine WP.region<|oX 2<|gT 59 e (pt G 0)<|gT 59 e (pt G (0+0+3)) ?_
    obtain⟨aD,aG,az⟩:=hc.fT.1.shape
    have ck:=hc.fT.1.2.2
    refine lu 59 e G (0+0+3) (.slice aD (c.fT.l.length) aG) sP b (by rw[<-az];rfl)<|gT 59 e (Y (.ofNat (c.fT.l.length))) ?_
    refine qu 59 e (nE 0 c.fT.l.length) fun cF bY=>?_
    refine mT 65 (nA a8 bY) fun K bZ=>oX 1<|gT 66 K (pt G 0)<|gT 66 K (pt G (0+0+3))<|lu 66 K G (0+0+3) (.slice aD (c.fT.l.length) aG) sP b (by rw[<-az];rfl)<|gT 66 K (Y (.ofNat (c.fT.l.length))) ?_
    refine qu 66 K (G_ c.fT.l.length 16) fun cG b0=>?_
    refine mT 72 (nA bZ b0) fun aH a6=>oN 1<|sr<|oX 2<|E_ 74 aH (.agg (ij c).toArray) (by rintro rfl;exact WC.im G (0) (ij c) U xB ru b rfl rfl) ?_
    cases aH with
    |true=>
     have ag:=(a6).1 rfl
     refine WO.cons (WC.kT (x:=.bool true) (g:=fV (.tmp 74)) rfl U rfl (WC.call 76 417 ([.agg (ij c).toArray]) kf ((yy c aT (G+1) (hc.mono j m)).mono ?_)))
     rintro _ X F ⟨am,rfl,z,bf,bn,bh⟩
     have R:=j.trans bh m
     have C:=e8 m bn
     have p:ju mh 1 (fun O G y=>mi O G y) X (F) am:=⟨bf.ok (ow _) (by rw[z];have:=qm (f:=.cond c) ((hc.mono R C));omega),fun x hx=>rf (f:=.cond c) ((hc.mono R C)) x (z▸hx)⟩
     have ab:=HE.refl (F) X
     have aj:=e9 (F)
     refine WO.cons (WC.kT (x:=.bool true) (g:=fV (.tmp 74)) rfl U rfl (WC.call 77 281 ([am.v,.func (.func 282) #[] #[]]) kf ((se (A:=fun x=>¬qQ x) am 282 #[] X (F) (p.mono (fun _ h he hn=>h.mono he hn) ab aj) (fun i x hx eZ e5 hn he=>yF x eZ e5 (((p.mono (fun _ h he hn=>h.mono he hn) ab aj).2 x (cs hx)).mono he hn) (ih x eZ e5 (by have:=vP (f:=.cond c) (z▸cs hx);have hk:=hk;simp only[xN]at this⊢;omega) (((p.mono (fun _ h he hn=>h.mono he hn) ab aj).2 x (cs hx)).mono he hn)))).mono ?_)))
     rintro _ cz cD ⟨⟨cH,rfl,b3⟩,bo,bj⟩
     have bd:=R.trans bj C
     have bs:=e8 C bo
     obtain⟨ap,bA,b4⟩:=nN b3
     refine WO.cons (WC.kT (x:=.bool true) (g:=fV (.tmp 74)) rfl U rfl (WC.val 78 (.bool ap) (fun _ _ _=>by subst bA;kernel_rfl)<|oW 2 ⟨rfl,rfl,[.bool ap],U,?_⟩))
     refine⟨⟨ap,rfl,?_⟩,bs,bd⟩
     show _↔ma c
     rw[ma.Fy (.inl af)]
     exact(b4).trans (V8.trans ((z▸Ae).trans ⟨fun h=>⟨⟨ag.1.1.1,ag.1.1.2,by have:=ag.1.2;omega,by have:=ag.2;omega⟩,h⟩,fun h=>h.2⟩))
    |false=>
     have cb:¬(((((c.rW)=(0))/\((c.fN)=(0)))/\((0)<((c.fT.l.length:Nat):Int)))/\(((c.fT.l.length:Nat):Int)<=(16))):=nf a6
     refine oW 5 ⟨rfl,rfl,[.bool false],U,?_⟩
     refine⟨⟨false,rfl,?_⟩,m,j⟩
     show _↔ma c
     rw[ma.Fy (.inl af)]
     exact⟨fun h=>(by cases h),fun h=>absurd h.1 (fun k=>cb ⟨⟨⟨k.1,k.2.1⟩,by have:=k.2.2.1;omega⟩,by have:=k.2.2.2;omega⟩)⟩
   ·
    have af:=nq aZ N
    refine WP.region ?_
    refine oq 57 (sN c.je 3) fun cI b5=>oN 1<|cq b5 (fun ah=>?_) (fun ah=>?_)
    ·
     refine WP.region<|oX 2<|gT 59 e (pt G 0)<|gT 59 e (pt G (0+0+3)) ?_
     obtain⟨aE,aI,aA⟩:=hc.fT.1.shape
     have cm:=hc.fT.1.2.2
     refine lu 59 e G (0+0+3) (.slice aE (c.fT.l.length) aI) sP b (by rw[<-aA];rfl)<|gT 59 e (Y (.ofNat (c.fT.l.length))) ?_
     refine qu 59 e (nE 0 c.fT.l.length) fun cJ b6=>?_
     refine mT 65 (nA a8 b6) fun L b7=>oX 1<|gT 66 L (pt G 0)<|gT 66 L (pt G (0+0+3))<|lu 66 L G (0+0+3) (.slice aE (c.fT.l.length) aI) sP b (by rw[<-aA];rfl)<|gT 66 L (Y (.ofNat (c.fT.l.length))) ?_
     refine qu 66 L (G_ c.fT.l.length 16) fun cK b8=>?_
     refine mT 72 (nA b7 b8) fun aJ a7=>oN 1<|sr<|oX 2<|E_ 74 aJ (.agg (ij c).toArray) (by rintro rfl;exact WC.im G (0) (ij c) U xB ru b rfl rfl) ?_
     cases aJ with
     |true=>
      have ai:=(a7).1 rfl
      refine WO.cons (WC.kT (x:=.bool true) (g:=fV (.tmp 74)) rfl U rfl (WC.call 76 417 ([.agg (ij c).toArray]) kf ((yy c aT (G+1) (hc.mono j m)).mono ?_)))
      rintro _ aa J ⟨an,rfl,B,bg,bp,bk⟩
      have S:=j.trans bk m
      have E:=e8 m bp
      have u:ju mh 1 (fun O G y=>mi O G y) aa (J) an:=⟨bg.ok (ow _) (by rw[B];have:=qm (f:=.cond c) ((hc.mono S E));omega),fun x hx=>rf (f:=.cond c) ((hc.mono S E)) x (B▸hx)⟩
      have ac:=HE.refl (J) aa
      have ak:=e9 (J)
      refine WO.cons (WC.kT (x:=.bool true) (g:=fV (.tmp 74)) rfl U rfl (WC.call 77 281 ([an.v,.func (.func 282) #[] #[]]) kf ((se (A:=fun x=>¬qQ x) an 282 #[] aa (J) (u.mono (fun _ h he hn=>h.mono he hn) ac ak) (fun i x hx eZ e5 hn he=>yF x eZ e5 (((u.mono (fun _ h he hn=>h.mono he hn) ac ak).2 x (cs hx)).mono he hn) (ih x eZ e5 (by have:=vP (f:=.cond c) (B▸cs hx);have hk:=hk;simp only[xN]at this⊢;omega) (((u.mono (fun _ h he hn=>h.mono he hn) ac ak).2 x (cs hx)).mono he hn)))).mono ?_)))
      rintro _ cA cE ⟨⟨cL,rfl,b9⟩,bq,bl⟩
      have be:=S.trans bl E
      have bt:=e8 E bq
      obtain⟨aq,bB,b_⟩:=nN b9
      refine WO.cons (WC.kT (x:=.bool true) (g:=fV (.tmp 74)) rfl U rfl (WC.val 78 (.bool aq) (fun _ _ _=>by subst bB;kernel_rfl)<|oW 2 ⟨rfl,rfl,[.bool aq],U,?_⟩))
      refine⟨⟨aq,rfl,?_⟩,bt,be⟩
      show _↔ma c
      rw[ma.Fy (.inr ah)]
      exact(b_).trans (V8.trans ((B▸Ae).trans ⟨fun h=>⟨⟨ai.1.1.1,ai.1.1.2,by have:=ai.1.2;omega,by have:=ai.2;omega⟩,h⟩,fun h=>h.2⟩))
     |false=>
      have cc:¬(((((c.rW)=(0))/\((c.fN)=(0)))/\((0)<((c.fT.l.length:Nat):Int)))/\(((c.fT.l.length:Nat):Int)<=(16))):=nf a7
      refine oW 5 ⟨rfl,rfl,[.bool false],U,?_⟩
      refine⟨⟨false,rfl,?_⟩,m,j⟩
      show _↔ma c
      rw[ma.Fy (.inr ah)]
      exact⟨fun h=>(by cases h),fun h=>absurd h.1 (fun k=>cc ⟨⟨⟨k.1,k.2.1⟩,by have:=k.2.2.1;omega⟩,by have:=k.2.2.2;omega⟩)⟩
    ·
     refine sr<|oW 1 ⟨rfl,rfl,[.bool false],U,?_⟩
     refine⟨⟨false,rfl,?_⟩,m,j⟩
     show _↔ma c
     exact⟨fun h=>(by cases h),fun h=>absurd h (ma.U0 aB af ah tD)⟩
theorem OS(k:Nat)(ih:∀(f:j7) (O:Ht) (G:Nat),xN f<k->mi O G f->WF ex 358 [fv f] O G (fG G O (ga (qQ f))))(s:RStep)(O:Ht)(G:Nat)(hk:sizeOf s<k+1)(hs:j3 O G s):WF ex 358 [.iface 469 (.agg (jz s).toArray)] O G (fG G O (ga (qQ (.step s)))):=by
 refine wd Tryz.f358 131 [.tmp 2] fun hE=>sr<|oN 1<|WP.seq<|sr<|oN 1<|WP.block<|sr<|oN 3<|WP.cond false U (fun h1=>by cases h1) (fun h1=>?_)
 refine sr<|oN 3<|WP.cond true U (fun D=>?_) (fun D=>by cases D)
 refine sr<|oA [Y 0,Y 0,Y 0,Y 0,Y 0,.slice none (0) 0,.slice none (0) 0,.slice none (0) 0] KM fun Ee bJ bI=>?_
 have bH:=hE.trans bJ nR
 have aO:=e8 nR (e_ (G))
 refine oS G (0) (.agg (jz s).toArray) (jz s) (jz s) B2 rfl (e7.2 ⟨rfl,Cn _ hs⟩) bI fun Cq be ao bX=>?_
 have aU:=bH.trans be om
 refine WO.nil<|sr<|oX 2<|WO.cons (WC.im G (0+0+2) (ij s.iZ) U xx sx ao rfl<|oX 1<|oA [Y 0,Y 0,Y 0,.slice none (0) 0] B3 fun bY aq aY=>?_)
 have aV:=aU.trans aq aO
 have aZ:=aq.get ao (fb (G))
 have ai:=e4 (fb (G)) (e_ (G+1))
 have b:=e8 aO (e_ (G+1))
 refine oS (G+1) (0) (.agg (ij s.iZ).toArray) (ij s.iZ) (ij s.iZ) ru rfl (e7.2 ⟨rfl,w6 _ hs.iZ⟩) aY fun bl bf ap bk=>?_
 have z:=aV.trans bf om
 have B:=(bk G om).trans aZ
 refine WO.nil<|sr<|oX 2<|oZ G (0+0+0) (Y s.je) ft B rfl<|WO.nil<|WP.block<|sr ?_
 refine oq 91 (sN s.je 1) fun b0 bL=>oN 1<|cq bL (fun S=>?_) (fun S=>?_)
 ·
  refine sr<|oX 2<|oZ G (0+0+1) (Y s.Bn) ft B rfl<|oL [Y s.Bn] fun av ae a6=>?_
  have aW:=z.trans ae b
  have a7:=ae.get B ai
  have ax:=e4 ai (e_ (G+1+1))
  have a8:=ae.get ap (fb (G+1))
  have br:=e4 (fb (G+1)) (e_ (G+1+1))
  have aw:=e8 b (e_ (G+1+1))
  refine oD 96 (zJ (1) (5) (⟨.slice (some ⟨(G+1+1),0,none⟩) 1 1,[s.Bn]⟩:SV Int) av (G+1+1+1) (gx.m_ (enc:=encI) (by simp[encI]) a6 rfl (by decide) om (by simp):gx encI 1 av (G+1+1+1) (⟨.slice (some ⟨(G+1+1),0,none⟩) 1 1,[s.Bn]⟩:SV Int))) fun aM aP bn bt au af=>?_
  have ab:=aW.trans af aw
  have a_:=af.get a7 ax
  have bs:=e4 ax au
  have bc:=af.get a8 br
  have L:=e8 aw au
  refine oX 1<|E_ 97 aM (.agg (ij s.iZ).toArray) (by rintro rfl;exact WC.im (G+1) (0) (ij s.iZ) U xB ru bc rfl rfl) ?_
  cases aM with
  |true=>
   have bO:=(aP).1 rfl
   refine WO.cons (WC.kT (x:=.bool true) (g:=fV (.tmp 97)) rfl U rfl (WC.call 99 356 ([.agg (ij s.iZ).toArray]) kf ((KG s.iZ bn (bt) (hs.iZ.mono ab L)).mono ?_)))
   rintro _ bo bu ⟨⟨aN,rfl,aQ⟩,bh,ar⟩
   have ac:=ab.trans ar L
   have bd:=ar.get a_ bs
   have M:=e8 L bh
   refine oX 2<|E_ 101 aN (.agg (jz s).toArray) (by rintro rfl;exact WC.im G (0) (jz s) U NI B2 bd rfl rfl) ?_
   cases aN with
   |true=>
    have bP:=(aQ).1 rfl
    refine WO.cons (WC.kT (x:=.bool true) (g:=fV (.tmp 101)) rfl U rfl (WC.call 103 418 ([.agg (jz s).toArray]) kf ((yz s bo (bu) (hs.mono ac M)).mono ?_)))
    rintro _ bp bw ⟨al,rfl,ag,aX,bj,bg⟩
    have ad:=ac.trans bg M
    have ah:=e8 M bj
    have R:ju mh 1 (fun O G y=>mi O G y) bp (bw) al:=⟨aX.ok (ow _) (by rw[ag];have:=qm (f:=.step s) ((hs.mono ad ah));omega),fun x hx=>rf (f:=.step s) ((hs.mono ad ah)) x (ag▸hx)⟩
    obtain⟨bZ,b3,bq⟩:=R.1.shape
    have bT:=R.1.2.2
    refine WO.cons (WC.kT (x:=.bool true) (g:=fV (.tmp 101)) rfl U rfl (WC.val 104 (Y (.ofNat (al.l.length))) (fun _ _ _=>by rw[bq];kernel_rfl) ?_))
    obtain⟨an,bG,bM⟩:=vK al.l.length 0
    refine WO.cons (WC.kT (x:=.bool true) (g:=fV (.tmp 101)) rfl U rfl (WC.val 105 (.bool an) (fun _ _ _=>by subst bG;kernel_rfl)<|oW 2 ⟨rfl,rfl,[.bool an],U,?_⟩))
    refine⟨⟨an,rfl,?_⟩,ah,ad⟩
    show _↔pB s
    rw[pB.JY S]
    exact(bM).trans ((Q0.trans (by rw[ag])).trans ⟨fun h=>⟨JW.1 bO,bP,h⟩,fun h=>h.2.2⟩)
   |false=>
    have bQ:¬(nI s.iZ):=nf aQ
    refine oW 5 ⟨rfl,rfl,[.bool false],U,?_⟩
    refine⟨⟨false,rfl,?_⟩,M,ac⟩
    show _↔pB s
    rw[pB.JY S]
    exact⟨fun h=>(by cases h),fun h=>absurd h.2.1 bQ⟩
  |false=>
   have bR:¬(∀x∈(⟨.slice (some ⟨(G+1+1),0,none⟩) 1 1,[s.Bn]⟩:SV Int).l,(1)<=x/\x<=(5)):=nf aP
   refine oW 9 ⟨rfl,rfl,[.bool false],U,?_⟩
   refine⟨⟨false,rfl,?_⟩,L,ab⟩
   show _↔pB s
   rw[pB.JY S]
   exact⟨fun h=>(by cases h),fun h=>absurd (JW.2 h.1) bR⟩
 ·
  refine sr ?_
  refine oq 108 (sN s.je 2) fun b4 bN=>oN 1<|cq bN (fun C=>?_) (fun C=>?_)
  ·
   refine sr<|oX 2<|oZ G (0+0+1) (Y s.Bn) ft B rfl ?_
   refine oq 112 (sN s.Bn 0) fun X ay=>oX 1<|E_ 113 X (.agg (ij s.iZ).toArray) (by rintro rfl;exact WC.im (G+1) (0) (ij s.iZ) U xB ru ap rfl rfl)<|gT 113 X (.iface 553 (.agg (ij s.iZ).toArray)) ?_
   cases X with
   |true=>
    have bC:=(ay).1 rfl
    refine WO.cons (WC.kT (x:=.bool true) (g:=fV (.tmp 113)) rfl U rfl (WC.call 116 358 ([.iface 553 (.agg (ij s.iZ).toArray)]) kf ((ih (j7.cond s.iZ) bl (G+1+1) (by have:=RStep.Pm s;simp only[xN];omega) (hs.iZ.mono z b)).mono ?_)))
    rintro _ aI aL ⟨⟨u,rfl,bx⟩,aF,ak⟩
    have E:=z.trans ak b
    have aj:=ak.get B ai
    have m:=e8 b aF
    refine oX 2<|gT 118 u (pt G 0)<|gT 118 u (pt G (0+0+6)) ?_
    obtain⟨aR,aS,aJ⟩:=hs.l_.1.shape
    have bK:=hs.l_.1.2.2
    refine lu 118 u G (0+0+6) (.slice aR (s.l_.l.length) aS) vd aj (by rw[<-aJ];rfl)<|gT 118 u (Y (.ofNat (s.l_.l.length))) ?_
    refine qu 118 u (nE 0 s.l_.l.length) fun bV bz=>?_
    refine mT 124 (nA bx bz) fun am az=>oX 1<|E_ 125 am (.agg (jz s).toArray) (by rintro rfl;exact WC.im G (0) (jz s) U NI B2 aj rfl rfl) ?_
    cases am with
    |true=>
     have aA:=(az).1 rfl
     refine WO.cons (WC.kT (x:=.bool true) (g:=fV (.tmp 125)) rfl U rfl (WC.call 127 418 ([.agg (jz s).toArray]) kf ((yz s aI (aL) (hs.mono E m)).mono ?_)))
     rintro _ J p ⟨W,rfl,e,aC,aG,aD⟩
     have F:=E.trans aD m
     have o:=e8 m aG
     have j:ju mh 1 (fun O G y=>mi O G y) J (p) W:=⟨aC.ok (ow _) (by rw[e];have:=qm (f:=.step s) ((hs.mono F o));omega),fun x hx=>rf (f:=.step s) ((hs.mono F o)) x (e▸hx)⟩
     have K:=HE.refl (p) J
     have N:=e9 (p)
     refine WO.cons (WC.kT (x:=.bool true) (g:=fV (.tmp 125)) rfl U rfl (WC.call 128 281 ([W.v,.func (.func 282) #[] #[]]) kf ((se (A:=fun x=>¬qQ x) W 282 #[] J (p) (j.mono (fun _ h he hn=>h.mono he hn) K N) (fun i x hx eZ e5 hn he=>yF x eZ e5 (((j.mono (fun _ h he hn=>h.mono he hn) K N).2 x (cs hx)).mono he hn) (ih x eZ e5 (by have:=vP (f:=.step s) (e▸cs hx);have hk:=hk;simp only[xN]at this⊢;omega) (((j.mono (fun _ h he hn=>h.mono he hn) K N).2 x (cs hx)).mono he hn)))).mono ?_)))
     rintro _ bS bU ⟨⟨bW,rfl,bA⟩,aH,aE⟩
     have aB:=F.trans aE o
     have aK:=e8 o aH
     obtain⟨aa,aT,bB⟩:=nN bA
     refine WO.cons (WC.kT (x:=.bool true) (g:=fV (.tmp 125)) rfl U rfl (WC.val 129 (.bool aa) (fun _ _ _=>by subst aT;kernel_rfl)<|oW 2 ⟨rfl,rfl,[.bool aa],U,?_⟩))
     refine⟨⟨aa,rfl,?_⟩,aK,aB⟩
     show _↔pB s
     rw[pB.Fy C]
     exact(bB).trans (V8.trans ⟨fun h=>⟨bC,aA.1,by have:=aA.2;omega,e▸h⟩,fun h=>e▸h.2.2.2⟩)
    |false=>
     have bD:¬((qQ (j7.cond s.iZ))/\((0)<((s.l_.l.length:Nat):Int))):=nf az
     refine oW 5 ⟨rfl,rfl,[.bool false],U,?_⟩
     refine⟨⟨false,rfl,?_⟩,m,E⟩
     show _↔pB s
     rw[pB.Fy C]
     exact⟨fun h=>(by cases h),fun h=>(bD ⟨h.2.1,by have:=h.2.2.1;omega⟩).elim⟩
   |false=>
    have bE:¬((s.Bn)=(0)):=nf ay
    refine oW 16 ⟨rfl,rfl,[.bool false],U,?_⟩
    refine⟨⟨false,rfl,?_⟩,b,z⟩
    show _↔pB s
    rw[pB.Fy C]
    exact⟨fun h=>(by cases h),fun h=>absurd h.1 bE⟩
  ·
   refine WP.skip<|sr<|oW 1 ⟨rfl,rfl,[.bool false],U,?_⟩
   refine⟨⟨false,rfl,?_⟩,b,z⟩
   show _↔pB s
   exact⟨fun h=>(by cases h),fun h=>absurd h (pB.U0 S C)⟩
theorem U2(f:j7)(O:Ht)(G:Nat)(hf:mi O G f):WF ex 358 [fv f] O G (fG G O (ga (qQ f))):=by
 have h:∀(k:Nat),∀(f:j7) (O:Ht) (G:Nat),xN f<k->mi O G f->WF ex 358 [fv f] O G (fG G O (ga (qQ f))):=by
  intro k
  induction k with
  |zero=>intro _ _ _ h;exact absurd h (fz _)
  |succ k ih=>
   intro f O G hk hf
   cases f with
   |cond c=>exact OR k ih c O G hk hf
   |step s=>exact OS k ih s O G hk hf
 exact h _ f O G (fb _) hf
theorem PA(k:Nat)(ih:∀j,j+1=k->∀(l:SV j7) (o:Nat) (a b d:Int) (O:Ht) (G:Nat),O.get o=some (.cells [Y a,Y b] gi.plain)->o<G->ju mh 1 (fun O G y=>mi O G y) (O.set o none) G l->(∀f∈l.l,xN f<j)->WF ex 280 [pt o 0,l.v,Y d] O G (fun v eZ e5=>(∃(c:Bool) (a' b':Int),v=.bool c/\(c,a',b')=BC j l.l a b d/\eZ.get o=some (.cells [Y a',Y b'] gi.plain))/\G<=e5/\HE G (O.set o none) (eZ.set o none)))(l:SV j7)(o:Nat)(a b d:Int)(O:Ht)(G:Nat)(hb:O.get o=some (.cells [Y a,Y b] gi.plain))(jA:o<G)(hl:ju mh 1 (fun O G y=>mi O G y) (O.set o none) G l)(hk:∀f∈l.l,xN f<k):WF ex 280 [pt o 0,l.v,Y d] O G (fun v eZ e5=>(∃(c:Bool) (a' b':Int),v=.bool c/\(c,a',b')=BC k l.l a b d/\eZ.get o=some (.cells [Y a',Y b'] gi.plain))/\G<=e5/\HE G (O.set o none) (eZ.set o none)):=by
 obtain⟨a1,c2,hR⟩:=hl.1.shape
 have lU:=hl.1.2.2
 rw[hR]
 refine wb ⟨Tryz.f280.body.getD .skip,83,[.tmp 6]⟩ ?_
 have hE:=HE.refl G (O.set o none)
 refine sr<|oN 1<|WP.seq<|sr<|oX 2 ?_
 refine oq 14 (nE 0 l.l.length) fun c4 p4=>oX 1<|gT 15 c4 (Y d) ?_
 refine qu 15 c4 (mr 16 d) fun dp c_=>?_
 refine mT 18 (nA p4 c_) fun dq da=>WO.nil<|cq da (fun ak=>?_) (fun ak=>?_)
 ·
  refine sr<|oW 1 ⟨rfl,rfl,[.bool false],U,?_⟩
  exact⟨⟨_,_,_,rfl,(W4 hk ak).symm,hb⟩,nR,hE⟩
 ·
  refine WP.skip<|WP.seq<|sr<|oN 3<|WP.block ?_
  refine mg [0,2,19,20,21] (fun m hs ns vs=>∃(z:Nat) (C:Int) (E:Int),z+m=l.l.length/\vs=[pt o 0,Y d,.slice a1 (l.l.length) c2,Y (.ofNat (l.l.length)),Y (.ofNat z)]/\G<=ns/\HE G (O.set o none) (hs.set o none)/\hs.get o=some (.cells [Y C,Y E] gi.plain)/\(KL (BC (k-1)) l.l a b d=KL (BC (k-1)) (l.l.drop z) C E d)) ?_ (l.l.length) ?_
  ·
   rintro dl y9 vl _ ⟨z,C,E,cF,rfl,cY,aj,aC,ai⟩ dh
   refine sr ?_
   refine oq 22 (kL z l.l.length) fun di cx=>WO.nil<|WP.seq<|cq cx (fun cC=>?_) (fun cC=>?_)
   ·
    refine WP.skip<|WP.seq<|WP.block<|sr ?_
    have aR:z<l.l.length:=by omega
    refine WO.cons (WC.iy hR ((hl.1.mono aj).un) (z) zg zI (aR) ?_)
    obtain⟨bP,p⟩:=gE aR
    refine WO.cons (WC.lz (fv bP) hR ((hl.1.mono aj).un) p rfl NH<|oN 1<|WP.seq<|sr<|oN 1<|WP.block<|WP.seq ?_)
    rcases bP with e|e
    ·
     have X:lD (O.set o none) G e:=hl.2 _ (cs p)
     refine WP.region<|oN 3<|WP.cond true U (fun bK=>?_) (fun bK=>by cases bK)
     refine sr<|oA [Y 0,Y 0,Y 0,.slice none (0) 0] B3 fun c0 bh bW=>?_
     refine oS vl (0) (.agg (ij e).toArray) (ij e) (ij e) ru rfl (e7.2 ⟨rfl,w6 _ X⟩) bW fun c3 bY cW bZ=>?_
     have bf:=(bZ o om).trans (bh.get aC)
     refine WO.nil<|WP.region<|oX 3<|oZ o (0+1) (Y E) ft bf rfl<|oX 3<|oS o (0+1) (Y (gn .i64 ((E)+(1)))) [Y C,Y (gn .i64 ((E)+(1)))] [Y (gn .i64 ((E)+(1)))] kp rfl rfl bf fun b3 cX an b0=>?_
     have az:=((aj.trans (bh.er (b:=o))).trans (bY.er (b:=o))).trans (HE.ZH (B:=G) b0)
     refine WO.nil<|sr<|oX 3<|oZ o 0 (Y C) ft an rfl ?_
     refine oq 65 (mr 64 C) fun ar cy=>oX 1<|gF 66 ar (pt o 0)<|gF 66 ar (pt o 0)<|gF 66 ar (pt o (0+1))<|nF 66 ar o (0+1) (Y (gn .i64 ((E)+(1)))) ft an rfl ?_
     refine nm 66 ar (mr 256 (gn .i64 ((E)+(1)))) fun dj cz=>?_
     refine mz 72 (nO cy cz) fun a6 bO=>oX 1<|gF 73 a6 (pt o 0)<|gF 73 a6 (.iface 553 (.agg (ij e).toArray)) ?_
     cases a6 with
     |true=>
      have dm:=(bO).1 rfl
      refine oN 6<|WP.cond true U (fun bL=>?_) (fun bL=>by cases bL)
      refine sr<|oW 1 ⟨rfl,rfl,[.bool false],U,?_⟩
      exact⟨⟨_,_,_,rfl,((zL hk ak).trans (ai.trans (xA p (DS.trans (yE om))))).symm,an⟩,od,az⟩
     |false=>
      have dn:¬(((64)<(C))\/((256)<(gn .i64 ((E)+(1))))):=nf bO
      refine WO.cons (WC.kT (x:=.bool false) (g:=fV (.tmp 73)) rfl U rfl (WC.call 76 417 ([.agg (ij e).toArray]) kf ((yy e b3 (vl+1) (X.mono az).un).mono ?_)))
      rintro _ vj JL ⟨aZ,rfl,W,be,QS,sT⟩
      have am:=az.trans (sT.er (b:=o))
      have cu:ju mh 1 (fun O G y=>mi O G y) vj (JL) aZ:=⟨be.ok (ow _) (by rw[W];have:=qm (f:=.cond e) ((X.mono am).un);omega),fun x hx=>rf (f:=.cond e) ((X.mono am).un) x (W▸hx)⟩
      refine oX 2<|WO.cons (WC.kT (x:=.bool false) (g:=fV (.tmp 73)) rfl U rfl (WC.call 79 280 ([pt o 0,aZ.v,Y (gn .i64 ((d)+(1)))]) kf ((ih (k-1) (by have:=hk _ (cs p);omega) aZ o (C) (gn .i64 ((E)+(1))) (gn .i64 ((d)+(1))) vj (JL) (sT.get an) om ⟨((be.sV (fun q cw=>Tr.gA _ _ om)).ok (ow _) (by rw[W];have:=qm (f:=.cond e) X;omega)),fun x hx=>(rf (f:=.cond e) X x (W▸hx)).mono am⟩ (fun g hg=>by have:=vP (W▸hg:g∈qA (.cond e));have:=hk _ (cs p);omega)).mono ?_)))
      rintro _ c7 c9 ⟨⟨au,b4,b5,rfl,aB,bg⟩,cZ,xy⟩
      rw[W]at aB
      have bd:=am.trans xy
      have cA:au=true↔(au=true):=gf
      obtain⟨cr,ct,cB⟩:=nN cA
      refine WO.cons (WC.kT (x:=.bool false) (g:=fV (.tmp 73)) rfl U rfl (WC.val 80 (.bool cr) (fun _ _ _=>by subst ct;kernel_rfl)<|oN 1<|cq cB (fun cD=>?_) (fun cD=>?_)))
      ·
       refine sr<|oW 1 ⟨rfl,rfl,[.bool false],U,?_⟩
       exact⟨⟨_,_,_,rfl,((zL hk ak).trans (ai.trans (xA p (DS.trans ((wD om).trans (aB.symm.trans (by rw[show au=false from Bool.eq_false_iff.2 (by assumption)]))))))).symm,bg⟩,od,bd⟩
      ·
       refine WP.skip<|WP.region<|ov 82 (Y (.ofNat (z+1))) ?_ (fun _ _ _=>by rw[<-gM (show z+1<9223372036854775808 by omega)];kernel_rfl)
       refine oN 1<|⟨l.l.length-(z+1),om,rfl,rfl,z+1,b4,b5,om,U,?_,?_,?_,?_⟩
       · exact od
       · exact bd
       · exact bg
       · exact ai.trans (Hz p (DS.trans ((wD om).trans (aB.symm.trans (by rw[show au=true from(Classical.not_not.1 (by assumption:¬¬(au=true)))])))))
    ·
     have u:j3 (O.set o none) G e:=hl.2 _ (cs p)
     refine WP.region<|oN 3<|WP.cond false U (fun bM=>by cases bM) (fun bM=>?_)
     refine sr<|oN 3<|WP.cond true U (fun bN=>?_) (fun bN=>by cases bN)
     refine sr<|oA [Y 0,Y 0,Y 0,Y 0,Y 0,.slice none (0) 0,.slice none (0) 0,.slice none (0) 0] KM fun c8 bj bX=>?_
     refine oS vl (0) (.agg (jz e).toArray) (jz e) (jz e) B2 rfl (e7.2 ⟨rfl,Cn _ u⟩) bX fun cM bs bo bz=>?_
     have aJ:=(bz o om).trans (bj.get aC)
     refine WO.nil<|sr<|oX 3<|oZ o 0 (Y C) ft aJ rfl<|oX 3<|oS o 0 (Y (gn .i64 ((C)+(1)))) [Y (gn .i64 ((C)+(1))),Y E] [Y (gn .i64 ((C)+(1)))] kp rfl rfl aJ fun cN cE bp aS=>?_
     refine WO.nil<|sr<|oX 2<|WO.cons (WC.im vl (0+0+2) (ij e.iZ) U xx sx ((aS vl om).trans bo) rfl<|oX 1<|oA [Y 0,Y 0,Y 0,.slice none (0) 0] B3 fun cO aN bq=>?_)
     refine oS (vl+1) (0) (.agg (ij e.iZ).toArray) (ij e.iZ) (ij e.iZ) ru rfl (e7.2 ⟨rfl,w6 _ u.iZ⟩) bq fun bB bt aK bA=>?_
     have aD:=((((aj.trans (bj.er (b:=o))).trans (bs.er (b:=o))).trans (HE.ZH (B:=G) aS)).trans (aN.er (b:=o))).trans (bt.er (b:=o))
     refine WO.nil<|sr<|WO.cons (WC.im (vl+1) (0) (ij e.iZ) U xB ru aK rfl<|WO.cons (WC.call 51 356 ([.agg (ij e.iZ).toArray]) kf ((KG e.iZ bB (vl+1+1) (u.iZ.mono aD).un).mono ?_)))
     rintro _ aT S ⟨⟨cT,rfl,b6⟩,cG,ao⟩
     have aa:=aD.trans (ao.er (b:=o))
     have N:=ao.get ((bA o om).trans (aN.get bp))
     refine oq 52 (nN b6) fun al bk=>oX 1<|gT 53 al (pt o 0)<|E_ 53 al (.agg (ij e.iZ).toArray) (by rintro rfl;exact WC.im (vl+1) (0) (ij e.iZ) U xB ru (ao.get aK) rfl rfl)<|gT 53 al (.iface 553 (.agg (ij e.iZ).toArray)) ?_
     cases al with
     |true=>
      have db:=(bk).1 rfl
      refine WO.cons (WC.kT (x:=.bool true) (g:=fV (.tmp 53)) rfl U rfl (WC.buildSlice [.iface 553 (.agg (ij e.iZ).toArray)] rfl U ?_))
      obtain⟨bC,aW,aO,br⟩:=boxed aT (S) [.iface 553 (.agg (ij e.iZ).toArray)]
      rw[aW];clear aW
      have aE:=aa.trans (aO.er (b:=o))
      refine WO.cons (WC.kT (x:=.bool true) (g:=fV (.tmp 53)) rfl U rfl (WC.call 58 280 ([pt o 0,(⟨.slice (some ⟨S,0,none⟩) 1 1,[(j7.cond e.iZ)]⟩:SV j7).v,Y 0]) kf ((ih (k-1) (by have:=hk _ (cs p);omega) (⟨.slice (some ⟨S,0,none⟩) 1 1,[(j7.cond e.iZ)]⟩:SV j7) o (gn .i64 ((C)+(1))) (E) (0) bC (S+1) (aO.get N) om ⟨gx.m_ (enc:=mh) (ow _) ((Tr.gA _ _ om).trans br) rfl (by decide) om (by simp),fun x hx=>by rw[List.mem_singleton.1 hx];exact u.iZ.mono aE⟩ (fun g hg=>by rw[List.mem_singleton.1 hg];have:=RStep.Pm e;have:=hk _ (cs p);simp only[xN]at this⊢;omega)).mono ?_)))
      rintro _ bD bJ ⟨⟨A,L,M,rfl,K,R⟩,cH,bu⟩
      have ab:=aE.trans bu
      have b7:A=true↔(A=true):=gf
      obtain⟨bQ,bT,b8⟩:=nN b7
      refine WO.cons (WC.kT (x:=.bool true) (g:=fV (.tmp 53)) rfl U rfl (WC.val 59 (.bool bQ) (fun _ _ _=>by subst bT;kernel_rfl)<|oN 1<|cq b8 (fun cj=>?_) (fun cj=>?_)))
      ·
       refine sr<|oW 1 ⟨rfl,rfl,[.bool false],U,?_⟩
       have aA:vv (BC (k-1)) (.step e) C E d=(false,L,M):=by first|exact(OQ (by assumption:¬nI e.iZ) (K.symm.trans (by rw[show A=false from Bool.eq_false_iff.2 (by assumption)])))|exact((xa (by assumption:¬nI e.iZ) (K.symm.trans (by rw[show A=true from(Classical.not_not.1 (by assumption:¬¬(A=true)))]))).trans (yE om))
       exact⟨⟨_,_,_,rfl,((zL hk ak).trans (ai.trans (xA p aA))).symm,R⟩,od,ab⟩
      ·
       refine WP.skip<|sr<|oX 3<|oZ o 0 (Y L) ft R rfl ?_
       refine oq 65 (mr 64 L) fun ae b9=>oX 1<|gF 66 ae (pt o 0)<|gF 66 ae (pt o 0)<|gF 66 ae (pt o (0+1))<|nF 66 ae o (0+1) (Y M) ft R rfl ?_
       refine nm 66 ae (mr 256 M) fun cU b_=>?_
       refine mz 72 (nO b9 b_) fun ax bl=>oX 1<|gF 73 ax (pt o 0)<|gF 73 ax (.iface 469 (.agg (jz e).toArray)) ?_
       cases ax with
       |true=>
        have dc:=(bl).1 rfl
        refine oN 6<|WP.cond true U (fun a7=>?_) (fun a7=>by cases a7)
        refine sr<|oW 1 ⟨rfl,rfl,[.bool false],U,?_⟩
        have aA:vv (BC (k-1)) (.step e) C E d=(false,L,M):=by first|exact((xa (by assumption:¬nI e.iZ) (K.symm.trans (by rw[show A=true from(Classical.not_not.1 (by assumption:¬¬(A=true)))]))).trans (yE om))|exact((xa (by assumption:¬nI e.iZ) (K.symm.trans (by rw[show A=true from(Classical.not_not.1 (by assumption:¬¬(A=true)))]))).trans (yE om))
        exact⟨⟨_,_,_,rfl,((zL hk ak).trans (ai.trans (xA p aA))).symm,R⟩,od,ab⟩
       |false=>
        have dd:¬(((64)<(L))\/((256)<(M))):=nf bl
        refine WO.cons (WC.kT (x:=.bool false) (g:=fV (.tmp 73)) rfl U rfl (WC.call 76 418 ([.agg (jz e).toArray]) kf ((yz e bD (bJ) (u.mono ab).un).mono ?_)))
        rintro _ aU aX ⟨av,rfl,F,aH,cI,aP⟩
        have ac:=ab.trans (aP.er (b:=o))
        have cn:ju mh 1 (fun O G y=>mi O G y) aU (aX) av:=⟨aH.ok (ow _) (by rw[F];have:=qm (f:=.step e) ((u.mono ac).un);omega),fun x hx=>rf (f:=.step e) ((u.mono ac).un) x (F▸hx)⟩
        refine oX 2<|WO.cons (WC.kT (x:=.bool false) (g:=fV (.tmp 73)) rfl U rfl (WC.call 79 280 ([pt o 0,av.v,Y (gn .i64 ((d)+(1)))]) kf ((ih (k-1) (by have:=hk _ (cs p);omega) av o (L) (M) (gn .i64 ((d)+(1))) aU (aX) (aP.get R) om ⟨((aH.sV (fun q cw=>Tr.gA _ _ om)).ok (ow _) (by rw[F];have:=qm (f:=.step e) u;omega)),fun x hx=>(rf (f:=.step e) u x (F▸hx)).mono ac⟩ (fun g hg=>by have:=vP (F▸hg:g∈qA (.step e));have:=hk _ (cs p);omega)).mono ?_)))
        rintro _ cP cR ⟨⟨af,bE,bH,rfl,ap,aL⟩,cJ,bw⟩
        rw[F]at ap
        have aF:=ac.trans bw
        have ca:af=true↔(af=true):=gf
        obtain⟨bR,bU,cb⟩:=nN ca
        refine WO.cons (WC.kT (x:=.bool false) (g:=fV (.tmp 73)) rfl U rfl (WC.val 80 (.bool bR) (fun _ _ _=>by subst bU;kernel_rfl)<|oN 1<|cq cb (fun ck=>?_) (fun ck=>?_)))
        ·
         refine sr<|oW 1 ⟨rfl,rfl,[.bool false],U,?_⟩
         exact⟨⟨_,_,_,rfl,((zL hk ak).trans (ai.trans (xA p ((xa (by assumption:¬nI e.iZ) (K.symm.trans (by rw[show A=true from(Classical.not_not.1 (by assumption:¬¬(A=true)))]))).trans ((wD om).trans (ap.symm.trans (by rw[show af=false from Bool.eq_false_iff.2 (by assumption)]))))))).symm,aL⟩,od,aF⟩
        ·
         refine WP.skip<|WP.region<|ov 82 (Y (.ofNat (z+1))) ?_ (fun _ _ _=>by rw[<-gM (show z+1<9223372036854775808 by omega)];kernel_rfl)
         refine oN 1<|⟨l.l.length-(z+1),om,rfl,rfl,z+1,bE,bH,om,U,?_,?_,?_,?_⟩
         · exact od
         · exact aF
         · exact aL
         · exact ai.trans (Hz p ((xa (by assumption:¬nI e.iZ) (K.symm.trans (by rw[show A=true from(Classical.not_not.1 (by assumption:¬¬(A=true)))]))).trans ((wD om).trans (ap.symm.trans (by rw[show af=true from(Classical.not_not.1 (by assumption:¬¬(af=true)))])))))
     |false=>
      have de:¬(¬(nI e.iZ)):=nf bk
      refine oN 4<|WP.cond false U (fun a8=>by cases a8) (fun a8=>?_)
      refine WP.skip<|sr<|oX 3<|oZ o 0 (Y (gn .i64 ((C)+(1)))) ft N rfl ?_
      refine oq 65 (mr 64 (gn .i64 ((C)+(1)))) fun ag cc=>oX 1<|gF 66 ag (pt o 0)<|gF 66 ag (pt o 0)<|gF 66 ag (pt o (0+1))<|nF 66 ag o (0+1) (Y E) ft N rfl ?_
      refine nm 66 ag (mr 256 E) fun cV cd=>?_
      refine mz 72 (nO cc cd) fun ay bn=>oX 1<|gF 73 ay (pt o 0)<|gF 73 ay (.iface 469 (.agg (jz e).toArray)) ?_
      cases ay with
      |true=>
       have df:=(bn).1 rfl
       refine oN 6<|WP.cond true U (fun a_=>?_) (fun a_=>by cases a_)
       refine sr<|oW 1 ⟨rfl,rfl,[.bool false],U,?_⟩
       exact⟨⟨_,_,_,rfl,((zL hk ak).trans (ai.trans (xA p ((Cu (fg.1 (by assumption:¬¬nI e.iZ))).trans (yE om))))).symm,N⟩,od,aa⟩
      |false=>
       have dg:¬(((64)<(gn .i64 ((C)+(1))))\/((256)<(E))):=nf bn
       refine WO.cons (WC.kT (x:=.bool false) (g:=fV (.tmp 73)) rfl U rfl (WC.call 76 418 ([.agg (jz e).toArray]) kf ((yz e aT (S) (u.mono aa).un).mono ?_)))
       rintro _ aV aY ⟨aw,rfl,J,aI,cK,aQ⟩
       have ad:=aa.trans (aQ.er (b:=o))
       have cp:ju mh 1 (fun O G y=>mi O G y) aV (aY) aw:=⟨aI.ok (ow _) (by rw[J];have:=qm (f:=.step e) ((u.mono ad).un);omega),fun x hx=>rf (f:=.step e) ((u.mono ad).un) x (J▸hx)⟩
       refine oX 2<|WO.cons (WC.kT (x:=.bool false) (g:=fV (.tmp 73)) rfl U rfl (WC.call 79 280 ([pt o 0,aw.v,Y (gn .i64 ((d)+(1)))]) kf ((ih (k-1) (by have:=hk _ (cs p);omega) aw o (gn .i64 ((C)+(1))) (E) (gn .i64 ((d)+(1))) aV (aY) (aQ.get N) om ⟨((aI.sV (fun q cw=>Tr.gA _ _ om)).ok (ow _) (by rw[J];have:=qm (f:=.step e) u;omega)),fun x hx=>(rf (f:=.step e) u x (J▸hx)).mono ad⟩ (fun g hg=>by have:=vP (J▸hg:g∈qA (.step e));have:=hk _ (cs p);omega)).mono ?_)))
       rintro _ cQ cS ⟨⟨ah,bG,bI,rfl,aq,aM⟩,cL,bx⟩
       rw[J]at aq
       have aG:=ad.trans bx
       have ce:ah=true↔(ah=true):=gf
       obtain⟨bS,bV,cf⟩:=nN ce
       refine WO.cons (WC.kT (x:=.bool false) (g:=fV (.tmp 73)) rfl U rfl (WC.val 80 (.bool bS) (fun _ _ _=>by subst bV;kernel_rfl)<|oN 1<|cq cf (fun cm=>?_) (fun cm=>?_)))
       ·
        refine sr<|oW 1 ⟨rfl,rfl,[.bool false],U,?_⟩
        exact⟨⟨_,_,_,rfl,((zL hk ak).trans (ai.trans (xA p ((Cu (fg.1 (by assumption:¬¬nI e.iZ))).trans ((wD om).trans (aq.symm.trans (by rw[show ah=false from Bool.eq_false_iff.2 (by assumption)]))))))).symm,aM⟩,od,aG⟩
       ·
        refine WP.skip<|WP.region<|ov 82 (Y (.ofNat (z+1))) ?_ (fun _ _ _=>by rw[<-gM (show z+1<9223372036854775808 by omega)];kernel_rfl)
        refine oN 1<|⟨l.l.length-(z+1),om,rfl,rfl,z+1,bG,bI,om,U,?_,?_,?_,?_⟩
        · exact od
        · exact aG
        · exact aM
        · exact ai.trans (Hz p ((Cu (fg.1 (by assumption:¬¬nI e.iZ))).trans ((wD om).trans (aq.symm.trans (by rw[show ah=true from(Classical.not_not.1 (by assumption:¬¬(ah=true)))])))))
   ·
    refine WP.exit<|sr<|oW 1 ⟨rfl,rfl,[.bool true],U,?_⟩
    exact⟨⟨_,_,_,rfl,(by rw[zL hk ak,ai,List.drop_eq_nil_of_le om];rfl),aC⟩,od,aj⟩
  ·
   exact⟨0,a,b,om,U,e9 _,hE,hb,rfl⟩
theorem Zd(k:Nat):∀(l:SV j7) (e:Nat) (a b d:Int) (O:Ht) (G:Nat),O.get e=some (.cells [Y a,Y b] gi.plain)->e<G->ju mh 1 (fun O G y=>mi O G y) (O.set e none) G l->(∀f∈l.l,xN f<k)->WF ex 280 [pt e 0,l.v,Y d] O G (fun v eZ e5=>(∃(c:Bool) (a' b':Int),v=.bool c/\(c,a',b')=BC k l.l a b d/\eZ.get e=some (.cells [Y a',Y b'] gi.plain))/\G<=e5/\HE G (O.set e none) (eZ.set e none)):=by
 induction k with
 |zero=>intro l e a b d O G hb jA hl hk;exact PA 0 (fun j h=>by omega) l e a b d O G hb jA hl hk
 |succ k ih=>intro l e a b d O G hb jA hl hk;exact PA (k+1) (fun j h=>by obtain rfl:j=k:=om;exact ih) l e a b d O G hb jA hl hk
theorem U3(l:SV j7)(O:Ht)(G:Nat)(hl:ju mh 1 (fun O G y=>mi O G y) O G l):WF ex 200 [l.v] O G (fG G O (fun v=>v=Y (qo l.l))):=by
 obtain⟨a1,c2,hR⟩:=hl.1.shape
 have lU:=hl.1.2.2
 rw[hR]
 refine wd Tryz.f200 17 [.tmp 2] fun hE=>sr<|oN 1<|sr<|oX 1<|oB (.agg ⟨[Y 0,Y 0]⟩) [Y 0,Y 0] fun zE pC uo=>?_
 have Am:=hE.trans pC nR
 have Ad:=e8 nR (e_ (G))
 refine oN 1<|WP.seq<|sr<|oX 2<|WO.cons (WC.call 8 280 ([pt G 0,l.v,Y 0]) (fun _ _ _=>by(try rw[hR]);kernel_rfl) ((Zd (NG l.l) l (G) (0) (0) (0) zE (G+1) uo (fb (G)) (hl.mono (fun _ h he hn=>h.mono he hn) (Am.trans (HE.set _ _ (show G<=G by omega)) nR) Ad) (SS _)).mono ?_))
 rintro _ y9 vl ⟨⟨rO,R,S,rfl,m,L⟩,JN,xz⟩
 have e:=Am.trans (show HE G _ _ from fun q ab=>xz.erG om om) nR
 have b:=e8 Ad JN
 have F:rO=true↔(rO=true):=gf
 refine oq 9 (nN F) fun Fa CW=>WO.nil<|cq CW (fun B=>?_) (fun B=>?_)
 ·
  refine sr<|oW 1 ⟨rfl,rfl,[Y 2],U,?_⟩
  exact⟨congrArg (Value.int .i64) (show qo l.l=2 from W5 m B).symm,b,e⟩
 ·
  refine WP.skip<|WP.seq<|sr<|oX 2 ?_
  refine oq 12 (vK l.l.length 0) fun j z=>oX 1<|gF 13 j (.slice a1 (l.l.length) c2)<|WO.cons (WC.gq (!j) (GB (!j) (∃x∈l.l,(fun x=>¬qQ x) x) (vl) y9) (.bool j) (g:=fV (.tmp 13)) rfl U (by cases j<;>rfl) (fun h=>by obtain rfl:j=false:=(by simpa using h);have ac:¬(((l.l.length:Nat):Int)=(0)):=(fun k=>absurd ((z).2 k) (by decide));exact WC.call 15 281 ([l.v,.func (.func 282) #[] #[]]) (fun _ _ _=>by(try rw[hR]);kernel_rfl) ((se (A:=fun x=>¬qQ x) l 282 #[] y9 (vl) (hl.mono (fun _ h he hn=>h.mono he hn) e b) (fun i x hx eZ e5 hn he=>yF x eZ e5 (((hl.mono (fun _ h he hn=>h.mono he hn) e b).2 x (cs hx)).mono he hn) (U2 x eZ e5 (((hl.mono (fun _ h he hn=>h.mono he hn) e b).2 x (cs hx)).mono he hn)))).mono fun v eZ e5 ⟨⟨c,N,hc⟩,hn,he⟩=>⟨_,_,_,rfl,⟨c,N,hc⟩,hn,he⟩)) (fun h=>GB.off h) ?_)
  rintro _ M W ⟨⟨X,rfl,J⟩,E,C⟩
  have o:=e.trans C b
  have p:=e8 b E
  refine mz 16 (nO z J) fun aa K=>WO.nil<|cq K (fun u=>?_) (fun u=>?_)
  ·
   refine sr<|oW 1 ⟨rfl,rfl,[Y 71],U,?_⟩
   exact⟨congrArg (Value.int .i64) (show qo l.l=71 from U1 m (fg.1 (by assumption:¬¬(rO=true))) u).symm,p,o⟩
  ·
   refine WP.skip<|sr<|oW 1 ⟨rfl,rfl,[Y 0],U,?_⟩
   exact⟨congrArg (Value.int .i64) (show qo l.l=0 from W6 m (fg.1 (by assumption:¬¬(rO=true))) u).symm,p,o⟩
theorem W7(l:SV RStep)(O:Ht)(G:Nat)(hl:ju jz 8 (fun O G y=>j3 O G y) O G l)(hlen:l.l.length<=2932031007403):WF ex 99 [l.v] O G (fG G O (fun v=>v=Y (qo (l.l.map .step)))):=by
 obtain⟨a1,c2,hR⟩:=hl.1.shape
 have lU:=hl.1.2.2
 rw[hR]
 refine wd Tryz.f99 6 [.tmp 2] fun hE=>sr<|oN 1<|sr<|oX 1<|WO.cons (WC.call 4 201 ([l.v]) (fun _ _ _=>by(try rw[hR]);kernel_rfl) ((Hu l O (G) (hl.mono (fun _ h he hn=>h.mono he hn) hE) hlen).mono ?_))
 rintro _ Ee Iv ⟨J,rfl,b,o,MX,pC⟩
 have e:=hE.trans pC
 have j:ju mh 1 (fun O G y=>mi O G y) Ee (Iv) J:=⟨o.ok (ow _) (by rw[b,List.length_map];omega),fun x hx=>by
  rw[b]at hx;obtain⟨y,hy,rfl⟩:=fO.1 hx
  exact(hl.2 y hy).mono e⟩
 refine WO.cons (WC.call 5 200 ([J.v]) kf ((U3 J Ee (Iv) j).mono ?_))
 rintro _ u z ⟨rfl,p,m⟩
 refine oW 1 ⟨rfl,rfl,[Y (qo J.l)],U,?_⟩
 exact⟨congrArg (fun q=>Value.int .i64 (qo q)) b,od,(e.trans m)⟩
end
end Sw
namespace Sw
noncomputable section
open Go Go.RowKit
theorem tY.nil:∀n,tY n []
 |0=>rfl
 |_+1=>fun _ h=>by cases h
theorem tY.up:∀{n:Nat} {l:List RPart},tY n l->tY (n+1) l
 |0,l,h=>fun p O=>by rw[show l=[]from h]at O;cases O
 |_+1,_,h=>fun p O=>tY.up (h p O)
theorem tY.le{n m:Nat}{l:List RPart}(h:tY n l)(hm:n<=m):tY m l:=by
 induction m with
 |zero=>obtain rfl:n=0:=by omega
        exact h
 |succ m ih=>
  rcases gp m n with k|k
  · obtain rfl:n=m+1:=by omega
    exact h
  · exact(ih k).up
theorem NJ(n:Nat)(sub:List RPart->Nat×Nat)(s:Nat×Nat)(p:RPart):s.1<=(sk n sub s p).1/\s.2<=(sk n sub s p).2:=by
 unfold sk;split
 · exact⟨e9 _,e9 _⟩
 · constructor<;>simp only<;>omega
theorem NK(n:Nat)(sub:List RPart->Nat×Nat):∀(l:List RPart) (s:Nat×Nat),s.1<=(l.foldl (sk n sub) s).1/\s.2<=(l.foldl (sk n sub) s).2
 |[],s=>⟨e9 _,e9 _⟩
 |p::l,s=>by
  have h1:=NJ n sub s p
  have D:=NK n sub l (sk n sub s p)
  rw[List.foldl_cons];omega
theorem KN{n:Nat}(hn:n≠0)(sub:List RPart->Nat×Nat):∀(l:List RPart) (s:Nat×Nat) (p:RPart),p∈l->p.fT.l.length≠0->(l.foldl (sk n sub) s).2<=256->
 (sub p.fT.l).1+1<=(l.foldl (sk n sub) s).1/\(sub p.fT.l).2<=(l.foldl (sk n sub) s).2
 |q::l,s,p,O,h0,hb=>by
  rw[List.foldl_cons]at hb⊢
  have D:=NK n sub l (sk n sub s q)
  rcases fM.1 O with rfl|O
  · have h1:=NJ n sub s p
    have:sk n sub s p=(max s.1 ((sub p.fT.l).1+1),s.2+(sub p.fT.l).2):=if_neg (by omega)
    rw[this]at D hb⊢
    simp only at D;omega
  · exact KN hn sub l _ p O h0 hb
theorem KO:∀(n:Nat) (l:List RPart),(sQ n l).2<=256->(sQ n l).1<n->tY ((sQ n l).1+1) l
 |0,_,_,h=>absurd h (fz _)
 |n+1,l,D,h1=>fun p O=>by
  by_cases h0:p.fT.l.length=0
  · rw[List.eq_nil_of_length_eq_zero h0];exact tY.nil _
  · have k:=KN (n:=n+1) (by omega) (sQ n) l (0,l.length) p O h0 D
    have e:sQ (n+1) l=l.foldl (sk (n+1) (sQ n)) (0,l.length):=rfl
    rw[<-e]at k
    exact(KO n p.fT.l (by omega) (by omega)).le k.1
theorem zd.le{d:j6}(h:zd d):tY 17 d.jI.l:=(KO 17 _ h.2.2 (by have:=h.2.1;omega)).le (by have:=h.2.1;omega)
theorem PB{C:j4}(h:vQ C):∀d∈C.fu.l,tY 17 d.jI.l:=fun d hd=>(h.2 d hd).le
def C_(uY out:List Int):List Int:=if 256<out.length then out else out++uY
def yG(uY:List Int):Nat->List Int->List Int
 |0,out=>out
 |k+1,out=>C_ uY (yG uY k out)
def AJ(sub:List RPart->List Int)(p:RPart):List Int:=if 0<p.kj then sub p.fT.l else [p.i_]
def uO(p:RPart):Nat:=(bif rI p.kj 1 then(1:Int)else p.kj).toNat
theorem HA(p:RPart):((uO p:Nat):Int)=bif rI p.kj 1 then(1:Int)else p.kj:=by
 unfold uO
 cases h:rI p.kj 1 with
 |true=>rfl
 |false=>
  have:¬p.kj<1:=fun k=>by rw[sA.2 k]at h;cases h
  simp only[cond_false];omega
def wE(sub:List RPart->List Int)(out:List Int)(p:RPart):List Int:=yG (AJ sub p) (uO p) out
def mR:Nat->List RPart->List Int
 |0,_=>[]
 |n+1,l=>l.foldl (wE (mR n)) []
theorem IW{n:Nat}{l:List RPart}(h:tY n l):mR n l=l.foldl (wE (mR (n-1))) []:=by
 cases n with
 |zero=>rw[show l=[]from h];rfl
 |succ n=>rfl
theorem Fz{uY:List Int}{k:Nat}{out:List Int}(h:256<(yG uY k out).length):∀m,yG uY (k+m) out=yG uY k out
 |0=>rfl
 |m+1=>by
  show C_ uY (yG uY (k+m) out)=_
  rw[Fz h m];exact if_pos h
theorem U4{uY out:List Int}(h:256<out.length)(k:Nat):yG uY k out=out:=by
 have:=Fz (uY:=uY) (k:=0) (out:=out) h k
 rwa[Nat.zero_add]at this
theorem Gx{sub:List RPart->List Int}:∀(l:List RPart) {out:List Int},256<out.length->l.foldl (wE sub) out=out
 |[],_,_=>rfl
 |p::l,out,h=>by rw[List.foldl_cons,wE,U4 h,Gx l h]
theorem SU{α β:Type}{f:β->α->β}{b:β}{l:List α}{i:Nat}{x:α}(hx:l[i]?=some x):l.foldl f b=(l.drop (i+1)).foldl f (f ((l.take i).foldl f b) x):=by
 have hi:=(fe.1 hx).1
 have e:l=l.take i++x::l.drop (i+1):=by
  have:=List.take_append_drop i l
  rw[List.drop_eq_getElem_cons hi,(List.getElem?_eq_some_iff.1 hx).2]at this
  exact this.symm
 conv=>lhs;rw[e]
 rw[List.foldl_append,List.foldl_cons]
theorem NL{n:Nat}{l:List RPart}{i j:Nat}{p:RPart}{J:List Int}(h:tY n l)(hx:l[i]?=some p)(b:J=yG (AJ (mR (n-1)) p) j ((l.take i).foldl (wE (mR (n-1))) []))(hj:j<=uO p)(hb:256<J.length):J=mR n l:=by
 subst b
 rw[IW h,SU hx,wE]
 obtain⟨m,hm⟩:∃m,uO p=j+m:=⟨uO p-j,by omega⟩
 rw[hm,Fz hb,Gx _ hb]
theorem NM(uY:List Int)(B:Nat)(h:256+uY.length<=B):∀(k:Nat) (out:List Int),out.length<=B->(yG uY k out).length<=B
 |0,_,h0=>h0
 |k+1,out,h0=>by
  show(C_ uY (yG uY k out)).length<=B
  unfold C_;split
  · exact NM uY B h k out h0
  · rw[List.length_append];omega
theorem Gy:∀(n:Nat) (l:List RPart),(mR n l).length<=257*n
 |0,_=>e9 _
 |n+1,l=>by
  have:∀(l:List RPart) (out:List Int),out.length<=257*(n+1)->(l.foldl (wE (mR n)) out).length<=257*(n+1):=by
   intro l
   induction l with
   |nil=>intro out h;exact h
   |cons p l ih=>
    intro out h
    refine ih _ (NM _ _ ?_ _ _ h)
    unfold AJ;split
    · have:=Gy n p.fT.l;omega
    · simp;omega
  exact this l [] (gG _)
theorem KP{n:Nat}{l:List RPart}{i:Nat}{p:RPart}(h:tY n l)(hx:l[i]?=some p):(AJ (mR (n-1)) p).length<=257*n/\256+(AJ (mR (n-1)) p).length<=257*n:=by
 have hn:n≠0:=by
  rintro rfl
  rw[show l=[]from h]at hx;cases hx
 unfold AJ;split
 · have:=Gy (n-1) p.fT.l;omega
 · simp;omega
theorem tY.sub{n:Nat}{l:List RPart}{i:Nat}{p:RPart}(h:tY n l)(hx:l[i]?=some p):n=(n-1)+1/\tY (n-1) p.fT.l:=by
 cases n with
 |zero=>rw[show l=[]from h]at hx;cases hx
 |succ n=>exact⟨rfl,h p (cs hx)⟩
end
end Sw
namespace Sw
noncomputable section
open Go Go.RowKit
section
variable {α:Type}{enc:α->List Value}{n B gr:Nat}{O eZ:Ht}{G e5:Nat}{J:SV α}
theorem lY.yY{T:Ty}{st xt el:TypeId}{w z:Value}{inf:TypeInfo}(j:List α)(h:lY enc n B gr O G J)(hlen:∀y∈J.l,(enc y).length=n)(hu:T.jh st=some (.slice el))(hs:T.size el=some n)(R:T.zero el=some z)(hi:T.kd el=some inf)
 (hx:pE T xt w=some (j.length,false)) (o:lL O.get (j.length*n) w=some (j.flatMap enc)) (C:uD n w=true) (N:∀y∈j,(enc y).length=n) (F:(j.flatMap enc).all one=true) (X:0<n)
 (b1:(J.l.length+j.length)*inf.bytes<=70368744177664) (b2:inf.bytes<=1073741824) (E:J.l.length+j.length<=70368744177664) (L:B<=G):
 ∃v' jC k K,jN T O.get st xt J.v w G=some (v',jC,k)/\lY enc n B K (jg jC O) (G+k) ⟨v',J.l++j⟩/\(∀c,c<G->(J.l≠[]->c≠gr)->(jg jC O).get c=O.get c):=by
 have hl:=nk J.l hlen
 have ab:=nk j N
 have p:(J.l++j).flatMap enc=J.l.flatMap enc++j.flatMap enc:=by simp
 have u:(J.l++j).length=J.l.length+j.length:=by simp
 have W:∃a,J.v=.slice a J.l.length J.l.length:=by
  rcases h with⟨h1,D⟩|⟨b,ms,h1,_⟩
  · exact⟨none,by rw[D,h1];rfl⟩
  · exact⟨_,h1⟩
 by_cases D:j=[]
 · obtain⟨a,S⟩:=W
   subst D
   have m:Nat.ble (J.l.length+0) J.l.length=true:=gh (by omega)
   refine⟨J.v,[],0,gr,?_,?_,fun c _ _=>rfl⟩
   · rw[S]
     simp only[List.length_nil,Nat.add_zero,List.flatMap_nil]at hx o b1 E m
     simp only[jN,hu,hs,R,hi,hx,lX,cond_false,C,cond_true,o,Option.bind_some,List.all_nil,Nat.ble_eq_true_of_le b1,Nat.ble_eq_true_of_le b2,Nat.ble_eq_true_of_le E,Bool.and_true,m,Nat.add_zero]
   · show lY enc n B gr O G ⟨J.v,J.l++[]⟩
     rw[List.append_nil];exact h
 · have hm:0<j.length:=List.length_pos_iff.2 D
   have m:Nat.ble (J.l.length+j.length) J.l.length=false:=by
    cases hb:Nat.ble (J.l.length+j.length) J.l.length with
    |false=>rfl
    |true=>have:=fa hb;omega
   have e1:∀a',jN T O.get st xt (.slice a' J.l.length J.l.length) w G=pM O.get a' J.l.length n (j.flatMap enc) j.length G:=fun a'=>by
    simp only[jN,hu,hs,R,hi,hx,lX,cond_false,C,cond_true,o,Option.bind_some,F,Nat.ble_eq_true_of_le b1,Nat.ble_eq_true_of_le b2,Nat.ble_eq_true_of_le E,Bool.and_true,m]
   rcases h with⟨h1,D⟩|⟨b,ms,h1,D,hb,hg,qL,jA,aa,h3,h4⟩
   · have h0:J.l.length=0:=by rw[h1];rfl
     have e2:=e1 none
     rw[h0]at e2
     rw[D]
     refine⟨_,_,_,G,e2,.inr ⟨G+1,_,by rw[u,h0],by rw[u];omega,?_,(Tr.gA _ _ (by omega)).trans (Tr.ia ..),fun e he=>?_,by omega,by omega,by omega,L⟩,fun c hc _=>?_⟩
     · rw[p,h1];exact Tr.ia ..
     · rw[List.mem_singleton.1 he,p,h1];simp
     · exact(Tr.gA _ _ (by omega)).trans (Tr.gA _ _ (by omega))
   · have A:∀e∈ms,beyond (0+0+J.l.length*n) e=false:=fun e he=>by
      have:=qL e he
      cases M:beyond (0+0+J.l.length*n) e with
      |false=>rfl
      |true=>
       unfold beyond at M
       have:=mE.1 M
       omega
     have f1:ms.filter (beyond (0+0+J.l.length*n))=[]:=by
      rw[List.filter_eq_nil_iff];intro e he;rw[A e he];simp
     have f2:(ms.filter fun e=>!(beyond (0+0+J.l.length*n) e))=ms:=by
      rw[List.filter_eq_self];intro e he;rw[A e he];rfl
     have e2:pM O.get (some ⟨b,0,none⟩) J.l.length n (j.flatMap enc) j.length G=some (.slice (some ⟨G,0,none⟩) (J.l.length+j.length) (J.l.length+j.length),
      [(gr,some (jM.group (ms++[⟨G,0,(J.l.flatMap enc++j.flatMap enc).length⟩]))),(G,some (jM.cells (J.l.flatMap enc++j.flatMap enc) ⟨false,some gr,0,n⟩))],1):=by
      simp only[tw,hb,AS _ _ hl,Option.bind_some,hg,oe,f1,List.all_nil,Bool.not_false,Nat.beq_refl,Bool.and_true,cond_true,mZ,List.map_nil,List.nil_append,f2]
     have jB:J.l≠[]:=fun k=>by rw[k]at D;simp at D
     rw[h1]
     refine⟨_,_,_,gr,(e1 _).trans e2,.inr ⟨G,_,by rw[u],by rw[u];omega,?_,(Tr.gA _ _ (by omega)).trans (Tr.ia ..),fun e he=>?_,by omega,L,by omega,h4⟩,fun c hc hd=>?_⟩
     · rw[p];exact Tr.ia ..
     · rw[p]
       rcases fI.1 he with he|he
       · have:=qL e he;rw[List.length_append];omega
       · rw[List.mem_singleton.1 he];simp
     · exact(Tr.gA _ _ (by omega)).trans (Tr.gA _ _ (hd jB))
theorem gx.SX{β:Type}{NN:β->List Value}{n2:Nat}{s:SV β}(h:gx NN n2 O G s)(hg:lY enc n B gr O G J)(he:∀c,c<G->(J.l≠[]->c≠gr)->eZ.get c=O.get c)(hn:G<=e5):gx NN n2 eZ e5 s:=by
 refine⟨h.1,?_,h.2.2⟩
 rcases h.2.1 with h|⟨q,cap,m,h1,D,h3,h4,e⟩
 · exact .inl h
 · refine .inr ⟨q,cap,m,h1,D,by omega,(he q h3 fun k=>?_).trans h4,e⟩
   rcases hg with hg|⟨b,ms,_,_,_,hg,_⟩
   · exact absurd hg.1 k
   · rintro rfl;rw[hg]at h4;cases h4
end
section
variable {e:Env}{fm:Fm}{I:Tm}{ds:List Deferred}{O:Ht}{G:Nat}{gS:List Nat}{Q:St->Prop}{all:List Oper}{d:Tmp}{ty:TypeId}{pos:String}{j0:Array Edge}
theorem WC.NO{α:Type}{enc:α->List Value}{st xt el:TypeId}{x y:Operand}{B n gr:Nat}{z w:Value}{inf:TypeInfo}{J:SV α}(b:List α)(hl:e.low=0)(hx:(fV x).run I=J.v)(hy:(fV y).run I=w)
 (h:lY enc n B gr O G J) (hlen:∀y∈J.l,(enc y).length=n) (hu:e.T.jh st=some (.slice el)) (hs:e.T.size el=some n) (L:e.T.zero el=some z) (hi:e.T.kd el=some inf)
 (F:pE e.T xt w=some (b.length,false)) (o:lL O.get (b.length*n) w=some (b.flatMap enc)) (p:uD n w=true) (A:∀y∈b,(enc y).length=n) (m:(b.flatMap enc).all one=true) (u:0<n)
 (b1:(J.l.length+b.length)*inf.bytes<=70368744177664) (b2:inf.bytes<=1073741824) (C:J.l.length+b.length<=70368744177664) (E:B<=G)
 {qV:Array TypeId} (K:qV=#[st,xt]) (q:∀(J':SV α) eZ e5 j,J'.l=J.l++b->G<=e5->(∀c,c<G->(J.l≠[]->c≠gr)->eZ.get c=O.get c)->HE B O eZ->lY enc n B j eZ e5 J'->Q ⟨I.set d J'.v,ds,eZ,e5,gS⟩):
 WC e fm (iJ all ⟨some d,.call {callee:=.builtin .append,args:=#[x,y],argTypes:=qV},ty,pos,j0,none⟩) ⟨I,ds,O,G,gS⟩ Q:=by
 subst K
 obtain⟨v',jC,k,j,h1,D,h3⟩:=h.yY b hlen hu hs L hi F o p A m u b1 b2 C E
 refine .Kq d (jN e.T O.get st xt J.v w G) hl (fun _ _ _=>?_) h1 (q ⟨v',J.l++b⟩ _ _ j rfl (by omega) h3 (fun c hc=>h3 c (by omega) fun hj=>?_) D)
 · rw[<-hx,<-hy];rfl
 · rcases h with h|⟨_,_,_,_,_,_,_,_,_,_,M⟩
   · exact absurd h.1 hj
   · omega
end
theorem DT:∀l:List Int,(l.flatMap encI).all one=true
 |[]=>rfl
 |x::l=>by rw[List.flatMap_cons,List.all_append,DT l];rfl
end
end Sw
namespace Sw
noncomputable section
open Go Go.Proofs Go.RowKit
set_option maxRecDepth 100000
set_option maxHeartbeats 1600000
theorem sn.Yt{n:Nat}{M:Int}{p:RPart}(h:sn n M p):p.kj<=64:=by
 cases n with
 |zero=>exact h.elim
 |succ n=>rcases h with⟨h,_⟩|⟨_,h,_⟩<;>omega
theorem NP{p:RPart}(h:p.kj<=64):uO p<=64:=by
 have:=HA p
 cases k:rI p.kj 1 with
 |true=>rw[k]at this;simp only[cond_true]at this;omega
 |false=>rw[k]at this;simp only[cond_false]at this;omega
theorem sn.sub{n:Nat}{M:Int}{p:RPart}(h:sn n M p):∀q∈p.fT.l,sn (n-1) M q:=by
 cases n with
 |zero=>exact h.elim
 |succ n=>
  rcases h with⟨_,_,h⟩|⟨_,_,_,_,h⟩
  · intro q b;rw[List.eq_nil_of_length_eq_zero h]at b;cases b
  · exact h
def J1(L:List Int)(O:Ht)(G:Nat)(v:Value)(eZ:Ht)(e5:Nat):Prop:=∃J:SV Int,v=J.v/\J.l=L/\gx encI 1 eZ e5 J/\G<=e5/\HE G O eZ
theorem J3:∃i,ex.T.kd 3=some i/\i.bytes=8:=by
 cases h:ex.T.kd 3 with
 |none=>exact absurd (show(ex.T.kd 3).isSome=true by kernel_rfl) (by rw[h];decide)
 |some i=>
  refine⟨i,rfl,?_⟩
  have:((ex.T.kd 3).map fun i=>i.bytes)=some 8:=by kernel_rfl
  rw[h]at this
  exact fS this
theorem NQ{w:Value}{a:Option Addr}{n c:Nat}(h:w=.slice a n c):pE ex.T 42 w=some (n,false):=by
 subst h
 have:ex.T.jh 42=some (.slice 3):=by kernel_rfl
 simp only[pE,this]
theorem Gz(n:Nat)(M:Int)(hn:n<=17)(l:SV RPart)(hH:tY n l.l)(bN:∀p∈l.l,sn n M p)(ih:n≠0->∀(l:SV RPart) (O:Ht) (G:Nat),tY (n-1) l.l->(∀p∈l.l,sn (n-1) M p)->ju jJ 3 (fun O G y=>kN O G y) O G l->WF ex 204 [l.v] O G (J1 (mR (n-1) l.l) O G))(O:Ht)(G:Nat)(hl:ju jJ 3 (fun O G y=>kN O G y) O G l):WF ex 204 [l.v] O G (J1 (mR n l.l) O G):=by
 obtain⟨a1,c2,hR⟩:=hl.1.shape
 have lU:=hl.1.2.2
 rw[hR]
 refine wd Tryz.f204 36 [.tmp 2] fun hE=>sr<|oN 1<|WP.seq<|sr<|oN 3<|WP.block ?_
 refine mg [2,6,7,8] (fun m hs ns vs=>∃(fR:Nat) (J:SV Int) (gr:Nat),fR+m=l.l.length/\vs=[J.v,.slice a1 (l.l.length) c2,Y (.ofNat (l.l.length)),Y (.ofNat fR)]/\G<=ns/\HE G O hs/\(lY encI 1 G gr hs ns J)/\(J.l=(l.l.take fR).foldl (wE (mR (n-1))) [])/\(J.l.length<=257*n)) ?_ (l.l.length) ?_
 ·
  rintro xM p_ iY _ ⟨fR,J,gr,ui,rfl,oF,jl,bM,aF,bG⟩ uj
  have ab:=e8 nR oF
  have bR:=HE.refl (iY) p_
  have a6:=e9 (iY)
  have bh:=bM.ok (fun _ _=>rfl) om
  have bS:=HE.refl (iY) p_
  have b7:=e9 (iY)
  refine sr ?_
  refine oq 9 (kL fR l.l.length) fun cQ cr=>WO.nil<|WP.seq<|cq cr (fun cw=>?_) (fun cw=>?_)
  ·
   refine WP.skip<|WP.seq<|WP.block<|sr ?_
   have az:fR<l.l.length:=by omega
   refine WO.cons (WC.iy hR hl.1 (fR) zc rq (az) ?_)
   obtain⟨b,e⟩:=gE az
   refine WO.cons (WC.ly hR (hl.1.mono jl ab) e DH rq<|oA [Y 0,Y 0,.slice none (0) 0] KD fun cN aS bO=>?_)
   have bJ:=jl.trans aS ab
   have bT:=bR.trans aS a6
   have a7:=e8 a6 (e_ (iY))
   have b8:=e8 oF (e_ (iY))
   have aY:=e8 ab (e_ (iY))
   refine oS iY (0) (.agg (jJ b).toArray) (jJ b) (jJ b) rq rfl (e7.2 ⟨rfl,Gq _ (hl.2 b (cs e))⟩) bO fun cO aT aP cM=>?_
   have bK:=bJ.trans aT om
   have bU:=bT.trans aT om
   refine WO.nil<|sr<|oX 1<|oZ iY 0 (Y b.i_) ft aP rfl<|oL [Y b.i_] fun ar al bP=>?_
   have ai:=bK.trans al aY
   have R:=al.get aP (fb (iY))
   have b0:=e4 (fb (iY)) (e_ (iY+1))
   have aW:=bU.trans al a7
   have av:=e8 a7 (e_ (iY+1))
   have a8:=e8 b8 (e_ (iY+1))
   have ac:=e8 aY (e_ (iY+1))
   refine oN 1<|WP.seq<|sr<|oX 1<|oZ iY (0+1) (Y b.kj) ft R rfl ?_
   refine oq 17 (mr 0 b.kj) fun cR ct=>WO.nil<|cq ct (fun aZ=>?_) (fun aZ=>?_)
   ·
    refine WP.region<|oX 1 ?_
    obtain⟨a60,cd,aX⟩:=(hl.2 b (cs e)).fT.1.shape
    have cA:=(hl.2 b (cs e)).fT.1.2.2
    refine oZ iY (0+2) (.slice a60 (b.fT.l.length) cd) pI R (by rw[<-aX];rfl)<|WO.cons (WC.call 20 204 ([b.fT.v]) (fun _ _ _=>by(try rw[aX]);kernel_rfl) ((ih (fun h0=>by have:=(hH.sub e).1;omega) b.fT ar (iY+1+1) (hH.sub e).2 (bN _ (cs e)).sub ((hl.2 b (cs e)).fT.mono (fun _ h he hn=>h.mono he hn) ai ac)).mono ?_))
    rintro _ aU ad ⟨aI,rfl,bj,aK,ap,am⟩
    have bL:=ai.trans am ac
    have bQ:=am.get R b0
    have bV:=aW.trans am av
    have b9:=e8 av ap
    have b_:=e8 a8 ap
    have bY:=e8 ac ap
    have bW:=HE.refl (ad) aU
    have ca:=e9 (ad)
    refine oN 1<|sr<|oX 1<|oZ iY (0+1) (Y b.kj) ft bQ rfl<|oN 2<|WP.block ?_
    obtain⟨W,aO,L,aL⟩:∃W:SV Int,W.v=aI.v/\W.l=AJ (mR (n-1)) b/\gx encI 1 aU (ad) W:=⟨aI,rfl,bj.trans (if_pos (by have:=aZ;omega)).symm,(aK.mono bW ca)⟩
    have aN:=KP hH e
    rw[<-L]at aN
    have cj:=HA b
    have aJ:=(bM.mono bV b9)
    have ao:=(bN _ (cs e)).Yt
    have cf:=NP ao
    refine mg [2,5,6,7,8,23,24] (fun m hs ns vs=>∃(u:Nat) (o:SV Int) (F:Nat),u+m=uO b/\vs=[o.v,aI.v,.slice a1 (l.l.length) c2,Y (.ofNat (l.l.length)),Y (.ofNat fR),Y ((bif rI (b.kj) (1)then(1)else(b.kj))),Y (.ofNat u)]/\ad<=ns/\HE G O hs/\(lY encI 1 G F hs ns o)/\(o.l=yG W.l u J.l)/\(gx encI 1 hs ns W)/\(o.l.length<=257*n)) ?_ (uO b) ?_
    ·
     rintro cP aV ae _ ⟨u,o,F,cz,rfl,aq,an,z,A,ak,aj⟩ cC
     have cb:=e8 b_ aq
     have bZ:=e8 bY aq
     have au:=HE.refl (ae) aV
     have aw:=e9 (ae)
     have N:=z.ok (fun _ _=>rfl) om
     have bX:=HE.refl (ae) aV
     have cc:=e9 (ae)
     refine sr ?_
     refine oq 25 (y5 u (bif rI (b.kj) (1)then(1)else(b.kj))) fun cS cu=>WO.nil<|WP.seq<|cq cu (fun cx=>?_) (fun cx=>?_)
     ·
      refine WP.skip<|WP.seq<|WP.block<|WP.seq<|sr<|oX 1 ?_
      obtain⟨cD,cF,bu⟩:=N.shape
      have ck:=N.2.2
      refine ov 27 (Y (.ofNat (o.l.length))) ?_ (fun _ _ _=>by rw[bu];kernel_rfl)
      refine oq 28 (nE 256 o.l.length) fun cG b3=>WO.nil<|cq b3 (fun af=>?_) (fun af=>?_)
      ·
       refine sr<|oW 2 ⟨rfl,rfl,[o.v],U,?_⟩
       exact⟨o,rfl,NL hH e (by rw[A,<-L,aF]) om (by have:=af;omega),(N.mono bX cc),bZ,an⟩
      ·
       refine WP.skip<|WP.region<|oX 2 ?_
       obtain⟨cn,aG,aQ⟩:=J3
       obtain⟨cE,cH,B⟩:=ak.shape
       refine WO.cons (WC.NO (enc:=encI) (J:=o) (w:=W.v) W.l rfl U (by rw[aO];kernel_rfl) (z.mono au aw) (fun _ _=>rfl) lG kp AV aG (NQ B) (by rw[B];exact ak.src B) (by rw[B];rfl) (fun _ _=>rfl) (DT _) (by decide) (by rw[aQ];omega) om om om rfl ?_)
       rintro bH bp aD a_ ax aA bk bn bf
       have aM:=ak.SX (z.mono au aw) bk aA
       have bd:=an.trans bn om
       have bz:=e8 aq aA
       have br:=HE.refl (aD) bp
       have bA:=e9 (aD)
       refine oN 1<|WP.region<|ov 33 (Y (.ofNat (u+1))) ?_ (fun _ _ _=>by rw[<-gM (show u+1<9223372036854775808 by omega)];kernel_rfl)
       refine oN 1<|⟨uO b-(u+1),om,rfl,rfl,u+1,bH,a_,om,U,?_,?_,?_,?_,?_,?_⟩
       · exact bz
       · exact bd
       · exact(bf.mono br bA)
       · rw[ax,A];exact(if_neg (by rw[<-A];have:=af;omega)).symm
       · exact aM
       · rw[ax,List.length_append];have:=af;omega
     ·
      refine WP.exit<|WP.region<|ov 34 (Y (.ofNat (fR+1))) ?_ (fun _ _ _=>by rw[<-gM (show fR+1<9223372036854775808 by omega)];kernel_rfl)
      refine oN 1<|⟨l.l.length-(fR+1),om,rfl,rfl,fR+1,o,F,om,U,?_,?_,?_,?_,?_⟩
      · exact cb
      · exact an
      · exact(z.mono au aw)
      · have hj:u=uO b:=by omega
        rw[BV e,<-aF,A,hj,L];rfl
      · exact aj
    ·
     exact⟨0,J,gr,om,U,e9 _,bL,(aJ),rfl,aL,bG⟩
   ·
    refine WP.skip<|sr<|oX 1<|oZ iY (0+1) (Y b.kj) ft R rfl<|oN 2<|WP.block ?_
    obtain⟨W,aO,L,aL⟩:∃W:SV Int,W.v=.slice (some ⟨(iY+1),0,none⟩) (1) 1/\W.l=AJ (mR (n-1)) b/\gx encI 1 ar (iY+1+1) W:=⟨(⟨.slice (some ⟨(iY+1),0,none⟩) 1 1,[b.i_]⟩:SV Int),rfl,(if_neg (by have:=aZ;omega)).symm,(gx.m_ (enc:=encI) (by simp[encI]) bP rfl (by decide) om (by simp):gx encI 1 ar (iY+1+1) (⟨.slice (some ⟨(iY+1),0,none⟩) 1 1,[b.i_]⟩:SV Int))⟩
    have aN:=KP hH e
    rw[<-L]at aN
    have cj:=HA b
    have aJ:=(bM.mono aW av)
    have ao:=(bN _ (cs e)).Yt
    have cf:=NP ao
    refine mg [2,5,6,7,8,23,24] (fun m hs ns vs=>∃(j:Nat) (o:SV Int) (F:Nat),j+m=uO b/\vs=[o.v,.slice (some ⟨(iY+1),0,none⟩) (1) 1,.slice a1 (l.l.length) c2,Y (.ofNat (l.l.length)),Y (.ofNat fR),Y ((bif rI (b.kj) (1)then(1)else(b.kj))),Y (.ofNat j)]/\iY+1+1<=ns/\HE G O hs/\(lY encI 1 G F hs ns o)/\(o.l=yG W.l j J.l)/\(gx encI 1 hs ns W)/\(o.l.length<=257*n)) ?_ (uO b) ?_
    ·
     rintro cB aC E _ ⟨j,o,F,ce,rfl,X,S,z,A,ak,aj⟩ cy
     have bB:=e8 a8 X
     have bx:=e8 ac X
     have aa:=HE.refl (E) aC
     have ah:=e9 (E)
     have K:=z.ok (fun _ _=>rfl) om
     have bs:=HE.refl (E) aC
     have bC:=e9 (E)
     refine sr ?_
     refine oq 25 (y5 j (bif rI (b.kj) (1)then(1)else(b.kj))) fun cI b4=>WO.nil<|WP.seq<|cq b4 (fun b6=>?_) (fun b6=>?_)
     ·
      refine WP.skip<|WP.seq<|WP.block<|WP.seq<|sr<|oX 1 ?_
      obtain⟨a146,cJ,bw⟩:=K.shape
      have cm:=K.2.2
      refine ov 27 (Y (.ofNat (o.l.length))) ?_ (fun _ _ _=>by rw[bw];kernel_rfl)
      refine oq 28 (nE 256 o.l.length) fun cK b5=>WO.nil<|cq b5 (fun ag=>?_) (fun ag=>?_)
      ·
       refine sr<|oW 2 ⟨rfl,rfl,[o.v],U,?_⟩
       exact⟨o,rfl,NL hH e (by rw[A,<-L,aF]) om (by have:=ag;omega),(K.mono bs bC),bx,S⟩
      ·
       refine WP.skip<|WP.region<|oX 2 ?_
       obtain⟨cp,aH,aR⟩:=J3
       obtain⟨a164,cL,C⟩:=ak.shape
       refine WO.cons (WC.NO (enc:=encI) (J:=o) (w:=W.v) W.l rfl U (by rw[aO];kernel_rfl) (z.mono aa ah) (fun _ _=>rfl) lG kp AV aH (NQ C) (by rw[C];exact ak.src C) (by rw[C];rfl) (fun _ _=>rfl) (DT _) (by decide) (by rw[aR];omega) om om om rfl ?_)
       rintro bI bq aE bc ay aB bl bo bg
       have aM:=ak.SX (z.mono aa ah) bl aB
       have be:=S.trans bo om
       have bD:=e8 X aB
       have bt:=HE.refl (aE) bq
       have bE:=e9 (aE)
       refine oN 1<|WP.region<|ov 33 (Y (.ofNat (j+1))) ?_ (fun _ _ _=>by rw[<-gM (show j+1<9223372036854775808 by omega)];kernel_rfl)
       refine oN 1<|⟨uO b-(j+1),om,rfl,rfl,j+1,bI,bc,om,U,?_,?_,?_,?_,?_,?_⟩
       · exact bD
       · exact be
       · exact(bg.mono bt bE)
       · rw[ay,A];exact(if_neg (by rw[<-A];have:=ag;omega)).symm
       · exact aM
       · rw[ay,List.length_append];have:=ag;omega
     ·
      refine WP.exit<|WP.region<|ov 34 (Y (.ofNat (fR+1))) ?_ (fun _ _ _=>by rw[<-gM (show fR+1<9223372036854775808 by omega)];kernel_rfl)
      refine oN 1<|⟨l.l.length-(fR+1),om,rfl,rfl,fR+1,o,F,om,U,?_,?_,?_,?_,?_⟩
      · exact bB
      · exact S
      · exact(z.mono aa ah)
      · have hj:j=uO b:=by omega
        rw[BV e,<-aF,A,hj,L];rfl
      · exact aj
    ·
     exact⟨0,J,gr,om,U,e9 _,ai,(aJ),rfl,aL,bG⟩
  ·
   refine WP.exit<|sr<|oW 2 ⟨rfl,rfl,[J.v],U,?_⟩
   have hT:l.l.take fR=l.l:=fy om
   rw[hT,<-IW hH]at aF
   exact⟨J,rfl,aF,(bh.mono bS b7),ab,jl⟩
 ·
  exact⟨0,⟨.slice none 0 0,[]⟩,0,om,U,e9 _,hE,lY.nil,rfl,(gG _)⟩
theorem SY(n:Nat)(M:Int)(hn:n<=17)(l:SV RPart)(hH:tY n l.l)(b:∀p∈l.l,sn n M p)(O:Ht)(G:Nat)(hl:ju jJ 3 (fun O G y=>kN O G y) O G l):WF ex 204 [l.v] O G (J1 (mR n l.l) O G):=by
 induction n generalizing l O G with
 |zero=>exact Gz 0 M hn l hH b (fun h=>absurd rfl h) O G hl
 |succ n ih=>exact Gz (n+1) M hn l hH b (fun _ l O G hH b hl=>ih om l hH b O G hl) O G hl
end
end Sw
namespace Sw
noncomputable section
open Go Go.RowKit
theorem HB{n:Nat}(h:n<9223372036854775808):gn .i64 ((.ofNat n)-(1))=((n:Nat):Int)-1:=by
 cases n with
 |zero=>rfl
 |succ n=>exact(AT (i:=n+1) (j:=1) h (by omega)).trans (by show Int.ofNat (n+1-1)=_;simp)
theorem J4{uY out:List Int}{P:Int->Prop}(hl:∀r∈uY,P r)(h:∀r∈out,P r):∀k,∀r∈yG uY k out,P r
 |0=>h
 |k+1=>by
  show∀r∈C_ uY (yG uY k out),P r
  unfold C_;split
  · exact J4 hl h k
  · intro r hr
    rcases fI.1 hr with hr|hr
    · exact J4 hl h k r hr
    · exact hl r hr
theorem IX{M:Int}:∀(n:Nat) (l:List RPart),(∀p∈l,sn n M p)->∀r∈mR n l,0<=r/\r<=M
 |0,_,_=>fun r h=>by cases h
 |n+1,l,b=>by
  have:∀(l:List RPart) (out:List Int),(∀p∈l,sn (n+1) M p)->(∀r∈out,0<=r/\r<=M)->∀r∈l.foldl (wE (mR n)) out,0<=r/\r<=M:=by
   intro l
   induction l with
   |nil=>intro out _ h;exact h
   |cons p l ih=>
    intro out b h
    refine ih _ (fun q e=>b q (fw _ e)) (J4 ?_ h _)
    have O:=b p (fh ..)
    unfold AJ;split
    · exact IX n _ O.sub
    · intro r hr
      rw[List.mem_singleton.1 hr]
      rcases O with⟨_,h,_⟩|⟨_,h,_⟩
      · exact h
      · omega
  exact this l [] b (fun r h=>by cases h)
theorem OT{β:Type}{l:List β}{i:Nat}{x:β}(h:l[i]?=some x):lj (l.take (i+1))=yv (lj (l.take i)) x:=by
 rw[List.take_add_one,h,Option.toList_some];exact IH _ _
theorem U5{l:List Int}{i:Nat}{x:Int}(h:l[i]?=some x):List.count x (l.take (i+1))=List.count x (l.take i)+1:=by
 rw[List.take_add_one,h,Option.toList_some,List.count_append];simp
theorem SZ{l:List Int}{i:Nat}{x z:Int}(h:l[i]?=some x)(b:z≠x):List.count z (l.take (i+1))=List.count z (l.take i):=by
 rw[List.take_add_one,h,Option.toList_some,List.count_append,List.count_eq_zero_of_not_mem (l:=[x]) (by simpa using b)];rfl
theorem U6{l:List Int}(z:Int)(h:z∉lj l):List.count z l=0:=List.count_eq_zero_of_not_mem fun k=>h ((Fl l).2 k)
def pz(l:List Int)(i:Nat)(z:Int):Nat:=List.count z (l.take i)
theorem W8(l:List Int)(i:Nat)(z:Int):pz l i z<=l.length:=by
 unfold pz
 have h1:=List.count_le_length (a:=z) (l:=l.take i)
 rw[List.length_take]at h1;omega
theorem U7{l:List Int}{i:Nat}(h:l.length<=i)(z:Int):pz l i z=List.count z l:=by unfold pz;rw[List.take_of_length_le h]
theorem FA{l:List Int}{i:Nat}(z:Int)(h:z∉lj (l.take i)):pz l i z=0:=U6 z h
theorem S4{l:List Int}{i:Nat}{x:Int}(h:l[i]?=some x):Value.int .i64 (.ofNat (pz l (i+1) x))=.int .i64 (.ofNat (pz l i x+1)):=by unfold pz;rw[U5 h]
theorem Q1{l:List Int}{i:Nat}{x z:Int}(h:l[i]?=some x)(b:z≠x):Value.int .i64 (.ofNat (pz l (i+1) z))=.int .i64 (.ofNat (pz l i z)):=by unfold pz;rw[SZ h b]
end
end Sw
namespace Sw
noncomputable section
open Go Go.Proofs Go.RowKit
set_option maxRecDepth 100000
set_option maxHeartbeats 1600000
theorem IY:MK ex.T 3 (fun x:Int=>Y x):=Yk U
theorem LA:ex.T.jh 326=some (.map 3 3):=U
theorem Yu:ex.T.zero 3=some (Y 0):=U
def Yv(C:j4)(b:List mc)(R:List Int)(i:Nat):Prop:=∃m k,R[i]?=some m/\C.iv.l[m.toNat]?=some k/\((¬(k.je=1↔((i:Nat):Int)=0)\/¬(k.je=3↔((i:Nat):Int)=((R.length:Nat):Int)-1))\/(((0:Int)<((i:Nat):Int))/\∃q,R[i-1]?=some q/\¬(⟨q,m⟩:mc)∈b))
def Z2(C:j4)(b:List mc)(R:List Int)(x:Int):Prop:=0<=x/\∃k,C.iv.l[x.toNat]?=some k/\((((List.count x R:Nat):Int)=0\/k.je≠2)\/¬(⟨x,x⟩:mc)∈b)
def Z3(R:List Int)(x:oP):Prop:=x.Bp<=((List.count x.i_ R:Nat):Int)
def Da(C:j4)(b:List mc)(d:j6):Prop:=(((2<=(mR 17 d.jI.l).length/\(mR 17 d.jI.l).length<=256)/\∀i,i<(mR 17 d.jI.l).length->¬Yv C b (mR 17 d.jI.l) i)/\¬Z2 C b (mR 17 d.jI.l) d.jQ)/\∀x∈d.jp.l,(Z3 (mR 17 d.jI.l)) x
def IZ(C:j4):List mc:=lj (C.jR.l.map xS)
section
open Classical
def mF(C:j4):Int:=if¬vQ C then 2 else if¬Bz C then 70 else if¬Ct C then 71 else if qo (C.nQ.l.map .step)≠0 then qo (C.nQ.l.map .step)else if¬∀d∈C.fu.l,(Da C (IZ C)) d then 72 else 0
end
theorem HD:ex.T.agg 326=some false:=U
theorem S5:ex.T.size 326=some 1:=U
theorem S6:ex.T.zero 326=some (.map none):=U
theorem OU(L:List Int)(F:Int->Nat)(x:oP)(b bm:Nat)(es:List MapEntry)(y:Nat)(O:Ht)(G:Nat)(A:O.get b=some (.cells [.map (some bm)] gi.plain))(C:b<G)(hm:O.get bm=some (.map es y))(E:bm<G)(B:kM (fun x:Int=>Y x) L (fun z=>Y (.ofNat (F z))) es)(o:∀z,z∉L->F z=0):WF ex 205 [.agg (lP x).toArray,pt b 0] O G (fG G O (ga (x.Bp<=((F x.i_:Nat):Int)))):=by
 refine WF.body (fi:=⟨Tryz.f205.body.getD .skip,11,[.tmp 3]⟩) U U U rfl ?_
 have hE:=HE.refl G O
 refine sr ?_
 refine WO.cons (WC.box (.agg (lP x).toArray) (lP x) rfl U rfl ?_)
 obtain⟨jq,e,iC,hU⟩:=boxed O (G) (lP x)
 rw[e];clear e
 have kW:=hE.trans iC nR
 have p:=iC.get A C
 have u:=iC.get hm E
 have j:=e8 nR (e_ (G))
 refine ov 3 (.bool false) ?_
 refine WO.nil ?_
 refine sr ?_
 refine WO.cons (WC.jP b (0) (.map (some bm)) U HD p rfl ?_)
 refine ov 5 (pt G 0) ?_
 refine WO.cons (WC.jP G 0 (Y x.i_) U ft hU rfl ?_)
 refine WO.cons (WC.me (v:=Y (.ofNat (F (x.i_)))) 7 (pj ex.T jq.get 326 (.map (some bm)) ((fun x:Int=>Y x) (x.i_)) false) kf (Cr (O:=jq.get) (f:=F) IY LA Yu u B o (x.i_)) ?_)
 refine ov 8 (pt G (0+1)) ?_
 refine WO.cons (WC.jP G (0+1) (Y x.Bp) U ft hU rfl ?_)
 obtain⟨nM,m,rN⟩:=@nb (DY (x.Bp) (.ofNat (F (x.i_)))) ((x.Bp)<=(((F (x.i_)):Nat):Int)) (yX)
 refine ov 10 (.bool nM) ?_ (fun _ _ _=>by subst m;kernel_rfl)
 refine ov 3 (.bool nM) ?_
 refine WO.nil ?_
 refine WP.ret ⟨rfl,rfl,[.bool nM],U,?_⟩
 refine⟨⟨nM,rfl,?_⟩,j,kW⟩
 exact rN
theorem Q2(C:j4)(d:j6)(ak b6:Nat)(cM:List MapEntry)(ac:List mc)(cN:BY (gn .i64 ((.ofNat (C.iv.l.length))-(1))) d)(hH:tY 17 d.jI.l)(O:Ht)(G:Nat)(af:oV O G C)(hd:lQ O G d)(dV:O.get ak=some (.map cM b6))(ca:ak<G)(b7:kM (fun x:mc=>.agg (pU x).toArray) ac (fun _=>.bool true) cM)(eB:ac.Nodup):WF ex 102 [.agg (iM C).toArray,.agg (iL d).toArray,.map (some ak)] O G (fG G O (ga (Da C ac d))):=by
 refine WF.body (fi:=⟨Tryz.f102.body.getD .skip,105,[.tmp 6]⟩) U U U rfl ?_
 have hE:=HE.refl G O
 refine sr ?_
 refine WO.cons (WC.box (.agg (iM C).toArray) (iM C) rfl U rfl ?_)
 obtain⟨jq,b9,iC,hU⟩:=boxed O (G) (iM C)
 rw[b9];clear b9
 have kW:=hE.trans iC nR
 have dU:=iC.get dV ca
 have cc:=e4 ca (e_ (G))
 have cb:=e8 nR (e_ (G))
 refine WO.cons (WC.box (.agg (iL d).toArray) (iL d) rfl U rfl ?_)
 obtain⟨y9,bB,wR,bu⟩:=boxed jq (G+1) (iL d)
 rw[bB];clear bB
 have bs:=kW.trans wR cb
 have cR:=wR.get dU cc
 have bI:=e4 cc (e_ (G+1))
 have cS:=wR.get hU (fb (G))
 have bJ:=e4 (fb (G)) (e_ (G+1))
 have aY:=e8 cb (e_ (G+1))
 refine ov 6 (.bool false) ?_
 refine WO.nil ?_
 refine sr ?_
 refine ov 14 (pt (G+1) (0+1)) ?_
 obtain⟨a21,dO,bA⟩:=hd.jI.1.shape
 have ei:=hd.jI.1.2.2
 refine WO.cons (WC.jP (G+1) (0+1) (.slice a21 (d.jI.l.length) dO) U pI bu (by rw[<-bA];rfl) ?_)
 refine WO.cons (WC.call 16 204 ([d.jI.v]) (fun _ _ _=>by(try rw[bA]);kernel_rfl) ((SY 17 _ (by decide) d.jI hH (fun p O=>cN.1.2 p O) y9 (G+1+1) (hd.jI.mono (fun _ h he hn=>h.mono he hn) bs aY)).mono ?_))
 rintro _ aX u ⟨R,rfl,aa,ab,aA,az⟩
 have bt:=bs.trans az aY
 have cT:=az.get cR bI
 have bK:=e4 bI aA
 have cU:=az.get cS bJ
 have bL:=e4 bJ aA
 have cV:=az.get bu (fb (G+1))
 have bM:=e4 (fb (G+1)) aA
 have aZ:=e8 aY aA
 have df:=HE.refl (u) aX
 have bO:=e9 (u)
 have b8:∀r∈R.l,0<=r/\r<((C.iv.l.length:Nat):Int):=fun r hr=>by
  have h1:=IX 17 _ (fun p O=>cN.1.2 p O) r (by rw[<-aa];exact hr)
  have D:=af.iv.2.2
  rw[HB om]at h1;omega
 obtain⟨aj,ar,aq⟩:=ab.shape
 have ej:=ab.2.2
 rw[aq]
 refine ov 7 (.slice aj (R.l.length) ar) ?_
 refine WO.nil ?_
 refine sr ?_
 refine ov 17 (.slice aj (R.l.length) ar) ?_
 refine ov 18 (Y (.ofNat (R.l.length))) ?_
 obtain⟨z,b4⟩:∃z:Int,z=gn .i64 ((.ofNat (R.l.length))-(1)):=⟨_,rfl⟩
 have eC:=ab.2.2
 have b_:z=((R.l.length:Nat):Int)-1:=by rw[b4];exact HB om
 refine ov 19 (Y z) ?_ (fun _ _ _=>by rw[b4];kernel_rfl)
 refine ov 8 (Y z) ?_
 refine WO.nil ?_
 refine WP.seq ?_
 refine sr ?_
 refine ov 20 (Y z) ?_
 obtain⟨W,dQ,d_⟩:=@nb (rI (z) (1)) ((z)<(1)) (sA)
 refine ov 21 (.bool W) ?_ (fun _ _ _=>by subst dQ;kernel_rfl)
 refine ov 22 (.bool W) ?_
 refine og 22 (!W) (Y z) (.bool W) (by cases W<;>rfl) (fun h=>by obtain rfl:=bF h;exact fun _ _ _=>by kernel_rfl) ?_
 obtain⟨bp,dR,ea⟩:=@nb (DY (256) (z)) ((256)<=(z)) (yX)
 refine og 22 (!W) (.bool bp) (.bool W) (by cases W<;>rfl) (fun h=>by obtain rfl:=bF h;exact fun _ _ _=>by subst dR;kernel_rfl) ?_
 obtain⟨dP,dS,eb⟩:=@nb ((W||bp)) (((z)<(1))\/((256)<=(z))) (by rw[Bool.or_eq_true,d_,ea])
 refine WO.cons (WC.me (v:=.bool dP) 25 (kZ (.bool W) (.bool true) ((bif !W then .bool bp else undef))) kf (by rw[dS];exact kS (fun h=>by obtain rfl:W=false:=h;rfl)) ?_)
 refine WO.nil ?_
 refine cq eb (fun bN=>?_) (fun bN=>?_)
 ·
  refine sr ?_
  refine ov 6 (.bool false) ?_
  refine WO.nil ?_
  refine WP.ret ⟨rfl,rfl,[.bool false],U,?_⟩
  exact⟨⟨false,rfl,fun h=>(by cases h),fun h=>(by have h:=h.1.1.1;rw[<-aa]at h;omega)⟩,aZ,bt⟩
 ·
  refine WP.skip ?_
  refine sr ?_
  refine WO.cons (WC.makeMap rfl ?_)
  obtain⟨pH,bC,an,cW⟩:=mapped aX (u) (.map [] 0)
  rw[bC];clear bC
  have cO:=bt.trans an aZ
  have cX:=an.get cT bK
  have dl:=e4 bK (e_ (u))
  have cY:=an.get cU bL
  have dm:=e4 bL (e_ (u))
  have cZ:=an.get cV bM
  have dn:=e4 bM (e_ (u))
  have dg:=df.trans an bO
  have bP:=e8 bO (e_ (u))
  have bH:=e8 aZ (e_ (u))
  refine WO.cons (WC.alloc _ [.map none] rfl S6 rfl ?_)
  obtain⟨de,bD,ad,c0⟩:=boxed pH (u+1) [.map none]
  rw[bD];clear bD
  have cP:=cO.trans ad bH
  have c3:=ad.get cX dl
  have c5:=ad.get cY dm
  have c6:=ad.get cZ dn
  have c7:=ad.get cW (fb (u))
  have dp:=e4 (fb (u)) (e_ (u+1))
  have dh:=dg.trans ad bP
  have dN:=e8 bP (e_ (u+1))
  have dj:=e8 bH (e_ (u+1))
  refine WO.cons (WC.uR (u+1) (0) (.map (some u)) [.map none] [.map (some u)] [.map (some u)] 1 rfl U U S5 rfl rfl c0 rfl rfl rfl ?_)
  obtain⟨ew,bE,bw,c8,aB⟩:=stored de (u+1) (.cells [.map (some u)] gi.plain)
  rw[bE];clear bE
  have cQ:=cP.trans bw om
  have di:=dh.trans bw om
  have c9:=(aB ak om).trans c3
  have c_:=(aB G om).trans c5
  have da:=(aB (G+1) om).trans c6
  have db:=(aB u om).trans c7
  refine WO.nil ?_
  refine WP.seq ?_
  refine sr ?_
  refine ov 27 (.slice aj (R.l.length) ar) ?_
  refine ov 28 (Y (.ofNat (R.l.length))) ?_
  refine ov 29 (Y 0) ?_
  refine WO.nil ?_
  refine WP.block ?_
  refine mg [2,3,4,7,8,9,27,28,29] (fun m hs ns vs=>∃(e:Nat) (aW:List MapEntry) (bq:Nat),e+m=R.l.length/\vs=[.map (some ak),pt G 0,pt (G+1) 0,.slice aj (R.l.length) ar,Y z,pt (u+1) 0,.slice aj (R.l.length) ar,Y (.ofNat (R.l.length)),Y (.ofNat e)]/\u+1+1<=ns/\HE G O hs/\hs.get ak=some (.map cM b6)/\hs.get G=some (.cells (iM C) gi.plain)/\hs.get (G+1)=some (.cells (iL d) gi.plain)/\hs.get u=some (.map aW bq)/\hs.get (u+1)=some (.cells [.map (some u)] gi.plain)/\HE (u) aX hs/\(∀j,j<e->¬Yv C ac R.l j)/\(kM (fun x:Int=>Y x) (lj (R.l.take e)) (fun z=>Y (.ofNat ((pz R.l e) z))) aW)) ?_ (R.l.length) ?_
  ·
   rintro ey N dq _ ⟨e,aW,bq,ee,rfl,ap,M,a6,aH,aI,ah,ai,aJ,hinv,ay⟩ eo
   have bj:=e4 dp ap
   have bk:=e4 (fb (u+1)) ap
   have bn:=e8 dN ap
   have K:=e8 dj ap
   refine sr ?_
   obtain⟨cd,cn,dr⟩:=@nb (rI (.ofNat e) (.ofNat (R.l.length))) (((e:Nat):Int)<((R.l.length:Nat):Int)) (sA)
   refine ov 30 (.bool cd) ?_ (fun _ _ _=>by subst cn;kernel_rfl)
   refine WO.nil ?_
   refine WP.seq ?_
   refine cq dr (fun dM=>?_) (fun dM=>?_)
   ·
    refine WP.skip ?_
    refine WP.seq ?_
    refine WP.block ?_
    refine sr ?_
    refine ov 31 (Y (.ofNat e)) ?_
    have aM:e<R.l.length:=by omega
    refine WO.cons (WC.iy aq ab (e) lG kp (aM) ?_)
    obtain⟨E,S⟩:=gE aM
    refine WO.cons (WC.lz (Y E) aq (ab.mono aJ bn) S rfl ft ?_)
    refine ov 10 (Y (.ofNat e)) ?_
    refine ov 11 (Y E) ?_
    refine WO.nil ?_
    refine sr ?_
    refine ov 34 (pt G (0+1)) ?_
    obtain⟨aO,ce,aC⟩:=af.iv.shape
    have dX:=af.iv.2.2
    refine WO.cons (WC.jP G (0+1) (.slice aO (C.iv.l.length) ce) U wA aH (by rw[<-aC];rfl) ?_)
    have bG:=b8 E (cs S)
    obtain⟨ae,bg⟩:∃k:Nat,E=.ofNat k:=⟨(E).toNat,(gI bG.1).symm⟩
    have aL:ae=(E).toNat:=by rw[bg];rfl
    refine ov 36 (Y (.ofNat ae)) ?_ (fun _ _ _=>by rw[<-bg];kernel_rfl)
    have ao:ae<C.iv.l.length:=by omega
    refine WO.cons (WC.iy aC af.iv (ae) C6 xO (ao) ?_)
    refine ov 38 (pt (fW aO) (0+(ae)*2+1)) ?_
    obtain⟨J,aE⟩:=gE ao
    refine WO.cons (WC.sb (fW aO) (0+(ae)*2+1) (Y J.je) U ft ((af.iv.mono M K).pd aC (zl ao)) (nj (af.iv.mono M K).1 aE (by decide) rfl) ?_)
    refine ov 12 (Y J.je) ?_
    refine WO.nil ?_
    refine WP.seq ?_
    refine sr ?_
    refine ov 40 (Y J.je) ?_
    obtain⟨au,cp,dt⟩:=@nb (kC (J.je) (1)) ((J.je)=(1)) (lJ)
    refine ov 41 (.bool au) ?_ (fun _ _ _=>by subst cp;kernel_rfl)
    refine ov 42 (Y (.ofNat e)) ?_
    obtain⟨al,cr,du⟩:=@nb (kC (.ofNat e) (0)) (((e:Nat):Int)=(0)) (lJ)
    refine ov 43 (.bool al) ?_ (fun _ _ _=>by subst cr;kernel_rfl)
    obtain⟨F,ct,dv⟩:=@nb (!(bif au then al else !al)) (¬(((J.je)=(1))↔(((e:Nat):Int)=(0)))) (by rw[<-dt,<-du];cases au<;>cases al<;>simp)
    refine ov 44 (.bool F) ?_ (fun _ _ _=>by subst ct;cases au<;>cases al<;>kernel_rfl)
    refine ov 45 (.bool F) ?_
    refine og 45 (!F) (Y J.je) (.bool F) (by cases F<;>rfl) (fun h=>by obtain rfl:=bF h;exact fun _ _ _=>by kernel_rfl) ?_
    obtain⟨av,cu,dw⟩:=@nb (kC (J.je) (3)) ((J.je)=(3)) (lJ)
    refine og 45 (!F) (.bool av) (.bool F) (by cases F<;>rfl) (fun h=>by obtain rfl:=bF h;exact fun _ _ _=>by subst cu;kernel_rfl) ?_
    refine og 45 (!F) (Y (.ofNat e)) (.bool F) (by cases F<;>rfl) (fun h=>by obtain rfl:=bF h;exact fun _ _ _=>by kernel_rfl) ?_
    refine og 45 (!F) (Y z) (.bool F) (by cases F<;>rfl) (fun h=>by obtain rfl:=bF h;exact fun _ _ _=>by kernel_rfl) ?_
    obtain⟨am,cw,dx⟩:=@nb (kC (.ofNat e) (z)) (((e:Nat):Int)=(z)) (lJ)
    refine og 45 (!F) (.bool am) (.bool F) (by cases F<;>rfl) (fun h=>by obtain rfl:=bF h;exact fun _ _ _=>by subst cw;kernel_rfl) ?_
    obtain⟨aP,cx,dy⟩:=@nb (!(bif av then am else !am)) (¬(((J.je)=(3))↔(((e:Nat):Int)=(z)))) (by rw[<-dw,<-dx];cases av<;>cases am<;>simp)
    refine og 45 (!F) (.bool aP) (.bool F) (by cases F<;>rfl) (fun h=>by obtain rfl:=bF h;exact fun _ _ _=>by subst cx;cases av<;>cases am<;>kernel_rfl) ?_
    obtain⟨o,cy,a7⟩:=@nb ((F||aP)) ((¬(((J.je)=(1))↔(((e:Nat):Int)=(0))))\/(¬(((J.je)=(3))↔(((e:Nat):Int)=(z))))) (by rw[Bool.or_eq_true,dv,dy])
    refine WO.cons (WC.me (v:=.bool o) 52 (kZ (.bool F) (.bool true) ((bif !F then .bool aP else undef))) kf (by rw[cy];exact kS (fun h=>by obtain rfl:F=false:=h;rfl)) ?_)
    refine ov 53 (.bool o) ?_
    refine og 53 (!o) (Y (.ofNat e)) (.bool o) (by cases o<;>rfl) (fun h=>by obtain rfl:=bF h;exact fun _ _ _=>by kernel_rfl) ?_
    obtain⟨y,cz,a8⟩:=@nb (rI (0) (.ofNat e)) ((0)<((e:Nat):Int)) (sA)
    refine og 53 (!o) (.bool y) (.bool o) (by cases o<;>rfl) (fun h=>by obtain rfl:=bF h;exact fun _ _ _=>by subst cz;kernel_rfl) ?_
    refine og 53 (!o) (.bool y) (.bool o) (by cases o<;>rfl) (fun h=>by obtain rfl:=bF h;exact fun _ _ _=>by kernel_rfl) ?_
    refine og 56 (!o&&y) (.map (some ak)) ((bif !o then .bool y else undef)) (by cases o<;>cases y<;>rfl) (fun h=>by obtain⟨rfl,rfl⟩:=sM h;exact fun _ _ _=>by kernel_rfl) ?_
    refine og 56 (!o&&y) (.slice aj (R.l.length) ar) ((bif !o then .bool y else undef)) (by cases o<;>cases y<;>rfl) (fun h=>by obtain⟨rfl,rfl⟩:=sM h;exact fun _ _ _=>by kernel_rfl) ?_
    refine og 56 (!o&&y) (Y (.ofNat e)) ((bif !o then .bool y else undef)) (by cases o<;>cases y<;>rfl) (fun h=>by obtain⟨rfl,rfl⟩:=sM h;exact fun _ _ _=>by kernel_rfl) ?_
    refine og 56 (!o&&y) (Y (.ofNat (e-1))) ((bif !o then .bool y else undef)) (by cases o<;>cases y<;>rfl) (fun h=>by obtain⟨rfl,rfl⟩:=sM h;have dK:=nf a7;have dL:=(a8).1 rfl;exact fun _ _ _=>by rw[<-AT (show e<9223372036854775808 by omega) om];kernel_rfl) ?_
    have bz:(!o&&y)=true->e-1<R.l.length:=fun h=>by obtain⟨rfl,rfl⟩:o=false/\y=true:=(by simpa[and_assoc]using h);have dK:¬((¬(((J.je)=(1))↔(((e:Nat):Int)=(0))))\/(¬(((J.je)=(3))↔(((e:Nat):Int)=(z))))):=(fun k=>absurd ((a7).2 k) (by decide));have dL:=(a8).1 rfl;omega
    refine wG 56 (!o&&y) (pt (fW aj) (0+(e-1)*1)) ((bif !o then .bool y else undef)) (by cases o<;>cases y<;>rfl) (fun h=>by obtain⟨rfl,rfl⟩:=sM h;exact WC.iy aq ab (e-1) lG kp ((bz rfl)) rfl) ?_
    obtain⟨L,aF⟩:∃br,R.l[e-1]?=some br:=⟨_,ff om⟩
    refine wG 56 (!o&&y) (Y L) ((bif !o then .bool y else undef)) (by cases o<;>cases y<;>rfl) (fun h=>by obtain⟨rfl,rfl⟩:=sM h;exact WC.lz (Y L) aq (ab.mono aJ bn) aF rfl ft rfl) ?_
    refine og 56 (!o&&y) (Y E) ((bif !o then .bool y else undef)) (by cases o<;>cases y<;>rfl) (fun h=>by obtain⟨rfl,rfl⟩:=sM h;exact fun _ _ _=>by kernel_rfl) ?_
    refine og 56 (!o&&y) (.agg ⟨[Y L,Y E]⟩) ((bif !o then .bool y else undef)) (by cases o<;>cases y<;>rfl) (fun h=>by obtain⟨rfl,rfl⟩:=sM h;exact fun _ _ _=>by kernel_rfl) ?_
    obtain⟨aQ,cA,dz⟩:=@nb (@decide ((⟨L,E⟩:mc)∈ac) (Classical.propDecidable _)) ((⟨L,E⟩:mc)∈ac) (@decide_eq_true_iff _ (Classical.propDecidable _))
    refine wG 56 (!o&&y) (.bool aQ) ((bif !o then .bool y else undef)) (by cases o<;>cases y<;>rfl) (fun h=>by obtain⟨rfl,rfl⟩:=sM h;exact WC.me (v:=.bool aQ) 65 (pj ex.T N.get 245 (.map (some ak)) ((fun x:mc=>.agg (pU x).toArray) (⟨L,E⟩:mc)) false) kf (ve (O:=N.get) IV IU Pv a6 b7 (⟨L,E⟩:mc) cA) rfl) ?_
    obtain⟨aR,cB,dA⟩:=@nb (!aQ) (¬((⟨L,E⟩:mc)∈ac)) (by rw[Bool.not_eq_true',<-Bool.not_eq_true,dz])
    refine og 56 (!o&&y) (.bool aR) ((bif !o then .bool y else undef)) (by cases o<;>cases y<;>rfl) (fun h=>by obtain⟨rfl,rfl⟩:=sM h;exact fun _ _ _=>by subst cB;kernel_rfl) ?_
    obtain⟨aw,cC,dB⟩:=@nb ((y&&aR)) (((0)<((e:Nat):Int))/\(¬((⟨L,E⟩:mc)∈ac))) (by rw[Bool.and_eq_true,a8,dA])
    refine wG 53 (!o) (.bool aw) (.bool o) (by cases o<;>rfl) (fun h=>by obtain rfl:=bF h;exact WC.me (v:=.bool aw) 67 (kZ (.bool y) ((bif !false&&y then .bool aR else undef)) (.bool false)) kf (by rw[cC];exact tz (fun h=>by obtain rfl:y=true:=h;rfl)) rfl) ?_
    obtain⟨cf,cD,dC⟩:=@nb ((o||aw)) (((¬(((J.je)=(1))↔(((e:Nat):Int)=(0))))\/(¬(((J.je)=(3))↔(((e:Nat):Int)=(z)))))\/(((0)<((e:Nat):Int))/\(¬((⟨L,E⟩:mc)∈ac)))) (by rw[Bool.or_eq_true,a7,dB])
    refine WO.cons (WC.me (v:=.bool cf) 68 (kZ (.bool o) (.bool true) ((bif !o then .bool aw else undef))) kf (by rw[cD];exact kS (fun h=>by obtain rfl:o=false:=h;rfl)) ?_)
    refine WO.nil ?_
    refine cq dC (fun bd=>?_) (fun bd=>?_)
    ·
     refine sr ?_
     refine ov 6 (.bool false) ?_
     refine WO.nil ?_
     refine WP.ret ⟨rfl,rfl,[.bool false],U,?_⟩
     refine⟨⟨false,rfl,fun h=>(by cases h),fun h=>absurd (h.1.1.2 e (by rw[<-aa];omega)) (fun k=>k ?_)⟩,K,M⟩
     rw[<-aa];refine⟨E,J,S,by rw[<-aL];exact aE,?_⟩
     rcases bd with(h3|h3)|⟨h3,h4⟩
     · exact .inl (.inl h3)
     · exact .inl (.inr (by rw[<-b_];exact h3))
     · exact .inr ⟨h3,L,aF,h4⟩
    ·
     refine WP.skip ?_
     refine WP.region ?_
     refine WO.cons (WC.jP (u+1) (0) (.map (some u)) U HD ai rfl ?_)
     refine ov 70 (Y E) ?_
     refine WO.cons (WC.me (v:=Y (.ofNat ((pz R.l e) E))) 71 (pj ex.T N.get 326 (.map (some u)) ((fun x:Int=>Y x) E) false) kf (Cr (O:=N.get) (f:=(pz R.l e)) IY LA Yu ah ay FA E) ?_)
     have eu:(pz R.l e) E<=R.l.length:=W8 _ _ _
     refine ov 72 (Y (.ofNat (((pz R.l e) E)+1))) ?_ (fun _ _ _=>by rw[<-gM (show((pz R.l e) E)+1<9223372036854775808 by omega)];kernel_rfl)
     refine WO.cons (WC.mapUpdate (g:=(fun z=>Y (.ofNat ((pz R.l e) z)))) (g':=(fun z=>Y (.ofNat ((pz R.l (e+1)) z)))) u E (Y (.ofNat (((pz R.l e) E)+1))) rfl U U U IY LA ah ay (qR _) (S4 S) (fun z b4=>Q1 S b4) ?_)
     rintro bQ cj ef bf bU ag bT
     have bR:=M.trans bf om
     have b3:=aJ.trans bf om
     have bV:=(ag ak om).trans a6
     have bW:=(ag G om).trans aH
     have bX:=(ag (G+1) om).trans aI
     have bY:=(ag (u+1) om).trans ai
     refine WO.nil ?_
     refine WP.region ?_
     refine ov 73 (Y (.ofNat (e+1))) ?_ (fun _ _ _=>by rw[<-gM (show e+1<9223372036854775808 by omega)];kernel_rfl)
     refine ov 29 (Y (.ofNat (e+1))) ?_
     refine WO.nil ?_
     refine⟨R.l.length-(e+1),om,rfl,rfl,e+1,bQ,cj,om,U,?_,?_,?_,?_,?_,?_,?_,?_,?_,?_⟩
     · exact ap
     · exact bR
     · exact bV
     · exact bW
     · exact bX
     · exact bU
     · exact bY
     · exact b3
     · intro j hj;rcases Nat.lt_succ_iff_lt_or_eq.1 hj with hj|rfl
       · exact hinv j hj
       · rintro ⟨m,k,h1,D,h3⟩
         rw[S]at h1;cases h1
         rw[<-aL,aE]at D;cases D
         refine bd ?_
         rcases h3 with(h3|h3)|⟨h3,q,h4,ep⟩
         · exact .inl (.inl h3)
         · exact .inl (.inr (by rw[b_];exact h3))
         · rw[aF]at h4;cases h4;exact .inr ⟨h3,ep⟩
     · rw[OT S];exact bT
   ·
    refine WP.exit ?_
    refine WP.seq ?_
    refine sr ?_
    have be:∀z,pz R.l e z=List.count z R.l:=U7 om
    have ec:R.l.take e=R.l:=fy om
    obtain⟨ez,dW⟩:∃r,R.l[0]?=some r:=⟨_,ff (by have:=bN;omega)⟩
    have et:=b8 ez (cs dW)
    have dT:=cN.1.1.2
    have eA:=af.iv.2.2
    rw[HB om]at dT
    refine ov 74 (pt (G+1) (0+4)) ?_
    refine WO.cons (WC.jP (G+1) (0+4) (Y d.jQ) U ft aI rfl ?_)
    refine ov 13 (Y d.jQ) ?_
    refine WO.nil ?_
    refine sr ?_
    refine ov 76 (Y d.jQ) ?_
    obtain⟨b,cE,a_⟩:=@nb (DY (0) (d.jQ)) ((0)<=(d.jQ)) (yX)
    refine ov 77 (.bool b) ?_ (fun _ _ _=>by subst cE;kernel_rfl)
    refine ov 78 (.bool b) ?_
    refine wG 78 (b) (.map (some u)) (.bool b) (by cases b<;>rfl) (fun h=>by obtain rfl:=h;exact WC.jP (u+1) (0) (.map (some u)) U HD ai rfl rfl) ?_
    refine og 78 (b) (Y d.jQ) (.bool b) (by cases b<;>rfl) (fun h=>by obtain rfl:=h;exact fun _ _ _=>by kernel_rfl) ?_
    refine wG 78 (b) (Y (.ofNat ((pz R.l e) (d.jQ)))) (.bool b) (by cases b<;>rfl) (fun h=>by obtain rfl:=h;exact WC.me (v:=Y (.ofNat ((pz R.l e) (d.jQ)))) 81 (pj ex.T N.get 326 (.map (some u)) ((fun x:Int=>Y x) (d.jQ)) false) kf (Cr (O:=N.get) (f:=(pz R.l e)) IY LA Yu ah ay FA (d.jQ)) rfl) ?_
    obtain⟨A,cF,bc⟩:=@nb (kC (.ofNat ((pz R.l e) (d.jQ))) (0)) (((((pz R.l e) (d.jQ)):Nat):Int)=(0)) (lJ)
    refine og 78 (b) (.bool A) (.bool b) (by cases b<;>rfl) (fun h=>by obtain rfl:=h;exact fun _ _ _=>by subst cF;kernel_rfl) ?_
    refine og 78 (b) (.bool A) (.bool b) (by cases b<;>rfl) (fun h=>by obtain rfl:=h;exact fun _ _ _=>by kernel_rfl) ?_
    refine og 83 (b&&!A) (pt G (0+1)) ((bif b then .bool A else undef)) (by cases b<;>cases A<;>rfl) (fun h=>by obtain⟨rfl,rfl⟩:=yl h;exact fun _ _ _=>by kernel_rfl) ?_
    obtain⟨a159,bo,aD⟩:=af.iv.shape
    have dY:=af.iv.2.2
    refine wG 83 (b&&!A) (.slice a159 (C.iv.l.length) bo) ((bif b then .bool A else undef)) (by cases b<;>cases A<;>rfl) (fun h=>by obtain⟨rfl,rfl⟩:=yl h;exact WC.jP G (0+1) (.slice a159 (C.iv.l.length) bo) U wA aH (by rw[<-aD];rfl) rfl) ?_
    obtain⟨kx,bx⟩:∃k:Nat,k=(d.jQ).toNat:=⟨_,rfl⟩
    have dc:0<=d.jQ->d.jQ=.ofNat kx:=fun h=>by rw[bx];exact(gI h).symm
    have dd:kx<C.iv.l.length:=by omega
    refine og 83 (b&&!A) (Y (.ofNat kx)) ((bif b then .bool A else undef)) (by cases b<;>cases A<;>rfl) (fun h=>by obtain⟨rfl,rfl⟩:=yl h;have dK:=(a_).1 rfl;have dL:=nf bc;exact fun _ _ _=>by rw[<-dc om];kernel_rfl) ?_
    have aN:(b&&!A)=true->kx<C.iv.l.length:=fun h=>by obtain⟨rfl,rfl⟩:b=true/\A=false:=(by simpa[and_assoc]using h);have dK:=(a_).1 rfl;have dL:¬(((((pz R.l e) (d.jQ)):Nat):Int)=(0)):=(fun k=>absurd ((bc).2 k) (by decide));exact dd
    refine wG 83 (b&&!A) (pt (fW a159) (0+(kx)*2)) ((bif b then .bool A else undef)) (by cases b<;>cases A<;>rfl) (fun h=>by obtain⟨rfl,rfl⟩:=yl h;exact WC.iy aD af.iv (kx) C6 xO ((aN rfl)) rfl) ?_
    refine og 83 (b&&!A) (pt (fW a159) (0+(kx)*2+1)) ((bif b then .bool A else undef)) (by cases b<;>cases A<;>rfl) (fun h=>by obtain⟨rfl,rfl⟩:=yl h;exact fun _ _ _=>by kernel_rfl) ?_
    obtain⟨X,aG⟩:∃br,C.iv.l[kx]?=some br:=⟨_,ff om⟩
    refine wG 83 (b&&!A) (Y X.je) ((bif b then .bool A else undef)) (by cases b<;>cases A<;>rfl) (fun h=>by obtain⟨rfl,rfl⟩:=yl h;exact WC.sb (fW a159) (0+(kx)*2+1) (Y X.je) U ft ((af.iv.mono M K).pd aD (zl ((aN rfl)))) (nj (af.iv.mono M K).1 aG (by decide) rfl) rfl) ?_
    obtain⟨aS,cG,dD⟩:=@nb ((!(kC (X.je) (2)))) ((X.je)≠(2)) (FR)
    refine og 83 (b&&!A) (.bool aS) ((bif b then .bool A else undef)) (by cases b<;>cases A<;>rfl) (fun h=>by obtain⟨rfl,rfl⟩:=yl h;exact fun _ _ _=>by subst cG;kernel_rfl) ?_
    obtain⟨B,cH,dE⟩:=@nb ((A||aS)) ((((((pz R.l e) (d.jQ)):Nat):Int)=(0))\/((X.je)≠(2))) (by rw[Bool.or_eq_true,bc,dD])
    refine wG 78 (b) (.bool B) (.bool b) (by cases b<;>rfl) (fun h=>by obtain rfl:=h;exact WC.me (v:=.bool B) 91 (kZ (.bool A) (.bool true) ((bif true&&!A then .bool aS else undef))) kf (by rw[cH];exact kS (fun h=>by obtain rfl:A=false:=h;rfl)) rfl) ?_
    refine og 78 (b) (.bool B) (.bool b) (by cases b<;>rfl) (fun h=>by obtain rfl:=h;exact fun _ _ _=>by kernel_rfl) ?_
    refine og 92 (b&&!B) (.map (some ak)) ((bif b then .bool B else undef)) (by cases b<;>cases B<;>rfl) (fun h=>by obtain⟨rfl,rfl⟩:=yl h;exact fun _ _ _=>by kernel_rfl) ?_
    refine og 92 (b&&!B) (Y d.jQ) ((bif b then .bool B else undef)) (by cases b<;>cases B<;>rfl) (fun h=>by obtain⟨rfl,rfl⟩:=yl h;exact fun _ _ _=>by kernel_rfl) ?_
    refine og 92 (b&&!B) (Y d.jQ) ((bif b then .bool B else undef)) (by cases b<;>cases B<;>rfl) (fun h=>by obtain⟨rfl,rfl⟩:=yl h;exact fun _ _ _=>by kernel_rfl) ?_
    refine og 92 (b&&!B) (.agg ⟨[Y d.jQ,Y d.jQ]⟩) ((bif b then .bool B else undef)) (by cases b<;>cases B<;>rfl) (fun h=>by obtain⟨rfl,rfl⟩:=yl h;exact fun _ _ _=>by kernel_rfl) ?_
    obtain⟨aT,cI,dF⟩:=@nb (@decide ((⟨d.jQ,d.jQ⟩:mc)∈ac) (Classical.propDecidable _)) ((⟨d.jQ,d.jQ⟩:mc)∈ac) (@decide_eq_true_iff _ (Classical.propDecidable _))
    refine wG 92 (b&&!B) (.bool aT) ((bif b then .bool B else undef)) (by cases b<;>cases B<;>rfl) (fun h=>by obtain⟨rfl,rfl⟩:=yl h;exact WC.me (v:=.bool aT) 97 (pj ex.T N.get 245 (.map (some ak)) ((fun x:mc=>.agg (pU x).toArray) (⟨d.jQ,d.jQ⟩:mc)) false) kf (ve (O:=N.get) IV IU Pv a6 b7 (⟨d.jQ,d.jQ⟩:mc) cI) rfl) ?_
    obtain⟨aU,cJ,dG⟩:=@nb (!aT) (¬((⟨d.jQ,d.jQ⟩:mc)∈ac)) (by rw[Bool.not_eq_true',<-Bool.not_eq_true,dF])
    refine og 92 (b&&!B) (.bool aU) ((bif b then .bool B else undef)) (by cases b<;>cases B<;>rfl) (fun h=>by obtain⟨rfl,rfl⟩:=yl h;exact fun _ _ _=>by subst cJ;kernel_rfl) ?_
    obtain⟨ax,cK,dH⟩:=@nb ((B||aU)) (((((((pz R.l e) (d.jQ)):Nat):Int)=(0))\/((X.je)≠(2)))\/(¬((⟨d.jQ,d.jQ⟩:mc)∈ac))) (by rw[Bool.or_eq_true,dE,dG])
    refine wG 78 (b) (.bool ax) (.bool b) (by cases b<;>rfl) (fun h=>by obtain rfl:=h;exact WC.me (v:=.bool ax) 99 (kZ (.bool B) (.bool true) ((bif true&&!B then .bool aU else undef))) kf (by rw[cK];exact kS (fun h=>by obtain rfl:B=false:=h;rfl)) rfl) ?_
    obtain⟨ck,cL,dI⟩:=@nb ((b&&ax)) (((0)<=(d.jQ))/\(((((((pz R.l e) (d.jQ)):Nat):Int)=(0))\/((X.je)≠(2)))\/(¬((⟨d.jQ,d.jQ⟩:mc)∈ac)))) (by rw[Bool.and_eq_true,a_,dH])
    refine WO.cons (WC.me (v:=.bool ck) 100 (kZ (.bool b) ((bif b then .bool ax else undef)) (.bool false)) kf (by rw[cL];exact tz (fun h=>by obtain rfl:b=true:=h;rfl)) ?_)
    refine WO.nil ?_
    refine cq dI (fun aK=>?_) (fun aK=>?_)
    ·
     refine sr ?_
     refine ov 6 (.bool false) ?_
     refine WO.nil ?_
     refine WP.ret ⟨rfl,rfl,[.bool false],U,?_⟩
     refine⟨⟨false,rfl,fun h=>(by cases h),fun h=>absurd ?_ h.1.2⟩,K,M⟩
     rw[<-aa];exact⟨aK.1,X,by rw[<-bx];exact aG,by have D:=aK.2;rwa[be]at D⟩
    ·
     refine WP.skip ?_
     refine sr ?_
     refine ov 101 (pt (G+1) (0+3)) ?_
     obtain⟨a173,cm,bh⟩:=hd.jp.shape
     have dZ:=hd.jp.2.2
     refine WO.cons (WC.jP (G+1) (0+3) (.slice a173 (d.jp.l.length) cm) U y_ aI (by rw[<-bh];rfl) ?_)
     refine ov 103 (.func (.func 205) #[] #[pt (u+1) 0]) ?_
     refine WO.cons (WC.call 104 183 ([d.jp.v,.func (.func 205) #[] #[pt (u+1) 0]]) (fun _ _ _=>by(try rw[bh]);kernel_rfl) ((Fv (fun x:oP=>x.Bp<=(((pz R.l e) x.i_:Nat):Int)) d.jp 205 #[pt (u+1) 0] N (dq) (hd.jp.mono M K) (fun i x hx eZ e5 hn he=>OU _ (pz R.l e) x (u+1) u _ _ eZ e5 (he.get ai bk) (e4 bk hn) (he.get ah bj) (e4 bj hn) ay FA)).mono ?_))
     rintro _ eh en ⟨⟨aV,rfl,dJ⟩,b0,bZ⟩
     have bS:=M.trans bZ K
     have b5:=e8 K b0
     refine ov 6 (.bool aV) ?_
     refine WO.nil ?_
     refine WP.ret ⟨rfl,rfl,[.bool aV],U,?_⟩
     refine⟨⟨aV,rfl,dJ.trans ⟨fun h=>⟨⟨⟨by rw[<-aa];have:=bN;omega,fun j hj=>by rw[<-aa]at hj⊢;exact hinv j om⟩,?_⟩,fun x hx=>by have h:=h x hx;simp only[be]at h;rw[<-aa];exact h⟩,fun h x hx=>by have h:=h.2 x hx;rw[<-aa]at h;simp only[be];exact h⟩⟩,b5,bS⟩
     rw[<-aa];rintro ⟨h1,k,D,h3⟩;rw[<-bx,aG]at D;cases D;exact aK ⟨h1,by rw[be];exact h3⟩
  ·
   exact⟨0,([]:List MapEntry),0,om,U,e9 _,cQ,c9,c_,da,db,c8,di,(fun j h=>absurd h (fz _)),(show kM _ (lj (R.l.take 0)) _ _ from kM.nil)⟩
end
end Sw
