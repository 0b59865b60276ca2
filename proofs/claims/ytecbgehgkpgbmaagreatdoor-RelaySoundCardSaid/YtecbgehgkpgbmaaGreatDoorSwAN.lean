/- A part of the proof that the law returns true for every input that its row speaks of. No condition is added. -/
import Derived.Test.YtecbgehgkpgbmaaGreatDoorSwAM
import Derived.Test.YtecbgehgkpgbmaaGreatDoorSwAG
import Derived.Test.YtecbgehgkpgbmaaGreatDoorSwAF
import Derived.Test.YtecbgehgkpgbmaaGreatDoorSwAJ
namespace Sw
noncomputable section
open Go Go.Proofs Go.RowKit
set_option maxRecDepth 100000
set_option maxHeartbeats 16000000
structure zI where
 fF:jq
 fH:lW
instance :Inhabited zI:=⟨⟨default,default⟩⟩
def ph(x:zI):List Value:=[x.fF.fx.fw.v,x.fF.fx.gD.v,x.fF.gj.v,x.fF.fc.v,Y x.fH.iu,x.fH.gH.v,x.fH.abp.v]
structure tC(O:Ht)(G:Nat)(x:zI):Prop where
 fF:kB O G x.fF
 fH:nz O G x.fH
theorem tC.mono{O e9:Ht}{G e_:Nat}{x:zI}(h:tC O G x)(he:HE G O e9)(hn:G<=e_:=by omega):tC e9 e_ x:=
 ⟨h.fF.mono he hn,h.fH.mono he hn⟩
theorem Pf{O:Ht}{G:Nat}(x:zI)(h:tC O G x):lx 8 (.agg (ph x).toArray) (.agg (ph x).toArray)=true:=(wK 7 _ (by intro v b;have b:v∈ph x:=b;simp only[ph,List.mem_cons,List.not_mem_nil,or_false]at b;rcases b with rfl|rfl|rfl|rfl|rfl|rfl|rfl<;>first|exact iF ..|exact iO ..|exact wL ..|exact h.fF.fx.fw.jA 7|exact h.fF.fx.gD.1.jA 7|exact h.fF.gj.jA 7|exact h.fF.fc.1.jA 7|exact h.fH.gH.jA 7|exact h.fH.abp.jA 7))
theorem yY{α:Type}{l:List α}{i:Nat}{x:α}(h:l[i]?=some x):i<l.length:=(fp.1 h).1
theorem nat_eq{z:Int}(h:0<=z):z=.ofNat z.toNat:=(gK h).symm
def YS(K:kg)(L:List Int)(i j:Nat):Prop:=∀(r:SV Int) (w a b:Int),K.gD.l[i]?=some r->r.l[j]?=some w->((0:Int)::L)[i]?=some a->((0:Int)::L)[j]?=some b->¬(w<gy .i64 (b-a))
theorem mW:ex.T.agg 130=some true:=U
theorem Bg:ex.T.agg 56=some false:=U
theorem j8:ex.T.size 130=some 7:=U
theorem wm:ex.T.size 198=some 2:=U
theorem Dt:ex.T.jo 56=some (.slice 198):=U
theorem YT(s:fQ)(t:Int)(e:Nat)(O:Ht)(G:Nat)(u:O.get e=some (.cells [Y t] gm.plain))(m:e<G):WF ex 39 [.agg (fj s).toArray,pt e 0] O G (fL G O (gi (s.hY<=t/\t<=s.gY))):=by
 refine wd Tryz.f39 14 [.tmp 3] fun hE=>sr<|oB (.agg (fj s).toArray) (fj s) fun jy iI ia=>?_
 have j:=iI.get u m
 refine oN 1<|sr<|oX 1<|oZ G 0 (Y s.hY) fy ia rfl<|oZ e (0) (Y t) fy j rfl ?_
 refine oq 7 (pS s.hY t) fun b o=>oX 1<|lG 8 b e (0) (Y t) fy j rfl<|gT 8 b (pt G (0+1))<|lG 8 b G (0+1) (Y s.gY) fy ia rfl ?_
 refine qH 8 b (pS t s.gY) fun y p=>?_
 refine nh 13 (nA o p) fun nZ rZ=>oW 1 ⟨rfl,rfl,[.bool nZ],U,?_⟩
 refine⟨⟨nZ,rfl,?_⟩,od,(hE.trans iI)⟩
 exact rZ
theorem TK(L:SV fQ)(t:Int)(O:Ht)(G:Nat)(b:gB fj 2 O G L):WF ex 13 [L.v,Y t] O G (fL G O (gi (mz L.l t))):=by
 obtain⟨a1,c2,h_⟩:=b.shape
 have mc:=b.2.2
 rw[h_]
 refine wd Tryz.f13 8 [.tmp 4] fun hE=>sr<|oB (Y t) [Y t] fun zV pP uE=>?_
 have AD:=hE.trans pP
 refine oN 1<|sr<|oX 2<|WO.cons (WC.call 7 38 ([L.v,.func (.func 39) #[] #[pt G 0]]) (fun _ _ _=>by(try rw[h_]);kernel_rfl) ((AB (A:=fun s=>s.hY<=t/\t<=s.gY) L 39 #[pt G 0] zV (G+1) (b.mono AD) (fun i x hx e9 e_ hn he=>YT x t G e9 e_ (he.get uE) om)).mono ?_))
 rintro _ zq vE ⟨⟨r5,rfl,vh⟩,Ka,xO⟩
 refine oW 1 ⟨rfl,rfl,[.bool r5],U,?_⟩
 refine⟨⟨r5,rfl,?_⟩,od,(AD.trans xO)⟩
 exact vh
theorem TL(x:im)(w p:Nat)(O:Ht)(G:Nat)(hx:mr O G x)(F:O.get p=some (.cells [Y (.ofNat w)] gm.plain))(E:p<G)(hw:w<x.fV.l.length):WF ex 123 [.agg (ja x).toArray,pt p 0] O G (fL G O (gi (Bf w x))):=by
 refine wd Tryz.f123 11 [.tmp 3] fun hE=>sr<|oB (.agg (ja x).toArray) (ja x) fun jy iI ia=>?_
 have lq:=hE.trans iI
 refine oN 1<|sr<|oX 1 ?_
 obtain⟨z,B,e⟩:=hx.fV.1.shape
 have M:=hx.fV.1.2.2
 refine oZ G (0+2) (.slice z (x.fV.l.length) B) qz ia (by rw[<-e];rfl)<|oZ p (0) (Y (.ofNat w)) fy (iI.get F E) rfl ?_
 have j:w<x.fV.l.length:=by omega
 refine WO.cons (WC.iy e hx.fV.1 (w) ue sI (j) ?_)
 obtain⟨m,b⟩:=gE j
 obtain⟨A,C,y⟩:=(hx.fV.2 m (fa b)).shape
 have N:=(hx.fV.2 m (fa b)).2.2
 refine WO.cons (WC.lz (.slice A (m.l.length) C) e (hx.fV.1.mono lq nR) b (by rw[<-y];rfl) uc<|oX 1 ?_)
 refine oq 10 (vY m.l.length 0) fun u L=>oW 1 ⟨rfl,rfl,[.bool u],U,?_⟩
 refine⟨⟨u,rfl,?_⟩,od,lq⟩
 rw[L]
 have K:=b
 exact⟨fun k o J=>by rw[K]at J;cases J;exact fZ om,fun k=>by rw[k _ K];rfl⟩
theorem VG(F:jq)(w:Nat)(O:Ht)(G:Nat)(m:kB O G F)(hw:∀x∈F.fc.l,w<x.fV.l.length):WF ex 70 [.agg (gO F).toArray,Y (.ofNat w)] O G (fL G O (gi (rL F w))):=by
 refine wd Tryz.f70 10 [.tmp 4] fun hE=>sr<|oB (.agg (gO F).toArray) (gO F) fun jy iI ia=>?_
 refine oB (Y (.ofNat w)) [Y (.ofNat w)] fun z e p=>?_
 have b:=(hE.trans iI).trans e
 refine oN 1<|sr<|oX 1 ?_
 obtain⟨a17,y,j⟩:=m.fc.1.shape
 have C:=m.fc.1.2.2
 refine oZ G (0+3) (.slice a17 (F.fc.l.length) y) ow (e.get ia) (by rw[<-j];rfl)<|oX 1<|WO.cons (WC.call 8 61 ([F.fc.v,.func (.func 123) #[] #[pt (G+1) 0]]) (fun _ _ _=>by(try rw[j]);kernel_rfl) ((xJ (A:=fun x=>Bf w x) F.fc 123 #[pt (G+1) 0] z (G+1+1) (m.fc.mono (fun _ h he hn=>h.mono he hn) b) (fun i x hx e9 e_ hn he=>TL x w (G+1) e9 e_ ((m.fc.2 x (fa hx)).mono (b.trans he)) (he.get p) om (hw x (fa hx)))).mono ?_))
 rintro _ J K ⟨⟨uL,rfl,uC⟩,E,u⟩
 refine oq 9 (nN uC) fun o B=>oW 1 ⟨rfl,rfl,[.bool o],U,?_⟩
 refine⟨⟨o,rfl,?_⟩,od,(b.trans u)⟩
 exact B.trans IY
theorem TM(F:jq)(z:Int)(O:Ht)(G:Nat)(b:kB O G F)(e:0<=z)(hw:∀x∈F.fc.l,z.toNat<x.fV.l.length):WF ex 70 [.agg (gO F).toArray,Y z] O G (fL G O (gi (rL F z.toNat))):=by
 have:=VG F z.toNat O G b hw
 rwa[<-nat_eq e]at this
theorem TN(n:Int)(O:Ht)(G:Nat):WF ex 124 [Y n] O G (fL G O (gi (n< -2199023255552\/2199023255552<n))):=by
 refine wd Tryz.f124 9 [.tmp 2] fun hE=>sr<|oN 1<|sr<|oX 1 ?_
 refine oq 4 (mE n (-2199023255552)) fun c1 p1=>oX 1<|gF 5 c1 (Y n) ?_
 refine nH 5 c1 (mE 2199023255552 n) fun c2 e=>?_
 refine mI 8 (nO p1 e) fun b j=>oW 1 ⟨rfl,rfl,[.bool b],U,?_⟩
 refine⟨⟨b,rfl,?_⟩,nR,hE⟩
 exact j
theorem Rx(K:kg)(L:SV Int)(O:Ht)(G:Nat)(hK:oy O G K)(aJ:gB encI 1 O G L)(hc:ub K)(bo:L.l.length=K.fw.l.length):WF ex 71 [.agg (ji K).toArray,L.v] O G (fL G O (gi (Jj K L.l))):=by
 obtain⟨a1,c2,h_⟩:=aJ.shape
 have mc:=aJ.2.2
 rw[h_]
 refine wd Tryz.f71 43 [.tmp 4] fun hE=>?_
 have a_:=hc.Yp
 refine sr<|oB (.agg (ji K).toArray) (ji K) fun zV pP uE=>?_
 refine oN 1<|sr<|oL [Y 0] fun zq xa aL=>?_
 have aq:=(hE.trans pP).trans xa
 refine oX 1 ?_
 obtain⟨inf,pI,vL⟩:=Kl
 refine WO.cons (WC.TJ (enc:=encI) (w:=.slice a1 (L.l.length) c2) [(0:Int)] L.l rfl U U aL rfl om lP kH Bd pI (N_ rfl) ((aJ.mono aq nR).src h_) rfl (fun _ _=>rfl) (Eb _) (by decide) (by rw[vL];simp;omega) om (by simp;omega) rfl ?_)
 rintro J aH aI ah bp aF p
 have ay:=HE.refl (aI) aH
 have bn:J.l.length=L.l.length+1:=by rw[ah];simp
 obtain⟨a26,F,y⟩:=p.shape
 have aX:=p.2.2
 rw[y]
 have av:J.l=(0:Int)::L.l:=ah
 refine oN 1<|WP.seq<|sr<|oX 1<|WO.cons (WC.call 14 108 ([J.v,.func (.func 124) #[] #[]]) (fun _ _ _=>by(try rw[y]);kernel_rfl) ((xH (A:=fun n=>n< -2199023255552\/2199023255552<n) J 124 #[] aH (aI) (p.mono ay) (fun i x hx e9 e_ hn he=>TN x e9 e_)).mono ?_))
 rintro _ aO az ⟨⟨bj,rfl,aP⟩,bc,ab⟩
 have ar:=(aq.trans aF).trans ab
 refine WO.nil<|cq aP (fun aA=>?_) (fun aA=>?_)
 ·
  refine sr<|oW 1 ⟨rfl,rfl,[.bool false],U,?_⟩
  refine⟨⟨false,rfl,⟨fun h=>(by cases h),fun aw=>False.elim ?_⟩⟩,od,ar⟩
  obtain⟨o,aC,hk⟩:=aA
  rw[ah]at aC
  exact aw.1 o aC hk
 ·
  refine WP.skip<|WP.seq<|sr<|oX 1 ?_
  obtain⟨al,an,ae⟩:=hK.gD.1.shape
  have aY:=hK.gD.1.2.2
  refine oZ G (0+1) (.slice al (K.gD.l.length) an) sR (ab.get (aF.get (xa.get uE))) (by rw[<-ae];rfl)<|oN 2<|WP.block ?_
  refine mu [5,16,17,18] (fun m hs ns vs=>∃(e:Nat),e+m=K.gD.l.length/\vs=[.slice a26 (J.l.length) F,.slice al (K.gD.l.length) an,Y (.ofNat (K.gD.l.length)),Y (.ofNat e)]/\az<=ns/\HE (az) aO hs/\(∀a:Nat,a<e->∀b,YS K L.l a b)) ?_ (K.gD.l.length) ?_
  ·
   rintro bf pU o4 _ ⟨e,aV,rfl,aM,ad,ax⟩ a6
   have aa:=ar.trans ad
   have a8:=hc.Wm
   refine sr ?_
   refine oq 19 (kT e K.gD.l.length) fun bk aQ=>WO.nil<|WP.seq<|cq aQ (fun aT=>?_) (fun aT=>?_)
   ·
    refine WP.skip<|WP.seq<|WP.block<|sr<|oX 1 ?_
    have ai:e<K.gD.l.length:=by omega
    refine WO.cons (WC.iy ae hK.gD.1 (e) vt ud (ai) ?_)
    obtain⟨B,z⟩:=gE ai
    obtain⟨a64,aD,af⟩:=(hK.gD.2 B (fa z)).shape
    have aZ:=(hK.gD.2 B (fa z)).2.2
    refine WO.cons (WC.lz (.slice a64 (B.l.length) aD) ae (hK.gD.1.mono aa nR) z (by rw[<-af];rfl) lO<|oN 2<|sr<|oN 3<|WP.block ?_)
    have bq:=(hc.row _ _ z).1
    refine mu [5,6,16,17,18,23,24,25] (fun m hs ns vs=>∃(j:Nat),j+m=B.l.length/\vs=[.slice a26 (J.l.length) F,Y (.ofNat e),.slice al (K.gD.l.length) an,Y (.ofNat (K.gD.l.length)),Y (.ofNat e),.slice a64 (B.l.length) aD,Y (.ofNat (B.l.length)),Y (.ofNat j)]/\o4<=ns/\HE (o4) pU hs/\(∀b:Nat,b<j->YS K L.l e b)) ?_ (B.l.length) ?_
    ·
     rintro bg bd bh _ ⟨j,aW,rfl,aN,M,aG⟩ a7
     have au:=aa.trans M
     have S:=((ay.trans ab).trans ad).trans M
     refine sr ?_
     refine oq 26 (kT j B.l.length) fun bl aR=>WO.nil<|WP.seq<|cq aR (fun aU=>?_) (fun aU=>?_)
     ·
      refine WP.skip<|WP.seq<|WP.block<|sr<|oX 1 ?_
      have aj:j<B.l.length:=by omega
      refine WO.cons (WC.iy af (hK.gD.2 B (fa z)) (j) lP kH (aj) ?_)
      obtain⟨ak,ag⟩:=gE aj
      refine WO.cons (WC.lz (Y ak) af ((hK.gD.2 B (fa z)).mono au nR) ag rfl fy<|oN 2<|WP.seq<|WP.qZ [⟨[0,1,2,3,4,5,6,7,8,9,10],[0,1,2,3,4,5,6,7,8,9,10],none⟩] U _ rfl<|WD.last<|nv 30 (.slice a26 (J.l.length) F)<|nv 31 (Y (.ofNat j)) ?_)
      have N:j<J.l.length:=by omega
      refine WN.hZ rfl (WC.iy y p (j) lP kH (N) ?_)
      obtain⟨W,C⟩:=gE N
      refine WN.hZ rfl (WC.lz (Y W) y (p.mono S nR) C rfl fy<|nv 34 (.slice a26 (J.l.length) F)<|nv 35 (Y (.ofNat e)) ?_)
      have R:e<J.l.length:=by omega
      refine WN.hZ rfl (WC.iy y p (e) lP kH (R) ?_)
      obtain⟨X,E⟩:=gE R
      refine WN.hZ rfl (WC.lz (Y X) y (p.mono S nR) E rfl fy<|nv 38 (Y (gy .i64 ((W)-(X))))<|nv 39 (Y ak) ?_)
      obtain⟨ao,aE,aS⟩:=mE ak (gy .i64 ((W)-(X)))
      refine nv 40 (.bool ao) ?_ (fun _ _ _=>by subst aE;kernel_rfl)
      refine WN.nil ⟨?_,?_⟩
      ·
       refine cv (.slice a26 (J.l.length) F) (y▸p.jA 8)<|ci (.ofNat j)<|y0 y p (j) lP kH (N)<|GN (Y W) y (p.mono S nR) C rfl fy (iF ..)<|cv (.slice a26 (J.l.length) F) (y▸p.jA 8)<|ci (.ofNat e)<|y0 y p (e) lP kH (R)<|GN (Y X) y (p.mono S nR) E rfl fy (iF ..)<|ci (gy .i64 ((W)-(X)))<|ci (ak)<|cv (.bool ao) (iO 8 ao) ?_ (fun _=>by subst aE;kernel_rfl)
       exact jc.nil
      refine cq aS (fun aB=>?_) (fun aB=>?_)
      ·
       refine sr<|oW 1 ⟨rfl,rfl,[.bool false],U,?_⟩
       refine⟨⟨false,rfl,⟨fun h=>(by cases h),fun aw=>False.elim ?_⟩⟩,od,au⟩
       rw[av]at E C
       exact aw.2 e j _ _ _ _ z ag E C aB
      ·
       refine WP.skip<|WP.region<|ov 41 (Y (.ofNat (j+1))) ?_ (fun _ _ _=>by rw[<-gQ (show j+1<9223372036854775808 by omega)];kernel_rfl)
       refine oN 1<|⟨B.l.length-(j+1),om,rfl,rfl,j+1,om,U,?_,?_,?_⟩
       · exact aN
       · exact M
       · intro b hb
         rcases fE.1 hb with hb|rfl
         · exact aG b hb
         · intro r w u v h1 D h3 h4
           rw[z]at h1;cases h1
           rw[ag]at D;cases D
           rw[<-av]at h3 h4
           rw[E]at h3;cases h3
           rw[C]at h4;cases h4
           exact aB
     ·
      refine WP.exit<|WP.region<|ov 42 (Y (.ofNat (e+1))) ?_ (fun _ _ _=>by rw[<-gQ (show e+1<9223372036854775808 by omega)];kernel_rfl)
      refine oN 1<|⟨K.gD.l.length-(e+1),om,rfl,rfl,e+1,om,U,?_,?_,?_⟩
      · exact od
      · exact(ad.trans M aM)
      · intro a aK b
        rcases fE.1 aK with aK|rfl
        · exact ax a aK b
        · intro r w u v h1 D h3 h4
          rw[z]at h1;cases h1
          exact aG b (by have:=yY D;omega) _ w u v z D h3 h4
    ·
     exact⟨0,om,U,fg _,HE.refl _ _,(fun _ h=>absurd h (fK _))⟩
   ·
    refine WP.exit<|sr<|oW 1 ⟨rfl,rfl,[.bool true],U,?_⟩
    refine⟨⟨true,rfl,⟨fun _=>?_,fun _=>rfl⟩⟩,od,aa⟩
    exact⟨fun o aC hk=>aA ⟨o,by rw[ah];exact aC,hk⟩,fun a b r w u v h1=>ax a (by have:=(fp.1 h1).1;omega) b r w u v h1⟩
  ·
   exact⟨0,om,U,fg _,HE.refl _ _,(fun _ h=>absurd h (fK _))⟩
theorem GX(V:zI)(k w:Nat)(x:im)(o:SV jg)(y:Value)(O:Ht)(G:Nat)(b:tC O G V)(hk:V.fF.fc.l[k]?=some x)(hw:V.fH.iu=.ofNat w)(C:x.fV.l[w]?=some o)(hy:o.v=y):WF ex 72 [.agg (ph V).toArray,Y (.ofNat k)] O G (fL G O (wM y)):=by
 refine wd Tryz.f72 17 [.tmp 4] fun hE=>?_
 have L:=yY hk
 have M:=yY C
 refine sr<|oB (.agg (ph V).toArray) (ph V) fun jy iI ia=>?_
 have lq:=hE.trans iI
 refine oN 1<|WP.seq<|WP.qZ [⟨[0,1,2,3,4,5,6,7,8,9,10,11],[0,1,2,3,4,5,6,7,8,9,10,11],some 12⟩,⟨[],[],none⟩] U _ rfl<|WD.kZ<|nv 5 (pt G 0)<|nv 6 (pt G (0+0+3)) ?_
 obtain⟨B,E,e⟩:=b.fF.fc.1.shape
 have F:=b.fF.fc.1.2.2
 refine WN.hZ rfl (WC.jW G (0+0+3) (.slice B (V.fF.fc.l.length) E) U ow ia (by rw[<-e];rfl)<|nv 8 (Y (.ofNat k)) ?_)
 have m:k<V.fF.fc.l.length:=by omega
 refine WN.hZ rfl (WC.iy e b.fF.fc.1 (k) uy mS (m)<|nv 10 (pt (ga B) (0+(k)*3+2)) ?_)
 obtain⟨a12,nI,j⟩:=(b.fF.fc.2 x (fa hk)).fV.1.shape
 have J:=(b.fF.fc.2 x (fa hk)).fV.1.2.2
 refine WN.hZ rfl (WC.sv (ga B) (0+(k)*3+2) (.slice a12 (x.fV.l.length) nI) U qz ((b.fF.fc.1.mono lq nR).pw e (zl m)) (nE (b.fF.fc.1.mono lq nR).1 hk (by decide) (by rw[<-j];rfl))<|nv 12 (pt G (0+4))<|nv 13 (pt G (0+4+0))<|WN.hZ rfl (WC.jW G (0+4+0) (Y (.ofNat w)) U fy ia (by rw[<-hw];rfl) ?_))
 have A:w<x.fV.l.length:=by omega
 refine WN.hZ rfl (WC.iy j ((b.fF.fc.2 x (fa hk)).fV.1) (w) ue sI (A) ?_)
 obtain⟨u,z,p⟩:=((b.fF.fc.2 x (fa hk)).fV.2 o (fa C)).shape
 have K:=((b.fF.fc.2 x (fa hk)).fV.2 o (fa C)).2.2
 refine WN.hZ rfl (WC.lz (.slice u (o.l.length) z) j ((b.fF.fc.2 x (fa hk)).fV.1.mono lq nR) C (by rw[<-p];rfl) uc<|WN.nil ⟨?_,?_⟩)
 ·
  refine cv (pt G 0) (iR ..)<|cv (pt G (0+0+3)) (iR ..)<|qk G (0+0+3) (.slice B (V.fF.fc.l.length) E) ow ia (by rw[<-e];rfl) (e▸b.fF.fc.1.jA 8)<|ci (.ofNat k)<|y0 e b.fF.fc.1 (k) uy mS (m)<|cv (pt (ga B) (0+(k)*3+2)) (iR ..)<|co (.slice a12 (x.fV.l.length) nI) (kh ex.T jy.get 114 (pt (ga B) (0+(k)*3+2))) (tK qz ((b.fF.fc.1.mono lq nR).pw e (zl m)) (nE (b.fF.fc.1.mono lq nR).1 hk (by decide) (by rw[<-j];rfl))) (j▸(b.fF.fc.2 x (fa hk)).fV.1.jA 8)<|cv (pt G (0+4)) (iR ..)<|cv (pt G (0+4+0)) (iR ..)<|qk G (0+4+0) (Y (.ofNat w)) fy ia (by rw[<-hw];rfl) (iF ..)<|y0 j ((b.fF.fc.2 x (fa hk)).fV.1) (w) ue sI (A)<|GN (.slice u (o.l.length) z) j ((b.fF.fc.2 x (fa hk)).fV.1.mono lq nR) C (by rw[<-p];rfl) uc (p▸((b.fF.fc.2 x (fa hk)).fV.2 o (fa C)).jA 8) ?_
  exact jc.nil
 refine WC.at rfl (WC.val 4 (.slice u (o.l.length) z) kf<|WD.last<|WN.nil ⟨?_,?_⟩)
 ·
  exact jc.nil
 refine WP.ret ⟨rfl,rfl,[.slice u (o.l.length) z],U,?_⟩
 exact⟨p.symm.trans hy,od,lq⟩
theorem Jk(V:zI)(k w j:Nat)(x:im)(c:sQ)(o:SV jg)(e:jg)(O:Ht)(G:Nat)(m:tC O G V)(hk:V.fF.fc.l[k]?=some x)(hc:V.fH.abp.l[k]?=some c)(hw:V.fH.iu=.ofNat w)(C:x.fV.l[w]?=some o)(hj:c.mJ=.ofNat j)(he:o.l[j]?=some e):WF ex 73 [.agg (ph V).toArray,Y (.ofNat k)] O G (fL G O (wM (.agg (gU e).toArray))):=by
 refine wd Tryz.f73 17 [.cell 4 153] fun hE=>?_
 have ai:=yY hk
 have ag:=yY hc
 have ah:=yY he
 refine sr<|oB (.agg (ph V).toArray) (ph V) fun jy iI ia=>?_
 refine oA [.bool false,Y 0,Y 0,Y 0] uK fun L J N=>?_
 have u:=(hE.trans iI).trans J
 have y:=J.get ia
 refine WO.nil<|WP.seq<|WP.qZ [⟨[0,1,3,4,5,6,7,8,9],[0,1,3,4,5,6,7,8,9],some 2⟩,⟨[10,11],[3,4,5,6,7,8,9,10,11],some 12⟩,⟨[],[],none⟩] U _ rfl<|WD.kZ<|WN.hZ rfl (WC.iz G (0) (ph V) U mW j8 y rfl<|nv 6 (Y (.ofNat k))<|nv 8 (pt G (0+4))<|nv 9 (pt G (0+4+2)) ?_)
 obtain⟨a17,F,b⟩:=m.fH.abp.shape
 have W:=m.fH.abp.2.2
 refine WN.hZ rfl (WC.jW G (0+4+2) (.slice a17 (V.fH.abp.l.length) F) U Bg y (by rw[<-b];rfl)<|nv 11 (Y (.ofNat k)) ?_)
 have p:k<V.fH.abp.l.length:=by omega
 refine WN.hZ rfl (WC.iy b m.fH.abp (k) Dt wm (p)<|nv 13 (pt (ga a17) (0+(k)*2+0))<|WN.hZ rfl (WC.sv (ga a17) (0+(k)*2+0) (Y (.ofNat j)) U fy ((m.fH.abp.mono u nR).pw b (zl p)) (nE (m.fH.abp.mono u nR).1 hc (by decide) (by rw[<-hj];rfl))<|WN.nil ⟨?_,?_⟩))
 ·
  refine co (.agg (ph V).toArray) (kh ex.T L.get 130 (pt G 0)) (jV mW j8 y rfl) (Pf V m)<|ci (.ofNat k)<|cv (pt G (0+4)) (iR ..)<|cv (pt G (0+4+2)) (iR ..)<|qk G (0+4+2) (.slice a17 (V.fH.abp.l.length) F) Bg y (by rw[<-b];rfl) (b▸m.fH.abp.jA 8)<|ci (.ofNat k)<|y0 b m.fH.abp (k) Dt wm (p)<|cv (pt (ga a17) (0+(k)*2+0)) (iR ..)<|co (Y (.ofNat j)) (kh ex.T L.get 3 (pt (ga a17) (0+(k)*2+0))) (tK fy ((m.fH.abp.mono u nR).pw b (zl p)) (nE (m.fH.abp.mono u nR).1 hc (by decide) (by rw[<-hj];rfl))) (iF ..) ?_
  exact jc.nil
 obtain⟨a21,af,z⟩:=((m.fF.fc.2 x (fa hk)).fV.2 o (fa C)).shape
 have X:=((m.fF.fc.2 x (fa hk)).fV.2 o (fa C)).2.2
 refine WC.at rfl (WC.call 7 72 ([.agg (ph V).toArray,Y (.ofNat k)]) kf ((GX V k w x o _ L (G+1+1) (m.mono u) hk hw C z).mono ?_))
 rintro _ K ae ⟨rfl,aa,B⟩
 have A:=u.trans B
 refine WD.kZ ?_
 have E:j<o.l.length:=by omega
 refine WN.hZ rfl (WC.iy z ((m.fF.fc.2 x (fa hk)).fV.2 o (fa C)) (j) zp lB (E)<|WN.hZ rfl (WC.ly z (((m.fF.fc.2 x (fa hk)).fV.2 o (fa C)).mono A nR) he si lB<|WN.nil ⟨?_,?_⟩))
 ·
  refine cv (pt G (0+4)) (iR ..)<|cv (pt G (0+4+2)) (iR ..)<|qk G (0+4+2) (.slice a17 (V.fH.abp.l.length) F) Bg (B.get y) (by rw[<-b];rfl) (b▸m.fH.abp.jA 8)<|ci (.ofNat k)<|y0 b m.fH.abp (k) Dt wm (p)<|cv (pt (ga a17) (0+(k)*2+0)) (iR ..)<|co (Y (.ofNat j)) (kh ex.T K.get 3 (pt (ga a17) (0+(k)*2+0))) (tK fy ((m.fH.abp.mono A nR).pw b (zl p)) (nE (m.fH.abp.mono u nR).1 hc (by decide) (by rw[<-hj];rfl))) (iF ..)<|y0 z ((m.fF.fc.2 x (fa hk)).fV.2 o (fa C)) (j) zp lB (E)<|Z4 z (((m.fF.fc.2 x (fa hk)).fV.2 o (fa C)).mono A nR) he si lB (zi e) ?_
  exact jc.nil
 refine WC.at rfl (WC.u_ (G+1) (0) (.agg (gU e).toArray) [.bool false,Y 0,Y 0,Y 0] (gU e) (gU e) 4 rfl U U lB rfl rfl (B.get N) rfl rfl rfl ?_)
 obtain⟨ad,M,S,R,ab⟩:=stored K (G+1) (.cells (gU e) gm.plain)
 rw[M];clear M
 refine WD.last<|WN.nil ⟨?_,?_⟩
 ·
  exact jc.nil
 refine WP.ret ⟨rfl,rfl,[.agg (gU e).toArray],(sX (by rw[show(f_ (.tmp 4)).run _=pt (G+1) 0 from by kernel_rfl];exact jV si lB R rfl)),?_⟩
 exact⟨rfl,od,(A.trans S)⟩
theorem YU(V:zI)(k w j:Nat)(x:im)(c:sQ)(o:SV jg)(e:jg)(O:Ht)(G:Nat)(m:tC O G V)(hk:V.fF.fc.l[k]?=some x)(hc:V.fH.abp.l[k]?=some c)(hw:V.fH.iu=.ofNat w)(ak:x.fV.l[w]?=some o)(hj:c.mJ=.ofNat j)(he:o.l[j]?=some e)(W:e.j2=false->0<=e.lA->e.lA.toNat<V.fH.gH.l.length):WF ex 37 [.agg (ph V).toArray,Y (.ofNat k)] O G (fL G O (wM (.tuple ⟨[Y (Ck V.fH e c),.bool (!e.j2)]⟩))):=by
 refine wd Tryz.f37 32 [.tmp 4,.tmp 5] fun hE=>?_
 have aq:=yY hc
 refine sr<|oB (.agg (ph V).toArray) (ph V) fun jy iI ia=>?_
 have lq:=hE.trans iI
 refine oN 2<|sr<|WO.cons (WC.iz G (0) (ph V) U mW j8 ia rfl<|oX 1<|oC 9 (Jk V k w j x c o e jy (G+1) (m.mono lq) hk hc hw ak hj he) ?_)
 rintro _ ar E ⟨rfl,aj,J⟩
 refine oA [.bool false,Y 0,Y 0,Y 0] uK fun al K N=>?_
 refine oS E (0) (.agg (gU e).toArray) (gU e) (gU e) lB rfl rfl N fun an R y S=>?_
 have b:=((lq.trans J).trans K).trans R
 have F:=(S G om).trans (K.get (J.get ia))
 refine WO.nil<|WP.seq<|sr<|oX 1 ?_
 obtain⟨aa,ae,af⟩:=@nb (e.j2) (e.j2=true) (by first|done|exact gk)
 refine oZ E 0 (.bool aa) xp y (by rw[ae];rfl)<|WO.nil<|cq af (fun p=>?_) (fun p=>?_)
 ·
  refine sr<|oW 2 ⟨rfl,rfl,[Y 0,.bool false],U,?_⟩
  refine⟨?_,od,b⟩
  unfold wM Ck;rw[p];rfl
 ·
  refine WP.skip<|sr<|oX 2 ?_
  obtain⟨a35,ab,z⟩:=m.fH.abp.shape
  have ah:=m.fH.abp.2.2
  refine oZ G (0+4+2) (.slice a35 (V.fH.abp.l.length) ab) Bg F (by rw[<-z];rfl)<|oX 1 ?_
  have B:k<V.fH.abp.l.length:=by omega
  refine WO.cons (WC.iy z m.fH.abp (k) Dt wm (B)<|oX 1<|WO.cons (WC.sv (ga a35) (0+(k)*2+1) (Y c.fX) U fy ((m.fH.abp.mono b nR).pw z (zl B)) (nE (m.fH.abp.mono b nR).1 hc (by decide) rfl)<|oN 1<|WP.seq<|sr<|oX 1<|oZ E (0+1) (Y e.lA) fy y rfl ?_))
  refine oq 21 (pS 0 e.lA) fun ao ag=>WO.nil<|cq ag (fun u=>?_) (fun u=>?_)
  ·
   refine WP.region<|oX 3 ?_
   obtain⟨X,ad,A⟩:=m.fH.gH.shape
   have ai:=m.fH.gH.2.2
   refine oZ G (0+4+1) (.slice X (V.fH.gH.l.length) ad) lO F (by rw[<-A];rfl)<|oX 1 ?_
   have au:=W (gz.2 p) u
   refine oZ E (0+1) (Y (.ofNat e.lA.toNat)) fy y (by rw[<-(nat_eq u)];rfl) ?_
   have C:e.lA.toNat<V.fH.gH.l.length:=by omega
   refine WO.cons (WC.iy A m.fH.gH (e.lA.toNat) lP kH (C) ?_)
   obtain⟨M,L⟩:=gE C
   refine WO.cons (WC.lz (Y M) A (m.fH.gH.mono b nR) L rfl fy<|oN 2<|sr<|oW 3 ⟨rfl,rfl,[Y (gy .i64 ((c.fX)+(M))),.bool true],U,?_⟩)
   have hf:=gz.2 p
   refine⟨?_,od,b⟩
   unfold wM Ck;rw[hf,if_neg (by decide),if_pos u,L];rfl
  ·
   refine WP.skip<|sr<|oW 3 ⟨rfl,rfl,[Y c.fX,.bool true],U,?_⟩
   have hf:=gz.2 p
   refine⟨?_,od,b⟩
   unfold wM Ck;rw[hf,if_neg (by decide),if_neg u];rfl
end
end Sw
namespace Sw
noncomputable section
open Go Go.Proofs Go.RowKit
set_option maxRecDepth 100000
set_option maxHeartbeats 16000000
def zeroV:zI:=⟨⟨⟨⟨.slice none 0 0,[]⟩,⟨.slice none 0 0,[]⟩⟩,⟨.slice none 0 0,[]⟩,⟨.slice none 0 0,[]⟩⟩,⟨0,⟨.slice none 0 0,[]⟩,⟨.slice none 0 0,[]⟩⟩⟩
theorem Du{α:Type}{enc:α->List Value}{n:Nat}{O:Ht}{G:Nat}:gB enc n O G (⟨.slice none 0 0,[]⟩:SV α):=⟨(fun _ h=>by cases h),.inl ⟨rfl,.inl rfl⟩,by show(0:Nat)<_;decide⟩
theorem VH{O:Ht}{G:Nat}:tC O G zeroV:=⟨⟨⟨Du,⟨Du,fun _ h=>by cases h⟩⟩,Du,⟨Du,fun _ h=>by cases h⟩⟩,⟨Du,Du⟩⟩
def ZA(F:jq)(H:lW)(O:Ht)(G:Nat)(v:Value)(e9:Ht)(e_:Nat):Prop:=∃(V:zI) (z:Int),v=.tuple ⟨[.agg (ph V).toArray,Y z]⟩/\tC e9 e_ V/\(z=0↔uG F H)/\(z=0->V=⟨F,H⟩)/\G<=e_/\HE G O e9
theorem uG.at{F:jq}{H:lW}(h:uG F H){i:Nat}{c:sQ}{x:im}{o:SV jg}(hc:H.abp.l[i]?=some c)(hx:F.fc.l[i]?=some x)(b:x.fV.l[H.iu.toNat]?=some o):HW o.l c:=by
 have:=h.ch i c x hc hx
 rwa[Gi b]at this
def YV(F:jq)(H:lW)(k:Nat):Value->Prop:=fun v=>∃(n:Int) (b:Bool),v=.tuple ⟨[Y n,.bool b,Y 0]⟩/\Rw F H k n (!b)
theorem VI:ex.T.agg 198=some true:=U
theorem Bh:ex.T.agg 58=some true:=U
theorem zy:ex.T.size 58=some 3:=U
theorem FX:ex.T.zero 130=some (.agg ⟨[.slice none (0) 0,.slice none (0) 0,.slice none (0) 0,.slice none (0) 0,Y 0,.slice none (0) 0,.slice none (0) 0]⟩):=U
theorem TO:ex.T.zero 198=some (.agg ⟨[Y 0,Y 0]⟩):=U
theorem Oo(F:jq)(H:lW)(O:Ht)(G:Nat)(u:kB O G F)(hH:nz O G H)(c8:∀r∈F.fc.l,Aq r<=60):WF ex 33 [.agg (gO F).toArray,.agg (kb H).toArray] O G (ZA F H O G):=by
 refine wd Tryz.f33 105 [.cell 4 130,.tmp 5] fun hE=>sr<|oB (.agg (gO F).toArray) (gO F) fun jy iI ia=>?_
 refine oB (.agg (kb H).toArray) (kb H) fun eb bK ct=>?_
 refine oA [.slice none (0) 0,.slice none (0) 0,.slice none (0) 0,.slice none (0) 0,Y 0,.slice none (0) 0,.slice none (0) 0] FX fun cC jE cu=>?_
 have bE:=((hE.trans iI).trans bK).trans jE
 have bI:=jE.get (bK.get ia)
 refine oN 1<|WP.seq<|sr<|WO.cons (WC.iz G (0) (gO F) U pF oJ bI rfl<|oC 10 (Ex F cC (G+1+1+1) (u.mono bE) c8) ?_)
 rintro _ dV bQ ⟨⟨z32,rfl,bP,dP⟩,dQ,aK⟩
 have bG:=bE.trans aK
 have uZ:=aK.get bI
 have bJ:=aK.get (jE.get ct)
 have aW:=aK.get cu
 refine oq 11 (qS z32 0) fun dX c9=>WO.nil<|cq c9 (fun bT=>?_) (fun bT=>?_)
 ·
  refine sr<|WO.cons (WC.iz (G+1+1) (0) [.slice none (0) 0,.slice none (0) 0,.slice none (0) 0,.slice none (0) 0,Y 0,.slice none (0) 0,.slice none (0) 0] U mW j8 aW rfl<|oS (G+1+1) (0) (.agg ⟨[.slice none (0) 0,.slice none (0) 0,.slice none (0) 0,.slice none (0) 0,Y 0,.slice none (0) 0,.slice none (0) 0]⟩) [.slice none (0) 0,.slice none (0) 0,.slice none (0) 0,.slice none (0) 0,Y 0,.slice none (0) 0,.slice none (0) 0] [.slice none (0) 0,.slice none (0) 0,.slice none (0) 0,.slice none (0) 0,Y 0,.slice none (0) 0,.slice none (0) 0] j8 rfl (fe.2 ⟨rfl,fe.2 ⟨rfl,fe.2 ⟨rfl,fe.2 ⟨rfl,fe.2 ⟨rfl,fe.2 ⟨rfl,fe.2 ⟨rfl,fe.2 ⟨rfl,rfl⟩⟩⟩⟩⟩⟩⟩⟩) aW fun dW cz cw dU=>?_)
  refine oW 1 ⟨rfl,rfl,[.agg ⟨[.slice none (0) 0,.slice none (0) 0,.slice none (0) 0,.slice none (0) 0,Y 0,.slice none (0) 0,.slice none (0) 0]⟩,Y 240],(ou (by rw[show(f_ (.tmp 4)).run _=pt (G+1+1) 0 from by kernel_rfl];exact jV mW j8 cw rfl) U),?_⟩
  exact⟨zeroV,240,rfl,VH,⟨fun h=>absurd h (by decide),fun h=>absurd (bP.2 h.Lc) bT⟩,fun h=>absurd h (by decide),od,(bG.trans cz)⟩
 ·
  refine WP.skip<|sr ?_
  have aZ:sh F:=bP.1 (fu.1 bT)
  refine WO.cons (WC.iz G (0) (gO F) U pF oJ uZ rfl<|WO.cons (WC.iz (G+1) (0) (kb H) U Bh zy bJ rfl<|oX 1<|oS (G+1+1) (0) (.agg ⟨[F.fx.fw.v,F.fx.gD.v,F.gj.v,F.fc.v,Y H.iu,H.gH.v,H.abp.v]⟩) [F.fx.fw.v,F.fx.gD.v,F.gj.v,F.fc.v,Y H.iu,H.gH.v,H.abp.v] [F.fx.fw.v,F.fx.gD.v,F.gj.v,F.fc.v,Y H.iu,H.gH.v,H.abp.v] j8 rfl (fe.2 ⟨rfl,fe.2 ⟨u.fx.fw.one,fe.2 ⟨u.fx.gD.1.one,fe.2 ⟨u.gj.one,fe.2 ⟨u.fc.1.one,fe.2 ⟨rfl,fe.2 ⟨hH.gH.one,fe.2 ⟨hH.abp.one,rfl⟩⟩⟩⟩⟩⟩⟩⟩) aW fun bM cA cx bL=>?_))
  have bH:=bG.trans cA
  have aX:=(bL G om).trans uZ
  have aF:=(bL (G+1) om).trans bJ
  refine WO.nil<|WP.seq<|sr<|oX 1<|oZ (G+1) 0 (Y H.iu) fy aF rfl ?_
  refine oq 18 (mE H.iu 0) fun ao c_=>oX 1<|gF 19 ao (pt (G+1) 0)<|nS 19 ao (G+1) 0 (Y H.iu) fy aF rfl<|gF 19 ao (pt G (0+2)) ?_
  obtain⟨cX,SZ,cE⟩:=u.gj.shape
  have dz:=u.gj.2.2
  refine nS 19 ao G (0+2) (.slice cX (F.gj.l.length) SZ) x_ aX (by rw[<-cE];rfl)<|gF 19 ao (Y (.ofNat (F.gj.l.length))) ?_
  refine nH 19 ao (zm F.gj.l.length H.iu) fun dY da=>?_
  refine mI 26 (nO c_ da) fun M cj=>oX 1<|xY 27 M (.agg (gO F).toArray) (by rintro rfl;exact WC.iz G (0) (gO F) U pF oJ aX rfl rfl)<|gF 27 M (pt (G+1) 0)<|nS 27 M (G+1) 0 (Y H.iu) fy aF rfl<|WO.cons (WC.gq (!M) (GB (!M) (rL F H.iu.toNat) (bQ) bM) (.bool M) (g:=f_ (.tmp 27)) rfl U (by cases M<;>rfl) (fun h=>by obtain rfl:M=false:=(by simpa using h);have cU:¬(((H.iu)<(0))\/(((F.gj.l.length:Nat):Int)<(H.iu))):=(fun k=>absurd ((cj).2 k) (by decide));exact WC.call 31 70 ([.agg (gO F).toArray,Y H.iu]) kf ((TM F H.iu bM (bQ) (u.mono bH) om (fun x hx=>by have:=aZ.PY hx;omega)).mono fun v e9 e_ ⟨⟨c,aR,hc⟩,hn,he⟩=>⟨_,_,_,rfl,⟨c,aR,hc⟩,hn,he⟩)) (fun h=>GB.off h) ?_)
  rintro _ bN bR ⟨⟨xu,rfl,FJ⟩,dR,aL⟩
  have aT:=bH.trans aL
  have aY:=aL.get aX
  have aG:=aL.get aF
  refine nH 27 M (nN FJ) fun dZ db=>?_
  refine mI 33 (nO cj db) fun X dc=>oX 1<|gF 34 X (pt (G+1) (0+1)) ?_
  obtain⟨cc,cd,a6⟩:=hH.gH.shape
  have dA:=hH.gH.2.2
  refine nS 34 X (G+1) (0+1) (.slice cc (H.gH.l.length) cd) lO aG (by rw[<-a6];rfl)<|gF 34 X (Y (.ofNat (H.gH.l.length)))<|gF 34 X (pt G 0)<|gF 34 X (pt G (0+0+0)) ?_
  obtain⟨cY,c0,cF⟩:=u.fx.fw.shape
  have dB:=u.fx.fw.2.2
  refine nS 34 X G (0+0+0) (.slice cY (F.fx.fw.l.length) c0) zo aY (by rw[<-cF];rfl)<|gF 34 X (Y (.ofNat (F.fx.fw.l.length))) ?_
  refine nH 34 X (JP H.gH.l.length F.fx.fw.l.length) fun d_ dd=>?_
  refine mI 43 (nO dc dd) fun ak de=>oX 1<|gF 44 ak (pt (G+1) (0+2)) ?_
  obtain⟨bz,bA,aN⟩:=hH.abp.shape
  have dC:=hH.abp.2.2
  refine nS 44 ak (G+1) (0+2) (.slice bz (H.abp.l.length) bA) Bg aG (by rw[<-aN];rfl)<|gF 44 ak (Y (.ofNat (H.abp.l.length)))<|gF 44 ak (pt G (0+3)) ?_
  obtain⟨cZ,c3,cG⟩:=u.fc.1.shape
  have dD:=u.fc.1.2.2
  refine nS 44 ak G (0+3) (.slice cZ (F.fc.l.length) c3) ow aY (by rw[<-cG];rfl)<|gF 44 ak (Y (.ofNat (F.fc.l.length))) ?_
  refine nH 44 ak (JP H.abp.l.length F.fc.l.length) fun ea df=>?_
  refine mI 52 (nO de df) fun E ck=>oX 1<|gF 53 E (pt G 0)<|xY 53 E (.agg (ji F.fx).toArray) (by rintro rfl;exact WC.iz G 0 (ji F.fx) U xZ v8 aY rfl rfl)<|gF 53 E (pt (G+1) (0+1))<|nS 53 E (G+1) (0+1) (.slice cc (H.gH.l.length) cd) lO aG (by rw[<-a6];rfl)<|WO.cons (WC.gq (!E) (GB (!E) (Jj F.fx H.gH.l) (bR) bN) (.bool E) (g:=f_ (.tmp 53)) rfl U (by cases E<;>rfl) (fun h=>by obtain rfl:E=false:=(by simpa using h);have cU:¬((((((H.iu)<(0))\/(((F.gj.l.length:Nat):Int)<(H.iu)))\/(¬(rL F H.iu.toNat)))\/(((H.gH.l.length:Nat):Int)≠((F.fx.fw.l.length:Nat):Int)))\/(((H.abp.l.length:Nat):Int)≠((F.fc.l.length:Nat):Int))):=(fun k=>absurd ((ck).2 k) (by decide));exact WC.call 58 71 ([.agg (ji F.fx).toArray,H.gH.v]) (fun _ _ _=>by(try rw[a6]);kernel_rfl) ((Rx F.fx H.gH bN (bR) (u.fx.mono aT) (hH.gH.mono aT) aZ.Sr (Int.ofNat.inj (fu.1 fun k=>cU (.inl (.inr k))))).mono fun v e9 e_ ⟨⟨c,aR,hc⟩,hn,he⟩=>⟨_,_,_,rfl,⟨c,aR,hc⟩,hn,he⟩)) (fun h=>GB.off h) ?_)
  rintro _ cD aO ⟨⟨dF,rfl,cH⟩,dS,aH⟩
  have a_:=aT.trans aH
  have aA:=aH.get (aL.get cx)
  refine nH 53 E (nN cH) fun dG cI=>?_
  refine mI 60 (nO ck cI) fun dH cJ=>WO.nil<|cq cJ (fun L=>?_) (fun L=>?_)
  ·
   refine sr<|WO.cons (WC.iz (G+1+1) (0) [F.fx.fw.v,F.fx.gD.v,F.gj.v,F.fc.v,Y H.iu,H.gH.v,H.abp.v] U mW j8 aA rfl<|oS (G+1+1) (0) (.agg ⟨[F.fx.fw.v,F.fx.gD.v,F.gj.v,F.fc.v,Y H.iu,H.gH.v,H.abp.v]⟩) [F.fx.fw.v,F.fx.gD.v,F.gj.v,F.fc.v,Y H.iu,H.gH.v,H.abp.v] [F.fx.fw.v,F.fx.gD.v,F.gj.v,F.fc.v,Y H.iu,H.gH.v,H.abp.v] j8 rfl (fe.2 ⟨rfl,fe.2 ⟨u.fx.fw.one,fe.2 ⟨u.fx.gD.1.one,fe.2 ⟨u.gj.one,fe.2 ⟨u.fc.1.one,fe.2 ⟨rfl,fe.2 ⟨hH.gH.one,fe.2 ⟨hH.abp.one,rfl⟩⟩⟩⟩⟩⟩⟩⟩) aA fun br b5 bV dj=>?_)
   have ar:=a_.trans b5
   refine oW 1 ⟨rfl,rfl,[.agg ⟨[F.fx.fw.v,F.fx.gD.v,F.gj.v,F.fc.v,Y H.iu,H.gH.v,H.abp.v]⟩,Y 260],(ou (by rw[show(f_ (.tmp 4)).run _=pt (G+1+1) 0 from by kernel_rfl];exact jV mW j8 bV rfl) U),?_⟩
   have A:kB br (aO) F:=u.mono ar
   have B:nz br (aO) H:=hH.mono ar
   refine⟨⟨F,H⟩,260,rfl,⟨A,B⟩,⟨fun h=>absurd h (by decide),fun h=>False.elim ?_⟩,fun h=>absurd h (by decide),od,ar⟩
   have h1:=h.w0;have D:=h.w1;have h3:=h.On;have h4:=h.Z8;have dN:=h.JR;have dO:=h.Wu
   rcases L with((((k|k)|k)|k)|k)
   · first|omega|(dsimp only;omega)
   · exact k dN
   · exact k (congrArg Int.ofNat h3)
   · exact k (congrArg Int.ofNat h4)
   · exact k dO
  ·
   refine WP.skip<|WP.seq<|sr ?_
   have cf:rL F H.iu.toNat:=fu.1 fun k=>L (.inl (.inl (.inl (.inr k))))
   have c5:Jj F.fx H.gH.l:=fu.1 fun k=>L (.inr k)
   have cy:H.abp.l.length=F.fc.l.length:=Int.ofNat.inj (fu.1 fun k=>L (.inl (.inr k)))
   have cB:H.gH.l.length=F.fx.fw.l.length:=Int.ofNat.inj (fu.1 fun k=>L (.inl (.inl (.inr k))))
   have ec:¬(H.iu<0\/Int.ofNat F.gj.l.length<H.iu):=fun k=>L (.inl (.inl (.inl (.inl k))))
   have bO:0<=H.iu:=by omega
   refine oX 1<|oZ (G+1) (0+2) (.slice bz (H.abp.l.length) bA) Bg (aH.get aG) (by rw[<-aN];rfl)<|oN 2<|WP.block ?_
   refine mu [4,63,64,65] (fun m hs ns vs=>∃(o:Nat),o+m=H.abp.l.length/\vs=[pt (G+1+1) 0,.slice bz (H.abp.l.length) bA,Y (.ofNat (H.abp.l.length)),Y (.ofNat o)]/\aO<=ns/\HE (aO) cD hs/\(∀(a:Nat) (c:sQ) (x:im),a<o->H.abp.l[a]?=some c->F.fc.l[a]?=some x->HW (wo x H.iu.toNat) c)) ?_ (H.abp.l.length) ?_
   ·
    rintro dE dr j _ ⟨o,c6,rfl,b_,aI,aV⟩ dg
    have au:=a_.trans aI
    have aB:=aI.get aA
    refine sr ?_
    refine oq 66 (kT o H.abp.l.length) fun dI cK=>WO.nil<|WP.seq<|cq cK (fun cV=>?_) (fun cV=>?_)
    ·
     refine WP.skip<|WP.seq<|WP.block<|sr<|oX 1 ?_
     have aQ:o<H.abp.l.length:=by omega
     refine WO.cons (WC.iy aN hH.abp (o) Dt wm (aQ) ?_)
     obtain⟨p,C⟩:=gE aQ
     refine WO.cons (WC.ly aN (hH.abp.mono au nR) C VI wm<|oA [Y 0,Y 0] TO fun dt aJ bW=>?_)
     refine oX 1<|oS j (0) (.agg (vX p).toArray) (vX p) (vX p) wm rfl rfl bW fun S bj N ca=>?_
     have av:=(au.trans aJ).trans bj
     have aC:=(ca (G+1+1) om).trans (aJ.get aB)
     refine WO.nil<|WP.seq<|WP.seq<|WP.qZ [⟨[0,1,2,3,4,5,6,7],[0,1,2,3,4,5,6,7],some 8⟩,⟨[9,10,11],[4,5,9,10,11],none⟩] U _ rfl<|WD.kZ ?_
     obtain⟨bU,J⟩:∃x,F.fc.l[o]?=some x:=⟨_,fq om⟩
     obtain⟨an,R,dT⟩:=cf bU (fa J)
     refine nv 70 (pt j 0)<|WN.hZ rfl (WC.jW j 0 (Y p.mJ) U fy N rfl ?_)
     obtain⟨b,bB,bS⟩:=mE p.mJ 0
     refine nv 72 (.bool b) ?_ (fun _ _ _=>by subst bB;kernel_rfl)
     refine nv 73 (.bool b)<|ng rfl 73 (!b) (pt j 0) (.bool b) (by cases b<;>rfl) (fun h=>by obtain rfl:=bF h;exact fun _ _ _=>by kernel_rfl) ?_
     refine xl rfl 73 (!b) (Y p.mJ) (.bool b) (by cases b<;>rfl) (fun h=>by obtain rfl:=bF h;exact WC.jW j 0 (Y p.mJ) U fy N rfl rfl) ?_
     refine xl rfl 73 (!b) (.agg ⟨[F.fx.fw.v,F.fx.gD.v,F.gj.v,F.fc.v,Y H.iu,H.gH.v,H.abp.v]⟩) (.bool b) (by cases b<;>rfl) (fun h=>by obtain rfl:=bF h;exact WC.iz (G+1+1) (0) [F.fx.fw.v,F.fx.gD.v,F.gj.v,F.fc.v,Y H.iu,H.gH.v,H.abp.v] U mW j8 aC rfl rfl) ?_
     refine ng rfl 73 (!b) (Y (.ofNat o)) (.bool b) (by cases b<;>rfl) (fun h=>by obtain rfl:=bF h;exact fun _ _ _=>by kernel_rfl) ?_
     refine WN.nil ⟨?_,?_⟩
     ·
      refine cv (pt j 0) (iR ..)<|qk j 0 (Y p.mJ) fy N rfl (iF ..)<|cv (.bool b) (iO 8 b) ?_ (fun _=>by subst bB;kernel_rfl)
      refine cv (.bool b) (iO 8 b)<|cg rfl 73 (!b) (pt j 0) (.bool b) (by cases b<;>rfl) (fun h=>by obtain rfl:=bF h;exact mi (pt j 0) (fun _=>by kernel_rfl) (iR ..)) ?_
      refine cg rfl 73 (!b) (Y p.mJ) (.bool b) (by cases b<;>rfl) (fun h=>by obtain rfl:=bF h;exact qJ (Y p.mJ) (kh ex.T S.get 3 (pt j 0)) (fun _=>by kernel_rfl) (ki fy N rfl) (iF ..)) ?_
      refine cg rfl 73 (!b) (.agg ⟨[F.fx.fw.v,F.fx.gD.v,F.gj.v,F.fc.v,Y H.iu,H.gH.v,H.abp.v]⟩) (.bool b) (by cases b<;>rfl) (fun h=>by obtain rfl:=bF h;exact qJ (.agg ⟨[F.fx.fw.v,F.fx.gD.v,F.gj.v,F.fc.v,Y H.iu,H.gH.v,H.abp.v]⟩) (kh ex.T S.get 130 (pt (G+1+1) 0)) (fun _=>by kernel_rfl) (jV mW j8 aC rfl) (wK 7 _ (by intro v aR;simp only[List.mem_cons,List.not_mem_nil,or_false]at aR;rcases aR with rfl|rfl|rfl|rfl|rfl|rfl|rfl<;>first|exact iF ..|exact iO ..|exact(u.fx.fw.jA 7)|exact(u.fx.gD.1.jA 7)|exact(u.gj.jA 7)|exact(u.fc.1.jA 7)|exact(hH.gH.jA 7)|exact(hH.abp.jA 7)))) ?_
      refine cg rfl 73 (!b) (Y (.ofNat o)) (.bool b) (by cases b<;>rfl) (fun h=>by obtain rfl:=bF h;exact mi (Y (.ofNat o)) (fun _=>by kernel_rfl) (iF ..)) ?_
      exact jc.nil
     obtain⟨cm,cn,cb⟩:=((u.fc.2 bU (fa J)).fV.2 an (fa R)).shape
     have c7:=((u.fc.2 bU (fa J)).fV.2 an (fa R)).2.2
     refine WC.at rfl (WC.gq (!b) (GV (!b) (.slice cm (an.l.length) cn) (j+1) S) (.bool b) (g:=f_ (.tmp 73)) rfl U (by cases b<;>rfl) (fun h=>by obtain rfl:b=false:=(by simpa using h);have cU:¬((p.mJ)<(0)):=(fun k=>absurd ((bS).2 k) (by decide));exact WC.call 78 72 ([.agg ⟨[F.fx.fw.v,F.fx.gD.v,F.gj.v,F.fc.v,Y H.iu,H.gH.v,H.abp.v]⟩,Y (.ofNat o)]) kf ((GX ⟨F,H⟩ o H.iu.toNat bU an _ S (j+1) (⟨u.mono av,hH.mono av⟩:tC S (j+1) ⟨F,H⟩) J (nat_eq bO) R cb).mono fun v e9 e_ ⟨aR,hn,he⟩=>⟨_,_,_,rfl,aR,hn,he⟩)) (fun h=>GV.off h) ?_)
     rintro _ aM ah ⟨rfl,dh,ae⟩
     have aa:=av.trans ae
     have ab:=ae.get aC
     have bd:=ae.get N
     refine WD.last<|ng rfl 73 (!b) (Y (.ofNat (an.l.length))) (.bool b) (by cases b<;>rfl) (fun h=>by obtain rfl:=bF h;exact fun _ _ _=>by kernel_rfl) ?_
     obtain⟨W,bC,cL⟩:=Hv an.l.length p.mJ
     refine ng rfl 73 (!b) (.bool W) (.bool b) (by cases b<;>rfl) (fun h=>by obtain rfl:=bF h;exact fun _ _ _=>by subst bC;kernel_rfl) ?_
     obtain⟨aS,bD,cM⟩:=nO bS cL
     refine WN.hZ rfl (WC.mq (v:=.bool aS) 81 (lu (.bool b) (.bool true) ((bif !b then .bool W else undef))) kf (by rw[bD];exact lg (fun h=>by obtain rfl:b=false:=h;rfl))<|WN.nil ⟨?_,?_⟩)
     ·
      refine cg rfl 73 (!b) (pt j 0) (.bool b) (by cases b<;>rfl) (fun h=>by obtain rfl:=bF h;exact mi (pt j 0) (fun _=>by kernel_rfl) (iR ..)) ?_
      refine cg rfl 73 (!b) (Y p.mJ) (.bool b) (by cases b<;>rfl) (fun h=>by obtain rfl:=bF h;exact qJ (Y p.mJ) (kh ex.T aM.get 3 (pt j 0)) (fun _=>by kernel_rfl) (ki fy bd rfl) (iF ..)) ?_
      refine cg rfl 73 (!b) (Y (.ofNat (an.l.length))) (.bool b) (by cases b<;>rfl) (fun h=>by obtain rfl:=bF h;exact mi (Y (.ofNat (an.l.length))) (fun _=>by kernel_rfl) (iF ..)) ?_
      refine cg rfl 73 (!b) (.bool W) (.bool b) (by cases b<;>rfl) (fun h=>by obtain rfl:=bF h;exact mi (.bool W) (fun _=>by subst bC;kernel_rfl) (iO 8 W)) ?_
      refine co (.bool aS) (lu (.bool b) (.bool true) ((bif !b then .bool W else undef))) ((by rw[bD];exact lg (fun h=>by obtain rfl:b=false:=h;rfl))) (iO 8 aS) ?_
      exact jc.nil
     refine cq cM (fun cW=>?_) (fun cW=>?_)
     ·
      refine sr<|WO.cons (WC.iz (G+1+1) (0) [F.fx.fw.v,F.fx.gD.v,F.gj.v,F.fc.v,Y H.iu,H.gH.v,H.abp.v] U mW j8 ab rfl<|oS (G+1+1) (0) (.agg ⟨[F.fx.fw.v,F.fx.gD.v,F.gj.v,F.fc.v,Y H.iu,H.gH.v,H.abp.v]⟩) [F.fx.fw.v,F.fx.gD.v,F.gj.v,F.fc.v,Y H.iu,H.gH.v,H.abp.v] [F.fx.fw.v,F.fx.gD.v,F.gj.v,F.fc.v,Y H.iu,H.gH.v,H.abp.v] j8 rfl (fe.2 ⟨rfl,fe.2 ⟨u.fx.fw.one,fe.2 ⟨u.fx.gD.1.one,fe.2 ⟨u.gj.one,fe.2 ⟨u.fc.1.one,fe.2 ⟨rfl,fe.2 ⟨hH.gH.one,fe.2 ⟨hH.abp.one,rfl⟩⟩⟩⟩⟩⟩⟩⟩) ab fun bs b6 bX dm=>?_)
      have aw:=aa.trans b6
      refine oW 1 ⟨rfl,rfl,[.agg ⟨[F.fx.fw.v,F.fx.gD.v,F.gj.v,F.fc.v,Y H.iu,H.gH.v,H.abp.v]⟩,Y 260],(ou (by rw[show(f_ (.tmp 4)).run _=pt (G+1+1) 0 from by kernel_rfl];exact jV mW j8 bX rfl) U),?_⟩
      have A:kB bs (ah) F:=u.mono aw
      have B:nz bs (ah) H:=hH.mono aw
      refine⟨⟨F,H⟩,260,rfl,⟨A,B⟩,⟨fun h=>absurd h (by decide),fun h=>False.elim ?_⟩,fun h=>absurd h (by decide),od,aw⟩
      have aq:=h.at C J R
      have h1:=aq.1;have D:=aq.2.1;omega
     ·
      refine WP.skip<|sr<|WO.cons (WC.iz (G+1+1) (0) [F.fx.fw.v,F.fx.gD.v,F.gj.v,F.fc.v,Y H.iu,H.gH.v,H.abp.v] U mW j8 ab rfl<|oX 1 ?_)
      obtain⟨K,aP⟩:∃e,an.l[p.mJ.toNat]?=some e:=⟨_,fq om⟩
      refine oC 85 (Jk ⟨F,H⟩ o H.iu.toNat p.mJ.toNat bU p an K aM (ah) (⟨u.mono aa,hH.mono aa⟩:tC aM (ah) ⟨F,H⟩) J C (nat_eq bO) R (nat_eq om) aP) ?_
      rintro _ du z ⟨rfl,di,af⟩
      refine oA [.bool false,Y 0,Y 0,Y 0] uK fun dv ag bY=>?_
      refine oS z (0) (.agg (gU K).toArray) (gU K) (gU K) lB rfl rfl bY fun dw bk ad bo=>?_
      have bc:=((aa.trans af).trans ag).trans bk
      have bx:=(((((aI.trans aJ b_).trans bj).trans ae).trans af).trans ag).trans bk
      have aD:=(bo (G+1+1) om).trans (ag.get (af.get ab))
      have aE:=(bo j om).trans (ag.get (af.get bd))
      refine WO.nil<|WP.seq<|sr<|oX 1 ?_
      obtain⟨cp,cr,cN⟩:=@nb (K.j2) (K.j2=true) (by first|done|exact gk)
      refine oZ z 0 (.bool cp) xp ad (by rw[cr];rfl)<|WO.nil<|cq cN (fun al=>?_) (fun al=>?_)
      ·
       refine WP.region<|oX 1<|oS z (0+2) (Y 0) [.bool K.j2,Y K.lA,Y 0,Y K.gY] [Y 0] kH rfl rfl ad fun dx bl bZ bp=>?_
       refine oX 1<|oS z (0+3) (Y 0) [.bool K.j2,Y K.lA,Y 0,Y 0] [Y 0] kH rfl rfl bZ fun dy bn bf bq=>?_
       have bg:=(bq (G+1+1) om).trans ((bp (G+1+1) om).trans aD)
       have bh:=(bq j om).trans ((bp j om).trans aE)
       refine WO.nil<|sr<|oX 1<|oZ j (0+1) (Y p.fX) fy bh rfl<|oX 1<|oZ z (0+2) (Y 0) fy bf rfl ?_
       refine oq 94 (mE p.fX 0) fun ai cO=>oX 1<|gF 95 ai (pt j (0+1))<|nS 95 ai j (0+1) (Y p.fX) fy bh rfl<|gF 95 ai (pt z (0+3))<|nS 95 ai z (0+3) (Y 0) fy bf rfl ?_
       refine nH 95 ai (mE 0 p.fX) fun dJ cP=>?_
       refine mI 101 (nO cO cP) fun dK cQ=>WO.nil<|cq cQ (fun a7=>?_) (fun a7=>?_)
       ·
        refine sr<|WO.cons (WC.iz (G+1+1) (0) [F.fx.fw.v,F.fx.gD.v,F.gj.v,F.fc.v,Y H.iu,H.gH.v,H.abp.v] U mW j8 bg rfl<|oS (G+1+1) (0) (.agg ⟨[F.fx.fw.v,F.fx.gD.v,F.gj.v,F.fc.v,Y H.iu,H.gH.v,H.abp.v]⟩) [F.fx.fw.v,F.fx.gD.v,F.gj.v,F.fc.v,Y H.iu,H.gH.v,H.abp.v] [F.fx.fw.v,F.fx.gD.v,F.gj.v,F.fc.v,Y H.iu,H.gH.v,H.abp.v] j8 rfl (fe.2 ⟨rfl,fe.2 ⟨u.fx.fw.one,fe.2 ⟨u.fx.gD.1.one,fe.2 ⟨u.gj.one,fe.2 ⟨u.fc.1.one,fe.2 ⟨rfl,fe.2 ⟨hH.gH.one,fe.2 ⟨hH.abp.one,rfl⟩⟩⟩⟩⟩⟩⟩⟩) bg fun bt b7 b0 dn=>?_)
        have ax:=((bc.trans bl).trans bn).trans b7
        refine oW 1 ⟨rfl,rfl,[.agg ⟨[F.fx.fw.v,F.fx.gD.v,F.gj.v,F.fc.v,Y H.iu,H.gH.v,H.abp.v]⟩,Y 260],(ou (by rw[show(f_ (.tmp 4)).run _=pt (G+1+1) 0 from by kernel_rfl];exact jV mW j8 b0 rfl) U),?_⟩
        have A:kB bt (z+1) F:=u.mono ax
        have B:nz bt (z+1) H:=hH.mono ax
        refine⟨⟨F,H⟩,260,rfl,⟨A,B⟩,⟨fun h=>absurd h (by decide),fun h=>False.elim ?_⟩,fun h=>absurd h (by decide),od,ax⟩
        have aq:=h.at C J R
        exact(aq.2.2 _ aP).1 al a7
       ·
        refine WP.skip<|WP.region<|ov 103 (Y (.ofNat (o+1))) ?_ (fun _ _ _=>by rw[<-gQ (show o+1<9223372036854775808 by omega)];kernel_rfl)
        refine oN 1<|⟨H.abp.l.length-(o+1),om,rfl,rfl,o+1,om,U,?_,?_,?_⟩
        · exact od
        · exact((bx.trans bl).trans bn)
        · intro a c x aU h1 D
          rcases fE.1 aU with aU|rfl
          · exact aV a c x aU h1 D
          · rw[C]at h1;cases h1
            rw[J]at D;cases D
            rw[Gi R]
            refine⟨om,om,fun y hy=>?_⟩
            rw[aP]at hy;cases hy
            exact⟨fun _=>a7,fun k=>by rw[al]at k;cases k⟩
      ·
       refine WP.skip<|sr<|oX 1<|oZ j (0+1) (Y p.fX) fy aE rfl<|oX 1<|oZ z (0+2) (Y K.hY) fy ad rfl ?_
       refine oq 94 (mE p.fX K.hY) fun aj cR=>oX 1<|gF 95 aj (pt j (0+1))<|nS 95 aj j (0+1) (Y p.fX) fy aE rfl<|gF 95 aj (pt z (0+3))<|nS 95 aj z (0+3) (Y K.gY) fy ad rfl ?_
       refine nH 95 aj (mE K.gY p.fX) fun dL cS=>?_
       refine mI 101 (nO cR cS) fun dM cT=>WO.nil<|cq cT (fun a8=>?_) (fun a8=>?_)
       ·
        refine sr<|WO.cons (WC.iz (G+1+1) (0) [F.fx.fw.v,F.fx.gD.v,F.gj.v,F.fc.v,Y H.iu,H.gH.v,H.abp.v] U mW j8 aD rfl<|oS (G+1+1) (0) (.agg ⟨[F.fx.fw.v,F.fx.gD.v,F.gj.v,F.fc.v,Y H.iu,H.gH.v,H.abp.v]⟩) [F.fx.fw.v,F.fx.gD.v,F.gj.v,F.fc.v,Y H.iu,H.gH.v,H.abp.v] [F.fx.fw.v,F.fx.gD.v,F.gj.v,F.fc.v,Y H.iu,H.gH.v,H.abp.v] j8 rfl (fe.2 ⟨rfl,fe.2 ⟨u.fx.fw.one,fe.2 ⟨u.fx.gD.1.one,fe.2 ⟨u.gj.one,fe.2 ⟨u.fc.1.one,fe.2 ⟨rfl,fe.2 ⟨hH.gH.one,fe.2 ⟨hH.abp.one,rfl⟩⟩⟩⟩⟩⟩⟩⟩) aD fun bu b8 b3 dp=>?_)
        have ay:=bc.trans b8
        refine oW 1 ⟨rfl,rfl,[.agg ⟨[F.fx.fw.v,F.fx.gD.v,F.gj.v,F.fc.v,Y H.iu,H.gH.v,H.abp.v]⟩,Y 260],(ou (by rw[show(f_ (.tmp 4)).run _=pt (G+1+1) 0 from by kernel_rfl];exact jV mW j8 b3 rfl) U),?_⟩
        have A:kB bu (z+1) F:=u.mono ay
        have B:nz bu (z+1) H:=hH.mono ay
        refine⟨⟨F,H⟩,260,rfl,⟨A,B⟩,⟨fun h=>absurd h (by decide),fun h=>False.elim ?_⟩,fun h=>absurd h (by decide),od,ay⟩
        have aq:=h.at C J R
        exact(aq.2.2 _ aP).2 (gz.2 al) a8
       ·
        refine WP.skip<|WP.region<|ov 103 (Y (.ofNat (o+1))) ?_ (fun _ _ _=>by rw[<-gQ (show o+1<9223372036854775808 by omega)];kernel_rfl)
        refine oN 1<|⟨H.abp.l.length-(o+1),om,rfl,rfl,o+1,om,U,?_,?_,?_⟩
        · exact od
        · exact bx
        · intro a c x aU h1 D
          rcases fE.1 aU with aU|rfl
          · exact aV a c x aU h1 D
          · rw[C]at h1;cases h1
            rw[J]at D;cases D
            rw[Gi R]
            refine⟨om,om,fun y hy=>?_⟩
            rw[aP]at hy;cases hy
            exact⟨fun k=>absurd k al,fun _=>a8⟩
    ·
     refine WP.exit<|sr<|WO.cons (WC.iz (G+1+1) (0) [F.fx.fw.v,F.fx.gD.v,F.gj.v,F.fc.v,Y H.iu,H.gH.v,H.abp.v] U mW j8 aB rfl<|oS (G+1+1) (0) (.agg ⟨[F.fx.fw.v,F.fx.gD.v,F.gj.v,F.fc.v,Y H.iu,H.gH.v,H.abp.v]⟩) [F.fx.fw.v,F.fx.gD.v,F.gj.v,F.fc.v,Y H.iu,H.gH.v,H.abp.v] [F.fx.fw.v,F.fx.gD.v,F.gj.v,F.fc.v,Y H.iu,H.gH.v,H.abp.v] j8 rfl (fe.2 ⟨rfl,fe.2 ⟨u.fx.fw.one,fe.2 ⟨u.fx.gD.1.one,fe.2 ⟨u.gj.one,fe.2 ⟨u.fc.1.one,fe.2 ⟨rfl,fe.2 ⟨hH.gH.one,fe.2 ⟨hH.abp.one,rfl⟩⟩⟩⟩⟩⟩⟩⟩) aB fun bw b9 b4 dq=>?_)
     have az:=au.trans b9
     refine oW 1 ⟨rfl,rfl,[.agg ⟨[F.fx.fw.v,F.fx.gD.v,F.gj.v,F.fc.v,Y H.iu,H.gH.v,H.abp.v]⟩,Y 0],(ou (by rw[show(f_ (.tmp 4)).run _=pt (G+1+1) 0 from by kernel_rfl];exact jV mW j8 b4 rfl) U),?_⟩
     have A:kB bw (j) F:=u.mono az
     have B:nz bw (j) H:=hH.mono az
     exact⟨⟨F,H⟩,0,rfl,⟨A,B⟩,⟨fun _=>⟨aZ,bO,om,cf,cB,cy,c5,fun a c x h1 D=>aV a c x (by have:=yY h1;omega) h1 D⟩,fun _=>rfl⟩,fun _=>rfl,od,az⟩
   ·
    exact⟨0,om,U,fg _,HE.refl _ _,(fun _ _ _ h=>absurd h (fK _))⟩
theorem TP(F:jq)(H:lW)(O:Ht)(G:Nat)(y:kB O G F)(hH:nz O G H)(u:∀r∈F.fc.l,Aq r<=60):WF ex 10 [.agg (gO F).toArray,.agg (kb H).toArray] O G (fL G O (Wd (uG F H))):=by
 refine wd Tryz.f10 12 [.tmp 4] fun hE=>sr<|oB (.agg (gO F).toArray) (gO F) fun jy iI ia=>?_
 refine oB (.agg (kb H).toArray) (kb H) fun p e j=>?_
 have b:=(hE.trans iI).trans e
 refine oN 1<|sr<|WO.cons (WC.iz G (0) (gO F) U pF oJ (e.get ia) rfl<|WO.cons (WC.iz (G+1) (0) (kb H) U Bh zy j rfl<|oC 8 (Oo F H p (G+1+1) (y.mono b) (hH.mono b) u) ?_))
 rintro _ A B ⟨V,z17,rfl,E,o,C,z,m⟩
 refine oN 4<|sr<|oW 2 ⟨rfl,rfl,[Y z17],U,?_⟩
 exact⟨⟨_,rfl,o⟩,od,(b.trans m)⟩
theorem YW(F:jq)(H:lW)(k:Nat)(O:Ht)(G:Nat)(e:kB O G F)(hH:nz O G H)(ad:∀r∈F.fc.l,Aq r<=60)(y:uG F H)(hk:k<F.fc.l.length):WF ex 36 [.agg (gO F).toArray,.agg (kb H).toArray,Y (.ofNat k)] O G (fL G O (wM (.tuple ⟨[.agg (ph ⟨F,H⟩).toArray,Y 0]⟩))):=by
 refine wd Tryz.f36 29 [.cell 6 130,.tmp 7] fun hE=>sr<|oB (.agg (gO F).toArray) (gO F) fun jy iI ia=>?_
 refine oB (.agg (kb H).toArray) (kb H) fun ar u A=>?_
 refine oA [.slice none (0) 0,.slice none (0) 0,.slice none (0) 0,.slice none (0) 0,Y 0,.slice none (0) 0,.slice none (0) 0] FX fun L jE B=>?_
 have j:=((hE.trans iI).trans u).trans jE
 have o:=jE.get (u.get ia)
 refine oN 1<|WP.seq<|sr<|WO.cons (WC.iz G (0) (gO F) U pF oJ o rfl<|WO.cons (WC.iz (G+1) (0) (kb H) U Bh zy (jE.get A) rfl<|oC 11 (Oo F H L (G+1+1+1) (e.mono j) (hH.mono j) ad) ?_))
 rintro _ ak ao ⟨V,z28,rfl,aq,ab,aa,ai,m⟩
 obtain rfl:z28=0:=ab.2 y
 obtain rfl:=aa rfl
 refine oX 3<|oS (G+1+1) (0) (.agg ⟨[F.fx.fw.v,F.fx.gD.v,F.gj.v,F.fc.v,Y H.iu,H.gH.v,H.abp.v]⟩) [F.fx.fw.v,F.fx.gD.v,F.gj.v,F.fc.v,Y H.iu,H.gH.v,H.abp.v] [F.fx.fw.v,F.fx.gD.v,F.gj.v,F.fc.v,Y H.iu,H.gH.v,H.abp.v] j8 rfl (fe.2 ⟨rfl,fe.2 ⟨e.fx.fw.one,fe.2 ⟨e.fx.gD.1.one,fe.2 ⟨e.gj.one,fe.2 ⟨e.fc.1.one,fe.2 ⟨rfl,fe.2 ⟨hH.gH.one,fe.2 ⟨hH.abp.one,rfl⟩⟩⟩⟩⟩⟩⟩⟩) (m.get B) fun al E p K=>?_
 refine oN 1<|sr<|oX 4 ?_
 obtain⟨b,W,ae⟩:=zm k 0
 refine WO.cons (WC.lh (x:=.bool true) (g:=f_ (.tmp 16)) rfl U rfl (WC.val 18 (.bool b) (fun _ _ _=>by subst W;kernel_rfl)<|oX 1<|gF 19 b (Y (.ofNat k))<|gF 19 b (pt G (0+3)) ?_))
 obtain⟨a50,N,M⟩:=e.fc.1.shape
 have ah:=e.fc.1.2.2
 refine nS 19 b G (0+3) (.slice a50 (F.fc.l.length) N) ow ((K G om).trans (m.get o)) (by rw[<-M];rfl)<|gF 19 b (Y (.ofNat (F.fc.l.length))) ?_
 refine nH 19 b (Yi F.fc.l.length k) fun R af=>?_
 obtain⟨S,X,ag⟩:=nO ae af
 refine WO.cons (WC.lh (x:=.bool true) (g:=f_ (.tmp 16)) rfl U rfl (WC.mq (v:=.bool S) 25 (lu (.bool b) (.bool true) ((bif !b then .bool R else undef))) kf (by rw[X];exact lg (fun h=>by obtain rfl:b=false:=h;rfl))<|oN 1<|cq ag (fun z=>?_) (fun z=>?_)))
 ·
  exact absurd z om
 ·
  refine WP.skip<|sr<|WO.cons (WC.iz (G+1+1) (0) [F.fx.fw.v,F.fx.gD.v,F.gj.v,F.fc.v,Y H.iu,H.gH.v,H.abp.v] U mW j8 p rfl<|oX 1<|oS (G+1+1) (0) (.agg ⟨[F.fx.fw.v,F.fx.gD.v,F.gj.v,F.fc.v,Y H.iu,H.gH.v,H.abp.v]⟩) [F.fx.fw.v,F.fx.gD.v,F.gj.v,F.fc.v,Y H.iu,H.gH.v,H.abp.v] [F.fx.fw.v,F.fx.gD.v,F.gj.v,F.fc.v,Y H.iu,H.gH.v,H.abp.v] j8 rfl (fe.2 ⟨rfl,fe.2 ⟨e.fx.fw.one,fe.2 ⟨e.fx.gD.1.one,fe.2 ⟨e.gj.one,fe.2 ⟨e.fc.1.one,fe.2 ⟨rfl,fe.2 ⟨hH.gH.one,fe.2 ⟨hH.abp.one,rfl⟩⟩⟩⟩⟩⟩⟩⟩) p fun an J C aj=>?_)
  refine oW 1 ⟨rfl,rfl,[.agg ⟨[F.fx.fw.v,F.fx.gD.v,F.gj.v,F.fc.v,Y H.iu,H.gH.v,H.abp.v]⟩,Y 0],(ou (by rw[show(f_ (.tmp 6)).run _=pt (G+1+1) 0 from by kernel_rfl];exact jV mW j8 C rfl) U),?_⟩
  exact⟨rfl,od,(((j.trans m).trans E).trans J)⟩
theorem Xy(F:jq)(H:lW)(k:Nat)(O:Ht)(G:Nat)(u:kB O G F)(hH:nz O G H)(S:∀r∈F.fc.l,Aq r<=60)(b:uG F H)(hk:k<F.fc.l.length):WF ex 12 [.agg (gO F).toArray,.agg (kb H).toArray,Y (.ofNat k)] O G (fL G O (YV F H k)):=by
 refine wd Tryz.f12 28 [.tmp 6,.tmp 7,.tmp 8] fun hE=>?_
 obtain⟨x,hx⟩:∃x,F.fc.l[k]?=some x:=⟨_,fq hk⟩
 obtain⟨c,hc⟩:∃c,H.abp.l[k]?=some c:=⟨_,fq (by rw[b.Z8];exact hk)⟩
 obtain⟨o,B,_⟩:=b.JR x (fa hx)
 have y:=b.at hc hx B
 obtain⟨e,he⟩:∃e,o.l[c.mJ.toNat]?=some e:=⟨_,fq (by have h1:=y.1;have D:=y.2.1;omega)⟩
 have R:e.j2=false->0<=e.lA->e.lA.toNat<H.gH.l.length:=fun h D=>by have:=(b.Lc.Vx (fa hx) (fa B) e (fa he)).2 h;rw[b.On];omega
 refine sr<|oB (.agg (gO F).toArray) (gO F) fun jy iI ia=>?_
 refine oB (.agg (kb H).toArray) (kb H) fun N z E=>?_
 have m:=(hE.trans iI).trans z
 refine oN 3<|sr<|WO.cons (WC.iz G (0) (gO F) U pF oJ (z.get ia) rfl<|WO.cons (WC.iz (G+1) (0) (kb H) U Bh zy E rfl<|oX 1<|oC 14 (YW F H k N (G+1+1) (u.mono m) (hH.mono m) S b hk) ?_))
 rintro _ X j ⟨rfl,xI,jE⟩
 refine oX 3<|oA [.slice none (0) 0,.slice none (0) 0,.slice none (0) 0,.slice none (0) 0,Y 0,.slice none (0) 0,.slice none (0) 0] FX fun aa L J=>?_
 refine oS j (0) (.agg ⟨[F.fx.fw.v,F.fx.gD.v,F.gj.v,F.fc.v,Y H.iu,H.gH.v,H.abp.v]⟩) [F.fx.fw.v,F.fx.gD.v,F.gj.v,F.fc.v,Y H.iu,H.gH.v,H.abp.v] [F.fx.fw.v,F.fx.gD.v,F.gj.v,F.fc.v,Y H.iu,H.gH.v,H.abp.v] j8 rfl (fe.2 ⟨rfl,fe.2 ⟨u.fx.fw.one,fe.2 ⟨u.fx.gD.1.one,fe.2 ⟨u.gj.one,fe.2 ⟨u.fc.1.one,fe.2 ⟨rfl,fe.2 ⟨hH.gH.one,fe.2 ⟨hH.abp.one,rfl⟩⟩⟩⟩⟩⟩⟩⟩) J fun A M K W=>?_
 have p:=((m.trans jE).trans L).trans M
 refine oN 1<|WP.seq<|sr<|oN 2<|WP.cond false U (fun C=>by cases C) (fun C=>?_)
 refine WP.skip<|sr<|WO.cons (WC.iz j (0) [F.fx.fw.v,F.fx.gD.v,F.gj.v,F.fc.v,Y H.iu,H.gH.v,H.abp.v] U mW j8 K rfl<|oX 1<|oC 23 (YU ⟨F,H⟩ k H.iu.toNat c.mJ.toNat x c o e A (j+1) (⟨u.mono p,hH.mono p⟩:tC A (j+1) ⟨F,H⟩) hx hc (nat_eq b.w0) B (nat_eq y.1) he R) ?_)
 rintro _ pU o4 ⟨rfl,CG,oY⟩
 refine oN 5<|sr<|oW 5 ⟨rfl,rfl,[Y (Ck H e c),.bool (!e.j2),Y 0],U,?_⟩
 exact⟨⟨Ck H e c,!e.j2,rfl,x,c,e,hx,hc,by rw[Gi B];exact he,rfl,(Bool.not_not _)⟩,od,(p.trans oY)⟩
end
end Sw
namespace Sw
noncomputable section
open Go Go.Proofs Go.RowKit
set_option maxRecDepth 100000
set_option maxHeartbeats 16000000
theorem Xz{F:jq}{B:List Int}{M:List im}(h:M.map some=B.map (ug F)){i:Nat}{b:Int}{x:im}(hb:B[i]?=some b)(hx:ug F b=some x):M[i]?=some x:=by
 have:=congrArg (fun l=>l[i]?) h
 simp only[List.getElem?_map,hb,Option.map_some,hx]at this
 cases e:M[i]? with
 |none=>rw[e]at this;simp at this
 |some y=>rw[e]at this;simpa using this
theorem xw.nil{C:ka}{F:jq}{r:qM}{T:tN}{z:Int}(h:xw C F r T z)(b:z≠0):T.qK.l=[]:=by
 cases h<;>first|assumption|exact absurd rfl b
theorem xw.ok0{C:ka}{F:jq}{r:qM}{T:tN}{z:Int}(h:xw C F r T z)(b:z=0):∃M,n9 C r=0/\M.map some=r.iH.l.map (ug F)/\tf F.fx M (vD F (F.gj.l.length+1)) T.qK.l T.j2:=by
 cases h with
 |qW h1=>exact absurd b h1
 |Lc=>exact absurd b (by decide)
 |find=>exact absurd b (by decide)
 |lim _ _ _ h=>rcases h with rfl|rfl<;>exact absurd b (by decide)
 |ok h1 _ h3 h4=>exact⟨_,h1,h3,h4⟩
theorem VJ(F:jq)(H:lW)(z:Int)(k:Nat)(m:z=.ofNat k)(O:Ht)(G:Nat)(j:kB O G F)(hH:nz O G H)(e:∀r∈F.fc.l,Aq r<=60)(b:uG F H)(hk:k<F.fc.l.length):WF ex 12 [.agg (gO F).toArray,.agg (kb H).toArray,Y z] O G (fL G O (YV F H k)):=by
 subst m;exact Xy F H k O G j hH e b hk
theorem LJ(qB:yM)(qV:wR)(cQ:zH)(C:ka)(F:jq)(r:qM)(H:lW)(O:Ht)(G:Nat)(bw:pc O G C)(aI:kB O G F)(hr:xG O G r)(hH:nz O G H)(hlen:C.n_.l.length<=2932031007403)(br:∀(e9:Ht) (e_:Nat),G<=e_->HE G O e9->WF ex 5 [] e9 e_ (fL e_ e9 (gi True))):WF ex 4 [.agg (iT C).toArray,.agg (gO F).toArray,.agg (pz r).toArray,.agg (kb H).toArray] O G (fL G O (gi True)):=by
 refine wd Tryz.f4 100 [.tmp 8] fun hE=>sr<|oB (.agg (iT C).toArray) (iT C) fun jy iI ia=>?_
 refine oB (.agg (gO F).toArray) (gO F) fun c5 a6 bN=>?_
 refine oB (.agg (pz r).toArray) (pz r) fun cV jE bO=>?_
 refine oB (.agg (kb H).toArray) (kb H) fun bR ah bP=>?_
 have aQ:=(((hE.trans iI).trans a6).trans jE).trans ah
 refine oN 1<|WP.seq<|sr<|oD 19 (br bR (G+1+1+1+1) om aQ) fun cY cm bS bU cR W=>?_
 have aR:=aQ.trans W
 have aV:=W.get (ah.get (jE.get (a6.get ia)))
 refine oq 20 (nN cm) fun cZ cn=>WO.nil<|cq cn (fun bG=>?_) (fun bG=>?_)
 ·
  refine sr<|oW 1 ⟨rfl,rfl,[.bool false],U,?_⟩
  simp at bG
 ·
  refine WP.skip<|WP.seq<|sr<|WO.cons (WC.iz G (0) (iT C) U yh wk aV rfl<|oC 22 (ND C bS (bU) (bw.mono aR)) ?_)
  rintro _ a8 bc ⟨⟨av,rfl,cX⟩,cS,X⟩
  have cp:av=true↔(av=true):=gk
  have aS:=aR.trans X
  have aW:=X.get (W.get (ah.get (jE.get bN)))
  refine oq 23 (nN cp) fun S bD=>oX 1<|xY 24 S (.agg (gO F).toArray) (by rintro rfl;exact WC.iz (G+1) (0) (gO F) U pF oJ aW rfl rfl)<|WO.cons (WC.gq (!S) (GI (!S) (Wn F) (bc) a8) (.bool S) (g:=f_ (.tmp 24)) rfl U (by cases S<;>rfl) (fun h=>by obtain rfl:S=false:=(by simpa using h);have cy:¬(¬(av=true)):=(fun k=>absurd ((bD).2 k) (by decide));exact WC.call 26 7 ([.agg (gO F).toArray]) kf ((UM F a8 (bc) (aI.mono aS)).mono fun v e9 e_ ⟨⟨c,aJ,hc⟩,hn,he⟩=>⟨_,_,_,rfl,⟨c,aJ,hc⟩,hn,he⟩)) (fun h=>GI.off h) ?_)
  rintro _ a_ bd ⟨⟨aN,rfl,bf⟩,cT,xN⟩
  have cr:aN=true↔(aN=true):=gk
  have an:=aS.trans xN
  have aX:=xN.get aW
  have aY:=xN.get (X.get (W.get (ah.get bO)))
  have aZ:=xN.get (X.get (W.get bP))
  refine nH 24 S (nN cr) fun c0 ct=>?_
  refine mI 28 (nO bD ct) fun aw cu=>oX 1<|gF 29 aw (pt (G+1+1) 0) ?_
  obtain⟨au,ax,u⟩:=hr.iH.shape
  have cH:=hr.iH.2.2
  refine nS 29 aw (G+1+1) 0 (.slice au (r.iH.l.length) ax) lO aY (by rw[<-u];rfl)<|gF 29 aw (Y (.ofNat (r.iH.l.length))) ?_
  refine nH 29 aw (nQ 20 r.iH.l.length) fun c3 cw=>?_
  refine mI 34 (nO cu cw) fun K bE=>oX 1<|xY 35 K (.agg (gO F).toArray) (by rintro rfl;exact WC.iz (G+1) (0) (gO F) U pF oJ aX rfl rfl)<|xY 35 K (.agg (kb H).toArray) (by rintro rfl;exact WC.iz (G+1+1+1) (0) (kb H) U Bh zy aZ rfl rfl)<|WO.cons (WC.gq (!K) (Wv (!K) (uG F H) (bd) a_) (.bool K) (g:=f_ (.tmp 35)) rfl U (by cases K<;>rfl) (fun h=>by obtain rfl:K=false:=(by simpa using h);have cy:¬(((¬(av=true))\/(¬(aN=true)))\/((20)<((r.iH.l.length:Nat):Int))):=(fun k=>absurd ((bE).2 k) (by decide));exact WC.call 38 10 ([.agg (gO F).toArray,.agg (kb H).toArray]) kf ((TP F H a_ (bd) (aI.mono an) (hH.mono an) (fun r hr=>(((bf) (fu.1 (fun h=>cy (.inl (.inr h))))).each r hr).2.2)).mono fun v e9 e_ ⟨⟨c,aJ,hc⟩,hn,he⟩=>⟨_,_,_,rfl,⟨c,aJ,hc⟩,hn,he⟩)) (fun h=>Wv.off h) ?_)
  rintro _ bT bV ⟨⟨b_,rfl,bt⟩,cU,B⟩
  have A:=an.trans B
  have aA:=B.get aX
  have aB:=B.get aY
  refine nH 35 K (qS b_ 0) fun cL bW=>?_
  refine mI 40 (nO bE bW) fun cM bX=>WO.nil<|cq bX (fun bg=>?_) (fun bg=>?_)
  ·
   refine sr<|oW 1 ⟨rfl,rfl,[.bool true],U,?_⟩
   exact⟨⟨true,rfl,fun _=>trivial,fun _=>rfl⟩,od,A⟩
  ·
   refine WP.skip<|sr ?_
   have cd:=bg
   have ae:uG F H:=(bt).1 (fu.1 fun k=>cd (.inr k))
   have bB:∀r∈F.fc.l,Aq r<=60:=fun r hr=>(((bf) (fu.1 (fun h=>cd (.inl (.inl (.inr h)))))).each r hr).2.2
   refine WO.cons (WC.iz G (0) (iT C) U yh wk (B.get (xN.get (X.get aV))) rfl<|WO.cons (WC.iz (G+1) (0) (gO F) U pF oJ aA rfl<|WO.cons (WC.iz (G+1+1) (0) (pz r) U P0 Oj aB rfl<|oC 45 (VA qB qV cQ C F r bT (bV) (bw.mono A) (aI.mono A) (hr.mono A) hlen bB) ?_)))
   rintro _ bo e ⟨T,z,rfl,ad,bz,cA,L⟩
   refine oX 3<|oA [Y 0,.slice none (0) 0,.bool false] Ol fun cE E bj=>?_
   refine oS e (0) (.agg (tY T).toArray) (tY T) (tY T) nW rfl (fe.2 ⟨rfl,M6 _ ad⟩) bj fun bp aE aC ai=>?_
   have ay:=((A.trans L).trans E).trans aE
   refine oN 1<|WP.seq<|sr<|oX 1 ?_
   refine oq 49 (qS z 0) fun cN bY=>WO.nil<|cq bY (fun aq=>?_) (fun aq=>?_)
   ·
    refine sr<|oX 1 ?_
    obtain⟨bH,bJ,bs⟩:=ad.qK.shape
    have cf:=ad.qK.2.2
    refine oZ e (0+1) (.slice bH (T.qK.l.length) bJ) ox aC (by rw[<-bs];rfl)<|oX 1 ?_
    refine oq 53 (vY T.qK.l.length 0) fun aL bZ=>oW 1 ⟨rfl,rfl,[.bool aL],U,?_⟩
    exact⟨⟨aL,rfl,fun _=>trivial,fun _=>(bZ).2 (by rw[bz.nil aq];rfl)⟩,od,ay⟩
   ·
    refine WP.skip<|sr ?_
    obtain⟨M,bA,ab,bx⟩:=bz.ok0 (fu.1 aq)
    refine oN 1<|sr<|oN 1<|WP.seq<|sr<|oN 1<|WP.block ?_
    refine mu [5,6,7,9,11,12,13] (fun m hs ns vs=>∃(b:Nat) (aK:Int) (o:Bool),b+m=r.iH.l.length/\vs=[pt (G+1) 0,pt (G+1+1) 0,pt (G+1+1+1) 0,pt e 0,Y aK,.bool o,Y (.ofNat b)]/\e+1<=ns/\HE (e+1) bp hs/\(yX F H (M.take b) aK o)) ?_ (r.iH.l.length) ?_
    ·
     rintro cI aj aG _ ⟨b,aK,o,ca,rfl,bn,p,aT⟩ cz
     have y:=ay.trans p
     have af:=p.get ((ai (G+1) om).trans (E.get (L.get aA)))
     have ag:=p.get ((ai (G+1+1) om).trans (E.get (L.get aB)))
     have aD:=p.get aC
     have aH:o=true↔(o=true):=gk
     refine WP.seq<|sr<|oX 2<|oZ (G+1+1) 0 (.slice au (r.iH.l.length) ax) lO ag (by rw[<-u];rfl)<|oX 1 ?_
     refine oq 58 (kT b r.iH.l.length) fun cO b0=>WO.nil<|cq b0 (fun b8=>?_) (fun b8=>?_)
     ·
      refine WP.skip<|WP.seq<|WP.block<|WP.seq<|WP.qZ [⟨[0,1,2,3,4,5],[0,1,2,3,4,5],some 6⟩,⟨[7,8,9],[7,8,9],some 10⟩,⟨[],[9],some 11⟩,⟨[],[],none⟩] U _ rfl<|WD.kZ<|WN.hZ rfl (WC.iz (G+1) (0) (gO F) U pF oJ af rfl<|nv 63 (pt (G+1+1) 0)<|WN.hZ rfl (WC.jW (G+1+1) 0 (.slice au (r.iH.l.length) ax) U lO ag (by rw[<-u];rfl)<|nv 65 (Y (.ofNat b)) ?_))
      have aa:b<r.iH.l.length:=by omega
      refine WN.hZ rfl (WC.iy u hr.iH (b) lP kH (aa) ?_)
      obtain⟨ak,R⟩:=gE aa
      refine WN.hZ rfl (WC.lz (Y ak) u (hr.iH.mono y nR) R rfl fy<|WN.nil ⟨?_,?_⟩)
      ·
       refine co (.agg (gO F).toArray) (kh ex.T aj.get 41 (pt (G+1) 0)) (jV pF oJ af rfl) (Fs F aI)<|cv (pt (G+1+1) 0) (iR ..)<|qk (G+1+1) 0 (.slice au (r.iH.l.length) ax) lO ag (by rw[<-u];rfl) (u▸hr.iH.jA 8)<|ci (.ofNat b)<|y0 u hr.iH (b) lP kH (aa)<|GN (Y ak) u (hr.iH.mono y nR) R rfl fy (iF ..) ?_
       exact jc.nil
      refine WC.at rfl (WC.call 68 11 ([.agg (gO F).toArray,Y ak]) kf ((Nn F (ak) aj (aG) (aI.mono y)).mono ?_))
      rintro _ bq bu ⟨⟨z194,j,rfl,a7⟩,cB,N⟩
      have b3:j=true↔(j=true):=gk
      have az:=y.trans N
      refine WD.kZ<|nv 61 (.tuple ⟨[Y z194,.bool j]⟩)<|nv 69 (Y z194)<|nv 70 (.bool j)<|WN.nil ⟨?_,?_⟩
      ·
       refine cv (.tuple ⟨[Y z194,.bool j]⟩) (PD 7 _ (by intro v aJ;simp only[List.mem_cons,List.not_mem_nil,or_false]at aJ;rcases aJ with rfl|rfl<;>first|exact iF ..|exact iO ..)) ?_
       refine ci (z194)<|cv (.bool j) (iO 8 j) ?_
       exact jc.nil
      refine WC.at rfl (WC.val 14 (Y z194) kf<|WD.kZ<|WN.nil ⟨?_,?_⟩)
      ·
       refine cv (.bool j) (iO 8 j) ?_
       exact jc.nil
      refine WC.at rfl (WC.val 15 (.bool j) kf<|WD.last<|WN.nil ⟨?_,?_⟩)
      ·
       exact jc.nil
      refine sr<|WO.cons (WC.iz (G+1) (0) (gO F) U pF oJ (N.get af) rfl<|WO.cons (WC.iz (G+1+1+1) (0) (kb H) U Bh zy (N.get (p.get ((ai (G+1+1+1) om).trans (E.get (L.get (B.get aZ)))))) rfl ?_))
      obtain⟨k,c6,ck,bQ,bC,cb⟩:=(yG.ug a7).resolve_left (fun h=>Og ab _ (fa R) h.2)
      refine oX 1<|oC 75 (VJ F H (z194) k ck bq (bu) (aI.mono az) (hH.mono az) bB ae (yY bC)) ?_
      rintro _ cF cJ ⟨⟨n,b9,rfl,cc⟩,cC,bk⟩
      have cx:b9=true↔(b9=true):=gk
      refine oN 7<|WP.seq<|sr<|oX 1 ?_
      refine oq 80 (nN b3) fun J b4=>oX 1<|gF 81 J (Y 0)<|gF 81 J (.bool false)<|WO.cons (WC.mq (v:=.bool J) 84 (lu (.bool J) (.bool true) ((bif !J then .bool false else undef))) kf (by cases J<;>rfl) ?_)
      refine WO.nil<|cq b4 (fun bh=>?_) (fun bh=>?_)
      ·
       refine sr<|oW 1 ⟨rfl,rfl,[.bool false],U,?_⟩
       exact absurd bQ bh
      ·
       refine WP.skip<|sr<|oX 2<|gF 86 o (.bool b9) ?_
       obtain⟨cP,aO,b5⟩:=nN cx
       refine Z3 86 o aO ?_
       obtain⟨bK,aP,cW⟩:=nO aH b5
       refine pO 89 aP<|oN 1<|WP.region<|oN 4<|WP.region<|oX 1<|ov 60 (Y (.ofNat (b+1))) ?_ (fun _ _ _=>by rw[<-gQ (show b+1<9223372036854775808 by omega)];kernel_rfl)
       refine oN 1<|⟨r.iH.l.length-(b+1),om,rfl,rfl,b+1,gy .i64 ((aK)+(n)),bK,om,U,?_,?_,?_⟩
       · exact od
       · exact((p.trans N bn).trans bk)
       · rw[List.take_add_one,Xz ab R cb,Option.toList_some,aP,aO];exact aT.snoc bC cc
     ·
      refine WP.exit<|WP.seq<|sr<|oN 1<|cq aH (fun ar=>?_) (fun ar=>?_)
      ·
       refine sr<|oX 1 ?_
       obtain⟨al,bM,b6⟩:=@nb (T.j2) (T.j2=true) (by first|done|exact gk)
       refine oZ e (0+2) (.bool al) xp aD (by rw[bM];rfl)<|oW 1 ⟨rfl,rfl,[.bool al],U,?_⟩
       have aU:M.take b=M:=fJ (by have h1:=congrArg List.length ab;rw[List.length_map,List.length_map]at h1;omega)
       rw[aU]at aT
       have ao:=Ld ae bA ab bx aT
       exact⟨⟨al,rfl,fun _=>trivial,fun _=>(b6).2 (ao.1 ar)⟩,od,y⟩
      ·
       refine WP.skip<|sr<|oX 1 ?_
       obtain⟨bI,bL,aF⟩:=ad.qK.shape
       have cj:=ad.qK.2.2
       refine oZ e (0+1) (.slice bI (T.qK.l.length) bL) ox aD (by rw[<-aF];rfl)<|oX 1<|WO.cons (WC.call 99 13 ([T.qK.v,Y aK]) (fun _ _ _=>by(try rw[aF]);kernel_rfl) ((TK T.qK (aK) aj (aG) (ad.qK.mono ((((HE.refl (e) bo).trans E).trans aE).trans p))).mono ?_))
       rintro _ cG cK ⟨⟨aM,rfl,b7⟩,cD,bl⟩
       refine oW 1 ⟨rfl,rfl,[.bool aM],U,?_⟩
       have aU:M.take b=M:=fJ (by have h1:=congrArg List.length ab;rw[List.length_map,List.length_map]at h1;omega)
       rw[aU]at aT
       have ao:=Ld ae bA ab bx aT
       exact⟨⟨aM,rfl,fun _=>trivial,fun _=>(b7).2 (ao.2 (gz.2 ar))⟩,od,(y.trans bl)⟩
    ·
     exact⟨0,0,false,om,U,fg _,HE.refl _ _,.nil⟩
end
end Sw
namespace Sw
noncomputable section
open Go Go.RowKit
section
variable {P:Program}{O:Ht}{G:Nat}
theorem Rp.Kq{k:Nat}{t:TypeId}{j:List Value}{ts:List TypeId}(hu:B9 P t=some ts)(h:Rp P O G k t j):∃n lss,k=n+1/\j=lss.flatten/\wO P O G n ts lss:=by
 cases k with
 |zero=>exact h.elim
 |succ n=>
  unfold B9 at hu
  unfold Rp at h
  split at hu
  · rename_i fs e
    cases hu
    rw[e]at h
    obtain⟨lss,h1,D,h3⟩:=h
    refine⟨n,lss,rfl,h1,wO.of _ _ (by simpa using D) fun i t l a b=>?_⟩
    rw[List.getElem?_map,Array.getElem?_toList,Option.map_eq_some_iff]at a
    obtain⟨f,hf,rfl⟩:=a
    exact(h3 i f l hf b).1
  · cases hu
theorem Rp.Dv{α:Type}{enc:α->List Value}{m:Nat}{E:Nat->α->Prop}{k:Nat}{t e:TypeId}{y:List Value}(hu:P.underlying t=some (.slice e))(hlen:∀x,(enc x).length=m)(he:∀j,k=j+1->∀l,Rp P O G j e l->∃x:α,l=enc x/\E j x)(h:Rp P O G k t y):
 ∃(j:Nat) (s:SV α),k=j+1/\y=[s.v]/\gB enc m O G s/\(∀x∈s.l,E j x)/\s.l.length*P.bytesOf e<=reachBytes:=by
 cases k with
 |zero=>exact h.elim
 |succ n=>
  unfold Rp at h;rw[hu]at h
  rcases h with rfl|rfl|⟨b,len,cap,lss,rfl,h0,p,o,hb,z,hl,hr⟩
  · exact⟨n,⟨_,[]⟩,rfl,rfl,⟨fun x h=>(by cases h),.inl ⟨rfl,.inl rfl⟩,by show(0:Nat)<_;decide⟩,fun x h=>(by cases h),by show(0:Nat)*_<=_;rw[Nat.zero_mul];exact gI _⟩
  · exact⟨n,⟨_,[]⟩,rfl,rfl,⟨fun x h=>(by cases h),.inl ⟨rfl,.inr ⟨0,rfl⟩⟩,by show(0:Nat)<_;decide⟩,fun x h=>(by cases h),by show(0:Nat)*_<=_;rw[Nat.zero_mul];exact gI _⟩
  · obtain⟨xs,rfl,u⟩:=Hx lss fun l hl=>he n rfl l (hr l hl).1
    rw[List.length_map]at hl
    refine⟨n,⟨_,xs⟩,rfl,rfl,⟨fun x _=>hlen x,.inr ⟨b,cap,_,by rw[<-hl],h0,hb,by rw[z,List.flatMap_def],by show xs.length<=cap;omega,.inl rfl⟩,?_⟩,u,?_⟩
    · have:reachBytes<281474976710656:=by decide
      have:=o.1
      show xs.length<_
      omega
    · show xs.length*_<=_
      rw[hl]
      exact ff (gJ _ p) o.2
end
theorem tM.up:∀{n:Nat} {O:Ht} {G:Nat} {c:RCond},tM n O G c->tM (n+1) O G c
 |0,_,_,_,h=>h.elim
 |_+1,_,_,_,h=>⟨⟨h.1.1,fun x hx=>(h.1.2 x hx).up⟩,h.2⟩
theorem q9.up:∀{n:Nat} {O:Ht} {G:Nat} {c:RStep},q9 n O G c->q9 (n+1) O G c
 |0,_,_,_,h=>h.elim
 |_+1,_,_,_,h=>⟨h.1,⟨h.2.1.1,fun x hx=>(h.2.1.2 x hx).up⟩,⟨h.2.2.1.1,fun x hx=>(h.2.2.1.2 x hx).up⟩,h.2.2.2⟩
end
end Sw
namespace Sw
noncomputable section
open Go Go.Proofs Go.RowKit
set_option maxRecDepth 100000
theorem ZB:yM:=fun O G=>.Yc (ng:=12) (o6:=[AW]) (by kernel_rfl) (show zD 12 [AW] [] O G=some (.agg FH.toArray,O,G)by kernel_rfl) ⟨rfl,fg _,HE.refl _ _⟩
theorem YX:wR:=fun a b O G h=>by
 have hK:ex.K 348=some Gb:=by kernel_rfl
 refine⟨.bool (Lib.contains (strs a) (strs b)),O,G,⟨0,fun n _ Z k=>?_⟩,⟨_,rfl,gk⟩,fg _,HE.refl _ _⟩
 simp only[nC,hK,Gb,mN.2 h,cond_true]
theorem YY:zH:=UG (by kernel_rfl)
end
end Sw
