/- A part of the proof that the law returns true for every input that its row speaks of. No condition is added. -/
import Derived.Test.YtecbgehgkpgbmaaGreatDoorSwAM
import Derived.Test.YtecbgehgkpgbmaaGreatDoorSwAG
import Derived.Test.YtecbgehgkpgbmaaGreatDoorSwAF
import Derived.Test.YtecbgehgkpgbmaaGreatDoorSwAJ
namespace Sw
noncomputable section
open Go Go.Proofs Go.RowKit
set_option maxRecDepth 100000
set_option maxHeartbeats 16000000
structure zt where
 fF:ji
 fH:lN
instance :Inhabited zt:=⟨⟨default,default⟩⟩
def o6(x:zt):List Value:=[x.fF.fq.fp.v,x.fF.fq.gz.v,x.fF.gb.v,x.fF.e6.v,Y x.fH.ig,x.fH.gB.v,x.fH.fZ.v]
structure th(O:Ht)(G:Nat)(x:zt):Prop where
 fF:km O G x.fF
 fH:nc O G x.fH
theorem th.mono{O eZ:Ht}{G e5:Nat}{x:zt}(h:th O G x)(he:HE G O eZ)(hn:G<=e5:=by omega):th eZ e5 x:=
 ⟨h.fF.mono he hn,h.fH.mono he hn⟩
theorem OV{O:Ht}{G:Nat}(x:zt)(h:th O G x):lg 8 (.agg (o6 x).toArray) (.agg (o6 x).toArray)=true:=(wv 7 _ (by intro v b;have b:v∈o6 x:=b;simp only[o6,List.mem_cons,List.not_mem_nil,or_false]at b;rcases b with rfl|rfl|rfl|rfl|rfl|rfl|rfl<;>first|exact iz ..|exact iH ..|exact ww ..|exact h.fF.fq.fp.js 7|exact h.fF.fq.gz.1.js 7|exact h.fF.gb.js 7|exact h.fF.e6.1.js 7|exact h.fH.gB.js 7|exact h.fH.fZ.js 7))
theorem yJ{α:Type}{l:List α}{i:Nat}{x:α}(h:l[i]?=some x):i<l.length:=(fe.1 h).1
theorem nat_eq{z:Int}(h:0<=z):z=.ofNat z.toNat:=(gI h).symm
def Yx(K:j8)(L:List Int)(i j:Nat):Prop:=∀(r:SV Int) (w a b:Int),K.gz.l[i]?=some r->r.l[j]?=some w->((0:Int)::L)[i]?=some a->((0:Int)::L)[j]?=some b->¬(w<gn .i64 (b-a))
theorem mN:ex.T.agg 130=some true:=U
theorem AY:ex.T.agg 56=some false:=U
theorem j1:ex.T.size 130=some 7:=U
theorem vV:ex.T.size 198=some 2:=U
theorem Db:ex.T.jh 56=some (.slice 198):=U
theorem Yy(s:fL)(t:Int)(e:Nat)(O:Ht)(G:Nat)(u:O.get e=some (.cells [Y t] gi.plain))(m:e<G):WF ex 39 [.agg (fc s).toArray,pt e 0] O G (fG G O (ga (s.g_<=t/\t<=s.gU))):=by
 refine wd Tryz.f39 14 [.tmp 3] fun hE=>sr<|oB (.agg (fc s).toArray) (fc s) fun jq iC hU=>?_
 have j:=iC.get u m
 refine oN 1<|sr<|oX 1<|oZ G 0 (Y s.g_) ft hU rfl<|oZ e (0) (Y t) ft j rfl ?_
 refine oq 7 (pF s.g_ t) fun b o=>oX 1<|lu 8 b e (0) (Y t) ft j rfl<|gT 8 b (pt G (0+1))<|lu 8 b G (0+1) (Y s.gU) ft hU rfl ?_
 refine qu 8 b (pF t s.gU) fun y p=>?_
 refine mT 13 (nA o p) fun nM rN=>oW 1 ⟨rfl,rfl,[.bool nM],U,?_⟩
 refine⟨⟨nM,rfl,?_⟩,od,(hE.trans iC)⟩
 exact rN
theorem Tl(L:SV fL)(t:Int)(O:Ht)(G:Nat)(b:gx fc 2 O G L):WF ex 13 [L.v,Y t] O G (fG G O (ga (mj L.l t))):=by
 obtain⟨a1,c2,hR⟩:=b.shape
 have lU:=b.2.2
 rw[hR]
 refine wd Tryz.f13 8 [.tmp 4] fun hE=>sr<|oB (Y t) [Y t] fun zE pC uo=>?_
 have Am:=hE.trans pC
 refine oN 1<|sr<|oX 2<|WO.cons (WC.call 7 38 ([L.v,.func (.func 39) #[] #[pt G 0]]) (fun _ _ _=>by(try rw[hR]);kernel_rfl) ((Al (A:=fun s=>s.g_<=t/\t<=s.gU) L 39 #[pt G 0] zE (G+1) (b.mono Am) (fun i x hx eZ e5 hn he=>Yy x t G eZ e5 (he.get uo) om)).mono ?_))
 rintro _ y9 vl ⟨⟨rO,rfl,uW⟩,JN,xz⟩
 refine oW 1 ⟨rfl,rfl,[.bool rO],U,?_⟩
 refine⟨⟨rO,rfl,?_⟩,od,(Am.trans xz)⟩
 exact uW
theorem Tn(x:ic)(w p:Nat)(O:Ht)(G:Nat)(hx:mf O G x)(F:O.get p=some (.cells [Y (.ofNat w)] gi.plain))(E:p<G)(hw:w<x.fQ.l.length):WF ex 123 [.agg (iV x).toArray,pt p 0] O G (fG G O (ga (AX w x))):=by
 refine wd Tryz.f123 11 [.tmp 3] fun hE=>sr<|oB (.agg (iV x).toArray) (iV x) fun jq iC hU=>?_
 have kW:=hE.trans iC
 refine oN 1<|sr<|oX 1 ?_
 obtain⟨z,B,e⟩:=hx.fQ.1.shape
 have M:=hx.fQ.1.2.2
 refine oZ G (0+2) (.slice z (x.fQ.l.length) B) ql hU (by rw[<-e];rfl)<|oZ p (0) (Y (.ofNat w)) ft (iC.get F E) rfl ?_
 have j:w<x.fQ.l.length:=by omega
 refine WO.cons (WC.iy e hx.fQ.1 (w) tT sv (j) ?_)
 obtain⟨m,b⟩:=gE j
 obtain⟨A,C,y⟩:=(hx.fQ.2 m (cs b)).shape
 have N:=(hx.fQ.2 m (cs b)).2.2
 refine WO.cons (WC.lz (.slice A (m.l.length) C) e (hx.fQ.1.mono kW nR) b (by rw[<-y];rfl) tR<|oX 1 ?_)
 refine oq 10 (vK m.l.length 0) fun u L=>oW 1 ⟨rfl,rfl,[.bool u],U,?_⟩
 refine⟨⟨u,rfl,?_⟩,od,kW⟩
 rw[L]
 have K:=b
 exact⟨fun k o J=>by rw[K]at J;cases J;exact fP om,fun k=>by rw[k _ K];rfl⟩
theorem Vk(F:ji)(w:Nat)(O:Ht)(G:Nat)(m:km O G F)(hw:∀x∈F.e6.l,w<x.fQ.l.length):WF ex 70 [.agg (gK F).toArray,Y (.ofNat w)] O G (fG G O (ga (q_ F w))):=by
 refine wd Tryz.f70 10 [.tmp 4] fun hE=>sr<|oB (.agg (gK F).toArray) (gK F) fun jq iC hU=>?_
 refine oB (Y (.ofNat w)) [Y (.ofNat w)] fun z e p=>?_
 have b:=(hE.trans iC).trans e
 refine oN 1<|sr<|oX 1 ?_
 obtain⟨a17,y,j⟩:=m.e6.1.shape
 have C:=m.e6.1.2.2
 refine oZ G (0+3) (.slice a17 (F.e6.l.length) y) nX (e.get hU) (by rw[<-j];rfl)<|oX 1<|WO.cons (WC.call 8 61 ([F.e6.v,.func (.func 123) #[] #[pt (G+1) 0]]) (fun _ _ _=>by(try rw[j]);kernel_rfl) ((xu (A:=fun x=>AX w x) F.e6 123 #[pt (G+1) 0] z (G+1+1) (m.e6.mono (fun _ h he hn=>h.mono he hn) b) (fun i x hx eZ e5 hn he=>Tn x w (G+1) eZ e5 ((m.e6.2 x (cs hx)).mono (b.trans he)) (he.get p) om (hw x (cs hx)))).mono ?_))
 rintro _ J K ⟨⟨ux,rfl,ul⟩,E,u⟩
 refine oq 9 (nN ul) fun o B=>oW 1 ⟨rfl,rfl,[.bool o],U,?_⟩
 refine⟨⟨o,rfl,?_⟩,od,(b.trans u)⟩
 exact B.trans IC
theorem To(F:ji)(z:Int)(O:Ht)(G:Nat)(b:km O G F)(e:0<=z)(hw:∀x∈F.e6.l,z.toNat<x.fQ.l.length):WF ex 70 [.agg (gK F).toArray,Y z] O G (fG G O (ga (q_ F z.toNat))):=by
 have:=Vk F z.toNat O G b hw
 rwa[<-nat_eq e]at this
theorem Tp(n:Int)(O:Ht)(G:Nat):WF ex 124 [Y n] O G (fG G O (ga (n< -2199023255552\/2199023255552<n))):=by
 refine wd Tryz.f124 9 [.tmp 2] fun hE=>sr<|oN 1<|sr<|oX 1 ?_
 refine oq 4 (mr n (-2199023255552)) fun c1 p1=>oX 1<|gF 5 c1 (Y n) ?_
 refine nm 5 c1 (mr 2199023255552 n) fun c2 e=>?_
 refine mz 8 (nO p1 e) fun b j=>oW 1 ⟨rfl,rfl,[.bool b],U,?_⟩
 refine⟨⟨b,rfl,?_⟩,nR,hE⟩
 exact j
theorem Q_(K:j8)(L:SV Int)(O:Ht)(G:Nat)(hK:nZ O G K)(aG:gx encI 1 O G L)(hc:tQ K)(bj:L.l.length=K.fp.l.length):WF ex 71 [.agg (jc K).toArray,L.v] O G (fG G O (ga (I1 K L.l))):=by
 obtain⟨a1,c2,hR⟩:=aG.shape
 have lU:=aG.2.2
 rw[hR]
 refine wd Tryz.f71 43 [.tmp 4] fun hE=>?_
 have a6:=hc.X5
 refine sr<|oB (.agg (jc K).toArray) (jc K) fun zE pC uo=>?_
 refine oN 1<|sr<|oL [Y 0] fun y9 wR aI=>?_
 have an:=(hE.trans pC).trans wR
 refine oX 1 ?_
 obtain⟨inf,pq,vu⟩:=J3
 refine WO.cons (WC.Tk (enc:=encI) (w:=.slice a1 (L.l.length) c2) [(0:Int)] L.l rfl U U aI rfl om lG kp AV pq (NQ rfl) ((aG.mono an nR).src hR) rfl (fun _ _=>rfl) (DT _) (by decide) (by rw[vu];simp;omega) om (by simp;omega) rfl ?_)
 rintro J aE aF ag bk aC p
 have av:=HE.refl (aF) aE
 have bh:J.l.length=L.l.length+1:=by rw[ag];simp
 obtain⟨a26,F,y⟩:=p.shape
 have aU:=p.2.2
 rw[y]
 have aq:J.l=(0:Int)::L.l:=ag
 refine oN 1<|WP.seq<|sr<|oX 1<|WO.cons (WC.call 14 108 ([J.v,.func (.func 124) #[] #[]]) (fun _ _ _=>by(try rw[y]);kernel_rfl) ((xp (A:=fun n=>n< -2199023255552\/2199023255552<n) J 124 #[] aE (aF) (p.mono av) (fun i x hx eZ e5 hn he=>Tp x eZ e5)).mono ?_))
 rintro _ aL aw ⟨⟨be,rfl,aM⟩,a7,ab⟩
 have ao:=(an.trans aC).trans ab
 refine WO.nil<|cq aM (fun ax=>?_) (fun ax=>?_)
 ·
  refine sr<|oW 1 ⟨rfl,rfl,[.bool false],U,?_⟩
  refine⟨⟨false,rfl,⟨fun h=>(by cases h),fun ar=>False.elim ?_⟩⟩,od,ao⟩
  obtain⟨o,az,hk⟩:=ax
  rw[ag]at az
  exact ar.1 o az hk
 ·
  refine WP.skip<|WP.seq<|sr<|oX 1 ?_
  obtain⟨ak,al,ad⟩:=hK.gz.1.shape
  have aV:=hK.gz.1.2.2
  refine oZ G (0+1) (.slice ak (K.gz.l.length) al) sF (ab.get (aC.get (wR.get uo))) (by rw[<-ad];rfl)<|oN 2<|WP.block ?_
  refine mg [5,16,17,18] (fun m hs ns vs=>∃(e:Nat),e+m=K.gz.l.length/\vs=[.slice a26 (J.l.length) F,.slice ak (K.gz.l.length) al,Y (.ofNat (K.gz.l.length)),Y (.ofNat e)]/\aw<=ns/\HE (aw) aL hs/\(∀a:Nat,a<e->∀b,Yx K L.l a b)) ?_ (K.gz.l.length) ?_
  ·
   rintro a_ pH oK _ ⟨e,aS,rfl,aJ,ac,au⟩ aX
   have aa:=ao.trans ac
   have aZ:=hc.V0
   refine sr ?_
   refine oq 19 (kL e K.gz.l.length) fun bf aN=>WO.nil<|WP.seq<|cq aN (fun aQ=>?_) (fun aQ=>?_)
   ·
    refine WP.skip<|WP.seq<|WP.block<|sr<|oX 1 ?_
    have ah:e<K.gz.l.length:=by omega
    refine WO.cons (WC.iy ad hK.gz.1 (e) u_ tS (ah) ?_)
    obtain⟨B,z⟩:=gE ah
    obtain⟨a64,aA,ae⟩:=(hK.gz.2 B (cs z)).shape
    have aW:=(hK.gz.2 B (cs z)).2.2
    refine WO.cons (WC.lz (.slice a64 (B.l.length) aA) ad (hK.gz.1.mono aa nR) z (by rw[<-ae];rfl) lF<|oN 2<|sr<|oN 3<|WP.block ?_)
    have bl:=(hc.row _ _ z).1
    refine mg [5,6,16,17,18,23,24,25] (fun m hs ns vs=>∃(j:Nat),j+m=B.l.length/\vs=[.slice a26 (J.l.length) F,Y (.ofNat e),.slice ak (K.gz.l.length) al,Y (.ofNat (K.gz.l.length)),Y (.ofNat e),.slice a64 (B.l.length) aA,Y (.ofNat (B.l.length)),Y (.ofNat j)]/\oK<=ns/\HE (oK) pH hs/\(∀b:Nat,b<j->Yx K L.l e b)) ?_ (B.l.length) ?_
    ·
     rintro bc a8 bd _ ⟨j,aT,rfl,aK,M,aD⟩ aY
     have ap:=aa.trans M
     have S:=((av.trans ab).trans ac).trans M
     refine sr ?_
     refine oq 26 (kL j B.l.length) fun bg aO=>WO.nil<|WP.seq<|cq aO (fun aR=>?_) (fun aR=>?_)
     ·
      refine WP.skip<|WP.seq<|WP.block<|sr<|oX 1 ?_
      have ai:j<B.l.length:=by omega
      refine WO.cons (WC.iy ae (hK.gz.2 B (cs z)) (j) lG kp (ai) ?_)
      obtain⟨aj,af⟩:=gE ai
      refine WO.cons (WC.lz (Y aj) ae ((hK.gz.2 B (cs z)).mono ap nR) af rfl ft<|oN 2<|WP.seq<|WP.qN [⟨[0,1,2,3,4,5,6,7,8,9,10],[0,1,2,3,4,5,6,7,8,9,10],none⟩] U _ rfl<|WD.last<|nv 30 (.slice a26 (J.l.length) F)<|nv 31 (Y (.ofNat j)) ?_)
      have N:j<J.l.length:=by omega
      refine WN.hQ rfl (WC.iy y p (j) lG kp (N) ?_)
      obtain⟨W,C⟩:=gE N
      refine WN.hQ rfl (WC.lz (Y W) y (p.mono S nR) C rfl ft<|nv 34 (.slice a26 (J.l.length) F)<|nv 35 (Y (.ofNat e)) ?_)
      have R:e<J.l.length:=by omega
      refine WN.hQ rfl (WC.iy y p (e) lG kp (R) ?_)
      obtain⟨X,E⟩:=gE R
      refine WN.hQ rfl (WC.lz (Y X) y (p.mono S nR) E rfl ft<|nv 38 (Y (gn .i64 ((W)-(X))))<|nv 39 (Y aj) ?_)
      obtain⟨am,aB,aP⟩:=mr aj (gn .i64 ((W)-(X)))
      refine nv 40 (.bool am) ?_ (fun _ _ _=>by subst aB;kernel_rfl)
      refine WN.nil ⟨?_,?_⟩
      ·
       refine cv (.slice a26 (J.l.length) F) (y▸p.js 8)<|ci (.ofNat j)<|yL y p (j) lG kp (N)<|Gs (Y W) y (p.mono S nR) C rfl ft (iz ..)<|cv (.slice a26 (J.l.length) F) (y▸p.js 8)<|ci (.ofNat e)<|yL y p (e) lG kp (R)<|Gs (Y X) y (p.mono S nR) E rfl ft (iz ..)<|ci (gn .i64 ((W)-(X)))<|ci (aj)<|cv (.bool am) (iH 8 am) ?_ (fun _=>by subst aB;kernel_rfl)
       exact iX.nil
      refine cq aP (fun ay=>?_) (fun ay=>?_)
      ·
       refine sr<|oW 1 ⟨rfl,rfl,[.bool false],U,?_⟩
       refine⟨⟨false,rfl,⟨fun h=>(by cases h),fun ar=>False.elim ?_⟩⟩,od,ap⟩
       rw[aq]at E C
       exact ar.2 e j _ _ _ _ z af E C ay
      ·
       refine WP.skip<|WP.region<|ov 41 (Y (.ofNat (j+1))) ?_ (fun _ _ _=>by rw[<-gM (show j+1<9223372036854775808 by omega)];kernel_rfl)
       refine oN 1<|⟨B.l.length-(j+1),om,rfl,rfl,j+1,om,U,?_,?_,?_⟩
       · exact aK
       · exact M
       · intro b hb
         rcases fo.1 hb with hb|rfl
         · exact aD b hb
         · intro r w u v h1 D h3 h4
           rw[z]at h1;cases h1
           rw[af]at D;cases D
           rw[<-aq]at h3 h4
           rw[E]at h3;cases h3
           rw[C]at h4;cases h4
           exact ay
     ·
      refine WP.exit<|WP.region<|ov 42 (Y (.ofNat (e+1))) ?_ (fun _ _ _=>by rw[<-gM (show e+1<9223372036854775808 by omega)];kernel_rfl)
      refine oN 1<|⟨K.gz.l.length-(e+1),om,rfl,rfl,e+1,om,U,?_,?_,?_⟩
      · exact od
      · exact(ac.trans M aJ)
      · intro a aH b
        rcases fo.1 aH with aH|rfl
        · exact au a aH b
        · intro r w u v h1 D h3 h4
          rw[z]at h1;cases h1
          exact aD b (by have:=yJ D;omega) _ w u v z D h3 h4
    ·
     exact⟨0,om,U,e9 _,HE.refl _ _,(fun _ h=>absurd h (fz _))⟩
   ·
    refine WP.exit<|sr<|oW 1 ⟨rfl,rfl,[.bool true],U,?_⟩
    refine⟨⟨true,rfl,⟨fun _=>?_,fun _=>rfl⟩⟩,od,aa⟩
    exact⟨fun o az hk=>ax ⟨o,by rw[ag];exact az,hk⟩,fun a b r w u v h1=>au a (by have:=(fe.1 h1).1;omega) b r w u v h1⟩
  ·
   exact⟨0,om,U,e9 _,HE.refl _ _,(fun _ h=>absurd h (fz _))⟩
theorem GA(V:zt)(k w:Nat)(x:ic)(o:SV ja)(y:Value)(O:Ht)(G:Nat)(b:th O G V)(hk:V.fF.e6.l[k]?=some x)(hw:V.fH.ig=.ofNat w)(C:x.fQ.l[w]?=some o)(hy:o.v=y):WF ex 72 [.agg (o6 V).toArray,Y (.ofNat k)] O G (fG G O (wx y)):=by
 refine wd Tryz.f72 17 [.tmp 4] fun hE=>?_
 have L:=yJ hk
 have M:=yJ C
 refine sr<|oB (.agg (o6 V).toArray) (o6 V) fun jq iC hU=>?_
 have kW:=hE.trans iC
 refine oN 1<|WP.seq<|WP.qN [⟨[0,1,2,3,4,5,6,7,8,9,10,11],[0,1,2,3,4,5,6,7,8,9,10,11],some 12⟩,⟨[],[],none⟩] U _ rfl<|WD.kQ<|nv 5 (pt G 0)<|nv 6 (pt G (0+0+3)) ?_
 obtain⟨B,E,e⟩:=b.fF.e6.1.shape
 have F:=b.fF.e6.1.2.2
 refine WN.hQ rfl (WC.jP G (0+0+3) (.slice B (V.fF.e6.l.length) E) U nX hU (by rw[<-e];rfl)<|nv 8 (Y (.ofNat k)) ?_)
 have m:k<V.fF.e6.l.length:=by omega
 refine WN.hQ rfl (WC.iy e b.fF.e6.1 (k) uh mJ (m)<|nv 10 (pt (fW B) (0+(k)*3+2)) ?_)
 obtain⟨a12,nu,j⟩:=(b.fF.e6.2 x (cs hk)).fQ.1.shape
 have J:=(b.fF.e6.2 x (cs hk)).fQ.1.2.2
 refine WN.hQ rfl (WC.sb (fW B) (0+(k)*3+2) (.slice a12 (x.fQ.l.length) nu) U ql ((b.fF.e6.1.mono kW nR).pd e (zl m)) (nj (b.fF.e6.1.mono kW nR).1 hk (by decide) (by rw[<-j];rfl))<|nv 12 (pt G (0+4))<|nv 13 (pt G (0+4+0))<|WN.hQ rfl (WC.jP G (0+4+0) (Y (.ofNat w)) U ft hU (by rw[<-hw];rfl) ?_))
 have A:w<x.fQ.l.length:=by omega
 refine WN.hQ rfl (WC.iy j ((b.fF.e6.2 x (cs hk)).fQ.1) (w) tT sv (A) ?_)
 obtain⟨u,z,p⟩:=((b.fF.e6.2 x (cs hk)).fQ.2 o (cs C)).shape
 have K:=((b.fF.e6.2 x (cs hk)).fQ.2 o (cs C)).2.2
 refine WN.hQ rfl (WC.lz (.slice u (o.l.length) z) j ((b.fF.e6.2 x (cs hk)).fQ.1.mono kW nR) C (by rw[<-p];rfl) tR<|WN.nil ⟨?_,?_⟩)
 ·
  refine cv (pt G 0) (iK ..)<|cv (pt G (0+0+3)) (iK ..)<|p7 G (0+0+3) (.slice B (V.fF.e6.l.length) E) nX hU (by rw[<-e];rfl) (e▸b.fF.e6.1.js 8)<|ci (.ofNat k)<|yL e b.fF.e6.1 (k) uh mJ (m)<|cv (pt (fW B) (0+(k)*3+2)) (iK ..)<|co (.slice a12 (x.fQ.l.length) nu) (j9 ex.T jq.get 114 (pt (fW B) (0+(k)*3+2))) (tx ql ((b.fF.e6.1.mono kW nR).pd e (zl m)) (nj (b.fF.e6.1.mono kW nR).1 hk (by decide) (by rw[<-j];rfl))) (j▸(b.fF.e6.2 x (cs hk)).fQ.1.js 8)<|cv (pt G (0+4)) (iK ..)<|cv (pt G (0+4+0)) (iK ..)<|p7 G (0+4+0) (Y (.ofNat w)) ft hU (by rw[<-hw];rfl) (iz ..)<|yL j ((b.fF.e6.2 x (cs hk)).fQ.1) (w) tT sv (A)<|Gs (.slice u (o.l.length) z) j ((b.fF.e6.2 x (cs hk)).fQ.1.mono kW nR) C (by rw[<-p];rfl) tR (p▸((b.fF.e6.2 x (cs hk)).fQ.2 o (cs C)).js 8) ?_
  exact iX.nil
 refine WC.at rfl (WC.val 4 (.slice u (o.l.length) z) kf<|WD.last<|WN.nil ⟨?_,?_⟩)
 ·
  exact iX.nil
 refine WP.ret ⟨rfl,rfl,[.slice u (o.l.length) z],U,?_⟩
 exact⟨p.symm.trans hy,od,kW⟩
theorem I2(V:zt)(k w j:Nat)(x:ic)(c:sE)(o:SV ja)(e:ja)(O:Ht)(G:Nat)(m:th O G V)(hk:V.fF.e6.l[k]?=some x)(hc:V.fH.fZ.l[k]?=some c)(hw:V.fH.ig=.ofNat w)(C:x.fQ.l[w]?=some o)(hj:c.mA=.ofNat j)(he:o.l[j]?=some e):WF ex 73 [.agg (o6 V).toArray,Y (.ofNat k)] O G (fG G O (wx (.agg (gP e).toArray))):=by
 refine wd Tryz.f73 17 [.cell 4 153] fun hE=>?_
 have ah:=yJ hk
 have af:=yJ hc
 have ag:=yJ he
 refine sr<|oB (.agg (o6 V).toArray) (o6 V) fun jq iC hU=>?_
 refine oA [.bool false,Y 0,Y 0,Y 0] uw fun L J N=>?_
 have u:=(hE.trans iC).trans J
 have y:=J.get hU
 refine WO.nil<|WP.seq<|WP.qN [⟨[0,1,3,4,5,6,7,8,9],[0,1,3,4,5,6,7,8,9],some 2⟩,⟨[10,11],[3,4,5,6,7,8,9,10,11],some 12⟩,⟨[],[],none⟩] U _ rfl<|WD.kQ<|WN.hQ rfl (WC.im G (0) (o6 V) U mN j1 y rfl<|nv 6 (Y (.ofNat k))<|nv 8 (pt G (0+4))<|nv 9 (pt G (0+4+2)) ?_)
 obtain⟨a17,F,b⟩:=m.fH.fZ.shape
 have W:=m.fH.fZ.2.2
 refine WN.hQ rfl (WC.jP G (0+4+2) (.slice a17 (V.fH.fZ.l.length) F) U AY y (by rw[<-b];rfl)<|nv 11 (Y (.ofNat k)) ?_)
 have p:k<V.fH.fZ.l.length:=by omega
 refine WN.hQ rfl (WC.iy b m.fH.fZ (k) Db vV (p)<|nv 13 (pt (fW a17) (0+(k)*2+0))<|WN.hQ rfl (WC.sb (fW a17) (0+(k)*2+0) (Y (.ofNat j)) U ft ((m.fH.fZ.mono u nR).pd b (zl p)) (nj (m.fH.fZ.mono u nR).1 hc (by decide) (by rw[<-hj];rfl))<|WN.nil ⟨?_,?_⟩))
 ·
  refine co (.agg (o6 V).toArray) (j9 ex.T L.get 130 (pt G 0)) (jO mN j1 y rfl) (OV V m)<|ci (.ofNat k)<|cv (pt G (0+4)) (iK ..)<|cv (pt G (0+4+2)) (iK ..)<|p7 G (0+4+2) (.slice a17 (V.fH.fZ.l.length) F) AY y (by rw[<-b];rfl) (b▸m.fH.fZ.js 8)<|ci (.ofNat k)<|yL b m.fH.fZ (k) Db vV (p)<|cv (pt (fW a17) (0+(k)*2+0)) (iK ..)<|co (Y (.ofNat j)) (j9 ex.T L.get 3 (pt (fW a17) (0+(k)*2+0))) (tx ft ((m.fH.fZ.mono u nR).pd b (zl p)) (nj (m.fH.fZ.mono u nR).1 hc (by decide) (by rw[<-hj];rfl))) (iz ..) ?_
  exact iX.nil
 obtain⟨a21,ae,z⟩:=((m.fF.e6.2 x (cs hk)).fQ.2 o (cs C)).shape
 have X:=((m.fF.e6.2 x (cs hk)).fQ.2 o (cs C)).2.2
 refine WC.at rfl (WC.call 7 72 ([.agg (o6 V).toArray,Y (.ofNat k)]) kf ((GA V k w x o _ L (G+1+1) (m.mono u) hk hw C z).mono ?_))
 rintro _ K ad ⟨rfl,aa,B⟩
 have A:=u.trans B
 refine WD.kQ ?_
 have E:j<o.l.length:=by omega
 refine WN.hQ rfl (WC.iy z ((m.fF.e6.2 x (cs hk)).fQ.2 o (cs C)) (j) y8 li (E)<|WN.hQ rfl (WC.ly z (((m.fF.e6.2 x (cs hk)).fQ.2 o (cs C)).mono A nR) he rZ li<|WN.nil ⟨?_,?_⟩))
 ·
  refine cv (pt G (0+4)) (iK ..)<|cv (pt G (0+4+2)) (iK ..)<|p7 G (0+4+2) (.slice a17 (V.fH.fZ.l.length) F) AY (B.get y) (by rw[<-b];rfl) (b▸m.fH.fZ.js 8)<|ci (.ofNat k)<|yL b m.fH.fZ (k) Db vV (p)<|cv (pt (fW a17) (0+(k)*2+0)) (iK ..)<|co (Y (.ofNat j)) (j9 ex.T K.get 3 (pt (fW a17) (0+(k)*2+0))) (tx ft ((m.fH.fZ.mono A nR).pd b (zl p)) (nj (m.fH.fZ.mono u nR).1 hc (by decide) (by rw[<-hj];rfl))) (iz ..)<|yL z ((m.fF.e6.2 x (cs hk)).fQ.2 o (cs C)) (j) y8 li (E)<|ZJ z (((m.fF.e6.2 x (cs hk)).fQ.2 o (cs C)).mono A nR) he rZ li (yZ e) ?_
  exact iX.nil
 refine WC.at rfl (WC.uR (G+1) (0) (.agg (gP e).toArray) [.bool false,Y 0,Y 0,Y 0] (gP e) (gP e) 4 rfl U U li rfl rfl (B.get N) rfl rfl rfl ?_)
 obtain⟨ac,M,S,R,ab⟩:=stored K (G+1) (.cells (gP e) gi.plain)
 rw[M];clear M
 refine WD.last<|WN.nil ⟨?_,?_⟩
 ·
  exact iX.nil
 refine WP.ret ⟨rfl,rfl,[.agg (gP e).toArray],(sL (by rw[show(fV (.tmp 4)).run _=pt (G+1) 0 from by kernel_rfl];exact jO rZ li R rfl)),?_⟩
 exact⟨rfl,od,(A.trans S)⟩
theorem Yz(V:zt)(k w j:Nat)(x:ic)(c:sE)(o:SV ja)(e:ja)(O:Ht)(G:Nat)(m:th O G V)(hk:V.fF.e6.l[k]?=some x)(hc:V.fH.fZ.l[k]?=some c)(hw:V.fH.ig=.ofNat w)(aj:x.fQ.l[w]?=some o)(hj:c.mA=.ofNat j)(he:o.l[j]?=some e)(W:e.jV=false->0<=e.lh->e.lh.toNat<V.fH.gB.l.length):WF ex 37 [.agg (o6 V).toArray,Y (.ofNat k)] O G (fG G O (wx (.tuple ⟨[Y (B5 V.fH e c),.bool (!e.jV)]⟩))):=by
 refine wd Tryz.f37 32 [.tmp 4,.tmp 5] fun hE=>?_
 have an:=yJ hc
 refine sr<|oB (.agg (o6 V).toArray) (o6 V) fun jq iC hU=>?_
 have kW:=hE.trans iC
 refine oN 2<|sr<|WO.cons (WC.im G (0) (o6 V) U mN j1 hU rfl<|oX 1<|oC 9 (I2 V k w j x c o e jq (G+1) (m.mono kW) hk hc hw aj hj he) ?_)
 rintro _ ao E ⟨rfl,ai,J⟩
 refine oA [.bool false,Y 0,Y 0,Y 0] uw fun ak K N=>?_
 refine oS E (0) (.agg (gP e).toArray) (gP e) (gP e) li rfl rfl N fun al R y S=>?_
 have b:=((kW.trans J).trans K).trans R
 have F:=(S G om).trans (K.get (J.get hU))
 refine WO.nil<|WP.seq<|sr<|oX 1 ?_
 obtain⟨aa,ad,ae⟩:=@nb (e.jV) (e.jV=true) (by first|done|exact gf)
 refine oZ E 0 (.bool aa) w8 y (by rw[ad];rfl)<|WO.nil<|cq ae (fun p=>?_) (fun p=>?_)
 ·
  refine sr<|oW 2 ⟨rfl,rfl,[Y 0,.bool false],U,?_⟩
  refine⟨?_,od,b⟩
  unfold wx B5;rw[p];rfl
 ·
  refine WP.skip<|sr<|oX 2 ?_
  obtain⟨a35,ab,z⟩:=m.fH.fZ.shape
  have ag:=m.fH.fZ.2.2
  refine oZ G (0+4+2) (.slice a35 (V.fH.fZ.l.length) ab) AY F (by rw[<-z];rfl)<|oX 1 ?_
  have B:k<V.fH.fZ.l.length:=by omega
  refine WO.cons (WC.iy z m.fH.fZ (k) Db vV (B)<|oX 1<|WO.cons (WC.sb (fW a35) (0+(k)*2+1) (Y c.fX) U ft ((m.fH.fZ.mono b nR).pd z (zl B)) (nj (m.fH.fZ.mono b nR).1 hc (by decide) rfl)<|oN 1<|WP.seq<|sr<|oX 1<|oZ E (0+1) (Y e.lh) ft y rfl ?_))
  refine oq 21 (pF 0 e.lh) fun am af=>WO.nil<|cq af (fun u=>?_) (fun u=>?_)
  ·
   refine WP.region<|oX 3 ?_
   obtain⟨X,ac,A⟩:=m.fH.gB.shape
   have ah:=m.fH.gB.2.2
   refine oZ G (0+4+1) (.slice X (V.fH.gB.l.length) ac) lF F (by rw[<-A];rfl)<|oX 1 ?_
   have ap:=W (gy.2 p) u
   refine oZ E (0+1) (Y (.ofNat e.lh.toNat)) ft y (by rw[<-(nat_eq u)];rfl) ?_
   have C:e.lh.toNat<V.fH.gB.l.length:=by omega
   refine WO.cons (WC.iy A m.fH.gB (e.lh.toNat) lG kp (C) ?_)
   obtain⟨M,L⟩:=gE C
   refine WO.cons (WC.lz (Y M) A (m.fH.gB.mono b nR) L rfl ft<|oN 2<|sr<|oW 3 ⟨rfl,rfl,[Y (gn .i64 ((c.fX)+(M))),.bool true],U,?_⟩)
   have hf:=gy.2 p
   refine⟨?_,od,b⟩
   unfold wx B5;rw[hf,if_neg (by decide),if_pos u,L];rfl
  ·
   refine WP.skip<|sr<|oW 3 ⟨rfl,rfl,[Y c.fX,.bool true],U,?_⟩
   have hf:=gy.2 p
   refine⟨?_,od,b⟩
   unfold wx B5;rw[hf,if_neg (by decide),if_neg u];rfl
end
end Sw
namespace Sw
noncomputable section
open Go Go.Proofs Go.RowKit
set_option maxRecDepth 100000
set_option maxHeartbeats 16000000
def zeroV:zt:=⟨⟨⟨⟨.slice none 0 0,[]⟩,⟨.slice none 0 0,[]⟩⟩,⟨.slice none 0 0,[]⟩,⟨.slice none 0 0,[]⟩⟩,⟨0,⟨.slice none 0 0,[]⟩,⟨.slice none 0 0,[]⟩⟩⟩
theorem Dd{α:Type}{enc:α->List Value}{n:Nat}{O:Ht}{G:Nat}:gx enc n O G (⟨.slice none 0 0,[]⟩:SV α):=⟨(fun _ h=>by cases h),.inl ⟨rfl,.inl rfl⟩,by show(0:Nat)<_;decide⟩
theorem Vl{O:Ht}{G:Nat}:th O G zeroV:=⟨⟨⟨Dd,⟨Dd,fun _ h=>by cases h⟩⟩,Dd,⟨Dd,fun _ h=>by cases h⟩⟩,⟨Dd,Dd⟩⟩
def Zf(F:ji)(H:lN)(O:Ht)(G:Nat)(v:Value)(eZ:Ht)(e5:Nat):Prop:=∃(V:zt) (z:Int),v=.tuple ⟨[.agg (o6 V).toArray,Y z]⟩/\th eZ e5 V/\(z=0↔ur F H)/\(z=0->V=⟨F,H⟩)/\G<=e5/\HE G O eZ
theorem ur.at{F:ji}{H:lN}(h:ur F H){i:Nat}{c:sE}{x:ic}{o:SV ja}(hc:H.fZ.l[i]?=some c)(hx:F.e6.l[i]?=some x)(b:x.fQ.l[H.ig.toNat]?=some o):HF o.l c:=by
 have:=h.ch i c x hc hx
 rwa[F2 b]at this
def YA(F:ji)(H:lN)(k:Nat):Value->Prop:=fun v=>∃(n:Int) (b:Bool),v=.tuple ⟨[Y n,.bool b,Y 0]⟩/\Q9 F H k n (!b)
theorem Vm:ex.T.agg 198=some true:=U
theorem AZ:ex.T.agg 58=some true:=U
theorem zh:ex.T.size 58=some 3:=U
theorem FE:ex.T.zero 130=some (.agg ⟨[.slice none (0) 0,.slice none (0) 0,.slice none (0) 0,.slice none (0) 0,Y 0,.slice none (0) 0,.slice none (0) 0]⟩):=U
theorem Tq:ex.T.zero 198=some (.agg ⟨[Y 0,Y 0]⟩):=U
theorem N3(F:ji)(H:lN)(O:Ht)(G:Nat)(u:km O G F)(hH:nc O G H)(c0:∀r∈F.e6.l,Ab r<=60):WF ex 33 [.agg (gK F).toArray,.agg (j5 H).toArray] O G (Zf F H O G):=by
 refine wd Tryz.f33 105 [.cell 4 130,.tmp 5] fun hE=>sr<|oB (.agg (gK F).toArray) (gK F) fun jq iC hU=>?_
 refine oB (.agg (j5 H).toArray) (j5 H) fun dW bG ck=>?_
 refine oA [.slice none (0) 0,.slice none (0) 0,.slice none (0) 0,.slice none (0) 0,Y 0,.slice none (0) 0,.slice none (0) 0] FE fun cx jx cm=>?_
 have bA:=((hE.trans iC).trans bG).trans jx
 have bD:=jx.get (bG.get hU)
 refine oN 1<|WP.seq<|sr<|WO.cons (WC.im G (0) (gK F) U pm ou bD rfl<|oC 10 (Eg F cx (G+1+1+1) (u.mono bA) c0) ?_)
 rintro _ dP bM ⟨⟨z32,rfl,bL,dJ⟩,dK,aH⟩
 have bB:=bA.trans aH
 have uL:=aH.get bD
 have bE:=aH.get (jx.get ck)
 have aT:=aH.get cm
 refine oq 11 (qG z32 0) fun dR c3=>WO.nil<|cq c3 (fun bP=>?_) (fun bP=>?_)
 ·
  refine sr<|WO.cons (WC.im (G+1+1) (0) [.slice none (0) 0,.slice none (0) 0,.slice none (0) 0,.slice none (0) 0,Y 0,.slice none (0) 0,.slice none (0) 0] U mN j1 aT rfl<|oS (G+1+1) (0) (.agg ⟨[.slice none (0) 0,.slice none (0) 0,.slice none (0) 0,.slice none (0) 0,Y 0,.slice none (0) 0,.slice none (0) 0]⟩) [.slice none (0) 0,.slice none (0) 0,.slice none (0) 0,.slice none (0) 0,Y 0,.slice none (0) 0,.slice none (0) 0] [.slice none (0) 0,.slice none (0) 0,.slice none (0) 0,.slice none (0) 0,Y 0,.slice none (0) 0,.slice none (0) 0] j1 rfl (e7.2 ⟨rfl,e7.2 ⟨rfl,e7.2 ⟨rfl,e7.2 ⟨rfl,e7.2 ⟨rfl,e7.2 ⟨rfl,e7.2 ⟨rfl,e7.2 ⟨rfl,rfl⟩⟩⟩⟩⟩⟩⟩⟩) aT fun dQ ct cn dO=>?_)
  refine oW 1 ⟨rfl,rfl,[.agg ⟨[.slice none (0) 0,.slice none (0) 0,.slice none (0) 0,.slice none (0) 0,Y 0,.slice none (0) 0,.slice none (0) 0]⟩,Y 240],(nW (by rw[show(fV (.tmp 4)).run _=pt (G+1+1) 0 from by kernel_rfl];exact jO mN j1 cn rfl) U),?_⟩
  exact⟨zeroV,240,rfl,Vl,⟨fun h=>absurd h (by decide),fun h=>absurd (bL.2 h.KQ) bP⟩,fun h=>absurd h (by decide),od,(bB.trans ct)⟩
 ·
  refine WP.skip<|sr ?_
  have aW:rY F:=bL.1 (fg.1 bP)
  refine WO.cons (WC.im G (0) (gK F) U pm ou uL rfl<|WO.cons (WC.im (G+1) (0) (j5 H) U AZ zh bE rfl<|oX 1<|oS (G+1+1) (0) (.agg ⟨[F.fq.fp.v,F.fq.gz.v,F.gb.v,F.e6.v,Y H.ig,H.gB.v,H.fZ.v]⟩) [F.fq.fp.v,F.fq.gz.v,F.gb.v,F.e6.v,Y H.ig,H.gB.v,H.fZ.v] [F.fq.fp.v,F.fq.gz.v,F.gb.v,F.e6.v,Y H.ig,H.gB.v,H.fZ.v] j1 rfl (e7.2 ⟨rfl,e7.2 ⟨u.fq.fp.one,e7.2 ⟨u.fq.gz.1.one,e7.2 ⟨u.gb.one,e7.2 ⟨u.e6.1.one,e7.2 ⟨rfl,e7.2 ⟨hH.gB.one,e7.2 ⟨hH.fZ.one,rfl⟩⟩⟩⟩⟩⟩⟩⟩) aT fun bI cu cp bH=>?_))
  have bC:=bB.trans cu
  have aU:=(bH G om).trans uL
  have aC:=(bH (G+1) om).trans bE
  refine WO.nil<|WP.seq<|sr<|oX 1<|oZ (G+1) 0 (Y H.ig) ft aC rfl ?_
  refine oq 18 (mr H.ig 0) fun am c5=>oX 1<|gF 19 am (pt (G+1) 0)<|nF 19 am (G+1) 0 (Y H.ig) ft aC rfl<|gF 19 am (pt G (0+2)) ?_
  obtain⟨cS,SA,cz⟩:=u.gb.shape
  have dt:=u.gb.2.2
  refine nF 19 am G (0+2) (.slice cS (F.gb.l.length) SA) xL aU (by rw[<-cz];rfl)<|gF 19 am (Y (.ofNat (F.gb.l.length))) ?_
  refine nm 19 am (y5 F.gb.l.length H.ig) fun dS c6=>?_
  refine mz 26 (nO c5 c6) fun M cb=>oX 1<|xJ 27 M (.agg (gK F).toArray) (by rintro rfl;exact WC.im G (0) (gK F) U pm ou aU rfl rfl)<|gF 27 M (pt (G+1) 0)<|nF 27 M (G+1) 0 (Y H.ig) ft aC rfl<|WO.cons (WC.gq (!M) (GB (!M) (q_ F H.ig.toNat) (bM) bI) (.bool M) (g:=fV (.tmp 27)) rfl U (by cases M<;>rfl) (fun h=>by obtain rfl:M=false:=(by simpa using h);have cP:¬(((H.ig)<(0))\/(((F.gb.l.length:Nat):Int)<(H.ig))):=(fun k=>absurd ((cb).2 k) (by decide));exact WC.call 31 70 ([.agg (gK F).toArray,Y H.ig]) kf ((To F H.ig bI (bM) (u.mono bC) om (fun x hx=>by have:=aW.PD hx;omega)).mono fun v eZ e5 ⟨⟨c,aO,hc⟩,hn,he⟩=>⟨_,_,_,rfl,⟨c,aO,hc⟩,hn,he⟩)) (fun h=>GB.off h) ?_)
  rintro _ bJ bN ⟨⟨w_,rfl,Fs⟩,dL,aI⟩
  have aQ:=bC.trans aI
  have aV:=aI.get aU
  have aD:=aI.get aC
  refine nm 27 M (nN Fs) fun dT c7=>?_
  refine mz 33 (nO cb c7) fun X c8=>oX 1<|gF 34 X (pt (G+1) (0+1)) ?_
  obtain⟨b9,b_,aX⟩:=hH.gB.shape
  have du:=hH.gB.2.2
  refine nF 34 X (G+1) (0+1) (.slice b9 (H.gB.l.length) b_) lF aD (by rw[<-aX];rfl)<|gF 34 X (Y (.ofNat (H.gB.l.length)))<|gF 34 X (pt G 0)<|gF 34 X (pt G (0+0+0)) ?_
  obtain⟨cT,cV,cA⟩:=u.fq.fp.shape
  have dv:=u.fq.fp.2.2
  refine nF 34 X G (0+0+0) (.slice cT (F.fq.fp.l.length) cV) y7 aV (by rw[<-cA];rfl)<|gF 34 X (Y (.ofNat (F.fq.fp.l.length))) ?_
  refine nm 34 X (Jv H.gB.l.length F.fq.fp.l.length) fun dU c9=>?_
  refine mz 43 (nO c8 c9) fun aj c_=>oX 1<|gF 44 aj (pt (G+1) (0+2)) ?_
  obtain⟨bt,bu,aK⟩:=hH.fZ.shape
  have dw:=hH.fZ.2.2
  refine nF 44 aj (G+1) (0+2) (.slice bt (H.fZ.l.length) bu) AY aD (by rw[<-aK];rfl)<|gF 44 aj (Y (.ofNat (H.fZ.l.length)))<|gF 44 aj (pt G (0+3)) ?_
  obtain⟨cU,cW,cB⟩:=u.e6.1.shape
  have dx:=u.e6.1.2.2
  refine nF 44 aj G (0+3) (.slice cU (F.e6.l.length) cW) nX aV (by rw[<-cB];rfl)<|gF 44 aj (Y (.ofNat (F.e6.l.length))) ?_
  refine nm 44 aj (Jv H.fZ.l.length F.e6.l.length) fun dV da=>?_
  refine mz 52 (nO c_ da) fun E cc=>oX 1<|gF 53 E (pt G 0)<|xJ 53 E (.agg (jc F.fq).toArray) (by rintro rfl;exact WC.im G 0 (jc F.fq) U xK vM aV rfl rfl)<|gF 53 E (pt (G+1) (0+1))<|nF 53 E (G+1) (0+1) (.slice b9 (H.gB.l.length) b_) lF aD (by rw[<-aX];rfl)<|WO.cons (WC.gq (!E) (GB (!E) (I1 F.fq H.gB.l) (bN) bJ) (.bool E) (g:=fV (.tmp 53)) rfl U (by cases E<;>rfl) (fun h=>by obtain rfl:E=false:=(by simpa using h);have cP:¬((((((H.ig)<(0))\/(((F.gb.l.length:Nat):Int)<(H.ig)))\/(¬(q_ F H.ig.toNat)))\/(((H.gB.l.length:Nat):Int)≠((F.fq.fp.l.length:Nat):Int)))\/(((H.fZ.l.length:Nat):Int)≠((F.e6.l.length:Nat):Int))):=(fun k=>absurd ((cc).2 k) (by decide));exact WC.call 58 71 ([.agg (jc F.fq).toArray,H.gB.v]) (fun _ _ _=>by(try rw[aX]);kernel_rfl) ((Q_ F.fq H.gB bJ (bN) (u.fq.mono aQ) (hH.gB.mono aQ) aW.R5 (Int.ofNat.inj (fg.1 fun k=>cP (.inl (.inr k))))).mono fun v eZ e5 ⟨⟨c,aO,hc⟩,hn,he⟩=>⟨_,_,_,rfl,⟨c,aO,hc⟩,hn,he⟩)) (fun h=>GB.off h) ?_)
  rintro _ cy aL ⟨⟨dz,rfl,cC⟩,dM,aE⟩
  have a6:=aQ.trans aE
  have ax:=aE.get (aI.get cp)
  refine nm 53 E (nN cC) fun dA cD=>?_
  refine mz 60 (nO cc cD) fun dB cE=>WO.nil<|cq cE (fun L=>?_) (fun L=>?_)
  ·
   refine sr<|WO.cons (WC.im (G+1+1) (0) [F.fq.fp.v,F.fq.gz.v,F.gb.v,F.e6.v,Y H.ig,H.gB.v,H.fZ.v] U mN j1 ax rfl<|oS (G+1+1) (0) (.agg ⟨[F.fq.fp.v,F.fq.gz.v,F.gb.v,F.e6.v,Y H.ig,H.gB.v,H.fZ.v]⟩) [F.fq.fp.v,F.fq.gz.v,F.gb.v,F.e6.v,Y H.ig,H.gB.v,H.fZ.v] [F.fq.fp.v,F.fq.gz.v,F.gb.v,F.e6.v,Y H.ig,H.gB.v,H.fZ.v] j1 rfl (e7.2 ⟨rfl,e7.2 ⟨u.fq.fp.one,e7.2 ⟨u.fq.gz.1.one,e7.2 ⟨u.gb.one,e7.2 ⟨u.e6.1.one,e7.2 ⟨rfl,e7.2 ⟨hH.gB.one,e7.2 ⟨hH.fZ.one,rfl⟩⟩⟩⟩⟩⟩⟩⟩) ax fun bn bZ bR de=>?_)
   have ao:=a6.trans bZ
   refine oW 1 ⟨rfl,rfl,[.agg ⟨[F.fq.fp.v,F.fq.gz.v,F.gb.v,F.e6.v,Y H.ig,H.gB.v,H.fZ.v]⟩,Y 260],(nW (by rw[show(fV (.tmp 4)).run _=pt (G+1+1) 0 from by kernel_rfl];exact jO mN j1 bR rfl) U),?_⟩
   have A:km bn (aL) F:=u.mono ao
   have B:nc bn (aL) H:=hH.mono ao
   refine⟨⟨F,H⟩,260,rfl,⟨A,B⟩,⟨fun h=>absurd h (by decide),fun h=>False.elim ?_⟩,fun h=>absurd h (by decide),od,ao⟩
   have h1:=h.w0;have D:=h.w1;have h3:=h.N2;have h4:=h.ZN;have dH:=h.Jx;have dI:=h.V_
   rcases L with((((k|k)|k)|k)|k)
   · first|omega|(dsimp only;omega)
   · exact k dH
   · exact k (congrArg Int.ofNat h3)
   · exact k (congrArg Int.ofNat h4)
   · exact k dI
  ·
   refine WP.skip<|WP.seq<|sr ?_
   have ca:q_ F H.ig.toNat:=fg.1 fun k=>L (.inl (.inl (.inl (.inr k))))
   have cX:I1 F.fq H.gB.l:=fg.1 fun k=>L (.inr k)
   have cr:H.fZ.l.length=F.e6.l.length:=Int.ofNat.inj (fg.1 fun k=>L (.inl (.inr k)))
   have cw:H.gB.l.length=F.fq.fp.l.length:=Int.ofNat.inj (fg.1 fun k=>L (.inl (.inl (.inr k))))
   have dX:¬(H.ig<0\/Int.ofNat F.gb.l.length<H.ig):=fun k=>L (.inl (.inl (.inl (.inl k))))
   have bK:0<=H.ig:=by omega
   refine oX 1<|oZ (G+1) (0+2) (.slice bt (H.fZ.l.length) bu) AY (aE.get aD) (by rw[<-aK];rfl)<|oN 2<|WP.block ?_
   refine mg [4,63,64,65] (fun m hs ns vs=>∃(o:Nat),o+m=H.fZ.l.length/\vs=[pt (G+1+1) 0,.slice bt (H.fZ.l.length) bu,Y (.ofNat (H.fZ.l.length)),Y (.ofNat o)]/\aL<=ns/\HE (aL) cy hs/\(∀(a:Nat) (c:sE) (x:ic),a<o->H.fZ.l[a]?=some c->F.e6.l[a]?=some x->HF (wo x H.ig.toNat) c)) ?_ (H.fZ.l.length) ?_
   ·
    rintro dy dj j _ ⟨o,cY,rfl,b6,aF,aS⟩ db
    have ap:=a6.trans aF
    have ay:=aF.get ax
    refine sr ?_
    refine oq 66 (kL o H.fZ.l.length) fun dC cF=>WO.nil<|WP.seq<|cq cF (fun cQ=>?_) (fun cQ=>?_)
    ·
     refine WP.skip<|WP.seq<|WP.block<|sr<|oX 1 ?_
     have aN:o<H.fZ.l.length:=by omega
     refine WO.cons (WC.iy aK hH.fZ (o) Db vV (aN) ?_)
     obtain⟨p,C⟩:=gE aN
     refine WO.cons (WC.ly aK (hH.fZ.mono ap nR) C Vm vV<|oA [Y 0,Y 0] Tq fun dl aG bS=>?_)
     refine oX 1<|oS j (0) (.agg (vJ p).toArray) (vJ p) (vJ p) vV rfl rfl bS fun S be N b7=>?_
     have aq:=(ap.trans aG).trans be
     have az:=(b7 (G+1+1) om).trans (aG.get ay)
     refine WO.nil<|WP.seq<|WP.seq<|WP.qN [⟨[0,1,2,3,4,5,6,7],[0,1,2,3,4,5,6,7],some 8⟩,⟨[9,10,11],[4,5,9,10,11],none⟩] U _ rfl<|WD.kQ ?_
     obtain⟨bQ,J⟩:∃x,F.e6.l[o]?=some x:=⟨_,ff om⟩
     obtain⟨al,R,dN⟩:=ca bQ (cs J)
     refine nv 70 (pt j 0)<|WN.hQ rfl (WC.jP j 0 (Y p.mA) U ft N rfl ?_)
     obtain⟨b,bw,bO⟩:=mr p.mA 0
     refine nv 72 (.bool b) ?_ (fun _ _ _=>by subst bw;kernel_rfl)
     refine nv 73 (.bool b)<|ng rfl 73 (!b) (pt j 0) (.bool b) (by cases b<;>rfl) (fun h=>by obtain rfl:=bF h;exact fun _ _ _=>by kernel_rfl) ?_
     refine w5 rfl 73 (!b) (Y p.mA) (.bool b) (by cases b<;>rfl) (fun h=>by obtain rfl:=bF h;exact WC.jP j 0 (Y p.mA) U ft N rfl rfl) ?_
     refine w5 rfl 73 (!b) (.agg ⟨[F.fq.fp.v,F.fq.gz.v,F.gb.v,F.e6.v,Y H.ig,H.gB.v,H.fZ.v]⟩) (.bool b) (by cases b<;>rfl) (fun h=>by obtain rfl:=bF h;exact WC.im (G+1+1) (0) [F.fq.fp.v,F.fq.gz.v,F.gb.v,F.e6.v,Y H.ig,H.gB.v,H.fZ.v] U mN j1 az rfl rfl) ?_
     refine ng rfl 73 (!b) (Y (.ofNat o)) (.bool b) (by cases b<;>rfl) (fun h=>by obtain rfl:=bF h;exact fun _ _ _=>by kernel_rfl) ?_
     refine WN.nil ⟨?_,?_⟩
     ·
      refine cv (pt j 0) (iK ..)<|p7 j 0 (Y p.mA) ft N rfl (iz ..)<|cv (.bool b) (iH 8 b) ?_ (fun _=>by subst bw;kernel_rfl)
      refine cv (.bool b) (iH 8 b)<|cg rfl 73 (!b) (pt j 0) (.bool b) (by cases b<;>rfl) (fun h=>by obtain rfl:=bF h;exact lZ (pt j 0) (fun _=>by kernel_rfl) (iK ..)) ?_
      refine cg rfl 73 (!b) (Y p.mA) (.bool b) (by cases b<;>rfl) (fun h=>by obtain rfl:=bF h;exact qw (Y p.mA) (j9 ex.T S.get 3 (pt j 0)) (fun _=>by kernel_rfl) (j_ ft N rfl) (iz ..)) ?_
      refine cg rfl 73 (!b) (.agg ⟨[F.fq.fp.v,F.fq.gz.v,F.gb.v,F.e6.v,Y H.ig,H.gB.v,H.fZ.v]⟩) (.bool b) (by cases b<;>rfl) (fun h=>by obtain rfl:=bF h;exact qw (.agg ⟨[F.fq.fp.v,F.fq.gz.v,F.gb.v,F.e6.v,Y H.ig,H.gB.v,H.fZ.v]⟩) (j9 ex.T S.get 130 (pt (G+1+1) 0)) (fun _=>by kernel_rfl) (jO mN j1 az rfl) (wv 7 _ (by intro v aO;simp only[List.mem_cons,List.not_mem_nil,or_false]at aO;rcases aO with rfl|rfl|rfl|rfl|rfl|rfl|rfl<;>first|exact iz ..|exact iH ..|exact(u.fq.fp.js 7)|exact(u.fq.gz.1.js 7)|exact(u.gb.js 7)|exact(u.e6.1.js 7)|exact(hH.gB.js 7)|exact(hH.fZ.js 7)))) ?_
      refine cg rfl 73 (!b) (Y (.ofNat o)) (.bool b) (by cases b<;>rfl) (fun h=>by obtain rfl:=bF h;exact lZ (Y (.ofNat o)) (fun _=>by kernel_rfl) (iz ..)) ?_
      exact iX.nil
     obtain⟨cd,ce,b8⟩:=((u.e6.2 bQ (cs J)).fQ.2 al (cs R)).shape
     have cZ:=((u.e6.2 bQ (cs J)).fQ.2 al (cs R)).2.2
     refine WC.at rfl (WC.gq (!b) (GV (!b) (.slice cd (al.l.length) ce) (j+1) S) (.bool b) (g:=fV (.tmp 73)) rfl U (by cases b<;>rfl) (fun h=>by obtain rfl:b=false:=(by simpa using h);have cP:¬((p.mA)<(0)):=(fun k=>absurd ((bO).2 k) (by decide));exact WC.call 78 72 ([.agg ⟨[F.fq.fp.v,F.fq.gz.v,F.gb.v,F.e6.v,Y H.ig,H.gB.v,H.fZ.v]⟩,Y (.ofNat o)]) kf ((GA ⟨F,H⟩ o H.ig.toNat bQ al _ S (j+1) (⟨u.mono aq,hH.mono aq⟩:th S (j+1) ⟨F,H⟩) J (nat_eq bK) R b8).mono fun v eZ e5 ⟨aO,hn,he⟩=>⟨_,_,_,rfl,aO,hn,he⟩)) (fun h=>GV.off h) ?_)
     rintro _ aJ ag ⟨rfl,dc,ad⟩
     have aa:=aq.trans ad
     have ab:=ad.get az
     have a8:=ad.get N
     refine WD.last<|ng rfl 73 (!b) (Y (.ofNat (al.l.length))) (.bool b) (by cases b<;>rfl) (fun h=>by obtain rfl:=bF h;exact fun _ _ _=>by kernel_rfl) ?_
     obtain⟨W,bx,cG⟩:=G_ al.l.length p.mA
     refine ng rfl 73 (!b) (.bool W) (.bool b) (by cases b<;>rfl) (fun h=>by obtain rfl:=bF h;exact fun _ _ _=>by subst bx;kernel_rfl) ?_
     obtain⟨aP,bz,cH⟩:=nO bO cG
     refine WN.hQ rfl (WC.me (v:=.bool aP) 81 (kZ (.bool b) (.bool true) ((bif !b then .bool W else undef))) kf (by rw[bz];exact kS (fun h=>by obtain rfl:b=false:=h;rfl))<|WN.nil ⟨?_,?_⟩)
     ·
      refine cg rfl 73 (!b) (pt j 0) (.bool b) (by cases b<;>rfl) (fun h=>by obtain rfl:=bF h;exact lZ (pt j 0) (fun _=>by kernel_rfl) (iK ..)) ?_
      refine cg rfl 73 (!b) (Y p.mA) (.bool b) (by cases b<;>rfl) (fun h=>by obtain rfl:=bF h;exact qw (Y p.mA) (j9 ex.T aJ.get 3 (pt j 0)) (fun _=>by kernel_rfl) (j_ ft a8 rfl) (iz ..)) ?_
      refine cg rfl 73 (!b) (Y (.ofNat (al.l.length))) (.bool b) (by cases b<;>rfl) (fun h=>by obtain rfl:=bF h;exact lZ (Y (.ofNat (al.l.length))) (fun _=>by kernel_rfl) (iz ..)) ?_
      refine cg rfl 73 (!b) (.bool W) (.bool b) (by cases b<;>rfl) (fun h=>by obtain rfl:=bF h;exact lZ (.bool W) (fun _=>by subst bx;kernel_rfl) (iH 8 W)) ?_
      refine co (.bool aP) (kZ (.bool b) (.bool true) ((bif !b then .bool W else undef))) ((by rw[bz];exact kS (fun h=>by obtain rfl:b=false:=h;rfl))) (iH 8 aP) ?_
      exact iX.nil
     refine cq cH (fun cR=>?_) (fun cR=>?_)
     ·
      refine sr<|WO.cons (WC.im (G+1+1) (0) [F.fq.fp.v,F.fq.gz.v,F.gb.v,F.e6.v,Y H.ig,H.gB.v,H.fZ.v] U mN j1 ab rfl<|oS (G+1+1) (0) (.agg ⟨[F.fq.fp.v,F.fq.gz.v,F.gb.v,F.e6.v,Y H.ig,H.gB.v,H.fZ.v]⟩) [F.fq.fp.v,F.fq.gz.v,F.gb.v,F.e6.v,Y H.ig,H.gB.v,H.fZ.v] [F.fq.fp.v,F.fq.gz.v,F.gb.v,F.e6.v,Y H.ig,H.gB.v,H.fZ.v] j1 rfl (e7.2 ⟨rfl,e7.2 ⟨u.fq.fp.one,e7.2 ⟨u.fq.gz.1.one,e7.2 ⟨u.gb.one,e7.2 ⟨u.e6.1.one,e7.2 ⟨rfl,e7.2 ⟨hH.gB.one,e7.2 ⟨hH.fZ.one,rfl⟩⟩⟩⟩⟩⟩⟩⟩) ab fun bo b0 bT df=>?_)
      have ar:=aa.trans b0
      refine oW 1 ⟨rfl,rfl,[.agg ⟨[F.fq.fp.v,F.fq.gz.v,F.gb.v,F.e6.v,Y H.ig,H.gB.v,H.fZ.v]⟩,Y 260],(nW (by rw[show(fV (.tmp 4)).run _=pt (G+1+1) 0 from by kernel_rfl];exact jO mN j1 bT rfl) U),?_⟩
      have A:km bo (ag) F:=u.mono ar
      have B:nc bo (ag) H:=hH.mono ar
      refine⟨⟨F,H⟩,260,rfl,⟨A,B⟩,⟨fun h=>absurd h (by decide),fun h=>False.elim ?_⟩,fun h=>absurd h (by decide),od,ar⟩
      have an:=h.at C J R
      have h1:=an.1;have D:=an.2.1;omega
     ·
      refine WP.skip<|sr<|WO.cons (WC.im (G+1+1) (0) [F.fq.fp.v,F.fq.gz.v,F.gb.v,F.e6.v,Y H.ig,H.gB.v,H.fZ.v] U mN j1 ab rfl<|oX 1 ?_)
      obtain⟨K,aM⟩:∃e,al.l[p.mA.toNat]?=some e:=⟨_,ff om⟩
      refine oC 85 (I2 ⟨F,H⟩ o H.ig.toNat p.mA.toNat bQ p al K aJ (ag) (⟨u.mono aa,hH.mono aa⟩:th aJ (ag) ⟨F,H⟩) J C (nat_eq bK) R (nat_eq om) aM) ?_
      rintro _ dm z ⟨rfl,dd,ae⟩
      refine oA [.bool false,Y 0,Y 0,Y 0] uw fun dn af bU=>?_
      refine oS z (0) (.agg (gP K).toArray) (gP K) (gP K) li rfl rfl bU fun dp bf ac bj=>?_
      have a7:=((aa.trans ae).trans af).trans bf
      have bs:=(((((aF.trans aG b6).trans be).trans ad).trans ae).trans af).trans bf
      have aA:=(bj (G+1+1) om).trans (af.get (ae.get ab))
      have aB:=(bj j om).trans (af.get (ae.get a8))
      refine WO.nil<|WP.seq<|sr<|oX 1 ?_
      obtain⟨cf,cj,cI⟩:=@nb (K.jV) (K.jV=true) (by first|done|exact gf)
      refine oZ z 0 (.bool cf) w8 ac (by rw[cj];rfl)<|WO.nil<|cq cI (fun ak=>?_) (fun ak=>?_)
      ·
       refine WP.region<|oX 1<|oS z (0+2) (Y 0) [.bool K.jV,Y K.lh,Y 0,Y K.gU] [Y 0] kp rfl rfl ac fun dq bg bV bk=>?_
       refine oX 1<|oS z (0+3) (Y 0) [.bool K.jV,Y K.lh,Y 0,Y 0] [Y 0] kp rfl rfl bV fun dr bh a_ bl=>?_
       have bc:=(bl (G+1+1) om).trans ((bk (G+1+1) om).trans aA)
       have bd:=(bl j om).trans ((bk j om).trans aB)
       refine WO.nil<|sr<|oX 1<|oZ j (0+1) (Y p.fX) ft bd rfl<|oX 1<|oZ z (0+2) (Y 0) ft a_ rfl ?_
       refine oq 94 (mr p.fX 0) fun ah cJ=>oX 1<|gF 95 ah (pt j (0+1))<|nF 95 ah j (0+1) (Y p.fX) ft bd rfl<|gF 95 ah (pt z (0+3))<|nF 95 ah z (0+3) (Y 0) ft a_ rfl ?_
       refine nm 95 ah (mr 0 p.fX) fun dD cK=>?_
       refine mz 101 (nO cJ cK) fun dE cL=>WO.nil<|cq cL (fun aY=>?_) (fun aY=>?_)
       ·
        refine sr<|WO.cons (WC.im (G+1+1) (0) [F.fq.fp.v,F.fq.gz.v,F.gb.v,F.e6.v,Y H.ig,H.gB.v,H.fZ.v] U mN j1 bc rfl<|oS (G+1+1) (0) (.agg ⟨[F.fq.fp.v,F.fq.gz.v,F.gb.v,F.e6.v,Y H.ig,H.gB.v,H.fZ.v]⟩) [F.fq.fp.v,F.fq.gz.v,F.gb.v,F.e6.v,Y H.ig,H.gB.v,H.fZ.v] [F.fq.fp.v,F.fq.gz.v,F.gb.v,F.e6.v,Y H.ig,H.gB.v,H.fZ.v] j1 rfl (e7.2 ⟨rfl,e7.2 ⟨u.fq.fp.one,e7.2 ⟨u.fq.gz.1.one,e7.2 ⟨u.gb.one,e7.2 ⟨u.e6.1.one,e7.2 ⟨rfl,e7.2 ⟨hH.gB.one,e7.2 ⟨hH.fZ.one,rfl⟩⟩⟩⟩⟩⟩⟩⟩) bc fun bp b3 bW dg=>?_)
        have au:=((a7.trans bg).trans bh).trans b3
        refine oW 1 ⟨rfl,rfl,[.agg ⟨[F.fq.fp.v,F.fq.gz.v,F.gb.v,F.e6.v,Y H.ig,H.gB.v,H.fZ.v]⟩,Y 260],(nW (by rw[show(fV (.tmp 4)).run _=pt (G+1+1) 0 from by kernel_rfl];exact jO mN j1 bW rfl) U),?_⟩
        have A:km bp (z+1) F:=u.mono au
        have B:nc bp (z+1) H:=hH.mono au
        refine⟨⟨F,H⟩,260,rfl,⟨A,B⟩,⟨fun h=>absurd h (by decide),fun h=>False.elim ?_⟩,fun h=>absurd h (by decide),od,au⟩
        have an:=h.at C J R
        exact(an.2.2 _ aM).1 ak aY
       ·
        refine WP.skip<|WP.region<|ov 103 (Y (.ofNat (o+1))) ?_ (fun _ _ _=>by rw[<-gM (show o+1<9223372036854775808 by omega)];kernel_rfl)
        refine oN 1<|⟨H.fZ.l.length-(o+1),om,rfl,rfl,o+1,om,U,?_,?_,?_⟩
        · exact od
        · exact((bs.trans bg).trans bh)
        · intro a c x aR h1 D
          rcases fo.1 aR with aR|rfl
          · exact aS a c x aR h1 D
          · rw[C]at h1;cases h1
            rw[J]at D;cases D
            rw[F2 R]
            refine⟨om,om,fun y hy=>?_⟩
            rw[aM]at hy;cases hy
            exact⟨fun _=>aY,fun k=>by rw[ak]at k;cases k⟩
      ·
       refine WP.skip<|sr<|oX 1<|oZ j (0+1) (Y p.fX) ft aB rfl<|oX 1<|oZ z (0+2) (Y K.g_) ft ac rfl ?_
       refine oq 94 (mr p.fX K.g_) fun ai cM=>oX 1<|gF 95 ai (pt j (0+1))<|nF 95 ai j (0+1) (Y p.fX) ft aB rfl<|gF 95 ai (pt z (0+3))<|nF 95 ai z (0+3) (Y K.gU) ft ac rfl ?_
       refine nm 95 ai (mr K.gU p.fX) fun dF cN=>?_
       refine mz 101 (nO cM cN) fun dG cO=>WO.nil<|cq cO (fun aZ=>?_) (fun aZ=>?_)
       ·
        refine sr<|WO.cons (WC.im (G+1+1) (0) [F.fq.fp.v,F.fq.gz.v,F.gb.v,F.e6.v,Y H.ig,H.gB.v,H.fZ.v] U mN j1 aA rfl<|oS (G+1+1) (0) (.agg ⟨[F.fq.fp.v,F.fq.gz.v,F.gb.v,F.e6.v,Y H.ig,H.gB.v,H.fZ.v]⟩) [F.fq.fp.v,F.fq.gz.v,F.gb.v,F.e6.v,Y H.ig,H.gB.v,H.fZ.v] [F.fq.fp.v,F.fq.gz.v,F.gb.v,F.e6.v,Y H.ig,H.gB.v,H.fZ.v] j1 rfl (e7.2 ⟨rfl,e7.2 ⟨u.fq.fp.one,e7.2 ⟨u.fq.gz.1.one,e7.2 ⟨u.gb.one,e7.2 ⟨u.e6.1.one,e7.2 ⟨rfl,e7.2 ⟨hH.gB.one,e7.2 ⟨hH.fZ.one,rfl⟩⟩⟩⟩⟩⟩⟩⟩) aA fun bq b4 bX dh=>?_)
        have av:=a7.trans b4
        refine oW 1 ⟨rfl,rfl,[.agg ⟨[F.fq.fp.v,F.fq.gz.v,F.gb.v,F.e6.v,Y H.ig,H.gB.v,H.fZ.v]⟩,Y 260],(nW (by rw[show(fV (.tmp 4)).run _=pt (G+1+1) 0 from by kernel_rfl];exact jO mN j1 bX rfl) U),?_⟩
        have A:km bq (z+1) F:=u.mono av
        have B:nc bq (z+1) H:=hH.mono av
        refine⟨⟨F,H⟩,260,rfl,⟨A,B⟩,⟨fun h=>absurd h (by decide),fun h=>False.elim ?_⟩,fun h=>absurd h (by decide),od,av⟩
        have an:=h.at C J R
        exact(an.2.2 _ aM).2 (gy.2 ak) aZ
       ·
        refine WP.skip<|WP.region<|ov 103 (Y (.ofNat (o+1))) ?_ (fun _ _ _=>by rw[<-gM (show o+1<9223372036854775808 by omega)];kernel_rfl)
        refine oN 1<|⟨H.fZ.l.length-(o+1),om,rfl,rfl,o+1,om,U,?_,?_,?_⟩
        · exact od
        · exact bs
        · intro a c x aR h1 D
          rcases fo.1 aR with aR|rfl
          · exact aS a c x aR h1 D
          · rw[C]at h1;cases h1
            rw[J]at D;cases D
            rw[F2 R]
            refine⟨om,om,fun y hy=>?_⟩
            rw[aM]at hy;cases hy
            exact⟨fun k=>absurd k ak,fun _=>aZ⟩
    ·
     refine WP.exit<|sr<|WO.cons (WC.im (G+1+1) (0) [F.fq.fp.v,F.fq.gz.v,F.gb.v,F.e6.v,Y H.ig,H.gB.v,H.fZ.v] U mN j1 ay rfl<|oS (G+1+1) (0) (.agg ⟨[F.fq.fp.v,F.fq.gz.v,F.gb.v,F.e6.v,Y H.ig,H.gB.v,H.fZ.v]⟩) [F.fq.fp.v,F.fq.gz.v,F.gb.v,F.e6.v,Y H.ig,H.gB.v,H.fZ.v] [F.fq.fp.v,F.fq.gz.v,F.gb.v,F.e6.v,Y H.ig,H.gB.v,H.fZ.v] j1 rfl (e7.2 ⟨rfl,e7.2 ⟨u.fq.fp.one,e7.2 ⟨u.fq.gz.1.one,e7.2 ⟨u.gb.one,e7.2 ⟨u.e6.1.one,e7.2 ⟨rfl,e7.2 ⟨hH.gB.one,e7.2 ⟨hH.fZ.one,rfl⟩⟩⟩⟩⟩⟩⟩⟩) ay fun br b5 bY di=>?_)
     have aw:=ap.trans b5
     refine oW 1 ⟨rfl,rfl,[.agg ⟨[F.fq.fp.v,F.fq.gz.v,F.gb.v,F.e6.v,Y H.ig,H.gB.v,H.fZ.v]⟩,Y 0],(nW (by rw[show(fV (.tmp 4)).run _=pt (G+1+1) 0 from by kernel_rfl];exact jO mN j1 bY rfl) U),?_⟩
     have A:km br (j) F:=u.mono aw
     have B:nc br (j) H:=hH.mono aw
     exact⟨⟨F,H⟩,0,rfl,⟨A,B⟩,⟨fun _=>⟨aW,bK,om,ca,cw,cr,cX,fun a c x h1 D=>aS a c x (by have:=yJ h1;omega) h1 D⟩,fun _=>rfl⟩,fun _=>rfl,od,aw⟩
   ·
    exact⟨0,om,U,e9 _,HE.refl _ _,(fun _ _ _ h=>absurd h (fz _))⟩
theorem Ts(F:ji)(H:lN)(O:Ht)(G:Nat)(y:km O G F)(hH:nc O G H)(u:∀r∈F.e6.l,Ab r<=60):WF ex 10 [.agg (gK F).toArray,.agg (j5 H).toArray] O G (fG G O (VR (ur F H))):=by
 refine wd Tryz.f10 12 [.tmp 4] fun hE=>sr<|oB (.agg (gK F).toArray) (gK F) fun jq iC hU=>?_
 refine oB (.agg (j5 H).toArray) (j5 H) fun p e j=>?_
 have b:=(hE.trans iC).trans e
 refine oN 1<|sr<|WO.cons (WC.im G (0) (gK F) U pm ou (e.get hU) rfl<|WO.cons (WC.im (G+1) (0) (j5 H) U AZ zh j rfl<|oC 8 (N3 F H p (G+1+1) (y.mono b) (hH.mono b) u) ?_))
 rintro _ A B ⟨V,z17,rfl,E,o,C,z,m⟩
 refine oN 4<|sr<|oW 2 ⟨rfl,rfl,[Y z17],U,?_⟩
 exact⟨⟨_,rfl,o⟩,od,(b.trans m)⟩
theorem YB(F:ji)(H:lN)(k:Nat)(O:Ht)(G:Nat)(e:km O G F)(hH:nc O G H)(ac:∀r∈F.e6.l,Ab r<=60)(y:ur F H)(hk:k<F.e6.l.length):WF ex 36 [.agg (gK F).toArray,.agg (j5 H).toArray,Y (.ofNat k)] O G (fG G O (wx (.tuple ⟨[.agg (o6 ⟨F,H⟩).toArray,Y 0]⟩))):=by
 refine wd Tryz.f36 29 [.cell 6 130,.tmp 7] fun hE=>sr<|oB (.agg (gK F).toArray) (gK F) fun jq iC hU=>?_
 refine oB (.agg (j5 H).toArray) (j5 H) fun ao u A=>?_
 refine oA [.slice none (0) 0,.slice none (0) 0,.slice none (0) 0,.slice none (0) 0,Y 0,.slice none (0) 0,.slice none (0) 0] FE fun L jx B=>?_
 have j:=((hE.trans iC).trans u).trans jx
 have o:=jx.get (u.get hU)
 refine oN 1<|WP.seq<|sr<|WO.cons (WC.im G (0) (gK F) U pm ou o rfl<|WO.cons (WC.im (G+1) (0) (j5 H) U AZ zh (jx.get A) rfl<|oC 11 (N3 F H L (G+1+1+1) (e.mono j) (hH.mono j) ac) ?_))
 rintro _ aj am ⟨V,z28,rfl,an,ab,aa,ah,m⟩
 obtain rfl:z28=0:=ab.2 y
 obtain rfl:=aa rfl
 refine oX 3<|oS (G+1+1) (0) (.agg ⟨[F.fq.fp.v,F.fq.gz.v,F.gb.v,F.e6.v,Y H.ig,H.gB.v,H.fZ.v]⟩) [F.fq.fp.v,F.fq.gz.v,F.gb.v,F.e6.v,Y H.ig,H.gB.v,H.fZ.v] [F.fq.fp.v,F.fq.gz.v,F.gb.v,F.e6.v,Y H.ig,H.gB.v,H.fZ.v] j1 rfl (e7.2 ⟨rfl,e7.2 ⟨e.fq.fp.one,e7.2 ⟨e.fq.gz.1.one,e7.2 ⟨e.gb.one,e7.2 ⟨e.e6.1.one,e7.2 ⟨rfl,e7.2 ⟨hH.gB.one,e7.2 ⟨hH.fZ.one,rfl⟩⟩⟩⟩⟩⟩⟩⟩) (m.get B) fun ak E p K=>?_
 refine oN 1<|sr<|oX 4 ?_
 obtain⟨b,W,ad⟩:=y5 k 0
 refine WO.cons (WC.kT (x:=.bool true) (g:=fV (.tmp 16)) rfl U rfl (WC.val 18 (.bool b) (fun _ _ _=>by subst W;kernel_rfl)<|oX 1<|gF 19 b (Y (.ofNat k))<|gF 19 b (pt G (0+3)) ?_))
 obtain⟨a50,N,M⟩:=e.e6.1.shape
 have ag:=e.e6.1.2.2
 refine nF 19 b G (0+3) (.slice a50 (F.e6.l.length) N) nX ((K G om).trans (m.get o)) (by rw[<-M];rfl)<|gF 19 b (Y (.ofNat (F.e6.l.length))) ?_
 refine nm 19 b (XY F.e6.l.length k) fun R ae=>?_
 obtain⟨S,X,af⟩:=nO ad ae
 refine WO.cons (WC.kT (x:=.bool true) (g:=fV (.tmp 16)) rfl U rfl (WC.me (v:=.bool S) 25 (kZ (.bool b) (.bool true) ((bif !b then .bool R else undef))) kf (by rw[X];exact kS (fun h=>by obtain rfl:b=false:=h;rfl))<|oN 1<|cq af (fun z=>?_) (fun z=>?_)))
 ·
  exact absurd z om
 ·
  refine WP.skip<|sr<|WO.cons (WC.im (G+1+1) (0) [F.fq.fp.v,F.fq.gz.v,F.gb.v,F.e6.v,Y H.ig,H.gB.v,H.fZ.v] U mN j1 p rfl<|oX 1<|oS (G+1+1) (0) (.agg ⟨[F.fq.fp.v,F.fq.gz.v,F.gb.v,F.e6.v,Y H.ig,H.gB.v,H.fZ.v]⟩) [F.fq.fp.v,F.fq.gz.v,F.gb.v,F.e6.v,Y H.ig,H.gB.v,H.fZ.v] [F.fq.fp.v,F.fq.gz.v,F.gb.v,F.e6.v,Y H.ig,H.gB.v,H.fZ.v] j1 rfl (e7.2 ⟨rfl,e7.2 ⟨e.fq.fp.one,e7.2 ⟨e.fq.gz.1.one,e7.2 ⟨e.gb.one,e7.2 ⟨e.e6.1.one,e7.2 ⟨rfl,e7.2 ⟨hH.gB.one,e7.2 ⟨hH.fZ.one,rfl⟩⟩⟩⟩⟩⟩⟩⟩) p fun al J C ai=>?_)
  refine oW 1 ⟨rfl,rfl,[.agg ⟨[F.fq.fp.v,F.fq.gz.v,F.gb.v,F.e6.v,Y H.ig,H.gB.v,H.fZ.v]⟩,Y 0],(nW (by rw[show(fV (.tmp 6)).run _=pt (G+1+1) 0 from by kernel_rfl];exact jO mN j1 C rfl) U),?_⟩
  exact⟨rfl,od,(((j.trans m).trans E).trans J)⟩
theorem Xd(F:ji)(H:lN)(k:Nat)(O:Ht)(G:Nat)(u:km O G F)(hH:nc O G H)(S:∀r∈F.e6.l,Ab r<=60)(b:ur F H)(hk:k<F.e6.l.length):WF ex 12 [.agg (gK F).toArray,.agg (j5 H).toArray,Y (.ofNat k)] O G (fG G O (YA F H k)):=by
 refine wd Tryz.f12 28 [.tmp 6,.tmp 7,.tmp 8] fun hE=>?_
 obtain⟨x,hx⟩:∃x,F.e6.l[k]?=some x:=⟨_,ff hk⟩
 obtain⟨c,hc⟩:∃c,H.fZ.l[k]?=some c:=⟨_,ff (by rw[b.ZN];exact hk)⟩
 obtain⟨o,B,_⟩:=b.Jx x (cs hx)
 have y:=b.at hc hx B
 obtain⟨e,he⟩:∃e,o.l[c.mA.toNat]?=some e:=⟨_,ff (by have h1:=y.1;have D:=y.2.1;omega)⟩
 have R:e.jV=false->0<=e.lh->e.lh.toNat<H.gB.l.length:=fun h D=>by have:=(b.KQ.Vb (cs hx) (cs B) e (cs he)).2 h;rw[b.N2];omega
 refine sr<|oB (.agg (gK F).toArray) (gK F) fun jq iC hU=>?_
 refine oB (.agg (j5 H).toArray) (j5 H) fun N z E=>?_
 have m:=(hE.trans iC).trans z
 refine oN 3<|sr<|WO.cons (WC.im G (0) (gK F) U pm ou (z.get hU) rfl<|WO.cons (WC.im (G+1) (0) (j5 H) U AZ zh E rfl<|oX 1<|oC 14 (YB F H k N (G+1+1) (u.mono m) (hH.mono m) S b hk) ?_))
 rintro _ X j ⟨rfl,xq,jx⟩
 refine oX 3<|oA [.slice none (0) 0,.slice none (0) 0,.slice none (0) 0,.slice none (0) 0,Y 0,.slice none (0) 0,.slice none (0) 0] FE fun aa L J=>?_
 refine oS j (0) (.agg ⟨[F.fq.fp.v,F.fq.gz.v,F.gb.v,F.e6.v,Y H.ig,H.gB.v,H.fZ.v]⟩) [F.fq.fp.v,F.fq.gz.v,F.gb.v,F.e6.v,Y H.ig,H.gB.v,H.fZ.v] [F.fq.fp.v,F.fq.gz.v,F.gb.v,F.e6.v,Y H.ig,H.gB.v,H.fZ.v] j1 rfl (e7.2 ⟨rfl,e7.2 ⟨u.fq.fp.one,e7.2 ⟨u.fq.gz.1.one,e7.2 ⟨u.gb.one,e7.2 ⟨u.e6.1.one,e7.2 ⟨rfl,e7.2 ⟨hH.gB.one,e7.2 ⟨hH.fZ.one,rfl⟩⟩⟩⟩⟩⟩⟩⟩) J fun A M K W=>?_
 have p:=((m.trans jx).trans L).trans M
 refine oN 1<|WP.seq<|sr<|oN 2<|WP.cond false U (fun C=>by cases C) (fun C=>?_)
 refine WP.skip<|sr<|WO.cons (WC.im j (0) [F.fq.fp.v,F.fq.gz.v,F.gb.v,F.e6.v,Y H.ig,H.gB.v,H.fZ.v] U mN j1 K rfl<|oX 1<|oC 23 (Yz ⟨F,H⟩ k H.ig.toNat c.mA.toNat x c o e A (j+1) (⟨u.mono p,hH.mono p⟩:th A (j+1) ⟨F,H⟩) hx hc (nat_eq b.w0) B (nat_eq y.1) he R) ?_)
 rintro _ pH oK ⟨rfl,Cp,oJ⟩
 refine oN 5<|sr<|oW 5 ⟨rfl,rfl,[Y (B5 H e c),.bool (!e.jV),Y 0],U,?_⟩
 exact⟨⟨B5 H e c,!e.jV,rfl,x,c,e,hx,hc,by rw[F2 B];exact he,rfl,(Bool.not_not _)⟩,od,(p.trans oJ)⟩
end
end Sw
namespace Sw
noncomputable section
open Go Go.Proofs Go.RowKit
set_option maxRecDepth 100000
set_option maxHeartbeats 16000000
theorem Xe{F:ji}{B:List Int}{M:List ic}(h:M.map some=B.map (tV F)){i:Nat}{b:Int}{x:ic}(hb:B[i]?=some b)(hx:tV F b=some x):M[i]?=some x:=by
 have:=congrArg (fun l=>l[i]?) h
 simp only[List.getElem?_map,hb,Option.map_some,hx]at this
 cases e:M[i]? with
 |none=>rw[e]at this;simp at this
 |some y=>rw[e]at this;simpa using this
theorem xb.nil{C:j4}{F:ji}{r:qz}{T:tB}{z:Int}(h:xb C F r T z)(b:z≠0):T.qx.l=[]:=by
 cases h<;>first|assumption|exact absurd rfl b
theorem xb.ok0{C:j4}{F:ji}{r:qz}{T:tB}{z:Int}(h:xb C F r T z)(b:z=0):∃M,nP C r=0/\M.map some=r.iB.l.map (tV F)/\sW F.fq M (vk F (F.gb.l.length+1)) T.qx.l T.jV:=by
 cases h with
 |qK h1=>exact absurd b h1
 |KQ=>exact absurd b (by decide)
 |find=>exact absurd b (by decide)
 |lim _ _ _ h=>rcases h with rfl|rfl<;>exact absurd b (by decide)
 |ok h1 _ h3 h4=>exact⟨_,h1,h3,h4⟩
theorem Vn(F:ji)(H:lN)(z:Int)(k:Nat)(m:z=.ofNat k)(O:Ht)(G:Nat)(j:km O G F)(hH:nc O G H)(e:∀r∈F.e6.l,Ab r<=60)(b:ur F H)(hk:k<F.e6.l.length):WF ex 12 [.agg (gK F).toArray,.agg (j5 H).toArray,Y z] O G (fG G O (YA F H k)):=by
 subst m;exact Xd F H k O G j hH e b hk
theorem Lo(qn:yx)(qJ:wC)(cL:zr)(C:j4)(F:ji)(r:qz)(H:lN)(O:Ht)(G:Nat)(br:oV O G C)(aF:km O G F)(hr:xn O G r)(hH:nc O G H)(hlen:C.nQ.l.length<=2932031007403)(bn:∀(eZ:Ht) (e5:Nat),G<=e5->HE G O eZ->WF ex 5 [] eZ e5 (fG e5 eZ (ga True))):WF ex 4 [.agg (iM C).toArray,.agg (gK F).toArray,.agg (pe r).toArray,.agg (j5 H).toArray] O G (fG G O (ga True)):=by
 refine wd Tryz.f4 100 [.tmp 8] fun hE=>sr<|oB (.agg (iM C).toArray) (iM C) fun jq iC hU=>?_
 refine oB (.agg (gK F).toArray) (gK F) fun cX aX bJ=>?_
 refine oB (.agg (pe r).toArray) (pe r) fun cQ jx bK=>?_
 refine oB (.agg (j5 H).toArray) (j5 H) fun bN ag bL=>?_
 have aN:=(((hE.trans iC).trans aX).trans jx).trans ag
 refine oN 1<|WP.seq<|sr<|oD 19 (bn bN (G+1+1+1+1) om aN) fun cT cd bO bQ cM W=>?_
 have aO:=aN.trans W
 have aS:=W.get (ag.get (jx.get (aX.get hU)))
 refine oq 20 (nN cd) fun cU ce=>WO.nil<|cq ce (fun bB=>?_) (fun bB=>?_)
 ·
  refine sr<|oW 1 ⟨rfl,rfl,[.bool false],U,?_⟩
  simp at bB
 ·
  refine WP.skip<|WP.seq<|sr<|WO.cons (WC.im G (0) (iM C) U xT vU aS rfl<|oC 22 (Nj C bO (bQ) (br.mono aO)) ?_)
  rintro _ aZ a7 ⟨⟨aq,rfl,cS⟩,cN,X⟩
  have cf:aq=true↔(aq=true):=gf
  have aP:=aO.trans X
  have aT:=X.get (W.get (ag.get (jx.get bJ)))
  refine oq 23 (nN cf) fun S bz=>oX 1<|xJ 24 S (.agg (gK F).toArray) (by rintro rfl;exact WC.im (G+1) (0) (gK F) U pm ou aT rfl rfl)<|WO.cons (WC.gq (!S) (GI (!S) (V3 F) (a7) aZ) (.bool S) (g:=fV (.tmp 24)) rfl U (by cases S<;>rfl) (fun h=>by obtain rfl:S=false:=(by simpa using h);have cr:¬(¬(aq=true)):=(fun k=>absurd ((bz).2 k) (by decide));exact WC.call 26 7 ([.agg (gK F).toArray]) kf ((Ur F aZ (a7) (aF.mono aP)).mono fun v eZ e5 ⟨⟨c,aG,hc⟩,hn,he⟩=>⟨_,_,_,rfl,⟨c,aG,hc⟩,hn,he⟩)) (fun h=>GI.off h) ?_)
  rintro _ a6 a8 ⟨⟨aK,rfl,a_⟩,cO,xy⟩
  have cj:aK=true↔(aK=true):=gf
  have al:=aP.trans xy
  have aU:=xy.get aT
  have aV:=xy.get (X.get (W.get (ag.get bK)))
  have aW:=xy.get (X.get (W.get bL))
  refine nm 24 S (nN cj) fun cV ck=>?_
  refine mz 28 (nO bz ck) fun ar cm=>oX 1<|gF 29 ar (pt (G+1+1) 0) ?_
  obtain⟨ap,au,u⟩:=hr.iB.shape
  have cC:=hr.iB.2.2
  refine nF 29 ar (G+1+1) 0 (.slice ap (r.iB.l.length) au) lF aV (by rw[<-u];rfl)<|gF 29 ar (Y (.ofNat (r.iB.l.length))) ?_
  refine nm 29 ar (nE 20 r.iB.l.length) fun cW cn=>?_
  refine mz 34 (nO cm cn) fun K bA=>oX 1<|xJ 35 K (.agg (gK F).toArray) (by rintro rfl;exact WC.im (G+1) (0) (gK F) U pm ou aU rfl rfl)<|xJ 35 K (.agg (j5 H).toArray) (by rintro rfl;exact WC.im (G+1+1+1) (0) (j5 H) U AZ zh aW rfl rfl)<|WO.cons (WC.gq (!K) (Wa (!K) (ur F H) (a8) a6) (.bool K) (g:=fV (.tmp 35)) rfl U (by cases K<;>rfl) (fun h=>by obtain rfl:K=false:=(by simpa using h);have cr:¬(((¬(aq=true))\/(¬(aK=true)))\/((20)<((r.iB.l.length:Nat):Int))):=(fun k=>absurd ((bA).2 k) (by decide));exact WC.call 38 10 ([.agg (gK F).toArray,.agg (j5 H).toArray]) kf ((Ts F H a6 (a8) (aF.mono al) (hH.mono al) (fun r hr=>(((a_) (fg.1 (fun h=>cr (.inl (.inr h))))).each r hr).2.2)).mono fun v eZ e5 ⟨⟨c,aG,hc⟩,hn,he⟩=>⟨_,_,_,rfl,⟨c,aG,hc⟩,hn,he⟩)) (fun h=>Wa.off h) ?_)
  rintro _ bP bR ⟨⟨b6,rfl,bp⟩,cP,B⟩
  have A:=al.trans B
  have ax:=B.get aU
  have ay:=B.get aV
  refine nm 35 K (qG b6 0) fun cG bS=>?_
  refine mz 40 (nO bA bS) fun cH bT=>WO.nil<|cq bT (fun bc=>?_) (fun bc=>?_)
  ·
   refine sr<|oW 1 ⟨rfl,rfl,[.bool true],U,?_⟩
   exact⟨⟨true,rfl,fun _=>trivial,fun _=>rfl⟩,od,A⟩
  ·
   refine WP.skip<|sr ?_
   have b_:=bc
   have ad:ur F H:=(bp).1 (fg.1 fun k=>b_ (.inr k))
   have bw:∀r∈F.e6.l,Ab r<=60:=fun r hr=>(((a_) (fg.1 (fun h=>b_ (.inl (.inl (.inr h)))))).each r hr).2.2
   refine WO.cons (WC.im G (0) (iM C) U xT vU (B.get (xy.get (X.get aS))) rfl<|WO.cons (WC.im (G+1) (0) (gK F) U pm ou ax rfl<|WO.cons (WC.im (G+1+1) (0) (pe r) U PF NZ ay rfl<|oC 45 (Ve qn qJ cL C F r bP (bR) (br.mono A) (aF.mono A) (hr.mono A) hlen bw) ?_)))
   rintro _ bj e ⟨T,z,rfl,ac,bt,cu,L⟩
   refine oX 3<|oA [Y 0,.slice none (0) 0,.bool false] N0 fun cz E be=>?_
   refine oS e (0) (.agg (tM T).toArray) (tM T) (tM T) nJ rfl (e7.2 ⟨rfl,MM _ ac⟩) be fun bk aB az ah=>?_
   have av:=((A.trans L).trans E).trans aB
   refine oN 1<|WP.seq<|sr<|oX 1 ?_
   refine oq 49 (qG z 0) fun cI bU=>WO.nil<|cq bU (fun an=>?_) (fun an=>?_)
   ·
    refine sr<|oX 1 ?_
    obtain⟨bC,bE,bo⟩:=ac.qx.shape
    have ca:=ac.qx.2.2
    refine oZ e (0+1) (.slice bC (T.qx.l.length) bE) nY az (by rw[<-bo];rfl)<|oX 1 ?_
    refine oq 53 (vK T.qx.l.length 0) fun aI bV=>oW 1 ⟨rfl,rfl,[.bool aI],U,?_⟩
    exact⟨⟨aI,rfl,fun _=>trivial,fun _=>(bV).2 (by rw[bt.nil an];rfl)⟩,od,av⟩
   ·
    refine WP.skip<|sr ?_
    obtain⟨M,bu,ab,bs⟩:=bt.ok0 (fg.1 an)
    refine oN 1<|sr<|oN 1<|WP.seq<|sr<|oN 1<|WP.block ?_
    refine mg [5,6,7,9,11,12,13] (fun m hs ns vs=>∃(b:Nat) (aH:Int) (o:Bool),b+m=r.iB.l.length/\vs=[pt (G+1) 0,pt (G+1+1) 0,pt (G+1+1+1) 0,pt e 0,Y aH,.bool o,Y (.ofNat b)]/\e+1<=ns/\HE (e+1) bk hs/\(yI F H (M.take b) aH o)) ?_ (r.iB.l.length) ?_
    ·
     rintro cD ai aD _ ⟨b,aH,o,b7,rfl,bh,p,aQ⟩ ct
     have y:=av.trans p
     have ae:=p.get ((ah (G+1) om).trans (E.get (L.get ax)))
     have af:=p.get ((ah (G+1+1) om).trans (E.get (L.get ay)))
     have aA:=p.get az
     have aE:o=true↔(o=true):=gf
     refine WP.seq<|sr<|oX 2<|oZ (G+1+1) 0 (.slice ap (r.iB.l.length) au) lF af (by rw[<-u];rfl)<|oX 1 ?_
     refine oq 58 (kL b r.iB.l.length) fun cJ bW=>WO.nil<|cq bW (fun b4=>?_) (fun b4=>?_)
     ·
      refine WP.skip<|WP.seq<|WP.block<|WP.seq<|WP.qN [⟨[0,1,2,3,4,5],[0,1,2,3,4,5],some 6⟩,⟨[7,8,9],[7,8,9],some 10⟩,⟨[],[9],some 11⟩,⟨[],[],none⟩] U _ rfl<|WD.kQ<|WN.hQ rfl (WC.im (G+1) (0) (gK F) U pm ou ae rfl<|nv 63 (pt (G+1+1) 0)<|WN.hQ rfl (WC.jP (G+1+1) 0 (.slice ap (r.iB.l.length) au) U lF af (by rw[<-u];rfl)<|nv 65 (Y (.ofNat b)) ?_))
      have aa:b<r.iB.l.length:=by omega
      refine WN.hQ rfl (WC.iy u hr.iB (b) lG kp (aa) ?_)
      obtain⟨aj,R⟩:=gE aa
      refine WN.hQ rfl (WC.lz (Y aj) u (hr.iB.mono y nR) R rfl ft<|WN.nil ⟨?_,?_⟩)
      ·
       refine co (.agg (gK F).toArray) (j9 ex.T ai.get 41 (pt (G+1) 0)) (jO pm ou ae rfl) (E8 F aF)<|cv (pt (G+1+1) 0) (iK ..)<|p7 (G+1+1) 0 (.slice ap (r.iB.l.length) au) lF af (by rw[<-u];rfl) (u▸hr.iB.js 8)<|ci (.ofNat b)<|yL u hr.iB (b) lG kp (aa)<|Gs (Y aj) u (hr.iB.mono y nR) R rfl ft (iz ..) ?_
       exact iX.nil
      refine WC.at rfl (WC.call 68 11 ([.agg (gK F).toArray,Y aj]) kf ((M3 F (aj) ai (aD) (aF.mono y)).mono ?_))
      rintro _ bl bq ⟨⟨z194,j,rfl,aY⟩,cw,N⟩
      have bX:j=true↔(j=true):=gf
      have aw:=y.trans N
      refine WD.kQ<|nv 61 (.tuple ⟨[Y z194,.bool j]⟩)<|nv 69 (Y z194)<|nv 70 (.bool j)<|WN.nil ⟨?_,?_⟩
      ·
       refine cv (.tuple ⟨[Y z194,.bool j]⟩) (Ph 7 _ (by intro v aG;simp only[List.mem_cons,List.not_mem_nil,or_false]at aG;rcases aG with rfl|rfl<;>first|exact iz ..|exact iH ..)) ?_
       refine ci (z194)<|cv (.bool j) (iH 8 j) ?_
       exact iX.nil
      refine WC.at rfl (WC.val 14 (Y z194) kf<|WD.kQ<|WN.nil ⟨?_,?_⟩)
      ·
       refine cv (.bool j) (iH 8 j) ?_
       exact iX.nil
      refine WC.at rfl (WC.val 15 (.bool j) kf<|WD.last<|WN.nil ⟨?_,?_⟩)
      ·
       exact iX.nil
      refine sr<|WO.cons (WC.im (G+1) (0) (gK F) U pm ou (N.get ae) rfl<|WO.cons (WC.im (G+1+1+1) (0) (j5 H) U AZ zh (N.get (p.get ((ah (G+1+1+1) om).trans (E.get (L.get (B.get aW)))))) rfl ?_))
      obtain⟨k,cY,cc,bM,bx,b8⟩:=(yp.tV aY).resolve_left (fun h=>NW ab _ (cs R) h.2)
      refine oX 1<|oC 75 (Vn F H (z194) k cc bl (bq) (aF.mono aw) (hH.mono aw) bw ad (yJ bx)) ?_
      rintro _ cA cE ⟨⟨n,b5,rfl,b9⟩,cx,bf⟩
      have cp:b5=true↔(b5=true):=gf
      refine oN 7<|WP.seq<|sr<|oX 1 ?_
      refine oq 80 (nN bX) fun J bY=>oX 1<|gF 81 J (Y 0)<|gF 81 J (.bool false)<|WO.cons (WC.me (v:=.bool J) 84 (kZ (.bool J) (.bool true) ((bif !J then .bool false else undef))) kf (by cases J<;>rfl) ?_)
      refine WO.nil<|cq bY (fun bd=>?_) (fun bd=>?_)
      ·
       refine sr<|oW 1 ⟨rfl,rfl,[.bool false],U,?_⟩
       exact absurd bM bd
      ·
       refine WP.skip<|sr<|oX 2<|gF 86 o (.bool b5) ?_
       obtain⟨cK,aL,bZ⟩:=nN cp
       refine ZI 86 o aL ?_
       obtain⟨bG,aM,cR⟩:=nO aE bZ
       refine pO 89 aM<|oN 1<|WP.region<|oN 4<|WP.region<|oX 1<|ov 60 (Y (.ofNat (b+1))) ?_ (fun _ _ _=>by rw[<-gM (show b+1<9223372036854775808 by omega)];kernel_rfl)
       refine oN 1<|⟨r.iB.l.length-(b+1),om,rfl,rfl,b+1,gn .i64 ((aH)+(n)),bG,om,U,?_,?_,?_⟩
       · exact od
       · exact((p.trans N bh).trans bf)
       · rw[List.take_add_one,Xe ab R b8,Option.toList_some,aM,aL];exact aQ.snoc bx b9
     ·
      refine WP.exit<|WP.seq<|sr<|oN 1<|cq aE (fun ao=>?_) (fun ao=>?_)
      ·
       refine sr<|oX 1 ?_
       obtain⟨ak,bI,b0⟩:=@nb (T.jV) (T.jV=true) (by first|done|exact gf)
       refine oZ e (0+2) (.bool ak) w8 aA (by rw[bI];rfl)<|oW 1 ⟨rfl,rfl,[.bool ak],U,?_⟩
       have aR:M.take b=M:=fy (by have h1:=congrArg List.length ab;rw[List.length_map,List.length_map]at h1;omega)
       rw[aR]at aQ
       have am:=KR ad bu ab bs aQ
       exact⟨⟨ak,rfl,fun _=>trivial,fun _=>(b0).2 (am.1 ao)⟩,od,y⟩
      ·
       refine WP.skip<|sr<|oX 1 ?_
       obtain⟨bD,bH,aC⟩:=ac.qx.shape
       have cb:=ac.qx.2.2
       refine oZ e (0+1) (.slice bD (T.qx.l.length) bH) nY aA (by rw[<-aC];rfl)<|oX 1<|WO.cons (WC.call 99 13 ([T.qx.v,Y aH]) (fun _ _ _=>by(try rw[aC]);kernel_rfl) ((Tl T.qx (aH) ai (aD) (ac.qx.mono ((((HE.refl (e) bj).trans E).trans aB).trans p))).mono ?_))
       rintro _ cB cF ⟨⟨aJ,rfl,b3⟩,cy,bg⟩
       refine oW 1 ⟨rfl,rfl,[.bool aJ],U,?_⟩
       have aR:M.take b=M:=fy (by have h1:=congrArg List.length ab;rw[List.length_map,List.length_map]at h1;omega)
       rw[aR]at aQ
       have am:=KR ad bu ab bs aQ
       exact⟨⟨aJ,rfl,fun _=>trivial,fun _=>(b3).2 (am.2 (gy.2 ao))⟩,od,(y.trans bg)⟩
    ·
     exact⟨0,0,false,om,U,e9 _,HE.refl _ _,.nil⟩
end
end Sw
namespace Sw
noncomputable section
open Go Go.RowKit
section
variable {P:Program}{O:Ht}{G:Nat}
theorem Rp.J8{k:Nat}{t:TypeId}{j:List Value}{ts:List TypeId}(hu:BR P t=some ts)(h:Rp P O G k t j):∃n lss,k=n+1/\j=lss.flatten/\wz P O G n ts lss:=by
 cases k with
 |zero=>exact h.elim
 |succ n=>
  unfold BR at hu
  unfold Rp at h
  split at hu
  · rename_i fs e
    cases hu
    rw[e]at h
    obtain⟨lss,h1,D,h3⟩:=h
    refine⟨n,lss,rfl,h1,wz.of _ _ (by simpa using D) fun i t l a b=>?_⟩
    rw[List.getElem?_map,Array.getElem?_toList,Option.map_eq_some_iff]at a
    obtain⟨f,hf,rfl⟩:=a
    exact(h3 i f l hf b).1
  · cases hu
theorem Rp.De{α:Type}{enc:α->List Value}{m:Nat}{E:Nat->α->Prop}{k:Nat}{t e:TypeId}{y:List Value}(hu:P.underlying t=some (.slice e))(hlen:∀x,(enc x).length=m)(he:∀j,k=j+1->∀l,Rp P O G j e l->∃x:α,l=enc x/\E j x)(h:Rp P O G k t y):
 ∃(j:Nat) (s:SV α),k=j+1/\y=[s.v]/\gx enc m O G s/\(∀x∈s.l,E j x)/\s.l.length*P.bytesOf e<=reachBytes:=by
 cases k with
 |zero=>exact h.elim
 |succ n=>
  unfold Rp at h;rw[hu]at h
  rcases h with rfl|rfl|⟨b,len,cap,lss,rfl,h0,p,o,hb,z,hl,hr⟩
  · exact⟨n,⟨_,[]⟩,rfl,rfl,⟨fun x h=>(by cases h),.inl ⟨rfl,.inl rfl⟩,by show(0:Nat)<_;decide⟩,fun x h=>(by cases h),by show(0:Nat)*_<=_;rw[Nat.zero_mul];exact gG _⟩
  · exact⟨n,⟨_,[]⟩,rfl,rfl,⟨fun x h=>(by cases h),.inl ⟨rfl,.inr ⟨0,rfl⟩⟩,by show(0:Nat)<_;decide⟩,fun x h=>(by cases h),by show(0:Nat)*_<=_;rw[Nat.zero_mul];exact gG _⟩
  · obtain⟨xs,rfl,u⟩:=Hb lss fun l hl=>he n rfl l (hr l hl).1
    rw[List.length_map]at hl
    refine⟨n,⟨_,xs⟩,rfl,rfl,⟨fun x _=>hlen x,.inr ⟨b,cap,_,by rw[<-hl],h0,hb,by rw[z,List.flatMap_def],by show xs.length<=cap;omega,.inl rfl⟩,?_⟩,u,?_⟩
    · have:reachBytes<281474976710656:=by decide
      have:=o.1
      show xs.length<_
      omega
    · show xs.length*_<=_
      rw[hl]
      exact e8 (gH _ p) o.2
end
theorem tA.up:∀{n:Nat} {O:Ht} {G:Nat} {c:RCond},tA n O G c->tA (n+1) O G c
 |0,_,_,_,h=>h.elim
 |_+1,_,_,_,h=>⟨⟨h.1.1,fun x hx=>(h.1.2 x hx).up⟩,h.2⟩
theorem qO.up:∀{n:Nat} {O:Ht} {G:Nat} {c:RStep},qO n O G c->qO (n+1) O G c
 |0,_,_,_,h=>h.elim
 |_+1,_,_,_,h=>⟨h.1,⟨h.2.1.1,fun x hx=>(h.2.1.2 x hx).up⟩,⟨h.2.2.1.1,fun x hx=>(h.2.2.1.2 x hx).up⟩,h.2.2.2⟩
end
end Sw
namespace Sw
noncomputable section
open Go Go.Proofs Go.RowKit
set_option maxRecDepth 100000
theorem Zg:yx:=fun O G=>.XS (ng:=12) (oO:=[AG]) (by kernel_rfl) (show zn 12 [AG] [] O G=some (.agg Fp.toArray,O,G)by kernel_rfl) ⟨rfl,e9 _,HE.refl _ _⟩
theorem YC:wC:=fun a b O G h=>by
 have hK:ex.K 348=some FV:=by kernel_rfl
 refine⟨.bool (Lib.contains (strs a) (strs b)),O,G,⟨0,fun n _ Z k=>?_⟩,⟨_,rfl,gf⟩,e9 _,HE.refl _ _⟩
 simp only[nh,hK,FV,mE.2 h,cond_true]
theorem YD:zr:=Ul (by kernel_rfl)
end
end Sw
