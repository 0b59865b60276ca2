/- A part of the proof that the law returns true for every input that its row speaks of. No condition is added. -/
import Derived.Test.YtecbgehgkpgbmaaGreatDoorSwAF
import Derived.Test.YtecbgehgkpgbmaaGreatDoorSwAG
namespace Sw
noncomputable section
open Go Go.Proofs Go.RowKit
set_option maxRecDepth 100000
set_option maxHeartbeats 1600000
def JQ(l:List Int):Value->Prop:=fun v=>(v=Y 0/\∀x∈l,x=0)\/∃(i:Nat) (x:Int),v=Y x/\l[i]?=some x/\x≠0/\∀(j:Nat) (y:Int),j<i->l[j]?=some y->y=0
theorem JQ.two{a b:Int}{v:Value}(h:JQ [a,b] v):v=Y (vg a b):=by
 rcases h with⟨rfl,h⟩|⟨i,x,rfl,h1,D,h3⟩
 · have e:=h a (by simp)
   have hb:=h b (by simp)
   subst e hb;rfl
 · match i,h1 with
   |0,h1=>cases h1;unfold vg;rw[if_pos D]
   |1,h1=>
    cases h1
    have:=h3 0 a om rfl
    subst this;rfl
   |n+2,h1=>simp at h1
def Zt(p s:sf):Prop:=p.jf<s.jf\/(p.jf=s.jf/\p.kA<s.kA)
theorem PJ(a b c d:Int):0<=vg (jr a c) (jr b d)↔¬(a<c\/(a=c/\b<d)):=by
 unfold vg jr
 repeat' split
 all_goals omega
def Wk(l:List sf)(j:Nat)(s:sf):Prop:=0<=s.jf/\s.jf<40/\0<=s.kA/\s.kA<=255/\(-1099511627776<=s.p_/\s.p_<=1099511627776)/\(0<j->∀p,l[j-1]?=some p->Zt p s)
def Wl(n j:Nat)(r:SV Int):Prop:=r.l.length=n+1/\r.l[j]?=some 0/\∀w∈r.l,¬(w< -2199023255552\/2199023255552<w)
def LV(K:kg)(i j m:Nat):Prop:=∀(e o:SV Int) (a b c:Int),K.gD.l[i]?=some e->e.l[j]?=some a->K.gD.l[j]?=some o->o.l[m]?=some b->e.l[m]?=some c->c<=gy .i64 (a+b)
structure ub(K:kg):Prop where
 Yp:K.fw.l.length<=511
 Wm:K.gD.l.length=K.fw.l.length+1
 Eu:∀(j:Nat) (s:sf),K.fw.l[j]?=some s->Wk K.fw.l j s
 row:∀(j:Nat) (r:SV Int),K.gD.l[j]?=some r->Wl K.fw.l.length j r
 tri:∀i j m,LV K i j m
def uJ(K:kg)(x:jg):Prop:=(x.j2=true->x=⟨true,-1,0,0⟩)/\(x.j2=false->-1<=x.lA/\x.lA<(K.fw.l.length:Nat)/\-288230376151711744<=x.hY/\x.hY<=x.gY/\x.gY<=288230376151711744)
def rL(F:jq)(w:Nat):Prop:=∀r∈F.fc.l,∃o,r.fV.l[w]?=some o/\o.l≠[]
def Yq(F:jq):Prop:=∃w,w<=F.gj.l.length/\rL F w
def Aq(r:im):Nat:=(r.fV.l.map (fun o=>o.l.length)).sum
structure Wn(F:jq):Prop where
 aaZ:F.fc.l.length<=6
 abh:F.gj.l.length<=3
 each:∀r∈F.fc.l,r.lE.l.length<=8/\r.fV.l.length<=5/\Aq r<=60
def yG(F:jq)(b:Int)(z:Int)(c:Bool):Prop:=(z=0/\c=false/\∀r∈F.fc.l,r.nG≠b)\/∃(i:Nat) (r:im),z=.ofNat i/\c=true/\F.fc.l[i]?=some r/\r.nG=b/\∀(j:Nat) (y:im),j<i->F.fc.l[j]?=some y->y.nG≠b
def Zu(F:jq)(b:Int):Value->Prop:=fun v=>∃z c,v=.tuple ⟨[Y z,.bool c]⟩/\yG F b z c
theorem yG.same{F:jq}{b z p:Int}{c e:Bool}(h:yG F b z c)(u:yG F b p e):z=p/\c=e:=by
 rcases h with⟨rfl,rfl,h⟩|⟨i,r,rfl,rfl,h1,D,h3⟩<;>rcases u with⟨rfl,rfl,k⟩|⟨j,s,rfl,rfl,m,o,y⟩
 · exact⟨rfl,rfl⟩
 · exact absurd o (h s (fa m))
 · exact absurd D (k r (fa h1))
 · rcases Nat.lt_trichotomy i j with q|q|q
   · exact absurd D (y i r q h1)
   · subst q;exact⟨rfl,rfl⟩
   · exact absurd o (h3 j s q m)
structure sh(F:jq):Prop where
 Sr:ub F.fx
 np:F.gj.l.length<=16
 nr:1<=F.fc.l.length
 nr2:F.fc.l.length<=4000
 pair:∀(j:Nat) (p:AR),F.gj.l[j]?=some p->(1<=p.fA/\p.fA<p.fB/\p.fB<=9999)/\(0<j->∀q,F.gj.l[j-1]?=some q->q.fA<p.fA\/(q.fA=p.fA/\q.fB<p.fB))
 run:∀(j:Nat) (r:im),F.fc.l[j]?=some r->((1<=r.nG/\r.nG<=9999)/\(0<j->∀q,F.fc.l[j-1]?=some q->q.nG<r.nG))/\(∀q,F.fc.l[0]?=some q->r.lE.l.length=q.lE.l.length)/\r.fV.l.length=F.gj.l.length+1
 out:∀(j:Nat) (r:im),F.fc.l[j]?=some r->∀o∈r.fV.l,∀x∈o.l,uJ F.fx x
 JR:Yq F
theorem PK:∃i,ex.T.kn 153=some i/\i.bytes<=1024:=by
 cases h:ex.T.kn 153 with
 |none=>exact absurd (show(ex.T.kn 153).isSome=true by kernel_rfl) (by rw[h];decide)
 |some i=>
  refine⟨i,rfl,?_⟩
  have:((ex.T.kn 153).map fun i=>Nat.ble i.bytes 1024)=some true:=by kernel_rfl
  rw[h]at this
  exact fk (gb this)
theorem UH{n:Nat}(h:n<2147483648):pR ex.T 3 (Y (.ofNat n))=some (n,true):=by
 have hu:ex.T.jo 3=some (.int .i64):=by kernel_rfl
 have hb:Nat.blt n 2147483648=true:=mN.2 h
 simp only[pR,hu,hb,cond_true]
theorem W4{a:Option Addr}{k c:Nat}:pR ex.T 117 (.slice a k c)=some (k,false):=by
 have hu:ex.T.jo 117=some (.slice 153):=by kernel_rfl
 simp only[pR,hu]
def Zv(W:SV (SV jg)):Value->Ht->Nat->Prop:=fun v O G=>∃J:SV jg,v=J.v/\J.l=W.l.flatMap (·.l)/\gB gU 4 O G J
theorem JS(x y:jg):yq ex.T 12 153 (.agg (gU x).toArray) (.agg (gU y).toArray)=(bif (x.j2==y.j2)then(bif (kN x.lA y.lA)then(bif (kN x.hY y.hY)then(bif (kN x.gY y.gY)then(some true)else(some false))else(some false))else(some false))else(some false)):=by kernel_rfl
theorem JV(x y:jg):((x.j2==y.j2)&&(kN x.lA y.lA)&&(kN x.hY y.hY)&&(kN x.gY y.gY))=true↔x=y:=by
 constructor
 · intro h;cases x;cases y;simp only[Bool.and_eq_true,lS,beq_iff_eq,rJ]at h;obtain h:=h;simp_all
 · rintro rfl;simp only[Bool.and_eq_true,lS,beq_iff_eq,rJ,and_self]
theorem JW(x y:jg):yq ex.T 12 153 (.agg (gU x).toArray) (.agg (gU y).toArray)=some ((x.j2==y.j2)&&(kN x.lA y.lA)&&(kN x.hY y.hY)&&(kN x.gY y.gY)):=by
 rw[JS]
 (cases(x.j2==y.j2))<;>(cases(kN x.lA y.lA))<;>(cases(kN x.hY y.hY))<;>(cases(kN x.gY y.gY))<;>rfl
theorem Da(xo yo:Operand)(x y:jg){c:Bool}(e:c=@decide (x=y) (Classical.propDecidable _)):Ac ex.T .eql 153 xo yo (.agg (gU x).toArray) (.agg (gU y).toArray)=some (.bool c):=by
 have h1:Ac ex.T .eql 153 xo yo (.agg (gU x).toArray) (.agg (gU y).toArray)=(yq ex.T 12 153 (.agg (gU x).toArray) (.agg (gU y).toArray)).map .bool:=by kernel_rfl
 have D:((x.j2==y.j2)&&(kN x.lA y.lA)&&(kN x.hY y.hY)&&(kN x.gY y.gY))=c:=by rw[e,Bool.eq_iff_iff,JV];exact(@decide_eq_true_iff _ (Classical.propDecidable _)).symm
 rw[h1,JW,D];rfl
theorem qz:ex.T.agg 114=some false:=U
theorem zn:ex.T.agg 116=some true:=U
theorem uc:ex.T.agg 117=some false:=U
theorem si:ex.T.agg 153=some true:=U
theorem BL:ex.T.agg 255=some true:=U
theorem fy:ex.T.agg 3=some false:=U
theorem zo:ex.T.agg 34=some false:=U
theorem sR:ex.T.agg 35=some false:=U
theorem xZ:ex.T.agg 37=some true:=U
theorem x_:ex.T.agg 38=some false:=U
theorem ow:ex.T.agg 39=some false:=U
theorem xp:ex.T.agg 4=some false:=U
theorem pF:ex.T.agg 41=some true:=U
theorem lO:ex.T.agg 42=some false:=U
theorem PL:ex.T.agg 84=some true:=U
theorem mS:ex.T.size 116=some 3:=U
theorem sI:ex.T.size 117=some 1:=U
theorem lB:ex.T.size 153=some 4:=U
theorem tO:ex.T.size 255=some 3:=U
theorem kH:ex.T.size 3=some 1:=U
theorem v8:ex.T.size 37=some 2:=U
theorem oJ:ex.T.size 41=some 4:=U
theorem ud:ex.T.size 42=some 1:=U
theorem BM:ex.T.size 84=some 2:=U
theorem ue:ex.T.jo 114=some (.slice 117):=U
theorem zp:ex.T.jo 117=some (.slice 153):=U
theorem JY:ex.T.jo 34=some (.slice 255):=U
theorem vt:ex.T.jo 35=some (.slice 42):=U
theorem W5:ex.T.jo 38=some (.slice 84):=U
theorem uy:ex.T.jo 39=some (.slice 116):=U
theorem lP:ex.T.jo 42=some (.slice 3):=U
theorem B_:ex.T.zero 116=some (.agg ⟨[Y 0,.slice none (0) 0,.slice none (0) 0]⟩):=U
theorem uK:ex.T.zero 153=some (.agg ⟨[.bool false,Y 0,Y 0,Y 0]⟩):=U
theorem Ss:ex.T.zero 255=some (.agg ⟨[Y 0,Y 0,Y 0]⟩):=U
theorem Bd:ex.T.zero 3=some (Y 0):=U
theorem Ng:ex.T.zero 84=some (.agg ⟨[Y 0,Y 0]⟩):=U
theorem Su(x:Int)(O:Ht)(G:Nat):WF ex 106 [Y x] O G (fL G O (gi (-1099511627776<=x/\x<=1099511627776))):=by
 refine wd Tryz.f106 9 [.tmp 2] fun hE=>sr<|oN 1<|sr<|oX 1 ?_
 obtain⟨c1,e1,p1⟩:=pS (-1099511627776) x
 refine ob 4 e1<|oX 1<|gT 5 c1 (Y x) ?_
 obtain⟨c2,e2,e⟩:=pS x 1099511627776
 refine Sf 5 c1 e2 ?_
 obtain⟨b,e3,j⟩:=nA p1 e
 refine pA 8 e3<|oW 1 ⟨rfl,rfl,[.bool b],U,?_⟩
 refine⟨⟨b,rfl,?_⟩,nR,hE⟩
 exact j
theorem IP(x:Int)(O:Ht)(G:Nat):WF ex 109 [Y x] O G (fL G O (gi (x< -2199023255552\/2199023255552<x))):=by
 refine wd Tryz.f109 9 [.tmp 2] fun hE=>sr<|oN 1<|sr<|oX 1 ?_
 refine oq 4 (mE x (-2199023255552)) fun c1 p1=>oX 1<|gF 5 c1 (Y x) ?_
 refine nH 5 c1 (mE 2199023255552 x) fun c2 e=>?_
 refine mI 8 (nO p1 e) fun b j=>oW 1 ⟨rfl,rfl,[.bool b],U,?_⟩
 refine⟨⟨b,rfl,?_⟩,nR,hE⟩
 exact j
theorem Lr{A:Int->Prop}(K:SV Int)(f:FuncId)(b:Array Value)(O:Ht)(G:Nat)(hK:gB encI 1 O G K)(hf:∀(i:Nat) (x:Int),K.l[i]?=some x->∀(e9:Ht) (e_:Nat),G<=e_->HE G O e9->WF ex f ((Y x)::b.toList) e9 e_ (fL e_ e9 (gi (A x)))):WF ex 207 [K.v,.func (.func f) #[] b] O G (fL G O (qf K.l A)):=by
 obtain⟨a1,c2,h_⟩:=hK.shape
 have mc:=hK.2.2
 rw[h_]
 refine wd Tryz.f207 19 [.tmp 4] fun hE=>sr<|oN 1<|WP.seq<|sr<|oN 3<|WP.block ?_
 refine mu [0,1,7,8] (fun m hs ns vs=>∃(fW:Nat),fW+m=K.l.length/\vs=[.slice a1 (K.l.length) c2,.func (.func f) #[] b,Y (.ofNat (K.l.length)),Y (.ofNat fW)]/\G<=ns/\HE (G) O hs/\(∀(j:Nat) (y:Int),j<fW->K.l[j]?=some y->¬A y)) ?_ (K.l.length) ?_
 ·
  rintro ya ql jd _ ⟨fW,uz,rfl,oR,jt,hinv⟩ uA
  have j9:=hE.trans jt
  refine sr ?_
  refine oq 9 (kT fW K.l.length) fun nI rY=>WO.nil<|WP.seq<|cq rY (fun xq=>?_) (fun xq=>?_)
  ·
   refine WP.skip<|WP.seq<|WP.block<|sr<|oN 2<|sr<|oX 3 ?_
   have nL:fW<K.l.length:=by omega
   refine WO.cons (WC.iy h_ hK (fW) lP kH (nL) ?_)
   obtain⟨lH,kM⟩:=gE nL
   refine WO.cons (WC.lz (Y lH) h_ (hK.mono j9 nR) kM rfl fy<|WO.cons (WC.call 16 f ((Y lH)::b.toList) kf ((hf fW lH kM ql (jd) om j9).mono ?_)))
   rintro _ JZ UI ⟨⟨Fv,rfl,Db⟩,UJ,uB⟩
   refine WO.nil<|cq Db (fun wZ=>?_) (fun wZ=>?_)
   ·
    refine sr<|oW 2 ⟨rfl,rfl,[Y (.ofNat fW)],U,?_⟩
    exact⟨.inr ⟨fW,lH,rfl,kM,wZ,hinv⟩,od,(j9.trans uB)⟩
   ·
    refine WP.skip<|WP.region<|ov 18 (Y (.ofNat (fW+1))) ?_ (fun _ _ _=>by rw[<-gQ (show fW+1<9223372036854775808 by omega)];kernel_rfl)
    refine oN 1<|⟨K.l.length-(fW+1),om,rfl,rfl,fW+1,om,U,?_,?_,?_⟩
    · exact od
    · exact(jt.trans uB oR)
    · intro j y hj hy;rcases fE.1 hj with hj|rfl;exact hinv j y hj hy;rw[kM]at hy;cases hy;exact wZ
  ·
   refine WP.exit<|sr<|oW 1 ⟨rfl,rfl,[Y (-1)],U,?_⟩
   refine⟨.inl ⟨rfl,fun y hy=>?_⟩,od,j9⟩
   obtain⟨j,hj⟩:=fS hy
   exact hinv j y (by have:=(fp.1 hj).1;omega) hj
 ·
  exact⟨0,om,U,fg _,HE.refl _ _,(fun j y h=>absurd h (fK _))⟩
theorem Fw{p:Prop}(h:p:=by
 obtain⟨a1,c2,h_⟩:=hK.shape
 have mc:=hK.2.2
 rw[h_]
 refine GM mL fun hE=>sr<|oN 1<|sr<|oX 2<|WO.cons (WC.call 7 _ ([K.v,.func (.func f) #[] b]) (fun _ _ _=>by(try rw[h_]);kernel_rfl) ((nM K f b O (G) hK hf).mono ?_))
 rintro Sv Ev IQ ⟨BX,Nh,pP⟩
 obtain⟨z8,rfl,Sx⟩:∃z:Int,Sv=Y z/\(0<=z↔∃x∈K.l,A x):=qf.sign BX
 refine oq 8 (pS 0 z8) fun nZ rZ=>oW 1 ⟨rfl,rfl,[.bool nZ],U,?_⟩
 exact⟨⟨nZ,rfl,rZ.trans Sx⟩,od,(hE.trans pP)⟩):p:=h
theorem xH{A:Int->Prop}(K:SV Int)(f:FuncId)(b:Array Value)(O:Ht)(G:Nat)(hK:gB encI 1 O G K)(hf:∀(i:Nat) (x:Int),K.l[i]?=some x->∀(e9:Ht) (e_:Nat),G<=e_->HE G O e9->WF ex f ((Y x)::b.toList) e9 e_ (fL e_ e9 (gi (A x)))):WF ex 108 [K.v,.func (.func f) #[] b] O G (fL G O (gi (∃x∈K.l,A x))):=by
 have mL:=fF (e:=ex) 108 Tryz.f108 9 [.tmp 4]
 have nM:=@Lr
 exact Fw
theorem Ni(x:Int)(O:Ht)(G:Nat):WF ex 133 [Y x] O G (fL G O (gi False)):=by
 refine wd Tryz.f133 6 [.tmp 2] fun hE=>sr<|oN 1<|sr<|oX 2 ?_
 refine oq 5 (qS x x) fun c1 p1=>oW 1 ⟨rfl,rfl,[.bool c1],U,?_⟩
 refine⟨⟨c1,rfl,?_⟩,nR,hE⟩
 exact p1.trans (by simp)
theorem IS(x y:Int)(O:Ht)(G:Nat):WF ex 82 [Y x,Y y] O G (fL G O (DO (jr x y))):=by
 refine wd Tryz.f82 20 [.tmp 4] fun hE=>sr<|oN 1<|sr<|oX 1<|oD 8 (Ni (x) O (G)) fun F A j o_ B iI=>?_
 refine oN 1<|sr<|oX 1<|oD 10 (Ni (y) j (o_)) fun nZ rZ C E z e=>?_
 have b:=(hE.trans iI).trans e
 refine oN 1<|WP.seq<|sr<|oN 1<|cq A (fun m=>?_) (fun m=>?_)
 ·
  refine WP.seq<|sr<|oN 1<|cq rZ (fun o=>?_) (fun o=>?_)
  ·
   refine sr<|oW 1 ⟨rfl,rfl,[Y 0],U,?_⟩
   refine⟨?_,od,b⟩
   show Value.int .i64 (0)=Y (jr x y)
   congr 1;unfold jr;split<;>(try split)<;>first|(exfalso;assumption)|omega
  ·
   refine WP.skip<|sr<|oW 1 ⟨rfl,rfl,[Y (-1)],U,?_⟩
   refine⟨?_,od,b⟩
   show Value.int .i64 (-1)=Y (jr x y)
   congr 1;unfold jr;split<;>(try split)<;>first|(exfalso;assumption)|omega
 ·
  refine WP.skip<|WP.seq<|sr<|oN 1<|cq rZ (fun p=>?_) (fun p=>?_)
  ·
   refine sr<|oW 1 ⟨rfl,rfl,[Y 1],U,?_⟩
   refine⟨?_,od,b⟩
   show Value.int .i64 (1)=Y (jr x y)
   congr 1;unfold jr;split<;>(try split)<;>first|(exfalso;assumption)|omega
  ·
   refine WP.skip<|WP.seq<|sr<|oX 2 ?_
   refine oq 16 (mE x y) fun sJ v_=>WO.nil<|cq v_ (fun u=>?_) (fun u=>?_)
   ·
    refine sr<|oW 1 ⟨rfl,rfl,[Y (-1)],U,?_⟩
    refine⟨?_,od,b⟩
    show Value.int .i64 (-1)=Y (jr x y)
    congr 1;unfold jr;split<;>(try split)<;>first|(exfalso;assumption)|omega
   ·
    refine WP.skip<|WP.seq<|sr<|oX 2 ?_
    refine oq 19 (mE y x) fun uL uC=>WO.nil<|cq uC (fun yH=>?_) (fun yH=>?_)
    ·
     refine sr<|oW 1 ⟨rfl,rfl,[Y 1],U,?_⟩
     refine⟨?_,od,b⟩
     show Value.int .i64 (1)=Y (jr x y)
     congr 1;unfold jr;split<;>(try split)<;>first|(exfalso;assumption)|omega
    ·
     refine WP.skip<|sr<|oW 1 ⟨rfl,rfl,[Y 0],U,?_⟩
     refine⟨?_,od,b⟩
     show Value.int .i64 (0)=Y (jr x y)
     congr 1;unfold jr;split<;>(try split)<;>first|(exfalso;assumption)|omega
theorem Zw(K:SV Int)(O:Ht)(G:Nat)(hK:gB encI 1 O G K):WF ex 81 [K.v] O G (fL G O (JQ K.l)):=by
 obtain⟨a1,c2,h_⟩:=hK.shape
 have mc:=hK.2.2
 rw[h_]
 refine wd Tryz.f81 18 [.tmp 2] fun hE=>sr<|oN 1<|sr<|oN 1<|WP.seq<|sr<|oN 3<|WP.block ?_
 refine mu [3,6,7,8] (fun m hs ns vs=>∃(fW:Nat),fW+m=K.l.length/\vs=[Y 0,.slice a1 (K.l.length) c2,Y (.ofNat (K.l.length)),Y (.ofNat fW)]/\G<=ns/\HE (G) O hs/\(∀(j:Nat) (y:Int),j<fW->K.l[j]?=some y->y=0)) ?_ (K.l.length) ?_
 ·
  rintro ya ql jd _ ⟨fW,uz,rfl,oR,jt,hinv⟩ uA
  have j9:=hE.trans jt
  refine sr ?_
  refine oq 9 (kT fW K.l.length) fun nI rY=>WO.nil<|WP.seq<|cq rY (fun xq=>?_) (fun xq=>?_)
  ·
   refine WP.skip<|WP.seq<|WP.block<|sr ?_
   have nL:fW<K.l.length:=by omega
   refine WO.cons (WC.iy h_ hK (fW) lP kH (nL) ?_)
   obtain⟨lH,kM⟩:=gE nL
   refine WO.cons (WC.lz (Y lH) h_ (hK.mono j9 nR) kM rfl fy<|oN 1<|sr<|oX 2 ?_)
   refine oq 14 (qS lH 0) fun o e=>WO.nil<|cq e (fun b=>?_) (fun b=>?_)
   ·
    refine sr<|oW 2 ⟨rfl,rfl,[Y lH],U,?_⟩
    exact⟨.inr ⟨_,lH,rfl,kM,b,hinv⟩,od,j9⟩
   ·
    refine WP.skip<|WP.region<|ov 16 (Y (.ofNat (fW+1))) ?_ (fun _ _ _=>by rw[<-gQ (show fW+1<9223372036854775808 by omega)];kernel_rfl)
    refine oN 1<|⟨K.l.length-(fW+1),om,rfl,rfl,fW+1,om,U,?_,?_,?_⟩
    · exact oR
    · exact jt
    · intro j y hj hy;rcases fE.1 hj with hj|rfl;exact hinv j y hj hy;rw[kM]at hy;cases hy;exact Decidable.not_not.1 b
  ·
   refine WP.exit<|sr<|oW 2 ⟨rfl,rfl,[Y 0],U,?_⟩
   refine⟨.inl ⟨rfl,fun y hy=>?_⟩,od,j9⟩
   obtain⟨j,hj⟩:=fS hy
   exact hinv j y (by have:=(fp.1 hj).1;omega) hj
 ·
  exact⟨0,om,U,fg _,HE.refl _ _,(fun j y h=>absurd h (fK _))⟩
theorem IT(a b c d:Int)(O:Ht)(G:Nat):WF ex 206 [.agg ⟨[Y a,Y b]⟩,.agg ⟨[Y c,Y d]⟩] O G (fL G O (DO (vg (jr a c) (jr b d)))):=by
 refine wd Tryz.f206 17 [.tmp 4] fun hE=>sr<|oB (.agg ⟨[Y a,Y b]⟩) [Y a,Y b] fun jy iI ia=>?_
 refine oB (.agg ⟨[Y c,Y d]⟩) [Y c,Y d] fun J p j=>?_
 have m:=p.get ia
 refine oN 1<|WP.seq<|WP.qZ [⟨[0,1,2,3,5,6,7,8],[0,1,2,3,5,6,7,8],some 4⟩,⟨[],[5,6,7,8],some 9⟩,⟨[10],[10],some 11⟩,⟨[],[],some 12⟩,⟨[],[],none⟩] U _ rfl<|WD.kZ<|nv 5 (pt G 0)<|WN.hZ rfl (WC.jW G 0 (Y a) U fy m rfl<|nv 7 (pt (G+1) 0)<|WN.hZ rfl (WC.jW (G+1) 0 (Y c) U fy j rfl<|nv 10 (pt G (0+1))<|WN.hZ rfl (WC.jW G (0+1) (Y b) U fy m rfl<|nv 12 (pt (G+1) (0+1))<|WN.hZ rfl (WC.jW (G+1) (0+1) (Y d) U fy j rfl<|WN.nil ⟨?_,?_⟩))))
 ·
  refine cv (pt G 0) (iR ..)<|qk G 0 (Y a) fy m rfl (iF ..)<|cv (pt (G+1) 0) (iR ..)<|qk (G+1) 0 (Y c) fy j rfl (iF ..)<|cv (pt G (0+1)) (iR ..)<|qk G (0+1) (Y b) fy m rfl (iF ..)<|cv (pt (G+1) (0+1)) (iR ..)<|qk (G+1) (0+1) (Y d) fy j rfl (iF ..) ?_
  exact jc.nil
 refine WC.at rfl (WC.call 9 82 ([Y a,Y c]) kf ((IS (a) (c) J (G+1+1)).mono ?_))
 rintro _ C F ⟨rfl,xI,jE⟩
 refine WD.kZ<|WN.nil ⟨?_,?_⟩
 ·
  refine cv (pt G (0+1)) (iR ..)<|qk G (0+1) (Y b) fy (jE.get m) rfl (iF ..)<|cv (pt (G+1) (0+1)) (iR ..)<|qk (G+1) (0+1) (Y d) fy (jE.get j) rfl (iF ..) ?_
  exact jc.nil
 refine WC.at rfl (WC.call 14 82 ([Y b,Y d]) kf ((IS (b) (d) C (F)).mono ?_))
 rintro _ E e ⟨rfl,K,z⟩
 refine WD.kZ<|WN.hZ rfl (WC.buildSlice [Y (jr (a) (c)),Y (jr (b) (d))] rfl U ?_)
 obtain⟨u,y,A,o⟩:=boxed E (e) [Y (jr (a) (c)),Y (jr (b) (d))]
 rw[y];clear y
 refine WN.nil ⟨?_,?_⟩
 ·
  refine jc.new e (.slice (some ⟨e,0,none⟩) (2) 2) [Y (jr (a) (c)),Y (jr (b) (d))] (fun _=>by kernel_rfl) o (u9 ..) (by simp[uU,iF,iO,wL,xW]) ?_
  exact jc.nil
 refine WC.at rfl (WC.call 16 81 ([.slice (some ⟨e,0,none⟩) (2) 2]) kf (((Zw (⟨.slice (some ⟨e,0,none⟩) 2 2,[jr (a) (c),jr (b) (d)]⟩:SV Int) u (e+1) (gB.ny (enc:=encI) (by simp[encI]) o rfl (by decide) om (by simp):gB encI 1 u (e+1) (⟨.slice (some ⟨e,0,none⟩) 2 2,[jr (a) (c),jr (b) (d)]⟩:SV Int))).mono (fun v e9 e_ h=>(⟨JQ.two h.1,h.2.1,h.2.2⟩:fL _ _ (DO (vg (jr (a) (c)) (jr (b) (d)))) v e9 e_))).mono ?_))
 rintro _ M N ⟨rfl,L,B⟩
 refine WD.kZ<|WN.nil ⟨?_,?_⟩
 ·
  exact jc.nil
 refine WC.at rfl (WC.val 4 (Y (vg (jr (a) (c)) (jr (b) (d)))) kf<|WD.last<|WN.nil ⟨?_,?_⟩)
 ·
  exact jc.nil
 refine WP.ret ⟨rfl,rfl,[Y (vg (jr (a) (c)) (jr (b) (d)))],U,?_⟩
 refine⟨?_,od,((((((hE.trans iI).trans p).trans jE).trans z).trans A).trans B)⟩
 show Value.int .i64 (vg (jr (a) (c)) (jr (b) (d)))=Y (vg (jr a c) (jr b d))
 rfl
theorem UK(p s:sf)(O:Ht)(G:Nat):WF ex 107 [.agg (kj p).toArray,.agg (kj s).toArray] O G (fL G O (DO (vg (jr p.jf s.jf) (jr p.kA s.kA)))):=by
 refine wd Tryz.f107 16 [.tmp 4] fun hE=>sr<|oB (.agg (kj p).toArray) (kj p) fun jy iI ia=>?_
 refine oB (.agg (kj s).toArray) (kj s) fun m j b=>?_
 have e:=j.get ia
 refine oN 1<|sr<|oX 1<|oZ G 0 (Y p.jf) fy e rfl<|oX 1<|oZ G (0+1) (Y p.kA) fy e rfl<|oX 2<|oZ (G+1) 0 (Y s.jf) fy b rfl<|oX 1<|oZ (G+1) (0+1) (Y s.kA) fy b rfl<|oX 1<|WO.cons (WC.call 15 206 ([.agg ⟨[Y p.jf,Y p.kA]⟩,.agg ⟨[Y s.jf,Y s.kA]⟩]) kf ((IT (p.jf) (p.kA) (s.jf) (s.kA) m (G+1+1)).mono ?_))
 rintro _ o u ⟨rfl,xI,jE⟩
 refine oW 1 ⟨rfl,rfl,[Y (vg (jr (p.jf) (s.jf)) (jr (p.kA) (s.kA)))],U,?_⟩
 refine⟨?_,od,(((hE.trans iI).trans j).trans jE)⟩
 show Value.int .i64 (vg (jr (p.jf) (s.jf)) (jr (p.kA) (s.kA)))=Y (vg (jr p.jf s.jf) (jr p.kA s.kA))
 rfl
theorem Dd(K:kg)(O:Ht)(G:Nat)(hK:oy O G K):WF ex 55 [.agg (ji K).toArray] O G (fL G O (MZ 160 (ub K))):=by
 refine wd Tryz.f55 141 [.tmp 2] fun hE=>sr<|oB (.agg (ji K).toArray) (ji K) fun jy iI ia=>?_
 have lq:=hE.trans iI
 refine oN 1<|sr<|oX 1 ?_
 obtain⟨ao,aY,ae⟩:=hK.fw.shape
 have dy:=hK.fw.2.2
 refine oZ G 0 (.slice ao (K.fw.l.length) aY) zo ia (by rw[<-ae];rfl)<|oN 2<|WP.seq<|sr<|oX 1 ?_
 refine oq 17 (nQ 511 K.fw.l.length) fun al cu=>oX 1<|gF 18 al (pt G (0+1)) ?_
 obtain⟨a12,nI,X⟩:=hK.gD.1.shape
 have dz:=hK.gD.1.2.2
 refine nS 18 al G (0+1) (.slice a12 (K.gD.l.length) nI) sR ia (by rw[<-X];rfl)<|gF 18 al (Y (.ofNat (K.gD.l.length)))<|gF 18 al (Y (.ofNat (K.fw.l.length)))<|og 18 (!al) (Y (.ofNat (K.fw.l.length+1))) (.bool al) (by cases al<;>rfl) (fun h=>by obtain rfl:=bF h;have bq:=nf cu;exact fun _ _ _=>by rw[<-gQ (show K.fw.l.length+1<9223372036854775808 by omega)];kernel_rfl) ?_
 refine nH 18 al (JP K.gD.l.length (K.fw.l.length+1)) fun r5 vh=>?_
 refine mI 25 (nO cu vh) fun dY c8=>WO.nil<|cq c8 (fun dn=>?_) (fun dn=>?_)
 ·
  refine sr<|oW 1 ⟨rfl,rfl,[Y 160],U,?_⟩
  refine⟨⟨160,rfl,⟨fun h=>absurd h (by decide),fun an=>?_⟩,.inr rfl⟩,od,lq⟩
  have h1:=an.Yp;have D:=an.Wm;omega
 ·
  refine WP.skip<|WP.seq<|sr<|oX 1<|oZ G 0 (.slice ao (K.fw.l.length) aY) zo ia (by rw[<-ae];rfl)<|oN 2<|WP.block ?_
  refine mu [1,3,27,28,29] (fun m hs ns vs=>∃(p:Nat),p+m=K.fw.l.length/\vs=[pt G 0,Y (.ofNat (K.fw.l.length)),.slice ao (K.fw.l.length) aY,Y (.ofNat (K.fw.l.length)),Y (.ofNat p)]/\G+1<=ns/\HE (G+1) jy hs/\(∀(j:Nat) (s:sf),j<p->K.fw.l[j]?=some s->Wk K.fw.l j s)) ?_ (K.fw.l.length) ?_
  ·
   rintro dU cB u _ ⟨p,du,rfl,cz,bl,bO⟩ dF
   have bj:=lq.trans bl
   have bk:=bl.get ia
   refine sr ?_
   refine oq 30 (kT p K.fw.l.length) fun dZ c_=>WO.nil<|WP.seq<|cq c_ (fun dp=>?_) (fun dp=>?_)
   ·
    refine WP.skip<|WP.seq<|WP.block<|sr<|oX 1 ?_
    have bw:p<K.fw.l.length:=by omega
    refine WO.cons (WC.iy ae hK.fw (p) JY tO (bw) ?_)
    obtain⟨o,bo⟩:=gE bw
    refine WO.cons (WC.ly ae (hK.fw.mono bj nR) bo BL tO<|oA [Y 0,Y 0,Y 0] Ss fun dS bn cy=>?_)
    refine oX 1<|oS u (0) (.agg (kj o).toArray) (kj o) (kj o) tO rfl rfl cy fun pU bL ad cA=>?_
    refine WO.nil<|WP.seq<|WP.qZ [⟨[0,1,2,3,4,5,6,7,8,9,10,11,12,13,14,15,16,17,18,19,20],[0,1,2,3,4,5,6,7,8,9,10,11,12,13,14,15,16,17,18,19,20],some 21⟩,⟨[22,23,24,25,26,27,28,29,30,31,32,33,34],[22,23,24,25,26,27,28,29,30,31,32,33,34],some 35⟩,⟨[36,37,38],[36,37,38],none⟩] U _ rfl<|WD.kZ<|nv 34 (pt u 0)<|WN.hZ rfl (WC.jW u 0 (Y o.jf) U fy ad rfl ?_)
    obtain⟨C,b7,da⟩:=mE o.jf 0
    refine nv 36 (.bool C) ?_ (fun _ _ _=>by subst b7;kernel_rfl)
    refine nv 37 (.bool C)<|ng rfl 37 (!C) (pt u 0) (.bool C) (by cases C<;>rfl) (fun h=>by obtain rfl:=bF h;exact fun _ _ _=>by kernel_rfl) ?_
    refine xl rfl 37 (!C) (Y o.jf) (.bool C) (by cases C<;>rfl) (fun h=>by obtain rfl:=bF h;exact WC.jW u 0 (Y o.jf) U fy ad rfl rfl) ?_
    obtain⟨aD,b8,db⟩:=pS 40 o.jf
    refine ng rfl 37 (!C) (.bool aD) (.bool C) (by cases C<;>rfl) (fun h=>by obtain rfl:=bF h;exact fun _ _ _=>by subst b8;kernel_rfl) ?_
    obtain⟨E,b9,dc⟩:=nO da db
    refine WN.hZ rfl (WC.mq (v:=.bool E) 41 (lu (.bool C) (.bool true) ((bif !C then .bool aD else undef))) kf (by rw[b9];exact lg (fun h=>by obtain rfl:C=false:=h;rfl))<|nv 42 (.bool E)<|ng rfl 42 (!E) (pt u (0+1)) (.bool E) (by cases E<;>rfl) (fun h=>by obtain rfl:=bF h;exact fun _ _ _=>by kernel_rfl) ?_)
    refine xl rfl 42 (!E) (Y o.kA) (.bool E) (by cases E<;>rfl) (fun h=>by obtain rfl:=bF h;exact WC.jW u (0+1) (Y o.kA) U fy ad rfl rfl) ?_
    obtain⟨aE,b_,dd⟩:=mE o.kA 0
    refine ng rfl 42 (!E) (.bool aE) (.bool E) (by cases E<;>rfl) (fun h=>by obtain rfl:=bF h;exact fun _ _ _=>by subst b_;kernel_rfl) ?_
    obtain⟨F,ca,de⟩:=nO dc dd
    refine WN.hZ rfl (WC.mq (v:=.bool F) 46 (lu (.bool E) (.bool true) ((bif !E then .bool aE else undef))) kf (by rw[ca];exact lg (fun h=>by obtain rfl:E=false:=h;rfl))<|nv 47 (.bool F)<|ng rfl 47 (!F) (pt u (0+1)) (.bool F) (by cases F<;>rfl) (fun h=>by obtain rfl:=bF h;exact fun _ _ _=>by kernel_rfl) ?_)
    refine xl rfl 47 (!F) (Y o.kA) (.bool F) (by cases F<;>rfl) (fun h=>by obtain rfl:=bF h;exact WC.jW u (0+1) (Y o.kA) U fy ad rfl rfl) ?_
    obtain⟨aF,cb,df⟩:=mE 255 o.kA
    refine ng rfl 47 (!F) (.bool aF) (.bool F) (by cases F<;>rfl) (fun h=>by obtain rfl:=bF h;exact fun _ _ _=>by subst cb;kernel_rfl) ?_
    obtain⟨B,cc,cw⟩:=nO de df
    refine WN.hZ rfl (WC.mq (v:=.bool B) 51 (lu (.bool F) (.bool true) ((bif !F then .bool aF else undef))) kf (by rw[cc];exact lg (fun h=>by obtain rfl:F=false:=h;rfl))<|nv 52 (.bool B)<|ng rfl 52 (!B) (pt u (0+2)) (.bool B) (by cases B<;>rfl) (fun h=>by obtain rfl:=bF h;exact fun _ _ _=>by kernel_rfl) ?_)
    refine xl rfl 52 (!B) (Y o.p_) (.bool B) (by cases B<;>rfl) (fun h=>by obtain rfl:=bF h;exact WC.jW u (0+2) (Y o.p_) U fy ad rfl rfl) ?_
    refine WN.nil ⟨?_,?_⟩
    ·
     refine cv (pt u 0) (iR ..)<|qk u 0 (Y o.jf) fy ad rfl (iF ..)<|cv (.bool C) (iO 8 C) ?_ (fun _=>by subst b7;kernel_rfl)
     refine cv (.bool C) (iO 8 C)<|cg rfl 37 (!C) (pt u 0) (.bool C) (by cases C<;>rfl) (fun h=>by obtain rfl:=bF h;exact mi (pt u 0) (fun _=>by kernel_rfl) (iR ..)) ?_
     refine cg rfl 37 (!C) (Y o.jf) (.bool C) (by cases C<;>rfl) (fun h=>by obtain rfl:=bF h;exact qJ (Y o.jf) (kh ex.T pU.get 3 (pt u 0)) (fun _=>by kernel_rfl) (ki fy ad rfl) (iF ..)) ?_
     refine cg rfl 37 (!C) (.bool aD) (.bool C) (by cases C<;>rfl) (fun h=>by obtain rfl:=bF h;exact mi (.bool aD) (fun _=>by subst b8;kernel_rfl) (iO 8 aD)) ?_
     refine co (.bool E) (lu (.bool C) (.bool true) ((bif !C then .bool aD else undef))) ((by rw[b9];exact lg (fun h=>by obtain rfl:C=false:=h;rfl))) (iO 8 E)<|cv (.bool E) (iO 8 E)<|cg rfl 42 (!E) (pt u (0+1)) (.bool E) (by cases E<;>rfl) (fun h=>by obtain rfl:=bF h;exact mi (pt u (0+1)) (fun _=>by kernel_rfl) (iR ..)) ?_
     refine cg rfl 42 (!E) (Y o.kA) (.bool E) (by cases E<;>rfl) (fun h=>by obtain rfl:=bF h;exact qJ (Y o.kA) (kh ex.T pU.get 3 (pt u (0+1))) (fun _=>by kernel_rfl) (ki fy ad rfl) (iF ..)) ?_
     refine cg rfl 42 (!E) (.bool aE) (.bool E) (by cases E<;>rfl) (fun h=>by obtain rfl:=bF h;exact mi (.bool aE) (fun _=>by subst b_;kernel_rfl) (iO 8 aE)) ?_
     refine co (.bool F) (lu (.bool E) (.bool true) ((bif !E then .bool aE else undef))) ((by rw[ca];exact lg (fun h=>by obtain rfl:E=false:=h;rfl))) (iO 8 F)<|cv (.bool F) (iO 8 F)<|cg rfl 47 (!F) (pt u (0+1)) (.bool F) (by cases F<;>rfl) (fun h=>by obtain rfl:=bF h;exact mi (pt u (0+1)) (fun _=>by kernel_rfl) (iR ..)) ?_
     refine cg rfl 47 (!F) (Y o.kA) (.bool F) (by cases F<;>rfl) (fun h=>by obtain rfl:=bF h;exact qJ (Y o.kA) (kh ex.T pU.get 3 (pt u (0+1))) (fun _=>by kernel_rfl) (ki fy ad rfl) (iF ..)) ?_
     refine cg rfl 47 (!F) (.bool aF) (.bool F) (by cases F<;>rfl) (fun h=>by obtain rfl:=bF h;exact mi (.bool aF) (fun _=>by subst cb;kernel_rfl) (iO 8 aF)) ?_
     refine co (.bool B) (lu (.bool F) (.bool true) ((bif !F then .bool aF else undef))) ((by rw[cc];exact lg (fun h=>by obtain rfl:F=false:=h;rfl))) (iO 8 B)<|cv (.bool B) (iO 8 B)<|cg rfl 52 (!B) (pt u (0+2)) (.bool B) (by cases B<;>rfl) (fun h=>by obtain rfl:=bF h;exact mi (pt u (0+2)) (fun _=>by kernel_rfl) (iR ..)) ?_
     refine cg rfl 52 (!B) (Y o.p_) (.bool B) (by cases B<;>rfl) (fun h=>by obtain rfl:=bF h;exact qJ (Y o.p_) (kh ex.T pU.get 3 (pt u (0+2))) (fun _=>by kernel_rfl) (ki fy ad rfl) (iF ..)) ?_
     exact jc.nil
    refine WC.at rfl (WC.gq (!B) (GB (!B) (-1099511627776<=o.p_/\o.p_<=1099511627776) (u+1) pU) (.bool B) (g:=f_ (.tmp 52)) rfl U (by cases B<;>rfl) (fun h=>by obtain rfl:B=false:=(by simpa using h);have bq:¬(((((o.jf)<(0))\/((40)<=(o.jf)))\/((o.kA)<(0)))\/((255)<(o.kA))):=(fun k=>absurd ((cw).2 k) (by decide));exact WC.call 55 106 ([Y o.p_]) kf ((Su (o.p_) pU (u+1)).mono fun v e9 e_ ⟨⟨c,bQ,hc⟩,hn,he⟩=>⟨_,_,_,rfl,⟨c,bQ,hc⟩,hn,he⟩)) (fun h=>GB.off h) ?_)
    rintro _ az bR ⟨⟨d_,rfl,dg⟩,dQ,aP⟩
    have ay:=((bj.trans bn).trans bL).trans aP
    have bJ:=aP.get ((cA G om).trans (bn.get bk))
    have bK:=aP.get ad
    refine WD.kZ ?_
    obtain⟨aG,cd,dh⟩:=nN dg
    refine ng rfl 52 (!B) (.bool aG) (.bool B) (by cases B<;>rfl) (fun h=>by obtain rfl:=bF h;exact fun _ _ _=>by subst cd;kernel_rfl) ?_
    obtain⟨jN,cf,aA⟩:=nO cw dh
    refine WN.hZ rfl (WC.mq (v:=.bool jN) 57 (lu (.bool B) (.bool true) ((bif !B then .bool aG else undef))) kf (by rw[cf];exact lg (fun h=>by obtain rfl:B=false:=h;rfl))<|nv 58 (.bool jN)<|ng rfl 58 (!jN) (Y (.ofNat p)) (.bool jN) (by cases jN<;>rfl) (fun h=>by obtain rfl:=bF h;exact fun _ _ _=>by kernel_rfl) ?_)
    obtain⟨e,cj,aB⟩:=nQ 0 p
    refine ng rfl 58 (!jN) (.bool e) (.bool jN) (by cases jN<;>rfl) (fun h=>by obtain rfl:=bF h;exact fun _ _ _=>by subst cj;kernel_rfl) ?_
    refine ng rfl 58 (!jN) (.bool e) (.bool jN) (by cases jN<;>rfl) (fun h=>by obtain rfl:=bF h;exact fun _ _ _=>by kernel_rfl) ?_
    refine ng rfl 61 (!jN&&e) (pt G 0) ((bif !jN then .bool e else undef)) (by cases jN<;>cases e<;>rfl) (fun h=>by obtain⟨rfl,rfl⟩:=sY h;exact fun _ _ _=>by kernel_rfl) ?_
    refine xl rfl 61 (!jN&&e) (.slice ao (K.fw.l.length) aY) ((bif !jN then .bool e else undef)) (by cases jN<;>cases e<;>rfl) (fun h=>by obtain⟨rfl,rfl⟩:=sY h;exact WC.jW G 0 (.slice ao (K.fw.l.length) aY) U zo bJ (by rw[<-ae];rfl) rfl) ?_
    refine ng rfl 61 (!jN&&e) (Y (.ofNat p)) ((bif !jN then .bool e else undef)) (by cases jN<;>cases e<;>rfl) (fun h=>by obtain⟨rfl,rfl⟩:=sY h;exact fun _ _ _=>by kernel_rfl) ?_
    refine ng rfl 61 (!jN&&e) (Y (.ofNat (p-1))) ((bif !jN then .bool e else undef)) (by cases jN<;>cases e<;>rfl) (fun h=>by obtain⟨rfl,rfl⟩:=sY h;have bq:=nf aA;have cL:=(aB).1 rfl;exact fun _ _ _=>by rw[<-Bb (show p<9223372036854775808 by omega) om];kernel_rfl) ?_
    have aj:(!jN&&e)=true->p-1<K.fw.l.length:=fun h=>by obtain⟨rfl,rfl⟩:jN=false/\e=true:=(by simpa[and_assoc]using h);have bq:¬((((((o.jf)<(0))\/((40)<=(o.jf)))\/((o.kA)<(0)))\/((255)<(o.kA)))\/(¬(-1099511627776<=o.p_/\o.p_<=1099511627776))):=(fun k=>absurd ((aA).2 k) (by decide));have cL:=(aB).1 rfl;omega
    refine xl rfl 61 (!jN&&e) (pt (ga ao) (0+(p-1)*3)) ((bif !jN then .bool e else undef)) (by cases jN<;>cases e<;>rfl) (fun h=>by obtain⟨rfl,rfl⟩:=sY h;exact WC.iy ae hK.fw (p-1) JY tO ((aj rfl)) rfl) ?_
    obtain⟨ag,bp⟩:∃bI,(!jN&&e)=true->K.fw.l[p-1]?=some bI:=⟨(K.fw.l[p-1]?).getD default,fun h=>by rw[List.getElem?_eq_getElem (by obtain⟨rfl,rfl⟩:jN=false/\e=true:=(by simpa[and_assoc]using h);exact(aj rfl))];rfl⟩
    have bB:=fun(a0:¬((((((o.jf)<(0))\/((40)<=(o.jf)))\/((o.kA)<(0)))\/((255)<(o.kA)))\/(¬(-1099511627776<=o.p_/\o.p_<=1099511627776)))) (a1:((0)<((p:Nat):Int)))=>bp (by first|(rw[show jN=false from Bool.eq_false_iff.2 (fun k=>a0 ((aA).1 k)),show e=true from(aB).2 a1];rfl)|rw[show jN=false from Bool.eq_false_iff.2 (fun k=>a0 ((aA).1 k)),show e=true from(aB).2 a1])
    refine xl rfl 61 (!jN&&e) (.agg (kj ag).toArray) ((bif !jN then .bool e else undef)) (by cases jN<;>cases e<;>rfl) (fun h=>by obtain⟨rfl,rfl⟩:=sY h;exact WC.ly ae (hK.fw.mono ay nR) (bp rfl) BL tO rfl) ?_
    refine xl rfl 61 (!jN&&e) (.agg (kj o).toArray) ((bif !jN then .bool e else undef)) (by cases jN<;>cases e<;>rfl) (fun h=>by obtain⟨rfl,rfl⟩:=sY h;exact WC.iz u (0) (kj o) U BL tO bK rfl rfl) ?_
    refine WN.nil ⟨?_,?_⟩
    ·
     refine cg rfl 52 (!B) (.bool aG) (.bool B) (by cases B<;>rfl) (fun h=>by obtain rfl:=bF h;exact mi (.bool aG) (fun _=>by subst cd;kernel_rfl) (iO 8 aG)) ?_
     refine co (.bool jN) (lu (.bool B) (.bool true) ((bif !B then .bool aG else undef))) ((by rw[cf];exact lg (fun h=>by obtain rfl:B=false:=h;rfl))) (iO 8 jN)<|cv (.bool jN) (iO 8 jN)<|cg rfl 58 (!jN) (Y (.ofNat p)) (.bool jN) (by cases jN<;>rfl) (fun h=>by obtain rfl:=bF h;exact mi (Y (.ofNat p)) (fun _=>by kernel_rfl) (iF ..)) ?_
     refine cg rfl 58 (!jN) (.bool e) (.bool jN) (by cases jN<;>rfl) (fun h=>by obtain rfl:=bF h;exact mi (.bool e) (fun _=>by subst cj;kernel_rfl) (iO 8 e)) ?_
     refine cg rfl 58 (!jN) (.bool e) (.bool jN) (by cases jN<;>rfl) (fun h=>by obtain rfl:=bF h;exact mi (.bool e) (fun _=>by kernel_rfl) (iO 8 e)) ?_
     refine cg rfl 61 (!jN&&e) (pt G 0) ((bif !jN then .bool e else undef)) (by cases jN<;>cases e<;>rfl) (fun h=>by obtain⟨rfl,rfl⟩:=sY h;exact mi (pt G 0) (fun _=>by kernel_rfl) (iR ..)) ?_
     refine cg rfl 61 (!jN&&e) (.slice ao (K.fw.l.length) aY) ((bif !jN then .bool e else undef)) (by cases jN<;>cases e<;>rfl) (fun h=>by obtain⟨rfl,rfl⟩:=sY h;exact qJ (.slice ao (K.fw.l.length) aY) (kh ex.T az.get 34 (pt G 0)) (fun _=>by kernel_rfl) (ki zo bJ (by rw[<-ae];rfl)) (ae▸hK.fw.jA 8)) ?_
     refine cg rfl 61 (!jN&&e) (Y (.ofNat p)) ((bif !jN then .bool e else undef)) (by cases jN<;>cases e<;>rfl) (fun h=>by obtain⟨rfl,rfl⟩:=sY h;exact mi (Y (.ofNat p)) (fun _=>by kernel_rfl) (iF ..)) ?_
     refine cg rfl 61 (!jN&&e) (Y (.ofNat (p-1))) ((bif !jN then .bool e else undef)) (by cases jN<;>cases e<;>rfl) (fun h=>by obtain⟨rfl,rfl⟩:=sY h;have bq:=nf aA;have cL:=(aB).1 rfl;exact mi (Y (.ofNat (p-1))) (fun _=>by rw[<-Bb (show p<9223372036854775808 by omega) om];kernel_rfl) (iF ..)) ?_
     refine cg rfl 61 (!jN&&e) (pt (ga ao) (0+(p-1)*3)) ((bif !jN then .bool e else undef)) (by cases jN<;>cases e<;>rfl) (fun h=>by obtain⟨rfl,rfl⟩:=sY h;exact qJ (pt (ga ao) (0+(p-1)*3)) (mQ ex.T 34 (.slice ao (K.fw.l.length) aY) (Y (.ofNat (p-1)))) (fun _=>by kernel_rfl) (sW (k:=.i64) JY tO ((hK.fw.mono ay nR).BA ae (zl ((aj rfl)))) ((aj rfl))) (iR ..)) ?_
     refine cg rfl 61 (!jN&&e) (.agg (kj ag).toArray) ((bif !jN then .bool e else undef)) (by cases jN<;>cases e<;>rfl) (fun h=>by obtain⟨rfl,rfl⟩:=sY h;exact qJ (.agg (kj ag).toArray) (kh ex.T az.get 255 (pt (ga ao) (0+(p-1)*3))) (fun _=>by kernel_rfl) (AP BL tO ((hK.fw.mono ay nR).pw ae (zl ((aj rfl)))) (xF (hK.fw.mono ay nR).1 (bp rfl))) (C6 ag)) ?_
     refine cg rfl 61 (!jN&&e) (.agg (kj o).toArray) ((bif !jN then .bool e else undef)) (by cases jN<;>cases e<;>rfl) (fun h=>by obtain⟨rfl,rfl⟩:=sY h;exact qJ (.agg (kj o).toArray) (kh ex.T az.get 255 (pt u 0)) (fun _=>by kernel_rfl) (jV BL tO bK rfl) (C6 o)) ?_
     exact jc.nil
    refine WC.at rfl (WC.gq (!jN&&e) (GV (!jN&&e) (Y (vg (jr ag.jf o.jf) (jr ag.kA o.kA))) (bR) az) ((bif !jN then .bool e else undef)) (g:=f_ (.tmp 61)) rfl U (by cases jN<;>cases e<;>rfl) (fun h=>by obtain⟨rfl,rfl⟩:jN=false/\e=true:=(by simpa[and_assoc]using h);have bq:¬((((((o.jf)<(0))\/((40)<=(o.jf)))\/((o.kA)<(0)))\/((255)<(o.kA)))\/(¬(-1099511627776<=o.p_/\o.p_<=1099511627776))):=(fun k=>absurd ((aA).2 k) (by decide));have cL:=(aB).1 rfl;exact WC.call 69 107 ([.agg (kj ag).toArray,.agg (kj o).toArray]) kf ((UK ag o az (bR)).mono fun v e9 e_ ⟨bQ,hn,he⟩=>⟨_,_,_,rfl,bQ,hn,he⟩)) (fun h=>GV.off h) ?_)
    rintro _ dT dW ⟨rfl,dR,bM⟩
    refine WD.last ?_
    obtain⟨aH,ck,di⟩:=pS 0 (vg (jr ag.jf o.jf) (jr ag.kA o.kA))
    refine ng rfl 61 (!jN&&e) (.bool aH) ((bif !jN then .bool e else undef)) (by cases jN<;>cases e<;>rfl) (fun h=>by obtain⟨rfl,rfl⟩:=sY h;exact fun _ _ _=>by subst ck;kernel_rfl) ?_
    obtain⟨ax,cm,dj⟩:=nA aB di
    refine xl rfl 58 (!jN) (.bool ax) (.bool jN) (by cases jN<;>rfl) (fun h=>by obtain rfl:=bF h;exact WC.mq (v:=.bool ax) 71 (lu (.bool e) ((bif !false&&e then .bool aH else undef)) (.bool false)) kf (by rw[cm];exact tL (fun h=>by obtain rfl:e=true:=h;rfl)) rfl) ?_
    obtain⟨bH,cn,dm⟩:=nO aA dj
    refine WN.hZ rfl (WC.mq (v:=.bool bH) 72 (lu (.bool jN) (.bool true) ((bif !jN then .bool ax else undef))) kf (by rw[cn];exact lg (fun h=>by obtain rfl:jN=false:=h;rfl))<|WN.nil ⟨?_,?_⟩)
    ·
     refine cg rfl 61 (!jN&&e) (.bool aH) ((bif !jN then .bool e else undef)) (by cases jN<;>cases e<;>rfl) (fun h=>by obtain⟨rfl,rfl⟩:=sY h;exact mi (.bool aH) (fun _=>by subst ck;kernel_rfl) (iO 8 aH)) ?_
     refine cg rfl 58 (!jN) (.bool ax) (.bool jN) (by cases jN<;>rfl) (fun h=>by obtain rfl:=bF h;exact qJ (.bool ax) (lu (.bool e) ((bif !false&&e then .bool aH else undef)) (.bool false)) (fun _=>by kernel_rfl) ((by rw[cm];exact tL (fun h=>by obtain rfl:e=true:=h;rfl))) (iO 8 ax)) ?_
     refine co (.bool bH) (lu (.bool jN) (.bool true) ((bif !jN then .bool ax else undef))) ((by rw[cn];exact lg (fun h=>by obtain rfl:jN=false:=h;rfl))) (iO 8 bH) ?_
     exact jc.nil
    refine cq dm (fun bT=>?_) (fun bT=>?_)
    ·
     refine sr<|oW 1 ⟨rfl,rfl,[Y 160],U,?_⟩
     refine⟨⟨160,rfl,⟨fun h=>absurd h (by decide),fun an=>?_⟩,.inr rfl⟩,od,(ay.trans bM)⟩
     obtain⟨h1,D,h3,h4,cx,dP⟩:=an.Eu _ _ bo
     rcases bT with cC|⟨cY,cZ⟩
     · first|omega|(dsimp only;omega)
     · exact absurd (dP om _ (bB om cY)) ((PJ _ _ _ _).1 cZ)
    ·
     refine WP.skip<|WP.region<|ov 73 (Y (.ofNat (p+1))) ?_ (fun _ _ _=>by rw[<-gQ (show p+1<9223372036854775808 by omega)];kernel_rfl)
     refine oN 1<|⟨K.fw.l.length-(p+1),om,rfl,rfl,p+1,om,U,?_,?_,?_⟩
     · exact od
     · exact((((bl.trans bn cz).trans bL).trans aP).trans bM)
     · intro j s hj hs
       rcases fE.1 hj with hj|rfl
       · exact bO j s hj hs
       · rw[bo]at hs;cases hs
         refine⟨om,om,om,om,om,fun h0 ea e9=>?_⟩
         have cX:=bB om om
         rw[cX]at e9;cases e9
         have ct:¬(0<=vg (jr ag.jf o.jf) (jr ag.kA o.kA)):=fun k=>bT (.inr ⟨om,k⟩)
         rw[PJ]at ct
         exact fu.1 ct
   ·
    refine WP.exit<|WP.seq<|sr<|oX 1<|oZ G (0+1) (.slice a12 (K.gD.l.length) nI) sR bk (by rw[<-X];rfl)<|oN 2<|WP.block ?_
    refine mu [1,3,75,76,77] (fun m hs ns vs=>∃(R:Nat),R+m=K.gD.l.length/\vs=[pt G 0,Y (.ofNat (K.fw.l.length)),.slice a12 (K.gD.l.length) nI,Y (.ofNat (K.gD.l.length)),Y (.ofNat R)]/\u<=ns/\HE (u) cB hs/\(∀(j:Nat) (r:SV Int),j<R->K.gD.l[j]?=some r->Wl K.fw.l.length j r)) ?_ (K.gD.l.length) ?_
    ·
     rintro dV aR aw _ ⟨R,cT,rfl,bW,aN,aQ⟩ dG
     have ai:=bj.trans aN
     refine sr ?_
     refine oq 78 (kT R K.gD.l.length) fun dH cD=>WO.nil<|WP.seq<|cq cD (fun cM=>?_) (fun cM=>?_)
     ·
      refine WP.skip<|WP.seq<|WP.block<|sr<|oX 1 ?_
      have aZ:R<K.gD.l.length:=by omega
      refine WO.cons (WC.iy X hK.gD.1 (R) vt ud (aZ) ?_)
      obtain⟨M,af⟩:=gE aZ
      obtain⟨aI,bh,av⟩:=(hK.gD.2 M (fa af)).shape
      have c0:=(hK.gD.2 M (fa af)).2.2
      refine WO.cons (WC.lz (.slice aI (M.l.length) bh) X (hK.gD.1.mono ai nR) af (by rw[<-av];rfl) lO<|oN 2<|sr<|oX 3<|ov 85 (Y (.ofNat (K.fw.l.length+1))) ?_ (fun _ _ _=>by rw[<-gQ (show K.fw.l.length+1<9223372036854775808 by omega)];kernel_rfl))
      refine oq 86 (JP M.l.length (K.fw.l.length+1)) fun ab aW=>oX 1<|gF 87 ab (.slice aI (M.l.length) bh)<|gF 87 ab (Y (.ofNat R)) ?_
      have a6:(!ab)=true->R<M.l.length:=fun h=>by obtain rfl:ab=false:=(by simpa using h);have bq:¬(((M.l.length:Nat):Int)≠((K.fw.l.length+1:Nat):Int)):=(fun k=>absurd ((aW).2 k) (by decide));omega
      refine xY 87 ab (pt (ga aI) (0+(R)*1)) (by rintro rfl;exact WC.iy av (hK.gD.2 M (fa af)) (R) lP kH ((a6 rfl)) rfl) ?_
      obtain⟨aC,bA⟩:∃bI,(!ab)=true->M.l[R]?=some bI:=⟨(M.l[R]?).getD default,fun h=>by rw[List.getElem?_eq_getElem (by obtain rfl:ab=false:=(by simpa using h);exact(a6 rfl))];rfl⟩
      have bg:=fun(a0:¬(((M.l.length:Nat):Int)≠((K.fw.l.length+1:Nat):Int)))=>bA (by first|(rw[show ab=false from Bool.eq_false_iff.2 (fun k=>a0 ((aW).1 k))];rfl)|rw[show ab=false from Bool.eq_false_iff.2 (fun k=>a0 ((aW).1 k))])
      refine xY 87 ab (Y aC) (by rintro rfl;exact WC.lz (Y aC) av ((hK.gD.2 M (fa af)).mono ai nR) (bA rfl) rfl fy rfl) ?_
      refine nH 87 ab (qS aC 0) fun dI cE=>?_
      refine mI 93 (nO aW cE) fun ak bS=>oX 1<|gF 94 ak (.slice aI (M.l.length) bh)<|WO.cons (WC.gq (!ak) (GB (!ak) (∃x∈M.l,(fun x=>x< -2199023255552\/2199023255552<x) x) (aw) aR) (.bool ak) (g:=f_ (.tmp 94)) rfl U (by cases ak<;>rfl) (fun h=>by obtain rfl:ak=false:=(by simpa using h);have bq:¬((((M.l.length:Nat):Int)≠((K.fw.l.length+1:Nat):Int))\/((aC)≠(0))):=(fun k=>absurd ((bS).2 k) (by decide));exact WC.call 96 108 ([M.v,.func (.func 109) #[] #[]]) (fun _ _ _=>by(try rw[av]);kernel_rfl) ((xH (A:=fun x=>x< -2199023255552\/2199023255552<x) M 109 #[] aR (aw) ((hK.gD.2 M (fa af)).mono ai) (fun _ x _ e9 e_ _ _=>IP x e9 e_)).mono fun v e9 e_ ⟨⟨c,bQ,hc⟩,hn,he⟩=>⟨_,_,_,rfl,⟨c,bQ,hc⟩,hn,he⟩)) (fun h=>GB.off h) ?_)
      rintro _ dw dD ⟨⟨dJ,rfl,cF⟩,dv,bu⟩
      refine mI 97 (nO bS cF) fun dK cG=>WO.nil<|cq cG (fun aX=>?_) (fun aX=>?_)
      ·
       refine sr<|oW 1 ⟨rfl,rfl,[Y 160],U,?_⟩
       refine⟨⟨160,rfl,⟨fun h=>absurd h (by decide),fun an=>?_⟩,.inr rfl⟩,od,(ai.trans bu)⟩
       obtain⟨h1,D,h3⟩:=an.row _ _ af
       rcases aX with(cC|cC)|⟨y,c6,c7⟩
       · first|omega|(dsimp only;omega)
       · have hw:=bg om
         rw[D]at hw;cases hw;exact absurd rfl cC
       · exact absurd c7 (h3 y c6)
      ·
       refine WP.skip<|WP.region<|ov 98 (Y (.ofNat (R+1))) ?_ (fun _ _ _=>by rw[<-gQ (show R+1<9223372036854775808 by omega)];kernel_rfl)
       refine oN 1<|⟨K.gD.l.length-(R+1),om,rfl,rfl,R+1,om,U,?_,?_,?_⟩
       · exact od
       · exact(aN.trans bu bW)
       · intro j dX hj hs
         rcases fE.1 hj with hj|rfl
         · exact aQ j dX hj hs
         · rw[af]at hs;cases hs
           have hlen:M.l.length=K.fw.l.length+1:=by omega
           refine⟨hlen,?_,fun w hw hb=>aX (.inr ⟨w,hw,hb⟩)⟩
           have hw:=bg om
           have:aC=0:=fu.1 fun k=>aX (.inl (.inr k))
           rw[hw,this]
     ·
      refine WP.exit<|WP.seq<|sr<|oX 1<|ov 100 (Y (.ofNat (K.fw.l.length+1))) ?_ (fun _ _ _=>by rw[<-gQ (show K.fw.l.length+1<9223372036854775808 by omega)];kernel_rfl)
      refine oN 1<|WP.block ?_
      refine mu [1,100,101] (fun m hs ns vs=>∃(z:Nat),z+m=(K.fw.l.length+1)/\vs=[pt G 0,Y (.ofNat (K.fw.l.length+1)),Y (.ofNat z)]/\aw<=ns/\HE (aw) aR hs/\(∀b4 j m,b4<z->LV K b4 j m)) ?_ ((K.fw.l.length+1)) ?_
      ·
       rintro dA b0 bC _ ⟨z,cU,rfl,bX,aO,bP⟩ dq
       have aL:=ai.trans aO
       have bs:=aO.get (aN.get bk)
       refine sr ?_
       refine oq 102 (kT z (K.fw.l.length+1)) fun dL cH=>WO.nil<|WP.seq<|cq cH (fun cN=>?_) (fun cN=>?_)
       ·
        refine WP.skip<|WP.seq<|WP.block<|sr<|oN 2<|sr<|oX 1<|oZ G (0+1) (.slice a12 (K.gD.l.length) nI) sR bs (by rw[<-X];rfl)<|oX 1 ?_
        have a7:z<K.gD.l.length:=by omega
        refine WO.cons (WC.iy X hK.gD.1 (z) vt ud (a7) ?_)
        obtain⟨L,S⟩:=gE a7
        obtain⟨aJ,aK,ah⟩:=(hK.gD.2 L (fa S)).shape
        have c3:=(hK.gD.2 L (fa S)).2.2
        refine WO.cons (WC.lz (.slice aJ (L.l.length) aK) X (hK.gD.1.mono aL nR) S (by rw[<-ah];rfl) lO<|oN 2<|WP.block ?_)
        have cp:=(aQ z L om S).1
        refine mu [1,8,100,101,108,109,110] (fun m hs ns vs=>∃(J:Nat),J+m=L.l.length/\vs=[pt G 0,Y (.ofNat z),Y (.ofNat (K.fw.l.length+1)),Y (.ofNat z),.slice aJ (L.l.length) aK,Y (.ofNat (L.l.length)),Y (.ofNat J)]/\bC<=ns/\HE (bC) b0 hs/\(∀b5 m,b5<J->LV K z b5 m)) ?_ (L.l.length) ?_
        ·
         rintro dB b3 bD _ ⟨J,cV,rfl,bY,ar,bx⟩ dr
         have aM:=aL.trans ar
         have bt:=ar.get bs
         refine sr ?_
         refine oq 111 (kT J L.l.length) fun dM cI=>WO.nil<|WP.seq<|cq cI (fun cO=>?_) (fun cO=>?_)
         ·
          refine WP.skip<|WP.seq<|WP.block<|sr<|oX 1 ?_
          have a_:J<L.l.length:=by omega
          refine WO.cons (WC.iy ah (hK.gD.2 L (fa S)) (J) lP kH (a_) ?_)
          obtain⟨br,aT⟩:=gE a_
          refine WO.cons (WC.lz (Y br) ah ((hK.gD.2 L (fa S)).mono aM nR) aT rfl fy<|oN 2<|sr<|oX 1<|oZ G (0+1) (.slice a12 (K.gD.l.length) nI) sR bt (by rw[<-X];rfl)<|oX 1 ?_)
          have bc:J<K.gD.l.length:=by omega
          refine WO.cons (WC.iy X hK.gD.1 (J) vt ud (bc) ?_)
          obtain⟨W,aa⟩:=gE bc
          obtain⟨bE,bG,aS⟩:=(hK.gD.2 W (fa aa)).shape
          have c5:=(hK.gD.2 W (fa aa)).2.2
          refine WO.cons (WC.lz (.slice bE (W.l.length) bG) X (hK.gD.1.mono aM nR) aa (by rw[<-aS];rfl) lO<|oN 2<|WP.block ?_)
          have cr:=(aQ J W om aa).1
          refine mu [1,8,10,100,101,108,109,110,119,120,121] (fun m hs ns vs=>∃(N:Nat),N+m=W.l.length/\vs=[pt G 0,Y (.ofNat z),Y br,Y (.ofNat (K.fw.l.length+1)),Y (.ofNat z),.slice aJ (L.l.length) aK,Y (.ofNat (L.l.length)),Y (.ofNat J),.slice bE (W.l.length) bG,Y (.ofNat (W.l.length)),Y (.ofNat N)]/\bD<=ns/\HE (bD) b3 hs/\(∀b6,b6<N->LV K z J b6)) ?_ (W.l.length) ?_
          ·
           rintro dC dx dE _ ⟨N,cW,rfl,bZ,au,bz⟩ dt
           have aq:=aM.trans au
           refine sr ?_
           refine oq 122 (kT N W.l.length) fun dN cJ=>WO.nil<|WP.seq<|cq cJ (fun cP=>?_) (fun cP=>?_)
           ·
            refine WP.skip<|WP.seq<|WP.block<|sr<|oX 1 ?_
            have bd:N<W.l.length:=by omega
            refine WO.cons (WC.iy aS (hK.gD.2 W (fa aa)) (N) lP kH (bd) ?_)
            obtain⟨bU,aU⟩:=gE bd
            refine WO.cons (WC.lz (Y bU) aS ((hK.gD.2 W (fa aa)).mono aq nR) aU rfl fy<|oN 2<|sr<|oX 1<|oZ G (0+1) (.slice a12 (K.gD.l.length) nI) sR (au.get bt) (by rw[<-X];rfl)<|oX 1 ?_)
            have bN:z<K.gD.l.length:=by omega
            refine WO.cons (WC.iy X hK.gD.1 (z) vt ud (bN)<|WO.cons (WC.lz (.slice aJ (L.l.length) aK) X (hK.gD.1.mono aq nR) S (by rw[<-ah];rfl) lO<|oX 1 ?_))
            have bf:N<L.l.length:=by omega
            refine WO.cons (WC.iy ah (hK.gD.2 L (fa S)) (N) lP kH (bf) ?_)
            obtain⟨bV,aV⟩:=gE bf
            refine WO.cons (WC.lz (Y bV) ah ((hK.gD.2 L (fa S)).mono aq nR) aV rfl fy<|oX 3 ?_)
            refine oq 137 (mE (gy .i64 ((br)+(bU))) bV) fun dO cK=>WO.nil<|cq cK (fun cQ=>?_) (fun cQ=>?_)
            ·
             refine sr<|oW 1 ⟨rfl,rfl,[Y 160],U,?_⟩
             refine⟨⟨160,rfl,⟨fun h=>absurd h (by decide),fun an=>?_⟩,.inr rfl⟩,od,aq⟩
             have:=an.tri z J N _ _ _ _ _ S aT aa aU aV;omega
            ·
             refine WP.skip<|WP.region<|ov 138 (Y (.ofNat (N+1))) ?_ (fun _ _ _=>by rw[<-gQ (show N+1<9223372036854775808 by omega)];kernel_rfl)
             refine oN 1<|⟨W.l.length-(N+1),om,rfl,rfl,N+1,om,U,?_,?_,?_⟩
             · exact bZ
             · exact au
             · intro b6 hm
               rcases fE.1 hm with hm|rfl
               · exact bz b6 hm
               · intro cR cS a b c h1 D h3 h4 cx
                 rw[S]at h1;cases h1;rw[aT]at D;cases D;rw[aa]at h3;cases h3;rw[aU]at h4;cases h4;rw[aV]at cx;cases cx
                 omega
           ·
            refine WP.exit<|WP.region<|ov 139 (Y (.ofNat (J+1))) ?_ (fun _ _ _=>by rw[<-gQ (show J+1<9223372036854775808 by omega)];kernel_rfl)
            refine oN 1<|⟨L.l.length-(J+1),om,rfl,rfl,J+1,om,U,?_,?_,?_⟩
            · exact od
            · exact(ar.trans au bY)
            · intro b5 m hj
              rcases fE.1 hj with hj|rfl
              · exact bx b5 m hj
              · rcases Nat.lt_or_ge m W.l.length with hm|hm
                · exact bz m om
                · intro cR cS a b c h1 D h3 h4;rw[aa]at h3;cases h3;rw[List.getElem?_eq_none hm]at h4;cases h4
          ·
           exact⟨0,om,U,fg _,HE.refl _ _,(fun _ h=>absurd h (fK _))⟩
         ·
          refine WP.exit<|WP.region<|ov 140 (Y (.ofNat (z+1))) ?_ (fun _ _ _=>by rw[<-gQ (show z+1<9223372036854775808 by omega)];kernel_rfl)
          refine oN 1<|⟨(K.fw.l.length+1)-(z+1),om,rfl,rfl,z+1,om,U,?_,?_,?_⟩
          · exact od
          · exact(aO.trans ar bX)
          · intro b4 j m hi
            rcases fE.1 hi with hi|rfl
            · exact bP b4 j m hi
            · rcases Nat.lt_or_ge j L.l.length with hj|hj
              · exact bx j m om
              · intro cR cS a b c h1 D;rw[S]at h1;cases h1;rw[List.getElem?_eq_none hj]at D;cases D
        ·
         exact⟨0,om,U,fg _,HE.refl _ _,(fun _ _ h=>absurd h (fK _))⟩
       ·
        refine WP.exit<|sr<|oW 1 ⟨rfl,rfl,[Y 0],U,?_⟩
        refine⟨⟨0,rfl,⟨fun _=>?_,fun _=>rfl⟩,.inl rfl⟩,od,aL⟩
        refine⟨om,om,fun j s hs=>bO j s (by have:=(fp.1 hs).1;omega) hs,fun j r hr=>aQ j r (by have:=(fp.1 hr).1;omega) hr,fun i j m=>?_⟩
        rcases gn i (K.fw.l.length+1)with hi|hi
        · exact bP i j m om
        · intro cR cS a b c h1;rw[List.getElem?_eq_none om]at h1;cases h1
      ·
       exact⟨0,om,U,fg _,HE.refl _ _,(fun _ _ _ h=>absurd h (fK _))⟩
    ·
     exact⟨0,om,U,fg _,HE.refl _ _,(fun _ _ h=>absurd h (fK _))⟩
  ·
   exact⟨0,om,U,fg _,HE.refl _ _,(fun _ _ h=>absurd h (fK _))⟩
theorem Ys(O:Ht)(G:Nat):WF ex 111 [] O G (fL G O (wM (.agg (gU (⟨true,-1,0,0⟩:jg)).toArray))):=by
 refine wd Tryz.f111 2 [.cell 0 153] fun hE=>sr<|oA [.bool false,Y 0,Y 0,Y 0] uK fun jy iI ia=>?_
 refine WO.nil<|sr<|oX 1<|oS G (0) (.agg ⟨[.bool true,Y (-1),Y 0,Y 0]⟩) [.bool true,Y (-1),Y 0,Y 0] [.bool true,Y (-1),Y 0,Y 0] lB rfl rfl ia fun j jt b e=>?_
 refine wr ⟨rfl,rfl,[.agg ⟨[.bool true,Y (-1),Y 0,Y 0]⟩],(sX (by rw[show(f_ (.tmp 0)).run _=pt G 0 from by kernel_rfl];exact jV si lB b rfl)),?_⟩
 exact⟨rfl,od,((hE.trans iI).trans jt)⟩
theorem Ca(K:kg)(x:jg)(O:Ht)(G:Nat)(hK:oy O G K):WF ex 57 [.agg (ji K).toArray,.agg (gU x).toArray] O G (fL G O (Wd (ub K/\uJ K x))):=by
 refine wd Tryz.f57 47 [.tmp 4] fun hE=>sr<|oB (.agg (ji K).toArray) (ji K) fun jy iI ia=>?_
 refine oB (.agg (gU x).toArray) (gU x) fun ag J W=>?_
 have C:=(hE.trans iI).trans J
 have F:=J.get ia
 refine oN 1<|WP.seq<|sr<|WO.cons (WC.iz G (0) (ji K) U xZ v8 F rfl<|WO.cons (WC.call 8 55 ([.agg (ji K).toArray]) kf ((Dd K ag (G+1+1) (hK.mono C)).mono ?_)))
 rintro _ M ab ⟨⟨z21,rfl,y,aB⟩,xI,jE⟩
 have j:=C.trans jE
 have b:=jE.get W
 refine oN 1<|sr<|oX 1 ?_
 refine oq 10 (qS z21 0) fun aF ah=>WO.nil<|cq ah (fun p=>?_) (fun p=>?_)
 ·
  refine sr<|oW 2 ⟨rfl,rfl,[Y z21],U,?_⟩
  refine⟨⟨z21,rfl,⟨fun h=>?_,fun o=>?_⟩⟩,od,j⟩
  · exact absurd h p
  · exact absurd ((y).2 o.1) p
 ·
  refine WP.skip<|sr<|oX 1<|oZ (G+1) (0+1) (Y x.lA) fy b rfl ?_
  refine oq 14 (pS (-1) x.lA) fun e ai=>oX 1<|gT 15 e (pt (G+1) (0+1))<|lG 15 e (G+1) (0+1) (Y x.lA) fy b rfl<|gT 15 e (pt G 0) ?_
  obtain⟨a32,ad,aa⟩:=hK.fw.shape
  have az:=hK.fw.2.2
  refine lG 15 e G 0 (.slice a32 (K.fw.l.length) ad) zo (jE.get F) (by rw[<-aa];rfl)<|gT 15 e (Y (.ofNat (K.fw.l.length))) ?_
  refine qH 15 e (nQ x.lA K.fw.l.length) fun aG aj=>?_
  refine nh 22 (nA ai aj) fun A ak=>oX 1<|gT 23 A (pt (G+1) (0+2))<|lG 23 A (G+1) (0+2) (Y x.hY) fy b rfl ?_
  refine qH 23 A (pS (-288230376151711744) x.hY) fun aH al=>?_
  refine nh 27 (nA ak al) fun m an=>oX 1<|gT 28 m (pt (G+1) (0+2))<|lG 28 m (G+1) (0+2) (Y x.hY) fy b rfl<|gT 28 m (pt (G+1) (0+3))<|lG 28 m (G+1) (0+3) (Y x.gY) fy b rfl ?_
  refine qH 28 m (pS x.hY x.gY) fun aI ao=>?_
  refine nh 34 (nA an ao) fun B aq=>oX 1<|gT 35 B (pt (G+1) (0+3))<|lG 35 B (G+1) (0+3) (Y x.gY) fy b rfl ?_
  refine qH 35 B (pS x.gY 288230376151711744) fun aJ ar=>?_
  refine nh 39 (nA aq ar) fun aK au=>oN 1<|WP.seq<|sr<|oX 1 ?_
  obtain⟨ae,af,av⟩:=@nb (x.j2) (x.j2=true) (by first|done|exact gk)
  refine oZ (G+1) 0 (.bool ae) xp b (by rw[af];rfl)<|WO.nil<|cq av (fun u=>?_) (fun u=>?_)
  ·
   refine WP.qZ [⟨[0],[0],some 1⟩,⟨[2],[0,2],some 3⟩,⟨[],[],none⟩] U _ rfl<|WD.kZ<|WN.hZ rfl (WC.iz (G+1) (0) (gU x) U si lB b rfl<|WN.nil ⟨?_,?_⟩)
   ·
    refine co (.agg (gU x).toArray) (kh ex.T M.get 153 (pt (G+1) 0)) (jV si lB b rfl) (zi x) ?_
    exact jc.nil
   refine WC.at rfl (WC.call 43 111 ([]) kf ((Ys M (ab)).mono ?_))
   rintro _ X aE ⟨rfl,aC,L⟩
   have E:=j.trans L
   refine WD.kZ ?_
   obtain⟨z,S,aw⟩:=@nb (@decide (x=(⟨true,-1,0,0⟩:jg)) (Classical.propDecidable _)) (x=(⟨true,-1,0,0⟩:jg)) (@decide_eq_true_iff _ (Classical.propDecidable _))
   refine WN.hZ rfl (WC.mq (v:=.bool z) 44 (Ac ex.T .eql 153 (.tmp 42) (.tmp 43) (.agg (gU x).toArray) (.agg (gU (⟨true,-1,0,0⟩:jg)).toArray)) kf (Da _ _ x (⟨true,-1,0,0⟩:jg) S)<|WN.nil ⟨?_,?_⟩)
   ·
    refine co (.agg (gU x).toArray) (kh ex.T X.get 153 (pt (G+1) 0)) (jV si lB (L.get b) rfl) (zi x)<|co (.bool z) (Ac ex.T .eql 153 (.tmp 42) (.tmp 43) (.agg (gU x).toArray) (.agg (gU (⟨true,-1,0,0⟩:jg)).toArray)) ((Da _ _ x (⟨true,-1,0,0⟩:jg) S)) (iO 8 z) ?_
    exact jc.nil
   refine WC.at rfl (WC.val 6 (.bool z) kf<|WD.last<|WN.nil ⟨?_,?_⟩)
   ·
    exact jc.nil
   refine WP.seq<|sr<|oX 1 ?_
   refine oq 46 (nN aw) fun aL ax=>WO.nil<|cq ax (fun N=>?_) (fun N=>?_)
   ·
    refine sr<|oW 1 ⟨rfl,rfl,[Y 230],U,?_⟩
    refine⟨⟨230,rfl,⟨fun h=>absurd h (by decide),fun o=>?_⟩⟩,od,E⟩
    exact absurd (o.2.1 u) N
   ·
    refine WP.skip<|sr<|oW 1 ⟨rfl,rfl,[Y 0],U,?_⟩
    refine⟨⟨0,rfl,⟨fun _=>?_,fun _=>rfl⟩⟩,od,E⟩
    exact⟨(y).1 (fu.1 p),fun _=>fu.1 N,fun hf=>by rw[u]at hf;cases hf⟩
  ·
   refine WP.skip<|WP.seq<|sr<|oX 1 ?_
   refine oq 46 (nN au) fun aM ay=>WO.nil<|cq ay (fun R=>?_) (fun R=>?_)
   ·
    refine sr<|oW 1 ⟨rfl,rfl,[Y 230],U,?_⟩
    refine⟨⟨230,rfl,⟨fun h=>absurd h (by decide),fun o=>?_⟩⟩,od,j⟩
    exact absurd (by have aA:=o.2.2 (gz.2 u);omega) R
   ·
    refine WP.skip<|sr<|oW 1 ⟨rfl,rfl,[Y 0],U,?_⟩
    refine⟨⟨0,rfl,⟨fun _=>?_,fun _=>rfl⟩⟩,od,j⟩
    exact⟨(y).1 (fu.1 p),fun aD=>absurd aD u,fun _=>by have aA:=fu.1 R;omega⟩
theorem UL(K:kg)(O:Ht)(G:Nat)(hK:oy O G K):WF ex 24 [.agg (ji K).toArray] O G (fL G O (JO True)):=by
 refine wd Tryz.f24 28 [.tmp 2] fun hE=>sr<|oB (.agg (ji K).toArray) (ji K) fun jy iI ia=>?_
 have lq:=hE.trans iI
 refine oN 1<|WP.seq<|sr<|oX 1 ?_
 obtain⟨ag,ah,C⟩:=hK.fw.shape
 have ab:=hK.fw.2.2
 refine oZ G 0 (.slice ag (K.fw.l.length) ah) zo ia (by rw[<-C];rfl)<|oX 1 ?_
 refine oq 7 (nQ 8 K.fw.l.length) fun u L=>oX 1<|gF 8 u (pt G (0+1)) ?_
 obtain⟨a12,nI,e⟩:=hK.gD.1.shape
 have ad:=hK.gD.1.2.2
 refine nS 8 u G (0+1) (.slice a12 (K.gD.l.length) nI) sR ia (by rw[<-e];rfl)<|gF 8 u (Y (.ofNat (K.gD.l.length))) ?_
 refine nH 8 u (nQ 10 K.gD.l.length) fun r5 vh=>?_
 refine mI 13 (nO L vh) fun al M=>WO.nil<|cq M (fun S=>?_) (fun S=>?_)
 ·
  refine sr<|oW 1 ⟨rfl,rfl,[.bool false],U,?_⟩
  refine⟨⟨false,rfl,fun hc=>?_⟩,od,lq⟩
  cases hc
 ·
  refine WP.skip<|WP.seq<|sr<|oN 1<|WP.block ?_
  refine mu [1,3] (fun m hs ns vs=>∃(b:Nat),b+m=K.gD.l.length/\vs=[pt G 0,Y (.ofNat b)]/\G+1<=ns/\HE (G+1) jy hs) ?_ (K.gD.l.length) ?_
  ·
   rintro aj ai ak _ ⟨b,aa,rfl,B,o⟩ af
   have j:=lq.trans o
   have A:=o.get ia
   refine WP.seq<|sr<|oX 2<|oZ G (0+1) (.slice a12 (K.gD.l.length) nI) sR A (by rw[<-e];rfl)<|oX 1 ?_
   refine oq 18 (kT b K.gD.l.length) fun an N=>WO.nil<|cq N (fun W=>?_) (fun W=>?_)
   ·
    refine WP.skip<|WP.seq<|WP.block<|sr<|oX 1<|oZ G (0+1) (.slice a12 (K.gD.l.length) nI) sR A (by rw[<-e];rfl)<|oX 1 ?_
    have y:b<K.gD.l.length:=by omega
    refine WO.cons (WC.iy e hK.gD.1 (b) vt ud (y) ?_)
    obtain⟨z,p⟩:=gE y
    obtain⟨F,J,E⟩:=(hK.gD.2 z (fa p)).shape
    have ae:=(hK.gD.2 z (fa p)).2.2
    refine WO.cons (WC.lz (.slice F (z.l.length) J) e (hK.gD.1.mono j nR) p (by rw[<-E];rfl) lO<|oX 1 ?_)
    refine oq 27 (nQ 12 z.l.length) fun ao R=>WO.nil<|cq R (fun X=>?_) (fun X=>?_)
    ·
     refine sr<|oW 1 ⟨rfl,rfl,[.bool false],U,?_⟩
     refine⟨⟨false,rfl,fun hc=>?_⟩,od,j⟩
     cases hc
    ·
     refine WP.skip<|WP.region<|oX 1<|ov 20 (Y (.ofNat (b+1))) ?_ (fun _ _ _=>by rw[<-gQ (show b+1<9223372036854775808 by omega)];kernel_rfl)
     refine oN 1<|⟨K.gD.l.length-(b+1),om,rfl,rfl,b+1,om,U,?_,?_⟩
     · exact B
     · exact o
   ·
    refine WP.exit<|sr<|oW 1 ⟨rfl,rfl,[.bool true],U,?_⟩
    refine⟨⟨true,rfl,fun hc=>?_⟩,od,j⟩
    trivial
  ·
   exact⟨0,om,U,fg _,HE.refl _ _⟩
theorem UM(F:jq)(O:Ht)(G:Nat)(A:kB O G F):WF ex 7 [.agg (gO F).toArray] O G (fL G O (JO (Wn F))):=by
 refine wd Tryz.f7 62 [.tmp 2] fun hE=>sr<|oB (.agg (gO F).toArray) (gO F) fun jy iI ia=>?_
 have lq:=hE.trans iI
 refine oN 1<|sr<|oN 1<|WP.seq<|sr<|oX 1 ?_
 obtain⟨an,ao,C⟩:=A.fc.1.shape
 have aR:=A.fc.1.2.2
 refine oZ G (0+3) (.slice an (F.fc.l.length) ao) ow ia (by rw[<-C];rfl)<|oX 1 ?_
 refine oq 10 (nQ 6 F.fc.l.length) fun W aE=>oX 1<|gF 11 W (pt G (0+2)) ?_
 obtain⟨a12,nI,ax⟩:=A.gj.shape
 have aS:=A.gj.2.2
 refine nS 11 W G (0+2) (.slice a12 (F.gj.l.length) nI) x_ ia (by rw[<-ax];rfl)<|gF 11 W (Y (.ofNat (F.gj.l.length))) ?_
 refine nH 11 W (nQ 3 F.gj.l.length) fun r5 vh=>?_
 refine mI 16 (nO aE vh) fun B al=>oX 1<|gF 17 B (pt G 0)<|xY 17 B (.agg (ji F.fx).toArray) (by rintro rfl;exact WC.iz G 0 (ji F.fx) U xZ v8 ia rfl rfl)<|WO.cons (WC.gq (!B) (GI (!B) (True) (G+1) jy) (.bool B) (g:=f_ (.tmp 17)) rfl U (by cases B<;>rfl) (fun h=>by obtain rfl:B=false:=(by simpa using h);have bs:¬(((6)<((F.fc.l.length:Nat):Int))\/((3)<((F.gj.l.length:Nat):Int))):=(fun k=>absurd ((al).2 k) (by decide));exact WC.call 20 24 ([.agg (ji F.fx).toArray]) kf ((UL F.fx jy (G+1) (A.fx.mono lq)).mono fun v e9 e_ ⟨⟨c,a_,hc⟩,hn,he⟩=>⟨_,_,_,rfl,⟨c,a_,hc⟩,hn,he⟩)) (fun h=>GI.off h) ?_)
 rintro _ aw aj ⟨⟨sJ,rfl,bg⟩,xI,jE⟩
 have v_:sJ=true↔(sJ=true):=gk
 have ae:=lq.trans jE
 refine nH 17 B (nN v_) fun bj aF=>?_
 refine mI 22 (nO al aF) fun bk aG=>WO.nil<|cq aG (fun wZ=>?_) (fun wZ=>?_)
 ·
  refine sr<|oW 1 ⟨rfl,rfl,[.bool false],U,?_⟩
  refine⟨⟨false,rfl,fun hc=>?_⟩,od,ae⟩
  cases hc
 ·
  refine WP.skip<|WP.seq<|sr<|oN 1<|WP.block ?_
  refine mu [1,3,4] (fun m hs ns vs=>∃(p:Nat) (S:Nat),p+m=F.fc.l.length/\vs=[pt G 0,Y (.ofNat S),Y (.ofNat p)]/\aj<=ns/\HE (aj) aw hs/\(S<=1407374883553280*p)/\(∀(j:Nat) (r:im),j<p->F.fc.l[j]?=some r->r.lE.l.length<=8/\r.fV.l.length<=5/\Aq r<=S)) ?_ (F.fc.l.length) ?_
  ·
   rintro bc aY z _ ⟨p,S,aP,rfl,au,R,bq,ai⟩ aV
   have M:=ae.trans R
   have af:=R.get (jE.get ia)
   refine WP.seq<|sr<|oX 2<|oZ G (0+3) (.slice an (F.fc.l.length) ao) ow af (by rw[<-C];rfl)<|oX 1 ?_
   refine oq 27 (kT p F.fc.l.length) fun bl aH=>WO.nil<|cq aH (fun aM=>?_) (fun aM=>?_)
   ·
    refine WP.skip<|WP.seq<|WP.block<|sr<|oX 1<|oZ G (0+3) (.slice an (F.fc.l.length) ao) ow af (by rw[<-C];rfl)<|oX 1 ?_
    have aa:p<F.fc.l.length:=by omega
    refine WO.cons (WC.iy C A.fc.1 (p) uy mS (aa) ?_)
    obtain⟨e,y⟩:=gE aa
    refine WO.cons (WC.ly C (A.fc.1.mono M nR) y zn mS<|oA [Y 0,.slice none (0) 0,.slice none (0) 0] B_ fun aZ oY ar=>?_)
    refine oS z (0) (.agg (ja e).toArray) (ja e) (ja e) mS rfl (fe.2 ⟨rfl,xD _ (A.fc.2 e (fa y))⟩) ar fun vC ah N aX=>?_
    have w_:=(M.trans oY).trans ah
    refine WO.nil<|WP.seq<|sr<|oX 1 ?_
    obtain⟨a66,aB,ay⟩:=(A.fc.2 e (fa y)).lE.shape
    have aT:=(A.fc.2 e (fa y)).lE.2.2
    refine oZ z (0+1) (.slice a66 (e.lE.l.length) aB) lO N (by rw[<-ay];rfl)<|oX 1 ?_
    refine oq 38 (nQ 8 e.lE.l.length) fun X aI=>oX 1<|gF 39 X (pt z (0+2)) ?_
    obtain⟨a70,AA,E⟩:=(A.fc.2 e (fa y)).fV.1.shape
    have aU:=(A.fc.2 e (fa y)).fV.1.2.2
    refine nS 39 X z (0+2) (.slice a70 (e.fV.l.length) AA) qz N (by rw[<-E];rfl)<|gF 39 X (Y (.ofNat (e.fV.l.length))) ?_
    refine nH 39 X (nQ 5 e.fV.l.length) fun bn aJ=>?_
    refine mI 44 (nO aI aJ) fun bo aK=>WO.nil<|cq aK (fun aN=>?_) (fun aN=>?_)
    ·
     refine sr<|oW 1 ⟨rfl,rfl,[.bool false],U,?_⟩
     refine⟨⟨false,rfl,fun hc=>?_⟩,od,w_⟩
     cases hc
    ·
     refine WP.skip<|sr<|oN 1<|WP.block ?_
     refine mu [1,3,4,5,6] (fun m hs ns vs=>∃(u:Nat) (n2:Nat),u+m=e.fV.l.length/\vs=[pt G 0,Y (.ofNat n2),Y (.ofNat p),pt z 0,Y (.ofNat u)]/\z+1<=ns/\HE (z+1) vC hs/\(n2<=1407374883553280*p+281474976710656*u)/\(n2=S+((e.fV.l.take u).map (fun o=>o.l.length)).sum)) ?_ (e.fV.l.length) ?_
     ·
      rintro bd a6 bf _ ⟨u,n2,aQ,rfl,av,K,yr,a7⟩ aW
      have aq:=w_.trans K
      have ag:=K.get N
      refine WP.seq<|sr<|oX 2<|oZ z (0+2) (.slice a70 (e.fV.l.length) AA) qz ag (by rw[<-E];rfl)<|oX 1 ?_
      refine oq 49 (kT u e.fV.l.length) fun bp aL=>WO.nil<|cq aL (fun aO=>?_) (fun aO=>?_)
      ·
       refine WP.skip<|WP.seq<|WP.block<|WP.region<|oX 2<|oZ z (0+2) (.slice a70 (e.fV.l.length) AA) qz ag (by rw[<-E];rfl)<|oX 1 ?_
       have ab:u<e.fV.l.length:=by omega
       refine WO.cons (WC.iy E ((A.fc.2 e (fa y)).fV.1) (u) ue sI (ab) ?_)
       obtain⟨J,L⟩:=gE ab
       obtain⟨aA,aC,ak⟩:=((A.fc.2 e (fa y)).fV.2 J (fa L)).shape
       have aD:=((A.fc.2 e (fa y)).fV.2 J (fa L)).2.2
       refine WO.cons (WC.lz (.slice aA (J.l.length) aC) E ((A.fc.2 e (fa y)).fV.1.mono aq nR) L (by rw[<-ak];rfl) uc<|oX 1<|ov 59 (Y (.ofNat (n2+J.l.length))) ?_ (fun _ _ _=>by rw[<-gQ (show n2+J.l.length<9223372036854775808 by omega)];kernel_rfl))
       refine oN 1<|WP.region<|oX 1<|ov 51 (Y (.ofNat (u+1))) ?_ (fun _ _ _=>by rw[<-gQ (show u+1<9223372036854775808 by omega)];kernel_rfl)
       refine oN 1<|⟨e.fV.l.length-(u+1),om,rfl,rfl,u+1,n2+J.l.length,om,U,?_,?_,?_,?_⟩
       · exact av
       · exact K
       · first|omega|(dsimp only;omega)
       · rw[List.take_add_one,List.map_append,List.sum_append,L]
         simp only[Option.toList_some,List.map_cons,List.map_nil,List.sum_cons,List.sum_nil]
         omega
      ·
       refine WP.exit<|WP.region<|oX 1<|ov 29 (Y (.ofNat (p+1))) ?_ (fun _ _ _=>by rw[<-gQ (show p+1<9223372036854775808 by omega)];kernel_rfl)
       refine oN 1<|⟨F.fc.l.length-(p+1),om,rfl,rfl,p+1,n2,om,U,?_,?_,?_,?_⟩
       · exact od
       · exact(((R.trans oY au).trans ah).trans K)
       · first|omega|(dsimp only;omega)
       · intro j bh hj hs
         rcases fE.1 hj with hj|rfl
         · obtain⟨a,b,c⟩:=ai j bh hj hs;exact⟨a,b,om⟩
         · rw[y]at hs;cases hs
           refine⟨om,om,?_⟩
           have:(e.fV.l.take u).map (fun o=>o.l.length)=e.fV.l.map (fun o=>o.l.length):=by rw[List.take_of_length_le om]
           unfold Aq;rw[<-this];omega
     ·
      exact⟨0,S,om,U,fg _,HE.refl _ _,om,(by simp)⟩
   ·
    refine WP.exit<|sr<|oX 1 ?_
    refine oq 61 (Hv S 60) fun ad az=>oW 1 ⟨rfl,rfl,[.bool ad],U,?_⟩
    refine⟨⟨ad,rfl,fun hc=>?_⟩,od,M⟩
    have br:=(az).1 hc
    refine⟨om,om,fun r hr=>?_⟩
    obtain⟨j,hj⟩:=fS hr
    obtain⟨a,b,c⟩:=ai j r (by have:=(fp.1 hj).1;omega) hj
    exact⟨a,b,om⟩
  ·
   exact⟨0,0,om,U,fg _,HE.refl _ _,(gI _),(fun _ _ h=>absurd h (fK _))⟩
theorem UN{p:Prop}(h:p:=by
 obtain⟨a1,c2,h_⟩:=hK.1.shape
 have mc:=hK.1.2.2
 rw[h_]
 refine GM mL fun hE=>sr<|oN 1<|WP.seq<|sr<|oN 3<|WP.block ?_
 refine mu [0,1,7,8] (fun m hs ns vs=>∃(fW:Nat),fW+m=K.l.length/\vs=[.slice a1 (K.l.length) c2,.func (.func f) #[] b,Y (.ofNat (K.l.length)),Y (.ofNat fW)]/\G<=ns/\HE (G) O hs/\(∀(j:Nat) (y:_),j<fW->K.l[j]?=some y->¬A y)) ?_ (K.l.length) ?_
 ·
  rintro ya ql jd _ ⟨fW,uz,rfl,oR,jt,hinv⟩ uA
  have j9:=hE.trans jt
  refine sr ?_
  refine oq 9 (kT fW K.l.length) fun nI rY=>WO.nil<|WP.seq<|cq rY (fun xq=>?_) (fun xq=>?_)
  ·
   refine WP.skip<|WP.seq<|WP.block<|sr<|oN 2<|sr<|oX 3 ?_
   have nL:fW<K.l.length:=by omega
   refine WO.cons (WC.iy h_ hK.1 (fW) nM pq (nL) ?_)
   obtain⟨lH,kM⟩:=gE nL
   refine WO.cons (WC.ly h_ (hK.1.mono j9 nR) kM tj pq<|WO.cons (WC.call 16 f ((.agg (pK lH).toArray)::b.toList) kf ((hf fW lH kM ql (jd) om j9).mono ?_)))
   rintro _ JZ UI ⟨⟨Fv,rfl,Db⟩,UJ,uB⟩
   refine WO.nil<|cq Db (fun wZ=>?_) (fun wZ=>?_)
   ·
    refine sr<|oW 2 ⟨rfl,rfl,[Y (.ofNat fW)],U,?_⟩
    exact⟨.inr ⟨fW,lH,rfl,kM,wZ,hinv⟩,od,(j9.trans uB)⟩
   ·
    refine WP.skip<|WP.region<|ov 18 (Y (.ofNat (fW+1))) ?_ (fun _ _ _=>by rw[<-gQ (show fW+1<9223372036854775808 by omega)];kernel_rfl)
    refine oN 1<|⟨K.l.length-(fW+1),om,rfl,rfl,fW+1,om,U,?_,?_,?_⟩
    · exact od
    · exact(jt.trans uB oR)
    · intro j y hj hy;rcases fE.1 hj with hj|rfl;exact hinv j y hj hy;rw[kM]at hy;cases hy;exact wZ
  ·
   refine WP.exit<|sr<|oW 1 ⟨rfl,rfl,[Y (-1)],U,?_⟩
   refine⟨.inl ⟨rfl,fun y hy=>?_⟩,od,j9⟩
   obtain⟨j,hj⟩:=fS hy
   exact hinv j y (by have:=(fp.1 hj).1;omega) hj
 ·
  exact⟨0,om,U,fg _,HE.refl _ _,(fun j y h=>absurd h (fK _))⟩):p:=h
theorem Ew{A:im->Prop}(K:SV im)(f:FuncId)(b:Array Value)(O:Ht)(G:Nat)(hK:jC ja 3 (fun O G y=>mr O G y) O G K)(hf:∀(i:Nat) (x:im),K.l[i]?=some x->∀(e9:Ht) (e_:Nat),G<=e_->HE G O e9->WF ex f ((.agg (ja x).toArray)::b.toList) e9 e_ (fL e_ e9 (gi (A x)))):WF ex 34 [K.v,.func (.func f) #[] b] O G (fL G O (qf K.l A)):=by
 have mL:=fF (e:=ex) 34 Tryz.f34 19 [.tmp 4]
 have nM:=@uy
 have pq:=@mS
 have tj:=@zn
 let pK:=ja
 exact UN
theorem Nj{p:Prop}(h:p:=by
 obtain⟨a1,c2,h_⟩:=hK.1.shape
 have mc:=hK.1.2.2
 rw[h_]
 refine GM mL fun hE=>sr<|oN 1<|sr<|oX 2<|WO.cons (WC.call 7 _ ([K.v,.func (.func f) #[] b]) (fun _ _ _=>by(try rw[h_]);kernel_rfl) ((nM K f b O (G) hK hf).mono ?_))
 rintro Sv Ev IQ ⟨BX,Nh,pP⟩
 obtain⟨z8,rfl,Sx⟩:∃z:Int,Sv=Y z/\(0<=z↔∃x∈K.l,A x):=qf.sign BX
 refine oq 8 (pS 0 z8) fun nZ rZ=>oW 1 ⟨rfl,rfl,[.bool nZ],U,?_⟩
 exact⟨⟨nZ,rfl,rZ.trans Sx⟩,od,(hE.trans pP)⟩):p:=h
theorem xJ{A:im->Prop}(K:SV im)(f:FuncId)(b:Array Value)(O:Ht)(G:Nat)(hK:jC ja 3 (fun O G y=>mr O G y) O G K)(hf:∀(i:Nat) (x:im),K.l[i]?=some x->∀(e9:Ht) (e_:Nat),G<=e_->HE G O e9->WF ex f ((.agg (ja x).toArray)::b.toList) e9 e_ (fL e_ e9 (gi (A x)))):WF ex 61 [K.v,.func (.func f) #[] b] O G (fL G O (gi (∃x∈K.l,A x))):=by
 have mL:=fF (e:=ex) 61 Tryz.f61 9 [.tmp 4]
 have nM:=@Ew
 exact Nj
theorem Nk(x:im)(w b:Nat)(O:Ht)(G:Nat)(hx:mr O G x)(hb:O.get b=some (.cells [Y (.ofNat w)] gm.plain))(jH:b<G)(hw:w<x.fV.l.length):WF ex 112 [.agg (ja x).toArray,pt b 0] O G (fL G O (gi (∃o,x.fV.l[w]?=some o/\o.l=[]))):=by
 refine wd Tryz.f112 11 [.tmp 3] fun hE=>sr<|oB (.agg (ja x).toArray) (ja x) fun jy iI ia=>?_
 have lq:=hE.trans iI
 refine oN 1<|sr<|oX 1 ?_
 obtain⟨z,B,j⟩:=hx.fV.1.shape
 have F:=hx.fV.1.2.2
 refine oZ G (0+2) (.slice z (x.fV.l.length) B) qz ia (by rw[<-j];rfl)<|oZ b (0) (Y (.ofNat w)) fy (iI.get hb jH) rfl ?_
 have m:w<x.fV.l.length:=by omega
 refine WO.cons (WC.iy j hx.fV.1 (w) ue sI (m) ?_)
 obtain⟨p,e⟩:=gE m
 obtain⟨A,C,y⟩:=(hx.fV.2 p (fa e)).shape
 have J:=(hx.fV.2 p (fa e)).2.2
 refine WO.cons (WC.lz (.slice A (p.l.length) C) j (hx.fV.1.mono lq nR) e (by rw[<-y];rfl) uc<|oX 1 ?_)
 refine oq 10 (vY p.l.length 0) fun u E=>oW 1 ⟨rfl,rfl,[.bool u],U,?_⟩
 refine⟨⟨u,rfl,?_⟩,od,lq⟩
 rw[E]
 constructor
 · intro h;exact⟨_,e,fZ om⟩
 · rintro ⟨o,h1,D⟩;rw[e]at h1;cases h1;rw[D];rfl
theorem Nl(F:jq)(O:Ht)(G:Nat)(y:kB O G F)(hlen:∀r∈F.fc.l,r.fV.l.length=F.gj.l.length+1):WF ex 58 [.agg (gO F).toArray] O G (fL G O (gi (Yq F))):=by
 refine wd Tryz.f58 17 [.tmp 2] fun hE=>sr<|oB (.agg (gO F).toArray) (gO F) fun jy iI ia=>?_
 refine oN 1<|WP.seq<|sr<|oX 1 ?_
 obtain⟨aj,ak,S⟩:=y.gj.shape
 have ah:=y.gj.2.2
 refine oZ G (0+2) (.slice aj (F.gj.l.length) ak) x_ ia (by rw[<-S];rfl)<|oX 1<|ov 7 (Y (.ofNat (F.gj.l.length+1))) ?_ (fun _ _ _=>by rw[<-gQ (show F.gj.l.length+1<9223372036854775808 by omega)];kernel_rfl)
 refine oN 1<|WP.block ?_
 refine mu [1,7,8] (fun m hs ns vs=>∃(hR:Nat),hR+m=(F.gj.l.length+1)/\vs=[pt G 0,Y (.ofNat (F.gj.l.length+1)),Y (.ofNat hR)]/\G+1<=ns/\HE (G+1) jy hs/\(∀j,j<hR->¬rL F j)) ?_ ((F.gj.l.length+1)) ?_
 ·
  rintro Fx al b _ ⟨hR,ag,rfl,M,p,J⟩ Cb
  have z:=(hE.trans iI).trans p
  refine sr ?_
  refine oq 9 (kT hR (F.gj.l.length+1)) fun ao ab=>WO.nil<|WP.seq<|cq ab (fun af=>?_) (fun af=>?_)
  ·
   refine WP.skip<|WP.seq<|WP.block<|sr<|oX 1<|oA [Y 0] Bd fun an u K=>?_
   refine oS b (0) (Y (.ofNat hR)) [Y (.ofNat hR)] [Y (.ofNat hR)] kH rfl rfl K fun R B L N=>?_
   have e:=(z.trans u).trans B
   refine WO.nil<|sr<|oX 1 ?_
   obtain⟨a44,W,C⟩:=y.fc.1.shape
   have ai:=y.fc.1.2.2
   refine oZ G (0+3) (.slice a44 (F.fc.l.length) W) ow ((N G om).trans (u.get (p.get ia))) (by rw[<-C];rfl)<|oX 1<|WO.cons (WC.call 14 61 ([F.fc.v,.func (.func 112) #[] #[pt b 0]]) (fun _ _ _=>by(try rw[C]);kernel_rfl) ((xJ (A:=fun x=>∃o,x.fV.l[hR]?=some o/\o.l=[]) F.fc 112 #[pt b 0] R (b+1) (y.fc.mono (fun _ h he hn=>h.mono he hn) e) (fun i x hx e9 e_ hn he=>Nk x (hR) b e9 e_ (((y.fc.2 x (fa hx)).mono e).mono he hn) (he.get L) (fb (fo (b)) hn) (by have:=hlen x (fa hx);omega))).mono ?_))
   rintro _ pU o4 ⟨⟨aq,rfl,ad⟩,CG,oY⟩
   refine oq 15 (nN ad) fun ar ae=>WO.nil<|cq ae (fun E=>?_) (fun E=>?_)
   ·
    refine sr<|oW 1 ⟨rfl,rfl,[.bool true],U,?_⟩
    refine⟨⟨true,rfl,⟨fun _=>?_,fun _=>rfl⟩⟩,od,(e.trans oY)⟩
    refine⟨hR,om,fun r hr=>?_⟩
    have hl:=hlen r hr
    obtain⟨o,X⟩:∃o,r.fV.l[hR]?=some o:=⟨_,fq om⟩
    exact⟨o,X,fun h0=>E ⟨r,hr,o,X,h0⟩⟩
   ·
    refine WP.skip<|WP.region<|ov 16 (Y (.ofNat (hR+1))) ?_ (fun _ _ _=>by rw[<-gQ (show hR+1<9223372036854775808 by omega)];kernel_rfl)
    refine oN 1<|⟨(F.gj.l.length+1)-(hR+1),om,rfl,rfl,hR+1,om,U,?_,?_,?_⟩
    · exact od
    · exact(((p.trans u M).trans B).trans oY)
    · intro j hj
      rcases fE.1 hj with hj|rfl
      · exact J j hj
      · intro e9
        obtain⟨x,hx,o,h1,D⟩:=fu.1 E
        obtain⟨o',h3,h4⟩:=e9 x hx
        rw[h1]at h3;cases h3;exact h4 D
  ·
   refine WP.exit<|sr<|oW 1 ⟨rfl,rfl,[.bool false],U,?_⟩
   refine⟨⟨false,rfl,⟨fun h=>(by cases h),fun aa=>False.elim ?_⟩⟩,od,z⟩
   obtain⟨w,h1,D⟩:=aa
   exact J w om D
 ·
  exact⟨0,om,U,fg _,HE.refl _ _,(fun _ h=>absurd h (fK _))⟩
theorem UO(x:im)(e:Int)(b:Nat)(O:Ht)(G:Nat)(hx:mr O G x)(hb:O.get b=some (.cells [Y e] gm.plain))(jH:b<G):WF ex 35 [.agg (ja x).toArray,pt b 0] O G (fL G O (gi (x.nG=e))):=by
 refine wd Tryz.f35 8 [.tmp 3] fun hE=>sr<|oB (.agg (ja x).toArray) (ja x) fun jy iI ia=>?_
 refine oN 1<|sr<|oX 1<|oZ G 0 (Y x.nG) fy ia rfl<|oZ b (0) (Y e) fy (iI.get hb jH) rfl ?_
 refine oq 7 (sZ x.nG e) fun j m=>oW 1 ⟨rfl,rfl,[.bool j],U,?_⟩
 refine⟨⟨j,rfl,?_⟩,od,(hE.trans iI)⟩
 exact m
theorem Nn(F:jq)(b:Int)(O:Ht)(G:Nat)(p:kB O G F):WF ex 11 [.agg (gO F).toArray,Y b] O G (fL G O (Zu F b)):=by
 refine wd Tryz.f11 14 [.tmp 4,.tmp 5] fun hE=>sr<|oB (.agg (gO F).toArray) (gO F) fun jy iI ia=>?_
 refine oB (Y b) [Y b] fun J m z=>?_
 have e:=(hE.trans iI).trans m
 refine oN 2<|sr<|oX 1 ?_
 obtain⟨a17,E,o⟩:=p.fc.1.shape
 have K:=p.fc.1.2.2
 refine oZ G (0+3) (.slice a17 (F.fc.l.length) E) ow (m.get ia) (by rw[<-o];rfl)<|oX 1<|WO.cons (WC.call 9 34 ([F.fc.v,.func (.func 35) #[] #[pt (G+1) 0]]) (fun _ _ _=>by(try rw[o]);kernel_rfl) ((Ew (A:=fun x=>x.nG=(b)) F.fc 35 #[pt (G+1) 0] J (G+1+1) (p.fc.mono (fun _ h he hn=>h.mono he hn) e) (fun i x hx e9 e_ hn he=>UO x (b) (G+1) e9 e_ (((p.fc.2 x (fa hx)).mono e).mono he hn) (he.get z) (fb (fo (G+1)) hn))).mono ?_))
 rintro R M N ⟨u,L,B⟩
 obtain⟨z24,rfl,C⟩:=qf.num u
 refine oN 1<|sr<|oX 3 ?_
 refine oq 13 (pS 0 z24) fun j y=>oW 2 ⟨rfl,rfl,[Y ((bif rU (z24) (0)then(0)else(z24))),.bool j],U,?_⟩
 refine⟨⟨_,_,rfl,?_⟩,od,(e.trans B)⟩
 rcases C with⟨rfl,h⟩|⟨i,x,rfl,h1,D,h3⟩
 · have:j=false:=Bool.eq_false_iff.2 fun k=>by have:=(y).1 k;omega
   exact .inl ⟨rfl,this,h⟩
 · have:j=true:=(y).2 (Int.natCast_nonneg i)
   exact .inr ⟨i,x,rfl,this,h1,D,h3⟩
theorem Yt{p:Prop}(h:p:=by
 refine GM mL fun hE=>sr<|oN 1<|WP.seq<|sr<|oX 1 ?_
 refine oq 6 (zm n 0) fun c1 p1=>WO.nil<|WP.cond c1 U (fun D=>?_) (fun D=>?_)
 ·
  have q3:=(p1).1 D
  exact absurd q3 om
 ·
  have q3:=nq p1 D
  refine WP.skip<|WP.seq<|sr<|ov 8 (Y (.ofNat n))<|ov 9 (.slice none (0) 0)<|ov 10 (Y (.ofNat (0)))<|ov 11 (.slice none (0) 0)<|ov 12 (Y (.ofNat (0)))<|ov 13 (Y (.ofNat 0))<|ov 14 (Y (gy .i64 (.ofNat n-.ofNat 0))) ?_
  rw[show gy .i64 (.ofNat n-.ofNat 0)=.ofNat n from wrapN (n:=n) om]
  refine oN 1<|sr<|oX 1 ?_
  refine oq 16 (nQ 0 n) fun c4 p4=>WO.nil<|cq p4 (fun q6=>?_) (fun q6=>?_)
  ·
   refine WP.region<|oX 5 ?_
   obtain⟨inf,pI,vL⟩:=nM
   have MV:0<n:=by omega
   refine WO.cons (WC.KK 22 (jU ex.T O.get pK 3 (.slice none 0 0) (Y (.ofNat n)) G) rfl kf (Lp pq tj Sy pI (UH om) MV (by rfl) vL om) ?_)
   generalize Z5:jm _ _=Yu
   have J1:Rm G Z6 n Yu (G+2) (.slice (some ⟨G+1,0,none⟩) 0 n) 0 []:=by rw[<-Z5];exact Rm.fresh MV rfl
   have heG:HE G O Yu:=by rw[<-Z5];exact Rm.WZ
   refine oX 2<|WO.cons (WC.mq (v:=.slice (some ⟨G+1,0,none⟩) (0) n) 25 (sT ex.T Yu.get pK (.slice (some ⟨G+1,0,none⟩) (n) n) none (some (Y (.ofNat 0))) none) kf (by cases J1 with|room h0 hb hg jI h1 D h3 h4 hl hr hle=>exact OO pq tj hb nR)<|oN 1<|sr<|oW 2 ⟨rfl,rfl,[.slice (some ⟨G+1,0,none⟩) (0) n],U,?_⟩)
   exact⟨J1,od,(hE.trans heG)⟩
  ·
   refine WP.skip<|sr<|oW 2 ⟨rfl,rfl,[.slice none (0) 0],U,?_⟩
   exact⟨.nil om,nR,hE⟩):p:=h
theorem W6(n:Nat)(O:Ht)(G:Nat)(hn:n<=60):WF ex 110 [.slice none (0) 0,Y (.ofNat n)] O G (fun v e9 e_=>Rm G 4 n e9 e_ v 0 []/\G<=e_/\HE G O e9):=by
 have mL:=fF (e:=ex) 110 Tryz.f110 27 [.tmp 4]
 have nM:=@PK
 have pq:=@zp
 have tj:=@lB
 have Sy:=@uK
 let pK:=(117:Nat)
 let Z6:=(4:Nat)
 exact Yt
theorem Sz(W:SV (SV jg))(O:Ht)(G:Nat)(p:jC lL 1 (fun O G y=>gB gU 4 O G y) O G W)(hs:(W.l.map (fun o=>o.l.length)).sum<=60):WF ex 56 [W.v] O G (fun v e9 e_=>Zv W v e9 e_/\G<=e_/\HE G O e9):=by
 obtain⟨a1,c2,h_⟩:=p.1.shape
 have mc:=p.1.2.2
 rw[h_]
 refine wd Tryz.f56 36 [.tmp 2] fun hE=>sr<|oN 1<|sr<|oN 1<|WP.seq<|sr<|oN 3<|WP.block ?_
 refine mu [0,3,9,10,11] (fun m hs ns vs=>∃(fW:Nat) (j:Nat),fW+m=W.l.length/\vs=[.slice a1 (W.l.length) c2,Y (.ofNat j),.slice a1 (W.l.length) c2,Y (.ofNat (W.l.length)),Y (.ofNat fW)]/\G<=ns/\HE (G) O hs/\(j=((W.l.take fW).map (fun o=>o.l.length)).sum)) ?_ (W.l.length) ?_
 ·
  rintro ya ql jd _ ⟨fW,j,uz,rfl,oR,jt,F⟩ uA
  have j9:=hE.trans jt
  have S:=ff nR oR
  have aA:j<=60:=by rw[F,List.map_take];exact ff (xk _ _) hs
  refine sr ?_
  refine oq 12 (kT fW W.l.length) fun nI rY=>WO.nil<|WP.seq<|cq rY (fun xq=>?_) (fun xq=>?_)
  ·
   refine WP.skip<|WP.seq<|WP.block<|sr ?_
   have nL:fW<W.l.length:=by omega
   refine WO.cons (WC.iy h_ p.1 (fW) ue sI (nL) ?_)
   obtain⟨lH,kM⟩:=gE nL
   obtain⟨aa,yI,R⟩:=(p.2 lH (fa kM)).shape
   have ak:=(p.2 lH (fa kM)).2.2
   refine WO.cons (WC.lz (.slice aa (lH.l.length) yI) h_ (p.1.mono j9 nR) kM (by rw[<-R];rfl) uc<|oN 1<|sr<|oX 3<|ov 18 (Y (.ofNat (j+lH.l.length))) ?_ (fun _ _ _=>by rw[<-gQ (show j+lH.l.length<9223372036854775808 by omega)];kernel_rfl))
   refine oN 1<|sr<|oX 1 ?_
   refine oq 20 (zm (j+lH.l.length) 0) fun ay ag=>WO.nil<|cq ag (fun J=>?_) (fun J=>?_)
   ·
    exact absurd J om
   ·
    refine WP.skip<|WP.region<|ov 22 (Y (.ofNat (fW+1))) ?_ (fun _ _ _=>by rw[<-gQ (show fW+1<9223372036854775808 by omega)];kernel_rfl)
    refine oN 1<|⟨W.l.length-(fW+1),om,rfl,rfl,fW+1,j+lH.l.length,om,U,?_,?_,?_⟩
    · exact oR
    · exact jt
    · rw[List.take_add_one,List.map_append,List.sum_append,kM]
      simp only[Option.toList_some,List.map_cons,List.map_nil,List.sum_cons,List.sum_nil]
      omega
  ·
   refine WP.exit<|sr<|oX 1<|WO.cons (WC.call 24 110 ([.slice none 0 0,Y (.ofNat j)]) kf ((W6 (j) ql (jd) om).mono ?_))
   rintro aw aq X ⟨J1,ao,K⟩
   have M:=J1.le S
   refine oN 1<|WP.seq<|sr<|oN 3<|WP.block ?_
   have ad:j=(W.l.map (fun o=>o.l.length)).sum:=by rw[F,List.take_of_length_le om]
   refine mu [6,25,26,27] (fun m hs ns vs=>∃(b:Nat) (E:Value),b+m=W.l.length/\vs=[E,.slice a1 (W.l.length) c2,Y (.ofNat (W.l.length)),Y (.ofNat b)]/\X<=ns/\HE G O hs/\(Rm G 4 j hs ns E (((W.l.take b).map (fun o=>o.l.length)).sum) ((W.l.take b).flatMap (fun o=>o.l.flatMap gU)))) ?_ (W.l.length) ?_
   ·
    rintro au ar av _ ⟨b,E,aj,rfl,L,u,B⟩ an
    refine sr ?_
    refine oq 28 (kT b W.l.length) fun az ah=>WO.nil<|WP.seq<|cq ah (fun ai=>?_) (fun ai=>?_)
    ·
     refine WP.skip<|WP.seq<|WP.block<|sr ?_
     have A:b<W.l.length:=by omega
     refine WO.cons (WC.iy h_ p.1 (b) ue sI (A) ?_)
     obtain⟨z,e⟩:=gE A
     obtain⟨a45,ab,C⟩:=(p.2 z (fa e)).shape
     have al:=(p.2 z (fa e)).2.2
     refine WO.cons (WC.lz (.slice a45 (z.l.length) ab) h_ (p.1.mono u nR) e (by rw[<-C];rfl) uc<|oN 1<|WP.region<|oX 2 ?_)
     obtain⟨inf,pI,vL⟩:=PK
     have af:((W.l.take b).map (fun o=>o.l.length)).sum+z.l.length<=j:=by
      have:=xk (W.l.map (fun o=>o.l.length)) (b+1)
      rw[<-List.map_take,List.take_add_one,List.map_append,List.sum_append,e]at this
      simp only[Option.toList_some,List.map_cons,List.map_nil,List.sum_cons,List.sum_nil]at this
      omega
     refine WO.cons (WC.PE (m:=z.l.length) rfl U U B zp lB uK pI W4 (((p.2 z (fa e)).mono u nR).src C) rfl (nF _ ((p.2 z (fa e)).mono u nR).1) (by simp[List.all_flatMap,gU,xX,Bz]) (by decide) af vL om rfl ?_)
     rintro ax aB ae N
     refine oN 1<|WP.region<|ov 34 (Y (.ofNat (b+1))) ?_ (fun _ _ _=>by rw[<-gQ (show b+1<9223372036854775808 by omega)];kernel_rfl)
     refine oN 1<|⟨W.l.length-(b+1),om,rfl,rfl,b+1,ax,om,U,?_,?_,?_⟩
     · exact L
     · exact(u.trans ae)
     · rw[List.take_add_one,e,List.map_append,List.sum_append,List.flatMap_append]
       simpa using N
    ·
     refine WP.exit<|sr<|oW 2 ⟨rfl,rfl,[E],U,?_⟩
     refine⟨⟨⟨E,W.l.flatMap (·.l)⟩,rfl,rfl,?_⟩,od,u⟩
     have hT:W.l.take b=W.l:=fJ om
     rw[hT]at B
     exact B.ok ad.symm (by rw[List.flatMap_assoc]) (by rw[List.length_flatMap,ad]) (fun x _=>rfl) om
   ·
    exact⟨0,aw,om,U,fg _,(j9.trans K),(by simpa using M)⟩
 ·
  exact⟨0,0,om,U,fg _,HE.refl _ _,(by simp)⟩
theorem Ex(F:jq)(O:Ht)(G:Nat)(L:kB O G F)(hw:∀r∈F.fc.l,Aq r<=60):WF ex 25 [.agg (gO F).toArray] O G (fL G O (MZ 240 (sh F))):=by
 refine wd Tryz.f25 136 [.tmp 2] fun hE=>sr<|oB (.agg (gO F).toArray) (gO F) fun jy iI ia=>?_
 have lq:=hE.trans iI
 refine oN 1<|WP.seq<|sr<|oX 1<|WO.cons (WC.iz G 0 (ji F.fx) U xZ v8 ia rfl<|WO.cons (WC.call 13 55 ([.agg (ji F.fx).toArray]) kf ((Dd F.fx jy (G+1) (L.fx.mono lq)).mono ?_)))
 rintro _ d_ ah ⟨⟨z12,rfl,bS,dH⟩,dI,bN⟩
 have bJ:=lq.trans bN
 have aG:=bN.get ia
 refine oq 14 (qS z12 0) fun bk cS=>oX 1<|gF 15 bk (pt G (0+2)) ?_
 obtain⟨ay,aA,aj⟩:=L.gj.shape
 have dt:=L.gj.2.2
 refine nS 15 bk G (0+2) (.slice ay (F.gj.l.length) aA) x_ aG (by rw[<-aj];rfl)<|gF 15 bk (Y (.ofNat (F.gj.l.length))) ?_
 refine nH 15 bk (nQ 16 F.gj.l.length) fun sJ v_=>?_
 refine mI 20 (nO cS v_) fun bl cT=>oX 1<|gF 21 bl (pt G (0+3)) ?_
 obtain⟨a23,uL,S⟩:=L.fc.1.shape
 have du:=L.fc.1.2.2
 refine nS 21 bl G (0+3) (.slice a23 (F.fc.l.length) uL) ow aG (by rw[<-S];rfl)<|gF 21 bl (Y (.ofNat (F.fc.l.length))) ?_
 refine nH 21 bl (zm F.fc.l.length 1) fun dS cU=>?_
 refine mI 26 (nO cT cU) fun bn cV=>oX 1<|gF 27 bn (pt G (0+3))<|nS 27 bn G (0+3) (.slice a23 (F.fc.l.length) uL) ow aG (by rw[<-S];rfl)<|gF 27 bn (Y (.ofNat (F.fc.l.length))) ?_
 refine nH 27 bn (nQ 4000 F.fc.l.length) fun dT cW=>?_
 refine mI 32 (nO cV cW) fun dU cX=>WO.nil<|cq cX (fun bU=>?_) (fun bU=>?_)
 ·
  refine sr<|oW 1 ⟨rfl,rfl,[Y 240],U,?_⟩
  refine⟨⟨240,rfl,⟨fun h=>absurd h (by decide),fun ae=>?_⟩,.inr rfl⟩,od,bJ⟩
  rcases bU with((ai|ai)|ai)|ai
  · exact absurd ((bS).2 ae.Sr) ai
  · have:=ae.np;omega
  · have:=ae.nr;omega
  · have:=ae.nr2;omega
 ·
  refine WP.skip<|sr<|oA [Y 0,Y 0] Ng fun dK bO cc=>?_
  have bL:=bO.get aG
  refine WO.nil<|WP.seq<|sr<|oX 1<|oZ G (0+2) (.slice ay (F.gj.l.length) aA) x_ bL (by rw[<-aj];rfl)<|oN 2<|WP.block ?_
  have bM:ub F.fx:=(bS).1 (fu.1 fun k=>bU (.inl (.inl (.inl k))))
  refine mu [1,3,34,35,36] (fun m hs ns vs=>∃(K:Nat) (aB:AR),K+m=F.gj.l.length/\vs=[pt G 0,pt ah 0,.slice ay (F.gj.l.length) aA,Y (.ofNat (F.gj.l.length)),Y (.ofNat K)]/\ah+1<=ns/\HE G O hs/\hs.get G=some (.cells (gO F) gm.plain)/\hs.get ah=some (.cells (tA aB) gm.plain)/\(∀(j:Nat) (p:AR),j<K->F.gj.l[j]?=some p->(1<=p.fA/\p.fA<p.fB/\p.fB<=9999)/\(0<j->∀q,F.gj.l[j-1]?=some q->q.fA<p.fA\/(q.fA=p.fA/\q.fB<p.fB)))/\((K=0->aB=⟨0,0⟩)/\(0<K->∀q,F.gj.l[K-1]?=some q->aB=q))) ?_ (F.gj.l.length) ?_
  ·
   rintro dO cp C _ ⟨K,aB,dg,rfl,dJ,bc,bf,cr,bx,aM⟩ dz
   refine sr ?_
   refine oq 37 (kT K F.gj.l.length) fun dV cY=>WO.nil<|WP.seq<|cq cY (fun dd=>?_) (fun dd=>?_)
   ·
    refine WP.skip<|WP.seq<|WP.block<|sr ?_
    have bu:K<F.gj.l.length:=by omega
    refine WO.cons (WC.iy aj L.gj (K) W5 BM (bu) ?_)
    obtain⟨E,aS⟩:=gE bu
    refine WO.cons (WC.ly aj (L.gj.mono bc nR) aS PL BM<|oA [Y 0,Y 0] Ng fun dL bd cd=>?_)
    refine oS C (0) (.agg (tA E).toArray) (tA E) (tA E) BM rfl rfl cd fun dM cj af bP=>?_
    have bK:=(bc.trans bd).trans cj
    have aH:=(bP ah om).trans (bd.get cr)
    refine WO.nil<|WP.seq<|sr<|oX 1<|oZ C 0 (Y E.fA) fy af rfl ?_
    refine oq 42 (mE E.fA 1) fun aW cZ=>oX 1<|gF 43 aW (pt C 0)<|nS 43 aW C 0 (Y E.fA) fy af rfl<|gF 43 aW (pt C (0+1))<|nS 43 aW C (0+1) (Y E.fB) fy af rfl ?_
    refine nH 43 aW (pS E.fB E.fA) fun dW c0=>?_
    refine mI 49 (nO cZ c0) fun bA c3=>oX 1<|gF 50 bA (pt C (0+1))<|nS 50 bA C (0+1) (Y E.fB) fy af rfl ?_
    refine nH 50 bA (mE 9999 E.fB) fun dX c5=>?_
    refine mI 54 (nO c3 c5) fun aX c6=>oX 1<|gF 55 aX (pt C 0)<|nS 55 aX C 0 (Y E.fA) fy af rfl<|gF 55 aX (pt ah 0)<|nS 55 aX ah 0 (Y aB.fA) fy aH rfl ?_
    refine nH 55 aX (mE E.fA aB.fA) fun dY c7=>?_
    refine mI 61 (nO c6 c7) fun J c8=>oX 1<|gF 62 J (pt C 0)<|nS 62 J C 0 (Y E.fA) fy af rfl<|gF 62 J (pt ah 0)<|nS 62 J ah 0 (Y aB.fA) fy aH rfl ?_
    refine nH 62 J (sZ E.fA aB.fA) fun M c9=>gF 62 J (.bool M)<|og 68 (!J&&M) (pt C (0+1)) ((bif !J then .bool M else undef)) (by cases J<;>cases M<;>rfl) (fun h=>by obtain⟨rfl,rfl⟩:=sY h;exact fun _ _ _=>by kernel_rfl) ?_
    refine wW 68 (!J&&M) (Y E.fB) ((bif !J then .bool M else undef)) (by cases J<;>cases M<;>rfl) (fun h=>by obtain⟨rfl,rfl⟩:=sY h;exact WC.jW C (0+1) (Y E.fB) U fy af rfl rfl) ?_
    refine og 68 (!J&&M) (pt ah (0+1)) ((bif !J then .bool M else undef)) (by cases J<;>cases M<;>rfl) (fun h=>by obtain⟨rfl,rfl⟩:=sY h;exact fun _ _ _=>by kernel_rfl) ?_
    refine wW 68 (!J&&M) (Y aB.fB) ((bif !J then .bool M else undef)) (by cases J<;>cases M<;>rfl) (fun h=>by obtain⟨rfl,rfl⟩:=sY h;exact WC.jW ah (0+1) (Y aB.fB) U fy aH rfl rfl) ?_
    obtain⟨b8,cI,c_⟩:=pS E.fB aB.fB
    refine og 68 (!J&&M) (.bool b8) ((bif !J then .bool M else undef)) (by cases J<;>cases M<;>rfl) (fun h=>by obtain⟨rfl,rfl⟩:=sY h;exact fun _ _ _=>by subst cI;kernel_rfl) ?_
    obtain⟨b9,cJ,da⟩:=nA c9 c_
    refine xY 62 J (.bool b9) (by rintro rfl;exact WC.mq (v:=.bool b9) 74 (lu (.bool M) ((bif !false&&M then .bool b8 else undef)) (.bool false)) kf (by rw[cJ];exact tL (fun h=>by obtain rfl:M=true:=h;rfl)) rfl) ?_
    refine mI 75 (nO c8 da) fun dZ db=>WO.nil<|cq db (fun a8=>?_) (fun a8=>?_)
    ·
     refine sr<|oW 1 ⟨rfl,rfl,[Y 240],U,?_⟩
     refine⟨⟨240,rfl,⟨fun h=>absurd h (by decide),fun ae=>?_⟩,.inr rfl⟩,od,bK⟩
     obtain⟨⟨h1,D,h3⟩,h4⟩:=ae.pair _ _ aS
     rcases gp K with h0|h0
     · rw[aM.1 h0]at a8;simp only at a8;omega
     · obtain⟨q,ai⟩:∃q,F.gj.l[K-1]?=some q:=⟨_,List.getElem?_eq_getElem om⟩
       have dG:=h4 h0 _ ai
       rw[aM.2 h0 _ ai]at a8;omega
    ·
     refine WP.skip<|WP.region<|WO.cons (WC.iz C (0) (tA E) U PL BM af rfl<|oS ah (0) (.agg (tA E).toArray) (tA E) (tA E) BM rfl rfl aH fun dN ck cf cn=>?_)
     refine WO.nil<|WP.region<|ov 77 (Y (.ofNat (K+1))) ?_ (fun _ _ _=>by rw[<-gQ (show K+1<9223372036854775808 by omega)];kernel_rfl)
     refine oN 1<|⟨F.gj.l.length-(K+1),om,rfl,rfl,K+1,E,om,U,?_,?_,?_,?_,?_,?_⟩
     · exact od
     · exact(bK.trans ck)
     · exact((cn G om).trans ((bP G om).trans (bd.get bf)))
     · exact cf
     · intro j dP hj hs
       rcases fE.1 hj with hj|rfl
       · exact bx j dP hj hs
       · rw[aS]at hs;cases hs
         refine⟨om,fun h0 dQ bR=>?_⟩
         have h3:=aM.2 h0 _ bR
         rw[h3]at a8;omega
     · refine⟨fun h=>absurd h (Nat.succ_ne_zero _),fun _ q ai=>?_⟩
       rw[Nat.add_sub_cancel,aS]at ai;cases ai;rfl
   ·
    refine WP.exit<|sr<|oN 1<|WP.seq<|sr<|oX 1<|oZ G (0+3) (.slice a23 (F.fc.l.length) uL) ow bf (by rw[<-S];rfl)<|oN 2<|WP.block ?_
    refine mu [1,6,79,80,81] (fun m hs ns vs=>∃(A:Nat) (aT:Int),A+m=F.fc.l.length/\vs=[pt G 0,Y aT,.slice a23 (F.fc.l.length) uL,Y (.ofNat (F.fc.l.length)),Y (.ofNat A)]/\C<=ns/\HE (C) cp hs/\(∀(j:Nat) (r:im),j<A->F.fc.l[j]?=some r->(((1<=r.nG/\r.nG<=9999)/\(0<j->∀q,F.fc.l[j-1]?=some q->q.nG<r.nG))/\(∀q,F.fc.l[0]?=some q->r.lE.l.length=q.lE.l.length)/\r.fV.l.length=F.gj.l.length+1)/\∀o∈r.fV.l,∀x∈o.l,uJ F.fx x)/\(0<=aT/\(A=0->aT=0)/\(0<A->∀q,F.fc.l[A-1]?=some q->aT=q.nG))) ?_ (F.fc.l.length) ?_
    ·
     rintro dv b5 y _ ⟨A,aT,cL,rfl,bZ,aI,aN,aZ⟩ de
     have av:=bc.trans aI
     have bq:=aI.get bf
     refine sr ?_
     refine oq 82 (kT A F.fc.l.length) fun dB ct=>WO.nil<|WP.seq<|cq ct (fun cE=>?_) (fun cE=>?_)
     ·
      refine WP.skip<|WP.seq<|WP.block<|sr ?_
      have a6:A<F.fc.l.length:=by omega
      refine WO.cons (WC.iy S L.fc.1 (A) uy mS (a6) ?_)
      obtain⟨u,B⟩:=gE a6
      refine WO.cons (WC.ly S (L.fc.1.mono av nR) B zn mS<|oA [Y 0,.slice none (0) 0,.slice none (0) 0] B_ fun dm aJ bV=>?_)
      refine oS y (0) (.agg (ja u).toArray) (ja u) (ja u) mS rfl (fe.2 ⟨rfl,xD _ (L.fc.2 u (fa B))⟩) bV fun ab br R b3=>?_
      have X:=(av.trans aJ).trans br
      have ak:=(b3 G om).trans (aJ.get bq)
      refine WO.nil<|WP.seq<|WP.seq<|WP.qZ [⟨[0,1,2,3,4,5,6,7,8,9,10,11,12,13,14,15,16,17,18,19,20,21,22,23,24,25,26,27,28,29,30],[0,1,2,3,4,5,6,7,8,9,10,11,12,13,14,15,16,17,18,19,20,21,22,23,24,25,26,27,28,29,30],none⟩] U _ rfl<|WD.last<|nv 85 (pt y 0)<|WN.hZ rfl (WC.jW y 0 (Y u.nG) U fy R rfl<|nv 87 (Y aT) ?_)
      obtain⟨z,bB,cu⟩:=pS u.nG aT
      refine nv 88 (.bool z) ?_ (fun _ _ _=>by subst bB;kernel_rfl)
      refine nv 89 (.bool z)<|ng rfl 89 (!z) (pt y 0) (.bool z) (by cases z<;>rfl) (fun h=>by obtain rfl:=bF h;exact fun _ _ _=>by kernel_rfl) ?_
      refine xl rfl 89 (!z) (Y u.nG) (.bool z) (by cases z<;>rfl) (fun h=>by obtain rfl:=bF h;exact WC.jW y 0 (Y u.nG) U fy R rfl rfl) ?_
      obtain⟨ao,bC,cw⟩:=mE 9999 u.nG
      refine ng rfl 89 (!z) (.bool ao) (.bool z) (by cases z<;>rfl) (fun h=>by obtain rfl:=bF h;exact fun _ _ _=>by subst bC;kernel_rfl) ?_
      obtain⟨b,bD,bT⟩:=nO cu cw
      refine WN.hZ rfl (WC.mq (v:=.bool b) 93 (lu (.bool z) (.bool true) ((bif !z then .bool ao else undef))) kf (by rw[bD];exact lg (fun h=>by obtain rfl:z=false:=h;rfl))<|nv 94 (.bool b)<|ng rfl 94 (!b) (pt y (0+1)) (.bool b) (by cases b<;>rfl) (fun h=>by obtain rfl:=bF h;exact fun _ _ _=>by kernel_rfl) ?_)
      obtain⟨aC,aE,aO⟩:=(L.fc.2 u (fa B)).lE.shape
      have cN:=(L.fc.2 u (fa B)).lE.2.2
      refine xl rfl 94 (!b) (.slice aC (u.lE.l.length) aE) (.bool b) (by cases b<;>rfl) (fun h=>by obtain rfl:=bF h;exact WC.jW y (0+1) (.slice aC (u.lE.l.length) aE) U lO R (by rw[<-aO];rfl) rfl) ?_
      refine ng rfl 94 (!b) (Y (.ofNat (u.lE.l.length))) (.bool b) (by cases b<;>rfl) (fun h=>by obtain rfl:=bF h;exact fun _ _ _=>by kernel_rfl) ?_
      refine ng rfl 94 (!b) (pt G (0+3)) (.bool b) (by cases b<;>rfl) (fun h=>by obtain rfl:=bF h;exact fun _ _ _=>by kernel_rfl) ?_
      refine xl rfl 94 (!b) (.slice a23 (F.fc.l.length) uL) (.bool b) (by cases b<;>rfl) (fun h=>by obtain rfl:=bF h;exact WC.jW G (0+3) (.slice a23 (F.fc.l.length) uL) U ow ak (by rw[<-S];rfl) rfl) ?_
      have ag:(!b)=true->0<F.fc.l.length:=fun h=>by obtain rfl:b=false:=(by simpa using h);have dc:¬(((u.nG)<=(aT))\/((9999)<(u.nG))):=(fun k=>absurd ((bT).2 k) (by decide));omega
      refine xl rfl 94 (!b) (pt (ga a23) (0+(0)*3)) (.bool b) (by cases b<;>rfl) (fun h=>by obtain rfl:=bF h;exact WC.iy S L.fc.1 (0) uy mS ((ag rfl)) rfl) ?_
      refine ng rfl 94 (!b) (pt (ga a23) (0+(0)*3+1)) (.bool b) (by cases b<;>rfl) (fun h=>by obtain rfl:=bF h;exact fun _ _ _=>by kernel_rfl) ?_
      obtain⟨W,ad⟩:∃cK,F.fc.l[0]?=some cK:=⟨_,fq om⟩
      obtain⟨aD,aF,aP⟩:=(L.fc.2 W (fa ad)).lE.shape
      have cO:=(L.fc.2 W (fa ad)).lE.2.2
      refine xl rfl 94 (!b) (.slice aD (W.lE.l.length) aF) (.bool b) (by cases b<;>rfl) (fun h=>by obtain rfl:=bF h;exact WC.sv (ga a23) (0+(0)*3+1) (.slice aD (W.lE.l.length) aF) U lO ((L.fc.1.mono X nR).pw S (zl ((ag rfl)))) (nE (L.fc.1.mono X nR).1 ad (by decide) (by rw[<-aP];rfl)) rfl) ?_
      refine ng rfl 94 (!b) (Y (.ofNat (W.lE.l.length))) (.bool b) (by cases b<;>rfl) (fun h=>by obtain rfl:=bF h;exact fun _ _ _=>by kernel_rfl) ?_
      obtain⟨aq,bE,cx⟩:=JP u.lE.l.length W.lE.l.length
      refine ng rfl 94 (!b) (.bool aq) (.bool b) (by cases b<;>rfl) (fun h=>by obtain rfl:=bF h;exact fun _ _ _=>by subst bE;kernel_rfl) ?_
      obtain⟨e,bG,bg⟩:=nO bT cx
      refine WN.hZ rfl (WC.mq (v:=.bool e) 105 (lu (.bool b) (.bool true) ((bif !b then .bool aq else undef))) kf (by rw[bG];exact lg (fun h=>by obtain rfl:b=false:=h;rfl))<|nv 106 (.bool e)<|ng rfl 106 (!e) (pt y (0+2)) (.bool e) (by cases e<;>rfl) (fun h=>by obtain rfl:=bF h;exact fun _ _ _=>by kernel_rfl) ?_)
      obtain⟨ax,az,an⟩:=(L.fc.2 u (fa B)).fV.1.shape
      have cP:=(L.fc.2 u (fa B)).fV.1.2.2
      refine xl rfl 106 (!e) (.slice ax (u.fV.l.length) az) (.bool e) (by cases e<;>rfl) (fun h=>by obtain rfl:=bF h;exact WC.jW y (0+2) (.slice ax (u.fV.l.length) az) U qz R (by rw[<-an];rfl) rfl) ?_
      refine ng rfl 106 (!e) (Y (.ofNat (u.fV.l.length))) (.bool e) (by cases e<;>rfl) (fun h=>by obtain rfl:=bF h;exact fun _ _ _=>by kernel_rfl) ?_
      refine ng rfl 106 (!e) (pt G (0+2)) (.bool e) (by cases e<;>rfl) (fun h=>by obtain rfl:=bF h;exact fun _ _ _=>by kernel_rfl) ?_
      refine xl rfl 106 (!e) (.slice ay (F.gj.l.length) aA) (.bool e) (by cases e<;>rfl) (fun h=>by obtain rfl:=bF h;exact WC.jW G (0+2) (.slice ay (F.gj.l.length) aA) U x_ ak (by rw[<-aj];rfl) rfl) ?_
      refine ng rfl 106 (!e) (Y (.ofNat (F.gj.l.length))) (.bool e) (by cases e<;>rfl) (fun h=>by obtain rfl:=bF h;exact fun _ _ _=>by kernel_rfl) ?_
      refine ng rfl 106 (!e) (Y (.ofNat (F.gj.l.length+1))) (.bool e) (by cases e<;>rfl) (fun h=>by obtain rfl:=bF h;have dc:=nf bg;exact fun _ _ _=>by rw[<-gQ (show F.gj.l.length+1<9223372036854775808 by omega)];kernel_rfl) ?_
      obtain⟨ar,bH,cy⟩:=JP u.fV.l.length (F.gj.l.length+1)
      refine ng rfl 106 (!e) (.bool ar) (.bool e) (by cases e<;>rfl) (fun h=>by obtain rfl:=bF h;exact fun _ _ _=>by subst bH;kernel_rfl) ?_
      obtain⟨a_,bI,cz⟩:=nO bg cy
      refine WN.hZ rfl (WC.mq (v:=.bool a_) 115 (lu (.bool e) (.bool true) ((bif !e then .bool ar else undef))) kf (by rw[bI];exact lg (fun h=>by obtain rfl:e=false:=h;rfl))<|WN.nil ⟨?_,?_⟩)
      ·
       refine cv (pt y 0) (iR ..)<|qk y 0 (Y u.nG) fy R rfl (iF ..)<|ci (aT)<|cv (.bool z) (iO 8 z) ?_ (fun _=>by subst bB;kernel_rfl)
       refine cv (.bool z) (iO 8 z)<|cg rfl 89 (!z) (pt y 0) (.bool z) (by cases z<;>rfl) (fun h=>by obtain rfl:=bF h;exact mi (pt y 0) (fun _=>by kernel_rfl) (iR ..)) ?_
       refine cg rfl 89 (!z) (Y u.nG) (.bool z) (by cases z<;>rfl) (fun h=>by obtain rfl:=bF h;exact qJ (Y u.nG) (kh ex.T ab.get 3 (pt y 0)) (fun _=>by kernel_rfl) (ki fy R rfl) (iF ..)) ?_
       refine cg rfl 89 (!z) (.bool ao) (.bool z) (by cases z<;>rfl) (fun h=>by obtain rfl:=bF h;exact mi (.bool ao) (fun _=>by subst bC;kernel_rfl) (iO 8 ao)) ?_
       refine co (.bool b) (lu (.bool z) (.bool true) ((bif !z then .bool ao else undef))) ((by rw[bD];exact lg (fun h=>by obtain rfl:z=false:=h;rfl))) (iO 8 b)<|cv (.bool b) (iO 8 b)<|cg rfl 94 (!b) (pt y (0+1)) (.bool b) (by cases b<;>rfl) (fun h=>by obtain rfl:=bF h;exact mi (pt y (0+1)) (fun _=>by kernel_rfl) (iR ..)) ?_
       refine cg rfl 94 (!b) (.slice aC (u.lE.l.length) aE) (.bool b) (by cases b<;>rfl) (fun h=>by obtain rfl:=bF h;exact qJ (.slice aC (u.lE.l.length) aE) (kh ex.T ab.get 42 (pt y (0+1))) (fun _=>by kernel_rfl) (ki lO R (by rw[<-aO];rfl)) (aO▸(L.fc.2 u (fa B)).lE.jA 8)) ?_
       refine cg rfl 94 (!b) (Y (.ofNat (u.lE.l.length))) (.bool b) (by cases b<;>rfl) (fun h=>by obtain rfl:=bF h;exact mi (Y (.ofNat (u.lE.l.length))) (fun _=>by kernel_rfl) (iF ..)) ?_
       refine cg rfl 94 (!b) (pt G (0+3)) (.bool b) (by cases b<;>rfl) (fun h=>by obtain rfl:=bF h;exact mi (pt G (0+3)) (fun _=>by kernel_rfl) (iR ..)) ?_
       refine cg rfl 94 (!b) (.slice a23 (F.fc.l.length) uL) (.bool b) (by cases b<;>rfl) (fun h=>by obtain rfl:=bF h;exact qJ (.slice a23 (F.fc.l.length) uL) (kh ex.T ab.get 39 (pt G (0+3))) (fun _=>by kernel_rfl) (ki ow ak (by rw[<-S];rfl)) (S▸L.fc.1.jA 8)) ?_
       refine cg rfl 94 (!b) (pt (ga a23) (0+(0)*3)) (.bool b) (by cases b<;>rfl) (fun h=>by obtain rfl:=bF h;exact qJ (pt (ga a23) (0+(0)*3)) (mQ ex.T 39 (.slice a23 (F.fc.l.length) uL) (Y (.ofNat (0)))) (fun _=>by kernel_rfl) (sW (k:=.i64) uy mS ((L.fc.1.mono X nR).BA S (zl ((ag rfl)))) ((ag rfl))) (iR ..)) ?_
       refine cg rfl 94 (!b) (pt (ga a23) (0+(0)*3+1)) (.bool b) (by cases b<;>rfl) (fun h=>by obtain rfl:=bF h;exact mi (pt (ga a23) (0+(0)*3+1)) (fun _=>by kernel_rfl) (iR ..)) ?_
       refine cg rfl 94 (!b) (.slice aD (W.lE.l.length) aF) (.bool b) (by cases b<;>rfl) (fun h=>by obtain rfl:=bF h;exact qJ (.slice aD (W.lE.l.length) aF) (kh ex.T ab.get 42 (pt (ga a23) (0+(0)*3+1))) (fun _=>by kernel_rfl) (tK lO ((L.fc.1.mono X nR).pw S (zl ((ag rfl)))) (nE (L.fc.1.mono X nR).1 ad (by decide) (by rw[<-aP];rfl))) (aP▸(L.fc.2 W (fa ad)).lE.jA 8)) ?_
       refine cg rfl 94 (!b) (Y (.ofNat (W.lE.l.length))) (.bool b) (by cases b<;>rfl) (fun h=>by obtain rfl:=bF h;exact mi (Y (.ofNat (W.lE.l.length))) (fun _=>by kernel_rfl) (iF ..)) ?_
       refine cg rfl 94 (!b) (.bool aq) (.bool b) (by cases b<;>rfl) (fun h=>by obtain rfl:=bF h;exact mi (.bool aq) (fun _=>by subst bE;kernel_rfl) (iO 8 aq)) ?_
       refine co (.bool e) (lu (.bool b) (.bool true) ((bif !b then .bool aq else undef))) ((by rw[bG];exact lg (fun h=>by obtain rfl:b=false:=h;rfl))) (iO 8 e)<|cv (.bool e) (iO 8 e)<|cg rfl 106 (!e) (pt y (0+2)) (.bool e) (by cases e<;>rfl) (fun h=>by obtain rfl:=bF h;exact mi (pt y (0+2)) (fun _=>by kernel_rfl) (iR ..)) ?_
       refine cg rfl 106 (!e) (.slice ax (u.fV.l.length) az) (.bool e) (by cases e<;>rfl) (fun h=>by obtain rfl:=bF h;exact qJ (.slice ax (u.fV.l.length) az) (kh ex.T ab.get 114 (pt y (0+2))) (fun _=>by kernel_rfl) (ki qz R (by rw[<-an];rfl)) (an▸(L.fc.2 u (fa B)).fV.1.jA 8)) ?_
       refine cg rfl 106 (!e) (Y (.ofNat (u.fV.l.length))) (.bool e) (by cases e<;>rfl) (fun h=>by obtain rfl:=bF h;exact mi (Y (.ofNat (u.fV.l.length))) (fun _=>by kernel_rfl) (iF ..)) ?_
       refine cg rfl 106 (!e) (pt G (0+2)) (.bool e) (by cases e<;>rfl) (fun h=>by obtain rfl:=bF h;exact mi (pt G (0+2)) (fun _=>by kernel_rfl) (iR ..)) ?_
       refine cg rfl 106 (!e) (.slice ay (F.gj.l.length) aA) (.bool e) (by cases e<;>rfl) (fun h=>by obtain rfl:=bF h;exact qJ (.slice ay (F.gj.l.length) aA) (kh ex.T ab.get 38 (pt G (0+2))) (fun _=>by kernel_rfl) (ki x_ ak (by rw[<-aj];rfl)) (aj▸L.gj.jA 8)) ?_
       refine cg rfl 106 (!e) (Y (.ofNat (F.gj.l.length))) (.bool e) (by cases e<;>rfl) (fun h=>by obtain rfl:=bF h;exact mi (Y (.ofNat (F.gj.l.length))) (fun _=>by kernel_rfl) (iF ..)) ?_
       refine cg rfl 106 (!e) (Y (.ofNat (F.gj.l.length+1))) (.bool e) (by cases e<;>rfl) (fun h=>by obtain rfl:=bF h;have dc:=nf bg;exact mi (Y (.ofNat (F.gj.l.length+1))) (fun _=>by rw[<-gQ (show F.gj.l.length+1<9223372036854775808 by omega)];kernel_rfl) (iF ..)) ?_
       refine cg rfl 106 (!e) (.bool ar) (.bool e) (by cases e<;>rfl) (fun h=>by obtain rfl:=bF h;exact mi (.bool ar) (fun _=>by subst bH;kernel_rfl) (iO 8 ar)) ?_
       refine co (.bool a_) (lu (.bool e) (.bool true) ((bif !e then .bool ar else undef))) ((by rw[bI];exact lg (fun h=>by obtain rfl:e=false:=h;rfl))) (iO 8 a_) ?_
       exact jc.nil
      refine cq cz (fun cF=>?_) (fun cF=>?_)
      ·
       refine sr<|oW 1 ⟨rfl,rfl,[Y 240],U,?_⟩
       refine⟨⟨240,rfl,⟨fun h=>absurd h (by decide),fun ae=>?_⟩,.inr rfl⟩,od,X⟩
       obtain⟨⟨h1,D⟩,h3,h4⟩:=ae.run _ _ B
       have eb:=h3 _ ad
       rcases gp A with h0|h0
       · have:=aZ.2.1 h0;omega
       · obtain⟨q,ai⟩:∃q,F.fc.l[A-1]?=some q:=⟨_,List.getElem?_eq_getElem om⟩
         have dG:=D h0 _ ai
         have ea:=aZ.2.2 h0 _ ai
         omega
      ·
       refine WP.skip<|sr<|oX 1<|oZ y 0 (Y u.nG) fy R rfl<|oN 1<|sr<|oX 1<|oZ y (0+2) (.slice ax (u.fV.l.length) az) qz R (by rw[<-an];rfl)<|WO.cons (WC.call 120 56 ([u.fV.v]) (fun _ _ _=>by(try rw[an]);kernel_rfl) ((Sz u.fV ab (y+1) ((L.fc.2 u (fa B)).fV.mono (fun _ h he hn=>h.mono he hn) X) (hw _ (fa B))).mono ?_))
       rintro dA bw aU ⟨⟨aa,rfl,aY,aw⟩,dh,aK⟩
       obtain⟨ca,cb,aQ⟩:=aw.shape
       have cQ:=aw.2.2
       rw[aQ]
       refine oN 2<|WP.block ?_
       refine mu [1,6,79,80,81,120,121,122] (fun m hs ns vs=>∃(N:Nat),N+m=aa.l.length/\vs=[pt G 0,Y u.nG,.slice a23 (F.fc.l.length) uL,Y (.ofNat (F.fc.l.length)),Y (.ofNat A),.slice ca (aa.l.length) cb,Y (.ofNat (aa.l.length)),Y (.ofNat N)]/\aU<=ns/\HE (aU) bw hs/\(∀(j:Nat) (x:jg),j<N->aa.l[j]?=some x->uJ F.fx x)) ?_ (aa.l.length) ?_
       ·
        rintro dw dn aV _ ⟨N,cM,rfl,b0,al,bQ⟩ df
        have b7:=(HE.refl (aU) bw).trans al
        refine sr ?_
        refine oq 123 (kT N aa.l.length) fun dC cA=>WO.nil<|WP.seq<|cq cA (fun cG=>?_) (fun cG=>?_)
        ·
         refine WP.skip<|WP.seq<|WP.block<|sr ?_
         have a7:N<aa.l.length:=by omega
         refine WO.cons (WC.iy aQ aw (N) zp lB (a7) ?_)
         obtain⟨au,aR⟩:=gE a7
         refine WO.cons (WC.ly aQ (aw.mono b7 nR) aR si lB<|oA [.bool false,Y 0,Y 0,Y 0] uK fun dp aL bW=>?_)
         refine oS aV (0) (.agg (gU au).toArray) (gU au) (gU au) lB rfl rfl bW fun b6 bs bX b4=>?_
         have bo:=(((X.trans aK).trans al).trans aL).trans bs
         refine WO.nil<|sr<|oX 1<|WO.cons (WC.iz G 0 (ji F.fx) U xZ v8 ((b4 G om).trans (aL.get (al.get (aK.get ak)))) rfl<|WO.cons (WC.iz aV (0) (gU au) U si lB bX rfl<|WO.cons (WC.call 129 57 ([.agg (ji F.fx).toArray,.agg (gU au).toArray]) kf ((Ca F.fx au b6 (aV+1) (L.fx.mono bo)).mono ?_))))
         rintro _ dq dx ⟨⟨cH,rfl,bz⟩,di,bt⟩
         refine oq 130 (qS cH 0) fun dD cB=>WO.nil<|cq cB (fun bh=>?_) (fun bh=>?_)
         ·
          refine sr<|oW 1 ⟨rfl,rfl,[Y 240],U,?_⟩
          refine⟨⟨240,rfl,⟨fun h=>absurd h (by decide),fun ae=>?_⟩,.inr rfl⟩,od,(bo.trans bt)⟩
          have hm:=fa aR
          rw[aY,List.mem_flatMap]at hm
          obtain⟨o,cm,cR⟩:=hm
          exact absurd ((bz).2 ⟨bM,ae.out _ _ B _ cm _ cR⟩) bh
         ·
          refine WP.skip<|WP.region<|ov 131 (Y (.ofNat (N+1))) ?_ (fun _ _ _=>by rw[<-gQ (show N+1<9223372036854775808 by omega)];kernel_rfl)
          refine oN 1<|⟨aa.l.length-(N+1),om,rfl,rfl,N+1,om,U,?_,?_,?_⟩
          · exact od
          · exact(((al.trans aL b0).trans bs).trans bt)
          · intro j x' hj hs
            rcases fE.1 hj with hj|rfl
            · exact bQ j x' hj hs
            · rw[aR]at hs;cases hs
              exact((bz).1 (fu.1 bh)).2
        ·
         refine WP.exit<|WP.region<|ov 132 (Y (.ofNat (A+1))) ?_ (fun _ _ _=>by rw[<-gQ (show A+1<9223372036854775808 by omega)];kernel_rfl)
         refine oN 1<|⟨F.fc.l.length-(A+1),om,rfl,rfl,A+1,u.nG,om,U,?_,?_,?_,?_⟩
         · exact od
         · exact((((aI.trans aJ bZ).trans br).trans aK).trans al)
         · intro j dR hj hs
           rcases fE.1 hj with hj|rfl
           · exact aN j dR hj hs
           · rw[B]at hs;cases hs
             refine⟨⟨⟨by have:=aZ.1;omega,fun h0 dQ bR=>?_⟩,fun ec b_=>?_,om⟩,fun o cm x hx=>?_⟩
             · have h3:=aZ.2.2 h0 _ bR
               omega
             · rw[ad]at b_;cases b_;omega
             · have hm:x∈aa.l:=by rw[aY,List.mem_flatMap];exact⟨o,cm,hx⟩
               obtain⟨n,hn⟩:=fS hm
               exact bQ n x (by have:=(fp.1 hn).1;omega) hn
         · refine⟨by have:=aZ.1;omega,fun h=>absurd h (Nat.succ_ne_zero _),fun _ q ai=>?_⟩
           rw[Nat.add_sub_cancel,B]at ai;cases ai;rfl
       ·
        exact⟨0,om,U,fg _,HE.refl _ _,(fun _ _ h=>absurd h (fK _))⟩
     ·
      refine WP.exit<|WP.seq<|sr<|WO.cons (WC.iz G (0) (gO F) U pF oJ bq rfl<|WO.cons (WC.call 134 58 ([.agg (gO F).toArray]) kf ((Nl F b5 (y) (L.mono av) (fun r hr=>by obtain⟨j,hj⟩:=fS hr;exact(aN j r (by have:=(fp.1 hj).1;omega) hj).1.2.2)).mono ?_)))
      rintro _ dr dy ⟨⟨dE,rfl,cC⟩,dj,bY⟩
      have bp:=av.trans bY
      refine oq 135 (nN cC) fun dF cD=>WO.nil<|cq cD (fun bj=>?_) (fun bj=>?_)
      ·
       refine sr<|oW 1 ⟨rfl,rfl,[Y 240],U,?_⟩
       refine⟨⟨240,rfl,⟨fun h=>absurd h (by decide),fun ae=>?_⟩,.inr rfl⟩,od,bp⟩
       exact absurd ae.JR bj
      ·
       refine WP.skip<|sr<|oW 1 ⟨rfl,rfl,[Y 0],U,?_⟩
       refine⟨⟨0,rfl,⟨fun _=>?_,fun _=>rfl⟩,.inl rfl⟩,od,bp⟩
       refine⟨bM,om,om,om,fun j p O=>bx j p (by have:=(fp.1 O).1;omega) O,fun j r hr=>(aN j r (by have:=(fp.1 hr).1;omega) hr).1,fun j r hr=>(aN j r (by have:=(fp.1 hr).1;omega) hr).2,fu.1 bj⟩
    ·
     exact⟨0,0,om,U,fg _,HE.refl _ _,(fun _ _ h=>absurd h (fK _)),⟨gM _,fun _=>rfl,fun h=>absurd h (Nat.lt_irrefl _)⟩⟩
  ·
   exact⟨0,(⟨0,0⟩:AR),om,U,fg _,(bJ.trans bO),bL,cc,(fun _ _ h=>absurd h (fK _)),⟨fun _=>rfl,fun h=>absurd h (Nat.lt_irrefl _)⟩⟩
end
end Sw
