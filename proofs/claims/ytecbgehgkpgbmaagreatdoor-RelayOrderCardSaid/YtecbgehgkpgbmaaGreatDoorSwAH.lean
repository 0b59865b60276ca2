/- A part of the proof that the law returns true for every input that its row speaks of. No condition is added. -/
import Derived.Test.YtecbgehgkpgbmaaGreatDoorSwAF
import Derived.Test.YtecbgehgkpgbmaaGreatDoorSwAG
namespace Sw
noncomputable section
open Go Go.Proofs Go.RowKit
set_option maxRecDepth 100000
set_option maxHeartbeats 1600000
def Jg(l:List Int):Value->Prop:=fun v=>(v=iN 0/\∀x∈l,x=0)\/∃(i:Nat) (x:Int),v=iN x/\l[i]?=some x/\x≠0/\∀(j:Nat) (y:Int),j<i->l[j]?=some y->y=0
theorem Jg.two{a b:Int}{v:Value}(h:Jg [a,b] v):v=iN (uA a b):=by
 rcases h with⟨rfl,h⟩|⟨i,x,rfl,h1,h2,h3⟩
 · have j:=h a (by simp)
   have hb:=h b (by simp)
   subst j hb;rfl
 · match i,h1 with
   |0,h1=>cases h1;unfold uA;rw[if_pos h2]
   |1,h1=>
    cases h1
    have:=h3 0 a om rfl
    subst this;rfl
   |n+2,h1=>simp at h1
def Yl(p s:rQ):Prop:=p.iX<s.iX\/(p.iX=s.iX/\p.kg<s.kg)
theorem OZ(a b c d:Int):0<=uA (jj a c) (jj b d)↔¬(a<c\/(a=c/\b<d)):=by
 unfold uA jj
 repeat' split
 all_goals omega
def Vh(l:List rQ)(j:Nat)(s:rQ):Prop:=0<=s.iX/\s.iX<40/\0<=s.kg/\s.kg<=255/\(-1099511627776<=s.pH/\s.pH<=1099511627776)/\(0<j->∀p,l[j-1]?=some p->Yl p s)
def Vi(n j:Nat)(r:SV Int):Prop:=r.l.length=n+1/\r.l[j]?=some 0/\∀w∈r.l,¬(w< -2199023255552\/2199023255552<w)
def Lf(K:kM)(i j m:Nat):Prop:=∀(o C:SV Int) (a b c:Int),K.iU.l[i]?=some o->o.l[j]?=some a->K.iU.l[j]?=some C->C.l[m]?=some b->o.l[m]?=some c->c<=gD .i64 (a+b)
structure vm(K:kM):Prop where
 YU:K.gG.l.length<=511
 YV:K.iU.l.length=K.gG.l.length+1
 DO:∀(j:Nat) (s:rQ),K.gG.l[j]?=some s->Vh K.gG.l j s
 row:∀(j:Nat) (r:SV Int),K.iU.l[j]?=some r->Vi K.gG.l.length j r
 Z1:∀i j m,Lf K i j m
def vn(K:kM)(x:jL):Prop:=(x.kl=true->x=⟨true,-1,0,0⟩)/\(x.kl=false->-1<=x.oM/\x.oM<(K.gG.l.length:Nat)/\-288230376151711744<=x.h_/\x.h_<=x.hQ/\x.hQ<=288230376151711744)
def wP(F:kU)(w:Nat):Prop:=∀r∈F.fL.l,∃o,r.gI.l[w]?=some o/\o.l≠[]
def Xl(F:kU):Prop:=∃w,w<=F.iD.l.length/\wP F w
def GS(r:i_):Nat:=(r.gI.l.map (fun o=>o.l.length)).sum
structure Vj(F:kU):Prop where
 ZR:F.fL.l.length<=6
 Z9:F.iD.l.length<=3
 each:∀r∈F.fL.l,r.lj.l.length<=8/\r.gI.l.length<=5/\GS r<=60
def zh(F:kU)(o:Int)(z:Int)(c:Bool):Prop:=(z=0/\c=false/\∀r∈F.fL.l,r.mR≠o)\/∃(i:Nat) (r:i_),z=.ofNat i/\c=true/\F.fL.l[i]?=some r/\r.mR=o/\∀(j:Nat) (y:i_),j<i->F.fL.l[j]?=some y->y.mR≠o
def Ym(F:kU)(j:Int):Value->Prop:=fun v=>∃z c,v=.tuple ⟨[iN z,.bool c]⟩/\zh F j z c
theorem zh.same{F:kU}{o z R:Int}{c C:Bool}(h:zh F o z c)(U:zh F o R C):z=R/\c=C:=by
 rcases h with⟨rfl,rfl,h⟩|⟨i,r,rfl,rfl,h1,h2,h3⟩<;>rcases U with⟨rfl,rfl,k⟩|⟨j,s,rfl,rfl,I,J,aa⟩
 · exact⟨rfl,rfl⟩
 · exact absurd J (h s (List.mem_of_getElem? I))
 · exact absurd h2 (k r (List.mem_of_getElem? h1))
 · rcases Nat.lt_trichotomy i j with q|q|q
   · exact absurd h2 (aa i r q h1)
   · subst q;exact⟨rfl,rfl⟩
   · exact absurd J (h3 j s q I)
structure tA(F:kU):Prop where
 YW:vm F.jv
 np:F.iD.l.length<=16
 nr:1<=F.fL.l.length
 Z2:F.fL.l.length<=4000
 pair:∀(j:Nat) (p:Ac),F.iD.l[j]?=some p->(1<=p.fA/\p.fA<p.fB/\p.fB<=9999)/\(0<j->∀q,F.iD.l[j-1]?=some q->q.fA<p.fA\/(q.fA=p.fA/\q.fB<p.fB))
 run:∀(j:Nat) (r:i_),F.fL.l[j]?=some r->((1<=r.mR/\r.mR<=9999)/\(0<j->∀q,F.fL.l[j-1]?=some q->q.mR<r.mR))/\(∀q,F.fL.l[0]?=some q->r.lj.l.length=q.lj.l.length)/\r.gI.l.length=F.iD.l.length+1
 out:∀(j:Nat) (r:i_),F.fL.l[j]?=some r->∀o∈r.gI.l,∀x∈o.l,vn F.jv x
 Za:Xl F
theorem O0:∃i,ex.T.info 153=some i/\i.bytes<=1024:=by
 cases h:ex.T.info 153 with
 |none=>exact absurd (show(ex.T.info 153).isSome=true by kernel_rfl) (by rw[h];decide)
 |some i=>
  refine⟨i,rfl,?_⟩
  have:((ex.T.info 153).map fun i=>Nat.ble i.bytes 1024)=some true:=by kernel_rfl
  rw[h]at this
  exact Nat.le_of_ble_eq_true (Option.some.inj this)
theorem TK{n:Nat}(h:n<2147483648):pn ex.T 3 (iN (.ofNat n))=some (n,true):=by
 have hu:ex.T.ji 3=some (.int .i64):=by kernel_rfl
 have hb:Nat.blt n 2147483648=true:=mq.2 h
 simp only[pn,hu,hb,cond_true]
theorem VS{a:Option Addr}{k c:Nat}:pn ex.T 117 (.slice a k c)=some (k,false):=by
 have hu:ex.T.ji 117=some (.slice 153):=by kernel_rfl
 simp only[pn,hu]
def Yn(W:SV (SV jL)):Value->Ht->Nat->Prop:=fun v hp nx=>∃J:SV jL,v=J.v/\J.l=W.l.flatMap (·.l)/\gA ie 4 hp nx J
theorem Jh(x y:jL):xg ex.T 12 153 (.agg (ie x).toArray) (.agg (ie y).toArray)=(bif (x.kl==y.kl)then(bif (km x.oM y.oM)then(bif (km x.h_ y.h_)then(bif (km x.hQ y.hQ)then(some true)else(some false))else(some false))else(some false))else(some false)):=by kernel_rfl
theorem Ji(x y:jL):((x.kl==y.kl)&&(km x.oM y.oM)&&(km x.h_ y.h_)&&(km x.hQ y.hQ))=true↔x=y:=by
 constructor
 · intro h;cases x;cases y;simp only[Bool.and_eq_true,lH,beq_iff_eq,qU]at h;obtain h:=h;simp_all
 · rintro rfl;simp only[Bool.and_eq_true,lH,beq_iff_eq,qU,and_self]
theorem Jj(x y:jL):xg ex.T 12 153 (.agg (ie x).toArray) (.agg (ie y).toArray)=some ((x.kl==y.kl)&&(km x.oM y.oM)&&(km x.h_ y.h_)&&(km x.hQ y.hQ)):=by
 rw[Jh]
 (cases(x.kl==y.kl))<;>(cases(km x.oM y.oM))<;>(cases(km x.h_ y.h_))<;>(cases(km x.hQ y.hQ))<;>rfl
theorem Cx(xo yo:Operand)(x y:jL){c:Bool}(e:c=@decide (x=y) (Classical.propDecidable _)):wy ex.T .eql 153 xo yo (.agg (ie x).toArray) (.agg (ie y).toArray)=some (.bool c):=by
 have h1:wy ex.T .eql 153 xo yo (.agg (ie x).toArray) (.agg (ie y).toArray)=(xg ex.T 12 153 (.agg (ie x).toArray) (.agg (ie y).toArray)).map .bool:=by kernel_rfl
 have h2:((x.kl==y.kl)&&(km x.oM y.oM)&&(km x.h_ y.h_)&&(km x.hQ y.hQ))=c:=by rw[e,Bool.eq_iff_iff,Ji];exact(@decide_eq_true_iff _ (Classical.propDecidable _)).symm
 rw[h1,Jj,h2];rfl
theorem sE:ex.T.agg 114=some false:=kr
theorem yI:ex.T.agg 116=some true:=kr
theorem w6:ex.T.agg 117=some false:=kr
theorem uj:ex.T.agg 153=some true:=kr
theorem A4:ex.T.agg 255=some true:=kr
theorem fP:ex.T.agg 3=some false:=kr
theorem Ax:ex.T.agg 34=some false:=kr
theorem sX:ex.T.agg 35=some false:=kr
theorem yJ:ex.T.agg 37=some true:=kr
theorem yK:ex.T.agg 38=some false:=kr
theorem qh:ex.T.agg 39=some false:=kr
theorem xT:ex.T.agg 4=some false:=kr
theorem vZ:ex.T.agg 41=some true:=kr
theorem kq:ex.T.agg 42=some false:=kr
theorem O1:ex.T.agg 84=some true:=kr
theorem nh:ex.T.size 116=some 3:=kr
theorem vo:ex.T.size 117=some 1:=kr
theorem nP:ex.T.size 153=some 4:=kr
theorem tf:ex.T.size 255=some 3:=kr
theorem kj:ex.T.size 3=some 1:=kr
theorem w7:ex.T.size 37=some 2:=kr
theorem uk:ex.T.size 41=some 4:=kr
theorem tB:ex.T.size 42=some 1:=kr
theorem A5:ex.T.size 84=some 2:=kr
theorem w8:ex.T.ji 114=some (.slice 117):=kr
theorem Dg:ex.T.ji 117=some (.slice 153):=kr
theorem Jk:ex.T.ji 34=some (.slice 255):=kr
theorem v8:ex.T.ji 35=some (.slice 42):=kr
theorem VT:ex.T.ji 38=some (.slice 84):=kr
theorem v_:ex.T.ji 39=some (.slice 116):=kr
theorem lD:ex.T.ji 42=some (.slice 3):=kr
theorem Bw:ex.T.zero 116=some (.agg ⟨[iN 0,.slice none (0) 0,.slice none (0) 0]⟩):=kr
theorem zi:ex.T.zero 153=some (.agg ⟨[.bool false,iN 0,iN 0,iN 0]⟩):=kr
theorem RE:ex.T.zero 255=some (.agg ⟨[iN 0,iN 0,iN 0]⟩):=kr
theorem Ay:ex.T.zero 3=some (iN 0):=kr
theorem MD:ex.T.zero 84=some (.agg ⟨[iN 0,iN 0]⟩):=kr
theorem RF(x:Int)(hp:Ht)(nx:Nat):WF ex 106 [iN x] hp nx (fO nx hp (gk (-1099511627776<=x/\x<=1099511627776))):=by
 refine wd Tryz.f106 9 [.tmp 2] fun hE=>sr<|oN 1<|sr<|oX 1 ?_
 obtain⟨c1,e1,p1⟩:=qo (-1099511627776) x
 refine ob 4 e1<|oX 1<|gT 5 c1 (iN x) ?_
 obtain⟨c2,e2,o⟩:=qo x 1099511627776
 refine Ru 5 c1 e2 ?_
 obtain⟨j,e3,C⟩:=nA p1 o
 refine pA 8 e3<|oW 1 ⟨rfl,rfl,[.bool j],kr,?_⟩
 refine⟨⟨j,rfl,?_⟩,nR,hE⟩
 exact C
theorem Ic(x:Int)(hp:Ht)(nx:Nat):WF ex 109 [iN x] hp nx (fO nx hp (gk (x< -2199023255552\/2199023255552<x))):=by
 refine wd Tryz.f109 9 [.tmp 2] fun hE=>sr<|oN 1<|sr<|oX 1 ?_
 refine oq 4 (nz x (-2199023255552)) fun c1 p1=>oX 1<|gF 5 c1 (iN x) ?_
 refine mX 5 c1 (nz 2199023255552 x) fun c2 o=>?_
 refine mj 8 (nO p1 o) fun j C=>oW 1 ⟨rfl,rfl,[.bool j],kr,?_⟩
 refine⟨⟨j,rfl,?_⟩,nR,hE⟩
 exact C
theorem KL{A:Int->Prop}(K:SV Int)(f:FuncId)(b:Array Value)(hp:Ht)(nx:Nat)(hK:gA encI 1 hp nx K)(hf:∀(i:Nat) (x:Int),K.l[i]?=some x->∀(fe:Ht) (fg:Nat),nx<=fg->HE nx hp fe->WF ex f ((iN x)::b.toList) fe fg (fO fg fe (gk (A x)))):WF ex 207 [K.v,.func (.func f) #[] b] hp nx (fO nx hp (pM K.l A)):=by
 obtain⟨a1,c2,hR⟩:=hK.shape
 have lW:=hK.2.2
 rw[hR]
 refine wd Tryz.f207 19 [.tmp 4] fun hE=>sr<|oN 1<|WP.seq<|sr<|oN 3<|WP.block ?_
 refine my [0,1,7,8] (fun m hs ns vs=>∃(fV:Nat),fV+m=K.l.length/\vs=[.slice a1 (K.l.length) c2,.func (.func f) #[] b,iN (.ofNat (K.l.length)),iN (.ofNat fV)]/\nx<=ns/\HE (nx) hp hs/\(∀(j:Nat) (y:Int),j<fV->K.l[j]?=some y->¬A y)) ?_ (K.l.length) ?_
 ·
  rintro xn pT ja _ ⟨fV,tP,rfl,oe,jm,hinv⟩ tQ
  have j2:=hE.trans jm
  refine sr ?_
  refine oq 9 (kV fV K.l.length) fun nC rH=>WO.nil<|WP.seq<|cq rH (fun wQ=>?_) (fun wQ=>?_)
  ·
   refine WP.skip<|WP.seq<|WP.block<|sr<|oN 2<|sr<|oX 3 ?_
   have mY:fV<K.l.length:=by omega
   refine WO.cons (WC.iy hR hK (fV) lD kj (mY) ?_)
   obtain⟨lu,ku⟩:=gE mY
   refine WO.cons (WC.lz (iN lu) hR (hK.mono j2 nR) ku rfl fP<|WO.cons (WC.call 16 f ((iN lu)::b.toList) kf ((hf fV lu ku pT (ja) om j2).mono ?_)))
   rintro _ Jl TL ⟨⟨EJ,rfl,Cy⟩,TM,tR⟩
   refine WO.nil<|cq Cy (fun wv=>?_) (fun wv=>?_)
   ·
    refine sr<|oW 2 ⟨rfl,rfl,[iN (.ofNat fV)],kr,?_⟩
    exact⟨.inr ⟨fV,lu,rfl,ku,wv,hinv⟩,od,(j2.trans tR)⟩
   ·
    refine WP.skip<|WP.region<|ov 18 (iN (.ofNat (fV+1))) ?_ (fun _ _ _=>by rw[<-gU (show fV+1<9223372036854775808 by omega)];kernel_rfl)
    refine oN 1<|⟨K.l.length-(fV+1),om,rfl,rfl,fV+1,om,kr,?_,?_,?_⟩
    · exact od
    · exact(jm.trans tR oe)
    · intro j y hj hy;rcases Nat.lt_succ_iff_lt_or_eq.1 hj with hj|rfl;exact hinv j y hj hy;rw[ku]at hy;cases hy;exact wv
  ·
   refine WP.exit<|sr<|oW 1 ⟨rfl,rfl,[iN (-1)],kr,?_⟩
   refine⟨.inl ⟨rfl,fun y hy=>?_⟩,od,j2⟩
   obtain⟨j,hj⟩:=List.getElem?_of_mem hy
   exact hinv j y (by have:=(List.getElem?_eq_some_iff.1 hj).1;omega) hj
 ·
  exact⟨0,om,kr,Nat.le_refl _,HE.refl _ _,(fun j y h=>absurd h (Nat.not_lt_zero _))⟩
theorem EK{p:Prop}(h:p:=by
 obtain⟨a1,c2,hR⟩:=hK.shape
 have lW:=hK.2.2
 rw[hR]
 refine F7 mn fun hE=>sr<|oN 1<|sr<|oX 2<|WO.cons (WC.call 7 _ ([K.v,.func (.func f) #[] b]) (fun _ _ _=>by(try rw[hR]);kernel_rfl) ((mZ K f b hp (nx) hK hf).mono ?_))
 rintro RG DP Ie ⟨Bl,ME,qm⟩
 obtain⟨z8,rfl,RH⟩:∃z:Int,RG=iN z/\(0<=z↔∃x∈K.l,A x):=pM.sign Bl
 refine oq 8 (qo 0 z8) fun ow sj=>oW 1 ⟨rfl,rfl,[.bool ow],kr,?_⟩
 exact⟨⟨ow,rfl,sj.trans RH⟩,od,(hE.trans qm)⟩):p:=h
theorem A6{A:Int->Prop}(K:SV Int)(f:FuncId)(b:Array Value)(hp:Ht)(nx:Nat)(hK:gA encI 1 hp nx K)(hf:∀(i:Nat) (x:Int),K.l[i]?=some x->∀(fe:Ht) (fg:Nat),nx<=fg->HE nx hp fe->WF ex f ((iN x)::b.toList) fe fg (fO fg fe (gk (A x)))):WF ex 108 [K.v,.func (.func f) #[] b] hp nx (fO nx hp (gk (∃x∈K.l,A x))):=by
 have mn:=fF (e:=ex) 108 Tryz.f108 9 [.tmp 4]
 have mZ:=@KL
 exact EK
theorem MF(x:Int)(hp:Ht)(nx:Nat):WF ex 133 [iN x] hp nx (fO nx hp (gk False)):=by
 refine wd Tryz.f133 6 [.tmp 2] fun hE=>sr<|oN 1<|sr<|oX 2 ?_
 refine oq 5 (qW x x) fun c1 p1=>oW 1 ⟨rfl,rfl,[.bool c1],kr,?_⟩
 refine⟨⟨c1,rfl,?_⟩,nR,hE⟩
 exact p1.trans (by simp)
theorem Ig(x y:Int)(hp:Ht)(nx:Nat):WF ex 82 [iN x,iN y] hp nx (fO nx hp (C8 (jj x y))):=by
 refine wd Tryz.f82 20 [.tmp 4] fun hE=>sr<|oN 1<|sr<|oX 1<|oD 8 (MF (x) hp (nx)) fun ag ab C oG ad iY=>?_
 refine oN 1<|sr<|oX 1<|oD 10 (MF (y) C (oG)) fun ow sj ae af aa o=>?_
 have j:=(hE.trans iY).trans o
 refine oN 1<|WP.seq<|sr<|oN 1<|cq ab (fun I=>?_) (fun I=>?_)
 ·
  refine WP.seq<|sr<|oN 1<|cq sj (fun J=>?_) (fun J=>?_)
  ·
   refine sr<|oW 1 ⟨rfl,rfl,[iN 0],kr,?_⟩
   refine⟨?_,od,j⟩
   show Value.int .i64 (0)=iN (jj x y)
   congr 1;unfold jj;split<;>(try split)<;>first|(exfalso;assumption)|omega
  ·
   refine WP.skip<|sr<|oW 1 ⟨rfl,rfl,[iN (-1)],kr,?_⟩
   refine⟨?_,od,j⟩
   show Value.int .i64 (-1)=iN (jj x y)
   congr 1;unfold jj;split<;>(try split)<;>first|(exfalso;assumption)|omega
 ·
  refine WP.skip<|WP.seq<|sr<|oN 1<|cq sj (fun R=>?_) (fun R=>?_)
  ·
   refine sr<|oW 1 ⟨rfl,rfl,[iN 1],kr,?_⟩
   refine⟨?_,od,j⟩
   show Value.int .i64 (1)=iN (jj x y)
   congr 1;unfold jj;split<;>(try split)<;>first|(exfalso;assumption)|omega
  ·
   refine WP.skip<|WP.seq<|sr<|oX 2 ?_
   refine oq 16 (nz x y) fun sk vp=>WO.nil<|cq vp (fun U=>?_) (fun U=>?_)
   ·
    refine sr<|oW 1 ⟨rfl,rfl,[iN (-1)],kr,?_⟩
    refine⟨?_,od,j⟩
    show Value.int .i64 (-1)=iN (jj x y)
    congr 1;unfold jj;split<;>(try split)<;>first|(exfalso;assumption)|omega
   ·
    refine WP.skip<|WP.seq<|sr<|oX 2 ?_
    refine oq 19 (nz y x) fun uB uC=>WO.nil<|cq uC (fun xU=>?_) (fun xU=>?_)
    ·
     refine sr<|oW 1 ⟨rfl,rfl,[iN 1],kr,?_⟩
     refine⟨?_,od,j⟩
     show Value.int .i64 (1)=iN (jj x y)
     congr 1;unfold jj;split<;>(try split)<;>first|(exfalso;assumption)|omega
    ·
     refine WP.skip<|sr<|oW 1 ⟨rfl,rfl,[iN 0],kr,?_⟩
     refine⟨?_,od,j⟩
     show Value.int .i64 (0)=iN (jj x y)
     congr 1;unfold jj;split<;>(try split)<;>first|(exfalso;assumption)|omega
theorem Yo(K:SV Int)(hp:Ht)(nx:Nat)(hK:gA encI 1 hp nx K):WF ex 81 [K.v] hp nx (fO nx hp (Jg K.l)):=by
 obtain⟨a1,c2,hR⟩:=hK.shape
 have lW:=hK.2.2
 rw[hR]
 refine wd Tryz.f81 18 [.tmp 2] fun hE=>sr<|oN 1<|sr<|oN 1<|WP.seq<|sr<|oN 3<|WP.block ?_
 refine my [3,6,7,8] (fun m hs ns vs=>∃(fV:Nat),fV+m=K.l.length/\vs=[iN 0,.slice a1 (K.l.length) c2,iN (.ofNat (K.l.length)),iN (.ofNat fV)]/\nx<=ns/\HE (nx) hp hs/\(∀(j:Nat) (y:Int),j<fV->K.l[j]?=some y->y=0)) ?_ (K.l.length) ?_
 ·
  rintro xn pT ja _ ⟨fV,tP,rfl,oe,jm,hinv⟩ tQ
  have j2:=hE.trans jm
  refine sr ?_
  refine oq 9 (kV fV K.l.length) fun nC rH=>WO.nil<|WP.seq<|cq rH (fun wQ=>?_) (fun wQ=>?_)
  ·
   refine WP.skip<|WP.seq<|WP.block<|sr ?_
   have mY:fV<K.l.length:=by omega
   refine WO.cons (WC.iy hR hK (fV) lD kj (mY) ?_)
   obtain⟨lu,ku⟩:=gE mY
   refine WO.cons (WC.lz (iN lu) hR (hK.mono j2 nR) ku rfl fP<|oN 1<|sr<|oX 2 ?_)
   refine oq 14 (qW lu 0) fun I C=>WO.nil<|cq C (fun o=>?_) (fun o=>?_)
   ·
    refine sr<|oW 2 ⟨rfl,rfl,[iN lu],kr,?_⟩
    exact⟨.inr ⟨_,lu,rfl,ku,o,hinv⟩,od,j2⟩
   ·
    refine WP.skip<|WP.region<|ov 16 (iN (.ofNat (fV+1))) ?_ (fun _ _ _=>by rw[<-gU (show fV+1<9223372036854775808 by omega)];kernel_rfl)
    refine oN 1<|⟨K.l.length-(fV+1),om,rfl,rfl,fV+1,om,kr,?_,?_,?_⟩
    · exact oe
    · exact jm
    · intro j y hj hy;rcases Nat.lt_succ_iff_lt_or_eq.1 hj with hj|rfl;exact hinv j y hj hy;rw[ku]at hy;cases hy;exact Decidable.not_not.1 o
  ·
   refine WP.exit<|sr<|oW 2 ⟨rfl,rfl,[iN 0],kr,?_⟩
   refine⟨.inl ⟨rfl,fun y hy=>?_⟩,od,j2⟩
   obtain⟨j,hj⟩:=List.getElem?_of_mem hy
   exact hinv j y (by have:=(List.getElem?_eq_some_iff.1 hj).1;omega) hj
 ·
  exact⟨0,om,kr,Nat.le_refl _,HE.refl _ _,(fun j y h=>absurd h (Nat.not_lt_zero _))⟩
theorem Ih(a b c d:Int)(hp:Ht)(nx:Nat):WF ex 206 [.agg ⟨[iN a,iN b]⟩,.agg ⟨[iN c,iN d]⟩] hp nx (fO nx hp (C8 (uA (jj a c) (jj b d)))):=by
 refine wd Tryz.f206 17 [.tmp 4] fun hE=>sr<|oB (.agg ⟨[iN a,iN b]⟩) [iN a,iN b] fun jN iY iA=>?_
 refine oB (.agg ⟨[iN c,iN d]⟩) [iN c,iN d] fun ah J o=>?_
 have C:=J.get iA
 refine oN 1<|WP.seq<|WP.sM [⟨[0,1,2,3,5,6,7,8],[0,1,2,3,5,6,7,8],some 4⟩,⟨[],[5,6,7,8],some 9⟩,⟨[10],[10],some 11⟩,⟨[],[],some 12⟩,⟨[],[],none⟩] kr _ rfl<|WD.ln<|nv 5 (pt nx 0)<|WN.ic rfl (WC.jX nx 0 (iN a) kr fP C rfl<|nv 7 (pt (nx+1) 0)<|WN.ic rfl (WC.jX (nx+1) 0 (iN c) kr fP o rfl<|nv 10 (pt nx (0+1))<|WN.ic rfl (WC.jX nx (0+1) (iN b) kr fP C rfl<|nv 12 (pt (nx+1) (0+1))<|WN.ic rfl (WC.jX (nx+1) (0+1) (iN d) kr fP o rfl<|WN.nil ⟨?_,?_⟩))))
 ·
  refine cv (pt nx 0) (iW ..)<|qe nx 0 (iN a) fP C rfl (iQ ..)<|cv (pt (nx+1) 0) (iW ..)<|qe (nx+1) 0 (iN c) fP o rfl (iQ ..)<|cv (pt nx (0+1)) (iW ..)<|qe nx (0+1) (iN b) fP C rfl (iQ ..)<|cv (pt (nx+1) (0+1)) (iW ..)<|qe (nx+1) (0+1) (iN d) fP o rfl (iQ ..) ?_
  exact jh.nil
 refine WC.at rfl (WC.call 9 82 ([iN a,iN c]) kf ((Ig (a) (c) ah (nx+1+1)).mono ?_))
 rintro _ ae ag ⟨rfl,xV,jQ⟩
 refine WD.ln<|WN.nil ⟨?_,?_⟩
 ·
  refine cv (pt nx (0+1)) (iW ..)<|qe nx (0+1) (iN b) fP (jQ.get C) rfl (iQ ..)<|cv (pt (nx+1) (0+1)) (iW ..)<|qe (nx+1) (0+1) (iN d) fP (jQ.get o) rfl (iQ ..) ?_
  exact jh.nil
 refine WC.at rfl (WC.call 14 82 ([iN b,iN d]) kf ((Ig (b) (d) ae (ag)).mono ?_))
 rintro _ af j ⟨rfl,ai,aa⟩
 refine WD.ln<|WN.ic rfl (WC.buildSlice [iN (jj (a) (c)),iN (jj (b) (d))] rfl kr ?_)
 obtain⟨R,U,ab,I⟩:=boxed af (j) [iN (jj (a) (c)),iN (jj (b) (d))]
 rw[U];clear U
 refine WN.nil ⟨?_,?_⟩
 ·
  refine jh.new j (.slice (some ⟨j,0,none⟩) (2) 2) [iN (jj (a) (c)),iN (jj (b) (d))] (fun _=>by kernel_rfl) I (qT ..) (by simp[ub,iQ,jd,xm,xk]) ?_
  exact jh.nil
 refine WC.at rfl (WC.call 16 81 ([.slice (some ⟨j,0,none⟩) (2) 2]) kf (((Yo (⟨.slice (some ⟨j,0,none⟩) 2 2,[jj (a) (c),jj (b) (d)]⟩:SV Int) R (j+1) (gA.mO (enc:=encI) (by simp[encI]) I rfl (by decide) om (by simp):gA encI 1 R (j+1) (⟨.slice (some ⟨j,0,none⟩) 2 2,[jj (a) (c),jj (b) (d)]⟩:SV Int))).mono (fun v fe fg h=>(⟨Jg.two h.1,h.2.1,h.2.2⟩:fO _ _ (C8 (uA (jj (a) (c)) (jj (b) (d)))) v fe fg))).mono ?_))
 rintro _ ak al ⟨rfl,aj,ad⟩
 refine WD.ln<|WN.nil ⟨?_,?_⟩
 ·
  exact jh.nil
 refine WC.at rfl (WC.val 4 (iN (uA (jj (a) (c)) (jj (b) (d)))) kf<|WD.last<|WN.nil ⟨?_,?_⟩)
 ·
  exact jh.nil
 refine WP.ret ⟨rfl,rfl,[iN (uA (jj (a) (c)) (jj (b) (d)))],kr,?_⟩
 refine⟨?_,od,((((((hE.trans iY).trans J).trans jQ).trans aa).trans ab).trans ad)⟩
 show Value.int .i64 (uA (jj (a) (c)) (jj (b) (d)))=iN (uA (jj a c) (jj b d))
 rfl
theorem TN(p s:rQ)(hp:Ht)(nx:Nat):WF ex 107 [.agg (j8 p).toArray,.agg (j8 s).toArray] hp nx (fO nx hp (C8 (uA (jj p.iX s.iX) (jj p.kg s.kg)))):=by
 refine wd Tryz.f107 16 [.tmp 4] fun hE=>sr<|oB (.agg (j8 p).toArray) (j8 p) fun jN iY iA=>?_
 refine oB (.agg (j8 s).toArray) (j8 s) fun I C j=>?_
 have o:=C.get iA
 refine oN 1<|sr<|oX 1<|oZ nx 0 (iN p.iX) fP o rfl<|oX 1<|oZ nx (0+1) (iN p.kg) fP o rfl<|oX 2<|oZ (nx+1) 0 (iN s.iX) fP j rfl<|oX 1<|oZ (nx+1) (0+1) (iN s.kg) fP j rfl<|oX 1<|WO.cons (WC.call 15 206 ([.agg ⟨[iN p.iX,iN p.kg]⟩,.agg ⟨[iN s.iX,iN s.kg]⟩]) kf ((Ih (p.iX) (p.kg) (s.iX) (s.kg) I (nx+1+1)).mono ?_))
 rintro _ J R ⟨rfl,xV,jQ⟩
 refine oW 1 ⟨rfl,rfl,[iN (uA (jj (p.iX) (s.iX)) (jj (p.kg) (s.kg)))],kr,?_⟩
 refine⟨?_,od,(((hE.trans iY).trans C).trans jQ)⟩
 show Value.int .i64 (uA (jj (p.iX) (s.iX)) (jj (p.kg) (s.kg)))=iN (uA (jj p.iX s.iX) (jj p.kg s.kg))
 rfl
theorem Cz(K:kM)(hp:Ht)(nx:Nat)(hK:oI hp nx K):WF ex 55 [.agg (jE K).toArray] hp nx (fO nx hp (Ml 160 (vm K))):=by
 refine wd Tryz.f55 141 [.tmp 2] fun hE=>sr<|oB (.agg (jE K).toArray) (jE K) fun jN iY iA=>?_
 have l_:=hE.trans iY
 refine oN 1<|sr<|oX 1 ?_
 obtain⟨aC,bk,ar⟩:=hK.gG.shape
 have dI:=hK.gG.2.2
 refine oZ nx 0 (.slice aC (K.gG.l.length) bk) Ax iA (by rw[<-ar];rfl)<|oN 2<|WP.seq<|sr<|oX 1 ?_
 refine oq 17 (nc 511 K.gG.l.length) fun aA cF=>oX 1<|gF 18 aA (pt nx (0+1)) ?_
 obtain⟨a12,nC,al⟩:=hK.iU.1.shape
 have dJ:=hK.iU.1.2.2
 refine pj 18 aA nx (0+1) (.slice a12 (K.iU.l.length) nC) sX iA (by rw[<-al];rfl)<|gF 18 aA (iN (.ofNat (K.iU.l.length)))<|gF 18 aA (iN (.ofNat (K.gG.l.length)))<|og 18 (!aA) (iN (.ofNat (K.gG.l.length+1))) (.bool aA) (by cases aA<;>rfl) (fun h=>by obtain rfl:=bF h;have bD:=nf cF;exact fun _ _ _=>by rw[<-gU (show K.gG.l.length+1<9223372036854775808 by omega)];kernel_rfl) ?_
 refine mX 18 aA (Mw K.iU.l.length (K.gG.l.length+1)) fun sF vt=>?_
 refine mj 25 (nO cF vt) fun ei di=>WO.nil<|cq di (fun dz=>?_) (fun dz=>?_)
 ·
  refine sr<|oW 1 ⟨rfl,rfl,[iN 160],kr,?_⟩
  refine⟨⟨160,rfl,⟨fun h=>absurd h (by decide),fun aB=>?_⟩,.inr rfl⟩,od,l_⟩
  have h1:=aB.YU;have h2:=aB.YV;omega
 ·
  refine WP.skip<|WP.seq<|sr<|oX 1<|oZ nx 0 (.slice aC (K.gG.l.length) bk) Ax iA (by rw[<-ar];rfl)<|oN 2<|WP.block ?_
  refine my [1,3,27,28,29] (fun m hs ns vs=>∃(I:Nat),I+m=K.gG.l.length/\vs=[pt nx 0,iN (.ofNat (K.gG.l.length)),.slice aC (K.gG.l.length) bk,iN (.ofNat (K.gG.l.length)),iN (.ofNat I)]/\nx+1<=ns/\HE (nx+1) jN hs/\(∀(j:Nat) (s:rQ),j<I->K.gG.l[j]?=some s->Vh K.gG.l j s)) ?_ (K.gG.l.length) ?_
  ·
   rintro ee cL J _ ⟨I,dE,rfl,cJ,bz,bZ⟩ dP
   have bw:=l_.trans bz
   have bx:=bz.get iA
   refine sr ?_
   refine oq 30 (kV I K.gG.l.length) fun ej dj=>WO.nil<|WP.seq<|cq dj (fun dA=>?_) (fun dA=>?_)
   ·
    refine WP.skip<|WP.seq<|WP.block<|sr<|oX 1 ?_
    have bJ:I<K.gG.l.length:=by omega
    refine WO.cons (WC.iy ar hK.gG (I) Jk tf (bJ) ?_)
    obtain⟨C,bB⟩:=gE bJ
    refine WO.cons (WC.ly ar (hK.gG.mono bw nR) bB A4 tf<|oA [iN 0,iN 0,iN 0] RE fun eb bA cI=>?_)
    refine oX 1<|oS J (0) (.agg (j8 C).toArray) (j8 C) (j8 C) tf rfl rfl cI fun qq bW aq cK=>?_
    refine WO.nil<|WP.seq<|WP.sM [⟨[0,1,2,3,4,5,6,7,8,9,10,11,12,13,14,15,16,17,18,19,20],[0,1,2,3,4,5,6,7,8,9,10,11,12,13,14,15,16,17,18,19,20],some 21⟩,⟨[22,23,24,25,26,27,28,29,30,31,32,33,34],[22,23,24,25,26,27,28,29,30,31,32,33,34],some 35⟩,⟨[36,37,38],[36,37,38],none⟩] kr _ rfl<|WD.ln<|nv 34 (pt J 0)<|WN.ic rfl (WC.jX J 0 (iN C.iX) kr fP aq rfl ?_)
    obtain⟨aa,ck,dm⟩:=nz C.iX 0
    refine nv 36 (.bool aa) ?_ (fun _ _ _=>by subst ck;kernel_rfl)
    refine nv 37 (.bool aa)<|ng rfl 37 (!aa) (pt J 0) (.bool aa) (by cases aa<;>rfl) (fun h=>by obtain rfl:=bF h;exact fun _ _ _=>by kernel_rfl) ?_
    refine xP rfl 37 (!aa) (iN C.iX) (.bool aa) (by cases aa<;>rfl) (fun h=>by obtain rfl:=bF h;exact WC.jX J 0 (iN C.iX) kr fP aq rfl rfl) ?_
    obtain⟨aO,cm,dn⟩:=qo 40 C.iX
    refine ng rfl 37 (!aa) (.bool aO) (.bool aa) (by cases aa<;>rfl) (fun h=>by obtain rfl:=bF h;exact fun _ _ _=>by subst cm;kernel_rfl) ?_
    obtain⟨ab,cn,dp⟩:=nO dm dn
    refine WN.ic rfl (WC.opt (v:=.bool ab) 41 (lA (.bool aa) (.bool true) ((bif !aa then .bool aO else undef))) kf (by rw[cn];exact lE (fun h=>by obtain rfl:aa=false:=h;rfl))<|nv 42 (.bool ab)<|ng rfl 42 (!ab) (pt J (0+1)) (.bool ab) (by cases ab<;>rfl) (fun h=>by obtain rfl:=bF h;exact fun _ _ _=>by kernel_rfl) ?_)
    refine xP rfl 42 (!ab) (iN C.kg) (.bool ab) (by cases ab<;>rfl) (fun h=>by obtain rfl:=bF h;exact WC.jX J (0+1) (iN C.kg) kr fP aq rfl rfl) ?_
    obtain⟨aP,cp,dq⟩:=nz C.kg 0
    refine ng rfl 42 (!ab) (.bool aP) (.bool ab) (by cases ab<;>rfl) (fun h=>by obtain rfl:=bF h;exact fun _ _ _=>by subst cp;kernel_rfl) ?_
    obtain⟨ad,cr,dr⟩:=nO dp dq
    refine WN.ic rfl (WC.opt (v:=.bool ad) 46 (lA (.bool ab) (.bool true) ((bif !ab then .bool aP else undef))) kf (by rw[cr];exact lE (fun h=>by obtain rfl:ab=false:=h;rfl))<|nv 47 (.bool ad)<|ng rfl 47 (!ad) (pt J (0+1)) (.bool ad) (by cases ad<;>rfl) (fun h=>by obtain rfl:=bF h;exact fun _ _ _=>by kernel_rfl) ?_)
    refine xP rfl 47 (!ad) (iN C.kg) (.bool ad) (by cases ad<;>rfl) (fun h=>by obtain rfl:=bF h;exact WC.jX J (0+1) (iN C.kg) kr fP aq rfl rfl) ?_
    obtain⟨aQ,ct,dt⟩:=nz 255 C.kg
    refine ng rfl 47 (!ad) (.bool aQ) (.bool ad) (by cases ad<;>rfl) (fun h=>by obtain rfl:=bF h;exact fun _ _ _=>by subst ct;kernel_rfl) ?_
    obtain⟨U,cu,cG⟩:=nO dr dt
    refine WN.ic rfl (WC.opt (v:=.bool U) 51 (lA (.bool ad) (.bool true) ((bif !ad then .bool aQ else undef))) kf (by rw[cu];exact lE (fun h=>by obtain rfl:ad=false:=h;rfl))<|nv 52 (.bool U)<|ng rfl 52 (!U) (pt J (0+2)) (.bool U) (by cases U<;>rfl) (fun h=>by obtain rfl:=bF h;exact fun _ _ _=>by kernel_rfl) ?_)
    refine xP rfl 52 (!U) (iN C.pH) (.bool U) (by cases U<;>rfl) (fun h=>by obtain rfl:=bF h;exact WC.jX J (0+2) (iN C.pH) kr fP aq rfl rfl) ?_
    refine WN.nil ⟨?_,?_⟩
    ·
     refine cv (pt J 0) (iW ..)<|qe J 0 (iN C.iX) fP aq rfl (iQ ..)<|cv (.bool aa) (jd 8 aa) ?_ (fun _=>by subst ck;kernel_rfl)
     refine cv (.bool aa) (jd 8 aa)<|cg rfl 37 (!aa) (pt J 0) (.bool aa) (by cases aa<;>rfl) (fun h=>by obtain rfl:=bF h;exact mW (pt J 0) (fun _=>by kernel_rfl) (iW ..)) ?_
     refine cg rfl 37 (!aa) (iN C.iX) (.bool aa) (by cases aa<;>rfl) (fun h=>by obtain rfl:=bF h;exact r9 (iN C.iX) (kB ex.T qq.get 3 (pt J 0)) (fun _=>by kernel_rfl) (ko fP aq rfl) (iQ ..)) ?_
     refine cg rfl 37 (!aa) (.bool aO) (.bool aa) (by cases aa<;>rfl) (fun h=>by obtain rfl:=bF h;exact mW (.bool aO) (fun _=>by subst cm;kernel_rfl) (jd 8 aO)) ?_
     refine co (.bool ab) (lA (.bool aa) (.bool true) ((bif !aa then .bool aO else undef))) ((by rw[cn];exact lE (fun h=>by obtain rfl:aa=false:=h;rfl))) (jd 8 ab)<|cv (.bool ab) (jd 8 ab)<|cg rfl 42 (!ab) (pt J (0+1)) (.bool ab) (by cases ab<;>rfl) (fun h=>by obtain rfl:=bF h;exact mW (pt J (0+1)) (fun _=>by kernel_rfl) (iW ..)) ?_
     refine cg rfl 42 (!ab) (iN C.kg) (.bool ab) (by cases ab<;>rfl) (fun h=>by obtain rfl:=bF h;exact r9 (iN C.kg) (kB ex.T qq.get 3 (pt J (0+1))) (fun _=>by kernel_rfl) (ko fP aq rfl) (iQ ..)) ?_
     refine cg rfl 42 (!ab) (.bool aP) (.bool ab) (by cases ab<;>rfl) (fun h=>by obtain rfl:=bF h;exact mW (.bool aP) (fun _=>by subst cp;kernel_rfl) (jd 8 aP)) ?_
     refine co (.bool ad) (lA (.bool ab) (.bool true) ((bif !ab then .bool aP else undef))) ((by rw[cr];exact lE (fun h=>by obtain rfl:ab=false:=h;rfl))) (jd 8 ad)<|cv (.bool ad) (jd 8 ad)<|cg rfl 47 (!ad) (pt J (0+1)) (.bool ad) (by cases ad<;>rfl) (fun h=>by obtain rfl:=bF h;exact mW (pt J (0+1)) (fun _=>by kernel_rfl) (iW ..)) ?_
     refine cg rfl 47 (!ad) (iN C.kg) (.bool ad) (by cases ad<;>rfl) (fun h=>by obtain rfl:=bF h;exact r9 (iN C.kg) (kB ex.T qq.get 3 (pt J (0+1))) (fun _=>by kernel_rfl) (ko fP aq rfl) (iQ ..)) ?_
     refine cg rfl 47 (!ad) (.bool aQ) (.bool ad) (by cases ad<;>rfl) (fun h=>by obtain rfl:=bF h;exact mW (.bool aQ) (fun _=>by subst ct;kernel_rfl) (jd 8 aQ)) ?_
     refine co (.bool U) (lA (.bool ad) (.bool true) ((bif !ad then .bool aQ else undef))) ((by rw[cu];exact lE (fun h=>by obtain rfl:ad=false:=h;rfl))) (jd 8 U)<|cv (.bool U) (jd 8 U)<|cg rfl 52 (!U) (pt J (0+2)) (.bool U) (by cases U<;>rfl) (fun h=>by obtain rfl:=bF h;exact mW (pt J (0+2)) (fun _=>by kernel_rfl) (iW ..)) ?_
     refine cg rfl 52 (!U) (iN C.pH) (.bool U) (by cases U<;>rfl) (fun h=>by obtain rfl:=bF h;exact r9 (iN C.pH) (kB ex.T qq.get 3 (pt J (0+2))) (fun _=>by kernel_rfl) (ko fP aq rfl) (iQ ..)) ?_
     exact jh.nil
    refine WC.at rfl (WC.gq (!U) (GB (!U) (-1099511627776<=C.pH/\C.pH<=1099511627776) (J+1) qq) (.bool U) (g:=aaj (.tmp 52)) rfl kr (by cases U<;>rfl) (fun h=>by obtain rfl:U=false:=(by simpa using h);have bD:¬(((((C.iX)<(0))\/((40)<=(C.iX)))\/((C.kg)<(0)))\/((255)<(C.kg))):=(fun k=>absurd ((cG).2 k) (by decide));exact WC.call 55 106 ([iN C.pH]) kf ((RF (C.pH) qq (J+1)).mono fun v fe fg ⟨⟨c,b3,hc⟩,hn,he⟩=>⟨_,_,_,rfl,⟨c,b3,hc⟩,hn,he⟩)) (fun h=>GB.off h) ?_)
    rintro _ aK b4 ⟨⟨en,rfl,du⟩,d_,a6⟩
    have aJ:=((bw.trans bA).trans bW).trans a6
    have bU:=a6.get ((cK nx om).trans (bA.get bx))
    have bV:=a6.get aq
    refine WD.ln ?_
    obtain⟨aR,cw,dv⟩:=nN du
    refine ng rfl 52 (!U) (.bool aR) (.bool U) (by cases U<;>rfl) (fun h=>by obtain rfl:=bF h;exact fun _ _ _=>by subst cw;kernel_rfl) ?_
    obtain⟨jB,cx,aL⟩:=nO cG dv
    refine WN.ic rfl (WC.opt (v:=.bool jB) 57 (lA (.bool U) (.bool true) ((bif !U then .bool aR else undef))) kf (by rw[cx];exact lE (fun h=>by obtain rfl:U=false:=h;rfl))<|nv 58 (.bool jB)<|ng rfl 58 (!jB) (iN (.ofNat I)) (.bool jB) (by cases jB<;>rfl) (fun h=>by obtain rfl:=bF h;exact fun _ _ _=>by kernel_rfl) ?_)
    obtain⟨o,cy,aM⟩:=nc 0 I
    refine ng rfl 58 (!jB) (.bool o) (.bool jB) (by cases jB<;>rfl) (fun h=>by obtain rfl:=bF h;exact fun _ _ _=>by subst cy;kernel_rfl) ?_
    refine ng rfl 58 (!jB) (.bool o) (.bool jB) (by cases jB<;>rfl) (fun h=>by obtain rfl:=bF h;exact fun _ _ _=>by kernel_rfl) ?_
    refine ng rfl 61 (!jB&&o) (pt nx 0) ((bif !jB then .bool o else undef)) (by cases jB<;>cases o<;>rfl) (fun h=>by obtain⟨rfl,rfl⟩:=sD h;exact fun _ _ _=>by kernel_rfl) ?_
    refine xP rfl 61 (!jB&&o) (.slice aC (K.gG.l.length) bk) ((bif !jB then .bool o else undef)) (by cases jB<;>cases o<;>rfl) (fun h=>by obtain⟨rfl,rfl⟩:=sD h;exact WC.jX nx 0 (.slice aC (K.gG.l.length) bk) kr Ax bU (by rw[<-ar];rfl) rfl) ?_
    refine ng rfl 61 (!jB&&o) (iN (.ofNat I)) ((bif !jB then .bool o else undef)) (by cases jB<;>cases o<;>rfl) (fun h=>by obtain⟨rfl,rfl⟩:=sD h;exact fun _ _ _=>by kernel_rfl) ?_
    refine ng rfl 61 (!jB&&o) (iN (.ofNat (I-1))) ((bif !jB then .bool o else undef)) (by cases jB<;>cases o<;>rfl) (fun h=>by obtain⟨rfl,rfl⟩:=sD h;have bD:=nf aL;have cV:=(aM).1 rfl;exact fun _ _ _=>by rw[<-Av (show I<9223372036854775808 by omega) om];kernel_rfl) ?_
    have ay:(!jB&&o)=true->I-1<K.gG.l.length:=fun h=>by obtain⟨rfl,rfl⟩:jB=false/\o=true:=(by simpa[and_assoc]using h);have bD:¬((((((C.iX)<(0))\/((40)<=(C.iX)))\/((C.kg)<(0)))\/((255)<(C.kg)))\/(¬(-1099511627776<=C.pH/\C.pH<=1099511627776))):=(fun k=>absurd ((aL).2 k) (by decide));have cV:=(aM).1 rfl;omega
    refine xP rfl 61 (!jB&&o) (pt (gb aC) (0+(I-1)*3)) ((bif !jB then .bool o else undef)) (by cases jB<;>cases o<;>rfl) (fun h=>by obtain⟨rfl,rfl⟩:=sD h;exact WC.iy ar hK.gG (I-1) Jk tf ((ay rfl)) rfl) ?_
    obtain⟨av,bC⟩:∃bT,(!jB&&o)=true->K.gG.l[I-1]?=some bT:=⟨(K.gG.l[I-1]?).getD default,fun h=>by rw[List.getElem?_eq_getElem (by obtain⟨rfl,rfl⟩:jB=false/\o=true:=(by simpa[and_assoc]using h);exact(ay rfl))];rfl⟩
    have bN:=fun(a0:¬((((((C.iX)<(0))\/((40)<=(C.iX)))\/((C.kg)<(0)))\/((255)<(C.kg)))\/(¬(-1099511627776<=C.pH/\C.pH<=1099511627776)))) (a1:((0)<((I:Nat):Int)))=>bC (by first|(rw[show jB=false from Bool.eq_false_iff.2 (fun k=>a0 ((aL).1 k)),show o=true from(aM).2 a1];rfl)|rw[show jB=false from Bool.eq_false_iff.2 (fun k=>a0 ((aL).1 k)),show o=true from(aM).2 a1])
    refine xP rfl 61 (!jB&&o) (.agg (j8 av).toArray) ((bif !jB then .bool o else undef)) (by cases jB<;>cases o<;>rfl) (fun h=>by obtain⟨rfl,rfl⟩:=sD h;exact WC.ly ar (hK.gG.mono aJ nR) (bC rfl) A4 tf rfl) ?_
    refine xP rfl 61 (!jB&&o) (.agg (j8 C).toArray) ((bif !jB then .bool o else undef)) (by cases jB<;>cases o<;>rfl) (fun h=>by obtain⟨rfl,rfl⟩:=sD h;exact WC.jb J (0) (j8 C) kr A4 tf bV rfl rfl) ?_
    refine WN.nil ⟨?_,?_⟩
    ·
     refine cg rfl 52 (!U) (.bool aR) (.bool U) (by cases U<;>rfl) (fun h=>by obtain rfl:=bF h;exact mW (.bool aR) (fun _=>by subst cw;kernel_rfl) (jd 8 aR)) ?_
     refine co (.bool jB) (lA (.bool U) (.bool true) ((bif !U then .bool aR else undef))) ((by rw[cx];exact lE (fun h=>by obtain rfl:U=false:=h;rfl))) (jd 8 jB)<|cv (.bool jB) (jd 8 jB)<|cg rfl 58 (!jB) (iN (.ofNat I)) (.bool jB) (by cases jB<;>rfl) (fun h=>by obtain rfl:=bF h;exact mW (iN (.ofNat I)) (fun _=>by kernel_rfl) (iQ ..)) ?_
     refine cg rfl 58 (!jB) (.bool o) (.bool jB) (by cases jB<;>rfl) (fun h=>by obtain rfl:=bF h;exact mW (.bool o) (fun _=>by subst cy;kernel_rfl) (jd 8 o)) ?_
     refine cg rfl 58 (!jB) (.bool o) (.bool jB) (by cases jB<;>rfl) (fun h=>by obtain rfl:=bF h;exact mW (.bool o) (fun _=>by kernel_rfl) (jd 8 o)) ?_
     refine cg rfl 61 (!jB&&o) (pt nx 0) ((bif !jB then .bool o else undef)) (by cases jB<;>cases o<;>rfl) (fun h=>by obtain⟨rfl,rfl⟩:=sD h;exact mW (pt nx 0) (fun _=>by kernel_rfl) (iW ..)) ?_
     refine cg rfl 61 (!jB&&o) (.slice aC (K.gG.l.length) bk) ((bif !jB then .bool o else undef)) (by cases jB<;>cases o<;>rfl) (fun h=>by obtain⟨rfl,rfl⟩:=sD h;exact r9 (.slice aC (K.gG.l.length) bk) (kB ex.T aK.get 34 (pt nx 0)) (fun _=>by kernel_rfl) (ko Ax bU (by rw[<-ar];rfl)) (ar▸hK.gG.kO 8)) ?_
     refine cg rfl 61 (!jB&&o) (iN (.ofNat I)) ((bif !jB then .bool o else undef)) (by cases jB<;>cases o<;>rfl) (fun h=>by obtain⟨rfl,rfl⟩:=sD h;exact mW (iN (.ofNat I)) (fun _=>by kernel_rfl) (iQ ..)) ?_
     refine cg rfl 61 (!jB&&o) (iN (.ofNat (I-1))) ((bif !jB then .bool o else undef)) (by cases jB<;>cases o<;>rfl) (fun h=>by obtain⟨rfl,rfl⟩:=sD h;have bD:=nf aL;have cV:=(aM).1 rfl;exact mW (iN (.ofNat (I-1))) (fun _=>by rw[<-Av (show I<9223372036854775808 by omega) om];kernel_rfl) (iQ ..)) ?_
     refine cg rfl 61 (!jB&&o) (pt (gb aC) (0+(I-1)*3)) ((bif !jB then .bool o else undef)) (by cases jB<;>cases o<;>rfl) (fun h=>by obtain⟨rfl,rfl⟩:=sD h;exact r9 (pt (gb aC) (0+(I-1)*3)) (lh ex.T 34 (.slice aC (K.gG.l.length) bk) (iN (.ofNat (I-1)))) (fun _=>by kernel_rfl) (oH (k:=.i64) Jk tf ((hK.gG.mono aJ nR).ue ar (zl ((ay rfl)))) ((ay rfl))) (iW ..)) ?_
     refine cg rfl 61 (!jB&&o) (.agg (j8 av).toArray) ((bif !jB then .bool o else undef)) (by cases jB<;>cases o<;>rfl) (fun h=>by obtain⟨rfl,rfl⟩:=sD h;exact r9 (.agg (j8 av).toArray) (kB ex.T aK.get 255 (pt (gb aC) (0+(I-1)*3))) (fun _=>by kernel_rfl) (Aa A4 tf ((hK.gG.mono aJ nR).pq ar (zl ((ay rfl)))) (w4 (hK.gG.mono aJ nR).1 (bC rfl))) (Cr av)) ?_
     refine cg rfl 61 (!jB&&o) (.agg (j8 C).toArray) ((bif !jB then .bool o else undef)) (by cases jB<;>cases o<;>rfl) (fun h=>by obtain⟨rfl,rfl⟩:=sD h;exact r9 (.agg (j8 C).toArray) (kB ex.T aK.get 255 (pt J 0)) (fun _=>by kernel_rfl) (lF A4 tf bV rfl) (Cr C)) ?_
     exact jh.nil
    refine WC.at rfl (WC.gq (!jB&&o) (GV (!jB&&o) (iN (uA (jj av.iX C.iX) (jj av.kg C.kg))) (b4) aK) ((bif !jB then .bool o else undef)) (g:=aaj (.tmp 61)) rfl kr (by cases jB<;>cases o<;>rfl) (fun h=>by obtain⟨rfl,rfl⟩:jB=false/\o=true:=(by simpa[and_assoc]using h);have bD:¬((((((C.iX)<(0))\/((40)<=(C.iX)))\/((C.kg)<(0)))\/((255)<(C.kg)))\/(¬(-1099511627776<=C.pH/\C.pH<=1099511627776))):=(fun k=>absurd ((aL).2 k) (by decide));have cV:=(aM).1 rfl;exact WC.call 69 107 ([.agg (j8 av).toArray,.agg (j8 C).toArray]) kf ((TN av C aK (b4)).mono fun v fe fg ⟨b3,hn,he⟩=>⟨_,_,_,rfl,b3,hn,he⟩)) (fun h=>GV.off h) ?_)
    rintro _ ec eg ⟨rfl,ea,bX⟩
    refine WD.last ?_
    obtain⟨aS,cz,dw⟩:=qo 0 (uA (jj av.iX C.iX) (jj av.kg C.kg))
    refine ng rfl 61 (!jB&&o) (.bool aS) ((bif !jB then .bool o else undef)) (by cases jB<;>cases o<;>rfl) (fun h=>by obtain⟨rfl,rfl⟩:=sD h;exact fun _ _ _=>by subst cz;kernel_rfl) ?_
    obtain⟨aI,cA,dx⟩:=nA aM dw
    refine xP rfl 58 (!jB) (.bool aI) (.bool jB) (by cases jB<;>rfl) (fun h=>by obtain rfl:=bF h;exact WC.opt (v:=.bool aI) 71 (lA (.bool o) ((bif !false&&o then .bool aS else undef)) (.bool false)) kf (by rw[cA];exact s_ (fun h=>by obtain rfl:o=true:=h;rfl)) rfl) ?_
    obtain⟨bS,cB,dy⟩:=nO aL dx
    refine WN.ic rfl (WC.opt (v:=.bool bS) 72 (lA (.bool jB) (.bool true) ((bif !jB then .bool aI else undef))) kf (by rw[cB];exact lE (fun h=>by obtain rfl:jB=false:=h;rfl))<|WN.nil ⟨?_,?_⟩)
    ·
     refine cg rfl 61 (!jB&&o) (.bool aS) ((bif !jB then .bool o else undef)) (by cases jB<;>cases o<;>rfl) (fun h=>by obtain⟨rfl,rfl⟩:=sD h;exact mW (.bool aS) (fun _=>by subst cz;kernel_rfl) (jd 8 aS)) ?_
     refine cg rfl 58 (!jB) (.bool aI) (.bool jB) (by cases jB<;>rfl) (fun h=>by obtain rfl:=bF h;exact r9 (.bool aI) (lA (.bool o) ((bif !false&&o then .bool aS else undef)) (.bool false)) (fun _=>by kernel_rfl) ((by rw[cA];exact s_ (fun h=>by obtain rfl:o=true:=h;rfl))) (jd 8 aI)) ?_
     refine co (.bool bS) (lA (.bool jB) (.bool true) ((bif !jB then .bool aI else undef))) ((by rw[cB];exact lE (fun h=>by obtain rfl:jB=false:=h;rfl))) (jd 8 bS) ?_
     exact jh.nil
    refine cq dy (fun b6=>?_) (fun b6=>?_)
    ·
     refine sr<|oW 1 ⟨rfl,rfl,[iN 160],kr,?_⟩
     refine⟨⟨160,rfl,⟨fun h=>absurd h (by decide),fun aB=>?_⟩,.inr rfl⟩,od,(aJ.trans bX)⟩
     obtain⟨h1,h2,h3,h4,cH,dZ⟩:=aB.DO _ _ bB
     rcases b6 with cM|⟨db,dc⟩
     · first|omega|(dsimp only;omega)
     · exact absurd (dZ om _ (bN om db)) ((OZ _ _ _ _).1 dc)
    ·
     refine WP.skip<|WP.region<|ov 73 (iN (.ofNat (I+1))) ?_ (fun _ _ _=>by rw[<-gU (show I+1<9223372036854775808 by omega)];kernel_rfl)
     refine oN 1<|⟨K.gG.l.length-(I+1),om,rfl,rfl,I+1,om,kr,?_,?_,?_⟩
     · exact od
     · exact((((bz.trans bA cJ).trans bW).trans a6).trans bX)
     · intro j s hj hs
       rcases Nat.lt_succ_iff_lt_or_eq.1 hj with hj|rfl
       · exact bZ j s hj hs
       · rw[bB]at hs;cases hs
         refine⟨om,om,om,om,om,fun h0 eo fe=>?_⟩
         have da:=bN om om
         rw[da]at fe;cases fe
         have cE:¬(0<=uA (jj av.iX C.iX) (jj av.kg C.kg)):=fun k=>b6 (.inr ⟨om,k⟩)
         rw[OZ]at cE
         exact Classical.not_not.1 cE
   ·
    refine WP.exit<|WP.seq<|sr<|oX 1<|oZ nx (0+1) (.slice a12 (K.iU.l.length) nC) sX bx (by rw[<-al];rfl)<|oN 2<|WP.block ?_
    refine my [1,3,75,76,77] (fun m hs ns vs=>∃(ai:Nat),ai+m=K.iU.l.length/\vs=[pt nx 0,iN (.ofNat (K.gG.l.length)),.slice a12 (K.iU.l.length) nC,iN (.ofNat (K.iU.l.length)),iN (.ofNat ai)]/\J<=ns/\HE (J) cL hs/\(∀(j:Nat) (r:SV Int),j<ai->K.iU.l[j]?=some r->Vi K.gG.l.length j r)) ?_ (K.iU.l.length) ?_
    ·
     rintro ef a_ aH _ ⟨ai,c6,rfl,b9,aY,a7⟩ dQ
     have ax:=bw.trans aY
     refine sr ?_
     refine oq 78 (kV ai K.iU.l.length) fun dR cN=>WO.nil<|WP.seq<|cq cN (fun cW=>?_) (fun cW=>?_)
     ·
      refine WP.skip<|WP.seq<|WP.block<|sr<|oX 1 ?_
      have bl:ai<K.iU.l.length:=by omega
      refine WO.cons (WC.iy al hK.iU.1 (ai) v8 tB (bl) ?_)
      obtain⟨ag,au⟩:=gE bl
      obtain⟨aT,bu,aG⟩:=(hK.iU.2 ag (List.mem_of_getElem? au)).shape
      have dd:=(hK.iU.2 ag (List.mem_of_getElem? au)).2.2
      refine WO.cons (WC.lz (.slice aT (ag.l.length) bu) al (hK.iU.1.mono ax nR) au (by rw[<-aG];rfl) kq<|oN 2<|sr<|oX 3<|ov 85 (iN (.ofNat (K.gG.l.length+1))) ?_ (fun _ _ _=>by rw[<-gU (show K.gG.l.length+1<9223372036854775808 by omega)];kernel_rfl))
      refine oq 86 (Mw ag.l.length (K.gG.l.length+1)) fun ao bh=>oX 1<|gF 87 ao (.slice aT (ag.l.length) bu)<|gF 87 ao (iN (.ofNat ai)) ?_
      have bn:(!ao)=true->ai<ag.l.length:=fun h=>by obtain rfl:ao=false:=(by simpa using h);have bD:¬(((ag.l.length:Nat):Int)≠((K.gG.l.length+1:Nat):Int)):=(fun k=>absurd ((bh).2 k) (by decide));omega
      refine zQ 87 ao (pt (gb aT) (0+(ai)*1)) (by rintro rfl;exact WC.iy aG (hK.iU.2 ag (List.mem_of_getElem? au)) (ai) lD kj ((bn rfl)) rfl) ?_
      obtain⟨aN,bM⟩:∃bT,(!ao)=true->ag.l[ai]?=some bT:=⟨(ag.l[ai]?).getD default,fun h=>by rw[List.getElem?_eq_getElem (by obtain rfl:ao=false:=(by simpa using h);exact(bn rfl))];rfl⟩
      have bt:=fun(a0:¬(((ag.l.length:Nat):Int)≠((K.gG.l.length+1:Nat):Int)))=>bM (by first|(rw[show ao=false from Bool.eq_false_iff.2 (fun k=>a0 ((bh).1 k))];rfl)|rw[show ao=false from Bool.eq_false_iff.2 (fun k=>a0 ((bh).1 k))])
      refine zQ 87 ao (iN aN) (by rintro rfl;exact WC.lz (iN aN) aG ((hK.iU.2 ag (List.mem_of_getElem? au)).mono ax nR) (bM rfl) rfl fP rfl) ?_
      refine mX 87 ao (qW aN 0) fun dS cO=>?_
      refine mj 93 (nO bh cO) fun az b5=>oX 1<|gF 94 az (.slice aT (ag.l.length) bu)<|WO.cons (WC.gq (!az) (GB (!az) (∃x∈ag.l,(fun x=>x< -2199023255552\/2199023255552<x) x) (aH) a_) (.bool az) (g:=aaj (.tmp 94)) rfl kr (by cases az<;>rfl) (fun h=>by obtain rfl:az=false:=(by simpa using h);have bD:¬((((ag.l.length:Nat):Int)≠((K.gG.l.length+1:Nat):Int))\/((aN)≠(0))):=(fun k=>absurd ((b5).2 k) (by decide));exact WC.call 96 108 ([ag.v,.func (.func 109) #[] #[]]) (fun _ _ _=>by(try rw[aG]);kernel_rfl) ((A6 (A:=fun x=>x< -2199023255552\/2199023255552<x) ag 109 #[] a_ (aH) ((hK.iU.2 ag (List.mem_of_getElem? au)).mono ax) (fun _ x _ fe fg _ _=>Ic x fe fg)).mono fun v fe fg ⟨⟨c,b3,hc⟩,hn,he⟩=>⟨_,_,_,rfl,⟨c,b3,hc⟩,hn,he⟩)) (fun h=>GB.off h) ?_)
      rintro _ dG dN ⟨⟨dT,rfl,cP⟩,dF,bI⟩
      refine mj 97 (nO b5 cP) fun dU cQ=>WO.nil<|cq cQ (fun bj=>?_) (fun bj=>?_)
      ·
       refine sr<|oW 1 ⟨rfl,rfl,[iN 160],kr,?_⟩
       refine⟨⟨160,rfl,⟨fun h=>absurd h (by decide),fun aB=>?_⟩,.inr rfl⟩,od,(ax.trans bI)⟩
       obtain⟨h1,h2,h3⟩:=aB.row _ _ au
       rcases bj with(cM|cM)|⟨y,dg,dh⟩
       · first|omega|(dsimp only;omega)
       · have hw:=bt om
         rw[h2]at hw;cases hw;exact absurd rfl cM
       · exact absurd dh (h3 y dg)
      ·
       refine WP.skip<|WP.region<|ov 98 (iN (.ofNat (ai+1))) ?_ (fun _ _ _=>by rw[<-gU (show ai+1<9223372036854775808 by omega)];kernel_rfl)
       refine oN 1<|⟨K.iU.l.length-(ai+1),om,rfl,rfl,ai+1,om,kr,?_,?_,?_⟩
       · exact od
       · exact(aY.trans bI b9)
       · intro j eh hj hs
         rcases Nat.lt_succ_iff_lt_or_eq.1 hj with hj|rfl
         · exact a7 j eh hj hs
         · rw[au]at hs;cases hs
           have hlen:ag.l.length=K.gG.l.length+1:=by omega
           refine⟨hlen,?_,fun w hw hb=>bj (.inr ⟨w,hw,hb⟩)⟩
           have hw:=bt om
           have:aN=0:=Classical.not_not.1 fun k=>bj (.inl (.inr k))
           rw[hw,this]
     ·
      refine WP.exit<|WP.seq<|sr<|oX 1<|ov 100 (iN (.ofNat (K.gG.l.length+1))) ?_ (fun _ _ _=>by rw[<-gU (show K.gG.l.length+1<9223372036854775808 by omega)];kernel_rfl)
      refine oN 1<|WP.block ?_
      refine my [1,100,101] (fun m hs ns vs=>∃(R:Nat),R+m=(K.gG.l.length+1)/\vs=[pt nx 0,iN (.ofNat (K.gG.l.length+1)),iN (.ofNat R)]/\aH<=ns/\HE (aH) a_ hs/\(∀cf j m,cf<R->Lf K cf j m)) ?_ ((K.gG.l.length+1)) ?_
      ·
       rintro dK cc bO _ ⟨R,c7,rfl,b_,aZ,b0⟩ dB
       have aW:=ax.trans aZ
       have bG:=aZ.get (aY.get bx)
       refine sr ?_
       refine oq 102 (kV R (K.gG.l.length+1)) fun dV cR=>WO.nil<|WP.seq<|cq cR (fun cX=>?_) (fun cX=>?_)
       ·
        refine WP.skip<|WP.seq<|WP.block<|sr<|oN 2<|sr<|oX 1<|oZ nx (0+1) (.slice a12 (K.iU.l.length) nC) sX bG (by rw[<-al];rfl)<|oX 1 ?_
        have bo:R<K.iU.l.length:=by omega
        refine WO.cons (WC.iy al hK.iU.1 (R) v8 tB (bo) ?_)
        obtain⟨af,aj⟩:=gE bo
        obtain⟨aU,aV,aw⟩:=(hK.iU.2 af (List.mem_of_getElem? aj)).shape
        have de:=(hK.iU.2 af (List.mem_of_getElem? aj)).2.2
        refine WO.cons (WC.lz (.slice aU (af.l.length) aV) al (hK.iU.1.mono aW nR) aj (by rw[<-aw];rfl) kq<|oN 2<|WP.block ?_)
        have cC:=(a7 R af om aj).1
        refine my [1,8,100,101,108,109,110] (fun m hs ns vs=>∃(ae:Nat),ae+m=af.l.length/\vs=[pt nx 0,iN (.ofNat R),iN (.ofNat (K.gG.l.length+1)),iN (.ofNat R),.slice aU (af.l.length) aV,iN (.ofNat (af.l.length)),iN (.ofNat ae)]/\bO<=ns/\HE (bO) cc hs/\(∀ch m,ch<ae->Lf K R ch m)) ?_ (af.l.length) ?_
        ·
         rintro dL cd bP _ ⟨ae,c8,rfl,ca,aE,bK⟩ dC
         have aX:=aW.trans aE
         have bH:=aE.get bG
         refine sr ?_
         refine oq 111 (kV ae af.l.length) fun dW cS=>WO.nil<|WP.seq<|cq cS (fun cY=>?_) (fun cY=>?_)
         ·
          refine WP.skip<|WP.seq<|WP.block<|sr<|oX 1 ?_
          have bp:ae<af.l.length:=by omega
          refine WO.cons (WC.iy aw (hK.iU.2 af (List.mem_of_getElem? aj)) (ae) lD kj (bp) ?_)
          obtain⟨bE,bd⟩:=gE bp
          refine WO.cons (WC.lz (iN bE) aw ((hK.iU.2 af (List.mem_of_getElem? aj)).mono aX nR) bd rfl fP<|oN 2<|sr<|oX 1<|oZ nx (0+1) (.slice a12 (K.iU.l.length) nC) sX bH (by rw[<-al];rfl)<|oX 1 ?_)
          have bq:ae<K.iU.l.length:=by omega
          refine WO.cons (WC.iy al hK.iU.1 (ae) v8 tB (bq) ?_)
          obtain⟨ak,an⟩:=gE bq
          obtain⟨bQ,bR,bc⟩:=(hK.iU.2 ak (List.mem_of_getElem? an)).shape
          have df:=(hK.iU.2 ak (List.mem_of_getElem? an)).2.2
          refine WO.cons (WC.lz (.slice bQ (ak.l.length) bR) al (hK.iU.1.mono aX nR) an (by rw[<-bc];rfl) kq<|oN 2<|WP.block ?_)
          have cD:=(a7 ae ak om an).1
          refine my [1,8,10,100,101,108,109,110,119,120,121] (fun m hs ns vs=>∃(ah:Nat),ah+m=ak.l.length/\vs=[pt nx 0,iN (.ofNat R),iN bE,iN (.ofNat (K.gG.l.length+1)),iN (.ofNat R),.slice aU (af.l.length) aV,iN (.ofNat (af.l.length)),iN (.ofNat ae),.slice bQ (ak.l.length) bR,iN (.ofNat (ak.l.length)),iN (.ofNat ah)]/\bP<=ns/\HE (bP) cd hs/\(∀cj,cj<ah->Lf K R ae cj)) ?_ (ak.l.length) ?_
          ·
           rintro dM dH dO _ ⟨ah,c_,rfl,cb,aF,bL⟩ dD
           have aD:=aX.trans aF
           refine sr ?_
           refine oq 122 (kV ah ak.l.length) fun dX cT=>WO.nil<|WP.seq<|cq cT (fun cZ=>?_) (fun cZ=>?_)
           ·
            refine WP.skip<|WP.seq<|WP.block<|sr<|oX 1 ?_
            have br:ah<ak.l.length:=by omega
            refine WO.cons (WC.iy bc (hK.iU.2 ak (List.mem_of_getElem? an)) (ah) lD kj (br) ?_)
            obtain⟨b7,bf⟩:=gE br
            refine WO.cons (WC.lz (iN b7) bc ((hK.iU.2 ak (List.mem_of_getElem? an)).mono aD nR) bf rfl fP<|oN 2<|sr<|oX 1<|oZ nx (0+1) (.slice a12 (K.iU.l.length) nC) sX (aF.get bH) (by rw[<-al];rfl)<|oX 1 ?_)
            have bY:R<K.iU.l.length:=by omega
            refine WO.cons (WC.iy al hK.iU.1 (R) v8 tB (bY)<|WO.cons (WC.lz (.slice aU (af.l.length) aV) al (hK.iU.1.mono aD nR) aj (by rw[<-aw];rfl) kq<|oX 1 ?_))
            have bs:ah<af.l.length:=by omega
            refine WO.cons (WC.iy aw (hK.iU.2 af (List.mem_of_getElem? aj)) (ah) lD kj (bs) ?_)
            obtain⟨b8,bg⟩:=gE bs
            refine WO.cons (WC.lz (iN b8) aw ((hK.iU.2 af (List.mem_of_getElem? aj)).mono aD nR) bg rfl fP<|oX 3 ?_)
            refine oq 137 (nz (gD .i64 ((bE)+(b7))) b8) fun dY cU=>WO.nil<|cq cU (fun c0=>?_) (fun c0=>?_)
            ·
             refine sr<|oW 1 ⟨rfl,rfl,[iN 160],kr,?_⟩
             refine⟨⟨160,rfl,⟨fun h=>absurd h (by decide),fun aB=>?_⟩,.inr rfl⟩,od,aD⟩
             have:=aB.Z1 R ae ah _ _ _ _ _ aj bd an bf bg;omega
            ·
             refine WP.skip<|WP.region<|ov 138 (iN (.ofNat (ah+1))) ?_ (fun _ _ _=>by rw[<-gU (show ah+1<9223372036854775808 by omega)];kernel_rfl)
             refine oN 1<|⟨ak.l.length-(ah+1),om,rfl,rfl,ah+1,om,kr,?_,?_,?_⟩
             · exact cb
             · exact aF
             · intro cj hm
               rcases Nat.lt_succ_iff_lt_or_eq.1 hm with hm|rfl
               · exact bL cj hm
               · intro c3 c5 a b c h1 h2 h3 h4 cH
                 rw[aj]at h1;cases h1;rw[bd]at h2;cases h2;rw[an]at h3;cases h3;rw[bf]at h4;cases h4;rw[bg]at cH;cases cH
                 omega
           ·
            refine WP.exit<|WP.region<|ov 139 (iN (.ofNat (ae+1))) ?_ (fun _ _ _=>by rw[<-gU (show ae+1<9223372036854775808 by omega)];kernel_rfl)
            refine oN 1<|⟨af.l.length-(ae+1),om,rfl,rfl,ae+1,om,kr,?_,?_,?_⟩
            · exact od
            · exact(aE.trans aF ca)
            · intro ch m hj
              rcases Nat.lt_succ_iff_lt_or_eq.1 hj with hj|rfl
              · exact bK ch m hj
              · rcases Nat.lt_or_ge m ak.l.length with hm|hm
                · exact bL m om
                · intro c3 c5 a b c h1 h2 h3 h4;rw[an]at h3;cases h3;rw[List.getElem?_eq_none hm]at h4;cases h4
          ·
           exact⟨0,om,kr,Nat.le_refl _,HE.refl _ _,(fun _ h=>absurd h (Nat.not_lt_zero _))⟩
         ·
          refine WP.exit<|WP.region<|ov 140 (iN (.ofNat (R+1))) ?_ (fun _ _ _=>by rw[<-gU (show R+1<9223372036854775808 by omega)];kernel_rfl)
          refine oN 1<|⟨(K.gG.l.length+1)-(R+1),om,rfl,rfl,R+1,om,kr,?_,?_,?_⟩
          · exact od
          · exact(aZ.trans aE b_)
          · intro cf j m hi
            rcases Nat.lt_succ_iff_lt_or_eq.1 hi with hi|rfl
            · exact b0 cf j m hi
            · rcases Nat.lt_or_ge j af.l.length with hj|hj
              · exact bK j m om
              · intro c3 c5 a b c h1 h2;rw[aj]at h1;cases h1;rw[List.getElem?_eq_none hj]at h2;cases h2
        ·
         exact⟨0,om,kr,Nat.le_refl _,HE.refl _ _,(fun _ _ h=>absurd h (Nat.not_lt_zero _))⟩
       ·
        refine WP.exit<|sr<|oW 1 ⟨rfl,rfl,[iN 0],kr,?_⟩
        refine⟨⟨0,rfl,⟨fun _=>?_,fun _=>rfl⟩,.inl rfl⟩,od,aW⟩
        refine⟨om,om,fun j s hs=>bZ j s (by have:=(List.getElem?_eq_some_iff.1 hs).1;omega) hs,fun j r hr=>a7 j r (by have:=(List.getElem?_eq_some_iff.1 hr).1;omega) hr,fun i j m=>?_⟩
        rcases Nat.lt_or_ge i (K.gG.l.length+1)with hi|hi
        · exact b0 i j m om
        · intro c3 c5 a b c h1;rw[List.getElem?_eq_none om]at h1;cases h1
      ·
       exact⟨0,om,kr,Nat.le_refl _,HE.refl _ _,(fun _ _ _ h=>absurd h (Nat.not_lt_zero _))⟩
    ·
     exact⟨0,om,kr,Nat.le_refl _,HE.refl _ _,(fun _ _ h=>absurd h (Nat.not_lt_zero _))⟩
  ·
   exact⟨0,om,kr,Nat.le_refl _,HE.refl _ _,(fun _ _ h=>absurd h (Nat.not_lt_zero _))⟩
theorem Xn(hp:Ht)(nx:Nat):WF ex 111 [] hp nx (fO nx hp (Fv (.agg (ie (⟨true,-1,0,0⟩:jL)).toArray))):=by
 refine wd Tryz.f111 2 [.cell 0 153] fun hE=>sr<|oA [.bool false,iN 0,iN 0,iN 0] zi fun jN iY iA=>?_
 refine WO.nil<|sr<|oX 1<|oS nx (0) (.agg ⟨[.bool true,iN (-1),iN 0,iN 0]⟩) [.bool true,iN (-1),iN 0,iN 0] [.bool true,iN (-1),iN 0,iN 0] nP rfl rfl iA fun C jm j o=>?_
 refine wr ⟨rfl,rfl,[.agg ⟨[.bool true,iN (-1),iN 0,iN 0]⟩],(tM (by rw[show(aaj (.tmp 0)).run _=pt nx 0 from by kernel_rfl];exact lF uj nP j rfl)),?_⟩
 exact⟨rfl,od,((hE.trans iY).trans jm)⟩
theorem Bx(K:kM)(x:jL)(hp:Ht)(nx:Nat)(hK:oI hp nx K):WF ex 57 [.agg (jE K).toArray,.agg (ie x).toArray] hp nx (fO nx hp (Yf (vm K/\vn K x))):=by
 refine wd Tryz.f57 47 [.tmp 4] fun hE=>sr<|oB (.agg (jE K).toArray) (jE K) fun jN iY iA=>?_
 refine oB (.agg (ie x).toArray) (ie x) fun az ai aq=>?_
 have af:=(hE.trans iY).trans ai
 have ah:=ai.get iA
 refine oN 1<|WP.seq<|sr<|WO.cons (WC.jb nx (0) (jE K) kr yJ w7 ah rfl<|WO.cons (WC.call 8 55 ([.agg (jE K).toArray]) kf ((Cz K az (nx+1+1) (hK.mono af)).mono ?_)))
 rintro _ ak av ⟨⟨z21,rfl,aa,aQ⟩,xV,jQ⟩
 have C:=af.trans jQ
 have j:=jQ.get aq
 refine oN 1<|sr<|oX 1 ?_
 refine oq 10 (qW z21 0) fun aU aA=>WO.nil<|cq aA (fun R=>?_) (fun R=>?_)
 ·
  refine sr<|oW 2 ⟨rfl,rfl,[iN z21],kr,?_⟩
  refine⟨⟨z21,rfl,⟨fun h=>?_,fun J=>?_⟩⟩,od,C⟩
  · exact absurd h R
  · exact absurd ((aa).2 J.1) R
 ·
  refine WP.skip<|sr<|oX 1<|oZ (nx+1) (0+1) (iN x.oM) fP j rfl ?_
  refine oq 14 (qo (-1) x.oM) fun o aB=>oX 1<|gT 15 o (pt (nx+1) (0+1))<|lr 15 o (nx+1) (0+1) (iN x.oM) fP j rfl<|gT 15 o (pt nx 0) ?_
  obtain⟨a32,aw,au⟩:=hK.gG.shape
  have aO:=hK.gG.2.2
  refine lr 15 o nx 0 (.slice a32 (K.gG.l.length) aw) Ax (jQ.get ah) (by rw[<-au];rfl)<|gT 15 o (iN (.ofNat (K.gG.l.length))) ?_
  refine qw 15 o (nc x.oM K.gG.l.length) fun aV aC=>?_
  refine mI 22 (nA aB aC) fun ad aD=>oX 1<|gT 23 ad (pt (nx+1) (0+2))<|lr 23 ad (nx+1) (0+2) (iN x.h_) fP j rfl ?_
  refine qw 23 ad (qo (-288230376151711744) x.h_) fun aW aE=>?_
  refine mI 27 (nA aD aE) fun I aF=>oX 1<|gT 28 I (pt (nx+1) (0+2))<|lr 28 I (nx+1) (0+2) (iN x.h_) fP j rfl<|gT 28 I (pt (nx+1) (0+3))<|lr 28 I (nx+1) (0+3) (iN x.hQ) fP j rfl ?_
  refine qw 28 I (qo x.h_ x.hQ) fun aX aG=>?_
  refine mI 34 (nA aF aG) fun ae aH=>oX 1<|gT 35 ae (pt (nx+1) (0+3))<|lr 35 ae (nx+1) (0+3) (iN x.hQ) fP j rfl ?_
  refine qw 35 ae (qo x.hQ 288230376151711744) fun aY aI=>?_
  refine mI 39 (nA aH aI) fun aZ aJ=>oN 1<|WP.seq<|sr<|oX 1 ?_
  obtain⟨ax,ay,aK⟩:=@nb (x.kl) (x.kl=true) (by first|done|exact Iff.rfl)
  refine oZ (nx+1) 0 (.bool ax) xT j (by rw[ay];rfl)<|WO.nil<|cq aK (fun U=>?_) (fun U=>?_)
  ·
   refine WP.sM [⟨[0],[0],some 1⟩,⟨[2],[0,2],some 3⟩,⟨[],[],none⟩] kr _ rfl<|WD.ln<|WN.ic rfl (WC.jb (nx+1) (0) (ie x) kr uj nP j rfl<|WN.nil ⟨?_,?_⟩)
   ·
    refine co (.agg (ie x).toArray) (kB ex.T ak.get 153 (pt (nx+1) 0)) (lF uj nP j rfl) (Cs x) ?_
    exact jh.nil
   refine WC.at rfl (WC.call 43 111 ([]) kf ((Xn ak (av)).mono ?_))
   rintro _ ar aT ⟨rfl,aR,aj⟩
   have ag:=C.trans aj
   refine WD.ln ?_
   obtain⟨ab,ao,aL⟩:=@nb (@decide (x=(⟨true,-1,0,0⟩:jL)) (Classical.propDecidable _)) (x=(⟨true,-1,0,0⟩:jL)) (@decide_eq_true_iff _ (Classical.propDecidable _))
   refine WN.ic rfl (WC.opt (v:=.bool ab) 44 (wy ex.T .eql 153 (.tmp 42) (.tmp 43) (.agg (ie x).toArray) (.agg (ie (⟨true,-1,0,0⟩:jL)).toArray)) kf (Cx _ _ x (⟨true,-1,0,0⟩:jL) ao)<|WN.nil ⟨?_,?_⟩)
   ·
    refine co (.agg (ie x).toArray) (kB ex.T ar.get 153 (pt (nx+1) 0)) (lF uj nP (aj.get j) rfl) (Cs x)<|co (.bool ab) (wy ex.T .eql 153 (.tmp 42) (.tmp 43) (.agg (ie x).toArray) (.agg (ie (⟨true,-1,0,0⟩:jL)).toArray)) ((Cx _ _ x (⟨true,-1,0,0⟩:jL) ao)) (jd 8 ab) ?_
    exact jh.nil
   refine WC.at rfl (WC.val 6 (.bool ab) kf<|WD.last<|WN.nil ⟨?_,?_⟩)
   ·
    exact jh.nil
   refine WP.seq<|sr<|oX 1 ?_
   refine oq 46 (nN aL) fun a6 aM=>WO.nil<|cq aM (fun al=>?_) (fun al=>?_)
   ·
    refine sr<|oW 1 ⟨rfl,rfl,[iN 230],kr,?_⟩
    refine⟨⟨230,rfl,⟨fun h=>absurd h (by decide),fun J=>?_⟩⟩,od,ag⟩
    exact absurd (J.2.1 U) al
   ·
    refine WP.skip<|sr<|oW 1 ⟨rfl,rfl,[iN 0],kr,?_⟩
    refine⟨⟨0,rfl,⟨fun _=>?_,fun _=>rfl⟩⟩,od,ag⟩
    exact⟨(aa).1 (Classical.not_not.1 R),fun _=>Classical.not_not.1 al,fun hf=>by rw[U]at hf;cases hf⟩
  ·
   refine WP.skip<|WP.seq<|sr<|oX 1 ?_
   refine oq 46 (nN aJ) fun a7 aN=>WO.nil<|cq aN (fun an=>?_) (fun an=>?_)
   ·
    refine sr<|oW 1 ⟨rfl,rfl,[iN 230],kr,?_⟩
    refine⟨⟨230,rfl,⟨fun h=>absurd h (by decide),fun J=>?_⟩⟩,od,C⟩
    exact absurd (by have aP:=J.2.2 (Bool.eq_false_iff.2 U);omega) an
   ·
    refine WP.skip<|sr<|oW 1 ⟨rfl,rfl,[iN 0],kr,?_⟩
    refine⟨⟨0,rfl,⟨fun _=>?_,fun _=>rfl⟩⟩,od,C⟩
    exact⟨(aa).1 (Classical.not_not.1 R),fun aS=>absurd aS U,fun _=>by have aP:=Classical.not_not.1 an;omega⟩
theorem TO(K:kM)(hp:Ht)(nx:Nat)(hK:oI hp nx K):WF ex 24 [.agg (jE K).toArray] hp nx (fO nx hp (Je True)):=by
 refine wd Tryz.f24 28 [.tmp 2] fun hE=>sr<|oB (.agg (jE K).toArray) (jE K) fun jN iY iA=>?_
 have l_:=hE.trans iY
 refine oN 1<|WP.seq<|sr<|oX 1 ?_
 obtain⟨ay,az,ae⟩:=hK.gG.shape
 have au:=hK.gG.2.2
 refine oZ nx 0 (.slice ay (K.gG.l.length) az) Ax iA (by rw[<-ae];rfl)<|oX 1 ?_
 refine oq 7 (nc 8 K.gG.l.length) fun R ai=>oX 1<|gF 8 R (pt nx (0+1)) ?_
 obtain⟨a12,nC,o⟩:=hK.iU.1.shape
 have av:=hK.iU.1.2.2
 refine pj 8 R nx (0+1) (.slice a12 (K.iU.l.length) nC) sX iA (by rw[<-o];rfl)<|gF 8 R (iN (.ofNat (K.iU.l.length))) ?_
 refine mX 8 R (nc 10 K.iU.l.length) fun sF vt=>?_
 refine mj 13 (nO ai vt) fun aD aj=>WO.nil<|cq aj (fun an=>?_) (fun an=>?_)
 ·
  refine sr<|oW 1 ⟨rfl,rfl,[.bool false],kr,?_⟩
  refine⟨⟨false,rfl,fun hc=>?_⟩,od,l_⟩
  cases hc
 ·
  refine WP.skip<|WP.seq<|sr<|oN 1<|WP.block ?_
  refine my [1,3] (fun m hs ns vs=>∃(j:Nat),j+m=K.iU.l.length/\vs=[pt nx 0,iN (.ofNat j)]/\nx+1<=ns/\HE (nx+1) jN hs) ?_ (K.iU.l.length) ?_
  ·
   rintro aB aA aC _ ⟨j,ar,rfl,ad,I⟩ ax
   have C:=l_.trans I
   have ab:=I.get iA
   refine WP.seq<|sr<|oX 2<|oZ nx (0+1) (.slice a12 (K.iU.l.length) nC) sX ab (by rw[<-o];rfl)<|oX 1 ?_
   refine oq 18 (kV j K.iU.l.length) fun aE ak=>WO.nil<|cq ak (fun ao=>?_) (fun ao=>?_)
   ·
    refine WP.skip<|WP.seq<|WP.block<|sr<|oX 1<|oZ nx (0+1) (.slice a12 (K.iU.l.length) nC) sX ab (by rw[<-o];rfl)<|oX 1 ?_
    have U:j<K.iU.l.length:=by omega
    refine WO.cons (WC.iy o hK.iU.1 (j) v8 tB (U) ?_)
    obtain⟨aa,J⟩:=gE U
    obtain⟨ag,ah,af⟩:=(hK.iU.2 aa (List.mem_of_getElem? J)).shape
    have aw:=(hK.iU.2 aa (List.mem_of_getElem? J)).2.2
    refine WO.cons (WC.lz (.slice ag (aa.l.length) ah) o (hK.iU.1.mono C nR) J (by rw[<-af];rfl) kq<|oX 1 ?_)
    refine oq 27 (nc 12 aa.l.length) fun aF al=>WO.nil<|cq al (fun aq=>?_) (fun aq=>?_)
    ·
     refine sr<|oW 1 ⟨rfl,rfl,[.bool false],kr,?_⟩
     refine⟨⟨false,rfl,fun hc=>?_⟩,od,C⟩
     cases hc
    ·
     refine WP.skip<|WP.region<|oX 1<|ov 20 (iN (.ofNat (j+1))) ?_ (fun _ _ _=>by rw[<-gU (show j+1<9223372036854775808 by omega)];kernel_rfl)
     refine oN 1<|⟨K.iU.l.length-(j+1),om,rfl,rfl,j+1,om,kr,?_,?_⟩
     · exact ad
     · exact I
   ·
    refine WP.exit<|sr<|oW 1 ⟨rfl,rfl,[.bool true],kr,?_⟩
    refine⟨⟨true,rfl,fun hc=>?_⟩,od,C⟩
    trivial
  ·
   exact⟨0,om,kr,Nat.le_refl _,HE.refl _ _⟩
theorem TP(F:kU)(hp:Ht)(nx:Nat)(aa:ny hp nx F):WF ex 7 [.agg (iK F).toArray] hp nx (fO nx hp (Je (Vj F))):=by
 refine wd Tryz.f7 62 [.tmp 2] fun hE=>sr<|oB (.agg (iK F).toArray) (iK F) fun jN iY iA=>?_
 have l_:=hE.trans iY
 refine oN 1<|sr<|oN 1<|WP.seq<|sr<|oX 1 ?_
 obtain⟨aD,aE,ad⟩:=aa.fL.1.shape
 have bd:=aa.fL.1.2.2
 refine oZ nx (0+3) (.slice aD (F.fL.l.length) aE) qh iA (by rw[<-ad];rfl)<|oX 1 ?_
 refine oq 10 (nc 6 F.fL.l.length) fun an aR=>oX 1<|gF 11 an (pt nx (0+2)) ?_
 obtain⟨a12,nC,aK⟩:=aa.iD.shape
 have bf:=aa.iD.2.2
 refine pj 11 an nx (0+2) (.slice a12 (F.iD.l.length) nC) yK iA (by rw[<-aK];rfl)<|gF 11 an (iN (.ofNat (F.iD.l.length))) ?_
 refine mX 11 an (nc 3 F.iD.l.length) fun sF vt=>?_
 refine mj 16 (nO aR vt) fun ab aC=>oX 1<|gF 17 ab (pt nx 0)<|zQ 17 ab (.agg (jE F.jv).toArray) (by rintro rfl;exact WC.jb nx 0 (jE F.jv) kr yJ w7 iA rfl rfl)<|WO.cons (WC.gq (!ab) (GI (!ab) (True) (nx+1) jN) (.bool ab) (g:=aaj (.tmp 17)) rfl kr (by cases ab<;>rfl) (fun h=>by obtain rfl:ab=false:=(by simpa using h);have bI:¬(((6)<((F.fL.l.length:Nat):Int))\/((3)<((F.iD.l.length:Nat):Int))):=(fun k=>absurd ((aC).2 k) (by decide));exact WC.call 20 24 ([.agg (jE F.jv).toArray]) kf ((TO F.jv jN (nx+1) (aa.jv.mono l_)).mono fun v fe fg ⟨⟨c,br,hc⟩,hn,he⟩=>⟨_,_,_,rfl,⟨c,br,hc⟩,hn,he⟩)) (fun h=>GI.off h) ?_)
 rintro _ aJ aA ⟨⟨sk,rfl,bw⟩,xV,jQ⟩
 have vp:sk=true↔(sk=true):=Iff.rfl
 have av:=l_.trans jQ
 refine mX 17 ab (nN vp) fun bz aS=>?_
 refine mj 22 (nO aC aS) fun bA aT=>WO.nil<|cq aT (fun wv=>?_) (fun wv=>?_)
 ·
  refine sr<|oW 1 ⟨rfl,rfl,[.bool false],kr,?_⟩
  refine⟨⟨false,rfl,fun hc=>?_⟩,od,av⟩
  cases hc
 ·
  refine WP.skip<|WP.seq<|sr<|oN 1<|WP.block ?_
  refine my [1,3,4] (fun m hs ns vs=>∃(I:Nat) (al:Nat),I+m=F.fL.l.length/\vs=[pt nx 0,iN (.ofNat al),iN (.ofNat I)]/\aA<=ns/\HE (aA) aJ hs/\(al<=1407374883553280*I)/\(∀(j:Nat) (r:i_),j<I->F.fL.l[j]?=some r->r.lj.l.length<=8/\r.gI.l.length<=5/\GS r<=al)) ?_ (F.fL.l.length) ?_
  ·
   rintro bs bn U _ ⟨I,al,a_,rfl,aH,ak,bG,az⟩ bj
   have ai:=av.trans ak
   have aw:=ak.get (jQ.get iA)
   refine WP.seq<|sr<|oX 2<|oZ nx (0+3) (.slice aD (F.fL.l.length) aE) qh aw (by rw[<-ad];rfl)<|oX 1 ?_
   refine oq 27 (kV I F.fL.l.length) fun bB aU=>WO.nil<|cq aU (fun aZ=>?_) (fun aZ=>?_)
   ·
    refine WP.skip<|WP.seq<|WP.block<|sr<|oX 1<|oZ nx (0+3) (.slice aD (F.fL.l.length) aE) qh aw (by rw[<-ad];rfl)<|oX 1 ?_
    have aq:I<F.fL.l.length:=by omega
    refine WO.cons (WC.iy ad aa.fL.1 (I) v_ nh (aq) ?_)
    obtain⟨C,R⟩:=gE aq
    refine WO.cons (WC.ly ad (aa.fL.1.mono ai nR) R yI nh<|oA [iN 0,.slice none (0) 0,.slice none (0) 0] Bw fun bo oO aG=>?_)
    refine oS U (0) (.agg (je C).toArray) (je C) (je C) nh rfl (Bool.and_eq_true_iff.2 ⟨rfl,wZ _ (aa.fL.2 C (List.mem_of_getElem? R))⟩) aG fun um ay aj bl=>?_
    have uo:=(ai.trans oO).trans ay
    refine WO.nil<|WP.seq<|sr<|oX 1 ?_
    obtain⟨a66,aO,aL⟩:=(aa.fL.2 C (List.mem_of_getElem? R)).lj.shape
    have bg:=(aa.fL.2 C (List.mem_of_getElem? R)).lj.2.2
    refine oZ U (0+1) (.slice a66 (C.lj.l.length) aO) kq aj (by rw[<-aL];rfl)<|oX 1 ?_
    refine oq 38 (nc 8 C.lj.l.length) fun ao aV=>oX 1<|gF 39 ao (pt U (0+2)) ?_
    obtain⟨a70,zj,ae⟩:=(aa.fL.2 C (List.mem_of_getElem? R)).gI.1.shape
    have bh:=(aa.fL.2 C (List.mem_of_getElem? R)).gI.1.2.2
    refine pj 39 ao U (0+2) (.slice a70 (C.gI.l.length) zj) sE aj (by rw[<-ae];rfl)<|gF 39 ao (iN (.ofNat (C.gI.l.length))) ?_
    refine mX 39 ao (nc 5 C.gI.l.length) fun bC aW=>?_
    refine mj 44 (nO aV aW) fun bD aX=>WO.nil<|cq aX (fun a6=>?_) (fun a6=>?_)
    ·
     refine sr<|oW 1 ⟨rfl,rfl,[.bool false],kr,?_⟩
     refine⟨⟨false,rfl,fun hc=>?_⟩,od,uo⟩
     cases hc
    ·
     refine WP.skip<|sr<|oN 1<|WP.block ?_
     refine my [1,3,4,5,6] (fun m hs ns vs=>∃(J:Nat) (n2:Nat),J+m=C.gI.l.length/\vs=[pt nx 0,iN (.ofNat n2),iN (.ofNat I),pt U 0,iN (.ofNat J)]/\U+1<=ns/\HE (U+1) um hs/\(n2<=1407374883553280*I+281474976710656*J)/\(n2=al+((C.gI.l.take J).map (fun o=>o.l.length)).sum)) ?_ (C.gI.l.length) ?_
     ·
      rintro bt bp bu _ ⟨J,n2,bc,rfl,aI,ag,xF,bq⟩ bk
      have aF:=uo.trans ag
      have ax:=ag.get aj
      refine WP.seq<|sr<|oX 2<|oZ U (0+2) (.slice a70 (C.gI.l.length) zj) sE ax (by rw[<-ae];rfl)<|oX 1 ?_
      refine oq 49 (kV J C.gI.l.length) fun bE aY=>WO.nil<|cq aY (fun a7=>?_) (fun a7=>?_)
      ·
       refine WP.skip<|WP.seq<|WP.block<|WP.region<|oX 2<|oZ U (0+2) (.slice a70 (C.gI.l.length) zj) sE ax (by rw[<-ae];rfl)<|oX 1 ?_
       have ar:J<C.gI.l.length:=by omega
       refine WO.cons (WC.iy ae ((aa.fL.2 C (List.mem_of_getElem? R)).gI.1) (J) w8 vo (ar) ?_)
       obtain⟨af,ah⟩:=gE ar
       obtain⟨aN,aP,aB⟩:=((aa.fL.2 C (List.mem_of_getElem? R)).gI.2 af (List.mem_of_getElem? ah)).shape
       have aQ:=((aa.fL.2 C (List.mem_of_getElem? R)).gI.2 af (List.mem_of_getElem? ah)).2.2
       refine WO.cons (WC.lz (.slice aN (af.l.length) aP) ae ((aa.fL.2 C (List.mem_of_getElem? R)).gI.1.mono aF nR) ah (by rw[<-aB];rfl) w6<|oX 1<|ov 59 (iN (.ofNat (n2+af.l.length))) ?_ (fun _ _ _=>by rw[<-gU (show n2+af.l.length<9223372036854775808 by omega)];kernel_rfl))
       refine oN 1<|WP.region<|oX 1<|ov 51 (iN (.ofNat (J+1))) ?_ (fun _ _ _=>by rw[<-gU (show J+1<9223372036854775808 by omega)];kernel_rfl)
       refine oN 1<|⟨C.gI.l.length-(J+1),om,rfl,rfl,J+1,n2+af.l.length,om,kr,?_,?_,?_,?_⟩
       · exact aI
       · exact ag
       · first|omega|(dsimp only;omega)
       · rw[List.take_add_one,List.map_append,List.sum_append,ah]
         simp only[Option.toList_some,List.map_cons,List.map_nil,List.sum_cons,List.sum_nil]
         omega
      ·
       refine WP.exit<|WP.region<|oX 1<|ov 29 (iN (.ofNat (I+1))) ?_ (fun _ _ _=>by rw[<-gU (show I+1<9223372036854775808 by omega)];kernel_rfl)
       refine oN 1<|⟨F.fL.l.length-(I+1),om,rfl,rfl,I+1,n2,om,kr,?_,?_,?_,?_⟩
       · exact od
       · exact(((ak.trans oO aH).trans ay).trans ag)
       · first|omega|(dsimp only;omega)
       · intro j bx hj hs
         rcases Nat.lt_succ_iff_lt_or_eq.1 hj with hj|rfl
         · obtain⟨a,b,c⟩:=az j bx hj hs;exact⟨a,b,om⟩
         · rw[R]at hs;cases hs
           refine⟨om,om,?_⟩
           have:(C.gI.l.take J).map (fun o=>o.l.length)=C.gI.l.map (fun o=>o.l.length):=by rw[List.take_of_length_le om]
           unfold GS;rw[<-this];omega
     ·
      exact⟨0,al,om,kr,Nat.le_refl _,HE.refl _ _,om,(by simp)⟩
   ·
    refine WP.exit<|sr<|oX 1 ?_
    refine oq 61 (EH al 60) fun au aM=>oW 1 ⟨rfl,rfl,[.bool au],kr,?_⟩
    refine⟨⟨au,rfl,fun hc=>?_⟩,od,ai⟩
    have bH:=(aM).1 hc
    refine⟨om,om,fun r hr=>?_⟩
    obtain⟨j,hj⟩:=List.getElem?_of_mem hr
    obtain⟨a,b,c⟩:=az j r (by have:=(List.getElem?_eq_some_iff.1 hj).1;omega) hj
    exact⟨a,b,om⟩
  ·
   exact⟨0,0,om,kr,Nat.le_refl _,HE.refl _ _,(Nat.zero_le _),(fun _ _ h=>absurd h (Nat.not_lt_zero _))⟩
theorem TQ{p:Prop}(h:p:=by
 obtain⟨a1,c2,hR⟩:=hK.1.shape
 have lW:=hK.1.2.2
 rw[hR]
 refine F7 mn fun hE=>sr<|oN 1<|WP.seq<|sr<|oN 3<|WP.block ?_
 refine my [0,1,7,8] (fun m hs ns vs=>∃(fV:Nat),fV+m=K.l.length/\vs=[.slice a1 (K.l.length) c2,.func (.func f) #[] b,iN (.ofNat (K.l.length)),iN (.ofNat fV)]/\nx<=ns/\HE (nx) hp hs/\(∀(j:Nat) (y:_),j<fV->K.l[j]?=some y->¬A y)) ?_ (K.l.length) ?_
 ·
  rintro xn pT ja _ ⟨fV,tP,rfl,oe,jm,hinv⟩ tQ
  have j2:=hE.trans jm
  refine sr ?_
  refine oq 9 (kV fV K.l.length) fun nC rH=>WO.nil<|WP.seq<|cq rH (fun wQ=>?_) (fun wQ=>?_)
  ·
   refine WP.skip<|WP.seq<|WP.block<|sr<|oN 2<|sr<|oX 3 ?_
   have mY:fV<K.l.length:=by omega
   refine WO.cons (WC.iy hR hK.1 (fV) mZ oU (mY) ?_)
   obtain⟨lu,ku⟩:=gE mY
   refine WO.cons (WC.ly hR (hK.1.mono j2 nR) ku sO oU<|WO.cons (WC.call 16 f ((.agg (pc lu).toArray)::b.toList) kf ((hf fV lu ku pT (ja) om j2).mono ?_)))
   rintro _ Jl TL ⟨⟨EJ,rfl,Cy⟩,TM,tR⟩
   refine WO.nil<|cq Cy (fun wv=>?_) (fun wv=>?_)
   ·
    refine sr<|oW 2 ⟨rfl,rfl,[iN (.ofNat fV)],kr,?_⟩
    exact⟨.inr ⟨fV,lu,rfl,ku,wv,hinv⟩,od,(j2.trans tR)⟩
   ·
    refine WP.skip<|WP.region<|ov 18 (iN (.ofNat (fV+1))) ?_ (fun _ _ _=>by rw[<-gU (show fV+1<9223372036854775808 by omega)];kernel_rfl)
    refine oN 1<|⟨K.l.length-(fV+1),om,rfl,rfl,fV+1,om,kr,?_,?_,?_⟩
    · exact od
    · exact(jm.trans tR oe)
    · intro j y hj hy;rcases Nat.lt_succ_iff_lt_or_eq.1 hj with hj|rfl;exact hinv j y hj hy;rw[ku]at hy;cases hy;exact wv
  ·
   refine WP.exit<|sr<|oW 1 ⟨rfl,rfl,[iN (-1)],kr,?_⟩
   refine⟨.inl ⟨rfl,fun y hy=>?_⟩,od,j2⟩
   obtain⟨j,hj⟩:=List.getElem?_of_mem hy
   exact hinv j y (by have:=(List.getElem?_eq_some_iff.1 hj).1;omega) hj
 ·
  exact⟨0,om,kr,Nat.le_refl _,HE.refl _ _,(fun j y h=>absurd h (Nat.not_lt_zero _))⟩):p:=h
theorem DQ{A:i_->Prop}(K:SV i_)(f:FuncId)(b:Array Value)(hp:Ht)(nx:Nat)(hK:jt je 3 (fun hp nx y=>mw hp nx y) hp nx K)(hf:∀(i:Nat) (x:i_),K.l[i]?=some x->∀(fe:Ht) (fg:Nat),nx<=fg->HE nx hp fe->WF ex f ((.agg (je x).toArray)::b.toList) fe fg (fO fg fe (gk (A x)))):WF ex 34 [K.v,.func (.func f) #[] b] hp nx (fO nx hp (pM K.l A)):=by
 have mn:=fF (e:=ex) 34 Tryz.f34 19 [.tmp 4]
 have mZ:=@v_
 have oU:=@nh
 have sO:=@yI
 let pc:=je
 exact TQ
theorem MG{p:Prop}(h:p:=by
 obtain⟨a1,c2,hR⟩:=hK.1.shape
 have lW:=hK.1.2.2
 rw[hR]
 refine F7 mn fun hE=>sr<|oN 1<|sr<|oX 2<|WO.cons (WC.call 7 _ ([K.v,.func (.func f) #[] b]) (fun _ _ _=>by(try rw[hR]);kernel_rfl) ((mZ K f b hp (nx) hK hf).mono ?_))
 rintro RG DP Ie ⟨Bl,ME,qm⟩
 obtain⟨z8,rfl,RH⟩:∃z:Int,RG=iN z/\(0<=z↔∃x∈K.l,A x):=pM.sign Bl
 refine oq 8 (qo 0 z8) fun ow sj=>oW 1 ⟨rfl,rfl,[.bool ow],kr,?_⟩
 exact⟨⟨ow,rfl,sj.trans RH⟩,od,(hE.trans qm)⟩):p:=h
theorem A7{A:i_->Prop}(K:SV i_)(f:FuncId)(b:Array Value)(hp:Ht)(nx:Nat)(hK:jt je 3 (fun hp nx y=>mw hp nx y) hp nx K)(hf:∀(i:Nat) (x:i_),K.l[i]?=some x->∀(fe:Ht) (fg:Nat),nx<=fg->HE nx hp fe->WF ex f ((.agg (je x).toArray)::b.toList) fe fg (fO fg fe (gk (A x)))):WF ex 61 [K.v,.func (.func f) #[] b] hp nx (fO nx hp (gk (∃x∈K.l,A x))):=by
 have mn:=fF (e:=ex) 61 Tryz.f61 9 [.tmp 4]
 have mZ:=@DQ
 exact MG
theorem MH(x:i_)(w b:Nat)(hp:Ht)(nx:Nat)(hx:mw hp nx x)(hb:hp.get b=some (.cells [iN (.ofNat w)] gl.plain))(jz:b<nx)(hw:w<x.gI.l.length):WF ex 112 [.agg (je x).toArray,pt b 0] hp nx (fO nx hp (gk (∃o,x.gI.l[w]?=some o/\o.l=[]))):=by
 refine wd Tryz.f112 11 [.tmp 3] fun hE=>sr<|oB (.agg (je x).toArray) (je x) fun jN iY iA=>?_
 have l_:=hE.trans iY
 refine oN 1<|sr<|oX 1 ?_
 obtain⟨aa,ad,C⟩:=hx.gI.1.shape
 have ag:=hx.gI.1.2.2
 refine oZ nx (0+2) (.slice aa (x.gI.l.length) ad) sE iA (by rw[<-C];rfl)<|oZ b (0) (iN (.ofNat w)) fP (iY.get hb jz) rfl ?_
 have I:w<x.gI.l.length:=by omega
 refine WO.cons (WC.iy C hx.gI.1 (w) w8 vo (I) ?_)
 obtain⟨J,j⟩:=gE I
 obtain⟨ab,ae,U⟩:=(hx.gI.2 J (List.mem_of_getElem? j)).shape
 have ah:=(hx.gI.2 J (List.mem_of_getElem? j)).2.2
 refine WO.cons (WC.lz (.slice ab (J.l.length) ae) C (hx.gI.1.mono l_ nR) j (by rw[<-U];rfl) w6<|oX 1 ?_)
 refine oq 10 (w5 J.l.length 0) fun R af=>oW 1 ⟨rfl,rfl,[.bool R],kr,?_⟩
 refine⟨⟨R,rfl,?_⟩,od,l_⟩
 rw[af]
 constructor
 · intro h;exact⟨_,j,List.eq_nil_of_length_eq_zero om⟩
 · rintro ⟨o,h1,h2⟩;rw[j]at h1;cases h1;rw[h2];rfl
theorem MI(F:kU)(hp:Ht)(nx:Nat)(U:ny hp nx F)(hlen:∀r∈F.fL.l,r.gI.l.length=F.iD.l.length+1):WF ex 58 [.agg (iK F).toArray] hp nx (fO nx hp (gk (Xl F))):=by
 refine wd Tryz.f58 17 [.tmp 2] fun hE=>sr<|oB (.agg (iK F).toArray) (iK F) fun jN iY iA=>?_
 refine oN 1<|WP.seq<|sr<|oX 1 ?_
 obtain⟨aA,aB,al⟩:=U.iD.shape
 have ay:=U.iD.2.2
 refine oZ nx (0+2) (.slice aA (F.iD.l.length) aB) yK iA (by rw[<-al];rfl)<|oX 1<|ov 7 (iN (.ofNat (F.iD.l.length+1))) ?_ (fun _ _ _=>by rw[<-gU (show F.iD.l.length+1<9223372036854775808 by omega)];kernel_rfl)
 refine oN 1<|WP.block ?_
 refine my [1,7,8] (fun m hs ns vs=>∃(gZ:Nat),gZ+m=(F.iD.l.length+1)/\vs=[pt nx 0,iN (.ofNat (F.iD.l.length+1)),iN (.ofNat gZ)]/\nx+1<=ns/\HE (nx+1) jN hs/\(∀j,j<gZ->¬wP F j)) ?_ ((F.iD.l.length+1)) ?_
 ·
  rintro EL aC C _ ⟨gZ,ax,rfl,ai,J,af⟩ By
  have aa:=(hE.trans iY).trans J
  refine sr ?_
  refine oq 9 (kV gZ (F.iD.l.length+1)) fun aE ar=>WO.nil<|WP.seq<|cq ar (fun aw=>?_) (fun aw=>?_)
  ·
   refine WP.skip<|WP.seq<|WP.block<|sr<|oX 1<|oA [iN 0] Ay fun aD R ag=>?_
   refine oS C (0) (iN (.ofNat gZ)) [iN (.ofNat gZ)] [iN (.ofNat gZ)] kj rfl rfl ag fun ak ab ah aj=>?_
   have I:=(aa.trans R).trans ab
   refine WO.nil<|sr<|oX 1 ?_
   obtain⟨a44,an,ad⟩:=U.fL.1.shape
   have az:=U.fL.1.2.2
   refine oZ nx (0+3) (.slice a44 (F.fL.l.length) an) qh ((aj nx om).trans (R.get (J.get iA))) (by rw[<-ad];rfl)<|oX 1<|WO.cons (WC.call 14 61 ([F.fL.v,.func (.func 112) #[] #[pt C 0]]) (fun _ _ _=>by(try rw[ad]);kernel_rfl) ((A7 (A:=fun x=>∃o,x.gI.l[gZ]?=some o/\o.l=[]) F.fL 112 #[pt C 0] ak (C+1) (U.fL.mono (fun _ h he hn=>h.mono he hn) I) (fun i x hx fe fg hn he=>MH x (gZ) C fe fg (((U.fL.2 x (List.mem_of_getElem? hx)).mono I).mono he hn) (he.get ah) (Nat.lt_of_lt_of_le (Nat.lt_succ_self (C)) hn) (by have:=hlen x (List.mem_of_getElem? hx);omega))).mono ?_))
   rintro _ qq pd ⟨⟨aF,rfl,au⟩,Dh,oO⟩
   refine oq 15 (nN au) fun aG av=>WO.nil<|cq av (fun ae=>?_) (fun ae=>?_)
   ·
    refine sr<|oW 1 ⟨rfl,rfl,[.bool true],kr,?_⟩
    refine⟨⟨true,rfl,⟨fun _=>?_,fun _=>rfl⟩⟩,od,(I.trans oO)⟩
    refine⟨gZ,om,fun r hr=>?_⟩
    have hl:=hlen r hr
    obtain⟨o,ao⟩:∃o,r.gI.l[gZ]?=some o:=⟨_,List.getElem?_eq_getElem om⟩
    exact⟨o,ao,fun h0=>ae ⟨r,hr,o,ao,h0⟩⟩
   ·
    refine WP.skip<|WP.region<|ov 16 (iN (.ofNat (gZ+1))) ?_ (fun _ _ _=>by rw[<-gU (show gZ+1<9223372036854775808 by omega)];kernel_rfl)
    refine oN 1<|⟨(F.iD.l.length+1)-(gZ+1),om,rfl,rfl,gZ+1,om,kr,?_,?_,?_⟩
    · exact od
    · exact(((J.trans R ai).trans ab).trans oO)
    · intro j hj
      rcases Nat.lt_succ_iff_lt_or_eq.1 hj with hj|rfl
      · exact af j hj
      · intro fe
        obtain⟨x,hx,o,h1,h2⟩:=Classical.not_not.1 ae
        obtain⟨o',h3,h4⟩:=fe x hx
        rw[h1]at h3;cases h3;exact h4 h2
  ·
   refine WP.exit<|sr<|oW 1 ⟨rfl,rfl,[.bool false],kr,?_⟩
   refine⟨⟨false,rfl,⟨fun h=>(by cases h),fun aq=>False.elim ?_⟩⟩,od,aa⟩
   obtain⟨w,h1,h2⟩:=aq
   exact af w om h2
 ·
  exact⟨0,om,kr,Nat.le_refl _,HE.refl _ _,(fun _ h=>absurd h (Nat.not_lt_zero _))⟩
theorem TR(x:i_)(j:Int)(b:Nat)(hp:Ht)(nx:Nat)(hx:mw hp nx x)(hb:hp.get b=some (.cells [iN j] gl.plain))(jz:b<nx):WF ex 35 [.agg (je x).toArray,pt b 0] hp nx (fO nx hp (gk (x.mR=j))):=by
 refine wd Tryz.f35 8 [.tmp 3] fun hE=>sr<|oB (.agg (je x).toArray) (je x) fun jN iY iA=>?_
 refine oN 1<|sr<|oX 1<|oZ nx 0 (iN x.mR) fP iA rfl<|oZ b (0) (iN j) fP (iY.get hb jz) rfl ?_
 refine oq 7 (qp x.mR j) fun o C=>oW 1 ⟨rfl,rfl,[.bool o],kr,?_⟩
 refine⟨⟨o,rfl,?_⟩,od,(hE.trans iY)⟩
 exact C
theorem TS(F:kU)(j:Int)(hp:Ht)(nx:Nat)(R:ny hp nx F):WF ex 11 [.agg (iK F).toArray,iN j] hp nx (fO nx hp (Ym F j)):=by
 refine wd Tryz.f11 14 [.tmp 4,.tmp 5] fun hE=>sr<|oB (.agg (iK F).toArray) (iK F) fun jN iY iA=>?_
 refine oB (iN j) [iN j] fun ag I ab=>?_
 have o:=(hE.trans iY).trans I
 refine oN 2<|sr<|oX 1 ?_
 obtain⟨a17,af,J⟩:=R.fL.1.shape
 have ah:=R.fL.1.2.2
 refine oZ nx (0+3) (.slice a17 (F.fL.l.length) af) qh (I.get iA) (by rw[<-J];rfl)<|oX 1<|WO.cons (WC.call 9 34 ([F.fL.v,.func (.func 35) #[] #[pt (nx+1) 0]]) (fun _ _ _=>by(try rw[J]);kernel_rfl) ((DQ (A:=fun x=>x.mR=(j)) F.fL 35 #[pt (nx+1) 0] ag (nx+1+1) (R.fL.mono (fun _ h he hn=>h.mono he hn) o) (fun i x hx fe fg hn he=>TR x (j) (nx+1) fe fg (((R.fL.2 x (List.mem_of_getElem? hx)).mono o).mono he hn) (he.get ab) (Nat.lt_of_lt_of_le (Nat.lt_succ_self (nx+1)) hn))).mono ?_))
 rintro al aj ak ⟨U,ai,ad⟩
 obtain⟨z24,rfl,ae⟩:=pM.num U
 refine oN 1<|sr<|oX 3 ?_
 refine oq 13 (qo 0 z24) fun C aa=>oW 2 ⟨rfl,rfl,[iN ((bif ru (z24) (0)then(0)else(z24))),.bool C],kr,?_⟩
 refine⟨⟨_,_,rfl,?_⟩,od,(o.trans ad)⟩
 rcases ae with⟨rfl,h⟩|⟨i,x,rfl,h1,h2,h3⟩
 · have:C=false:=Bool.eq_false_iff.2 fun k=>by have:=(aa).1 k;omega
   exact .inl ⟨rfl,this,h⟩
 · have:C=true:=(aa).2 (Int.natCast_nonneg i)
   exact .inr ⟨i,x,rfl,this,h1,h2,h3⟩
theorem Xo{p:Prop}(h:p:=by
 refine F7 mn fun hE=>sr<|oN 1<|WP.seq<|sr<|oX 1 ?_
 refine oq 6 (AW n 0) fun c1 p1=>WO.nil<|WP.cond c1 kr (fun h2=>?_) (fun h2=>?_)
 ·
  have q3:=(p1).1 h2
  exact absurd q3 om
 ·
  have q3:=nq p1 h2
  refine WP.skip<|WP.seq<|sr<|ov 8 (iN (.ofNat n))<|ov 9 (.slice none (0) 0)<|ov 10 (iN (.ofNat (0)))<|ov 11 (.slice none (0) 0)<|ov 12 (iN (.ofNat (0)))<|ov 13 (iN (.ofNat 0))<|ov 14 (iN (gD .i64 (.ofNat n-.ofNat 0))) ?_
  rw[show gD .i64 (.ofNat n-.ofNat 0)=.ofNat n from wrapN (n:=n) om]
  refine oN 1<|sr<|oX 1 ?_
  refine oq 16 (nc 0 n) fun c4 p4=>WO.nil<|cq p4 (fun q6=>?_) (fun q6=>?_)
  ·
   refine WP.region<|oX 5 ?_
   obtain⟨inf,pa,uY⟩:=mZ
   have P9:0<n:=by omega
   refine WO.cons (WC.Mk 22 (jZ ex.T hp.get pc 3 (.slice none 0 0) (iN (.ofNat n)) nx) rfl kf (KJ oU sO RI pa (TK om) P9 (by rfl) uY om) ?_)
   generalize YX:jg _ _=Xp
   have Jm:Rm nx YY n Xp (nx+2) (.slice (some ⟨nx+1,0,none⟩) 0 n) 0 []:=by rw[<-YX];exact Rm.fresh P9 rfl
   have Z3:HE nx hp Xp:=by rw[<-YX];exact Rm.VN
   refine oX 2<|WO.cons (WC.opt (v:=.slice (some ⟨nx+1,0,none⟩) (0) n) 25 (sy ex.T Xp.get pc (.slice (some ⟨nx+1,0,none⟩) (n) n) none (some (iN (.ofNat 0))) none) kf (by cases Jm with|room h0 hb hg jG h1 h2 h3 h4 hl hr hle=>exact N7 oU sO hb nR)<|oN 1<|sr<|oW 2 ⟨rfl,rfl,[.slice (some ⟨nx+1,0,none⟩) (0) n],kr,?_⟩)
   exact⟨Jm,od,(hE.trans Z3)⟩
  ·
   refine WP.skip<|sr<|oW 2 ⟨rfl,rfl,[.slice none (0) 0],kr,?_⟩
   exact⟨.nil om,nR,hE⟩):p:=h
theorem VU(n:Nat)(hp:Ht)(nx:Nat)(hn:n<=60):WF ex 110 [.slice none (0) 0,iN (.ofNat n)] hp nx (fun v fe fg=>Rm nx 4 n fe fg v 0 []/\nx<=fg/\HE nx hp fe):=by
 have mn:=fF (e:=ex) 110 Tryz.f110 27 [.tmp 4]
 have mZ:=@O0
 have oU:=@Dg
 have sO:=@nP
 have RI:=@zi
 let pc:=(117:Nat)
 let YY:=(4:Nat)
 exact Xo
theorem RJ(W:SV (SV jL))(hp:Ht)(nx:Nat)(J:jt lG 1 (fun hp nx y=>gA ie 4 hp nx y) hp nx W)(hs:(W.l.map (fun o=>o.l.length)).sum<=60):WF ex 56 [W.v] hp nx (fun v fe fg=>Yn W v fe fg/\nx<=fg/\HE nx hp fe):=by
 obtain⟨a1,c2,hR⟩:=J.1.shape
 have lW:=J.1.2.2
 rw[hR]
 refine wd Tryz.f56 36 [.tmp 2] fun hE=>sr<|oN 1<|sr<|oN 1<|WP.seq<|sr<|oN 3<|WP.block ?_
 refine my [0,3,9,10,11] (fun m hs ns vs=>∃(fV:Nat) (I:Nat),fV+m=W.l.length/\vs=[.slice a1 (W.l.length) c2,iN (.ofNat I),.slice a1 (W.l.length) c2,iN (.ofNat (W.l.length)),iN (.ofNat fV)]/\nx<=ns/\HE (nx) hp hs/\(I=((W.l.take fV).map (fun o=>o.l.length)).sum)) ?_ (W.l.length) ?_
 ·
  rintro xn pT ja _ ⟨fV,I,tP,rfl,oe,jm,af⟩ tQ
  have j2:=hE.trans jm
  have an:=Nat.le_trans nR oe
  have aM:I<=60:=by rw[af,List.map_take];exact Nat.le_trans (wL _ _) hs
  refine sr ?_
  refine oq 12 (kV fV W.l.length) fun nC rH=>WO.nil<|WP.seq<|cq rH (fun wQ=>?_) (fun wQ=>?_)
  ·
   refine WP.skip<|WP.seq<|WP.block<|sr ?_
   have mY:fV<W.l.length:=by omega
   refine WO.cons (WC.iy hR J.1 (fV) w8 vo (mY) ?_)
   obtain⟨lu,ku⟩:=gE mY
   obtain⟨aq,xW,al⟩:=(J.2 lu (List.mem_of_getElem? ku)).shape
   have aA:=(J.2 lu (List.mem_of_getElem? ku)).2.2
   refine WO.cons (WC.lz (.slice aq (lu.l.length) xW) hR (J.1.mono j2 nR) ku (by rw[<-al];rfl) w6<|oN 1<|sr<|oX 3<|ov 18 (iN (.ofNat (I+lu.l.length))) ?_ (fun _ _ _=>by rw[<-gU (show I+lu.l.length<9223372036854775808 by omega)];kernel_rfl))
   refine oN 1<|sr<|oX 1 ?_
   refine oq 20 (AW (I+lu.l.length) 0) fun aK aw=>WO.nil<|cq aw (fun ag=>?_) (fun ag=>?_)
   ·
    exact absurd ag om
   ·
    refine WP.skip<|WP.region<|ov 22 (iN (.ofNat (fV+1))) ?_ (fun _ _ _=>by rw[<-gU (show fV+1<9223372036854775808 by omega)];kernel_rfl)
    refine oN 1<|⟨W.l.length-(fV+1),om,rfl,rfl,fV+1,I+lu.l.length,om,kr,?_,?_,?_⟩
    · exact oe
    · exact jm
    · rw[List.take_add_one,List.map_append,List.sum_append,ku]
      simp only[Option.toList_some,List.map_cons,List.map_nil,List.sum_cons,List.sum_nil]
      omega
  ·
   refine WP.exit<|sr<|oX 1<|WO.cons (WC.call 24 110 ([.slice none 0 0,iN (.ofNat I)]) kf ((VU (I) pT (ja) om).mono ?_))
   rintro aI aE ao ⟨Jm,aD,ah⟩
   have aj:=Jm.le an
   refine oN 1<|WP.seq<|sr<|oN 3<|WP.block ?_
   have au:I=(W.l.map (fun o=>o.l.length)).sum:=by rw[af,List.take_of_length_le om]
   refine my [6,25,26,27] (fun m hs ns vs=>∃(j:Nat) (ae:Value),j+m=W.l.length/\vs=[ae,.slice a1 (W.l.length) c2,iN (.ofNat (W.l.length)),iN (.ofNat j)]/\ao<=ns/\HE nx hp hs/\(Rm nx 4 I hs ns ae (((W.l.take j).map (fun o=>o.l.length)).sum) ((W.l.take j).flatMap (fun o=>o.l.flatMap ie)))) ?_ (W.l.length) ?_
   ·
    rintro aG aF aH _ ⟨j,ae,az,rfl,ai,R,ab⟩ aC
    refine sr ?_
    refine oq 28 (kV j W.l.length) fun aL ax=>WO.nil<|WP.seq<|cq ax (fun ay=>?_) (fun ay=>?_)
    ·
     refine WP.skip<|WP.seq<|WP.block<|sr ?_
     have aa:j<W.l.length:=by omega
     refine WO.cons (WC.iy hR J.1 (j) w8 vo (aa) ?_)
     obtain⟨U,C⟩:=gE aa
     obtain⟨a45,ar,ad⟩:=(J.2 U (List.mem_of_getElem? C)).shape
     have aB:=(J.2 U (List.mem_of_getElem? C)).2.2
     refine WO.cons (WC.lz (.slice a45 (U.l.length) ar) hR (J.1.mono R nR) C (by rw[<-ad];rfl) w6<|oN 1<|WP.region<|oX 2 ?_)
     obtain⟨inf,pa,uY⟩:=O0
     have av:((W.l.take j).map (fun o=>o.l.length)).sum+U.l.length<=I:=by
      have:=wL (W.l.map (fun o=>o.l.length)) (j+1)
      rw[<-List.map_take,List.take_add_one,List.map_append,List.sum_append,C]at this
      simp only[Option.toList_some,List.map_cons,List.map_nil,List.sum_cons,List.sum_nil]at this
      omega
     refine WO.cons (WC.OU (m:=U.l.length) rfl kr kr ab Dg nP zi pa VS (((J.2 U (List.mem_of_getElem? C)).mono R nR).src ad) rfl (nm _ ((J.2 U (List.mem_of_getElem? C)).mono R nR).1) (by simp[List.all_flatMap,ie,vW,yB]) (by decide) av uY om rfl ?_)
     rintro aJ aN heq ak
     refine oN 1<|WP.region<|ov 34 (iN (.ofNat (j+1))) ?_ (fun _ _ _=>by rw[<-gU (show j+1<9223372036854775808 by omega)];kernel_rfl)
     refine oN 1<|⟨W.l.length-(j+1),om,rfl,rfl,j+1,aJ,om,kr,?_,?_,?_⟩
     · exact ai
     · exact(R.trans heq)
     · rw[List.take_add_one,C,List.map_append,List.sum_append,List.flatMap_append]
       simpa using ak
    ·
     refine WP.exit<|sr<|oW 2 ⟨rfl,rfl,[ae],kr,?_⟩
     refine⟨⟨⟨ae,W.l.flatMap (·.l)⟩,rfl,rfl,?_⟩,od,R⟩
     have hT:W.l.take j=W.l:=List.take_of_length_le om
     rw[hT]at ab
     exact ab.ok au.symm (by rw[List.flatMap_assoc]) (by rw[List.length_flatMap,au]) (fun x _=>rfl) om
   ·
    exact⟨0,aI,om,kr,Nat.le_refl _,(j2.trans ah),(by simpa using aj)⟩
 ·
  exact⟨0,0,om,kr,Nat.le_refl _,HE.refl _ _,(by simp)⟩
theorem KM(F:kU)(hp:Ht)(nx:Nat)(ah:ny hp nx F)(hw:∀r∈F.fL.l,GS r<=60):WF ex 25 [.agg (iK F).toArray] hp nx (fO nx hp (Ml 240 (tA F))):=by
 refine wd Tryz.f25 136 [.tmp 2] fun hE=>sr<|oB (.agg (iK F).toArray) (iK F) fun jN iY iA=>?_
 have l_:=hE.trans iY
 refine oN 1<|WP.seq<|sr<|oX 1<|WO.cons (WC.jb nx 0 (jE F.jv) kr yJ w7 iA rfl<|WO.cons (WC.call 13 55 ([.agg (jE F.jv).toArray]) kf ((Cz F.jv jN (nx+1) (ah.jv.mono l_)).mono ?_)))
 rintro _ ep ay ⟨⟨z12,rfl,b7,dT⟩,dU,b0⟩
 have bW:=l_.trans b0
 have aT:=b0.get iA
 refine oq 14 (qW z12 0) fun bA c7=>oX 1<|gF 15 bA (pt nx (0+2)) ?_
 obtain⟨aL,aN,aA⟩:=ah.iD.shape
 have dF:=ah.iD.2.2
 refine pj 15 bA nx (0+2) (.slice aL (F.iD.l.length) aN) yK aT (by rw[<-aA];rfl)<|gF 15 bA (iN (.ofNat (F.iD.l.length))) ?_
 refine mX 15 bA (nc 16 F.iD.l.length) fun sk vp=>?_
 refine mj 20 (nO c7 vp) fun bB c8=>oX 1<|gF 21 bB (pt nx (0+3)) ?_
 obtain⟨a23,uB,al⟩:=ah.fL.1.shape
 have dG:=ah.fL.1.2.2
 refine pj 21 bB nx (0+3) (.slice a23 (F.fL.l.length) uB) qh aT (by rw[<-al];rfl)<|gF 21 bB (iN (.ofNat (F.fL.l.length))) ?_
 refine mX 21 bB (AW F.fL.l.length 1) fun ee c9=>?_
 refine mj 26 (nO c8 c9) fun bC c_=>oX 1<|gF 27 bC (pt nx (0+3))<|pj 27 bC nx (0+3) (.slice a23 (F.fL.l.length) uB) qh aT (by rw[<-al];rfl)<|gF 27 bC (iN (.ofNat (F.fL.l.length))) ?_
 refine mX 27 bC (nc 4000 F.fL.l.length) fun ef da=>?_
 refine mj 32 (nO c_ da) fun eg db=>WO.nil<|cq db (fun b9=>?_) (fun b9=>?_)
 ·
  refine sr<|oW 1 ⟨rfl,rfl,[iN 240],kr,?_⟩
  refine⟨⟨240,rfl,⟨fun h=>absurd h (by decide),fun av=>?_⟩,.inr rfl⟩,od,bW⟩
  rcases b9 with((az|az)|az)|az
  · exact absurd ((b7).2 av.YW) az
  · have:=av.np;omega
  · have:=av.nr;omega
  · have:=av.Z2;omega
 ·
  refine WP.skip<|sr<|oA [iN 0,iN 0] MD fun dW b3 cx=>?_
  have bY:=b3.get aT
  refine WO.nil<|WP.seq<|sr<|oX 1<|oZ nx (0+2) (.slice aL (F.iD.l.length) aN) yK bY (by rw[<-aA];rfl)<|oN 2<|WP.block ?_
  have bZ:vm F.jv:=(b7).1 (Classical.not_not.1 fun k=>b9 (.inl (.inl (.inl k))))
  refine my [1,3,34,35,36] (fun m hs ns vs=>∃(ag:Nat) (aO:Ac),ag+m=F.iD.l.length/\vs=[pt nx 0,pt ay 0,.slice aL (F.iD.l.length) aN,iN (.ofNat (F.iD.l.length)),iN (.ofNat ag)]/\ay+1<=ns/\HE nx hp hs/\hs.get nx=some (.cells (iK F) gl.plain)/\hs.get ay=some (.cells (sW aO) gl.plain)/\(∀(j:Nat) (p:Ac),j<ag->F.iD.l[j]?=some p->(1<=p.fA/\p.fA<p.fB/\p.fB<=9999)/\(0<j->∀q,F.iD.l[j-1]?=some q->q.fA<p.fA\/(q.fA=p.fA/\q.fB<p.fB)))/\((ag=0->aO=⟨0,0⟩)/\(0<ag->∀q,F.iD.l[ag-1]?=some q->aO=q))) ?_ (F.iD.l.length) ?_
  ·
   rintro d_ cE ad _ ⟨ag,aO,dw,rfl,dV,bs,bu,cF,bM,aZ⟩ dL
   refine sr ?_
   refine oq 37 (kV ag F.iD.l.length) fun eh dc=>WO.nil<|WP.seq<|cq dc (fun dt=>?_) (fun dt=>?_)
   ·
    refine WP.skip<|WP.seq<|WP.block<|sr ?_
    have bK:ag<F.iD.l.length:=by omega
    refine WO.cons (WC.iy aA ah.iD (ag) VT A5 (bK) ?_)
    obtain⟨ae,bd⟩:=gE bK
    refine WO.cons (WC.ly aA (ah.iD.mono bs nR) bd O1 A5<|oA [iN 0,iN 0] MD fun dX bt cy=>?_)
    refine oS ad (0) (.agg (sW ae).toArray) (sW ae) (sW ae) A5 rfl rfl cy fun dY cA aw b4=>?_
    have bX:=(bs.trans bt).trans cA
    have aU:=(b4 ay om).trans (bt.get cF)
    refine WO.nil<|WP.seq<|sr<|oX 1<|oZ ad 0 (iN ae.fA) fP aw rfl ?_
    refine oq 42 (nz ae.fA 1) fun bj dd=>oX 1<|gF 43 bj (pt ad 0)<|pj 43 bj ad 0 (iN ae.fA) fP aw rfl<|gF 43 bj (pt ad (0+1))<|pj 43 bj ad (0+1) (iN ae.fB) fP aw rfl ?_
    refine mX 43 bj (qo ae.fB ae.fA) fun ei de=>?_
    refine mj 49 (nO dd de) fun bO df=>oX 1<|gF 50 bO (pt ad (0+1))<|pj 50 bO ad (0+1) (iN ae.fB) fP aw rfl ?_
    refine mX 50 bO (nz 9999 ae.fB) fun ej dg=>?_
    refine mj 54 (nO df dg) fun bk dh=>oX 1<|gF 55 bk (pt ad 0)<|pj 55 bk ad 0 (iN ae.fA) fP aw rfl<|gF 55 bk (pt ay 0)<|pj 55 bk ay 0 (iN aO.fA) fP aU rfl ?_
    refine mX 55 bk (nz ae.fA aO.fA) fun en di=>?_
    refine mj 61 (nO dh di) fun af dj=>oX 1<|gF 62 af (pt ad 0)<|pj 62 af ad 0 (iN ae.fA) fP aw rfl<|gF 62 af (pt ay 0)<|pj 62 af ay 0 (iN aO.fA) fP aU rfl ?_
    refine mX 62 af (qp ae.fA aO.fA) fun ai dm=>gF 62 af (.bool ai)<|og 68 (!af&&ai) (pt ad (0+1)) ((bif !af then .bool ai else undef)) (by cases af<;>cases ai<;>rfl) (fun h=>by obtain⟨rfl,rfl⟩:=sD h;exact fun _ _ _=>by kernel_rfl) ?_
    refine wq 68 (!af&&ai) (iN ae.fB) ((bif !af then .bool ai else undef)) (by cases af<;>cases ai<;>rfl) (fun h=>by obtain⟨rfl,rfl⟩:=sD h;exact WC.jX ad (0+1) (iN ae.fB) kr fP aw rfl rfl) ?_
    refine og 68 (!af&&ai) (pt ay (0+1)) ((bif !af then .bool ai else undef)) (by cases af<;>cases ai<;>rfl) (fun h=>by obtain⟨rfl,rfl⟩:=sD h;exact fun _ _ _=>by kernel_rfl) ?_
    refine wq 68 (!af&&ai) (iN aO.fB) ((bif !af then .bool ai else undef)) (by cases af<;>cases ai<;>rfl) (fun h=>by obtain⟨rfl,rfl⟩:=sD h;exact WC.jX ay (0+1) (iN aO.fB) kr fP aU rfl rfl) ?_
    obtain⟨cp,cU,dn⟩:=qo ae.fB aO.fB
    refine og 68 (!af&&ai) (.bool cp) ((bif !af then .bool ai else undef)) (by cases af<;>cases ai<;>rfl) (fun h=>by obtain⟨rfl,rfl⟩:=sD h;exact fun _ _ _=>by subst cU;kernel_rfl) ?_
    obtain⟨cr,cV,dp⟩:=nA dm dn
    refine zQ 62 af (.bool cr) (by rintro rfl;exact WC.opt (v:=.bool cr) 74 (lA (.bool ai) ((bif !false&&ai then .bool cp else undef)) (.bool false)) kf (by rw[cV];exact s_ (fun h=>by obtain rfl:ai=true:=h;rfl)) rfl) ?_
    refine mj 75 (nO dj dp) fun eo dq=>WO.nil<|cq dq (fun bq=>?_) (fun bq=>?_)
    ·
     refine sr<|oW 1 ⟨rfl,rfl,[iN 240],kr,?_⟩
     refine⟨⟨240,rfl,⟨fun h=>absurd h (by decide),fun av=>?_⟩,.inr rfl⟩,od,bX⟩
     obtain⟨⟨h1,h2,h3⟩,h4⟩:=av.pair _ _ bd
     rcases Nat.eq_zero_or_pos ag with h0|h0
     · rw[aZ.1 h0]at bq;simp only at bq;omega
     · obtain⟨q,az⟩:∃q,F.iD.l[ag-1]?=some q:=⟨_,List.getElem?_eq_getElem om⟩
       have dS:=h4 h0 _ az
       rw[aZ.2 h0 _ az]at bq;omega
    ·
     refine WP.skip<|WP.region<|WO.cons (WC.jb ad (0) (sW ae) kr O1 A5 aw rfl<|oS ay (0) (.agg (sW ae).toArray) (sW ae) (sW ae) A5 rfl rfl aU fun dZ cB cz cD=>?_)
     refine WO.nil<|WP.region<|ov 77 (iN (.ofNat (ag+1))) ?_ (fun _ _ _=>by rw[<-gU (show ag+1<9223372036854775808 by omega)];kernel_rfl)
     refine oN 1<|⟨F.iD.l.length-(ag+1),om,rfl,rfl,ag+1,ae,om,kr,?_,?_,?_,?_,?_,?_⟩
     · exact od
     · exact(bX.trans cB)
     · exact((cD nx om).trans ((b4 nx om).trans (bt.get bu)))
     · exact cz
     · intro j ea hj hs
       rcases Nat.lt_succ_iff_lt_or_eq.1 hj with hj|rfl
       · exact bM j ea hj hs
       · rw[bd]at hs;cases hs
         refine⟨om,fun h0 eb b6=>?_⟩
         have h3:=aZ.2 h0 _ b6
         rw[h3]at bq;omega
     · refine⟨fun h=>absurd h (Nat.succ_ne_zero _),fun _ q az=>?_⟩
       rw[Nat.add_sub_cancel,bd]at az;cases az;rfl
   ·
    refine WP.exit<|sr<|oN 1<|WP.seq<|sr<|oX 1<|oZ nx (0+3) (.slice a23 (F.fL.l.length) uB) qh bu (by rw[<-al];rfl)<|oN 2<|WP.block ?_
    refine my [1,6,79,80,81] (fun m hs ns vs=>∃(aa:Nat) (bf:Int),aa+m=F.fL.l.length/\vs=[pt nx 0,iN bf,.slice a23 (F.fL.l.length) uB,iN (.ofNat (F.fL.l.length)),iN (.ofNat aa)]/\ad<=ns/\HE (ad) cE hs/\(∀(j:Nat) (r:i_),j<aa->F.fL.l[j]?=some r->(((1<=r.mR/\r.mR<=9999)/\(0<j->∀q,F.fL.l[j-1]?=some q->q.mR<r.mR))/\(∀q,F.fL.l[0]?=some q->r.lj.l.length=q.lj.l.length)/\r.gI.l.length=F.iD.l.length+1)/\∀o∈r.gI.l,∀x∈o.l,vn F.jv x)/\(0<=bf/\(aa=0->bf=0)/\(0<aa->∀q,F.fL.l[aa-1]?=some q->bf=q.mR))) ?_ (F.fL.l.length) ?_
    ·
     rintro dH ck R _ ⟨aa,bf,cX,rfl,cd,aV,a6,bn⟩ du
     have aI:=bs.trans aV
     have bG:=aV.get bu
     refine sr ?_
     refine oq 82 (kV aa F.fL.l.length) fun dN cG=>WO.nil<|WP.seq<|cq cG (fun cQ=>?_) (fun cQ=>?_)
     ·
      refine WP.skip<|WP.seq<|WP.block<|sr ?_
      have bo:aa<F.fL.l.length:=by omega
      refine WO.cons (WC.iy al ah.fL.1 (aa) v_ nh (bo) ?_)
      obtain⟨J,ab⟩:=gE bo
      refine WO.cons (WC.ly al (ah.fL.1.mono aI nR) ab yI nh<|oA [iN 0,.slice none (0) 0,.slice none (0) 0] Bw fun dA aW b_=>?_)
      refine oS R (0) (.agg (je J).toArray) (je J) (je J) nh rfl (Bool.and_eq_true_iff.2 ⟨rfl,wZ _ (ah.fL.2 J (List.mem_of_getElem? ab))⟩) b_ fun ar bH ak ch=>?_
      have ao:=(aI.trans aW).trans bH
      have aB:=(ch nx om).trans (aW.get bG)
      refine WO.nil<|WP.seq<|WP.seq<|WP.sM [⟨[0,1,2,3,4,5,6,7,8,9,10,11,12,13,14,15,16,17,18,19,20,21,22,23,24,25,26,27,28,29,30],[0,1,2,3,4,5,6,7,8,9,10,11,12,13,14,15,16,17,18,19,20,21,22,23,24,25,26,27,28,29,30],none⟩] kr _ rfl<|WD.last<|nv 85 (pt R 0)<|WN.ic rfl (WC.jX R 0 (iN J.mR) kr fP ak rfl<|nv 87 (iN bf) ?_)
      obtain⟨U,bP,cH⟩:=qo J.mR bf
      refine nv 88 (.bool U) ?_ (fun _ _ _=>by subst bP;kernel_rfl)
      refine nv 89 (.bool U)<|ng rfl 89 (!U) (pt R 0) (.bool U) (by cases U<;>rfl) (fun h=>by obtain rfl:=bF h;exact fun _ _ _=>by kernel_rfl) ?_
      refine xP rfl 89 (!U) (iN J.mR) (.bool U) (by cases U<;>rfl) (fun h=>by obtain rfl:=bF h;exact WC.jX R 0 (iN J.mR) kr fP ak rfl rfl) ?_
      obtain⟨aE,bQ,cI⟩:=nz 9999 J.mR
      refine ng rfl 89 (!U) (.bool aE) (.bool U) (by cases U<;>rfl) (fun h=>by obtain rfl:=bF h;exact fun _ _ _=>by subst bQ;kernel_rfl) ?_
      obtain⟨C,bR,b8⟩:=nO cH cI
      refine WN.ic rfl (WC.opt (v:=.bool C) 93 (lA (.bool U) (.bool true) ((bif !U then .bool aE else undef))) kf (by rw[bR];exact lE (fun h=>by obtain rfl:U=false:=h;rfl))<|nv 94 (.bool C)<|ng rfl 94 (!C) (pt R (0+1)) (.bool C) (by cases C<;>rfl) (fun h=>by obtain rfl:=bF h;exact fun _ _ _=>by kernel_rfl) ?_)
      obtain⟨aP,aR,a7⟩:=(ah.fL.2 J (List.mem_of_getElem? ab)).lj.shape
      have cZ:=(ah.fL.2 J (List.mem_of_getElem? ab)).lj.2.2
      refine xP rfl 94 (!C) (.slice aP (J.lj.l.length) aR) (.bool C) (by cases C<;>rfl) (fun h=>by obtain rfl:=bF h;exact WC.jX R (0+1) (.slice aP (J.lj.l.length) aR) kr kq ak (by rw[<-a7];rfl) rfl) ?_
      refine ng rfl 94 (!C) (iN (.ofNat (J.lj.l.length))) (.bool C) (by cases C<;>rfl) (fun h=>by obtain rfl:=bF h;exact fun _ _ _=>by kernel_rfl) ?_
      refine ng rfl 94 (!C) (pt nx (0+3)) (.bool C) (by cases C<;>rfl) (fun h=>by obtain rfl:=bF h;exact fun _ _ _=>by kernel_rfl) ?_
      refine xP rfl 94 (!C) (.slice a23 (F.fL.l.length) uB) (.bool C) (by cases C<;>rfl) (fun h=>by obtain rfl:=bF h;exact WC.jX nx (0+3) (.slice a23 (F.fL.l.length) uB) kr qh aB (by rw[<-al];rfl) rfl) ?_
      have ax:(!C)=true->0<F.fL.l.length:=fun h=>by obtain rfl:C=false:=(by simpa using h);have dr:¬(((J.mR)<=(bf))\/((9999)<(J.mR))):=(fun k=>absurd ((b8).2 k) (by decide));omega
      refine xP rfl 94 (!C) (pt (gb a23) (0+(0)*3)) (.bool C) (by cases C<;>rfl) (fun h=>by obtain rfl:=bF h;exact WC.iy al ah.fL.1 (0) v_ nh ((ax rfl)) rfl) ?_
      refine ng rfl 94 (!C) (pt (gb a23) (0+(0)*3+1)) (.bool C) (by cases C<;>rfl) (fun h=>by obtain rfl:=bF h;exact fun _ _ _=>by kernel_rfl) ?_
      obtain⟨an,au⟩:∃cW,F.fL.l[0]?=some cW:=⟨_,List.getElem?_eq_getElem om⟩
      obtain⟨aQ,aS,a8⟩:=(ah.fL.2 an (List.mem_of_getElem? au)).lj.shape
      have c0:=(ah.fL.2 an (List.mem_of_getElem? au)).lj.2.2
      refine xP rfl 94 (!C) (.slice aQ (an.lj.l.length) aS) (.bool C) (by cases C<;>rfl) (fun h=>by obtain rfl:=bF h;exact WC.sC (gb a23) (0+(0)*3+1) (.slice aQ (an.lj.l.length) aS) kr kq ((ah.fL.1.mono ao nR).pq al (zl ((ax rfl)))) (pF (ah.fL.1.mono ao nR).1 au (by decide) (by rw[<-a8];rfl)) rfl) ?_
      refine ng rfl 94 (!C) (iN (.ofNat (an.lj.l.length))) (.bool C) (by cases C<;>rfl) (fun h=>by obtain rfl:=bF h;exact fun _ _ _=>by kernel_rfl) ?_
      obtain⟨aF,bS,cJ⟩:=Mw J.lj.l.length an.lj.l.length
      refine ng rfl 94 (!C) (.bool aF) (.bool C) (by cases C<;>rfl) (fun h=>by obtain rfl:=bF h;exact fun _ _ _=>by subst bS;kernel_rfl) ?_
      obtain⟨I,bT,bw⟩:=nO b8 cJ
      refine WN.ic rfl (WC.opt (v:=.bool I) 105 (lA (.bool C) (.bool true) ((bif !C then .bool aF else undef))) kf (by rw[bT];exact lE (fun h=>by obtain rfl:C=false:=h;rfl))<|nv 106 (.bool I)<|ng rfl 106 (!I) (pt R (0+2)) (.bool I) (by cases I<;>rfl) (fun h=>by obtain rfl:=bF h;exact fun _ _ _=>by kernel_rfl) ?_)
      obtain⟨aK,aM,aD⟩:=(ah.fL.2 J (List.mem_of_getElem? ab)).gI.1.shape
      have c3:=(ah.fL.2 J (List.mem_of_getElem? ab)).gI.1.2.2
      refine xP rfl 106 (!I) (.slice aK (J.gI.l.length) aM) (.bool I) (by cases I<;>rfl) (fun h=>by obtain rfl:=bF h;exact WC.jX R (0+2) (.slice aK (J.gI.l.length) aM) kr sE ak (by rw[<-aD];rfl) rfl) ?_
      refine ng rfl 106 (!I) (iN (.ofNat (J.gI.l.length))) (.bool I) (by cases I<;>rfl) (fun h=>by obtain rfl:=bF h;exact fun _ _ _=>by kernel_rfl) ?_
      refine ng rfl 106 (!I) (pt nx (0+2)) (.bool I) (by cases I<;>rfl) (fun h=>by obtain rfl:=bF h;exact fun _ _ _=>by kernel_rfl) ?_
      refine xP rfl 106 (!I) (.slice aL (F.iD.l.length) aN) (.bool I) (by cases I<;>rfl) (fun h=>by obtain rfl:=bF h;exact WC.jX nx (0+2) (.slice aL (F.iD.l.length) aN) kr yK aB (by rw[<-aA];rfl) rfl) ?_
      refine ng rfl 106 (!I) (iN (.ofNat (F.iD.l.length))) (.bool I) (by cases I<;>rfl) (fun h=>by obtain rfl:=bF h;exact fun _ _ _=>by kernel_rfl) ?_
      refine ng rfl 106 (!I) (iN (.ofNat (F.iD.l.length+1))) (.bool I) (by cases I<;>rfl) (fun h=>by obtain rfl:=bF h;have dr:=nf bw;exact fun _ _ _=>by rw[<-gU (show F.iD.l.length+1<9223372036854775808 by omega)];kernel_rfl) ?_
      obtain⟨aG,bU,cK⟩:=Mw J.gI.l.length (F.iD.l.length+1)
      refine ng rfl 106 (!I) (.bool aG) (.bool I) (by cases I<;>rfl) (fun h=>by obtain rfl:=bF h;exact fun _ _ _=>by subst bU;kernel_rfl) ?_
      obtain⟨br,bV,cL⟩:=nO bw cK
      refine WN.ic rfl (WC.opt (v:=.bool br) 115 (lA (.bool I) (.bool true) ((bif !I then .bool aG else undef))) kf (by rw[bV];exact lE (fun h=>by obtain rfl:I=false:=h;rfl))<|WN.nil ⟨?_,?_⟩)
      ·
       refine cv (pt R 0) (iW ..)<|qe R 0 (iN J.mR) fP ak rfl (iQ ..)<|ci (bf)<|cv (.bool U) (jd 8 U) ?_ (fun _=>by subst bP;kernel_rfl)
       refine cv (.bool U) (jd 8 U)<|cg rfl 89 (!U) (pt R 0) (.bool U) (by cases U<;>rfl) (fun h=>by obtain rfl:=bF h;exact mW (pt R 0) (fun _=>by kernel_rfl) (iW ..)) ?_
       refine cg rfl 89 (!U) (iN J.mR) (.bool U) (by cases U<;>rfl) (fun h=>by obtain rfl:=bF h;exact r9 (iN J.mR) (kB ex.T ar.get 3 (pt R 0)) (fun _=>by kernel_rfl) (ko fP ak rfl) (iQ ..)) ?_
       refine cg rfl 89 (!U) (.bool aE) (.bool U) (by cases U<;>rfl) (fun h=>by obtain rfl:=bF h;exact mW (.bool aE) (fun _=>by subst bQ;kernel_rfl) (jd 8 aE)) ?_
       refine co (.bool C) (lA (.bool U) (.bool true) ((bif !U then .bool aE else undef))) ((by rw[bR];exact lE (fun h=>by obtain rfl:U=false:=h;rfl))) (jd 8 C)<|cv (.bool C) (jd 8 C)<|cg rfl 94 (!C) (pt R (0+1)) (.bool C) (by cases C<;>rfl) (fun h=>by obtain rfl:=bF h;exact mW (pt R (0+1)) (fun _=>by kernel_rfl) (iW ..)) ?_
       refine cg rfl 94 (!C) (.slice aP (J.lj.l.length) aR) (.bool C) (by cases C<;>rfl) (fun h=>by obtain rfl:=bF h;exact r9 (.slice aP (J.lj.l.length) aR) (kB ex.T ar.get 42 (pt R (0+1))) (fun _=>by kernel_rfl) (ko kq ak (by rw[<-a7];rfl)) (a7▸(ah.fL.2 J (List.mem_of_getElem? ab)).lj.kO 8)) ?_
       refine cg rfl 94 (!C) (iN (.ofNat (J.lj.l.length))) (.bool C) (by cases C<;>rfl) (fun h=>by obtain rfl:=bF h;exact mW (iN (.ofNat (J.lj.l.length))) (fun _=>by kernel_rfl) (iQ ..)) ?_
       refine cg rfl 94 (!C) (pt nx (0+3)) (.bool C) (by cases C<;>rfl) (fun h=>by obtain rfl:=bF h;exact mW (pt nx (0+3)) (fun _=>by kernel_rfl) (iW ..)) ?_
       refine cg rfl 94 (!C) (.slice a23 (F.fL.l.length) uB) (.bool C) (by cases C<;>rfl) (fun h=>by obtain rfl:=bF h;exact r9 (.slice a23 (F.fL.l.length) uB) (kB ex.T ar.get 39 (pt nx (0+3))) (fun _=>by kernel_rfl) (ko qh aB (by rw[<-al];rfl)) (al▸ah.fL.1.kO 8)) ?_
       refine cg rfl 94 (!C) (pt (gb a23) (0+(0)*3)) (.bool C) (by cases C<;>rfl) (fun h=>by obtain rfl:=bF h;exact r9 (pt (gb a23) (0+(0)*3)) (lh ex.T 39 (.slice a23 (F.fL.l.length) uB) (iN (.ofNat (0)))) (fun _=>by kernel_rfl) (oH (k:=.i64) v_ nh ((ah.fL.1.mono ao nR).ue al (zl ((ax rfl)))) ((ax rfl))) (iW ..)) ?_
       refine cg rfl 94 (!C) (pt (gb a23) (0+(0)*3+1)) (.bool C) (by cases C<;>rfl) (fun h=>by obtain rfl:=bF h;exact mW (pt (gb a23) (0+(0)*3+1)) (fun _=>by kernel_rfl) (iW ..)) ?_
       refine cg rfl 94 (!C) (.slice aQ (an.lj.l.length) aS) (.bool C) (by cases C<;>rfl) (fun h=>by obtain rfl:=bF h;exact r9 (.slice aQ (an.lj.l.length) aS) (kB ex.T ar.get 42 (pt (gb a23) (0+(0)*3+1))) (fun _=>by kernel_rfl) (uf kq ((ah.fL.1.mono ao nR).pq al (zl ((ax rfl)))) (pF (ah.fL.1.mono ao nR).1 au (by decide) (by rw[<-a8];rfl))) (a8▸(ah.fL.2 an (List.mem_of_getElem? au)).lj.kO 8)) ?_
       refine cg rfl 94 (!C) (iN (.ofNat (an.lj.l.length))) (.bool C) (by cases C<;>rfl) (fun h=>by obtain rfl:=bF h;exact mW (iN (.ofNat (an.lj.l.length))) (fun _=>by kernel_rfl) (iQ ..)) ?_
       refine cg rfl 94 (!C) (.bool aF) (.bool C) (by cases C<;>rfl) (fun h=>by obtain rfl:=bF h;exact mW (.bool aF) (fun _=>by subst bS;kernel_rfl) (jd 8 aF)) ?_
       refine co (.bool I) (lA (.bool C) (.bool true) ((bif !C then .bool aF else undef))) ((by rw[bT];exact lE (fun h=>by obtain rfl:C=false:=h;rfl))) (jd 8 I)<|cv (.bool I) (jd 8 I)<|cg rfl 106 (!I) (pt R (0+2)) (.bool I) (by cases I<;>rfl) (fun h=>by obtain rfl:=bF h;exact mW (pt R (0+2)) (fun _=>by kernel_rfl) (iW ..)) ?_
       refine cg rfl 106 (!I) (.slice aK (J.gI.l.length) aM) (.bool I) (by cases I<;>rfl) (fun h=>by obtain rfl:=bF h;exact r9 (.slice aK (J.gI.l.length) aM) (kB ex.T ar.get 114 (pt R (0+2))) (fun _=>by kernel_rfl) (ko sE ak (by rw[<-aD];rfl)) (aD▸(ah.fL.2 J (List.mem_of_getElem? ab)).gI.1.kO 8)) ?_
       refine cg rfl 106 (!I) (iN (.ofNat (J.gI.l.length))) (.bool I) (by cases I<;>rfl) (fun h=>by obtain rfl:=bF h;exact mW (iN (.ofNat (J.gI.l.length))) (fun _=>by kernel_rfl) (iQ ..)) ?_
       refine cg rfl 106 (!I) (pt nx (0+2)) (.bool I) (by cases I<;>rfl) (fun h=>by obtain rfl:=bF h;exact mW (pt nx (0+2)) (fun _=>by kernel_rfl) (iW ..)) ?_
       refine cg rfl 106 (!I) (.slice aL (F.iD.l.length) aN) (.bool I) (by cases I<;>rfl) (fun h=>by obtain rfl:=bF h;exact r9 (.slice aL (F.iD.l.length) aN) (kB ex.T ar.get 38 (pt nx (0+2))) (fun _=>by kernel_rfl) (ko yK aB (by rw[<-aA];rfl)) (aA▸ah.iD.kO 8)) ?_
       refine cg rfl 106 (!I) (iN (.ofNat (F.iD.l.length))) (.bool I) (by cases I<;>rfl) (fun h=>by obtain rfl:=bF h;exact mW (iN (.ofNat (F.iD.l.length))) (fun _=>by kernel_rfl) (iQ ..)) ?_
       refine cg rfl 106 (!I) (iN (.ofNat (F.iD.l.length+1))) (.bool I) (by cases I<;>rfl) (fun h=>by obtain rfl:=bF h;have dr:=nf bw;exact mW (iN (.ofNat (F.iD.l.length+1))) (fun _=>by rw[<-gU (show F.iD.l.length+1<9223372036854775808 by omega)];kernel_rfl) (iQ ..)) ?_
       refine cg rfl 106 (!I) (.bool aG) (.bool I) (by cases I<;>rfl) (fun h=>by obtain rfl:=bF h;exact mW (.bool aG) (fun _=>by subst bU;kernel_rfl) (jd 8 aG)) ?_
       refine co (.bool br) (lA (.bool I) (.bool true) ((bif !I then .bool aG else undef))) ((by rw[bV];exact lE (fun h=>by obtain rfl:I=false:=h;rfl))) (jd 8 br) ?_
       exact jh.nil
      refine cq cL (fun cR=>?_) (fun cR=>?_)
      ·
       refine sr<|oW 1 ⟨rfl,rfl,[iN 240],kr,?_⟩
       refine⟨⟨240,rfl,⟨fun h=>absurd h (by decide),fun av=>?_⟩,.inr rfl⟩,od,ao⟩
       obtain⟨⟨h1,h2⟩,h3,h4⟩:=av.run _ _ ab
       have eu:=h3 _ au
       rcases Nat.eq_zero_or_pos aa with h0|h0
       · have:=bn.2.1 h0;omega
       · obtain⟨q,az⟩:∃q,F.fL.l[aa-1]?=some q:=⟨_,List.getElem?_eq_getElem om⟩
         have dS:=h2 h0 _ az
         have et:=bn.2.2 h0 _ az
         omega
      ·
       refine WP.skip<|sr<|oX 1<|oZ R 0 (iN J.mR) fP ak rfl<|oN 1<|sr<|oX 1<|oZ R (0+2) (.slice aK (J.gI.l.length) aM) sE ak (by rw[<-aD];rfl)<|WO.cons (WC.call 120 56 ([J.gI.v]) (fun _ _ _=>by(try rw[aD]);kernel_rfl) ((RJ J.gI ar (R+1) ((ah.fL.2 J (List.mem_of_getElem? ab)).gI.mono (fun _ h he hn=>h.mono he hn) ao) (hw _ (List.mem_of_getElem? ab))).mono ?_))
       rintro dM bL bg ⟨⟨aq,rfl,bl,aJ⟩,dx,aX⟩
       obtain⟨cu,cw,a_⟩:=aJ.shape
       have c5:=aJ.2.2
       rw[a_]
       refine oN 2<|WP.block ?_
       refine my [1,6,79,80,81,120,121,122] (fun m hs ns vs=>∃(aj:Nat),aj+m=aq.l.length/\vs=[pt nx 0,iN J.mR,.slice a23 (F.fL.l.length) uB,iN (.ofNat (F.fL.l.length)),iN (.ofNat aa),.slice cu (aq.l.length) cw,iN (.ofNat (aq.l.length)),iN (.ofNat aj)]/\bg<=ns/\HE (bg) bL hs/\(∀(j:Nat) (x:jL),j<aj->aq.l[j]?=some x->vn F.jv x)) ?_ (aq.l.length) ?_
       ·
        rintro dI dB bh _ ⟨aj,cY,rfl,cf,aC,b5⟩ dv
        have cn:=(HE.refl (bg) bL).trans aC
        refine sr ?_
        refine oq 123 (kV aj aq.l.length) fun dO cM=>WO.nil<|WP.seq<|cq cM (fun cS=>?_) (fun cS=>?_)
        ·
         refine WP.skip<|WP.seq<|WP.block<|sr ?_
         have bp:aj<aq.l.length:=by omega
         refine WO.cons (WC.iy a_ aJ (aj) Dg nP (bp) ?_)
         obtain⟨aH,bc⟩:=gE bp
         refine WO.cons (WC.ly a_ (aJ.mono cn nR) bc uj nP<|oA [.bool false,iN 0,iN 0,iN 0] zi fun dC aY ca=>?_)
         refine oS bh (0) (.agg (ie aH).toArray) (ie aH) (ie aH) nP rfl rfl ca fun cm bI cb cj=>?_
         have bD:=(((ao.trans aX).trans aC).trans aY).trans bI
         refine WO.nil<|sr<|oX 1<|WO.cons (WC.jb nx 0 (jE F.jv) kr yJ w7 ((cj nx om).trans (aY.get (aC.get (aX.get aB)))) rfl<|WO.cons (WC.jb bh (0) (ie aH) kr uj nP cb rfl<|WO.cons (WC.call 129 57 ([.agg (jE F.jv).toArray,.agg (ie aH).toArray]) kf ((Bx F.jv aH cm (bh+1) (ah.jv.mono bD)).mono ?_))))
         rintro _ dD dJ ⟨⟨cT,rfl,bN⟩,dy,bJ⟩
         refine oq 130 (qW cT 0) fun dP cN=>WO.nil<|cq cN (fun bx=>?_) (fun bx=>?_)
         ·
          refine sr<|oW 1 ⟨rfl,rfl,[iN 240],kr,?_⟩
          refine⟨⟨240,rfl,⟨fun h=>absurd h (by decide),fun av=>?_⟩,.inr rfl⟩,od,(bD.trans bJ)⟩
          have hm:=List.mem_of_getElem? bc
          rw[bl,List.mem_flatMap]at hm
          obtain⟨o,cC,c6⟩:=hm
          exact absurd ((bN).2 ⟨bZ,av.out _ _ ab _ cC _ c6⟩) bx
         ·
          refine WP.skip<|WP.region<|ov 131 (iN (.ofNat (aj+1))) ?_ (fun _ _ _=>by rw[<-gU (show aj+1<9223372036854775808 by omega)];kernel_rfl)
          refine oN 1<|⟨aq.l.length-(aj+1),om,rfl,rfl,aj+1,om,kr,?_,?_,?_⟩
          · exact od
          · exact(((aC.trans aY cf).trans bI).trans bJ)
          · intro j x' hj hs
            rcases Nat.lt_succ_iff_lt_or_eq.1 hj with hj|rfl
            · exact b5 j x' hj hs
            · rw[bc]at hs;cases hs
              exact((bN).1 (Classical.not_not.1 bx)).2
        ·
         refine WP.exit<|WP.region<|ov 132 (iN (.ofNat (aa+1))) ?_ (fun _ _ _=>by rw[<-gU (show aa+1<9223372036854775808 by omega)];kernel_rfl)
         refine oN 1<|⟨F.fL.l.length-(aa+1),om,rfl,rfl,aa+1,J.mR,om,kr,?_,?_,?_,?_⟩
         · exact od
         · exact((((aV.trans aW cd).trans bH).trans aX).trans aC)
         · intro j ec hj hs
           rcases Nat.lt_succ_iff_lt_or_eq.1 hj with hj|rfl
           · exact a6 j ec hj hs
           · rw[ab]at hs;cases hs
             refine⟨⟨⟨by have:=bn.1;omega,fun h0 eb b6=>?_⟩,fun ew ct=>?_,om⟩,fun o cC x hx=>?_⟩
             · have h3:=bn.2.2 h0 _ b6
               omega
             · rw[au]at ct;cases ct;omega
             · have hm:x∈aq.l:=by rw[bl,List.mem_flatMap];exact⟨o,cC,hx⟩
               obtain⟨n,hn⟩:=List.getElem?_of_mem hm
               exact b5 n x (by have:=(List.getElem?_eq_some_iff.1 hn).1;omega) hn
         · refine⟨by have:=bn.1;omega,fun h=>absurd h (Nat.succ_ne_zero _),fun _ q az=>?_⟩
           rw[Nat.add_sub_cancel,ab]at az;cases az;rfl
       ·
        exact⟨0,om,kr,Nat.le_refl _,HE.refl _ _,(fun _ _ h=>absurd h (Nat.not_lt_zero _))⟩
     ·
      refine WP.exit<|WP.seq<|sr<|WO.cons (WC.jb nx (0) (iK F) kr vZ uk bG rfl<|WO.cons (WC.call 134 58 ([.agg (iK F).toArray]) kf ((MI F ck (R) (ah.mono aI) (fun r hr=>by obtain⟨j,hj⟩:=List.getElem?_of_mem hr;exact(a6 j r (by have:=(List.getElem?_eq_some_iff.1 hj).1;omega) hj).1.2.2)).mono ?_)))
      rintro _ dE dK ⟨⟨dQ,rfl,cO⟩,dz,cc⟩
      have bE:=aI.trans cc
      refine oq 135 (nN cO) fun dR cP=>WO.nil<|cq cP (fun bz=>?_) (fun bz=>?_)
      ·
       refine sr<|oW 1 ⟨rfl,rfl,[iN 240],kr,?_⟩
       refine⟨⟨240,rfl,⟨fun h=>absurd h (by decide),fun av=>?_⟩,.inr rfl⟩,od,bE⟩
       exact absurd av.Za bz
      ·
       refine WP.skip<|sr<|oW 1 ⟨rfl,rfl,[iN 0],kr,?_⟩
       refine⟨⟨0,rfl,⟨fun _=>?_,fun _=>rfl⟩,.inl rfl⟩,od,bE⟩
       refine⟨bZ,om,om,om,fun j p hp=>bM j p (by have:=(List.getElem?_eq_some_iff.1 hp).1;omega) hp,fun j r hr=>(a6 j r (by have:=(List.getElem?_eq_some_iff.1 hr).1;omega) hr).1,fun j r hr=>(a6 j r (by have:=(List.getElem?_eq_some_iff.1 hr).1;omega) hr).2,Classical.not_not.1 bz⟩
    ·
     exact⟨0,0,om,kr,Nat.le_refl _,HE.refl _ _,(fun _ _ h=>absurd h (Nat.not_lt_zero _)),⟨Int.le_refl _,fun _=>rfl,fun h=>absurd h (Nat.lt_irrefl _)⟩⟩
  ·
   exact⟨0,(⟨0,0⟩:Ac),om,kr,Nat.le_refl _,(bW.trans b3),bY,cx,(fun _ _ h=>absurd h (Nat.not_lt_zero _)),⟨fun _=>rfl,fun h=>absurd h (Nat.lt_irrefl _)⟩⟩
end
end Sw
