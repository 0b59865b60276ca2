/- A part of the proof that the law returns true for every input that its row speaks of. No condition is added. -/
import Derived.Test.YtecbgehgkpgbmaaGreatDoorSwAF
import Derived.Test.YtecbgehgkpgbmaaGreatDoorSwAG
namespace Sw
noncomputable section
open Go Go.Proofs Go.RowKit
set_option maxRecDepth 100000
set_option maxHeartbeats 1600000
def Jw(l:List Int):Value->Prop:=fun v=>(v=Y 0/\∀x∈l,x=0)\/∃(i:Nat) (x:Int),v=Y x/\l[i]?=some x/\x≠0/\∀(j:Nat) (y:Int),j<i->l[j]?=some y->y=0
theorem Jw.two{a b:Int}{v:Value}(h:Jw [a,b] v):v=Y (uV a b):=by
 rcases h with⟨rfl,h⟩|⟨i,x,rfl,h1,D,h3⟩
 · have e:=h a (by simp)
   have hb:=h b (by simp)
   subst e hb;rfl
 · match i,h1 with
   |0,h1=>cases h1;unfold uV;rw[if_pos D]
   |1,h1=>
    cases h1
    have:=h3 0 a om rfl
    subst this;rfl
   |n+2,h1=>simp at h1
def Y9(p s:rX):Prop:=p.i_<s.i_\/(p.i_=s.i_/\p.kl<s.kl)
theorem Po(a b c d:Int):0<=uV (jj a c) (jj b d)↔¬(a<c\/(a=c/\b<d)):=by
 unfold uV jj
 repeat' split
 all_goals omega
def VY(l:List rX)(j:Nat)(s:rX):Prop:=0<=s.i_/\s.i_<40/\0<=s.kl/\s.kl<=255/\(-1099511627776<=s.pQ/\s.pQ<=1099511627776)/\(0<j->∀p,l[j-1]?=some p->Y9 p s)
def VZ(n j:Nat)(r:SV Int):Prop:=r.l.length=n+1/\r.l[j]?=some 0/\∀w∈r.l,¬(w< -2199023255552\/2199023255552<w)
def Lz(K:j8)(i j m:Nat):Prop:=∀(e o:SV Int) (a b c:Int),K.gz.l[i]?=some e->e.l[j]?=some a->K.gz.l[j]?=some o->o.l[m]?=some b->e.l[m]?=some c->c<=gn .i64 (a+b)
structure tQ(K:j8):Prop where
 X5:K.fp.l.length<=511
 V0:K.gz.l.length=K.fp.l.length+1
 Ed:∀(j:Nat) (s:rX),K.fp.l[j]?=some s->VY K.fp.l j s
 row:∀(j:Nat) (r:SV Int),K.gz.l[j]?=some r->VZ K.fp.l.length j r
 tri:∀i j m,Lz K i j m
def uv(K:j8)(x:ja):Prop:=(x.jV=true->x=⟨true,-1,0,0⟩)/\(x.jV=false->-1<=x.lh/\x.lh<(K.fp.l.length:Nat)/\-288230376151711744<=x.g_/\x.g_<=x.gU/\x.gU<=288230376151711744)
def q_(F:ji)(w:Nat):Prop:=∀r∈F.e6.l,∃o,r.fQ.l[w]?=some o/\o.l≠[]
def X6(F:ji):Prop:=∃w,w<=F.gb.l.length/\q_ F w
def Ab(r:ic):Nat:=(r.fQ.l.map (fun o=>o.l.length)).sum
structure V3(F:ji):Prop where
 aaE:F.e6.l.length<=6
 aaX:F.gb.l.length<=3
 each:∀r∈F.e6.l,r.lq.l.length<=8/\r.fQ.l.length<=5/\Ab r<=60
def yp(F:ji)(b:Int)(z:Int)(c:Bool):Prop:=(z=0/\c=false/\∀r∈F.e6.l,r.nl≠b)\/∃(i:Nat) (r:ic),z=.ofNat i/\c=true/\F.e6.l[i]?=some r/\r.nl=b/\∀(j:Nat) (y:ic),j<i->F.e6.l[j]?=some y->y.nl≠b
def Y_(F:ji)(b:Int):Value->Prop:=fun v=>∃z c,v=.tuple ⟨[Y z,.bool c]⟩/\yp F b z c
theorem yp.same{F:ji}{b z p:Int}{c e:Bool}(h:yp F b z c)(u:yp F b p e):z=p/\c=e:=by
 rcases h with⟨rfl,rfl,h⟩|⟨i,r,rfl,rfl,h1,D,h3⟩<;>rcases u with⟨rfl,rfl,k⟩|⟨j,s,rfl,rfl,m,o,y⟩
 · exact⟨rfl,rfl⟩
 · exact absurd o (h s (cs m))
 · exact absurd D (k r (cs h1))
 · rcases Nat.lt_trichotomy i j with q|q|q
   · exact absurd D (y i r q h1)
   · subst q;exact⟨rfl,rfl⟩
   · exact absurd o (h3 j s q m)
structure rY(F:ji):Prop where
 R5:tQ F.fq
 np:F.gb.l.length<=16
 nr:1<=F.e6.l.length
 nr2:F.e6.l.length<=4000
 pair:∀(j:Nat) (p:AB),F.gb.l[j]?=some p->(1<=p.fA/\p.fA<p.fB/\p.fB<=9999)/\(0<j->∀q,F.gb.l[j-1]?=some q->q.fA<p.fA\/(q.fA=p.fA/\q.fB<p.fB))
 run:∀(j:Nat) (r:ic),F.e6.l[j]?=some r->((1<=r.nl/\r.nl<=9999)/\(0<j->∀q,F.e6.l[j-1]?=some q->q.nl<r.nl))/\(∀q,F.e6.l[0]?=some q->r.lq.l.length=q.lq.l.length)/\r.fQ.l.length=F.gb.l.length+1
 out:∀(j:Nat) (r:ic),F.e6.l[j]?=some r->∀o∈r.fQ.l,∀x∈o.l,uv F.fq x
 Jx:X6 F
theorem Pp:∃i,ex.T.kd 153=some i/\i.bytes<=1024:=by
 cases h:ex.T.kd 153 with
 |none=>exact absurd (show(ex.T.kd 153).isSome=true by kernel_rfl) (by rw[h];decide)
 |some i=>
  refine⟨i,rfl,?_⟩
  have:((ex.T.kd 153).map fun i=>Nat.ble i.bytes 1024)=some true:=by kernel_rfl
  rw[h]at this
  exact fa (fS this)
theorem Um{n:Nat}(h:n<2147483648):pE ex.T 3 (Y (.ofNat n))=some (n,true):=by
 have hu:ex.T.jh 3=some (.int .i64):=by kernel_rfl
 have hb:Nat.blt n 2147483648=true:=mE.2 h
 simp only[pE,hu,hb,cond_true]
theorem WE{a:Option Addr}{k c:Nat}:pE ex.T 117 (.slice a k c)=some (k,false):=by
 have hu:ex.T.jh 117=some (.slice 153):=by kernel_rfl
 simp only[pE,hu]
def Za(W:SV (SV ja)):Value->Ht->Nat->Prop:=fun v O G=>∃J:SV ja,v=J.v/\J.l=W.l.flatMap (·.l)/\gx gP 4 O G J
theorem Jy(x y:ja):ya ex.T 12 153 (.agg (gP x).toArray) (.agg (gP y).toArray)=(bif (x.jV==y.jV)then(bif (kC x.lh y.lh)then(bif (kC x.g_ y.g_)then(bif (kC x.gU y.gU)then(some true)else(some false))else(some false))else(some false))else(some false)):=by kernel_rfl
theorem Jz(x y:ja):((x.jV==y.jV)&&(kC x.lh y.lh)&&(kC x.g_ y.g_)&&(kC x.gU y.gU))=true↔x=y:=by
 constructor
 · intro h;cases x;cases y;simp only[Bool.and_eq_true,lJ,beq_iff_eq,qZ]at h;obtain h:=h;simp_all
 · rintro rfl;simp only[Bool.and_eq_true,lJ,beq_iff_eq,qZ,and_self]
theorem JB(x y:ja):ya ex.T 12 153 (.agg (gP x).toArray) (.agg (gP y).toArray)=some ((x.jV==y.jV)&&(kC x.lh y.lh)&&(kC x.g_ y.g_)&&(kC x.gU y.gU)):=by
 rw[Jy]
 (cases(x.jV==y.jV))<;>(cases(kC x.lh y.lh))<;>(cases(kC x.g_ y.g_))<;>(cases(kC x.gU y.gU))<;>rfl
theorem CV(xo yo:Operand)(x y:ja){c:Bool}(e:c=@decide (x=y) (Classical.propDecidable _)):zN ex.T .eql 153 xo yo (.agg (gP x).toArray) (.agg (gP y).toArray)=some (.bool c):=by
 have h1:zN ex.T .eql 153 xo yo (.agg (gP x).toArray) (.agg (gP y).toArray)=(ya ex.T 12 153 (.agg (gP x).toArray) (.agg (gP y).toArray)).map .bool:=by kernel_rfl
 have D:((x.jV==y.jV)&&(kC x.lh y.lh)&&(kC x.g_ y.g_)&&(kC x.gU y.gU))=c:=by rw[e,Bool.eq_iff_iff,Jz];exact(@decide_eq_true_iff _ (Classical.propDecidable _)).symm
 rw[h1,JB,D];rfl
theorem ql:ex.T.agg 114=some false:=U
theorem y6:ex.T.agg 116=some true:=U
theorem tR:ex.T.agg 117=some false:=U
theorem rZ:ex.T.agg 153=some true:=U
theorem Bv:ex.T.agg 255=some true:=U
theorem ft:ex.T.agg 3=some false:=U
theorem y7:ex.T.agg 34=some false:=U
theorem sF:ex.T.agg 35=some false:=U
theorem xK:ex.T.agg 37=some true:=U
theorem xL:ex.T.agg 38=some false:=U
theorem nX:ex.T.agg 39=some false:=U
theorem w8:ex.T.agg 4=some false:=U
theorem pm:ex.T.agg 41=some true:=U
theorem lF:ex.T.agg 42=some false:=U
theorem Pq:ex.T.agg 84=some true:=U
theorem mJ:ex.T.size 116=some 3:=U
theorem sv:ex.T.size 117=some 1:=U
theorem li:ex.T.size 153=some 4:=U
theorem tC:ex.T.size 255=some 3:=U
theorem kp:ex.T.size 3=some 1:=U
theorem vM:ex.T.size 37=some 2:=U
theorem ou:ex.T.size 41=some 4:=U
theorem tS:ex.T.size 42=some 1:=U
theorem Bw:ex.T.size 84=some 2:=U
theorem tT:ex.T.jh 114=some (.slice 117):=U
theorem y8:ex.T.jh 117=some (.slice 153):=U
theorem JC:ex.T.jh 34=some (.slice 255):=U
theorem u_:ex.T.jh 35=some (.slice 42):=U
theorem WG:ex.T.jh 38=some (.slice 84):=U
theorem uh:ex.T.jh 39=some (.slice 116):=U
theorem lG:ex.T.jh 42=some (.slice 3):=U
theorem BS:ex.T.zero 116=some (.agg ⟨[Y 0,.slice none (0) 0,.slice none (0) 0]⟩):=U
theorem uw:ex.T.zero 153=some (.agg ⟨[.bool false,Y 0,Y 0,Y 0]⟩):=U
theorem R6:ex.T.zero 255=some (.agg ⟨[Y 0,Y 0,Y 0]⟩):=U
theorem AV:ex.T.zero 3=some (Y 0):=U
theorem MW:ex.T.zero 84=some (.agg ⟨[Y 0,Y 0]⟩):=U
theorem R7(x:Int)(O:Ht)(G:Nat):WF ex 106 [Y x] O G (fG G O (ga (-1099511627776<=x/\x<=1099511627776))):=by
 refine wd Tryz.f106 9 [.tmp 2] fun hE=>sr<|oN 1<|sr<|oX 1 ?_
 obtain⟨c1,e1,p1⟩:=pF (-1099511627776) x
 refine ob 4 e1<|oX 1<|gT 5 c1 (Y x) ?_
 obtain⟨c2,e2,e⟩:=pF x 1099511627776
 refine RV 5 c1 e2 ?_
 obtain⟨b,e3,j⟩:=nA p1 e
 refine pA 8 e3<|oW 1 ⟨rfl,rfl,[.bool b],U,?_⟩
 refine⟨⟨b,rfl,?_⟩,nR,hE⟩
 exact j
theorem Iu(x:Int)(O:Ht)(G:Nat):WF ex 109 [Y x] O G (fG G O (ga (x< -2199023255552\/2199023255552<x))):=by
 refine wd Tryz.f109 9 [.tmp 2] fun hE=>sr<|oN 1<|sr<|oX 1 ?_
 refine oq 4 (mr x (-2199023255552)) fun c1 p1=>oX 1<|gF 5 c1 (Y x) ?_
 refine nm 5 c1 (mr 2199023255552 x) fun c2 e=>?_
 refine mz 8 (nO p1 e) fun b j=>oW 1 ⟨rfl,rfl,[.bool b],U,?_⟩
 refine⟨⟨b,rfl,?_⟩,nR,hE⟩
 exact j
theorem K7{A:Int->Prop}(K:SV Int)(f:FuncId)(b:Array Value)(O:Ht)(G:Nat)(hK:gx encI 1 O G K)(hf:∀(i:Nat) (x:Int),K.l[i]?=some x->∀(eZ:Ht) (e5:Nat),G<=e5->HE G O eZ->WF ex f ((Y x)::b.toList) eZ e5 (fG e5 eZ (ga (A x)))):WF ex 207 [K.v,.func (.func f) #[] b] O G (fG G O (pW K.l A)):=by
 obtain⟨a1,c2,hR⟩:=hK.shape
 have lU:=hK.2.2
 rw[hR]
 refine wd Tryz.f207 19 [.tmp 4] fun hE=>sr<|oN 1<|WP.seq<|sr<|oN 3<|WP.block ?_
 refine mg [0,1,7,8] (fun m hs ns vs=>∃(fR:Nat),fR+m=K.l.length/\vs=[.slice a1 (K.l.length) c2,.func (.func f) #[] b,Y (.ofNat (K.l.length)),Y (.ofNat fR)]/\G<=ns/\HE (G) O hs/\(∀(j:Nat) (y:Int),j<fR->K.l[j]?=some y->¬A y)) ?_ (K.l.length) ?_
 ·
  rintro xM p_ iY _ ⟨fR,ui,rfl,oF,jl,hinv⟩ uj
  have j2:=hE.trans jl
  refine sr ?_
  refine oq 9 (kL fR K.l.length) fun nu rM=>WO.nil<|WP.seq<|cq rM (fun w9=>?_) (fun w9=>?_)
  ·
   refine WP.skip<|WP.seq<|WP.block<|sr<|oN 2<|sr<|oX 3 ?_
   have nz:fR<K.l.length:=by omega
   refine WO.cons (WC.iy hR hK (fR) lG kp (nz) ?_)
   obtain⟨lv,kB⟩:=gE nz
   refine WO.cons (WC.lz (Y lv) hR (hK.mono j2 nR) kB rfl ft<|WO.cons (WC.call 16 f ((Y lv)::b.toList) kf ((hf fR lv kB p_ (iY) om j2).mono ?_)))
   rintro _ JD Un ⟨⟨Fa,rfl,CW⟩,Uo,uk⟩
   refine WO.nil<|cq CW (fun wJ=>?_) (fun wJ=>?_)
   ·
    refine sr<|oW 2 ⟨rfl,rfl,[Y (.ofNat fR)],U,?_⟩
    exact⟨.inr ⟨fR,lv,rfl,kB,wJ,hinv⟩,od,(j2.trans uk)⟩
   ·
    refine WP.skip<|WP.region<|ov 18 (Y (.ofNat (fR+1))) ?_ (fun _ _ _=>by rw[<-gM (show fR+1<9223372036854775808 by omega)];kernel_rfl)
    refine oN 1<|⟨K.l.length-(fR+1),om,rfl,rfl,fR+1,om,U,?_,?_,?_⟩
    · exact od
    · exact(jl.trans uk oF)
    · intro j y hj hy;rcases fo.1 hj with hj|rfl;exact hinv j y hj hy;rw[kB]at hy;cases hy;exact wJ
  ·
   refine WP.exit<|sr<|oW 1 ⟨rfl,rfl,[Y (-1)],U,?_⟩
   refine⟨.inl ⟨rfl,fun y hy=>?_⟩,od,j2⟩
   obtain⟨j,hj⟩:=fJ hy
   exact hinv j y (by have:=(fe.1 hj).1;omega) hj
 ·
  exact⟨0,om,U,e9 _,HE.refl _ _,(fun j y h=>absurd h (fz _))⟩
theorem Fb{p:Prop}(h:p:=by
 obtain⟨a1,c2,hR⟩:=hK.shape
 have lU:=hK.2.2
 rw[hR]
 refine Gr mC fun hE=>sr<|oN 1<|sr<|oX 2<|WO.cons (WC.call 7 _ ([K.v,.func (.func f) #[] b]) (fun _ _ _=>by(try rw[hR]);kernel_rfl) ((nC K f b O (G) hK hf).mono ?_))
 rintro R8 Ee Iv ⟨BH,MX,pC⟩
 obtain⟨z8,rfl,R9⟩:∃z:Int,R8=Y z/\(0<=z↔∃x∈K.l,A x):=pW.sign BH
 refine oq 8 (pF 0 z8) fun nM rN=>oW 1 ⟨rfl,rfl,[.bool nM],U,?_⟩
 exact⟨⟨nM,rfl,rN.trans R9⟩,od,(hE.trans pC)⟩):p:=h
theorem xp{A:Int->Prop}(K:SV Int)(f:FuncId)(b:Array Value)(O:Ht)(G:Nat)(hK:gx encI 1 O G K)(hf:∀(i:Nat) (x:Int),K.l[i]?=some x->∀(eZ:Ht) (e5:Nat),G<=e5->HE G O eZ->WF ex f ((Y x)::b.toList) eZ e5 (fG e5 eZ (ga (A x)))):WF ex 108 [K.v,.func (.func f) #[] b] O G (fG G O (ga (∃x∈K.l,A x))):=by
 have mC:=fF (e:=ex) 108 Tryz.f108 9 [.tmp 4]
 have nC:=@K7
 exact Fb
theorem MY(x:Int)(O:Ht)(G:Nat):WF ex 133 [Y x] O G (fG G O (ga False)):=by
 refine wd Tryz.f133 6 [.tmp 2] fun hE=>sr<|oN 1<|sr<|oX 2 ?_
 refine oq 5 (qG x x) fun c1 p1=>oW 1 ⟨rfl,rfl,[.bool c1],U,?_⟩
 refine⟨⟨c1,rfl,?_⟩,nR,hE⟩
 exact p1.trans (by simp)
theorem Iw(x y:Int)(O:Ht)(G:Nat):WF ex 82 [Y x,Y y] O G (fG G O (Dy (jj x y))):=by
 refine wd Tryz.f82 20 [.tmp 4] fun hE=>sr<|oN 1<|sr<|oX 1<|oD 8 (MY (x) O (G)) fun F A j oT B iC=>?_
 refine oN 1<|sr<|oX 1<|oD 10 (MY (y) j (oT)) fun nM rN C E z e=>?_
 have b:=(hE.trans iC).trans e
 refine oN 1<|WP.seq<|sr<|oN 1<|cq A (fun m=>?_) (fun m=>?_)
 ·
  refine WP.seq<|sr<|oN 1<|cq rN (fun o=>?_) (fun o=>?_)
  ·
   refine sr<|oW 1 ⟨rfl,rfl,[Y 0],U,?_⟩
   refine⟨?_,od,b⟩
   show Value.int .i64 (0)=Y (jj x y)
   congr 1;unfold jj;split<;>(try split)<;>first|(exfalso;assumption)|omega
  ·
   refine WP.skip<|sr<|oW 1 ⟨rfl,rfl,[Y (-1)],U,?_⟩
   refine⟨?_,od,b⟩
   show Value.int .i64 (-1)=Y (jj x y)
   congr 1;unfold jj;split<;>(try split)<;>first|(exfalso;assumption)|omega
 ·
  refine WP.skip<|WP.seq<|sr<|oN 1<|cq rN (fun p=>?_) (fun p=>?_)
  ·
   refine sr<|oW 1 ⟨rfl,rfl,[Y 1],U,?_⟩
   refine⟨?_,od,b⟩
   show Value.int .i64 (1)=Y (jj x y)
   congr 1;unfold jj;split<;>(try split)<;>first|(exfalso;assumption)|omega
  ·
   refine WP.skip<|WP.seq<|sr<|oX 2 ?_
   refine oq 16 (mr x y) fun sw vN=>WO.nil<|cq vN (fun u=>?_) (fun u=>?_)
   ·
    refine sr<|oW 1 ⟨rfl,rfl,[Y (-1)],U,?_⟩
    refine⟨?_,od,b⟩
    show Value.int .i64 (-1)=Y (jj x y)
    congr 1;unfold jj;split<;>(try split)<;>first|(exfalso;assumption)|omega
   ·
    refine WP.skip<|WP.seq<|sr<|oX 2 ?_
    refine oq 19 (mr y x) fun ux ul=>WO.nil<|cq ul (fun yq=>?_) (fun yq=>?_)
    ·
     refine sr<|oW 1 ⟨rfl,rfl,[Y 1],U,?_⟩
     refine⟨?_,od,b⟩
     show Value.int .i64 (1)=Y (jj x y)
     congr 1;unfold jj;split<;>(try split)<;>first|(exfalso;assumption)|omega
    ·
     refine WP.skip<|sr<|oW 1 ⟨rfl,rfl,[Y 0],U,?_⟩
     refine⟨?_,od,b⟩
     show Value.int .i64 (0)=Y (jj x y)
     congr 1;unfold jj;split<;>(try split)<;>first|(exfalso;assumption)|omega
theorem Zb(K:SV Int)(O:Ht)(G:Nat)(hK:gx encI 1 O G K):WF ex 81 [K.v] O G (fG G O (Jw K.l)):=by
 obtain⟨a1,c2,hR⟩:=hK.shape
 have lU:=hK.2.2
 rw[hR]
 refine wd Tryz.f81 18 [.tmp 2] fun hE=>sr<|oN 1<|sr<|oN 1<|WP.seq<|sr<|oN 3<|WP.block ?_
 refine mg [3,6,7,8] (fun m hs ns vs=>∃(fR:Nat),fR+m=K.l.length/\vs=[Y 0,.slice a1 (K.l.length) c2,Y (.ofNat (K.l.length)),Y (.ofNat fR)]/\G<=ns/\HE (G) O hs/\(∀(j:Nat) (y:Int),j<fR->K.l[j]?=some y->y=0)) ?_ (K.l.length) ?_
 ·
  rintro xM p_ iY _ ⟨fR,ui,rfl,oF,jl,hinv⟩ uj
  have j2:=hE.trans jl
  refine sr ?_
  refine oq 9 (kL fR K.l.length) fun nu rM=>WO.nil<|WP.seq<|cq rM (fun w9=>?_) (fun w9=>?_)
  ·
   refine WP.skip<|WP.seq<|WP.block<|sr ?_
   have nz:fR<K.l.length:=by omega
   refine WO.cons (WC.iy hR hK (fR) lG kp (nz) ?_)
   obtain⟨lv,kB⟩:=gE nz
   refine WO.cons (WC.lz (Y lv) hR (hK.mono j2 nR) kB rfl ft<|oN 1<|sr<|oX 2 ?_)
   refine oq 14 (qG lv 0) fun o e=>WO.nil<|cq e (fun b=>?_) (fun b=>?_)
   ·
    refine sr<|oW 2 ⟨rfl,rfl,[Y lv],U,?_⟩
    exact⟨.inr ⟨_,lv,rfl,kB,b,hinv⟩,od,j2⟩
   ·
    refine WP.skip<|WP.region<|ov 16 (Y (.ofNat (fR+1))) ?_ (fun _ _ _=>by rw[<-gM (show fR+1<9223372036854775808 by omega)];kernel_rfl)
    refine oN 1<|⟨K.l.length-(fR+1),om,rfl,rfl,fR+1,om,U,?_,?_,?_⟩
    · exact oF
    · exact jl
    · intro j y hj hy;rcases fo.1 hj with hj|rfl;exact hinv j y hj hy;rw[kB]at hy;cases hy;exact Decidable.not_not.1 b
  ·
   refine WP.exit<|sr<|oW 2 ⟨rfl,rfl,[Y 0],U,?_⟩
   refine⟨.inl ⟨rfl,fun y hy=>?_⟩,od,j2⟩
   obtain⟨j,hj⟩:=fJ hy
   exact hinv j y (by have:=(fe.1 hj).1;omega) hj
 ·
  exact⟨0,om,U,e9 _,HE.refl _ _,(fun j y h=>absurd h (fz _))⟩
theorem Ix(a b c d:Int)(O:Ht)(G:Nat):WF ex 206 [.agg ⟨[Y a,Y b]⟩,.agg ⟨[Y c,Y d]⟩] O G (fG G O (Dy (uV (jj a c) (jj b d)))):=by
 refine wd Tryz.f206 17 [.tmp 4] fun hE=>sr<|oB (.agg ⟨[Y a,Y b]⟩) [Y a,Y b] fun jq iC hU=>?_
 refine oB (.agg ⟨[Y c,Y d]⟩) [Y c,Y d] fun J p j=>?_
 have m:=p.get hU
 refine oN 1<|WP.seq<|WP.qN [⟨[0,1,2,3,5,6,7,8],[0,1,2,3,5,6,7,8],some 4⟩,⟨[],[5,6,7,8],some 9⟩,⟨[10],[10],some 11⟩,⟨[],[],some 12⟩,⟨[],[],none⟩] U _ rfl<|WD.kQ<|nv 5 (pt G 0)<|WN.hQ rfl (WC.jP G 0 (Y a) U ft m rfl<|nv 7 (pt (G+1) 0)<|WN.hQ rfl (WC.jP (G+1) 0 (Y c) U ft j rfl<|nv 10 (pt G (0+1))<|WN.hQ rfl (WC.jP G (0+1) (Y b) U ft m rfl<|nv 12 (pt (G+1) (0+1))<|WN.hQ rfl (WC.jP (G+1) (0+1) (Y d) U ft j rfl<|WN.nil ⟨?_,?_⟩))))
 ·
  refine cv (pt G 0) (iK ..)<|p7 G 0 (Y a) ft m rfl (iz ..)<|cv (pt (G+1) 0) (iK ..)<|p7 (G+1) 0 (Y c) ft j rfl (iz ..)<|cv (pt G (0+1)) (iK ..)<|p7 G (0+1) (Y b) ft m rfl (iz ..)<|cv (pt (G+1) (0+1)) (iK ..)<|p7 (G+1) (0+1) (Y d) ft j rfl (iz ..) ?_
  exact iX.nil
 refine WC.at rfl (WC.call 9 82 ([Y a,Y c]) kf ((Iw (a) (c) J (G+1+1)).mono ?_))
 rintro _ C F ⟨rfl,xq,jx⟩
 refine WD.kQ<|WN.nil ⟨?_,?_⟩
 ·
  refine cv (pt G (0+1)) (iK ..)<|p7 G (0+1) (Y b) ft (jx.get m) rfl (iz ..)<|cv (pt (G+1) (0+1)) (iK ..)<|p7 (G+1) (0+1) (Y d) ft (jx.get j) rfl (iz ..) ?_
  exact iX.nil
 refine WC.at rfl (WC.call 14 82 ([Y b,Y d]) kf ((Iw (b) (d) C (F)).mono ?_))
 rintro _ E e ⟨rfl,K,z⟩
 refine WD.kQ<|WN.hQ rfl (WC.buildSlice [Y (jj (a) (c)),Y (jj (b) (d))] rfl U ?_)
 obtain⟨u,y,A,o⟩:=boxed E (e) [Y (jj (a) (c)),Y (jj (b) (d))]
 rw[y];clear y
 refine WN.nil ⟨?_,?_⟩
 ·
  refine iX.new e (.slice (some ⟨e,0,none⟩) (2) 2) [Y (jj (a) (c)),Y (jj (b) (d))] (fun _=>by kernel_rfl) o (uQ ..) (by simp[uG,iz,iH,ww,xH]) ?_
  exact iX.nil
 refine WC.at rfl (WC.call 16 81 ([.slice (some ⟨e,0,none⟩) (2) 2]) kf (((Zb (⟨.slice (some ⟨e,0,none⟩) 2 2,[jj (a) (c),jj (b) (d)]⟩:SV Int) u (e+1) (gx.m_ (enc:=encI) (by simp[encI]) o rfl (by decide) om (by simp):gx encI 1 u (e+1) (⟨.slice (some ⟨e,0,none⟩) 2 2,[jj (a) (c),jj (b) (d)]⟩:SV Int))).mono (fun v eZ e5 h=>(⟨Jw.two h.1,h.2.1,h.2.2⟩:fG _ _ (Dy (uV (jj (a) (c)) (jj (b) (d)))) v eZ e5))).mono ?_))
 rintro _ M N ⟨rfl,L,B⟩
 refine WD.kQ<|WN.nil ⟨?_,?_⟩
 ·
  exact iX.nil
 refine WC.at rfl (WC.val 4 (Y (uV (jj (a) (c)) (jj (b) (d)))) kf<|WD.last<|WN.nil ⟨?_,?_⟩)
 ·
  exact iX.nil
 refine WP.ret ⟨rfl,rfl,[Y (uV (jj (a) (c)) (jj (b) (d)))],U,?_⟩
 refine⟨?_,od,((((((hE.trans iC).trans p).trans jx).trans z).trans A).trans B)⟩
 show Value.int .i64 (uV (jj (a) (c)) (jj (b) (d)))=Y (uV (jj a c) (jj b d))
 rfl
theorem Up(p s:rX)(O:Ht)(G:Nat):WF ex 107 [.agg (ka p).toArray,.agg (ka s).toArray] O G (fG G O (Dy (uV (jj p.i_ s.i_) (jj p.kl s.kl)))):=by
 refine wd Tryz.f107 16 [.tmp 4] fun hE=>sr<|oB (.agg (ka p).toArray) (ka p) fun jq iC hU=>?_
 refine oB (.agg (ka s).toArray) (ka s) fun m j b=>?_
 have e:=j.get hU
 refine oN 1<|sr<|oX 1<|oZ G 0 (Y p.i_) ft e rfl<|oX 1<|oZ G (0+1) (Y p.kl) ft e rfl<|oX 2<|oZ (G+1) 0 (Y s.i_) ft b rfl<|oX 1<|oZ (G+1) (0+1) (Y s.kl) ft b rfl<|oX 1<|WO.cons (WC.call 15 206 ([.agg ⟨[Y p.i_,Y p.kl]⟩,.agg ⟨[Y s.i_,Y s.kl]⟩]) kf ((Ix (p.i_) (p.kl) (s.i_) (s.kl) m (G+1+1)).mono ?_))
 rintro _ o u ⟨rfl,xq,jx⟩
 refine oW 1 ⟨rfl,rfl,[Y (uV (jj (p.i_) (s.i_)) (jj (p.kl) (s.kl)))],U,?_⟩
 refine⟨?_,od,(((hE.trans iC).trans j).trans jx)⟩
 show Value.int .i64 (uV (jj (p.i_) (s.i_)) (jj (p.kl) (s.kl)))=Y (uV (jj p.i_ s.i_) (jj p.kl s.kl))
 rfl
theorem CX(K:j8)(O:Ht)(G:Nat)(hK:nZ O G K):WF ex 55 [.agg (jc K).toArray] O G (fG G O (MF 160 (tQ K))):=by
 refine wd Tryz.f55 141 [.tmp 2] fun hE=>sr<|oB (.agg (jc K).toArray) (jc K) fun jq iC hU=>?_
 have kW:=hE.trans iC
 refine oN 1<|sr<|oX 1 ?_
 obtain⟨am,aV,ad⟩:=hK.fp.shape
 have dr:=hK.fp.2.2
 refine oZ G 0 (.slice am (K.fp.l.length) aV) y7 hU (by rw[<-ad];rfl)<|oN 2<|WP.seq<|sr<|oX 1 ?_
 refine oq 17 (nE 511 K.fp.l.length) fun ak cm=>oX 1<|gF 18 ak (pt G (0+1)) ?_
 obtain⟨a12,nu,X⟩:=hK.gz.1.shape
 have dt:=hK.gz.1.2.2
 refine nF 18 ak G (0+1) (.slice a12 (K.gz.l.length) nu) sF hU (by rw[<-X];rfl)<|gF 18 ak (Y (.ofNat (K.gz.l.length)))<|gF 18 ak (Y (.ofNat (K.fp.l.length)))<|og 18 (!ak) (Y (.ofNat (K.fp.l.length+1))) (.bool ak) (by cases ak<;>rfl) (fun h=>by obtain rfl:=bF h;have bl:=nf cm;exact fun _ _ _=>by rw[<-gM (show K.fp.l.length+1<9223372036854775808 by omega)];kernel_rfl) ?_
 refine nm 18 ak (Jv K.gz.l.length (K.fp.l.length+1)) fun rO uW=>?_
 refine mz 25 (nO cm uW) fun dS c0=>WO.nil<|cq c0 (fun dg=>?_) (fun dg=>?_)
 ·
  refine sr<|oW 1 ⟨rfl,rfl,[Y 160],U,?_⟩
  refine⟨⟨160,rfl,⟨fun h=>absurd h (by decide),fun al=>?_⟩,.inr rfl⟩,od,kW⟩
  have h1:=al.X5;have D:=al.V0;omega
 ·
  refine WP.skip<|WP.seq<|sr<|oX 1<|oZ G 0 (.slice am (K.fp.l.length) aV) y7 hU (by rw[<-ad];rfl)<|oN 2<|WP.block ?_
  refine mg [1,3,27,28,29] (fun m hs ns vs=>∃(p:Nat),p+m=K.fp.l.length/\vs=[pt G 0,Y (.ofNat (K.fp.l.length)),.slice am (K.fp.l.length) aV,Y (.ofNat (K.fp.l.length)),Y (.ofNat p)]/\G+1<=ns/\HE (G+1) jq hs/\(∀(j:Nat) (s:rX),j<p->K.fp.l[j]?=some s->VY K.fp.l j s)) ?_ (K.fp.l.length) ?_
  ·
   rintro dO cw u _ ⟨p,dm,rfl,ct,bg,bK⟩ dz
   have be:=kW.trans bg
   have bf:=bg.get hU
   refine sr ?_
   refine oq 30 (kL p K.fp.l.length) fun dT c3=>WO.nil<|WP.seq<|cq c3 (fun dh=>?_) (fun dh=>?_)
   ·
    refine WP.skip<|WP.seq<|WP.block<|sr<|oX 1 ?_
    have br:p<K.fp.l.length:=by omega
    refine WO.cons (WC.iy ad hK.fp (p) JC tC (br) ?_)
    obtain⟨o,bj⟩:=gE br
    refine WO.cons (WC.ly ad (hK.fp.mono be nR) bj Bv tC<|oA [Y 0,Y 0,Y 0] R6 fun dM bh cr=>?_)
    refine oX 1<|oS u (0) (.agg (ka o).toArray) (ka o) (ka o) tC rfl rfl cr fun pH bH ac cu=>?_
    refine WO.nil<|WP.seq<|WP.qN [⟨[0,1,2,3,4,5,6,7,8,9,10,11,12,13,14,15,16,17,18,19,20],[0,1,2,3,4,5,6,7,8,9,10,11,12,13,14,15,16,17,18,19,20],some 21⟩,⟨[22,23,24,25,26,27,28,29,30,31,32,33,34],[22,23,24,25,26,27,28,29,30,31,32,33,34],some 35⟩,⟨[36,37,38],[36,37,38],none⟩] U _ rfl<|WD.kQ<|nv 34 (pt u 0)<|WN.hQ rfl (WC.jP u 0 (Y o.i_) U ft ac rfl ?_)
    obtain⟨C,b3,c5⟩:=mr o.i_ 0
    refine nv 36 (.bool C) ?_ (fun _ _ _=>by subst b3;kernel_rfl)
    refine nv 37 (.bool C)<|ng rfl 37 (!C) (pt u 0) (.bool C) (by cases C<;>rfl) (fun h=>by obtain rfl:=bF h;exact fun _ _ _=>by kernel_rfl) ?_
    refine w5 rfl 37 (!C) (Y o.i_) (.bool C) (by cases C<;>rfl) (fun h=>by obtain rfl:=bF h;exact WC.jP u 0 (Y o.i_) U ft ac rfl rfl) ?_
    obtain⟨aA,b4,c6⟩:=pF 40 o.i_
    refine ng rfl 37 (!C) (.bool aA) (.bool C) (by cases C<;>rfl) (fun h=>by obtain rfl:=bF h;exact fun _ _ _=>by subst b4;kernel_rfl) ?_
    obtain⟨E,b5,c7⟩:=nO c5 c6
    refine WN.hQ rfl (WC.me (v:=.bool E) 41 (kZ (.bool C) (.bool true) ((bif !C then .bool aA else undef))) kf (by rw[b5];exact kS (fun h=>by obtain rfl:C=false:=h;rfl))<|nv 42 (.bool E)<|ng rfl 42 (!E) (pt u (0+1)) (.bool E) (by cases E<;>rfl) (fun h=>by obtain rfl:=bF h;exact fun _ _ _=>by kernel_rfl) ?_)
    refine w5 rfl 42 (!E) (Y o.kl) (.bool E) (by cases E<;>rfl) (fun h=>by obtain rfl:=bF h;exact WC.jP u (0+1) (Y o.kl) U ft ac rfl rfl) ?_
    obtain⟨aB,b6,c8⟩:=mr o.kl 0
    refine ng rfl 42 (!E) (.bool aB) (.bool E) (by cases E<;>rfl) (fun h=>by obtain rfl:=bF h;exact fun _ _ _=>by subst b6;kernel_rfl) ?_
    obtain⟨F,b7,c_⟩:=nO c7 c8
    refine WN.hQ rfl (WC.me (v:=.bool F) 46 (kZ (.bool E) (.bool true) ((bif !E then .bool aB else undef))) kf (by rw[b7];exact kS (fun h=>by obtain rfl:E=false:=h;rfl))<|nv 47 (.bool F)<|ng rfl 47 (!F) (pt u (0+1)) (.bool F) (by cases F<;>rfl) (fun h=>by obtain rfl:=bF h;exact fun _ _ _=>by kernel_rfl) ?_)
    refine w5 rfl 47 (!F) (Y o.kl) (.bool F) (by cases F<;>rfl) (fun h=>by obtain rfl:=bF h;exact WC.jP u (0+1) (Y o.kl) U ft ac rfl rfl) ?_
    obtain⟨aC,b8,da⟩:=mr 255 o.kl
    refine ng rfl 47 (!F) (.bool aC) (.bool F) (by cases F<;>rfl) (fun h=>by obtain rfl:=bF h;exact fun _ _ _=>by subst b8;kernel_rfl) ?_
    obtain⟨B,b9,cn⟩:=nO c_ da
    refine WN.hQ rfl (WC.me (v:=.bool B) 51 (kZ (.bool F) (.bool true) ((bif !F then .bool aC else undef))) kf (by rw[b9];exact kS (fun h=>by obtain rfl:F=false:=h;rfl))<|nv 52 (.bool B)<|ng rfl 52 (!B) (pt u (0+2)) (.bool B) (by cases B<;>rfl) (fun h=>by obtain rfl:=bF h;exact fun _ _ _=>by kernel_rfl) ?_)
    refine w5 rfl 52 (!B) (Y o.pQ) (.bool B) (by cases B<;>rfl) (fun h=>by obtain rfl:=bF h;exact WC.jP u (0+2) (Y o.pQ) U ft ac rfl rfl) ?_
    refine WN.nil ⟨?_,?_⟩
    ·
     refine cv (pt u 0) (iK ..)<|p7 u 0 (Y o.i_) ft ac rfl (iz ..)<|cv (.bool C) (iH 8 C) ?_ (fun _=>by subst b3;kernel_rfl)
     refine cv (.bool C) (iH 8 C)<|cg rfl 37 (!C) (pt u 0) (.bool C) (by cases C<;>rfl) (fun h=>by obtain rfl:=bF h;exact lZ (pt u 0) (fun _=>by kernel_rfl) (iK ..)) ?_
     refine cg rfl 37 (!C) (Y o.i_) (.bool C) (by cases C<;>rfl) (fun h=>by obtain rfl:=bF h;exact qw (Y o.i_) (j9 ex.T pH.get 3 (pt u 0)) (fun _=>by kernel_rfl) (j_ ft ac rfl) (iz ..)) ?_
     refine cg rfl 37 (!C) (.bool aA) (.bool C) (by cases C<;>rfl) (fun h=>by obtain rfl:=bF h;exact lZ (.bool aA) (fun _=>by subst b4;kernel_rfl) (iH 8 aA)) ?_
     refine co (.bool E) (kZ (.bool C) (.bool true) ((bif !C then .bool aA else undef))) ((by rw[b5];exact kS (fun h=>by obtain rfl:C=false:=h;rfl))) (iH 8 E)<|cv (.bool E) (iH 8 E)<|cg rfl 42 (!E) (pt u (0+1)) (.bool E) (by cases E<;>rfl) (fun h=>by obtain rfl:=bF h;exact lZ (pt u (0+1)) (fun _=>by kernel_rfl) (iK ..)) ?_
     refine cg rfl 42 (!E) (Y o.kl) (.bool E) (by cases E<;>rfl) (fun h=>by obtain rfl:=bF h;exact qw (Y o.kl) (j9 ex.T pH.get 3 (pt u (0+1))) (fun _=>by kernel_rfl) (j_ ft ac rfl) (iz ..)) ?_
     refine cg rfl 42 (!E) (.bool aB) (.bool E) (by cases E<;>rfl) (fun h=>by obtain rfl:=bF h;exact lZ (.bool aB) (fun _=>by subst b6;kernel_rfl) (iH 8 aB)) ?_
     refine co (.bool F) (kZ (.bool E) (.bool true) ((bif !E then .bool aB else undef))) ((by rw[b7];exact kS (fun h=>by obtain rfl:E=false:=h;rfl))) (iH 8 F)<|cv (.bool F) (iH 8 F)<|cg rfl 47 (!F) (pt u (0+1)) (.bool F) (by cases F<;>rfl) (fun h=>by obtain rfl:=bF h;exact lZ (pt u (0+1)) (fun _=>by kernel_rfl) (iK ..)) ?_
     refine cg rfl 47 (!F) (Y o.kl) (.bool F) (by cases F<;>rfl) (fun h=>by obtain rfl:=bF h;exact qw (Y o.kl) (j9 ex.T pH.get 3 (pt u (0+1))) (fun _=>by kernel_rfl) (j_ ft ac rfl) (iz ..)) ?_
     refine cg rfl 47 (!F) (.bool aC) (.bool F) (by cases F<;>rfl) (fun h=>by obtain rfl:=bF h;exact lZ (.bool aC) (fun _=>by subst b8;kernel_rfl) (iH 8 aC)) ?_
     refine co (.bool B) (kZ (.bool F) (.bool true) ((bif !F then .bool aC else undef))) ((by rw[b9];exact kS (fun h=>by obtain rfl:F=false:=h;rfl))) (iH 8 B)<|cv (.bool B) (iH 8 B)<|cg rfl 52 (!B) (pt u (0+2)) (.bool B) (by cases B<;>rfl) (fun h=>by obtain rfl:=bF h;exact lZ (pt u (0+2)) (fun _=>by kernel_rfl) (iK ..)) ?_
     refine cg rfl 52 (!B) (Y o.pQ) (.bool B) (by cases B<;>rfl) (fun h=>by obtain rfl:=bF h;exact qw (Y o.pQ) (j9 ex.T pH.get 3 (pt u (0+2))) (fun _=>by kernel_rfl) (j_ ft ac rfl) (iz ..)) ?_
     exact iX.nil
    refine WC.at rfl (WC.gq (!B) (GB (!B) (-1099511627776<=o.pQ/\o.pQ<=1099511627776) (u+1) pH) (.bool B) (g:=fV (.tmp 52)) rfl U (by cases B<;>rfl) (fun h=>by obtain rfl:B=false:=(by simpa using h);have bl:¬(((((o.i_)<(0))\/((40)<=(o.i_)))\/((o.kl)<(0)))\/((255)<(o.kl))):=(fun k=>absurd ((cn).2 k) (by decide));exact WC.call 55 106 ([Y o.pQ]) kf ((R7 (o.pQ) pH (u+1)).mono fun v eZ e5 ⟨⟨c,bM,hc⟩,hn,he⟩=>⟨_,_,_,rfl,⟨c,bM,hc⟩,hn,he⟩)) (fun h=>GB.off h) ?_)
    rintro _ aw bN ⟨⟨dU,rfl,db⟩,dK,aM⟩
    have av:=((be.trans bh).trans bH).trans aM
    have bE:=aM.get ((cu G om).trans (bh.get bf))
    have bG:=aM.get ac
    refine WD.kQ ?_
    obtain⟨aD,b_,dc⟩:=nN db
    refine ng rfl 52 (!B) (.bool aD) (.bool B) (by cases B<;>rfl) (fun h=>by obtain rfl:=bF h;exact fun _ _ _=>by subst b_;kernel_rfl) ?_
    obtain⟨jG,ca,ax⟩:=nO cn dc
    refine WN.hQ rfl (WC.me (v:=.bool jG) 57 (kZ (.bool B) (.bool true) ((bif !B then .bool aD else undef))) kf (by rw[ca];exact kS (fun h=>by obtain rfl:B=false:=h;rfl))<|nv 58 (.bool jG)<|ng rfl 58 (!jG) (Y (.ofNat p)) (.bool jG) (by cases jG<;>rfl) (fun h=>by obtain rfl:=bF h;exact fun _ _ _=>by kernel_rfl) ?_)
    obtain⟨e,cb,ay⟩:=nE 0 p
    refine ng rfl 58 (!jG) (.bool e) (.bool jG) (by cases jG<;>rfl) (fun h=>by obtain rfl:=bF h;exact fun _ _ _=>by subst cb;kernel_rfl) ?_
    refine ng rfl 58 (!jG) (.bool e) (.bool jG) (by cases jG<;>rfl) (fun h=>by obtain rfl:=bF h;exact fun _ _ _=>by kernel_rfl) ?_
    refine ng rfl 61 (!jG&&e) (pt G 0) ((bif !jG then .bool e else undef)) (by cases jG<;>cases e<;>rfl) (fun h=>by obtain⟨rfl,rfl⟩:=sM h;exact fun _ _ _=>by kernel_rfl) ?_
    refine w5 rfl 61 (!jG&&e) (.slice am (K.fp.l.length) aV) ((bif !jG then .bool e else undef)) (by cases jG<;>cases e<;>rfl) (fun h=>by obtain⟨rfl,rfl⟩:=sM h;exact WC.jP G 0 (.slice am (K.fp.l.length) aV) U y7 bE (by rw[<-ad];rfl) rfl) ?_
    refine ng rfl 61 (!jG&&e) (Y (.ofNat p)) ((bif !jG then .bool e else undef)) (by cases jG<;>cases e<;>rfl) (fun h=>by obtain⟨rfl,rfl⟩:=sM h;exact fun _ _ _=>by kernel_rfl) ?_
    refine ng rfl 61 (!jG&&e) (Y (.ofNat (p-1))) ((bif !jG then .bool e else undef)) (by cases jG<;>cases e<;>rfl) (fun h=>by obtain⟨rfl,rfl⟩:=sM h;have bl:=nf ax;have cG:=(ay).1 rfl;exact fun _ _ _=>by rw[<-AT (show p<9223372036854775808 by omega) om];kernel_rfl) ?_
    have ai:(!jG&&e)=true->p-1<K.fp.l.length:=fun h=>by obtain⟨rfl,rfl⟩:jG=false/\e=true:=(by simpa[and_assoc]using h);have bl:¬((((((o.i_)<(0))\/((40)<=(o.i_)))\/((o.kl)<(0)))\/((255)<(o.kl)))\/(¬(-1099511627776<=o.pQ/\o.pQ<=1099511627776))):=(fun k=>absurd ((ax).2 k) (by decide));have cG:=(ay).1 rfl;omega
    refine w5 rfl 61 (!jG&&e) (pt (fW am) (0+(p-1)*3)) ((bif !jG then .bool e else undef)) (by cases jG<;>cases e<;>rfl) (fun h=>by obtain⟨rfl,rfl⟩:=sM h;exact WC.iy ad hK.fp (p-1) JC tC ((ai rfl)) rfl) ?_
    obtain⟨af,bk⟩:∃bD,(!jG&&e)=true->K.fp.l[p-1]?=some bD:=⟨(K.fp.l[p-1]?).getD default,fun h=>by rw[List.getElem?_eq_getElem (by obtain⟨rfl,rfl⟩:jG=false/\e=true:=(by simpa[and_assoc]using h);exact(ai rfl))];rfl⟩
    have bw:=fun(a0:¬((((((o.i_)<(0))\/((40)<=(o.i_)))\/((o.kl)<(0)))\/((255)<(o.kl)))\/(¬(-1099511627776<=o.pQ/\o.pQ<=1099511627776)))) (a1:((0)<((p:Nat):Int)))=>bk (by first|(rw[show jG=false from Bool.eq_false_iff.2 (fun k=>a0 ((ax).1 k)),show e=true from(ay).2 a1];rfl)|rw[show jG=false from Bool.eq_false_iff.2 (fun k=>a0 ((ax).1 k)),show e=true from(ay).2 a1])
    refine w5 rfl 61 (!jG&&e) (.agg (ka af).toArray) ((bif !jG then .bool e else undef)) (by cases jG<;>cases e<;>rfl) (fun h=>by obtain⟨rfl,rfl⟩:=sM h;exact WC.ly ad (hK.fp.mono av nR) (bk rfl) Bv tC rfl) ?_
    refine w5 rfl 61 (!jG&&e) (.agg (ka o).toArray) ((bif !jG then .bool e else undef)) (by cases jG<;>cases e<;>rfl) (fun h=>by obtain⟨rfl,rfl⟩:=sM h;exact WC.im u (0) (ka o) U Bv tC bG rfl rfl) ?_
    refine WN.nil ⟨?_,?_⟩
    ·
     refine cg rfl 52 (!B) (.bool aD) (.bool B) (by cases B<;>rfl) (fun h=>by obtain rfl:=bF h;exact lZ (.bool aD) (fun _=>by subst b_;kernel_rfl) (iH 8 aD)) ?_
     refine co (.bool jG) (kZ (.bool B) (.bool true) ((bif !B then .bool aD else undef))) ((by rw[ca];exact kS (fun h=>by obtain rfl:B=false:=h;rfl))) (iH 8 jG)<|cv (.bool jG) (iH 8 jG)<|cg rfl 58 (!jG) (Y (.ofNat p)) (.bool jG) (by cases jG<;>rfl) (fun h=>by obtain rfl:=bF h;exact lZ (Y (.ofNat p)) (fun _=>by kernel_rfl) (iz ..)) ?_
     refine cg rfl 58 (!jG) (.bool e) (.bool jG) (by cases jG<;>rfl) (fun h=>by obtain rfl:=bF h;exact lZ (.bool e) (fun _=>by subst cb;kernel_rfl) (iH 8 e)) ?_
     refine cg rfl 58 (!jG) (.bool e) (.bool jG) (by cases jG<;>rfl) (fun h=>by obtain rfl:=bF h;exact lZ (.bool e) (fun _=>by kernel_rfl) (iH 8 e)) ?_
     refine cg rfl 61 (!jG&&e) (pt G 0) ((bif !jG then .bool e else undef)) (by cases jG<;>cases e<;>rfl) (fun h=>by obtain⟨rfl,rfl⟩:=sM h;exact lZ (pt G 0) (fun _=>by kernel_rfl) (iK ..)) ?_
     refine cg rfl 61 (!jG&&e) (.slice am (K.fp.l.length) aV) ((bif !jG then .bool e else undef)) (by cases jG<;>cases e<;>rfl) (fun h=>by obtain⟨rfl,rfl⟩:=sM h;exact qw (.slice am (K.fp.l.length) aV) (j9 ex.T aw.get 34 (pt G 0)) (fun _=>by kernel_rfl) (j_ y7 bE (by rw[<-ad];rfl)) (ad▸hK.fp.js 8)) ?_
     refine cg rfl 61 (!jG&&e) (Y (.ofNat p)) ((bif !jG then .bool e else undef)) (by cases jG<;>cases e<;>rfl) (fun h=>by obtain⟨rfl,rfl⟩:=sM h;exact lZ (Y (.ofNat p)) (fun _=>by kernel_rfl) (iz ..)) ?_
     refine cg rfl 61 (!jG&&e) (Y (.ofNat (p-1))) ((bif !jG then .bool e else undef)) (by cases jG<;>cases e<;>rfl) (fun h=>by obtain⟨rfl,rfl⟩:=sM h;have bl:=nf ax;have cG:=(ay).1 rfl;exact lZ (Y (.ofNat (p-1))) (fun _=>by rw[<-AT (show p<9223372036854775808 by omega) om];kernel_rfl) (iz ..)) ?_
     refine cg rfl 61 (!jG&&e) (pt (fW am) (0+(p-1)*3)) ((bif !jG then .bool e else undef)) (by cases jG<;>cases e<;>rfl) (fun h=>by obtain⟨rfl,rfl⟩:=sM h;exact qw (pt (fW am) (0+(p-1)*3)) (mH ex.T 34 (.slice am (K.fp.l.length) aV) (Y (.ofNat (p-1)))) (fun _=>by kernel_rfl) (sK (k:=.i64) JC tC ((hK.fp.mono av nR).Bk ad (zl ((ai rfl)))) ((ai rfl))) (iK ..)) ?_
     refine cg rfl 61 (!jG&&e) (.agg (ka af).toArray) ((bif !jG then .bool e else undef)) (by cases jG<;>cases e<;>rfl) (fun h=>by obtain⟨rfl,rfl⟩:=sM h;exact qw (.agg (ka af).toArray) (j9 ex.T aw.get 255 (pt (fW am) (0+(p-1)*3))) (fun _=>by kernel_rfl) (Az Bv tC ((hK.fp.mono av nR).pd ad (zl ((ai rfl)))) (xm (hK.fp.mono av nR).1 (bk rfl))) (CQ af)) ?_
     refine cg rfl 61 (!jG&&e) (.agg (ka o).toArray) ((bif !jG then .bool e else undef)) (by cases jG<;>cases e<;>rfl) (fun h=>by obtain⟨rfl,rfl⟩:=sM h;exact qw (.agg (ka o).toArray) (j9 ex.T aw.get 255 (pt u 0)) (fun _=>by kernel_rfl) (jO Bv tC bG rfl) (CQ o)) ?_
     exact iX.nil
    refine WC.at rfl (WC.gq (!jG&&e) (GV (!jG&&e) (Y (uV (jj af.i_ o.i_) (jj af.kl o.kl))) (bN) aw) ((bif !jG then .bool e else undef)) (g:=fV (.tmp 61)) rfl U (by cases jG<;>cases e<;>rfl) (fun h=>by obtain⟨rfl,rfl⟩:jG=false/\e=true:=(by simpa[and_assoc]using h);have bl:¬((((((o.i_)<(0))\/((40)<=(o.i_)))\/((o.kl)<(0)))\/((255)<(o.kl)))\/(¬(-1099511627776<=o.pQ/\o.pQ<=1099511627776))):=(fun k=>absurd ((ax).2 k) (by decide));have cG:=(ay).1 rfl;exact WC.call 69 107 ([.agg (ka af).toArray,.agg (ka o).toArray]) kf ((Up af o aw (bN)).mono fun v eZ e5 ⟨bM,hn,he⟩=>⟨_,_,_,rfl,bM,hn,he⟩)) (fun h=>GV.off h) ?_)
    rintro _ dN dQ ⟨rfl,dL,bI⟩
    refine WD.last ?_
    obtain⟨aE,cc,dd⟩:=pF 0 (uV (jj af.i_ o.i_) (jj af.kl o.kl))
    refine ng rfl 61 (!jG&&e) (.bool aE) ((bif !jG then .bool e else undef)) (by cases jG<;>cases e<;>rfl) (fun h=>by obtain⟨rfl,rfl⟩:=sM h;exact fun _ _ _=>by subst cc;kernel_rfl) ?_
    obtain⟨au,cd,de⟩:=nA ay dd
    refine w5 rfl 58 (!jG) (.bool au) (.bool jG) (by cases jG<;>rfl) (fun h=>by obtain rfl:=bF h;exact WC.me (v:=.bool au) 71 (kZ (.bool e) ((bif !false&&e then .bool aE else undef)) (.bool false)) kf (by rw[cd];exact tz (fun h=>by obtain rfl:e=true:=h;rfl)) rfl) ?_
    obtain⟨bC,ce,df⟩:=nO ax de
    refine WN.hQ rfl (WC.me (v:=.bool bC) 72 (kZ (.bool jG) (.bool true) ((bif !jG then .bool au else undef))) kf (by rw[ce];exact kS (fun h=>by obtain rfl:jG=false:=h;rfl))<|WN.nil ⟨?_,?_⟩)
    ·
     refine cg rfl 61 (!jG&&e) (.bool aE) ((bif !jG then .bool e else undef)) (by cases jG<;>cases e<;>rfl) (fun h=>by obtain⟨rfl,rfl⟩:=sM h;exact lZ (.bool aE) (fun _=>by subst cc;kernel_rfl) (iH 8 aE)) ?_
     refine cg rfl 58 (!jG) (.bool au) (.bool jG) (by cases jG<;>rfl) (fun h=>by obtain rfl:=bF h;exact qw (.bool au) (kZ (.bool e) ((bif !false&&e then .bool aE else undef)) (.bool false)) (fun _=>by kernel_rfl) ((by rw[cd];exact tz (fun h=>by obtain rfl:e=true:=h;rfl))) (iH 8 au)) ?_
     refine co (.bool bC) (kZ (.bool jG) (.bool true) ((bif !jG then .bool au else undef))) ((by rw[ce];exact kS (fun h=>by obtain rfl:jG=false:=h;rfl))) (iH 8 bC) ?_
     exact iX.nil
    refine cq df (fun bP=>?_) (fun bP=>?_)
    ·
     refine sr<|oW 1 ⟨rfl,rfl,[Y 160],U,?_⟩
     refine⟨⟨160,rfl,⟨fun h=>absurd h (by decide),fun al=>?_⟩,.inr rfl⟩,od,(av.trans bI)⟩
     obtain⟨h1,D,h3,h4,cp,dJ⟩:=al.Ed _ _ bj
     rcases bP with cx|⟨cT,cU⟩
     · first|omega|(dsimp only;omega)
     · exact absurd (dJ om _ (bw om cT)) ((Po _ _ _ _).1 cU)
    ·
     refine WP.skip<|WP.region<|ov 73 (Y (.ofNat (p+1))) ?_ (fun _ _ _=>by rw[<-gM (show p+1<9223372036854775808 by omega)];kernel_rfl)
     refine oN 1<|⟨K.fp.l.length-(p+1),om,rfl,rfl,p+1,om,U,?_,?_,?_⟩
     · exact od
     · exact((((bg.trans bh ct).trans bH).trans aM).trans bI)
     · intro j s hj hs
       rcases fo.1 hj with hj|rfl
       · exact bK j s hj hs
       · rw[bj]at hs;cases hs
         refine⟨om,om,om,om,om,fun h0 dV eZ=>?_⟩
         have cS:=bw om om
         rw[cS]at eZ;cases eZ
         have ck:¬(0<=uV (jj af.i_ o.i_) (jj af.kl o.kl)):=fun k=>bP (.inr ⟨om,k⟩)
         rw[Po]at ck
         exact fg.1 ck
   ·
    refine WP.exit<|WP.seq<|sr<|oX 1<|oZ G (0+1) (.slice a12 (K.gz.l.length) nu) sF bf (by rw[<-X];rfl)<|oN 2<|WP.block ?_
    refine mg [1,3,75,76,77] (fun m hs ns vs=>∃(R:Nat),R+m=K.gz.l.length/\vs=[pt G 0,Y (.ofNat (K.fp.l.length)),.slice a12 (K.gz.l.length) nu,Y (.ofNat (K.gz.l.length)),Y (.ofNat R)]/\u<=ns/\HE (u) cw hs/\(∀(j:Nat) (r:SV Int),j<R->K.gz.l[j]?=some r->VZ K.fp.l.length j r)) ?_ (K.gz.l.length) ?_
    ·
     rintro dP aO ar _ ⟨R,cO,rfl,bS,aK,aN⟩ dA
     have ah:=be.trans aK
     refine sr ?_
     refine oq 78 (kL R K.gz.l.length) fun dB cy=>WO.nil<|WP.seq<|cq cy (fun cH=>?_) (fun cH=>?_)
     ·
      refine WP.skip<|WP.seq<|WP.block<|sr<|oX 1 ?_
      have aW:R<K.gz.l.length:=by omega
      refine WO.cons (WC.iy X hK.gz.1 (R) u_ tS (aW) ?_)
      obtain⟨M,ae⟩:=gE aW
      obtain⟨aF,bd,aq⟩:=(hK.gz.2 M (cs ae)).shape
      have cV:=(hK.gz.2 M (cs ae)).2.2
      refine WO.cons (WC.lz (.slice aF (M.l.length) bd) X (hK.gz.1.mono ah nR) ae (by rw[<-aq];rfl) lF<|oN 2<|sr<|oX 3<|ov 85 (Y (.ofNat (K.fp.l.length+1))) ?_ (fun _ _ _=>by rw[<-gM (show K.fp.l.length+1<9223372036854775808 by omega)];kernel_rfl))
      refine oq 86 (Jv M.l.length (K.fp.l.length+1)) fun ab aT=>oX 1<|gF 87 ab (.slice aF (M.l.length) bd)<|gF 87 ab (Y (.ofNat R)) ?_
      have aX:(!ab)=true->R<M.l.length:=fun h=>by obtain rfl:ab=false:=(by simpa using h);have bl:¬(((M.l.length:Nat):Int)≠((K.fp.l.length+1:Nat):Int)):=(fun k=>absurd ((aT).2 k) (by decide));omega
      refine xJ 87 ab (pt (fW aF) (0+(R)*1)) (by rintro rfl;exact WC.iy aq (hK.gz.2 M (cs ae)) (R) lG kp ((aX rfl)) rfl) ?_
      obtain⟨az,bu⟩:∃bD,(!ab)=true->M.l[R]?=some bD:=⟨(M.l[R]?).getD default,fun h=>by rw[List.getElem?_eq_getElem (by obtain rfl:ab=false:=(by simpa using h);exact(aX rfl))];rfl⟩
      have bc:=fun(a0:¬(((M.l.length:Nat):Int)≠((K.fp.l.length+1:Nat):Int)))=>bu (by first|(rw[show ab=false from Bool.eq_false_iff.2 (fun k=>a0 ((aT).1 k))];rfl)|rw[show ab=false from Bool.eq_false_iff.2 (fun k=>a0 ((aT).1 k))])
      refine xJ 87 ab (Y az) (by rintro rfl;exact WC.lz (Y az) aq ((hK.gz.2 M (cs ae)).mono ah nR) (bu rfl) rfl ft rfl) ?_
      refine nm 87 ab (qG az 0) fun dC cz=>?_
      refine mz 93 (nO aT cz) fun aj bO=>oX 1<|gF 94 aj (.slice aF (M.l.length) bd)<|WO.cons (WC.gq (!aj) (GB (!aj) (∃x∈M.l,(fun x=>x< -2199023255552\/2199023255552<x) x) (ar) aO) (.bool aj) (g:=fV (.tmp 94)) rfl U (by cases aj<;>rfl) (fun h=>by obtain rfl:aj=false:=(by simpa using h);have bl:¬((((M.l.length:Nat):Int)≠((K.fp.l.length+1:Nat):Int))\/((az)≠(0))):=(fun k=>absurd ((bO).2 k) (by decide));exact WC.call 96 108 ([M.v,.func (.func 109) #[] #[]]) (fun _ _ _=>by(try rw[aq]);kernel_rfl) ((xp (A:=fun x=>x< -2199023255552\/2199023255552<x) M 109 #[] aO (ar) ((hK.gz.2 M (cs ae)).mono ah) (fun _ x _ eZ e5 _ _=>Iu x eZ e5)).mono fun v eZ e5 ⟨⟨c,bM,hc⟩,hn,he⟩=>⟨_,_,_,rfl,⟨c,bM,hc⟩,hn,he⟩)) (fun h=>GB.off h) ?_)
      rintro _ dp dx ⟨⟨dD,rfl,cA⟩,dn,bq⟩
      refine mz 97 (nO bO cA) fun dE cB=>WO.nil<|cq cB (fun aU=>?_) (fun aU=>?_)
      ·
       refine sr<|oW 1 ⟨rfl,rfl,[Y 160],U,?_⟩
       refine⟨⟨160,rfl,⟨fun h=>absurd h (by decide),fun al=>?_⟩,.inr rfl⟩,od,(ah.trans bq)⟩
       obtain⟨h1,D,h3⟩:=al.row _ _ ae
       rcases aU with(cx|cx)|⟨y,cY,cZ⟩
       · first|omega|(dsimp only;omega)
       · have hw:=bc om
         rw[D]at hw;cases hw;exact absurd rfl cx
       · exact absurd cZ (h3 y cY)
      ·
       refine WP.skip<|WP.region<|ov 98 (Y (.ofNat (R+1))) ?_ (fun _ _ _=>by rw[<-gM (show R+1<9223372036854775808 by omega)];kernel_rfl)
       refine oN 1<|⟨K.gz.l.length-(R+1),om,rfl,rfl,R+1,om,U,?_,?_,?_⟩
       · exact od
       · exact(aK.trans bq bS)
       · intro j dR hj hs
         rcases fo.1 hj with hj|rfl
         · exact aN j dR hj hs
         · rw[ae]at hs;cases hs
           have hlen:M.l.length=K.fp.l.length+1:=by omega
           refine⟨hlen,?_,fun w hw hb=>aU (.inr ⟨w,hw,hb⟩)⟩
           have hw:=bc om
           have:az=0:=fg.1 fun k=>aU (.inl (.inr k))
           rw[hw,this]
     ·
      refine WP.exit<|WP.seq<|sr<|oX 1<|ov 100 (Y (.ofNat (K.fp.l.length+1))) ?_ (fun _ _ _=>by rw[<-gM (show K.fp.l.length+1<9223372036854775808 by omega)];kernel_rfl)
      refine oN 1<|WP.block ?_
      refine mg [1,100,101] (fun m hs ns vs=>∃(z:Nat),z+m=(K.fp.l.length+1)/\vs=[pt G 0,Y (.ofNat (K.fp.l.length+1)),Y (.ofNat z)]/\ar<=ns/\HE (ar) aO hs/\(∀bY j m,bY<z->Lz K bY j m)) ?_ ((K.fp.l.length+1)) ?_
      ·
       rintro du bW bx _ ⟨z,cP,rfl,bT,aL,bL⟩ di
       have aI:=ah.trans aL
       have bo:=aL.get (aK.get bf)
       refine sr ?_
       refine oq 102 (kL z (K.fp.l.length+1)) fun dF cC=>WO.nil<|WP.seq<|cq cC (fun cI=>?_) (fun cI=>?_)
       ·
        refine WP.skip<|WP.seq<|WP.block<|sr<|oN 2<|sr<|oX 1<|oZ G (0+1) (.slice a12 (K.gz.l.length) nu) sF bo (by rw[<-X];rfl)<|oX 1 ?_
        have aY:z<K.gz.l.length:=by omega
        refine WO.cons (WC.iy X hK.gz.1 (z) u_ tS (aY) ?_)
        obtain⟨L,S⟩:=gE aY
        obtain⟨aG,aH,ag⟩:=(hK.gz.2 L (cs S)).shape
        have cW:=(hK.gz.2 L (cs S)).2.2
        refine WO.cons (WC.lz (.slice aG (L.l.length) aH) X (hK.gz.1.mono aI nR) S (by rw[<-ag];rfl) lF<|oN 2<|WP.block ?_)
        have cf:=(aN z L om S).1
        refine mg [1,8,100,101,108,109,110] (fun m hs ns vs=>∃(J:Nat),J+m=L.l.length/\vs=[pt G 0,Y (.ofNat z),Y (.ofNat (K.fp.l.length+1)),Y (.ofNat z),.slice aG (L.l.length) aH,Y (.ofNat (L.l.length)),Y (.ofNat J)]/\bx<=ns/\HE (bx) bW hs/\(∀bZ m,bZ<J->Lz K z bZ m)) ?_ (L.l.length) ?_
        ·
         rintro dv bX bz _ ⟨J,cQ,rfl,bU,ao,bs⟩ dj
         have aJ:=aI.trans ao
         have bp:=ao.get bo
         refine sr ?_
         refine oq 111 (kL J L.l.length) fun dG cD=>WO.nil<|WP.seq<|cq cD (fun cJ=>?_) (fun cJ=>?_)
         ·
          refine WP.skip<|WP.seq<|WP.block<|sr<|oX 1 ?_
          have aZ:J<L.l.length:=by omega
          refine WO.cons (WC.iy ag (hK.gz.2 L (cs S)) (J) lG kp (aZ) ?_)
          obtain⟨bn,aQ⟩:=gE aZ
          refine WO.cons (WC.lz (Y bn) ag ((hK.gz.2 L (cs S)).mono aJ nR) aQ rfl ft<|oN 2<|sr<|oX 1<|oZ G (0+1) (.slice a12 (K.gz.l.length) nu) sF bp (by rw[<-X];rfl)<|oX 1 ?_)
          have a6:J<K.gz.l.length:=by omega
          refine WO.cons (WC.iy X hK.gz.1 (J) u_ tS (a6) ?_)
          obtain⟨W,aa⟩:=gE a6
          obtain⟨bA,bB,aP⟩:=(hK.gz.2 W (cs aa)).shape
          have cX:=(hK.gz.2 W (cs aa)).2.2
          refine WO.cons (WC.lz (.slice bA (W.l.length) bB) X (hK.gz.1.mono aJ nR) aa (by rw[<-aP];rfl) lF<|oN 2<|WP.block ?_)
          have cj:=(aN J W om aa).1
          refine mg [1,8,10,100,101,108,109,110,119,120,121] (fun m hs ns vs=>∃(N:Nat),N+m=W.l.length/\vs=[pt G 0,Y (.ofNat z),Y bn,Y (.ofNat (K.fp.l.length+1)),Y (.ofNat z),.slice aG (L.l.length) aH,Y (.ofNat (L.l.length)),Y (.ofNat J),.slice bA (W.l.length) bB,Y (.ofNat (W.l.length)),Y (.ofNat N)]/\bz<=ns/\HE (bz) bX hs/\(∀b0,b0<N->Lz K z J b0)) ?_ (W.l.length) ?_
          ·
           rintro dw dq dy _ ⟨N,cR,rfl,bV,ap,bt⟩ dl
           have an:=aJ.trans ap
           refine sr ?_
           refine oq 122 (kL N W.l.length) fun dH cE=>WO.nil<|WP.seq<|cq cE (fun cK=>?_) (fun cK=>?_)
           ·
            refine WP.skip<|WP.seq<|WP.block<|sr<|oX 1 ?_
            have a7:N<W.l.length:=by omega
            refine WO.cons (WC.iy aP (hK.gz.2 W (cs aa)) (N) lG kp (a7) ?_)
            obtain⟨bQ,aR⟩:=gE a7
            refine WO.cons (WC.lz (Y bQ) aP ((hK.gz.2 W (cs aa)).mono an nR) aR rfl ft<|oN 2<|sr<|oX 1<|oZ G (0+1) (.slice a12 (K.gz.l.length) nu) sF (ap.get bp) (by rw[<-X];rfl)<|oX 1 ?_)
            have bJ:z<K.gz.l.length:=by omega
            refine WO.cons (WC.iy X hK.gz.1 (z) u_ tS (bJ)<|WO.cons (WC.lz (.slice aG (L.l.length) aH) X (hK.gz.1.mono an nR) S (by rw[<-ag];rfl) lF<|oX 1 ?_))
            have a_:N<L.l.length:=by omega
            refine WO.cons (WC.iy ag (hK.gz.2 L (cs S)) (N) lG kp (a_) ?_)
            obtain⟨bR,aS⟩:=gE a_
            refine WO.cons (WC.lz (Y bR) ag ((hK.gz.2 L (cs S)).mono an nR) aS rfl ft<|oX 3 ?_)
            refine oq 137 (mr (gn .i64 ((bn)+(bQ))) bR) fun dI cF=>WO.nil<|cq cF (fun cL=>?_) (fun cL=>?_)
            ·
             refine sr<|oW 1 ⟨rfl,rfl,[Y 160],U,?_⟩
             refine⟨⟨160,rfl,⟨fun h=>absurd h (by decide),fun al=>?_⟩,.inr rfl⟩,od,an⟩
             have:=al.tri z J N _ _ _ _ _ S aQ aa aR aS;omega
            ·
             refine WP.skip<|WP.region<|ov 138 (Y (.ofNat (N+1))) ?_ (fun _ _ _=>by rw[<-gM (show N+1<9223372036854775808 by omega)];kernel_rfl)
             refine oN 1<|⟨W.l.length-(N+1),om,rfl,rfl,N+1,om,U,?_,?_,?_⟩
             · exact bV
             · exact ap
             · intro b0 hm
               rcases fo.1 hm with hm|rfl
               · exact bt b0 hm
               · intro cM cN a b c h1 D h3 h4 cp
                 rw[S]at h1;cases h1;rw[aQ]at D;cases D;rw[aa]at h3;cases h3;rw[aR]at h4;cases h4;rw[aS]at cp;cases cp
                 omega
           ·
            refine WP.exit<|WP.region<|ov 139 (Y (.ofNat (J+1))) ?_ (fun _ _ _=>by rw[<-gM (show J+1<9223372036854775808 by omega)];kernel_rfl)
            refine oN 1<|⟨L.l.length-(J+1),om,rfl,rfl,J+1,om,U,?_,?_,?_⟩
            · exact od
            · exact(ao.trans ap bU)
            · intro bZ m hj
              rcases fo.1 hj with hj|rfl
              · exact bs bZ m hj
              · rcases Nat.lt_or_ge m W.l.length with hm|hm
                · exact bt m om
                · intro cM cN a b c h1 D h3 h4;rw[aa]at h3;cases h3;rw[List.getElem?_eq_none hm]at h4;cases h4
          ·
           exact⟨0,om,U,e9 _,HE.refl _ _,(fun _ h=>absurd h (fz _))⟩
         ·
          refine WP.exit<|WP.region<|ov 140 (Y (.ofNat (z+1))) ?_ (fun _ _ _=>by rw[<-gM (show z+1<9223372036854775808 by omega)];kernel_rfl)
          refine oN 1<|⟨(K.fp.l.length+1)-(z+1),om,rfl,rfl,z+1,om,U,?_,?_,?_⟩
          · exact od
          · exact(aL.trans ao bT)
          · intro bY j m hi
            rcases fo.1 hi with hi|rfl
            · exact bL bY j m hi
            · rcases Nat.lt_or_ge j L.l.length with hj|hj
              · exact bs j m om
              · intro cM cN a b c h1 D;rw[S]at h1;cases h1;rw[List.getElem?_eq_none hj]at D;cases D
        ·
         exact⟨0,om,U,e9 _,HE.refl _ _,(fun _ _ h=>absurd h (fz _))⟩
       ·
        refine WP.exit<|sr<|oW 1 ⟨rfl,rfl,[Y 0],U,?_⟩
        refine⟨⟨0,rfl,⟨fun _=>?_,fun _=>rfl⟩,.inl rfl⟩,od,aI⟩
        refine⟨om,om,fun j s hs=>bK j s (by have:=(fe.1 hs).1;omega) hs,fun j r hr=>aN j r (by have:=(fe.1 hr).1;omega) hr,fun i j m=>?_⟩
        rcases gp i (K.fp.l.length+1)with hi|hi
        · exact bL i j m om
        · intro cM cN a b c h1;rw[List.getElem?_eq_none om]at h1;cases h1
      ·
       exact⟨0,om,U,e9 _,HE.refl _ _,(fun _ _ _ h=>absurd h (fz _))⟩
    ·
     exact⟨0,om,U,e9 _,HE.refl _ _,(fun _ _ h=>absurd h (fz _))⟩
  ·
   exact⟨0,om,U,e9 _,HE.refl _ _,(fun _ _ h=>absurd h (fz _))⟩
theorem X8(O:Ht)(G:Nat):WF ex 111 [] O G (fG G O (wx (.agg (gP (⟨true,-1,0,0⟩:ja)).toArray))):=by
 refine wd Tryz.f111 2 [.cell 0 153] fun hE=>sr<|oA [.bool false,Y 0,Y 0,Y 0] uw fun jq iC hU=>?_
 refine WO.nil<|sr<|oX 1<|oS G (0) (.agg ⟨[.bool true,Y (-1),Y 0,Y 0]⟩) [.bool true,Y (-1),Y 0,Y 0] [.bool true,Y (-1),Y 0,Y 0] li rfl rfl hU fun j jl b e=>?_
 refine wr ⟨rfl,rfl,[.agg ⟨[.bool true,Y (-1),Y 0,Y 0]⟩],(sL (by rw[show(fV (.tmp 0)).run _=pt G 0 from by kernel_rfl];exact jO rZ li b rfl)),?_⟩
 exact⟨rfl,od,((hE.trans iC).trans jl)⟩
theorem BT(K:j8)(x:ja)(O:Ht)(G:Nat)(hK:nZ O G K):WF ex 57 [.agg (jc K).toArray,.agg (gP x).toArray] O G (fG G O (VR (tQ K/\uv K x))):=by
 refine wd Tryz.f57 47 [.tmp 4] fun hE=>sr<|oB (.agg (jc K).toArray) (jc K) fun jq iC hU=>?_
 refine oB (.agg (gP x).toArray) (gP x) fun af J W=>?_
 have C:=(hE.trans iC).trans J
 have F:=J.get hU
 refine oN 1<|WP.seq<|sr<|WO.cons (WC.im G (0) (jc K) U xK vM F rfl<|WO.cons (WC.call 8 55 ([.agg (jc K).toArray]) kf ((CX K af (G+1+1) (hK.mono C)).mono ?_)))
 rintro _ M ab ⟨⟨z21,rfl,y,ay⟩,xq,jx⟩
 have j:=C.trans jx
 have b:=jx.get W
 refine oN 1<|sr<|oX 1 ?_
 refine oq 10 (qG z21 0) fun aC ag=>WO.nil<|cq ag (fun p=>?_) (fun p=>?_)
 ·
  refine sr<|oW 2 ⟨rfl,rfl,[Y z21],U,?_⟩
  refine⟨⟨z21,rfl,⟨fun h=>?_,fun o=>?_⟩⟩,od,j⟩
  · exact absurd h p
  · exact absurd ((y).2 o.1) p
 ·
  refine WP.skip<|sr<|oX 1<|oZ (G+1) (0+1) (Y x.lh) ft b rfl ?_
  refine oq 14 (pF (-1) x.lh) fun e ah=>oX 1<|gT 15 e (pt (G+1) (0+1))<|lu 15 e (G+1) (0+1) (Y x.lh) ft b rfl<|gT 15 e (pt G 0) ?_
  obtain⟨a32,ac,aa⟩:=hK.fp.shape
  have aw:=hK.fp.2.2
  refine lu 15 e G 0 (.slice a32 (K.fp.l.length) ac) y7 (jx.get F) (by rw[<-aa];rfl)<|gT 15 e (Y (.ofNat (K.fp.l.length))) ?_
  refine qu 15 e (nE x.lh K.fp.l.length) fun aD ai=>?_
  refine mT 22 (nA ah ai) fun A aj=>oX 1<|gT 23 A (pt (G+1) (0+2))<|lu 23 A (G+1) (0+2) (Y x.g_) ft b rfl ?_
  refine qu 23 A (pF (-288230376151711744) x.g_) fun aE ak=>?_
  refine mT 27 (nA aj ak) fun m al=>oX 1<|gT 28 m (pt (G+1) (0+2))<|lu 28 m (G+1) (0+2) (Y x.g_) ft b rfl<|gT 28 m (pt (G+1) (0+3))<|lu 28 m (G+1) (0+3) (Y x.gU) ft b rfl ?_
  refine qu 28 m (pF x.g_ x.gU) fun aF am=>?_
  refine mT 34 (nA al am) fun B an=>oX 1<|gT 35 B (pt (G+1) (0+3))<|lu 35 B (G+1) (0+3) (Y x.gU) ft b rfl ?_
  refine qu 35 B (pF x.gU 288230376151711744) fun aG ao=>?_
  refine mT 39 (nA an ao) fun aH ap=>oN 1<|WP.seq<|sr<|oX 1 ?_
  obtain⟨ad,ae,aq⟩:=@nb (x.jV) (x.jV=true) (by first|done|exact gf)
  refine oZ (G+1) 0 (.bool ad) w8 b (by rw[ae];rfl)<|WO.nil<|cq aq (fun u=>?_) (fun u=>?_)
  ·
   refine WP.qN [⟨[0],[0],some 1⟩,⟨[2],[0,2],some 3⟩,⟨[],[],none⟩] U _ rfl<|WD.kQ<|WN.hQ rfl (WC.im (G+1) (0) (gP x) U rZ li b rfl<|WN.nil ⟨?_,?_⟩)
   ·
    refine co (.agg (gP x).toArray) (j9 ex.T M.get 153 (pt (G+1) 0)) (jO rZ li b rfl) (yZ x) ?_
    exact iX.nil
   refine WC.at rfl (WC.call 43 111 ([]) kf ((X8 M (ab)).mono ?_))
   rintro _ X aB ⟨rfl,az,L⟩
   have E:=j.trans L
   refine WD.kQ ?_
   obtain⟨z,S,ar⟩:=@nb (@decide (x=(⟨true,-1,0,0⟩:ja)) (Classical.propDecidable _)) (x=(⟨true,-1,0,0⟩:ja)) (@decide_eq_true_iff _ (Classical.propDecidable _))
   refine WN.hQ rfl (WC.me (v:=.bool z) 44 (zN ex.T .eql 153 (.tmp 42) (.tmp 43) (.agg (gP x).toArray) (.agg (gP (⟨true,-1,0,0⟩:ja)).toArray)) kf (CV _ _ x (⟨true,-1,0,0⟩:ja) S)<|WN.nil ⟨?_,?_⟩)
   ·
    refine co (.agg (gP x).toArray) (j9 ex.T X.get 153 (pt (G+1) 0)) (jO rZ li (L.get b) rfl) (yZ x)<|co (.bool z) (zN ex.T .eql 153 (.tmp 42) (.tmp 43) (.agg (gP x).toArray) (.agg (gP (⟨true,-1,0,0⟩:ja)).toArray)) ((CV _ _ x (⟨true,-1,0,0⟩:ja) S)) (iH 8 z) ?_
    exact iX.nil
   refine WC.at rfl (WC.val 6 (.bool z) kf<|WD.last<|WN.nil ⟨?_,?_⟩)
   ·
    exact iX.nil
   refine WP.seq<|sr<|oX 1 ?_
   refine oq 46 (nN ar) fun aI au=>WO.nil<|cq au (fun N=>?_) (fun N=>?_)
   ·
    refine sr<|oW 1 ⟨rfl,rfl,[Y 230],U,?_⟩
    refine⟨⟨230,rfl,⟨fun h=>absurd h (by decide),fun o=>?_⟩⟩,od,E⟩
    exact absurd (o.2.1 u) N
   ·
    refine WP.skip<|sr<|oW 1 ⟨rfl,rfl,[Y 0],U,?_⟩
    refine⟨⟨0,rfl,⟨fun _=>?_,fun _=>rfl⟩⟩,od,E⟩
    exact⟨(y).1 (fg.1 p),fun _=>fg.1 N,fun hf=>by rw[u]at hf;cases hf⟩
  ·
   refine WP.skip<|WP.seq<|sr<|oX 1 ?_
   refine oq 46 (nN ap) fun aJ av=>WO.nil<|cq av (fun R=>?_) (fun R=>?_)
   ·
    refine sr<|oW 1 ⟨rfl,rfl,[Y 230],U,?_⟩
    refine⟨⟨230,rfl,⟨fun h=>absurd h (by decide),fun o=>?_⟩⟩,od,j⟩
    exact absurd (by have ax:=o.2.2 (gy.2 u);omega) R
   ·
    refine WP.skip<|sr<|oW 1 ⟨rfl,rfl,[Y 0],U,?_⟩
    refine⟨⟨0,rfl,⟨fun _=>?_,fun _=>rfl⟩⟩,od,j⟩
    exact⟨(y).1 (fg.1 p),fun aA=>absurd aA u,fun _=>by have ax:=fg.1 R;omega⟩
theorem Uq(K:j8)(O:Ht)(G:Nat)(hK:nZ O G K):WF ex 24 [.agg (jc K).toArray] O G (fG G O (Ju True)):=by
 refine wd Tryz.f24 28 [.tmp 2] fun hE=>sr<|oB (.agg (jc K).toArray) (jc K) fun jq iC hU=>?_
 have kW:=hE.trans iC
 refine oN 1<|WP.seq<|sr<|oX 1 ?_
 obtain⟨af,ag,C⟩:=hK.fp.shape
 have ab:=hK.fp.2.2
 refine oZ G 0 (.slice af (K.fp.l.length) ag) y7 hU (by rw[<-C];rfl)<|oX 1 ?_
 refine oq 7 (nE 8 K.fp.l.length) fun u L=>oX 1<|gF 8 u (pt G (0+1)) ?_
 obtain⟨a12,nu,e⟩:=hK.gz.1.shape
 have ac:=hK.gz.1.2.2
 refine nF 8 u G (0+1) (.slice a12 (K.gz.l.length) nu) sF hU (by rw[<-e];rfl)<|gF 8 u (Y (.ofNat (K.gz.l.length))) ?_
 refine nm 8 u (nE 10 K.gz.l.length) fun rO uW=>?_
 refine mz 13 (nO L uW) fun ak M=>WO.nil<|cq M (fun S=>?_) (fun S=>?_)
 ·
  refine sr<|oW 1 ⟨rfl,rfl,[.bool false],U,?_⟩
  refine⟨⟨false,rfl,fun hc=>?_⟩,od,kW⟩
  cases hc
 ·
  refine WP.skip<|WP.seq<|sr<|oN 1<|WP.block ?_
  refine mg [1,3] (fun m hs ns vs=>∃(b:Nat),b+m=K.gz.l.length/\vs=[pt G 0,Y (.ofNat b)]/\G+1<=ns/\HE (G+1) jq hs) ?_ (K.gz.l.length) ?_
  ·
   rintro ai ah aj _ ⟨b,aa,rfl,B,o⟩ ae
   have j:=kW.trans o
   have A:=o.get hU
   refine WP.seq<|sr<|oX 2<|oZ G (0+1) (.slice a12 (K.gz.l.length) nu) sF A (by rw[<-e];rfl)<|oX 1 ?_
   refine oq 18 (kL b K.gz.l.length) fun al N=>WO.nil<|cq N (fun W=>?_) (fun W=>?_)
   ·
    refine WP.skip<|WP.seq<|WP.block<|sr<|oX 1<|oZ G (0+1) (.slice a12 (K.gz.l.length) nu) sF A (by rw[<-e];rfl)<|oX 1 ?_
    have y:b<K.gz.l.length:=by omega
    refine WO.cons (WC.iy e hK.gz.1 (b) u_ tS (y) ?_)
    obtain⟨z,p⟩:=gE y
    obtain⟨F,J,E⟩:=(hK.gz.2 z (cs p)).shape
    have ad:=(hK.gz.2 z (cs p)).2.2
    refine WO.cons (WC.lz (.slice F (z.l.length) J) e (hK.gz.1.mono j nR) p (by rw[<-E];rfl) lF<|oX 1 ?_)
    refine oq 27 (nE 12 z.l.length) fun am R=>WO.nil<|cq R (fun X=>?_) (fun X=>?_)
    ·
     refine sr<|oW 1 ⟨rfl,rfl,[.bool false],U,?_⟩
     refine⟨⟨false,rfl,fun hc=>?_⟩,od,j⟩
     cases hc
    ·
     refine WP.skip<|WP.region<|oX 1<|ov 20 (Y (.ofNat (b+1))) ?_ (fun _ _ _=>by rw[<-gM (show b+1<9223372036854775808 by omega)];kernel_rfl)
     refine oN 1<|⟨K.gz.l.length-(b+1),om,rfl,rfl,b+1,om,U,?_,?_⟩
     · exact B
     · exact o
   ·
    refine WP.exit<|sr<|oW 1 ⟨rfl,rfl,[.bool true],U,?_⟩
    refine⟨⟨true,rfl,fun hc=>?_⟩,od,j⟩
    trivial
  ·
   exact⟨0,om,U,e9 _,HE.refl _ _⟩
theorem Ur(F:ji)(O:Ht)(G:Nat)(A:km O G F):WF ex 7 [.agg (gK F).toArray] O G (fG G O (Ju (V3 F))):=by
 refine wd Tryz.f7 62 [.tmp 2] fun hE=>sr<|oB (.agg (gK F).toArray) (gK F) fun jq iC hU=>?_
 have kW:=hE.trans iC
 refine oN 1<|sr<|oN 1<|WP.seq<|sr<|oX 1 ?_
 obtain⟨al,am,C⟩:=A.e6.1.shape
 have aO:=A.e6.1.2.2
 refine oZ G (0+3) (.slice al (F.e6.l.length) am) nX hU (by rw[<-C];rfl)<|oX 1 ?_
 refine oq 10 (nE 6 F.e6.l.length) fun W aB=>oX 1<|gF 11 W (pt G (0+2)) ?_
 obtain⟨a12,nu,au⟩:=A.gb.shape
 have aP:=A.gb.2.2
 refine nF 11 W G (0+2) (.slice a12 (F.gb.l.length) nu) xL hU (by rw[<-au];rfl)<|gF 11 W (Y (.ofNat (F.gb.l.length))) ?_
 refine nm 11 W (nE 3 F.gb.l.length) fun rO uW=>?_
 refine mz 16 (nO aB uW) fun B ak=>oX 1<|gF 17 B (pt G 0)<|xJ 17 B (.agg (jc F.fq).toArray) (by rintro rfl;exact WC.im G 0 (jc F.fq) U xK vM hU rfl rfl)<|WO.cons (WC.gq (!B) (GI (!B) (True) (G+1) jq) (.bool B) (g:=fV (.tmp 17)) rfl U (by cases B<;>rfl) (fun h=>by obtain rfl:B=false:=(by simpa using h);have bo:¬(((6)<((F.e6.l.length:Nat):Int))\/((3)<((F.gb.l.length:Nat):Int))):=(fun k=>absurd ((ak).2 k) (by decide));exact WC.call 20 24 ([.agg (jc F.fq).toArray]) kf ((Uq F.fq jq (G+1) (A.fq.mono kW)).mono fun v eZ e5 ⟨⟨c,aZ,hc⟩,hn,he⟩=>⟨_,_,_,rfl,⟨c,aZ,hc⟩,hn,he⟩)) (fun h=>GI.off h) ?_)
 rintro _ ar ai ⟨⟨sw,rfl,bc⟩,xq,jx⟩
 have vN:sw=true↔(sw=true):=gf
 have ad:=kW.trans jx
 refine nm 17 B (nN vN) fun be aC=>?_
 refine mz 22 (nO ak aC) fun bf aD=>WO.nil<|cq aD (fun wJ=>?_) (fun wJ=>?_)
 ·
  refine sr<|oW 1 ⟨rfl,rfl,[.bool false],U,?_⟩
  refine⟨⟨false,rfl,fun hc=>?_⟩,od,ad⟩
  cases hc
 ·
  refine WP.skip<|WP.seq<|sr<|oN 1<|WP.block ?_
  refine mg [1,3,4] (fun m hs ns vs=>∃(p:Nat) (S:Nat),p+m=F.e6.l.length/\vs=[pt G 0,Y (.ofNat S),Y (.ofNat p)]/\ai<=ns/\HE (ai) ar hs/\(S<=1407374883553280*p)/\(∀(j:Nat) (r:ic),j<p->F.e6.l[j]?=some r->r.lq.l.length<=8/\r.fQ.l.length<=5/\Ab r<=S)) ?_ (F.e6.l.length) ?_
  ·
   rintro a6 aV z _ ⟨p,S,aM,rfl,ap,R,bl,ah⟩ aS
   have M:=ad.trans R
   have ae:=R.get (jx.get hU)
   refine WP.seq<|sr<|oX 2<|oZ G (0+3) (.slice al (F.e6.l.length) am) nX ae (by rw[<-C];rfl)<|oX 1 ?_
   refine oq 27 (kL p F.e6.l.length) fun bg aE=>WO.nil<|cq aE (fun aJ=>?_) (fun aJ=>?_)
   ·
    refine WP.skip<|WP.seq<|WP.block<|sr<|oX 1<|oZ G (0+3) (.slice al (F.e6.l.length) am) nX ae (by rw[<-C];rfl)<|oX 1 ?_
    have aa:p<F.e6.l.length:=by omega
    refine WO.cons (WC.iy C A.e6.1 (p) uh mJ (aa) ?_)
    obtain⟨e,y⟩:=gE aa
    refine WO.cons (WC.ly C (A.e6.1.mono M nR) y y6 mJ<|oA [Y 0,.slice none (0) 0,.slice none (0) 0] BS fun aW oJ ao=>?_)
    refine oS z (0) (.agg (iV e).toArray) (iV e) (iV e) mJ rfl (e7.2 ⟨rfl,xk _ (A.e6.2 e (cs y))⟩) ao fun vj ag N aU=>?_
    have wQ:=(M.trans oJ).trans ag
    refine WO.nil<|WP.seq<|sr<|oX 1 ?_
    obtain⟨a66,ay,av⟩:=(A.e6.2 e (cs y)).lq.shape
    have aQ:=(A.e6.2 e (cs y)).lq.2.2
    refine oZ z (0+1) (.slice a66 (e.lq.l.length) ay) lF N (by rw[<-av];rfl)<|oX 1 ?_
    refine oq 38 (nE 8 e.lq.l.length) fun X aF=>oX 1<|gF 39 X (pt z (0+2)) ?_
    obtain⟨a70,Ak,E⟩:=(A.e6.2 e (cs y)).fQ.1.shape
    have aR:=(A.e6.2 e (cs y)).fQ.1.2.2
    refine nF 39 X z (0+2) (.slice a70 (e.fQ.l.length) Ak) ql N (by rw[<-E];rfl)<|gF 39 X (Y (.ofNat (e.fQ.l.length))) ?_
    refine nm 39 X (nE 5 e.fQ.l.length) fun bh aG=>?_
    refine mz 44 (nO aF aG) fun bj aH=>WO.nil<|cq aH (fun aK=>?_) (fun aK=>?_)
    ·
     refine sr<|oW 1 ⟨rfl,rfl,[.bool false],U,?_⟩
     refine⟨⟨false,rfl,fun hc=>?_⟩,od,wQ⟩
     cases hc
    ·
     refine WP.skip<|sr<|oN 1<|WP.block ?_
     refine mg [1,3,4,5,6] (fun m hs ns vs=>∃(u:Nat) (n2:Nat),u+m=e.fQ.l.length/\vs=[pt G 0,Y (.ofNat n2),Y (.ofNat p),pt z 0,Y (.ofNat u)]/\z+1<=ns/\HE (z+1) vj hs/\(n2<=1407374883553280*p+281474976710656*u)/\(n2=S+((e.fQ.l.take u).map (fun o=>o.l.length)).sum)) ?_ (e.fQ.l.length) ?_
     ·
      rintro a7 aX a_ _ ⟨u,n2,aN,rfl,aq,K,yb,aY⟩ aT
      have an:=wQ.trans K
      have af:=K.get N
      refine WP.seq<|sr<|oX 2<|oZ z (0+2) (.slice a70 (e.fQ.l.length) Ak) ql af (by rw[<-E];rfl)<|oX 1 ?_
      refine oq 49 (kL u e.fQ.l.length) fun bk aI=>WO.nil<|cq aI (fun aL=>?_) (fun aL=>?_)
      ·
       refine WP.skip<|WP.seq<|WP.block<|WP.region<|oX 2<|oZ z (0+2) (.slice a70 (e.fQ.l.length) Ak) ql af (by rw[<-E];rfl)<|oX 1 ?_
       have ab:u<e.fQ.l.length:=by omega
       refine WO.cons (WC.iy E ((A.e6.2 e (cs y)).fQ.1) (u) tT sv (ab) ?_)
       obtain⟨J,L⟩:=gE ab
       obtain⟨ax,az,aj⟩:=((A.e6.2 e (cs y)).fQ.2 J (cs L)).shape
       have aA:=((A.e6.2 e (cs y)).fQ.2 J (cs L)).2.2
       refine WO.cons (WC.lz (.slice ax (J.l.length) az) E ((A.e6.2 e (cs y)).fQ.1.mono an nR) L (by rw[<-aj];rfl) tR<|oX 1<|ov 59 (Y (.ofNat (n2+J.l.length))) ?_ (fun _ _ _=>by rw[<-gM (show n2+J.l.length<9223372036854775808 by omega)];kernel_rfl))
       refine oN 1<|WP.region<|oX 1<|ov 51 (Y (.ofNat (u+1))) ?_ (fun _ _ _=>by rw[<-gM (show u+1<9223372036854775808 by omega)];kernel_rfl)
       refine oN 1<|⟨e.fQ.l.length-(u+1),om,rfl,rfl,u+1,n2+J.l.length,om,U,?_,?_,?_,?_⟩
       · exact aq
       · exact K
       · first|omega|(dsimp only;omega)
       · rw[List.take_add_one,List.map_append,List.sum_append,L]
         simp only[Option.toList_some,List.map_cons,List.map_nil,List.sum_cons,List.sum_nil]
         omega
      ·
       refine WP.exit<|WP.region<|oX 1<|ov 29 (Y (.ofNat (p+1))) ?_ (fun _ _ _=>by rw[<-gM (show p+1<9223372036854775808 by omega)];kernel_rfl)
       refine oN 1<|⟨F.e6.l.length-(p+1),om,rfl,rfl,p+1,n2,om,U,?_,?_,?_,?_⟩
       · exact od
       · exact(((R.trans oJ ap).trans ag).trans K)
       · first|omega|(dsimp only;omega)
       · intro j bd hj hs
         rcases fo.1 hj with hj|rfl
         · obtain⟨a,b,c⟩:=ah j bd hj hs;exact⟨a,b,om⟩
         · rw[y]at hs;cases hs
           refine⟨om,om,?_⟩
           have:(e.fQ.l.take u).map (fun o=>o.l.length)=e.fQ.l.map (fun o=>o.l.length):=by rw[List.take_of_length_le om]
           unfold Ab;rw[<-this];omega
     ·
      exact⟨0,S,om,U,e9 _,HE.refl _ _,om,(by simp)⟩
   ·
    refine WP.exit<|sr<|oX 1 ?_
    refine oq 61 (G_ S 60) fun ac aw=>oW 1 ⟨rfl,rfl,[.bool ac],U,?_⟩
    refine⟨⟨ac,rfl,fun hc=>?_⟩,od,M⟩
    have bn:=(aw).1 hc
    refine⟨om,om,fun r hr=>?_⟩
    obtain⟨j,hj⟩:=fJ hr
    obtain⟨a,b,c⟩:=ah j r (by have:=(fe.1 hj).1;omega) hj
    exact⟨a,b,om⟩
  ·
   exact⟨0,0,om,U,e9 _,HE.refl _ _,(gG _),(fun _ _ h=>absurd h (fz _))⟩
theorem Us{p:Prop}(h:p:=by
 obtain⟨a1,c2,hR⟩:=hK.1.shape
 have lU:=hK.1.2.2
 rw[hR]
 refine Gr mC fun hE=>sr<|oN 1<|WP.seq<|sr<|oN 3<|WP.block ?_
 refine mg [0,1,7,8] (fun m hs ns vs=>∃(fR:Nat),fR+m=K.l.length/\vs=[.slice a1 (K.l.length) c2,.func (.func f) #[] b,Y (.ofNat (K.l.length)),Y (.ofNat fR)]/\G<=ns/\HE (G) O hs/\(∀(j:Nat) (y:_),j<fR->K.l[j]?=some y->¬A y)) ?_ (K.l.length) ?_
 ·
  rintro xM p_ iY _ ⟨fR,ui,rfl,oF,jl,hinv⟩ uj
  have j2:=hE.trans jl
  refine sr ?_
  refine oq 9 (kL fR K.l.length) fun nu rM=>WO.nil<|WP.seq<|cq rM (fun w9=>?_) (fun w9=>?_)
  ·
   refine WP.skip<|WP.seq<|WP.block<|sr<|oN 2<|sr<|oX 3 ?_
   have nz:fR<K.l.length:=by omega
   refine WO.cons (WC.iy hR hK.1 (fR) nC pa (nz) ?_)
   obtain⟨lv,kB⟩:=gE nz
   refine WO.cons (WC.ly hR (hK.1.mono j2 nR) kB sY pa<|WO.cons (WC.call 16 f ((.agg (pu lv).toArray)::b.toList) kf ((hf fR lv kB p_ (iY) om j2).mono ?_)))
   rintro _ JD Un ⟨⟨Fa,rfl,CW⟩,Uo,uk⟩
   refine WO.nil<|cq CW (fun wJ=>?_) (fun wJ=>?_)
   ·
    refine sr<|oW 2 ⟨rfl,rfl,[Y (.ofNat fR)],U,?_⟩
    exact⟨.inr ⟨fR,lv,rfl,kB,wJ,hinv⟩,od,(j2.trans uk)⟩
   ·
    refine WP.skip<|WP.region<|ov 18 (Y (.ofNat (fR+1))) ?_ (fun _ _ _=>by rw[<-gM (show fR+1<9223372036854775808 by omega)];kernel_rfl)
    refine oN 1<|⟨K.l.length-(fR+1),om,rfl,rfl,fR+1,om,U,?_,?_,?_⟩
    · exact od
    · exact(jl.trans uk oF)
    · intro j y hj hy;rcases fo.1 hj with hj|rfl;exact hinv j y hj hy;rw[kB]at hy;cases hy;exact wJ
  ·
   refine WP.exit<|sr<|oW 1 ⟨rfl,rfl,[Y (-1)],U,?_⟩
   refine⟨.inl ⟨rfl,fun y hy=>?_⟩,od,j2⟩
   obtain⟨j,hj⟩:=fJ hy
   exact hinv j y (by have:=(fe.1 hj).1;omega) hj
 ·
  exact⟨0,om,U,e9 _,HE.refl _ _,(fun j y h=>absurd h (fz _))⟩):p:=h
theorem Ef{A:ic->Prop}(K:SV ic)(f:FuncId)(b:Array Value)(O:Ht)(G:Nat)(hK:ju iV 3 (fun O G y=>mf O G y) O G K)(hf:∀(i:Nat) (x:ic),K.l[i]?=some x->∀(eZ:Ht) (e5:Nat),G<=e5->HE G O eZ->WF ex f ((.agg (iV x).toArray)::b.toList) eZ e5 (fG e5 eZ (ga (A x)))):WF ex 34 [K.v,.func (.func f) #[] b] O G (fG G O (pW K.l A)):=by
 have mC:=fF (e:=ex) 34 Tryz.f34 19 [.tmp 4]
 have nC:=@uh
 have pa:=@mJ
 have sY:=@y6
 let pu:=iV
 exact Us
theorem MZ{p:Prop}(h:p:=by
 obtain⟨a1,c2,hR⟩:=hK.1.shape
 have lU:=hK.1.2.2
 rw[hR]
 refine Gr mC fun hE=>sr<|oN 1<|sr<|oX 2<|WO.cons (WC.call 7 _ ([K.v,.func (.func f) #[] b]) (fun _ _ _=>by(try rw[hR]);kernel_rfl) ((nC K f b O (G) hK hf).mono ?_))
 rintro R8 Ee Iv ⟨BH,MX,pC⟩
 obtain⟨z8,rfl,R9⟩:∃z:Int,R8=Y z/\(0<=z↔∃x∈K.l,A x):=pW.sign BH
 refine oq 8 (pF 0 z8) fun nM rN=>oW 1 ⟨rfl,rfl,[.bool nM],U,?_⟩
 exact⟨⟨nM,rfl,rN.trans R9⟩,od,(hE.trans pC)⟩):p:=h
theorem xu{A:ic->Prop}(K:SV ic)(f:FuncId)(b:Array Value)(O:Ht)(G:Nat)(hK:ju iV 3 (fun O G y=>mf O G y) O G K)(hf:∀(i:Nat) (x:ic),K.l[i]?=some x->∀(eZ:Ht) (e5:Nat),G<=e5->HE G O eZ->WF ex f ((.agg (iV x).toArray)::b.toList) eZ e5 (fG e5 eZ (ga (A x)))):WF ex 61 [K.v,.func (.func f) #[] b] O G (fG G O (ga (∃x∈K.l,A x))):=by
 have mC:=fF (e:=ex) 61 Tryz.f61 9 [.tmp 4]
 have nC:=@Ef
 exact MZ
theorem M0(x:ic)(w b:Nat)(O:Ht)(G:Nat)(hx:mf O G x)(hb:O.get b=some (.cells [Y (.ofNat w)] gi.plain))(jA:b<G)(hw:w<x.fQ.l.length):WF ex 112 [.agg (iV x).toArray,pt b 0] O G (fG G O (ga (∃o,x.fQ.l[w]?=some o/\o.l=[]))):=by
 refine wd Tryz.f112 11 [.tmp 3] fun hE=>sr<|oB (.agg (iV x).toArray) (iV x) fun jq iC hU=>?_
 have kW:=hE.trans iC
 refine oN 1<|sr<|oX 1 ?_
 obtain⟨z,B,j⟩:=hx.fQ.1.shape
 have F:=hx.fQ.1.2.2
 refine oZ G (0+2) (.slice z (x.fQ.l.length) B) ql hU (by rw[<-j];rfl)<|oZ b (0) (Y (.ofNat w)) ft (iC.get hb jA) rfl ?_
 have m:w<x.fQ.l.length:=by omega
 refine WO.cons (WC.iy j hx.fQ.1 (w) tT sv (m) ?_)
 obtain⟨p,e⟩:=gE m
 obtain⟨A,C,y⟩:=(hx.fQ.2 p (cs e)).shape
 have J:=(hx.fQ.2 p (cs e)).2.2
 refine WO.cons (WC.lz (.slice A (p.l.length) C) j (hx.fQ.1.mono kW nR) e (by rw[<-y];rfl) tR<|oX 1 ?_)
 refine oq 10 (vK p.l.length 0) fun u E=>oW 1 ⟨rfl,rfl,[.bool u],U,?_⟩
 refine⟨⟨u,rfl,?_⟩,od,kW⟩
 rw[E]
 constructor
 · intro h;exact⟨_,e,fP om⟩
 · rintro ⟨o,h1,D⟩;rw[e]at h1;cases h1;rw[D];rfl
theorem M1(F:ji)(O:Ht)(G:Nat)(y:km O G F)(hlen:∀r∈F.e6.l,r.fQ.l.length=F.gb.l.length+1):WF ex 58 [.agg (gK F).toArray] O G (fG G O (ga (X6 F))):=by
 refine wd Tryz.f58 17 [.tmp 2] fun hE=>sr<|oB (.agg (gK F).toArray) (gK F) fun jq iC hU=>?_
 refine oN 1<|WP.seq<|sr<|oX 1 ?_
 obtain⟨ai,aj,S⟩:=y.gb.shape
 have ag:=y.gb.2.2
 refine oZ G (0+2) (.slice ai (F.gb.l.length) aj) xL hU (by rw[<-S];rfl)<|oX 1<|ov 7 (Y (.ofNat (F.gb.l.length+1))) ?_ (fun _ _ _=>by rw[<-gM (show F.gb.l.length+1<9223372036854775808 by omega)];kernel_rfl)
 refine oN 1<|WP.block ?_
 refine mg [1,7,8] (fun m hs ns vs=>∃(gY:Nat),gY+m=(F.gb.l.length+1)/\vs=[pt G 0,Y (.ofNat (F.gb.l.length+1)),Y (.ofNat gY)]/\G+1<=ns/\HE (G+1) jq hs/\(∀j,j<gY->¬q_ F j)) ?_ ((F.gb.l.length+1)) ?_
 ·
  rintro Fc ak b _ ⟨gY,af,rfl,M,p,J⟩ BU
  have z:=(hE.trans iC).trans p
  refine sr ?_
  refine oq 9 (kL gY (F.gb.l.length+1)) fun am ab=>WO.nil<|WP.seq<|cq ab (fun ae=>?_) (fun ae=>?_)
  ·
   refine WP.skip<|WP.seq<|WP.block<|sr<|oX 1<|oA [Y 0] AV fun al u K=>?_
   refine oS b (0) (Y (.ofNat gY)) [Y (.ofNat gY)] [Y (.ofNat gY)] kp rfl rfl K fun R B L N=>?_
   have e:=(z.trans u).trans B
   refine WO.nil<|sr<|oX 1 ?_
   obtain⟨a44,W,C⟩:=y.e6.1.shape
   have ah:=y.e6.1.2.2
   refine oZ G (0+3) (.slice a44 (F.e6.l.length) W) nX ((N G om).trans (u.get (p.get hU))) (by rw[<-C];rfl)<|oX 1<|WO.cons (WC.call 14 61 ([F.e6.v,.func (.func 112) #[] #[pt b 0]]) (fun _ _ _=>by(try rw[C]);kernel_rfl) ((xu (A:=fun x=>∃o,x.fQ.l[gY]?=some o/\o.l=[]) F.e6 112 #[pt b 0] R (b+1) (y.e6.mono (fun _ h he hn=>h.mono he hn) e) (fun i x hx eZ e5 hn he=>M0 x (gY) b eZ e5 (((y.e6.2 x (cs hx)).mono e).mono he hn) (he.get L) (e4 (fb (b)) hn) (by have:=hlen x (cs hx);omega))).mono ?_))
   rintro _ pH oK ⟨⟨an,rfl,ac⟩,Cp,oJ⟩
   refine oq 15 (nN ac) fun ao ad=>WO.nil<|cq ad (fun E=>?_) (fun E=>?_)
   ·
    refine sr<|oW 1 ⟨rfl,rfl,[.bool true],U,?_⟩
    refine⟨⟨true,rfl,⟨fun _=>?_,fun _=>rfl⟩⟩,od,(e.trans oJ)⟩
    refine⟨gY,om,fun r hr=>?_⟩
    have hl:=hlen r hr
    obtain⟨o,X⟩:∃o,r.fQ.l[gY]?=some o:=⟨_,ff om⟩
    exact⟨o,X,fun h0=>E ⟨r,hr,o,X,h0⟩⟩
   ·
    refine WP.skip<|WP.region<|ov 16 (Y (.ofNat (gY+1))) ?_ (fun _ _ _=>by rw[<-gM (show gY+1<9223372036854775808 by omega)];kernel_rfl)
    refine oN 1<|⟨(F.gb.l.length+1)-(gY+1),om,rfl,rfl,gY+1,om,U,?_,?_,?_⟩
    · exact od
    · exact(((p.trans u M).trans B).trans oJ)
    · intro j hj
      rcases fo.1 hj with hj|rfl
      · exact J j hj
      · intro eZ
        obtain⟨x,hx,o,h1,D⟩:=fg.1 E
        obtain⟨o',h3,h4⟩:=eZ x hx
        rw[h1]at h3;cases h3;exact h4 D
  ·
   refine WP.exit<|sr<|oW 1 ⟨rfl,rfl,[.bool false],U,?_⟩
   refine⟨⟨false,rfl,⟨fun h=>(by cases h),fun aa=>False.elim ?_⟩⟩,od,z⟩
   obtain⟨w,h1,D⟩:=aa
   exact J w om D
 ·
  exact⟨0,om,U,e9 _,HE.refl _ _,(fun _ h=>absurd h (fz _))⟩
theorem Ut(x:ic)(e:Int)(b:Nat)(O:Ht)(G:Nat)(hx:mf O G x)(hb:O.get b=some (.cells [Y e] gi.plain))(jA:b<G):WF ex 35 [.agg (iV x).toArray,pt b 0] O G (fG G O (ga (x.nl=e))):=by
 refine wd Tryz.f35 8 [.tmp 3] fun hE=>sr<|oB (.agg (iV x).toArray) (iV x) fun jq iC hU=>?_
 refine oN 1<|sr<|oX 1<|oZ G 0 (Y x.nl) ft hU rfl<|oZ b (0) (Y e) ft (iC.get hb jA) rfl ?_
 refine oq 7 (sN x.nl e) fun j m=>oW 1 ⟨rfl,rfl,[.bool j],U,?_⟩
 refine⟨⟨j,rfl,?_⟩,od,(hE.trans iC)⟩
 exact m
theorem M3(F:ji)(b:Int)(O:Ht)(G:Nat)(p:km O G F):WF ex 11 [.agg (gK F).toArray,Y b] O G (fG G O (Y_ F b)):=by
 refine wd Tryz.f11 14 [.tmp 4,.tmp 5] fun hE=>sr<|oB (.agg (gK F).toArray) (gK F) fun jq iC hU=>?_
 refine oB (Y b) [Y b] fun J m z=>?_
 have e:=(hE.trans iC).trans m
 refine oN 2<|sr<|oX 1 ?_
 obtain⟨a17,E,o⟩:=p.e6.1.shape
 have K:=p.e6.1.2.2
 refine oZ G (0+3) (.slice a17 (F.e6.l.length) E) nX (m.get hU) (by rw[<-o];rfl)<|oX 1<|WO.cons (WC.call 9 34 ([F.e6.v,.func (.func 35) #[] #[pt (G+1) 0]]) (fun _ _ _=>by(try rw[o]);kernel_rfl) ((Ef (A:=fun x=>x.nl=(b)) F.e6 35 #[pt (G+1) 0] J (G+1+1) (p.e6.mono (fun _ h he hn=>h.mono he hn) e) (fun i x hx eZ e5 hn he=>Ut x (b) (G+1) eZ e5 (((p.e6.2 x (cs hx)).mono e).mono he hn) (he.get z) (e4 (fb (G+1)) hn))).mono ?_))
 rintro R M N ⟨u,L,B⟩
 obtain⟨z24,rfl,C⟩:=pW.num u
 refine oN 1<|sr<|oX 3 ?_
 refine oq 13 (pF 0 z24) fun j y=>oW 2 ⟨rfl,rfl,[Y ((bif rI (z24) (0)then(0)else(z24))),.bool j],U,?_⟩
 refine⟨⟨_,_,rfl,?_⟩,od,(e.trans B)⟩
 rcases C with⟨rfl,h⟩|⟨i,x,rfl,h1,D,h3⟩
 · have:j=false:=Bool.eq_false_iff.2 fun k=>by have:=(y).1 k;omega
   exact .inl ⟨rfl,this,h⟩
 · have:j=true:=(y).2 (Int.natCast_nonneg i)
   exact .inr ⟨i,x,rfl,this,h1,D,h3⟩
theorem X9{p:Prop}(h:p:=by
 refine Gr mC fun hE=>sr<|oN 1<|WP.seq<|sr<|oX 1 ?_
 refine oq 6 (y5 n 0) fun c1 p1=>WO.nil<|WP.cond c1 U (fun D=>?_) (fun D=>?_)
 ·
  have q3:=(p1).1 D
  exact absurd q3 om
 ·
  have q3:=nq p1 D
  refine WP.skip<|WP.seq<|sr<|ov 8 (Y (.ofNat n))<|ov 9 (.slice none (0) 0)<|ov 10 (Y (.ofNat (0)))<|ov 11 (.slice none (0) 0)<|ov 12 (Y (.ofNat (0)))<|ov 13 (Y (.ofNat 0))<|ov 14 (Y (gn .i64 (.ofNat n-.ofNat 0))) ?_
  rw[show gn .i64 (.ofNat n-.ofNat 0)=.ofNat n from wrapN (n:=n) om]
  refine oN 1<|sr<|oX 1 ?_
  refine oq 16 (nE 0 n) fun c4 p4=>WO.nil<|cq p4 (fun q6=>?_) (fun q6=>?_)
  ·
   refine WP.region<|oX 5 ?_
   obtain⟨inf,pq,vu⟩:=nC
   have MB:0<n:=by omega
   refine WO.cons (WC.Kq 22 (jN ex.T O.get pu 3 (.slice none 0 0) (Y (.ofNat n)) G) rfl kf (K5 pa sY R_ pq (Um om) MB (by rfl) vu om) ?_)
   generalize ZK:jg _ _=X_
   have JE:Rm G ZL n X_ (G+2) (.slice (some ⟨G+1,0,none⟩) 0 n) 0 []:=by rw[<-ZK];exact Rm.fresh MB rfl
   have heG:HE G O X_:=by rw[<-ZK];exact Rm.Wx
   refine oX 2<|WO.cons (WC.me (v:=.slice (some ⟨G+1,0,none⟩) (0) n) 25 (sH ex.T X_.get pu (.slice (some ⟨G+1,0,none⟩) (n) n) none (some (Y (.ofNat 0))) none) kf (by cases JE with|room h0 hb hg jB h1 D h3 h4 hl hr hle=>exact Ou pa sY hb nR)<|oN 1<|sr<|oW 2 ⟨rfl,rfl,[.slice (some ⟨G+1,0,none⟩) (0) n],U,?_⟩)
   exact⟨JE,od,(hE.trans heG)⟩
  ·
   refine WP.skip<|sr<|oW 2 ⟨rfl,rfl,[.slice none (0) 0],U,?_⟩
   exact⟨.nil om,nR,hE⟩):p:=h
theorem WH(n:Nat)(O:Ht)(G:Nat)(hn:n<=60):WF ex 110 [.slice none (0) 0,Y (.ofNat n)] O G (fun v eZ e5=>Rm G 4 n eZ e5 v 0 []/\G<=e5/\HE G O eZ):=by
 have mC:=fF (e:=ex) 110 Tryz.f110 27 [.tmp 4]
 have nC:=@Pp
 have pa:=@y8
 have sY:=@li
 have R_:=@uw
 let pu:=(117:Nat)
 let ZL:=(4:Nat)
 exact X9
theorem Sa(W:SV (SV ja))(O:Ht)(G:Nat)(p:ju lC 1 (fun O G y=>gx gP 4 O G y) O G W)(hs:(W.l.map (fun o=>o.l.length)).sum<=60):WF ex 56 [W.v] O G (fun v eZ e5=>Za W v eZ e5/\G<=e5/\HE G O eZ):=by
 obtain⟨a1,c2,hR⟩:=p.1.shape
 have lU:=p.1.2.2
 rw[hR]
 refine wd Tryz.f56 36 [.tmp 2] fun hE=>sr<|oN 1<|sr<|oN 1<|WP.seq<|sr<|oN 3<|WP.block ?_
 refine mg [0,3,9,10,11] (fun m hs ns vs=>∃(fR:Nat) (j:Nat),fR+m=W.l.length/\vs=[.slice a1 (W.l.length) c2,Y (.ofNat j),.slice a1 (W.l.length) c2,Y (.ofNat (W.l.length)),Y (.ofNat fR)]/\G<=ns/\HE (G) O hs/\(j=((W.l.take fR).map (fun o=>o.l.length)).sum)) ?_ (W.l.length) ?_
 ·
  rintro xM p_ iY _ ⟨fR,j,ui,rfl,oF,jl,F⟩ uj
  have j2:=hE.trans jl
  have S:=e8 nR oF
  have ax:j<=60:=by rw[F,List.map_take];exact e8 (w4 _ _) hs
  refine sr ?_
  refine oq 12 (kL fR W.l.length) fun nu rM=>WO.nil<|WP.seq<|cq rM (fun w9=>?_) (fun w9=>?_)
  ·
   refine WP.skip<|WP.seq<|WP.block<|sr ?_
   have nz:fR<W.l.length:=by omega
   refine WO.cons (WC.iy hR p.1 (fR) tT sv (nz) ?_)
   obtain⟨lv,kB⟩:=gE nz
   obtain⟨aa,yr,R⟩:=(p.2 lv (cs kB)).shape
   have aj:=(p.2 lv (cs kB)).2.2
   refine WO.cons (WC.lz (.slice aa (lv.l.length) yr) hR (p.1.mono j2 nR) kB (by rw[<-R];rfl) tR<|oN 1<|sr<|oX 3<|ov 18 (Y (.ofNat (j+lv.l.length))) ?_ (fun _ _ _=>by rw[<-gM (show j+lv.l.length<9223372036854775808 by omega)];kernel_rfl))
   refine oN 1<|sr<|oX 1 ?_
   refine oq 20 (y5 (j+lv.l.length) 0) fun av af=>WO.nil<|cq af (fun J=>?_) (fun J=>?_)
   ·
    exact absurd J om
   ·
    refine WP.skip<|WP.region<|ov 22 (Y (.ofNat (fR+1))) ?_ (fun _ _ _=>by rw[<-gM (show fR+1<9223372036854775808 by omega)];kernel_rfl)
    refine oN 1<|⟨W.l.length-(fR+1),om,rfl,rfl,fR+1,j+lv.l.length,om,U,?_,?_,?_⟩
    · exact oF
    · exact jl
    · rw[List.take_add_one,List.map_append,List.sum_append,kB]
      simp only[Option.toList_some,List.map_cons,List.map_nil,List.sum_cons,List.sum_nil]
      omega
  ·
   refine WP.exit<|sr<|oX 1<|WO.cons (WC.call 24 110 ([.slice none 0 0,Y (.ofNat j)]) kf ((WH (j) p_ (iY) om).mono ?_))
   rintro ar an X ⟨JE,am,K⟩
   have M:=JE.le S
   refine oN 1<|WP.seq<|sr<|oN 3<|WP.block ?_
   have ac:j=(W.l.map (fun o=>o.l.length)).sum:=by rw[F,List.take_of_length_le om]
   refine mg [6,25,26,27] (fun m hs ns vs=>∃(b:Nat) (E:Value),b+m=W.l.length/\vs=[E,.slice a1 (W.l.length) c2,Y (.ofNat (W.l.length)),Y (.ofNat b)]/\X<=ns/\HE G O hs/\(Rm G 4 j hs ns E (((W.l.take b).map (fun o=>o.l.length)).sum) ((W.l.take b).flatMap (fun o=>o.l.flatMap gP)))) ?_ (W.l.length) ?_
   ·
    rintro ap ao aq _ ⟨b,E,ai,rfl,L,u,B⟩ al
    refine sr ?_
    refine oq 28 (kL b W.l.length) fun aw ag=>WO.nil<|WP.seq<|cq ag (fun ah=>?_) (fun ah=>?_)
    ·
     refine WP.skip<|WP.seq<|WP.block<|sr ?_
     have A:b<W.l.length:=by omega
     refine WO.cons (WC.iy hR p.1 (b) tT sv (A) ?_)
     obtain⟨z,e⟩:=gE A
     obtain⟨a45,ab,C⟩:=(p.2 z (cs e)).shape
     have ak:=(p.2 z (cs e)).2.2
     refine WO.cons (WC.lz (.slice a45 (z.l.length) ab) hR (p.1.mono u nR) e (by rw[<-C];rfl) tR<|oN 1<|WP.region<|oX 2 ?_)
     obtain⟨inf,pq,vu⟩:=Pp
     have ae:((W.l.take b).map (fun o=>o.l.length)).sum+z.l.length<=j:=by
      have:=w4 (W.l.map (fun o=>o.l.length)) (b+1)
      rw[<-List.map_take,List.take_add_one,List.map_append,List.sum_append,e]at this
      simp only[Option.toList_some,List.map_cons,List.map_nil,List.sum_cons,List.sum_nil]at this
      omega
     refine WO.cons (WC.Pj (m:=z.l.length) rfl U U B y8 li uw pq WE (((p.2 z (cs e)).mono u nR).src C) rfl (nk _ ((p.2 z (cs e)).mono u nR).1) (by simp[List.all_flatMap,gP,xI,Bj]) (by decide) ae vu om rfl ?_)
     rintro au ay ad N
     refine oN 1<|WP.region<|ov 34 (Y (.ofNat (b+1))) ?_ (fun _ _ _=>by rw[<-gM (show b+1<9223372036854775808 by omega)];kernel_rfl)
     refine oN 1<|⟨W.l.length-(b+1),om,rfl,rfl,b+1,au,om,U,?_,?_,?_⟩
     · exact L
     · exact(u.trans ad)
     · rw[List.take_add_one,e,List.map_append,List.sum_append,List.flatMap_append]
       simpa using N
    ·
     refine WP.exit<|sr<|oW 2 ⟨rfl,rfl,[E],U,?_⟩
     refine⟨⟨⟨E,W.l.flatMap (·.l)⟩,rfl,rfl,?_⟩,od,u⟩
     have hT:W.l.take b=W.l:=fy om
     rw[hT]at B
     exact B.ok ac.symm (by rw[List.flatMap_assoc]) (by rw[List.length_flatMap,ac]) (fun x _=>rfl) om
   ·
    exact⟨0,ar,om,U,e9 _,(j2.trans K),(by simpa using M)⟩
 ·
  exact⟨0,0,om,U,e9 _,HE.refl _ _,(by simp)⟩
theorem Eg(F:ji)(O:Ht)(G:Nat)(L:km O G F)(hw:∀r∈F.e6.l,Ab r<=60):WF ex 25 [.agg (gK F).toArray] O G (fG G O (MF 240 (rY F))):=by
 refine wd Tryz.f25 136 [.tmp 2] fun hE=>sr<|oB (.agg (gK F).toArray) (gK F) fun jq iC hU=>?_
 have kW:=hE.trans iC
 refine oN 1<|WP.seq<|sr<|oX 1<|WO.cons (WC.im G 0 (jc F.fq) U xK vM hU rfl<|WO.cons (WC.call 13 55 ([.agg (jc F.fq).toArray]) kf ((CX F.fq jq (G+1) (L.fq.mono kW)).mono ?_)))
 rintro _ dU ag ⟨⟨z12,rfl,bO,dB⟩,dC,bJ⟩
 have bE:=kW.trans bJ
 have aD:=bJ.get hU
 refine oq 14 (qG z12 0) fun bf cN=>oX 1<|gF 15 bf (pt G (0+2)) ?_
 obtain⟨av,ax,ai⟩:=L.gb.shape
 have dl:=L.gb.2.2
 refine nF 15 bf G (0+2) (.slice av (F.gb.l.length) ax) xL aD (by rw[<-ai];rfl)<|gF 15 bf (Y (.ofNat (F.gb.l.length))) ?_
 refine nm 15 bf (nE 16 F.gb.l.length) fun sw vN=>?_
 refine mz 20 (nO cN vN) fun bg cO=>oX 1<|gF 21 bg (pt G (0+3)) ?_
 obtain⟨a23,ux,S⟩:=L.e6.1.shape
 have dm:=L.e6.1.2.2
 refine nF 21 bg G (0+3) (.slice a23 (F.e6.l.length) ux) nX aD (by rw[<-S];rfl)<|gF 21 bg (Y (.ofNat (F.e6.l.length))) ?_
 refine nm 21 bg (y5 F.e6.l.length 1) fun dM cP=>?_
 refine mz 26 (nO cO cP) fun bh cQ=>oX 1<|gF 27 bh (pt G (0+3))<|nF 27 bh G (0+3) (.slice a23 (F.e6.l.length) ux) nX aD (by rw[<-S];rfl)<|gF 27 bh (Y (.ofNat (F.e6.l.length))) ?_
 refine nm 27 bh (nE 4000 F.e6.l.length) fun dN cR=>?_
 refine mz 32 (nO cQ cR) fun dO cS=>WO.nil<|cq cS (fun bQ=>?_) (fun bQ=>?_)
 ·
  refine sr<|oW 1 ⟨rfl,rfl,[Y 240],U,?_⟩
  refine⟨⟨240,rfl,⟨fun h=>absurd h (by decide),fun ad=>?_⟩,.inr rfl⟩,od,bE⟩
  rcases bQ with((ah|ah)|ah)|ah
  · exact absurd ((bO).2 ad.R5) ah
  · have:=ad.np;omega
  · have:=ad.nr;omega
  · have:=ad.nr2;omega
 ·
  refine WP.skip<|sr<|oA [Y 0,Y 0] MW fun dE bK b9=>?_
  have bH:=bK.get aD
  refine WO.nil<|WP.seq<|sr<|oX 1<|oZ G (0+2) (.slice av (F.gb.l.length) ax) xL bH (by rw[<-ai];rfl)<|oN 2<|WP.block ?_
  have bI:tQ F.fq:=(bO).1 (fg.1 fun k=>bQ (.inl (.inl (.inl k))))
  refine mg [1,3,34,35,36] (fun m hs ns vs=>∃(K:Nat) (ay:AB),K+m=F.gb.l.length/\vs=[pt G 0,pt ag 0,.slice av (F.gb.l.length) ax,Y (.ofNat (F.gb.l.length)),Y (.ofNat K)]/\ag+1<=ns/\HE G O hs/\hs.get G=some (.cells (gK F) gi.plain)/\hs.get ag=some (.cells (te ay) gi.plain)/\(∀(j:Nat) (p:AB),j<K->F.gb.l[j]?=some p->(1<=p.fA/\p.fA<p.fB/\p.fB<=9999)/\(0<j->∀q,F.gb.l[j-1]?=some q->q.fA<p.fA\/(q.fA=p.fA/\q.fB<p.fB)))/\((K=0->ay=⟨0,0⟩)/\(0<K->∀q,F.gb.l[K-1]?=some q->ay=q))) ?_ (F.gb.l.length) ?_
  ·
   rintro dI cf C _ ⟨K,ay,db,rfl,dD,a7,a_,cj,bs,aJ⟩ dt
   refine sr ?_
   refine oq 37 (kL K F.gb.l.length) fun dP cT=>WO.nil<|WP.seq<|cq cT (fun c9=>?_) (fun c9=>?_)
   ·
    refine WP.skip<|WP.seq<|WP.block<|sr ?_
    have bq:K<F.gb.l.length:=by omega
    refine WO.cons (WC.iy ai L.gb (K) WG Bw (bq) ?_)
    obtain⟨E,aP⟩:=gE bq
    refine WO.cons (WC.ly ai (L.gb.mono a7 nR) aP Pq Bw<|oA [Y 0,Y 0] MW fun dF a8 b_=>?_)
    refine oS C (0) (.agg (te E).toArray) (te E) (te E) Bw rfl rfl b_ fun dG cb ae bL=>?_
    have bG:=(a7.trans a8).trans cb
    have aE:=(bL ag om).trans (a8.get cj)
    refine WO.nil<|WP.seq<|sr<|oX 1<|oZ C 0 (Y E.fA) ft ae rfl ?_
    refine oq 42 (mr E.fA 1) fun aT cU=>oX 1<|gF 43 aT (pt C 0)<|nF 43 aT C 0 (Y E.fA) ft ae rfl<|gF 43 aT (pt C (0+1))<|nF 43 aT C (0+1) (Y E.fB) ft ae rfl ?_
    refine nm 43 aT (pF E.fB E.fA) fun dQ cV=>?_
    refine mz 49 (nO cU cV) fun bu cW=>oX 1<|gF 50 bu (pt C (0+1))<|nF 50 bu C (0+1) (Y E.fB) ft ae rfl ?_
    refine nm 50 bu (mr 9999 E.fB) fun dR cX=>?_
    refine mz 54 (nO cW cX) fun aU cY=>oX 1<|gF 55 aU (pt C 0)<|nF 55 aU C 0 (Y E.fA) ft ae rfl<|gF 55 aU (pt ag 0)<|nF 55 aU ag 0 (Y ay.fA) ft aE rfl ?_
    refine nm 55 aU (mr E.fA ay.fA) fun dS cZ=>?_
    refine mz 61 (nO cY cZ) fun J c0=>oX 1<|gF 62 J (pt C 0)<|nF 62 J C 0 (Y E.fA) ft ae rfl<|gF 62 J (pt ag 0)<|nF 62 J ag 0 (Y ay.fA) ft aE rfl ?_
    refine nm 62 J (sN E.fA ay.fA) fun M c3=>gF 62 J (.bool M)<|og 68 (!J&&M) (pt C (0+1)) ((bif !J then .bool M else undef)) (by cases J<;>cases M<;>rfl) (fun h=>by obtain⟨rfl,rfl⟩:=sM h;exact fun _ _ _=>by kernel_rfl) ?_
    refine wG 68 (!J&&M) (Y E.fB) ((bif !J then .bool M else undef)) (by cases J<;>cases M<;>rfl) (fun h=>by obtain⟨rfl,rfl⟩:=sM h;exact WC.jP C (0+1) (Y E.fB) U ft ae rfl rfl) ?_
    refine og 68 (!J&&M) (pt ag (0+1)) ((bif !J then .bool M else undef)) (by cases J<;>cases M<;>rfl) (fun h=>by obtain⟨rfl,rfl⟩:=sM h;exact fun _ _ _=>by kernel_rfl) ?_
    refine wG 68 (!J&&M) (Y ay.fB) ((bif !J then .bool M else undef)) (by cases J<;>cases M<;>rfl) (fun h=>by obtain⟨rfl,rfl⟩:=sM h;exact WC.jP ag (0+1) (Y ay.fB) U ft aE rfl rfl) ?_
    obtain⟨b4,cD,c5⟩:=pF E.fB ay.fB
    refine og 68 (!J&&M) (.bool b4) ((bif !J then .bool M else undef)) (by cases J<;>cases M<;>rfl) (fun h=>by obtain⟨rfl,rfl⟩:=sM h;exact fun _ _ _=>by subst cD;kernel_rfl) ?_
    obtain⟨b5,cE,c6⟩:=nA c3 c5
    refine xJ 62 J (.bool b5) (by rintro rfl;exact WC.me (v:=.bool b5) 74 (kZ (.bool M) ((bif !false&&M then .bool b4 else undef)) (.bool false)) kf (by rw[cE];exact tz (fun h=>by obtain rfl:M=true:=h;rfl)) rfl) ?_
    refine mz 75 (nO c0 c6) fun dT c7=>WO.nil<|cq c7 (fun aZ=>?_) (fun aZ=>?_)
    ·
     refine sr<|oW 1 ⟨rfl,rfl,[Y 240],U,?_⟩
     refine⟨⟨240,rfl,⟨fun h=>absurd h (by decide),fun ad=>?_⟩,.inr rfl⟩,od,bG⟩
     obtain⟨⟨h1,D,h3⟩,h4⟩:=ad.pair _ _ aP
     rcases gu K with h0|h0
     · rw[aJ.1 h0]at aZ;simp only at aZ;omega
     · obtain⟨q,ah⟩:∃q,F.gb.l[K-1]?=some q:=⟨_,List.getElem?_eq_getElem om⟩
       have dA:=h4 h0 _ ah
       rw[aJ.2 h0 _ ah]at aZ;omega
    ·
     refine WP.skip<|WP.region<|WO.cons (WC.im C (0) (te E) U Pq Bw ae rfl<|oS ag (0) (.agg (te E).toArray) (te E) (te E) Bw rfl rfl aE fun dH cc ca ce=>?_)
     refine WO.nil<|WP.region<|ov 77 (Y (.ofNat (K+1))) ?_ (fun _ _ _=>by rw[<-gM (show K+1<9223372036854775808 by omega)];kernel_rfl)
     refine oN 1<|⟨F.gb.l.length-(K+1),om,rfl,rfl,K+1,E,om,U,?_,?_,?_,?_,?_,?_⟩
     · exact od
     · exact(bG.trans cc)
     · exact((ce G om).trans ((bL G om).trans (a8.get a_)))
     · exact ca
     · intro j dJ hj hs
       rcases fo.1 hj with hj|rfl
       · exact bs j dJ hj hs
       · rw[aP]at hs;cases hs
         refine⟨om,fun h0 dK bN=>?_⟩
         have h3:=aJ.2 h0 _ bN
         rw[h3]at aZ;omega
     · refine⟨fun h=>absurd h (Nat.succ_ne_zero _),fun _ q ah=>?_⟩
       rw[Nat.add_sub_cancel,aP]at ah;cases ah;rfl
   ·
    refine WP.exit<|sr<|oN 1<|WP.seq<|sr<|oX 1<|oZ G (0+3) (.slice a23 (F.e6.l.length) ux) nX a_ (by rw[<-S];rfl)<|oN 2<|WP.block ?_
    refine mg [1,6,79,80,81] (fun m hs ns vs=>∃(A:Nat) (aQ:Int),A+m=F.e6.l.length/\vs=[pt G 0,Y aQ,.slice a23 (F.e6.l.length) ux,Y (.ofNat (F.e6.l.length)),Y (.ofNat A)]/\C<=ns/\HE (C) cf hs/\(∀(j:Nat) (r:ic),j<A->F.e6.l[j]?=some r->(((1<=r.nl/\r.nl<=9999)/\(0<j->∀q,F.e6.l[j-1]?=some q->q.nl<r.nl))/\(∀q,F.e6.l[0]?=some q->r.lq.l.length=q.lq.l.length)/\r.fQ.l.length=F.gb.l.length+1)/\∀o∈r.fQ.l,∀x∈o.l,uv F.fq x)/\(0<=aQ/\(A=0->aQ=0)/\(0<A->∀q,F.e6.l[A-1]?=some q->aQ=q.nl))) ?_ (F.e6.l.length) ?_
    ·
     rintro dn bZ y _ ⟨A,aQ,cG,rfl,bV,aF,aK,aW⟩ c_
     have aq:=a7.trans aF
     have bl:=aF.get a_
     refine sr ?_
     refine oq 82 (kL A F.e6.l.length) fun dv ck=>WO.nil<|WP.seq<|cq ck (fun cz=>?_) (fun cz=>?_)
     ·
      refine WP.skip<|WP.seq<|WP.block<|sr ?_
      have aX:A<F.e6.l.length:=by omega
      refine WO.cons (WC.iy S L.e6.1 (A) uh mJ (aX) ?_)
      obtain⟨u,B⟩:=gE aX
      refine WO.cons (WC.ly S (L.e6.1.mono aq nR) B y6 mJ<|oA [Y 0,.slice none (0) 0,.slice none (0) 0] BS fun df aG bR=>?_)
      refine oS y (0) (.agg (iV u).toArray) (iV u) (iV u) mJ rfl (e7.2 ⟨rfl,xk _ (L.e6.2 u (cs B))⟩) bR fun ab bn R bX=>?_
      have X:=(aq.trans aG).trans bn
      have aj:=(bX G om).trans (aG.get bl)
      refine WO.nil<|WP.seq<|WP.seq<|WP.qN [⟨[0,1,2,3,4,5,6,7,8,9,10,11,12,13,14,15,16,17,18,19,20,21,22,23,24,25,26,27,28,29,30],[0,1,2,3,4,5,6,7,8,9,10,11,12,13,14,15,16,17,18,19,20,21,22,23,24,25,26,27,28,29,30],none⟩] U _ rfl<|WD.last<|nv 85 (pt y 0)<|WN.hQ rfl (WC.jP y 0 (Y u.nl) U ft R rfl<|nv 87 (Y aQ) ?_)
      obtain⟨z,bw,cm⟩:=pF u.nl aQ
      refine nv 88 (.bool z) ?_ (fun _ _ _=>by subst bw;kernel_rfl)
      refine nv 89 (.bool z)<|ng rfl 89 (!z) (pt y 0) (.bool z) (by cases z<;>rfl) (fun h=>by obtain rfl:=bF h;exact fun _ _ _=>by kernel_rfl) ?_
      refine w5 rfl 89 (!z) (Y u.nl) (.bool z) (by cases z<;>rfl) (fun h=>by obtain rfl:=bF h;exact WC.jP y 0 (Y u.nl) U ft R rfl rfl) ?_
      obtain⟨am,bx,cn⟩:=mr 9999 u.nl
      refine ng rfl 89 (!z) (.bool am) (.bool z) (by cases z<;>rfl) (fun h=>by obtain rfl:=bF h;exact fun _ _ _=>by subst bx;kernel_rfl) ?_
      obtain⟨b,bz,bP⟩:=nO cm cn
      refine WN.hQ rfl (WC.me (v:=.bool b) 93 (kZ (.bool z) (.bool true) ((bif !z then .bool am else undef))) kf (by rw[bz];exact kS (fun h=>by obtain rfl:z=false:=h;rfl))<|nv 94 (.bool b)<|ng rfl 94 (!b) (pt y (0+1)) (.bool b) (by cases b<;>rfl) (fun h=>by obtain rfl:=bF h;exact fun _ _ _=>by kernel_rfl) ?_)
      obtain⟨az,aB,aL⟩:=(L.e6.2 u (cs B)).lq.shape
      have cI:=(L.e6.2 u (cs B)).lq.2.2
      refine w5 rfl 94 (!b) (.slice az (u.lq.l.length) aB) (.bool b) (by cases b<;>rfl) (fun h=>by obtain rfl:=bF h;exact WC.jP y (0+1) (.slice az (u.lq.l.length) aB) U lF R (by rw[<-aL];rfl) rfl) ?_
      refine ng rfl 94 (!b) (Y (.ofNat (u.lq.l.length))) (.bool b) (by cases b<;>rfl) (fun h=>by obtain rfl:=bF h;exact fun _ _ _=>by kernel_rfl) ?_
      refine ng rfl 94 (!b) (pt G (0+3)) (.bool b) (by cases b<;>rfl) (fun h=>by obtain rfl:=bF h;exact fun _ _ _=>by kernel_rfl) ?_
      refine w5 rfl 94 (!b) (.slice a23 (F.e6.l.length) ux) (.bool b) (by cases b<;>rfl) (fun h=>by obtain rfl:=bF h;exact WC.jP G (0+3) (.slice a23 (F.e6.l.length) ux) U nX aj (by rw[<-S];rfl) rfl) ?_
      have af:(!b)=true->0<F.e6.l.length:=fun h=>by obtain rfl:b=false:=(by simpa using h);have c8:¬(((u.nl)<=(aQ))\/((9999)<(u.nl))):=(fun k=>absurd ((bP).2 k) (by decide));omega
      refine w5 rfl 94 (!b) (pt (fW a23) (0+(0)*3)) (.bool b) (by cases b<;>rfl) (fun h=>by obtain rfl:=bF h;exact WC.iy S L.e6.1 (0) uh mJ ((af rfl)) rfl) ?_
      refine ng rfl 94 (!b) (pt (fW a23) (0+(0)*3+1)) (.bool b) (by cases b<;>rfl) (fun h=>by obtain rfl:=bF h;exact fun _ _ _=>by kernel_rfl) ?_
      obtain⟨W,ac⟩:∃cF,F.e6.l[0]?=some cF:=⟨_,ff om⟩
      obtain⟨aA,aC,aM⟩:=(L.e6.2 W (cs ac)).lq.shape
      have cJ:=(L.e6.2 W (cs ac)).lq.2.2
      refine w5 rfl 94 (!b) (.slice aA (W.lq.l.length) aC) (.bool b) (by cases b<;>rfl) (fun h=>by obtain rfl:=bF h;exact WC.sb (fW a23) (0+(0)*3+1) (.slice aA (W.lq.l.length) aC) U lF ((L.e6.1.mono X nR).pd S (zl ((af rfl)))) (nj (L.e6.1.mono X nR).1 ac (by decide) (by rw[<-aM];rfl)) rfl) ?_
      refine ng rfl 94 (!b) (Y (.ofNat (W.lq.l.length))) (.bool b) (by cases b<;>rfl) (fun h=>by obtain rfl:=bF h;exact fun _ _ _=>by kernel_rfl) ?_
      obtain⟨an,bA,cp⟩:=Jv u.lq.l.length W.lq.l.length
      refine ng rfl 94 (!b) (.bool an) (.bool b) (by cases b<;>rfl) (fun h=>by obtain rfl:=bF h;exact fun _ _ _=>by subst bA;kernel_rfl) ?_
      obtain⟨e,bB,bc⟩:=nO bP cp
      refine WN.hQ rfl (WC.me (v:=.bool e) 105 (kZ (.bool b) (.bool true) ((bif !b then .bool an else undef))) kf (by rw[bB];exact kS (fun h=>by obtain rfl:b=false:=h;rfl))<|nv 106 (.bool e)<|ng rfl 106 (!e) (pt y (0+2)) (.bool e) (by cases e<;>rfl) (fun h=>by obtain rfl:=bF h;exact fun _ _ _=>by kernel_rfl) ?_)
      obtain⟨au,aw,al⟩:=(L.e6.2 u (cs B)).fQ.1.shape
      have cK:=(L.e6.2 u (cs B)).fQ.1.2.2
      refine w5 rfl 106 (!e) (.slice au (u.fQ.l.length) aw) (.bool e) (by cases e<;>rfl) (fun h=>by obtain rfl:=bF h;exact WC.jP y (0+2) (.slice au (u.fQ.l.length) aw) U ql R (by rw[<-al];rfl) rfl) ?_
      refine ng rfl 106 (!e) (Y (.ofNat (u.fQ.l.length))) (.bool e) (by cases e<;>rfl) (fun h=>by obtain rfl:=bF h;exact fun _ _ _=>by kernel_rfl) ?_
      refine ng rfl 106 (!e) (pt G (0+2)) (.bool e) (by cases e<;>rfl) (fun h=>by obtain rfl:=bF h;exact fun _ _ _=>by kernel_rfl) ?_
      refine w5 rfl 106 (!e) (.slice av (F.gb.l.length) ax) (.bool e) (by cases e<;>rfl) (fun h=>by obtain rfl:=bF h;exact WC.jP G (0+2) (.slice av (F.gb.l.length) ax) U xL aj (by rw[<-ai];rfl) rfl) ?_
      refine ng rfl 106 (!e) (Y (.ofNat (F.gb.l.length))) (.bool e) (by cases e<;>rfl) (fun h=>by obtain rfl:=bF h;exact fun _ _ _=>by kernel_rfl) ?_
      refine ng rfl 106 (!e) (Y (.ofNat (F.gb.l.length+1))) (.bool e) (by cases e<;>rfl) (fun h=>by obtain rfl:=bF h;have c8:=nf bc;exact fun _ _ _=>by rw[<-gM (show F.gb.l.length+1<9223372036854775808 by omega)];kernel_rfl) ?_
      obtain⟨ao,bC,cr⟩:=Jv u.fQ.l.length (F.gb.l.length+1)
      refine ng rfl 106 (!e) (.bool ao) (.bool e) (by cases e<;>rfl) (fun h=>by obtain rfl:=bF h;exact fun _ _ _=>by subst bC;kernel_rfl) ?_
      obtain⟨a6,bD,ct⟩:=nO bc cr
      refine WN.hQ rfl (WC.me (v:=.bool a6) 115 (kZ (.bool e) (.bool true) ((bif !e then .bool ao else undef))) kf (by rw[bD];exact kS (fun h=>by obtain rfl:e=false:=h;rfl))<|WN.nil ⟨?_,?_⟩)
      ·
       refine cv (pt y 0) (iK ..)<|p7 y 0 (Y u.nl) ft R rfl (iz ..)<|ci (aQ)<|cv (.bool z) (iH 8 z) ?_ (fun _=>by subst bw;kernel_rfl)
       refine cv (.bool z) (iH 8 z)<|cg rfl 89 (!z) (pt y 0) (.bool z) (by cases z<;>rfl) (fun h=>by obtain rfl:=bF h;exact lZ (pt y 0) (fun _=>by kernel_rfl) (iK ..)) ?_
       refine cg rfl 89 (!z) (Y u.nl) (.bool z) (by cases z<;>rfl) (fun h=>by obtain rfl:=bF h;exact qw (Y u.nl) (j9 ex.T ab.get 3 (pt y 0)) (fun _=>by kernel_rfl) (j_ ft R rfl) (iz ..)) ?_
       refine cg rfl 89 (!z) (.bool am) (.bool z) (by cases z<;>rfl) (fun h=>by obtain rfl:=bF h;exact lZ (.bool am) (fun _=>by subst bx;kernel_rfl) (iH 8 am)) ?_
       refine co (.bool b) (kZ (.bool z) (.bool true) ((bif !z then .bool am else undef))) ((by rw[bz];exact kS (fun h=>by obtain rfl:z=false:=h;rfl))) (iH 8 b)<|cv (.bool b) (iH 8 b)<|cg rfl 94 (!b) (pt y (0+1)) (.bool b) (by cases b<;>rfl) (fun h=>by obtain rfl:=bF h;exact lZ (pt y (0+1)) (fun _=>by kernel_rfl) (iK ..)) ?_
       refine cg rfl 94 (!b) (.slice az (u.lq.l.length) aB) (.bool b) (by cases b<;>rfl) (fun h=>by obtain rfl:=bF h;exact qw (.slice az (u.lq.l.length) aB) (j9 ex.T ab.get 42 (pt y (0+1))) (fun _=>by kernel_rfl) (j_ lF R (by rw[<-aL];rfl)) (aL▸(L.e6.2 u (cs B)).lq.js 8)) ?_
       refine cg rfl 94 (!b) (Y (.ofNat (u.lq.l.length))) (.bool b) (by cases b<;>rfl) (fun h=>by obtain rfl:=bF h;exact lZ (Y (.ofNat (u.lq.l.length))) (fun _=>by kernel_rfl) (iz ..)) ?_
       refine cg rfl 94 (!b) (pt G (0+3)) (.bool b) (by cases b<;>rfl) (fun h=>by obtain rfl:=bF h;exact lZ (pt G (0+3)) (fun _=>by kernel_rfl) (iK ..)) ?_
       refine cg rfl 94 (!b) (.slice a23 (F.e6.l.length) ux) (.bool b) (by cases b<;>rfl) (fun h=>by obtain rfl:=bF h;exact qw (.slice a23 (F.e6.l.length) ux) (j9 ex.T ab.get 39 (pt G (0+3))) (fun _=>by kernel_rfl) (j_ nX aj (by rw[<-S];rfl)) (S▸L.e6.1.js 8)) ?_
       refine cg rfl 94 (!b) (pt (fW a23) (0+(0)*3)) (.bool b) (by cases b<;>rfl) (fun h=>by obtain rfl:=bF h;exact qw (pt (fW a23) (0+(0)*3)) (mH ex.T 39 (.slice a23 (F.e6.l.length) ux) (Y (.ofNat (0)))) (fun _=>by kernel_rfl) (sK (k:=.i64) uh mJ ((L.e6.1.mono X nR).Bk S (zl ((af rfl)))) ((af rfl))) (iK ..)) ?_
       refine cg rfl 94 (!b) (pt (fW a23) (0+(0)*3+1)) (.bool b) (by cases b<;>rfl) (fun h=>by obtain rfl:=bF h;exact lZ (pt (fW a23) (0+(0)*3+1)) (fun _=>by kernel_rfl) (iK ..)) ?_
       refine cg rfl 94 (!b) (.slice aA (W.lq.l.length) aC) (.bool b) (by cases b<;>rfl) (fun h=>by obtain rfl:=bF h;exact qw (.slice aA (W.lq.l.length) aC) (j9 ex.T ab.get 42 (pt (fW a23) (0+(0)*3+1))) (fun _=>by kernel_rfl) (tx lF ((L.e6.1.mono X nR).pd S (zl ((af rfl)))) (nj (L.e6.1.mono X nR).1 ac (by decide) (by rw[<-aM];rfl))) (aM▸(L.e6.2 W (cs ac)).lq.js 8)) ?_
       refine cg rfl 94 (!b) (Y (.ofNat (W.lq.l.length))) (.bool b) (by cases b<;>rfl) (fun h=>by obtain rfl:=bF h;exact lZ (Y (.ofNat (W.lq.l.length))) (fun _=>by kernel_rfl) (iz ..)) ?_
       refine cg rfl 94 (!b) (.bool an) (.bool b) (by cases b<;>rfl) (fun h=>by obtain rfl:=bF h;exact lZ (.bool an) (fun _=>by subst bA;kernel_rfl) (iH 8 an)) ?_
       refine co (.bool e) (kZ (.bool b) (.bool true) ((bif !b then .bool an else undef))) ((by rw[bB];exact kS (fun h=>by obtain rfl:b=false:=h;rfl))) (iH 8 e)<|cv (.bool e) (iH 8 e)<|cg rfl 106 (!e) (pt y (0+2)) (.bool e) (by cases e<;>rfl) (fun h=>by obtain rfl:=bF h;exact lZ (pt y (0+2)) (fun _=>by kernel_rfl) (iK ..)) ?_
       refine cg rfl 106 (!e) (.slice au (u.fQ.l.length) aw) (.bool e) (by cases e<;>rfl) (fun h=>by obtain rfl:=bF h;exact qw (.slice au (u.fQ.l.length) aw) (j9 ex.T ab.get 114 (pt y (0+2))) (fun _=>by kernel_rfl) (j_ ql R (by rw[<-al];rfl)) (al▸(L.e6.2 u (cs B)).fQ.1.js 8)) ?_
       refine cg rfl 106 (!e) (Y (.ofNat (u.fQ.l.length))) (.bool e) (by cases e<;>rfl) (fun h=>by obtain rfl:=bF h;exact lZ (Y (.ofNat (u.fQ.l.length))) (fun _=>by kernel_rfl) (iz ..)) ?_
       refine cg rfl 106 (!e) (pt G (0+2)) (.bool e) (by cases e<;>rfl) (fun h=>by obtain rfl:=bF h;exact lZ (pt G (0+2)) (fun _=>by kernel_rfl) (iK ..)) ?_
       refine cg rfl 106 (!e) (.slice av (F.gb.l.length) ax) (.bool e) (by cases e<;>rfl) (fun h=>by obtain rfl:=bF h;exact qw (.slice av (F.gb.l.length) ax) (j9 ex.T ab.get 38 (pt G (0+2))) (fun _=>by kernel_rfl) (j_ xL aj (by rw[<-ai];rfl)) (ai▸L.gb.js 8)) ?_
       refine cg rfl 106 (!e) (Y (.ofNat (F.gb.l.length))) (.bool e) (by cases e<;>rfl) (fun h=>by obtain rfl:=bF h;exact lZ (Y (.ofNat (F.gb.l.length))) (fun _=>by kernel_rfl) (iz ..)) ?_
       refine cg rfl 106 (!e) (Y (.ofNat (F.gb.l.length+1))) (.bool e) (by cases e<;>rfl) (fun h=>by obtain rfl:=bF h;have c8:=nf bc;exact lZ (Y (.ofNat (F.gb.l.length+1))) (fun _=>by rw[<-gM (show F.gb.l.length+1<9223372036854775808 by omega)];kernel_rfl) (iz ..)) ?_
       refine cg rfl 106 (!e) (.bool ao) (.bool e) (by cases e<;>rfl) (fun h=>by obtain rfl:=bF h;exact lZ (.bool ao) (fun _=>by subst bC;kernel_rfl) (iH 8 ao)) ?_
       refine co (.bool a6) (kZ (.bool e) (.bool true) ((bif !e then .bool ao else undef))) ((by rw[bD];exact kS (fun h=>by obtain rfl:e=false:=h;rfl))) (iH 8 a6) ?_
       exact iX.nil
      refine cq ct (fun cA=>?_) (fun cA=>?_)
      ·
       refine sr<|oW 1 ⟨rfl,rfl,[Y 240],U,?_⟩
       refine⟨⟨240,rfl,⟨fun h=>absurd h (by decide),fun ad=>?_⟩,.inr rfl⟩,od,X⟩
       obtain⟨⟨h1,D⟩,h3,h4⟩:=ad.run _ _ B
       have dW:=h3 _ ac
       rcases gu A with h0|h0
       · have:=aW.2.1 h0;omega
       · obtain⟨q,ah⟩:∃q,F.e6.l[A-1]?=some q:=⟨_,List.getElem?_eq_getElem om⟩
         have dA:=D h0 _ ah
         have dV:=aW.2.2 h0 _ ah
         omega
      ·
       refine WP.skip<|sr<|oX 1<|oZ y 0 (Y u.nl) ft R rfl<|oN 1<|sr<|oX 1<|oZ y (0+2) (.slice au (u.fQ.l.length) aw) ql R (by rw[<-al];rfl)<|WO.cons (WC.call 120 56 ([u.fQ.v]) (fun _ _ _=>by(try rw[al]);kernel_rfl) ((Sa u.fQ ab (y+1) ((L.e6.2 u (cs B)).fQ.mono (fun _ h he hn=>h.mono he hn) X) (hw _ (cs B))).mono ?_))
       rintro du br aR ⟨⟨aa,rfl,aV,ar⟩,dc,aH⟩
       obtain⟨b7,b8,aN⟩:=ar.shape
       have cL:=ar.2.2
       rw[aN]
       refine oN 2<|WP.block ?_
       refine mg [1,6,79,80,81,120,121,122] (fun m hs ns vs=>∃(N:Nat),N+m=aa.l.length/\vs=[pt G 0,Y u.nl,.slice a23 (F.e6.l.length) ux,Y (.ofNat (F.e6.l.length)),Y (.ofNat A),.slice b7 (aa.l.length) b8,Y (.ofNat (aa.l.length)),Y (.ofNat N)]/\aR<=ns/\HE (aR) br hs/\(∀(j:Nat) (x:ja),j<N->aa.l[j]?=some x->uv F.fq x)) ?_ (aa.l.length) ?_
       ·
        rintro dp dg aS _ ⟨N,cH,rfl,bW,ak,bM⟩ da
        have b3:=(HE.refl (aR) br).trans ak
        refine sr ?_
        refine oq 123 (kL N aa.l.length) fun dw cu=>WO.nil<|WP.seq<|cq cu (fun cB=>?_) (fun cB=>?_)
        ·
         refine WP.skip<|WP.seq<|WP.block<|sr ?_
         have aY:N<aa.l.length:=by omega
         refine WO.cons (WC.iy aN ar (N) y8 li (aY) ?_)
         obtain⟨ap,aO⟩:=gE aY
         refine WO.cons (WC.ly aN (ar.mono b3 nR) aO rZ li<|oA [.bool false,Y 0,Y 0,Y 0] uw fun dh aI bS=>?_)
         refine oS aS (0) (.agg (gP ap).toArray) (gP ap) (gP ap) li rfl rfl bS fun b0 bo bT bY=>?_
         have bj:=(((X.trans aH).trans ak).trans aI).trans bo
         refine WO.nil<|sr<|oX 1<|WO.cons (WC.im G 0 (jc F.fq) U xK vM ((bY G om).trans (aI.get (ak.get (aH.get aj)))) rfl<|WO.cons (WC.im aS (0) (gP ap) U rZ li bT rfl<|WO.cons (WC.call 129 57 ([.agg (jc F.fq).toArray,.agg (gP ap).toArray]) kf ((BT F.fq ap b0 (aS+1) (L.fq.mono bj)).mono ?_))))
         rintro _ di dq ⟨⟨cC,rfl,bt⟩,dd,bp⟩
         refine oq 130 (qG cC 0) fun dx cw=>WO.nil<|cq cw (fun bd=>?_) (fun bd=>?_)
         ·
          refine sr<|oW 1 ⟨rfl,rfl,[Y 240],U,?_⟩
          refine⟨⟨240,rfl,⟨fun h=>absurd h (by decide),fun ad=>?_⟩,.inr rfl⟩,od,(bj.trans bp)⟩
          have hm:=cs aO
          rw[aV,List.mem_flatMap]at hm
          obtain⟨o,cd,cM⟩:=hm
          exact absurd ((bt).2 ⟨bI,ad.out _ _ B _ cd _ cM⟩) bd
         ·
          refine WP.skip<|WP.region<|ov 131 (Y (.ofNat (N+1))) ?_ (fun _ _ _=>by rw[<-gM (show N+1<9223372036854775808 by omega)];kernel_rfl)
          refine oN 1<|⟨aa.l.length-(N+1),om,rfl,rfl,N+1,om,U,?_,?_,?_⟩
          · exact od
          · exact(((ak.trans aI bW).trans bo).trans bp)
          · intro j x' hj hs
            rcases fo.1 hj with hj|rfl
            · exact bM j x' hj hs
            · rw[aO]at hs;cases hs
              exact((bt).1 (fg.1 bd)).2
        ·
         refine WP.exit<|WP.region<|ov 132 (Y (.ofNat (A+1))) ?_ (fun _ _ _=>by rw[<-gM (show A+1<9223372036854775808 by omega)];kernel_rfl)
         refine oN 1<|⟨F.e6.l.length-(A+1),om,rfl,rfl,A+1,u.nl,om,U,?_,?_,?_,?_⟩
         · exact od
         · exact((((aF.trans aG bV).trans bn).trans aH).trans ak)
         · intro j dL hj hs
           rcases fo.1 hj with hj|rfl
           · exact aK j dL hj hs
           · rw[B]at hs;cases hs
             refine⟨⟨⟨by have:=aW.1;omega,fun h0 dK bN=>?_⟩,fun dX b6=>?_,om⟩,fun o cd x hx=>?_⟩
             · have h3:=aW.2.2 h0 _ bN
               omega
             · rw[ac]at b6;cases b6;omega
             · have hm:x∈aa.l:=by rw[aV,List.mem_flatMap];exact⟨o,cd,hx⟩
               obtain⟨n,hn⟩:=fJ hm
               exact bM n x (by have:=(fe.1 hn).1;omega) hn
         · refine⟨by have:=aW.1;omega,fun h=>absurd h (Nat.succ_ne_zero _),fun _ q ah=>?_⟩
           rw[Nat.add_sub_cancel,B]at ah;cases ah;rfl
       ·
        exact⟨0,om,U,e9 _,HE.refl _ _,(fun _ _ h=>absurd h (fz _))⟩
     ·
      refine WP.exit<|WP.seq<|sr<|WO.cons (WC.im G (0) (gK F) U pm ou bl rfl<|WO.cons (WC.call 134 58 ([.agg (gK F).toArray]) kf ((M1 F bZ (y) (L.mono aq) (fun r hr=>by obtain⟨j,hj⟩:=fJ hr;exact(aK j r (by have:=(fe.1 hj).1;omega) hj).1.2.2)).mono ?_)))
      rintro _ dj dr ⟨⟨dy,rfl,cx⟩,de,bU⟩
      have bk:=aq.trans bU
      refine oq 135 (nN cx) fun dz cy=>WO.nil<|cq cy (fun be=>?_) (fun be=>?_)
      ·
       refine sr<|oW 1 ⟨rfl,rfl,[Y 240],U,?_⟩
       refine⟨⟨240,rfl,⟨fun h=>absurd h (by decide),fun ad=>?_⟩,.inr rfl⟩,od,bk⟩
       exact absurd ad.Jx be
      ·
       refine WP.skip<|sr<|oW 1 ⟨rfl,rfl,[Y 0],U,?_⟩
       refine⟨⟨0,rfl,⟨fun _=>?_,fun _=>rfl⟩,.inl rfl⟩,od,bk⟩
       refine⟨bI,om,om,om,fun j p O=>bs j p (by have:=(fe.1 O).1;omega) O,fun j r hr=>(aK j r (by have:=(fe.1 hr).1;omega) hr).1,fun j r hr=>(aK j r (by have:=(fe.1 hr).1;omega) hr).2,fg.1 be⟩
    ·
     exact⟨0,0,om,U,e9 _,HE.refl _ _,(fun _ _ h=>absurd h (fz _)),⟨gL _,fun _=>rfl,fun h=>absurd h (Nat.lt_irrefl _)⟩⟩
  ·
   exact⟨0,(⟨0,0⟩:AB),om,U,e9 _,(bE.trans bK),bH,b9,(fun _ _ h=>absurd h (fz _)),⟨fun _=>rfl,fun h=>absurd h (Nat.lt_irrefl _)⟩⟩
end
end Sw
