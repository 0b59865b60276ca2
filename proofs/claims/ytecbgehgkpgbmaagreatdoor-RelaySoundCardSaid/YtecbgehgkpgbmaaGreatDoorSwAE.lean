/- A part of the proof that the law returns true for every input that its row speaks of. No condition is added. -/
import Derived.Test.YtecbgehgkpgbmaaGreatDoorSwAD
import Derived.Orders
import Derived.KernelRfl
namespace Sw
noncomputable section
open Go Go.RowKit
def sq(listed:Array Bool)(i:Nat):Prop:=listed[i]?=some true
def yZ(all:List Oper)(L:Nat)(listed:Array Bool)(i:Nat):Prop:=i<all.length/\has L i=true/\¬sq listed i
structure uW(fl:Bool)(B0:Nat)(w0:World)(nt mU:Nat)(all:List Oper)(L:Nat)(listed:Array Bool)(s:St)(a:Act)(w:World)(g:Gm):Prop where
 sub:∀i,sq listed i->has L i=true
 JH:∀i,yZ all L listed i->qI fl all i≠2
 closed:∀i,sq listed i->∀ed∈pE all i,Region.binds .any ed=true->sq listed ed.on
 heap:gx B0 w0 g s.O.get s.G w
 ds:nK g s.ds a.defers
 Iu:a.tmps.size=nt
 tmps:∀x,x<nt->(∀i,yZ all L listed i->sA all i≠some x)->fP g (s.I.get x) (a.tmps.getD x undef)
 low:mU<=s.G
 ga:∀i,yZ all L listed i->qI fl all i=1->∀d m,sA all i=some d->w5 (s.I.get d)=some m->
  g.ga m=none/\mU<=m/\m<s.G/\∀k,yZ all L listed k->qI fl all k=1->k≠i->∀d',sA all k=some d'->w5 (s.I.get d')≠some m
structure Eo(ng nt:Nat)(all:List Oper):Prop where
 small:nt<=512
 ops:all.all (xc ng nt)=true
section
variable {fl:Bool}{B0:Nat}{w0:World}{nt mU ng:Nat}{all:List Oper}{L:Nat}{listed:Array Bool}{s:St}{a:Act}{w:World}{g:Gm}{bm:List Nat}
theorem MI{i:Nat}{o:Oper}(h:nP i all=some o):o∈all:=by
 rw[qx]at h
 obtain⟨hi,rfl⟩:=fp.1 h
 simp
theorem JI{i:Nat}{o:Oper}(h:nP i all=some o):i<all.length:=by
 rw[qx]at h
 exact(fp.1 h).1
theorem KE{i:Nat}(h:i<all.length):∃o,nP i all=some o:=by
 rw[qx];exact⟨all[i],fq h⟩
theorem Eo.dst(ok:Eo ng nt all){i d:Nat}(h:sA all i=some d):d<nt:=by
 unfold sA at h
 split at h
 · rename_i o b
   have:=fO.1 ok.ops o (MI b)
   unfold xc at this
   rw[Bool.and_eq_true]at this
   have D:=this.2
   rw[h]at D
   exact fk D
 · cases h
theorem Tm.Px{I:Tm}{v:Value}{dst:Option Nat}{x:Nat}(hd:∀d,dst=some d->d<512)(hx:x<512)(h:dst≠some x):((kp dst).run I v).get x=I.get x:=by
 cases dst with
 |none=>rfl
 |some d=>
  rw[DI,Tm.oh _ _ (hd d rfl) hx,if_neg (fun k=>h (by rw[k]))]
theorem Tm.Bv{I:Tm}{v:Value}{d:Nat}(hd:d<512):((kp (some d)).run I v).get d=v:=by
 rw[DI,Tm.oh _ _ hd hd,if_pos rfl]
theorem KF(b:rI fl all bm)(closed:∀i,sq listed i->∀ed∈pE all i,Region.binds .any ed=true->sq listed ed.on):
 ∀k,k<all.length->(∀ed∈pE all k,Region.binds .any ed=true->sq listed ed.on)->∀i,has (ym k bm) i=true->sq listed i:=by
 intro k
 induction k using Nat.strongRecOn with
 |_ k ih=>
  intro hk he i hi
  obtain⟨ed,h1,D,h3⟩:=b.bm k hk i hi
  have hl:=he ed h1 D
  have jH:=b.back k hk ed h1 D
  rcases h3 with rfl|h3
  · exact hl
  · exact ih ed.on jH (by omega) (closed _ hl) i h3
theorem gx.WL{O:Hp}{G:Nat}(H:gx B0 w0 g O G w)(cells:List Value):gx B0 w0 g (O.set G (some (.cells cells gm.plain))) (G+1) w:=by
 have F:=H.fresh (fg G)
 have h0:∀b o,O.set G (some (.cells cells gm.plain)) b=some o->b≠G->O b=some o:=fun b o e hb=>by rw[Hp.gR _ _ hb]at e;exact e
 have hblk:∀{b:Nat} {x:Nat×Nat},g.ga b=some x->b≠G:=fun h hb=>by subst hb;rw[F.ga]at h;cases h
 refine⟨H.below,H.base,fun b rb ro e=>⟨by have:=(H.rT b rb ro e).1;omega,(H.rT b rb ro e).2⟩,fun b o e=>?_,fun b ms e=>?_,fun b Z m gr e k=>?_,fun b1 b2 o1 o2 rb r1 r2 jI e1 e2 j u=>?_,H.room⟩
 · by_cases hb:b=G
   · subst hb;exact⟨by omega,fun rb ro k=>by rw[F.ga]at k;cases k⟩
   · obtain⟨p,q⟩:=H.live b o (h0 b o e hb)
     exact⟨by omega,q⟩
 · by_cases hb:b=G
   · subst hb;exact F.ga
   · exact H.pC b ms (h0 b _ e hb)
 · by_cases hb:b=G
   · subst hb;rw[Hp.jO]at e;cases e;cases k
   · obtain⟨ms,a1,a2⟩:=H.mem b Z m gr (h0 b _ e hb) k
     refine⟨ms,?_,a2⟩
     rw[Hp.gR _ _ (by rintro rfl;rw[F.O]at a1;cases a1)]
     exact a1
 · exact H.sep b1 b2 o1 o2 rb r1 r2 jI (h0 b1 o1 e1 (hblk j)) (h0 b2 o2 e2 (hblk u)) j u
theorem uW.ne(uI:uW fl B0 w0 nt mU all L listed s a w g)(ok:Eo ng nt all)(ao:rI fl all bm){i:Nat}{o:Oper}(ag:nP i all=some o)(hc:kO fl o.op≠2)(aj:has L i=false){s1:St}
 (N:R4 (kO fl o.op) o.dst s s1):uW fl B0 w0 nt mU all (put L i) listed s1 a w g:=by
 have hi:=JI ag
 have E:qI fl all i=kO fl o.op:=by simp[qI,ag]
 have j:sA all i=o.dst:=by simp[sA,ag]
 have ad:¬sq listed i:=fun h=>by rw[uI.sub i h]at aj;cases aj
 have A:∀k,yZ all (put L i) listed k->k=i\/(k≠i/\yZ all L listed k):=fun k hk=>by
  by_cases h:k=i
  · exact .inl h
  · obtain⟨h1,D,h3⟩:=hk
    rw[It (fun e=>h e.symm)]at D
    exact .inr ⟨h,h1,D,h3⟩
 have an:yZ all (put L i) listed i:=⟨hi,Fh _ _,ad⟩
 have R:∀k,yZ all L listed k->yZ all (put L i) listed k:=fun k hk=>⟨hk.1,sV hk.2.1,hk.2.2⟩
 obtain⟨v,S,b⟩:=N.step
 have y:∀d,o.dst=some d->d<512:=fun d hd=>fb (ok.dst (j.trans hd)) ok.small
 have J:∀x,x<512->o.dst≠some x->s1.I.get x=s.I.get x:=fun x hx h=>by rw[S];exact Tm.Px y hx h
 have z:∀k d,k<all.length->k≠i->sA all k=some d->s1.I.get d=s.I.get d:=fun k d hk jI hd=>
  J d (fb (ok.dst hd) ok.small) (by rw[<-j];exact ao.X7 k i hk hi jI d hd)
 have al:s.G<=s1.G:=by rcases b with⟨_,h,_⟩|⟨_,_,h,_⟩<;>omega
 refine⟨fun k hk=>sV (uI.sub k hk),fun k hk=>?_,uI.closed,?_,by rw[N.ds];exact uI.ds,uI.Iu,fun x hx hk=>?_,ff uI.low al,fun k hk F d m hd hm=>?_⟩
 · rcases A k hk with rfl|⟨_,h⟩
   · rw[E];exact hc
   · exact uI.JH k h
 · rcases b with⟨h1,D,_⟩|⟨_,_,D,cells,h1⟩
   · rw[h1,D];exact uI.heap
   · rw[h1,D,Tr.oh];exact uI.heap.WL cells
 · have h1:o.dst≠some x:=by rw[<-j];exact hk i an
   rw[J x (Nat.lt_of_lt_of_le hx ok.small) h1]
   exact uI.tmps x hx fun k u=>hk k (R k u)
 · rcases A k hk with rfl|⟨jI,u⟩
   ·
    rw[E]at F
    rw[j]at hd
    have ah:s1.I.get d=v:=by rw[S,hd];exact Tm.Bv (y d hd)
    rw[ah]at hm
    rcases b with⟨_,_,h3⟩|⟨_,h4,D,_⟩
    · rw[h3 F]at hm;cases hm
    · rw[h4]at hm;cases hm
      refine⟨(uI.heap.fresh (fg _)).ga,uI.low,by omega,fun k' u ab M d' W aa=>?_⟩
      rcases A k' u with rfl|⟨_,K⟩
      · exact M rfl
      · rw[z k' d' K.1 M W]at aa
        have:=(uI.ga k' K ab d' _ W aa).2.2.1
        omega
   · rw[z k d u.1 jI hd]at hm
     obtain⟨aq,ar,q3,au⟩:=uI.ga k u F d m hd hm
     refine⟨aq,ar,by omega,fun ai ak C ae d2 B p=>?_⟩
     rcases A ai ak with rfl|⟨af,X⟩
     · rw[E]at C
       rw[j]at B
       have ah:s1.I.get d2=v:=by rw[S,B];exact Tm.Bv (y d2 B)
       rw[ah]at p
       rcases b with⟨_,_,h3⟩|⟨_,h4,_,_⟩
       · rw[h3 C]at p;cases p
       · rw[h4]at p;cases p;omega
     · rw[z ai d2 X.1 af B]at p
       exact au ai X C ae d2 B p
end
end
end Sw
namespace Sw
noncomputable section
open Go Go.RowKit
section
variable {fl:Bool}{B0:Nat}{w0:World}{nt mU ng:Nat}{all:List Oper}{L:Nat}{listed:Array Bool}{s:St}{a:Act}{w:World}{g:Gm}{bm:List Nat}{e:Env}{rec:Rec}{fm:Fm}
theorem C2{i:Nat}{o:Oper}(h:nP i all=some o):qI fl all i=kO fl o.op:=by simp[qI,h]
theorem A_{i:Nat}{o:Oper}(h:nP i all=some o):sA all i=o.dst:=by simp[sA,h]
theorem MJ(ok:Eo ng nt all)(A:rI fl all bm):∀(ne:List Nat) (L b:Nat) (s:St),uW fl B0 w0 nt mU all L listed s a w g->G1 fl all ne L=some b->
 (∀i,has L i=true->has b i=true)/\
 ((∀Z k,∃m,zc (ne.map (p0 fl all)) e rec fm (s.at Z) k=.gu m)\/
   ∃s1,uW fl B0 w0 nt mU all b listed s1 a w g/\∀Z k,zc (ne.map (p0 fl all)) e rec fm (s.at Z) k=k (s1.at Z))
 |[],L,b,s,uI,h=>by
  cases h
  exact⟨fun _ h=>h,.inr ⟨s,uI,fun Z k=>rfl⟩⟩
 |i::ne,L,b,s,uI,h=>by
  simp only[G1]at h
  cases hb:(Nat.blt i all.length&&(!(Nat.beq (qI fl all i) 2)&&!(has L i)))with
  |false=>rw[hb]at h;cases h
  |true=>
   rw[hb]at h
   simp only[cond_true]at h
   simp only[Bool.and_eq_true,Bool.not_eq_true']at hb
   obtain⟨b1,b2,E⟩:=hb
   obtain⟨o,z⟩:=KE (all:=all) (fk b1)
   have hc:kO fl o.op≠2:=fun k=>by rw[C2 z,k,Nat.beq_refl]at b2;cases b2
   have y:p0 fl all i=tw fl all o:=by simp[p0,z]
   have p:∀Z k,zc ((i::ne).map (p0 fl all)) e rec fm (s.at Z) k=(tw fl all o).run e rec fm s.I s.ds s.O s.G Z (fun s=>zc (ne.map (p0 fl all)) e rec fm s k):=by
    intro Z k
    simp only[List.map_cons,zc,y];rfl
   rcases WK all hc e rec fm s with g1|⟨s1,N,g1⟩
   · refine⟨fun k hk=>?_,.inl fun Z k=>by rw[p];exact g1 _ _⟩
     have:∀(ne:List Nat) (L b:Nat),G1 fl all ne L=some b->∀i,has L i=true->has b i=true:=by
      intro ne
      induction ne with
      |nil=>intro L b h i hi;cases h;exact hi
      |cons j ne ih=>
       intro L b h i hi
       simp only[G1]at h
       cases hb:(Nat.blt j all.length&&(!(Nat.beq (qI fl all j) 2)&&!(has L j)))with
       |false=>rw[hb]at h;cases h
       |true=>rw[hb]at h;exact ih _ _ h i (sV hi)
     exact this ne _ _ h k (sV hk)
   · have B:=uI.ne ok A z hc E N
     obtain⟨F,u⟩:=MJ ok A ne (put L i) b s1 B h
     refine⟨fun k hk=>F k (sV hk),?_⟩
     rcases u with u|⟨s2,C,u⟩
     · exact .inl fun Z k=>by rw[p,g1];exact u Z k
     · exact .inr ⟨s2,C,fun Z k=>by rw[p,g1];exact u Z k⟩
theorem Iv:∀(qW:List Nat) (s:St),(∀i∈qW,qI fl all i≠2)->
 (∀Z k,∃m,xB (qW.map (vI fl all)) e (s.at Z) k=.gu m)\/
   ((∀Z k,xB (qW.map (vI fl all)) e (s.at Z) k=k)/\∀i∈qW,∀o,nP i all=some o->Good fl all o e.T s.O s.G s.I)
 |[],s,_=>.inr ⟨fun Z k=>rfl,fun i hi=>by cases hi⟩
 |i::qW,s,hc=>by
  have b:∀Z k,xB ((i::qW).map (vI fl all)) e (s.at Z) k=(vI fl all i).run e.T s.O s.G s.I (xB (qW.map (vI fl all)) e (s.at Z) k):=fun Z k=>rfl
  cases p:nP i all with
  |none=>
   have:vI fl all i=⟨fun _ _ _ _ _=>.gu 0⟩:=by simp[vI,p]
   exact .inl fun Z k=>⟨0,by rw[b,this]⟩
  |some o=>
   have:vI fl all i=Hg fl all o:=by simp[vI,p]
   have u:=hc i (fz ..)
   rw[C2 p]at u
   rcases Up all o (Pw u) e.T s.O s.G s.I with g1|⟨g1,g2⟩
   · exact .inl fun Z k=>by rw[b,this];exact g1 _
   · rcases Iv qW s (fun k hk=>hc k (List.mem_cons_of_mem _ hk))with y|⟨y,z⟩
     · exact .inl fun Z k=>by rw[b,this,g1];exact y Z k
     · refine .inr ⟨fun Z k=>by rw[b,this,g1];exact y Z k,fun k hk o' j=>?_⟩
       rcases fT.1 hk with rfl|hk
       · rw[p]at j;cases j;exact g2
       · exact z k hk o' j
theorem GD{i:Nat}:∀{l:List Nat},F1 i l=true->i∈l
 |[],h=>by cases h
 |x::l,h=>by
  simp only[F1,Bool.or_eq_true]at h
  rcases h with h|h
  · rw[beq_eq h];exact fz ..
  · exact fG _ (GD h)
structure Hs(fl:Bool)(all:List Oper)(bm:List Nat)(L:Nat)(kZ:Option Nat)(rest:List wu):Prop where
 ready:∀i,i<all.length->has L i=true\/kZ=some i\/sub (maskAt .any all i) L=false
 last:kZ=none->∀i,i<all.length->has L i=true
 next:∀y,kZ=some y->y<all.length/\qI fl all y=2/\has L y=false/\vP fl all bm rest (put L y) (some y)=true
def B5(fl:Bool)(all:List Oper)(e:Env)(rec:Rec)(fm:Fm)(kZ:Option Nat)(rest:List wu)(s:St):R:=match kZ with
 |none=>.ok (0,s)
 |some y=>(p0 fl all y).run e rec fm s.I s.ds s.O s.G s.Z (fun st2=>o9 (Ax fl all rest) e rec fm st2)
theorem WM(st:wu)(h:(st.qW.all fun i=>!(Nat.beq (qI fl all i) 2))=true):∀i∈st.qW,qI fl all i≠2:=fun i hi k=>by
 have:=fO.1 h i hi
 rw[k]at this;cases this
theorem KG(ok:Eo ng nt all)(A:rI fl all bm){st:wu}{rest:List wu}{x:Option Nat}(uI:uW fl B0 w0 nt mU all L listed s a w g)(h:vP fl all bm (st::rest) L x=true)
 (hx:∀y,x=some y->y<all.length/\sq listed y):
 (∀Z,∃m,o9 (Ax fl all (st::rest)) e rec fm (s.at Z)=.gu m)\/
 ∃s1 j,uW fl B0 w0 nt mU all j listed s1 a w g/\Hs fl all bm j st.kZ rest/\(∀i,yZ all j listed i->∀o,nP i all=some o->Good fl all o e.T s1.O s1.G s1.I)/\
  ∀Z,o9 (Ax fl all (st::rest)) e rec fm (s.at Z)=B5 fl all e rec fm st.kZ rest (s1.at Z):=by
 simp only[vP]at h
 cases jI:G1 fl all st.ne L with
 |none=>rw[jI]at h;cases h
 |some j=>
  rw[jI]at h
  simp only[Bool.and_eq_true]at h
  obtain⟨h0,h1,D,h3⟩:=h
  have z:=WM st h0
  have b:∀Z,o9 (Ax fl all (st::rest)) e rec fm (s.at Z)=zc (st.ne.map (p0 fl all)) e rec fm (s.at Z) (fun st1=>xB (st.qW.map (vI fl all)) e st1 (B5 fl all e rec fm st.kZ rest st1)):=by
   intro Z
   simp only[Ax,o9]
   congr 1
   funext st1
   congr 1
   cases st.kZ<;>rfl
  obtain⟨_,q⟩:=MJ (e:=e) (rec:=rec) (fm:=fm) ok A st.ne L j s uI jI
  rcases q with q|⟨s1,u,q⟩
  · exact .inl fun Z=>by rw[b];exact q Z _
  · rcases Iv (all:=all) (e:=e) st.qW s1 z with r|⟨r1,r2⟩
    · exact .inl fun Z=>by rw[b,q];exact r Z _
    · refine .inr ⟨s1,j,u,⟨fun i hi=>?_,fun he=>?_,fun y he=>?_⟩,fun i hi o B=>?_,fun Z=>by rw[b,q,r1]⟩
      · have:=sc D hi
        simp only[Bool.or_eq_true,Bool.not_eq_true']at this
        rcases this with k|k|k
        · exact .inl k
        · refine .inr (.inl ?_)
          cases he:st.kZ with
          |none=>rw[he]at k;cases k
          |some y=>rw[he]at k;rw[beq_eq k]
        · exact .inr (.inr k)
      · rw[he]at h3
        simp only at h3
        split at h3
        · exact fun i hi=>sc h3 hi
        · cases h3
      · rw[he]at h3
        simp only[Bool.and_eq_true,Bool.not_eq_true']at h3
        obtain⟨⟨C,E,F⟩,J⟩:=h3
        exact⟨fk C,beq_eq E,F,J⟩
      · have:=sc h1 hi.1
        simp only[Bool.or_eq_true,Bool.not_eq_true',Bool.and_eq_true]at this
        rcases this with(k|k)|k|⟨_,k⟩
        · exact absurd (beq_eq k) (u.JH i hi)
        · rw[hi.2.1]at k;cases k
        · exact r2 i (GD k) o B
        · cases p:x with
          |none=>rw[p]at k;cases k
          |some y=>
           rw[p]at k
           obtain⟨K,M⟩:=hx y p
           exact absurd (KF A uI.closed y K (uI.closed y M) i k) hi.2.2
end
end
end Sw
namespace Sw
noncomputable section
open Go Go.RowKit
section
variable {fl:Bool}{P:Program}{ng rW:Nat}{B0:Nat}{w0:World}{nt mU:Nat}{ops:Array Oper}{L:Nat}{listed:Array Bool}{s:St}{a:Act}{w:World}{g:Gm}{bm:List Nat}{e:Env}{rec:Rec}{b:Frame}{rn:Option Nat}
theorem tz{i k:Nat}(hi:i<listed.size):sq (listed.setIfInBounds i true) k↔k=i\/sq listed k:=by
 unfold sq
 by_cases h:k=i
 · subst h
   simp[hi]
 · rw[Array.getElem?_setIfInBounds_ne (fun e=>h e.symm)]
   simp[h]
theorem GF{all:List Oper}(uI:uW fl B0 w0 nt mU all L listed s a w g)(ok:Eo rW nt all)(e:rI fl all bm){i:Nat}{o:Oper}(b:nP i all=some o)
 (hr:∀ed∈pE all i,Region.binds .any ed=true->sq listed ed.on) {t:Nat} (j:t∈looks all o) (jH:t<nt):fP g (s.I.get t) (a.tmps.getD t undef):=by
 have hi:=JI b
 refine uI.tmps t jH fun k hk hd=>?_
 have:t∈looksAt all i:=by simp only[looksAt,b];exact j
 rcases e.looks i hi t this k hk.1 hd with h|h
 · exact uI.JH k hk h
 · exact hk.2.2 (KF e uI.closed i hi hr k h)
theorem Sa{all:List Oper}(uI:uW fl B0 w0 nt mU all L listed s a w g)(ok:Eo rW nt all)(u:rI fl all bm)(hg:lv g rW){i:Nat}{o:Oper}(p:nP i all=some o)
 (hr:∀ed∈pE all i,Region.binds .any ed=true->sq listed ed.on):vK g s.I a.eval o.op.operands.toList:=by
 have b:=fO.1 ok.ops o (MI p)
 unfold xc at b
 rw[Bool.and_eq_true]at b
 intro x hx
 have m:=fO.1 b.1 x hx
 cases x with
 |tmp t=>
  have jH:t<nt:=fk m
  refine GF uI ok u p hr (t:=t) ?_ jH
  unfold looks
  refine fR.2 (.inr ?_)
  exact List.mem_filterMap.2 ⟨.tmp t,hx,rfl⟩
 |const v=>exact fP.Hk g 4 v m
 |global j=>exact fP.ptr (off:=0) (hg j (fk m))
 |func f=>exact .func rfl rfl (fun i v v' e=>by simp at e) (fun i v v' e=>by simp at e)
theorem OM(uI:uW fl B0 w0 nt mU ops.toList L listed s a w g)(ok:Eo rW nt ops.toList)(u:rI fl ops.toList bm){i:Nat}{o:Oper}(m:nP i ops.toList=some o)
 (hr:∀ed∈pE ops.toList i,Region.binds .any ed=true->sq listed ed.on):Bt g ops s.I a o:=by
 intro j wn e p d hj hd
 have b:sA ops.toList j=some d:=by
  have:nP j ops.toList=some p:=by rw[qx];simpa using hj
  rw[A_ this,hd]
 have jH:=ok.dst b
 refine⟨GF uI ok u m hr (t:=d) ?_ jH,by rw[uI.Iu];exact jH⟩
 unfold looks
 rw[e]
 simp only[b]
 exact fR.2 (.inl (List.mem_singleton.2 rfl))
theorem uW.Ur{all:List Oper}(uI:uW fl B0 w0 nt mU all L listed s a w g)(ok:Eo rW nt all)(aa:rI fl all bm){i:Nat}{o:Oper}(B:nP i all=some o)(O:yZ all L listed i)(e:i<listed.size)
 (hr:∀ed∈pE all i,Region.binds .any ed=true->sq listed ed.on) {v':Value} {w':World} {g':Gm} (H:gx B0 w0 g' s.O.get s.G w') (S:∀d,o.dst=some d->fP g' (s.I.get d) v') (E:lR g mU w g' s.G w')
 (A:∀m,g'.ga m≠none->g.ga m≠none\/(kO fl o.op=1/\∃d,o.dst=some d/\w5 (s.I.get d)=some m)):
 uW fl B0 w0 nt mU all L (listed.setIfInBounds i true) s (a.put o.dst v') w' g':=by
 have j:∀k,yZ all L (listed.setIfInBounds i true) k->k≠i/\yZ all L listed k:=fun k hk=>by
  have h3:=hk.2.2
  rw[tz e]at h3
  exact⟨fun h=>h3 (.inl h),hk.1,hk.2.1,fun h=>h3 (.inr h)⟩
 refine⟨fun k hk=>?_,fun k hk=>uI.JH k (j k hk).2,fun k hk ed he hb=>?_,H,by rw[put_defers];exact uI.ds.mono E.ext.le,?_,fun x hx hk=>?_,uI.low,fun k hk C d m hd hm=>?_⟩
 · rcases(tz e).1 hk with rfl|hk
   · exact O.2.1
   · exact uI.sub k hk
 · rw[tz e]
   rcases(tz e).1 hk with rfl|hk
   · exact .inr (hr ed he hb)
   · exact .inr (uI.closed k hk ed he hb)
 · cases hd:o.dst with
   |none=>simp only[Act.put];exact uI.Iu
   |some d=>simp only[Act.put,Array.size_setIfInBounds];exact uI.Iu
 · by_cases p:o.dst=some x
   · have h1:=S x p
     have:(a.put o.dst v').tmps.getD x undef=v':=by
      have:x<a.tmps.size:=by rw[uI.Iu];exact hx
      rw[p]
      simp[Act.put,Array.getD,this]
     rw[this];exact h1
   · have:(a.put o.dst v').tmps.getD x undef=a.tmps.getD x undef:=by
      cases hd:o.dst with
      |none=>rfl
      |some d=>
       have jI:d≠x:=fun h=>p (by rw[hd,h])
       simp only[Act.put,Array.getD_eq_getD_getElem?]
       rw[Array.getElem?_setIfInBounds_ne jI]
     rw[this]
     refine(uI.tmps x hx fun k b hd=>?_).mono E.ext.le
     by_cases u:k=i
     · subst u;rw[A_ B]at hd;exact p hd
     · refine hk k ⟨b.1,b.2.1,fun h=>?_⟩ hd
       rcases(tz e).1 h with h|h
       · exact u h
       · exact b.2.2 h
 · obtain⟨jI,b⟩:=j k hk
   obtain⟨W,X,q3,R⟩:=uI.ga k b C d m hd hm
   refine⟨?_,X,q3,fun N K y z d2 J=>R N (j N K).2 y z d2 J⟩
   cases hg:g'.ga m with
   |none=>rfl
   |some x=>
    rcases A m (by rw[hg];simp)with h|⟨hc,d',F,M⟩
    · exact absurd W h
    · exact absurd M (R i O (by rw[C2 B];exact hc) (fun h=>jI h.symm) d' (by rw[A_ B];exact F))
theorem uW.WQ{all:List Oper}(uI:uW fl B0 w0 nt mU all L listed s a w g)(ok:Eo rW nt all)(af:rI fl all bm){i:Nat}{o:Oper}(S:nP i all=some o)(X:has L i=false)(p:i<listed.size)
 (hr:∀ed∈pE all i,Region.binds .any ed=true->sq listed ed.on) {v v':Value} {F j:List Deferred} {e9:Ht} {e_:Nat} {w':World} {g':Gm} (H:gx B0 w0 g' e9.get e_ w') (ae:fP g' v v') (hd:nK g' F j) (E:lR g s.G w g' e_ w'):
 uW fl B0 w0 nt mU all (put L i) (listed.setIfInBounds i true) ⟨(kp o.dst).run s.I v,F,e9,e_,[]⟩ ({a with defers:=j}.put o.dst v') w' g':=by
 have y:∀k,yZ all (put L i) (listed.setIfInBounds i true) k->k≠i/\yZ all L listed k:=fun k hk=>by
  have h3:=hk.2.2
  rw[tz p]at h3
  have jI:k≠i:=fun h=>h3 (.inl h)
  exact⟨jI,hk.1,by have:=hk.2.1;rwa[It (fun e=>jI e.symm)]at this,fun h=>h3 (.inr h)⟩
 have hi:=JI S
 have z:∀d,o.dst=some d->d<512:=fun d hd=>fb (ok.dst ((A_ S).trans hd)) ok.small
 have C:∀x,x<512->o.dst≠some x->((kp o.dst).run s.I v).get x=s.I.get x:=fun x hx h=>Tm.Px z hx h
 have A:∀k d,k<all.length->k≠i->sA all k=some d->((kp o.dst).run s.I v).get d=s.I.get d:=fun k d hk jI hd=>
  C d (fb (ok.dst hd) ok.small) (by rw[<-A_ S];exact af.X7 k i hk hi jI d hd)
 refine⟨fun k hk=>?_,fun k hk=>uI.JH k (y k hk).2,fun k hk ed he hb=>?_,H,by rw[put_defers];exact hd,?_,fun x hx hk=>?_,ff uI.low E.ext.num,fun k hk aa d m hd hm=>?_⟩
 · rcases(tz p).1 hk with rfl|hk
   · exact Fh _ _
   · exact sV (uI.sub k hk)
 · rw[tz p]
   rcases(tz p).1 hk with rfl|hk
   · exact .inr (hr ed he hb)
   · exact .inr (uI.closed k hk ed he hb)
 · cases hd:o.dst with
   |none=>simp only[Act.put];exact uI.Iu
   |some d=>simp only[Act.put,Array.size_setIfInBounds];exact uI.Iu
 · by_cases u:o.dst=some x
   · have h0:((kp o.dst).run s.I v).get x=v:=by rw[u];exact Tm.Bv (z x u)
     have h1:({a with defers:=j}.put o.dst v').tmps.getD x undef=v':=by
      have:x<a.tmps.size:=by rw[uI.Iu];exact hx
      rw[u]
      simp[Act.put,Array.getD,this]
     show fP g' (((kp o.dst).run s.I v).get x) _
     rw[h0,h1];exact ae
   · have h1:({a with defers:=j}.put o.dst v').tmps.getD x undef=a.tmps.getD x undef:=by
      cases hd:o.dst with
      |none=>rfl
      |some d=>
       have jI:d≠x:=fun h=>u (by rw[hd,h])
       simp only[Act.put,Array.getD_eq_getD_getElem?]
       rw[Array.getElem?_setIfInBounds_ne jI]
     show fP g' (((kp o.dst).run s.I v).get x) _
     rw[C x (Nat.lt_of_lt_of_le hx ok.small) u,h1]
     refine(uI.tmps x hx fun k b hd=>?_).mono E.ext.le
     have ad:k≠i:=fun h=>by subst h;rw[b.2.1]at X;cases X
     refine hk k ⟨b.1,sV b.2.1,fun h=>?_⟩ hd
     rcases(tz p).1 h with h|h
     · exact ad h
     · exact b.2.2 h
 · obtain⟨jI,b⟩:=y k hk
   have hm:w5 (((kp o.dst).run s.I v).get d)=some m:=hm
   rw[A k d b.1 jI hd]at hm
   obtain⟨ag,ah,q3,ai⟩:=uI.ga k b aa d m hd hm
   refine⟨?_,ah,fb q3 E.ext.num,fun W ab M N d2 J B=>?_⟩
   · cases hg:g'.ga m with
     |none=>rfl
     |some x=>
      rcases E.ext.new m (by rw[hg];simp)with h|h
      · exact absurd ag h
      · omega
   · obtain⟨R,K⟩:=y W ab
     have B:w5 (((kp o.dst).run s.I v).get d2)=some m:=B
     rw[A W d2 K.1 R J]at B
     exact ai W K M N d2 J B
end
end
end Sw
namespace Sw
noncomputable section
open Go Go.RowKit
theorem count_set:∀(l:List Bool) (i:Nat),l[i]?=some false->(l.set i true).count false+1=l.count false
 |[],i,h=>by simp at h
 |x::l,0,h=>by
  simp at h
  subst h
  simp
 |x::l,i+1,h=>by
  simp at h
  have:=count_set l i h
  cases x<;>simp[List.count_cons]<;>omega
section
variable {fl:Bool}{P:Program}{ng rW:Nat}{B0:Nat}{w0:World}{nt mU:Nat}{ops:Array Oper}{L:Nat}{listed:Array Bool}{s:St}{a:Act}{w:World}{g:Gm}{bm:List Nat}{e:Env}{rec:Rec}{b:Frame}{rn:Option Nat}{md:Region.Mode}{ks:List Item}{fs:List Frame}
theorem KH(j:listed.size=ops.toList.length){i:Nat}:i∈Region.ready md ops listed↔i<ops.toList.length/\¬sq listed i/\∀ed∈pE ops.toList i,Region.binds md ed=true->sq listed ed.on:=by
 unfold Region.ready
 rw[List.mem_filter,List.mem_range]
 have hn:ops.toList.length=ops.size:=by simp
 rw[hn]
 by_cases hi:i<ops.size
 · have h1:nP i ops.toList=some ops[i]:=by rw[qx];simp[hi]
   have D:pE ops.toList i=ops[i].after.toList:=by simp[pE,h1]
   have h3:i<listed.size:=by omega
   rw[D]
   simp only[hi,true_and]
   have e1:listed.getD i true=listed[i]:=by simp[Array.getD,h3]
   have e2:sq listed i↔listed[i]=true:=by unfold sq;rw[Array.getElem?_eq_getElem h3];simp
   have e3:∀k,listed.getD k false=true↔sq listed k:=fun k=>by
    unfold sq
    by_cases hk:k<listed.size
    · simp[Array.getD,hk]
    · simp[Array.getD,hk]
   rw[e1,e2]
   simp only[hi,Array.getElem?_eq_getElem,Option.map_some,Option.getD_some,Bool.and_eq_true,Bool.not_eq_true',<-Array.all_toList,List.all_eq_true,Bool.or_eq_true,e3]
   constructor
   · rintro ⟨b,e⟩
     refine⟨by simpa using b,fun ed he hb=>?_⟩
     rcases e ed he with h|h
     · rw[hb]at h;cases h
     · exact h
   · rintro ⟨b,e⟩
     refine⟨by simpa using b,fun ed he=>?_⟩
     cases hb:Region.binds md ed with
     |false=>exact .inl rfl
     |true=>exact .inr (e ed he hb)
 · simp[hi]
theorem Iw(uI:uW fl B0 w0 nt mU ops.toList L listed s a w g){kZ:Option Nat}{rest:List wu}(m:Hs fl ops.toList bm L kZ rest)(j:∀i,i<ops.toList.length->sq listed i)(fm:Fm):
 wI P B0 w0 b nt g mU ops [] a w ks fs fun Z=>B5 fl ops.toList e rec fm kZ rest (s.at Z):=by
 cases kZ with
 |some y=>
  obtain⟨h1,_,h3,_⟩:=m.next y rfl
  rw[uI.sub y (j y h1)]at h3
  cases h3
 |none=>
  refine .here (.inr ⟨s,fun Z=>rfl,a,w,g,⟨uI.heap,⟨uI.Iu,fun x hx=>uI.tmps x hx fun i hi _=>hi.2.2 (j i hi.1)⟩,uI.ds⟩,lR.low (lR.refl _ _ _) uI.low,.refl ..⟩)
theorem wI.pre{l:List Nat}{i:Nat}{a':Act}{w':World}{g':Gm}{r:List Nat->R}(h:wI P B0 w0 b nt g' mU ops l a' w' ks fs r)(hE:∀e_,mU<=e_->lR g mU w g' e_ w')
 (st:Steps P (lone (At b a (.inRegion ops (i::l)::ks)) fs w) (lone (At b a' (.inRegion ops l::ks)) fs w')):wI P B0 w0 b nt g mU ops (i::l) a w ks fs r:=by
 refine h.mono fun f' h=>?_
 rcases h with h|⟨m,h,a2,o,g2,j,e,st2⟩
 · exact .inl h
 · exact .inr ⟨m,h,a2,o,g2,j,(hE mU (fg _)).R7 e,st.trans st2⟩
theorem lR.X8{b n2:Nat}{w':World}{g':Gm}(h:lR g mU w g' b w')(k:mU<=n2):lR g mU w g' n2 w':=⟨⟨h.ext.le,k,h.ext.new⟩,h.kept,h.held⟩
theorem QJ(ok:mY P ng e)(nm:so P ng B0 w0 e)(ih:o5 P ng B0 w0 rec)(C:Eo rW nt ops.toList)(af:rI fl ops.toList bm)(f:FuncId){is:List Nat}(aH:u7 md ops.toList is 0=true):
 ∀(j t:Nat) (listed:Array Bool) (L:Nat) (s:St) (a:Act) (w:World) (g:Gm) (kZ:Option Nat) (rest:List wu),
  uW fl B0 w0 nt mU ops.toList L listed s a w g->(∀i,yZ ops.toList L listed i->∀o,nP i ops.toList=some o->Good fl ops.toList o e.T s.O s.G s.I)->Hs fl ops.toList bm L kZ rest->
  listed.size=ops.toList.length->listed.toList.count false<=j->xC g b rn->lv g ng->lv g rW->
  wI P B0 w0 b nt g mU ops (Region.linearise.go md ops j t listed []) a w ks fs fun Z=>B5 fl ops.toList e rec ⟨f,nt,rn⟩ kZ rest (s.at Z):=by
 intro j
 induction j with
 |zero=>
  intro t listed L s a w g kZ rest uI oV S F ad N hg K
  have J:∀i,i<ops.toList.length->sq listed i:=by
   intro i hi
   have aw:i<listed.size:=by omega
   cases hb:listed[i]with
   |true=>unfold sq;rw[Array.getElem?_eq_getElem aw,hb]
   |false=>
    exfalso
    have:false∈listed.toList:=by rw[<-hb];simp
    have:=List.count_pos_iff.2 this
    omega
  simp only[Region.linearise.go]
  exact Iw uI S J _
 |succ j ak=>
  intro t listed L s a w g kZ rest uI oV S F ad N hg K
  simp only[Region.linearise.go]
  change wI P B0 w0 b nt g mU ops (match (Region.ready md ops listed)[t%(Region.ready md ops listed).length]? with
   |some i=>Region.linearise.go md ops j (t/(Region.ready md ops listed).length) (listed.setIfInBounds i true) [i]
   |none=>[].reverse) a w ks fs _
  cases ae:(Region.ready md ops listed)[t%(Region.ready md ops listed).length]? with
  |none=>
   have an:Region.ready md ops listed=[]:=by
    cases hr:Region.ready md ops listed with
    |nil=>rfl
    |cons x xs=>
     rw[hr]at ae
     have jH:t%(x::xs).length<(x::xs).length:=Nat.mod_lt _ (by simp)
     simp at ae
     simp at jH
     omega
   have J:∀i,i<ops.toList.length->sq listed i:=by
    rcases QI (MB:=sq listed) is 0 aH (fun i h=>by rw[Bu]at h;cases h)with h|⟨i,h1,D,h3⟩
    · exact h
    · have:=(KH F).2 ⟨h1,D,h3⟩
      rw[an]at this;cases this
   exact Iw uI S J _
  |some i=>
   simp only[]
   rw[linearise_go_acc,List.reverse_singleton,List.singleton_append]
   obtain⟨hi,E,p⟩:=(KH F).1 (fa ae)
   have p:∀ed∈pE ops.toList i,Region.binds .any ed=true->sq listed ed.on:=fun ed he hb=>p ed he (KD hb)
   obtain⟨o,u⟩:=KE (all:=ops.toList) hi
   have M:ops[i]?=some o:=by rw[qx]at u;simpa using u
   have A:i<listed.size:=by omega
   have B:(listed.setIfInBounds i true).toList.count false<=j:=by
    have hf:listed.toList[i]?=some false:=by
     rw[Array.getElem?_toList]
     unfold sq at E
     rw[Array.getElem?_eq_getElem A]at E⊢
     cases hb:listed[i]with
     |false=>rfl
     |true=>rw[hb]at E;exact absurd rfl E
    have:=count_set _ i hf
    rw[Array.toList_setIfInBounds]
    omega
   have ax:=Sa uI C af K u p
   have au:=OM uI C af u p
   rcases S.ready i hi with aa|aa|aa
   ·
    have O:yZ ops.toList L listed i:=⟨hi,aa,E⟩
    have aL:=uI.JH i O
    obtain⟨v',w',g',aD,aI,W,al,st⟩:=R8 (b:=b) (mU:=mU) ok uI.heap M ax au uI.low (oV i O o u) (fun hc d m hd hm=>by
     obtain⟨aJ,aK,q3,_⟩:=uI.ga i O (by rw[C2 u];exact hc) d m (by rw[A_ u];exact hd) hm
     exact⟨aJ,aK,q3⟩)
    have az:=uI.Ur C af u O A p aD aI W al
    refine wI.pre (ak _ _ L s _ w' g' kZ rest az (fun k hk o' M=>oV k ⟨hk.1,hk.2.1,fun h=>hk.2.2 ((tz A).2 (.inr h))⟩ o' M) S (by simpa using F) B (N.mono W.ext.le) (hg.mono W.ext.le) (K.mono W.ext.le)) (fun e_ h=>W.X8 h) (st _ ks fs)
   ·
    subst aa
    obtain⟨_,ab,av,aj⟩:=S.next i rfl
    have ah:p0 fl ops.toList i=iQ ops.toList o:=by
     rw[C2 u]at ab
     simp only[p0,u,tw,(QD ab).2];rfl
    have z:(fun Z=>B5 fl ops.toList e rec ⟨f,nt,rn⟩ (some i) rest (s.at Z))=fun Z=>(iQ ops.toList o).run e rec ⟨f,nt,rn⟩ s.I s.ds s.O s.G Z (fun st2=>o9 (Ax fl ops.toList rest) e rec ⟨f,nt,rn⟩ st2):=by
     funext Z;simp only[B5,ah];rfl
    rw[z]
    have yw:=Gz (I:=s.I) (i:=i) (ops:=ops) (rn:=rn) (rest:=Region.linearise.go md ops j (t/(Region.ready md ops listed).length) (listed.setIfInBounds i true) []) (ks:=ks) (fs:=fs) (R:=⟨ok,nm,ih,uI.heap,hg,uI.ds,N⟩) M ax au f nt
    refine(yw _).bind fun f' h=>?_
    rcases h with h|⟨v,ai,e9,e_,h,v',aG,w1,g1,H1,aF,aA,X,st1⟩
    · exact .dead h
    · have aB:=uI.WQ C af u av A p H1 aF aA X
      have z:f'=fun Z=>o9 (Ax fl ops.toList rest) e rec ⟨f,nt,rn⟩ ((⟨(kp o.dst).run s.I v,ai,e9,e_,[]⟩:St).at Z):=funext h
      rw[z]
      cases rest with
      |nil=>simp[vP]at aj
      |cons ao rest=>
       rcases KG (e:=e) (rec:=rec) (fm:=⟨f,nt,rn⟩) C af aB aj (fun y hy=>by cases hy;exact⟨hi,(tz A).2 (.inl rfl)⟩)with q|⟨ay,aE,aC,ar,ag,q⟩
       · exact .dead fun Z=>q Z
       · have z:(fun Z=>o9 (Ax fl ops.toList (ao::rest)) e rec ⟨f,nt,rn⟩ ((⟨(kp o.dst).run s.I v,ai,e9,e_,[]⟩:St).at Z))=fun Z=>B5 fl ops.toList e rec ⟨f,nt,rn⟩ ao.kZ rest (ay.at Z):=funext q
         rw[z]
         have aq:=(X.low uI.low)
         exact wI.pre (ak _ _ aE ay _ w1 g1 ao.kZ rest aC ag ar (by simpa using F) B (N.mono X.ext.le) (hg.mono X.ext.le) (K.mono X.ext.le)) (fun e_ h=>aq.X8 h) st1
   · exfalso
     have:sub (maskAt .any ops.toList i) L=true:=R9 fun x hx=>by
      obtain⟨ed,h1,D,rfl⟩:=yz.1 hx
      exact uI.sub _ (p ed h1 D)
     rw[aa]at this;cases this
end
end
end Sw
namespace Sw
noncomputable section
open Go Go.RowKit
section
variable {fl:Bool}{P:Program}{ng rW:Nat}{B0:Nat}{w0:World}{nt:Nat}{ops:Array Oper}{s:St}{a:Act}{w:World}{g:Gm}{e:Env}{rec:Rec}{b:Frame}{rn:Option Nat}{ks:List Item}{fs:List Frame}
theorem Ix{all:List Oper}:∀(is:List Nat) (L:Nat),u7 .text all is L=true->u7 .any all is L=true
 |[],L,h=>h
 |i::is,L,h=>by
  simp only[u7,Bool.and_eq_true]at h⊢
  refine⟨h.1,R9 fun x hx=>?_,Ix is _ h.2.2⟩
  obtain⟨ed,h1,D,rfl⟩:=yz.1 hx
  exact F8 h.2.1 (yz.2 ⟨ed,h1,KD D,rfl⟩)
theorem JJ{id:Nat}{k:List Item}{Z:List Frame}:
 step P (lone (At b a (.code (.region id ops true)::k)) Z w)=
  .next (lone (At b a (.inRegion ops (Region.schedule (P.follows .mixedOrders) ops (w.tape w.drawn (.order b.fn id)))::k)) Z {w with drawn:=w.drawn+1}):=
 step_lone_go (by simp[stepG,stepG.exec,At,choose,Sem.run,Question.forced,Question.cut])
theorem Ll(mixed:Bool)(t:Nat):∃md b,Region.schedule mixed ops t=Region.linearise md ops b/\(md=.any\/md=.text\/md=.gc):=by
 unfold Region.schedule
 split
 · exact⟨_,_,rfl,.inl rfl⟩
 · split
   · exact⟨_,_,rfl,.inr (.inl rfl)⟩
   · exact⟨_,_,rfl,.inr (.inr rfl)⟩
theorem ON(ok:mY P ng e)(nm:so P ng B0 w0 e)(ih:o5 P ng B0 w0 rec)(hn:nt<=512)(M:ops.toList.all (xc rW nt)=true)(m:HZ ops.toList=true)(f:FuncId)(id:Nat)(S:vT B0 w0 g nt s a w)(hg:lv g ng)(J:lv g rW)(N:xC g b rn):
 vA P B0 w0 b nt g s.G (.region id ops true) a w ks fs fun Z=>o9 (Ax (wv ops.toList) ops.toList (yn (wv ops.toList) ops.toList).sk) e rec ⟨f,nt,rn⟩ (s.at Z):=by
 unfold HZ at m
 generalize wv ops.toList=fl at m⊢
 obtain⟨R,t1,t2,t3⟩:=R_ m
 have p:Eo rW nt ops.toList:=⟨hn,M⟩
 obtain⟨md,ae,C,L⟩:=Ll (ops:=ops) (P.follows .mixedOrders) (w.tape w.drawn (.order b.fn id))
 have j:∃is,u7 md ops.toList is 0=true:=by
  rcases L with rfl|rfl|rfl
  · exact⟨_,Ix _ _ t1⟩
  · exact⟨_,t1⟩
  · exact⟨_,t2⟩
 obtain⟨is,j⟩:=j
 let w1:World:={w with drawn:=w.drawn+1}
 have H1:gx B0 w0 g s.O.get s.G w1:=S.heap.of_heap rfl rfl rfl rfl
 have aa:lR g s.G w g s.G w1:=⟨yv.refl _ _,⟨fg _,fun _ _ _=>rfl⟩,pQ.refl _ _⟩
 let listed:Array Bool:=Array.replicate ops.size false
 have K:listed.size=ops.toList.length:=by simp[listed]
 have u:∀i,¬sq listed i:=fun i h=>by
  unfold sq at h
  simp only[listed,Array.getElem?_replicate]at h
  split at h<;>cases h
 have z:∀i,¬yZ ops.toList 0 listed i:=fun i h=>by have:=h.2.1;rw[Bu]at this;cases this
 have uI:uW fl B0 w0 nt s.G ops.toList 0 listed s a w1 g:=
  ⟨fun i h=>absurd h (u i),fun i h=>absurd h (z i),fun i h=>absurd h (u i),H1,S.act.2,S.act.1.1,fun x hx _=>S.act.1.2 x hx,fg _,fun i h=>absurd h (z i)⟩
 cases A:(yn fl ops.toList).sk with
 |nil=>rw[A]at t3;simp[vP]at t3
 |cons E rest=>
  rw[A]at t3
  rcases KG (e:=e) (rec:=rec) (fm:=⟨f,nt,rn⟩) p R uI t3 (fun y hy=>by cases hy)with q|⟨s1,ab,W,F,o,q⟩
  · exact .dead fun Z=>q Z
  · have B:(fun Z=>o9 (Ax fl ops.toList (E::rest)) e rec ⟨f,nt,rn⟩ (s.at Z))=fun Z=>B5 fl ops.toList e rec ⟨f,nt,rn⟩ E.kZ rest (s1.at Z):=funext q
    rw[B]
    have main:=QJ (b:=b) (rn:=rn) (ks:=ks) (fs:=fs) (mU:=s.G) ok nm ih p R f j ops.size ae listed ab s1 a w1 g E.kZ rest W o F K (by simp[listed]) N hg J
    refine main.mono fun f' h=>?_
    rcases h with h|⟨ad,h,a',w',g',S',X,st⟩
    · exact .inl h
    · refine .inr ⟨0,ad,h,a',w',g',S',aa.R7 X,ks,rfl,?_⟩
      have s1:=Steps.one (JJ (P:=P) (b:=b) (a:=a) (w:=w) (k:=ks) (Z:=fs) (id:=id) (ops:=ops))
      rw[C]at s1
      exact(s1.trans st).trans (.one yu)
end
end
end Sw
namespace Sw
noncomputable section
open Go Go.RowKit
section
variable {P:Program}{ng:Nat}{B0:Nat}{w0:World}{e:Env}
theorem vA.dead{b:Frame}{nt:Nat}{g:Gm}{G:Nat}{c:Code}{a:Act}{w:World}{ks:List Item}{fs:List Frame}{r:List Nat->R}(h:∀Z,∃m,r Z=.gu m):vA P B0 w0 b nt g G c a w ks fs r:=me.dead h
theorem vA.part{b:Frame}{nt:Nat}{g:Gm}{G:Nat}{c c1:Code}{a:Act}{w:World}{j ks:List Item}{fs:List Frame}{r r2:List Nat->R}(h:vA P B0 w0 b nt g G c1 a w j fs r)(hn:∀p m,r p=.gu m->r2 p=.gu m)
 (k:∀pre o e,(∀Z,r (pre++Z)=.ok (o,e.at Z))->jL P B0 w0 b nt g G c1 a w o e j fs->vA P B0 w0 b nt g G c a w ks fs fun rest=>r2 (pre++rest)):vA P B0 w0 b nt g G c a w ks fs r2:=by
 refine me.map h hn fun pre h=>?_
 rcases h with h|⟨o,e,h,L⟩
 · exact .dead fun Z=>by obtain⟨m,h⟩:=h Z;exact⟨m,hn _ _ h⟩
 · exact k pre o e h L
theorem sn.seq{g:Gm}{nt:Nat}{a b:Code}(h:sn g nt (.seq a b)):sn g nt a/\sn g nt b:=by
 obtain⟨ng,h1,D⟩:=h
 simp only[codeOk,Bool.and_eq_true]at D
 exact⟨⟨ng,h1,D.1⟩,⟨ng,h1,D.2⟩⟩
theorem WR(ok:mY P ng e)(nm:so P ng B0 w0 e){rec:Rec}(ih:o5 P ng B0 w0 rec):o5 P ng B0 w0 (fun fm c s=>vJ c e rec fm s):=by
 intro fm c s b a w g M z hg y A S ks fs
 obtain⟨fn,nt,rn⟩:=fm
 simp only at M z y A⊢
 have S:vT B0 w0 g nt s a w:=S
 subst M
 cases c with
 |skip=>exact .here (.inr ⟨0,s,fun Z=>rfl,jL.skip S⟩)
 |label l=>exact .here (.inr ⟨0,s,fun Z=>rfl,jL.label S⟩)
 |exit i=>exact .here (.inr ⟨i+2,s,fun Z=>rfl,jL.exit S⟩)
 |ret=>exact .here (.inr ⟨1,s,fun Z=>rfl,jL.ret S⟩)
 |seq c1 c2=>
  obtain⟨E,ae⟩:=A.seq
  have u:=ih ⟨b.fn,nt,rn⟩ c1 s b a w g rfl z hg y E S (.code c2::ks) fs
  have j:∀Z,vJ (.seq c1 c2) e rec ⟨b.fn,nt,rn⟩ (s.at Z)=(match rec ⟨b.fn,nt,rn⟩ c1 (s.at Z)with
   |.ok (o,s1)=>(match o with
    |0=>rec ⟨b.fn,nt,rn⟩ c2 s1
    |o+1=>.ok (o+1,s1))
   |.gu m=>.gu m):=fun Z=>rfl
  refine vA.part (r2:=fun Z=>vJ (.seq c1 c2) e rec ⟨b.fn,nt,rn⟩ (s.at Z)) u (fun p m h=>by simp only[j,h]) fun pre o s1 h L=>?_
  cases o with
  |succ o=>exact .here (.inr ⟨o+1,s1,fun Z=>by simp only[j,h],jL.Hi L⟩)
  |zero=>
   obtain⟨a1,w1,g1,R,B,J,F,t1⟩:=L
   have C:=ih ⟨b.fn,nt,rn⟩ c2 s1 b a1 w1 g1 rfl (z.mono B.ext.le) (hg.mono B.ext.le) y (ae.mono B.ext.le) R ks fs
   have D:(fun rest=>vJ (.seq c1 c2) e rec ⟨b.fn,nt,rn⟩ (s.at (pre++rest)))=fun Z=>rec ⟨b.fn,nt,rn⟩ c2 (s1.at Z):=by funext Z;rw[j,h]
   rw[D]
   refine me.mono C fun f' h=>?_
   rcases h with h|⟨o,s2,h,a2,af,g2,ad,aa,K,W,t2⟩
   · exact .inl h
   · have F:J=.code c2::ks:=F
     subst F
     exact .inr ⟨o,s2,h,a2,af,g2,ad,B.trans aa,K,W,((Steps.one Ii).trans t1).trans t2⟩
 |cond x c1 c2=>
  obtain⟨rW,h1,D⟩:=A
  simp only[codeOk,Bool.and_eq_true]at D
  have X:=Hl S.act.1 h1 D.1
  have j:∀Z,vJ (.cond x c1 c2) e rec ⟨b.fn,nt,rn⟩ (s.at Z)=(match (f_ x).run s.I with
   |.bool c=>(match c with
    |true=>rec ⟨b.fn,nt,rn⟩ c1 (s.at Z)
    |false=>rec ⟨b.fn,nt,rn⟩ c2 (s.at Z))
   |_=>.gu 0):=fun Z=>rfl
  generalize hx:(f_ x).run s.I=v at X j
  cases v<;>first|(refine vA.dead ?_;intro Z;refine⟨0,?_⟩;rw[j];done)|skip
  rename_i t
  have N:a.eval x=.bool t:=X.r9
  cases t with
  |true=>
   have yw:=ih ⟨b.fn,nt,rn⟩ c1 s b a w g rfl z hg y ⟨rW,h1,D.2.1⟩ S ks fs
   have h3:(fun Z=>vJ (.cond x c1 c2) e rec ⟨b.fn,nt,rn⟩ (s.at Z))=fun Z=>rec ⟨b.fn,nt,rn⟩ c1 (s.at Z):=by funext Z;rw[j]
   rw[h3]
   exact me.mono yw fun f' h=>h.imp id fun⟨o,s2,h,L⟩=>⟨o,s2,h,jL.cond (t:=true) N L⟩
  |false=>
   have yw:=ih ⟨b.fn,nt,rn⟩ c2 s b a w g rfl z hg y ⟨rW,h1,D.2.2⟩ S ks fs
   have h3:(fun Z=>vJ (.cond x c1 c2) e rec ⟨b.fn,nt,rn⟩ (s.at Z))=fun Z=>rec ⟨b.fn,nt,rn⟩ c2 (s.at Z):=by funext Z;rw[j]
   rw[h3]
   exact me.mono yw fun f' h=>h.imp id fun⟨o,s2,h,L⟩=>⟨o,s2,h,jL.cond (t:=false) N L⟩
 |block id c1=>
  have E:sn g nt c1:=by obtain⟨rW,h1,D⟩:=A;exact⟨rW,h1,D⟩
  have u:=ih ⟨b.fn,nt,rn⟩ c1 s b a w g rfl z hg y E S (.inBlock id::ks) fs
  have j:∀Z,vJ (.block id c1) e rec ⟨b.fn,nt,rn⟩ (s.at Z)=(match rec ⟨b.fn,nt,rn⟩ c1 (s.at Z)with
   |.ok (o,s1)=>bif Nat.beq o (id+2)then .ok (0,s1)else .ok (o,s1)
   |.gu m=>.gu m):=fun Z=>rfl
  refine vA.part (r2:=fun Z=>vJ (.block id c1) e rec ⟨b.fn,nt,rn⟩ (s.at Z)) u (fun p m h=>by simp only[j,h]) fun pre o s1 h L=>?_
  cases hb:Nat.beq o (id+2)with
  |true=>
   have:=beq_eq hb
   subst this
   exact .here (.inr ⟨0,s1,fun Z=>by simp only[j,h,hb,cond_true],jL.E8 L⟩)
  |false=>
   have jI:o≠id+2:=fun h=>by rw[h,Nat.beq_refl]at hb;cases hb
   refine .here (.inr ⟨o,s1,fun Z=>by simp only[j,h,hb,cond_false],?_⟩)
   cases o with
   |zero=>exact jL.Uj L
   |succ o=>exact jL.Qr L jI
 |loop c1=>
  have E:sn g nt c1:=by obtain⟨rW,h1,D⟩:=A;exact⟨rW,h1,D⟩
  have u:=ih ⟨b.fn,nt,rn⟩ c1 s b a w g rfl z hg y E S (.inLoop c1::ks) fs
  have j:∀Z,vJ (.loop c1) e rec ⟨b.fn,nt,rn⟩ (s.at Z)=(match rec ⟨b.fn,nt,rn⟩ c1 (s.at Z)with
   |.ok (o,s1)=>(match o with
    |0=>rec ⟨b.fn,nt,rn⟩ (.loop c1) s1
    |o+1=>.ok (o+1,s1))
   |.gu m=>.gu m):=fun Z=>rfl
  refine vA.part (r2:=fun Z=>vJ (.loop c1) e rec ⟨b.fn,nt,rn⟩ (s.at Z)) u (fun p m h=>by simp only[j,h]) fun pre o s1 h L=>?_
  cases o with
  |succ o=>exact .here (.inr ⟨o+1,s1,fun Z=>by simp only[j,h],jL.E7 L⟩)
  |zero=>
   have L':=L
   obtain⟨a1,w1,g1,R,B,st1⟩:=L'
   have C:=ih ⟨b.fn,nt,rn⟩ (.loop c1) s1 b a1 w1 g1 rfl (z.mono B.ext.le) (hg.mono B.ext.le) y (A.mono B.ext.le) R ks fs
   have D:(fun rest=>vJ (.loop c1) e rec ⟨b.fn,nt,rn⟩ (s.at (pre++rest)))=fun Z=>rec ⟨b.fn,nt,rn⟩ (.loop c1) (s1.at Z):=by funext Z;rw[j,h]
   rw[D]
   refine me.mono C fun f' h=>?_
   rcases h with h|⟨o,s2,h,ab⟩
   · exact .inl h
   · exact .inr ⟨o,s2,h,jL.Ze B st1 ab⟩
 |scope c1=>
  have E:sn g nt c1:=by obtain⟨rW,h1,D⟩:=A;exact⟨rW,h1,D⟩
  have u:=ih ⟨b.fn,nt,rn⟩ c1 s b a w g rfl z hg y E S (.inScope c1::ks) fs
  refine me.mono u fun f' h=>h.imp id fun⟨o,s2,h,L⟩=>⟨o,s2,h,?_⟩
  cases o with
  |zero=>exact jL.Uk L
  |succ o=>exact jL.Qs L
 |region id ops draw=>
  obtain⟨rW,h1,D⟩:=A
  simp only[codeOk,Bool.and_eq_true,Bool.or_eq_true,Bool.not_eq_true']at D
  cases draw with
  |false=>exact OL ok nm ih y D.1 b.fn id S hg h1 z
  |true=>
   have hd:HZ ops.toList=true:=by
    rcases D.2 with h|h
    · cases h
    · exact h
   exact ON ok nm ih y D.1 hd b.fn id S hg h1 z
 |rangeFunc f ps oP body=>exact QC ok nm ih y A S hg z
 |_=>exact vA.dead fun Z=>⟨0,rfl⟩
end
end
end Sw
namespace Sw
noncomputable section
open Go Go.RowKit
theorem F9{P:Program}{ng B0:Nat}{w0:World}{e:Env}(ok:mY P ng e)(nm:so P ng B0 w0 e):∀n,o5 P ng B0 w0 (ev e n)
 |0=>fun fm c s b a w g _ _ _ _ _ _ _ _=>vA.dead fun Z=>⟨0,rfl⟩
 |n+1=>WR ok nm (F9 ok nm n)
def DN(p:Nat->Bool):Nat->Bool
 |0=>true
 |n+1=>p n&&DN p n
theorem Cz{p:Nat->Bool}:∀{n:Nat},DN p n=true->∀c,c<n->p c=true
 |0,_,c,hc=>by omega
 |n+1,h,c,hc=>by
  simp only[DN,Bool.and_eq_true]at h
  by_cases e:c=n
  · subst e;exact h.1
  · exact Cz h.2 c (by omega)
def explore(r:List Nat->R):Nat->List Nat->Bool
 |0,_=>false
 |n+1,p=>match r p with
  |.ok _=>true
  |.gu m=>(match m with
   |0=>false
   |m+1=>DN (fun c=>explore r n (p++[c])) (m+1))
theorem Ak{r:List Nat->R}:∀(n:Nat) (p q:List Nat),explore r n p=true->(∀b c j,q=b++c::j->∃m,r (p++b)=.gu m/\c<m)->∃rest x,r (p++q++rest)=.ok x
 |0,_,_,h,_=>by cases h
 |n+1,p,q,h,o=>by
  unfold explore at h
  cases q with
  |nil=>
   split at h
   · rename_i x hx;exact⟨[],x,by simpa using hx⟩
   · rename_i m hm
     cases m with
     |zero=>cases h
     |succ m=>
      have:=Cz h 0 (by omega)
      obtain⟨rest,x,hx⟩:=Ak n (p++[0]) [] this (fun b c j e=>by cases b<;>cases e)
      exact⟨0::rest,x,by simpa using hx⟩
  |cons c q=>
   obtain⟨m,hm,hc⟩:=o [] c q rfl
   rw[List.append_nil]at hm
   rw[hm]at h
   cases m with
   |zero=>omega
   |succ m=>
    have:=Cz h c hc
    obtain⟨rest,x,hx⟩:=Ak n (p++[c]) q this (fun b u j e=>by
     obtain⟨y,h1,D⟩:=o (c::b) u j (by rw[e];rfl)
     exact⟨y,by rw[List.append_assoc];exact h1,D⟩)
    exact⟨rest,x,by rw[<-hx];simp⟩
theorem me.Hu{r:List Nat->R}{oV:(List Nat->R)->Prop}(h:me r oV){n:Nat}(hx:explore r n []=true):∃f',oV f'/\∃rest x,f' rest=.ok x:=by
 obtain⟨pre,h1,D⟩:=h
 obtain⟨rest,x,hr⟩:=Ak n [] pre hx (fun p c q e=>by obtain⟨m,a,b⟩:=h1 p c q e;exact⟨m,by simpa using a,b⟩)
 exact⟨_,D,rest,x,by simpa using hr⟩
def QK:KC:=fun v h G Z=>match v with
 |.bool b=>(match b with
  |true=>.ok (0,⟨Tm.undef,[],h,G,Z⟩)
  |false=>.gu 0)
 |_=>.gu 0
section
variable {P:Program}{ng:Nat}{e:Env}{B0:Nat}{w0:World}{g:Gm}{G:Nat}{w:World}{O:Ht}
theorem QL(ok:mY P ng e)(nm:so P ng B0 w0 e)(H:gx B0 w0 g O.get G w)(hg:lv g ng){f:FuncId}{l:List Value}{args:Array Value}(hl:gZ g l args.toList)(n j:Nat)
 (hx:explore (fun Z=>nC e (ev e n) f l O G Z QK) j []=true):Calls P f args w fun u w'=>u=.returned (.bool true)/\Below B0 w0 w':=by
 intro fs
 obtain⟨f',hf,rest,x,hr⟩:=me.Hu (zB ok nm (F9 ok nm n) H hg hl fs QK) hx
 rcases hf with hf|⟨v,e9,e_,hf,L⟩
 · obtain⟨m,hf⟩:=hf rest;rw[hr]at hf;cases hf
 · have y:v=.bool true:=by
    have:=hf rest
    rw[hr]at this
    unfold QK at this
    split at this
    · split at this
      · rfl
      · cases this
    · cases this
   subst y
   obtain⟨v',w',g',o,p,B,fr,s1,m1,d1,z,f1,fn,A,r1⟩:=L
   rw[p.r9]at r1
   exact⟨.returned (.bool true),w',fr,⟨rfl,o.below.b⟩,s1,f1,m1,d1,z,fn,A,r1⟩
end
end
end Sw
namespace Sw
noncomputable section
open Go Go.RowKit
structure TB where
 num:Nat
 Z:List Value
 mP:Bool
 unit:Nat
abbrev mZ:=List (Nat×Nat)
def look(b:Nat):mZ->Option Nat
 |[]=>none
 |(x,y)::A=>bif Nat.beq b x then some y else look b A
def LR(e b:Nat)(A:mZ):Option mZ:=match look e A with
 |some b'=>bif Nat.beq b b' then some A else none
 |none=>some ((e,b)::A)
def Fj(f:mZ->Value->Value->Option mZ):List Value->List Value->mZ->Option mZ
 |[],[],A=>some A
 |v::vs,t::ts,A=>(match f A v t with
  |some b=>Fj f vs ts b
  |none=>none)
 |_,_,_=>none
def Ep:Nat->mZ->Value->Value->Option mZ
 |_,A,.bool a,.bool b=>bif (bif a then b else !b)then some A else none
 |_,A,.int k a,.int k' b=>bif wD k k'&&kN a b then some A else none
 |_,A,.string a,.string b=>bif wV (strs a) (strs b)then some A else none
 |_,A,.pointer none,.pointer none=>some A
 |_,A,.pointer (some ⟨b,o,none⟩),.pointer (some ⟨b',o',none⟩)=>bif Nat.beq o o' then LR b' b A else none
 |_,A,.slice none 0 0,.slice none 0 0=>some A
 |_,A,.slice (some ⟨b,o,none⟩) l c,.slice (some ⟨b',o',none⟩) m j=>bif Nat.beq o o'&&(Nat.beq l m&&Nat.beq c j)then LR b' b A else none
 |_,A,.map none,.map none=>some A
 |_,A,.nilFunc,.nilFunc=>some A
 |_,A,.nilIface,.nilIface=>some A
 |n+1,A,.func (.func f) x y,.func (.func f') x' y'=>bif Nat.beq f f' then(match Fj (Ep n) x.toList x'.toList A with
  |some e=>Fj (Ep n) y.toList y'.toList e
  |none=>none)else none
 |n+1,A,.iface t v,.iface p v'=>bif Nat.beq t p then Ep n A v v' else none
 |n+1,A,.agg x,.agg y=>Fj (Ep n) x.toList y.toList A
 |n+1,A,.tuple x,.tuple y=>Fj (Ep n) x.toList y.toList A
 |_,_,_,_=>none
def AM(m:gm)(b:TB):Bool:=match m.mP with
 |none=>!b.mP
 |some _=>b.mP&&Nat.beq m.unit b.unit
def Iy(O:Ht)(fresh:Bool):List TB->mZ->Option mZ
 |[],A=>some A
 |e::kq,A=>match look e.num A with
  |some b=>(match O.get b with
   |some (.cells Z m)=>bif AM m e&&(!fresh||!m.ro)then(match Fj (Ep 8) Z e.Z A with
    |some j=>Iy O fresh kq j
    |none=>none)else none
   |_=>none)
  |none=>none
def CA(d:Nat)(b:TB)(Z:List Value)(h:Ht):Ht:=
 bif b.mP then(h.set (d+b.num+1) (some (.group [⟨d+b.num,0,Z.length⟩]))).set (d+b.num) (some (.cells Z ⟨true,some (d+b.num+1),0,b.unit⟩))
 else h.set (d+b.num) (some (.cells Z ⟨true,none,0,b.unit⟩))
def yA:List TB->Ht->Ht
 |[],h=>h
 |b::kq,h=>yA kq (CA 0 b b.Z h)
def tI:Nat->Nat->List TB->Bool
 |lo,hi,[]=>Nat.ble lo hi
 |lo,hi,b::kq=>Nat.ble lo b.num&&tI (b.num+(bif b.mP then 2 else 1)) hi kq
def xU(A:mZ):List TB->Bool
 |[]=>true
 |b::kq=>(!b.mP||(match look (b.num+1) A with|none=>true|some _=>false))&&xU A kq
def ML(f:Value->Option Value):List Value->Option (List Value)
 |[]=>some []
 |v::vs=>(match f v,ML f vs with
  |some u,some b=>some (u::b)
  |_,_=>none)
def Iz(d:Nat):Nat->Value->Option Value
 |_,.bool a=>some (.bool a)
 |_,.int k a=>some (.int k a)
 |_,.string a=>some (.string a)
 |_,.pointer none=>some (.pointer none)
 |_,.pointer (some ⟨b,o,none⟩)=>some (.pointer (some ⟨d+b,o,none⟩))
 |_,.slice none 0 0=>some (.slice none 0 0)
 |_,.slice (some ⟨b,o,none⟩) l c=>some (.slice (some ⟨d+b,o,none⟩) l c)
 |_,.map none=>some (.map none)
 |_,.nilFunc=>some .nilFunc
 |_,.nilIface=>some .nilIface
 |n+1,.agg x=>(ML (Iz d n) x.toList).map fun l=>.agg l.toArray
 |n+1,.tuple x=>(ML (Iz d n) x.toList).map fun l=>.tuple l.toArray
 |n+1,.iface t v=>(Iz d n v).map fun v=>.iface t v
 |_,_=>none
def QM(d:Nat):List TB->Ht->Option Ht
 |[],h=>some h
 |b::kq,h=>(match ML (Iz d 8) b.Z with
  |some Z=>QM d kq (CA d b Z h)
  |none=>none)
structure w7 where
 args:List Value
 blocks:List TB
 G:Nat
 uu:Value
 xV:List TB
 MM:Nat
def C3(n:Nat):mZ->Bool
 |[]=>true
 |(b,_)::A=>Nat.blt b n&&C3 n A
def Wb(ng:Nat):mZ:=(List.range ng).map fun i=>(i,i)
def JK(ng:Nat)(b:w7)(l:List Value)(O:Ht)(G:Nat):Option (Value×Ht×Nat):=
 match Fj (Ep 8) l b.args (Wb ng)with
 |some A=>(match Iy O false b.blocks A with
  |some e=>bif xU e b.blocks&&C3 b.G e then(match Iz G 8 b.uu,QM G b.xV O with
   |some v,some h=>some (v,h,G+b.MM)
   |_,_=>none)else none
  |none=>none)
 |none=>none
def zD(ng:Nat):List w7->List Value->Ht->Nat->Option (Value×Ht×Nat)
 |[],_,_,_=>none
 |b::o6,l,O,G=>match JK ng b l O G with
  |some r=>some r
  |none=>zD ng o6 l O G
def yB(ng:Nat)(o6:List w7):Ju:=⟨fun l O G Z k b=>match zD ng o6 l O G with
 |some (v,h,n)=>k v h n Z
 |none=>b⟩
def Fk:mZ->List TB->Bool
 |[],_=>true
 |(b,_)::A,kq=>kq.any (fun e=>Nat.beq e.num b)&&Fk A kq
def Us(b:w7):KC:=fun v h G Z=>match Ep 8 [] v b.uu with
 |some A=>(match Iy h true b.xV A with
  |some e=>bif Fk e b.xV&&xU e b.xV then .ok (0,⟨Tm.undef,[],h,G,Z⟩)else .gu 0
  |none=>.gu 0)
 |none=>.gu 0
def X9(ng:Nat)(b:w7):Bool:=Nat.ble ng b.G&&(tI 0 b.G b.blocks&&tI 0 b.MM b.xV)
def zL(ng:Nat)(e:Env)(f:FuncId)(n j:Nat)(b:w7):Bool:=
 X9 ng b&&explore (fun Z=>nC e (ev e n) f b.args (yA b.blocks .nil) b.G Z (Us b)) j []
end
end Sw
namespace Sw
noncomputable section
open Go Go.RowKit
def qh(A e:mZ):Prop:=∀b x,look b A=some x->look b e=some x
theorem qh.refl(A:mZ):qh A A:=fun _ _ h=>h
theorem qh.trans{A B C:mZ}(h:qh A B)(k:qh B C):qh A C:=fun b x e=>k b x (h b x e)
theorem B6{m b:Nat}{A o:mZ}(h:LR m b A=some o):qh A o/\look m o=some b:=by
 unfold LR at h
 split at h
 · rename_i b' hb
   cases j:Nat.beq b b' with
   |false=>rw[j]at h;cases h
   |true=>
    rw[j]at h;cases h
    exact⟨qh.refl _,by rw[hb,beq_eq j]⟩
 · rename_i hb
   cases h
   refine⟨fun x y e=>?_,by simp[look,Nat.beq_refl]⟩
   have:Nat.beq x m=false:=by
    cases j:Nat.beq x m with
    |false=>rfl
    |true=>rw[beq_eq j,hb]at e;cases e
   simp only[look,this,cond_false];exact e
def MN(gc g:Gm)(A:mZ):Prop:=∀e b,look e A=some b->gc.ga e=g.ga b/\gc.room e=g.room b
theorem MN.sub{gc g:Gm}{A j:mZ}(h:MN gc g j)(k:qh A j):MN gc g A:=fun m b e=>h m b (k m b e)
def X_(f:mZ->Value->Value->Option mZ):Prop:=∀A v t b,f A v t=some b->qh A b/\∀gc g v',MN gc g b->fP g v v'->fP gc t v'
theorem Bw{f:mZ->Value->Value->Option mZ}(hf:X_ f):∀(vs ts:List Value) (A e:mZ),Fj f vs ts A=some e->qh A e/\∀gc g b,MN gc g e->gZ g vs b->gZ gc ts b
 |[],[],A,e,h=>by
  cases h
  exact⟨qh.refl _,fun gc g b _ hl=>by
   have:=hl.1
   cases b with
   |nil=>exact gZ.nil gc
   |cons=>cases this⟩
 |v::vs,t::ts,A,e,h=>by
  simp only[Fj]at h
  split at h
  · rename_i m h1
    obtain⟨e1,r1⟩:=hf _ _ _ _ h1
    obtain⟨e2,r2⟩:=Bw hf vs ts m e h
    refine⟨e1.trans e2,fun gc g b j hl=>?_⟩
    cases b with
    |nil=>cases hl.1
    |cons v' b=>exact gZ.cons (r1 gc g v' (j.sub e2) hl.head) (r2 gc g b j hl.tail)
  · cases h
 |[],_::_,_,_,h=>by cases h
 |_::_,[],_,_,h=>by cases h
theorem MO:∀n,X_ (Ep n):=by
 intro n
 induction n with
 |zero=>
  intro A v t L h
  unfold Ep at h
  split at h<;>first|(cases h;done)|skip
  · rename_i a b
    cases a<;>cases b<;>first|(cases h;done)|(cases h;exact⟨qh.refl _,fun gc g v' _ r=>by rw[r.r9];exact .bool _⟩)
  · rename_i k a k' b
    cases e:(wD k k'&&kN a b)with
    |false=>rw[e]at h;cases h
    |true=>
     rw[e]at h;cases h
     rw[Bool.and_eq_true]at e
     cases vR e.1;cases lS.1 e.2
     exact⟨qh.refl _,fun gc g v' _ r=>by rw[r.lj];exact .int _ _⟩
  · rename_i a b
    cases e:wV (strs a) (strs b)with
    |false=>rw[e]at h;cases h
    |true=>
     rw[e]at h;cases h
     rw[xg]at e
     cases Bp (a:=a) (b:=b) (by simpa using e)
     exact⟨qh.refl _,fun gc g v' _ r=>by rw[r.lr];exact .string _⟩
  · cases h;exact⟨qh.refl _,fun gc g v' _ r=>by rw[r.uN];exact .nilPtr⟩
  · rename_i b o b' o'
    cases e:Nat.beq o o' with
    |false=>rw[e]at h;cases h
    |true=>
     rw[e]at h
     cases beq_eq e
     obtain⟨e1,e2⟩:=B6 h
     refine⟨e1,fun gc g v' j r=>?_⟩
     obtain⟨_,rb,ro,hg,rfl⟩:=r.sL
     exact .ptr ((j _ _ e2).1.trans hg)
  · cases h;exact⟨qh.refl _,fun gc g v' _ r=>by obtain⟨_,_,rfl⟩:=r.mf;exact .qn⟩
  · rename_i b o l c b' o' C B
    cases e:(Nat.beq o o'&&(Nat.beq l C&&Nat.beq c B))with
    |false=>rw[e]at h;cases h
    |true=>
     rw[e]at h
     rw[Bool.and_eq_true,Bool.and_eq_true]at e
     cases beq_eq e.1;cases beq_eq e.2.1;cases beq_eq e.2.2
     obtain⟨e1,e2⟩:=B6 h
     refine⟨e1,fun gc g v' j r=>?_⟩
     rcases r.nk with⟨a2,rfl,rfl,rfl⟩|⟨_,rb,ro,c2,hg,hl,hc,rfl⟩
     · exact .oM _ _
     · obtain⟨E,F⟩:=j _ _ e2
       refine .slice (E.trans hg) hl ?_
       rcases hc with hc|⟨hc,J,u,hr,hf⟩
       · exact .inl hc
       · exact .inr ⟨hc,J,u,F.trans hr,hf⟩
  · cases h;exact⟨qh.refl _,fun gc g v' _ r=>by rw[r.qo];exact .vO⟩
  · cases h;exact⟨qh.refl _,fun gc g v' _ r=>by rw[r.sF];exact .nilFunc⟩
  · cases h;exact⟨qh.refl _,fun gc g v' _ r=>by rw[r.o8];exact .nilIface⟩
  all_goals (rename_i h0;exact absurd h0 (by simp))
 |succ n ih=>
  intro A v t L h
  unfold Ep at h
  split at h<;>first|(cases h;done)|skip
  · rename_i a b
    cases a<;>cases b<;>first|(cases h;done)|(cases h;exact⟨qh.refl _,fun gc g v' _ r=>by rw[r.r9];exact .bool _⟩)
  · rename_i k a k' b
    cases e:(wD k k'&&kN a b)with
    |false=>rw[e]at h;cases h
    |true=>
     rw[e]at h;cases h
     rw[Bool.and_eq_true]at e
     cases vR e.1;cases lS.1 e.2
     exact⟨qh.refl _,fun gc g v' _ r=>by rw[r.lj];exact .int _ _⟩
  · rename_i a b
    cases e:wV (strs a) (strs b)with
    |false=>rw[e]at h;cases h
    |true=>
     rw[e]at h;cases h
     rw[xg]at e
     cases Bp (a:=a) (b:=b) (by simpa using e)
     exact⟨qh.refl _,fun gc g v' _ r=>by rw[r.lr];exact .string _⟩
  · cases h;exact⟨qh.refl _,fun gc g v' _ r=>by rw[r.uN];exact .nilPtr⟩
  · rename_i b o b' o'
    cases e:Nat.beq o o' with
    |false=>rw[e]at h;cases h
    |true=>
     rw[e]at h
     cases beq_eq e
     obtain⟨e1,e2⟩:=B6 h
     refine⟨e1,fun gc g v' j r=>?_⟩
     obtain⟨_,rb,ro,hg,rfl⟩:=r.sL
     exact .ptr ((j _ _ e2).1.trans hg)
  · cases h;exact⟨qh.refl _,fun gc g v' _ r=>by obtain⟨_,_,rfl⟩:=r.mf;exact .qn⟩
  · rename_i b o l c b' o' C B
    cases e:(Nat.beq o o'&&(Nat.beq l C&&Nat.beq c B))with
    |false=>rw[e]at h;cases h
    |true=>
     rw[e]at h
     rw[Bool.and_eq_true,Bool.and_eq_true]at e
     cases beq_eq e.1;cases beq_eq e.2.1;cases beq_eq e.2.2
     obtain⟨e1,e2⟩:=B6 h
     refine⟨e1,fun gc g v' j r=>?_⟩
     rcases r.nk with⟨a2,rfl,rfl,rfl⟩|⟨_,rb,ro,c2,hg,hl,hc,rfl⟩
     · exact .oM _ _
     · obtain⟨E,F⟩:=j _ _ e2
       refine .slice (E.trans hg) hl ?_
       rcases hc with hc|⟨hc,J,u,hr,hf⟩
       · exact .inl hc
       · exact .inr ⟨hc,J,u,F.trans hr,hf⟩
  · cases h;exact⟨qh.refl _,fun gc g v' _ r=>by rw[r.qo];exact .vO⟩
  · cases h;exact⟨qh.refl _,fun gc g v' _ r=>by rw[r.sF];exact .nilFunc⟩
  · cases h;exact⟨qh.refl _,fun gc g v' _ r=>by rw[r.o8];exact .nilIface⟩
  · rename_i m f x y f' x' y' hm
    cases hm
    cases e:Nat.beq f f' with
    |false=>rw[e]at h;cases h
    |true=>
     rw[e]at h
     cases beq_eq e
     simp only[cond_true]at h
     split at h
     · rename_i N h1
       obtain⟨e1,r1⟩:=Bw ih _ _ _ _ h1
       obtain⟨e2,r2⟩:=Bw ih _ _ _ _ h
       refine⟨e1.trans e2,fun gc g v' j r=>?_⟩
       obtain⟨z,M,rfl,hx,hy⟩:=r.G0
       have p:=(r1 gc g z.toList (j.sub e2) hx.toList).toArray
       have K:=(r2 gc g M.toList j hy.toList).toArray
       exact .func p.1 K.1 p.2 K.2
     · cases h
  · rename_i m t0 v0 t1 R hm
    cases hm
    cases e:Nat.beq t0 t1 with
    |false=>rw[e]at h;cases h
    |true=>
     rw[e]at h
     cases beq_eq e
     obtain⟨e1,r1⟩:=ih _ _ _ _ h
     refine⟨e1,fun gc g v' j r=>?_⟩
     obtain⟨z,rfl,hx⟩:=r.xR
     exact .iface (r1 gc g z j hx)
  · rename_i m x y hm
    cases hm
    obtain⟨e1,r1⟩:=Bw ih _ _ _ _ h
    refine⟨e1,fun gc g v' j r=>?_⟩
    obtain⟨z,rfl,hx⟩:=r.tt
    have p:=(r1 gc g z.toList j hx.toList).toArray
    exact .agg p.1 p.2
  · rename_i m x y hm
    cases hm
    obtain⟨e1,r1⟩:=Bw ih _ _ _ _ h
    refine⟨e1,fun gc g v' j r=>?_⟩
    obtain⟨z,rfl,hx⟩:=r.EE
    have p:=(r1 gc g z.toList j hx.toList).toArray
    exact .tuple p.1 p.2
theorem MP{O:Ht}{fresh:Bool}:∀(kq:List TB) (A e:mZ),Iy O fresh kq A=some e->qh A e/\∀j∈kq,∃b Z m,look j.num e=some b/\O.get b=some (.cells Z m)/\AM m j=true/\(fresh=true->m.ro=false)/\
 ∀gc g lJ,MN gc g e->gZ g Z lJ->gZ gc j.Z lJ
 |[],A,e,h=>by cases h;exact⟨qh.refl _,fun j h=>by cases h⟩
 |j::kq,A,e,h=>by
  simp only[Iy]at h
  split at h
  · rename_i b hb
    split at h
    · rename_i Z m hc
      cases o:(AM m j&&(!fresh||!m.ro))with
      |false=>rw[o]at h;cases h
      |true=>
       rw[o]at h
       simp only[cond_true]at h
       split at h
       · rename_i y h1
         obtain⟨e1,r1⟩:=Bw (MO 8) _ _ _ _ h1
         obtain⟨e2,r2⟩:=MP kq y e h
         rw[Bool.and_eq_true]at o
         refine⟨e1.trans e2,fun u p=>?_⟩
         rcases fT.1 p with rfl|p
         · refine⟨b,Z,m,e2 _ _ (e1 _ _ hb),hc,o.1,fun hf=>by have:=o.2;rw[hf]at this;simpa using this,fun gc g lJ z hl=>r1 gc g lJ (z.sub e2) hl⟩
         · exact r2 u p
       · cases h
    · cases h
  · cases h
end
end Sw
namespace Sw
noncomputable section
open Go Go.RowKit
def QN(d:Nat)(gr e:Gm):Prop:=∀b,gr.ga b≠none->e.ga (d+b)=gr.ga b/\e.room (d+b)=gr.room b
def Ya(d:Nat)(f:Value->Option Value):Prop:=∀v u,f v=some u->∀gr b v',QN d gr b->fP gr v v'->fP b u v'
theorem IA{d:Nat}{f:Value->Option Value}(hf:Ya d f):∀(vs j:List Value),ML f vs=some j->∀gr e b,QN d gr e->gZ gr vs b->gZ e j b
 |[],j,h,gr,e,b,_,hl=>by
  cases h
  have:=hl.1
  cases b with
  |nil=>exact gZ.nil e
  |cons=>cases this
 |v::vs,j,h,gr,e,b,hm,hl=>by
  simp only[ML]at h
  split at h
  · rename_i u j h1 D
    cases h
    cases b with
    |nil=>cases hl.1
    |cons v' b=>exact gZ.cons (hf v u h1 gr e v' hm hl.head) (IA hf vs j D gr e b hm hl.tail)
  · cases h
theorem Sb(d:Nat):∀n,Ya d (Iz d n):=by
 intro n
 induction n with
 |zero=>
  intro v u h gr j v' hm r
  unfold Iz at h
  split at h<;>first|(cases h;done)|skip
  · cases h;rw[r.r9];exact .bool _
  · cases h;rw[r.lj];exact .int _ _
  · cases h;rw[r.lr];exact .string _
  · cases h;rw[r.uN];exact .nilPtr
  · cases h
    obtain⟨_,rb,ro,hg,rfl⟩:=r.sL
    exact .ptr ((hm _ (by rw[hg];simp)).1.trans hg)
  · cases h;obtain⟨_,_,rfl⟩:=r.mf;exact .qn
  · cases h
    rcases r.nk with⟨a2,rfl,rfl,rfl⟩|⟨_,rb,ro,c2,hg,hl,hc,rfl⟩
    · exact .oM _ _
    · obtain⟨o,p⟩:=hm _ (by rw[hg];simp)
      refine .slice (o.trans hg) hl ?_
      rcases hc with hc|⟨hc,y,u,hr,hf⟩
      · exact .inl hc
      · exact .inr ⟨hc,y,u,p.trans hr,hf⟩
  · cases h;rw[r.qo];exact .vO
  · cases h;rw[r.sF];exact .nilFunc
  · cases h;rw[r.o8];exact .nilIface
  all_goals (rename_i h0;exact absurd h0 (by simp))
 |succ n ih=>
  intro v u h gr j v' hm r
  unfold Iz at h
  split at h<;>first|(cases h;done)|skip
  · cases h;rw[r.r9];exact .bool _
  · cases h;rw[r.lj];exact .int _ _
  · cases h;rw[r.lr];exact .string _
  · cases h;rw[r.uN];exact .nilPtr
  · cases h
    obtain⟨_,rb,ro,hg,rfl⟩:=r.sL
    exact .ptr ((hm _ (by rw[hg];simp)).1.trans hg)
  · cases h;obtain⟨_,_,rfl⟩:=r.mf;exact .qn
  · cases h
    rcases r.nk with⟨a2,rfl,rfl,rfl⟩|⟨_,rb,ro,c2,hg,hl,hc,rfl⟩
    · exact .oM _ _
    · obtain⟨o,p⟩:=hm _ (by rw[hg];simp)
      refine .slice (o.trans hg) hl ?_
      rcases hc with hc|⟨hc,y,u,hr,hf⟩
      · exact .inl hc
      · exact .inr ⟨hc,y,u,p.trans hr,hf⟩
  · cases h;rw[r.qo];exact .vO
  · cases h;rw[r.sF];exact .nilFunc
  · cases h;rw[r.o8];exact .nilIface
  · rename_i m x hn
    cases hn
    obtain⟨l,h1,rfl⟩:=fI.1 h
    obtain⟨e,rfl,hx⟩:=r.tt
    have b:=(IA ih _ _ h1 gr j e.toList hm hx.toList).toArray
    exact .agg b.1 b.2
  · rename_i m x hn
    cases hn
    obtain⟨l,h1,rfl⟩:=fI.1 h
    obtain⟨e,rfl,hx⟩:=r.EE
    have b:=(IA ih _ _ h1 gr j e.toList hm hx.toList).toArray
    exact .tuple b.1 b.2
  · rename_i m t v0 hn
    cases hn
    obtain⟨z,h1,rfl⟩:=fI.1 h
    obtain⟨e,rfl,hx⟩:=r.xR
    exact .iface (ih _ _ h1 gr j e hm hx)
section
variable {B0:Nat}{w0:World}{g:Gm}{O:Hp}{G:Nat}{w:World}
theorem gx.Wc(H:gx B0 w0 g O G w){n:Nat}(hf:O n=none)(hn:n<G){Z:List Value}{u:Nat}
 (p:∀rb ro,g.ga n=some (rb,ro)->(∃jv,w.heap[rb]?=some jv/\pj B0 g n (.cells Z ⟨true,none,0,u⟩) rb ro jv)/\∀b o r1,O b=some o->g.ga b=some (rb,r1)->∃Z m,o=.cells Z m/\m.ro=true):
 gx B0 w0 g (O.set n (some (.cells Z ⟨true,none,0,u⟩))) G w:=by
 refine⟨H.below,H.base,H.rT,fun b o e=>?_,fun b ms e=>?_,fun b y m gr e k=>?_,fun b1 b2 o1 o2 r r1 r2 jI e1 e2 z A=>?_,H.room⟩
 · by_cases j:b=n
   · subst j
     rw[Hp.jO]at e;cases e
     exact⟨hn,fun r1 r2 k=>(p r1 r2 k).1⟩
   · rw[Hp.gR _ _ j]at e;exact H.live b o e
 · by_cases j:b=n
   · subst j;rw[Hp.jO]at e;cases e
   · rw[Hp.gR _ _ j]at e;exact H.pC b ms e
 · by_cases j:b=n
   · subst j;rw[Hp.jO]at e;cases e;cases k
   · rw[Hp.gR _ _ j]at e
     obtain⟨ms,a1,a2⟩:=H.mem b y m gr e k
     refine⟨ms,?_,a2⟩
     rw[Hp.gR _ _ (by rintro rfl;rw[hf]at a1;cases a1)]
     exact a1
 · by_cases h1:b1=n
   · subst h1
     rw[Hp.jO]at e1;cases e1
     rw[Hp.gR _ _ (Ne.symm jI)]at e2
     obtain⟨B,m2,rfl,hr⟩:=(p _ _ z).2 b2 o2 r2 e2 A
     exact .inl ⟨rfl,hr⟩
   · by_cases D:b2=n
     · subst D
       rw[Hp.jO]at e2;cases e2
       rw[Hp.gR _ _ jI]at e1
       obtain⟨y,m1,rfl,hr⟩:=(p _ _ A).2 b1 o1 r1 e1 z
       exact .inl ⟨hr,rfl⟩
     · rw[Hp.gR _ _ h1]at e1
       rw[Hp.gR _ _ D]at e2
       exact H.sep b1 b2 o1 o2 r r1 r2 jI e1 e2 z A
theorem gx.Ut(H:gx B0 w0 g O G w){n gr:Nat}(hf:O n=none)(C:n≠gr)(y:g.ga gr=none)(A:O gr=none)(hn:n<G)(yr:gr<G){Z:List Value}{u:Nat}
 (j:∀rb ro,g.ga n=some (rb,ro)->(∃jv,w.heap[rb]?=some jv/\pj B0 g n (.cells Z ⟨true,some gr,0,u⟩) rb ro jv)/\∀b o r1,O b=some o->g.ga b=some (rb,r1)->∃Z m,o=.cells Z m/\m.ro=true):
 gx B0 w0 g ((O.set gr (some (.group [⟨n,0,Z.length⟩]))).set n (some (.cells Z ⟨true,some gr,0,u⟩))) G w:=by
 have get:∀b o,((O.set gr (some (.group [⟨n,0,Z.length⟩]))).set n (some (.cells Z ⟨true,some gr,0,u⟩))) b=some o->(b=n/\o=.cells Z ⟨true,some gr,0,u⟩)\/(b=gr/\o=.group [⟨n,0,Z.length⟩])\/(b≠n/\b≠gr/\O b=some o):=fun b o e=>by
  by_cases h1:b=n
  · subst h1;rw[Hp.jO]at e;cases e;exact .inl ⟨rfl,rfl⟩
  · rw[Hp.gR _ _ h1]at e
    by_cases D:b=gr
    · subst D;rw[Hp.jO]at e;cases e;exact .inr (.inl ⟨rfl,rfl⟩)
    · rw[Hp.gR _ _ D]at e;exact .inr (.inr ⟨h1,D,e⟩)
 refine⟨H.below,H.base,H.rT,fun b o e=>?_,fun b ms e=>?_,fun b B m E e k=>?_,fun b1 b2 o1 o2 r r1 r2 jI e1 e2 z p=>?_,H.room⟩
 · rcases get b o e with⟨rfl,rfl⟩|⟨rfl,rfl⟩|⟨_,_,e⟩
   · exact⟨hn,fun r1 r2 k=>(j r1 r2 k).1⟩
   · exact⟨yr,fun r1 r2 k=>by rw[y]at k;cases k⟩
   · exact H.live b o e
 · rcases get b _ e with⟨rfl,h⟩|⟨rfl,_⟩|⟨_,_,e⟩
   · cases h
   · exact y
   · exact H.pC b ms e
 · rcases get b _ e with⟨rfl,h⟩|⟨rfl,h⟩|⟨_,_,e⟩
   · cases h;cases k
     exact⟨_,by rw[Hp.gR _ _ (Ne.symm C),Hp.jO],List.mem_singleton.2 rfl⟩
   · cases h
   · obtain⟨ms,a1,a2⟩:=H.mem b B m E e k
     refine⟨ms,?_,a2⟩
     rw[Hp.gR _ _ (by rintro rfl;rw[hf]at a1;cases a1),Hp.gR _ _ (by rintro rfl;rw[A]at a1;cases a1)]
     exact a1
 · have key:∀b o r1,((O.set gr (some (.group [⟨n,0,Z.length⟩]))).set n (some (.cells Z ⟨true,some gr,0,u⟩))) b=some o->g.ga b=some (r,r1)->(b=n/\o=.cells Z ⟨true,some gr,0,u⟩)\/(b≠n/\O b=some o):=fun b o r1 e k=>by
    rcases get b o e with⟨rfl,rfl⟩|⟨rfl,_⟩|⟨h1,_,e⟩
    · exact .inl ⟨rfl,rfl⟩
    · rw[y]at k;cases k
    · exact .inr ⟨h1,e⟩
   rcases key b1 o1 r1 e1 z with⟨h1,rfl⟩|⟨h1,f1⟩
   · rcases key b2 o2 r2 e2 p with⟨D,_⟩|⟨_,f2⟩
     · exact absurd (h1.trans D.symm) jI
     · rw[h1]at z
       obtain⟨F,m2,rfl,hr⟩:=(j _ _ z).2 b2 o2 r2 f2 p
       exact .inl ⟨rfl,hr⟩
   · rcases key b2 o2 r2 e2 p with⟨D,rfl⟩|⟨_,f2⟩
     · rw[D]at p
       obtain⟨B,m1,rfl,hr⟩:=(j _ _ p).2 b1 o1 r1 f1 z
       exact .inl ⟨hr,rfl⟩
     · exact H.sep b1 b2 o1 o2 r r1 r2 jI f1 f2 z p
def QO(g:Gm)(O:Hp)(yC:Nat->Prop):Prop:=∀rb,yC rb->∀b o r1,O b=some o->g.ga b=some (rb,r1)->∃Z m,o=.cells Z m/\m.ro=true
theorem gx.CA{h:Ht}(H:gx B0 w0 g h.get G w){d:Nat}{j:TB}{Z:List Value}{yC:Nat->Prop}(u:QO g h.get yC)(hn:d+j.num+(bif j.mP then 2 else 1)<=G)(hf:∀b,d+j.num<=b->h.get b=none)
 (A:j.mP=true->g.ga (d+j.num+1)=none) (m:∀rb ro,g.ga (d+j.num)=some (rb,ro)->yC rb/\∃jv,w.heap[rb]?=some jv/\pj B0 g (d+j.num) (.cells Z ⟨true,bif j.mP then some (d+j.num+1)else none,0,j.unit⟩) rb ro jv):
 gx B0 w0 g (CA d j Z h).get G w/\QO g (CA d j Z h).get yC/\(∀b,d+j.num+(bif j.mP then 2 else 1)<=b->(CA d j Z h).get b=none):=by
 unfold Sw.CA
 cases hg:j.mP with
 |false=>
  rw[hg]at hn m
  simp only[cond_false]at hn m⊢
  rw[Tr.oh]
  refine⟨H.Wc (hf _ (fg _)) (by omega) fun rb ro k=>⟨(m rb ro k).2,u rb (m rb ro k).1⟩,fun rb y b o r1 e k=>?_,fun b hb=>?_⟩
  · by_cases p:b=d+j.num
    · subst p;rw[Hp.jO]at e;cases e;exact⟨_,_,rfl,rfl⟩
    · rw[Hp.gR _ _ p]at e;exact u rb y b o r1 e k
  · rw[Hp.gR _ _ (by omega)];exact hf b (by omega)
 |true=>
  rw[hg]at hn m
  simp only[cond_true]at hn m⊢
  rw[Tr.oh,Tr.oh]
  refine⟨H.Ut (hf _ (fg _)) (by omega) (A hg) (hf _ (by omega)) (by omega) (by omega) fun rb ro k=>⟨(m rb ro k).2,u rb (m rb ro k).1⟩,fun rb y b o r1 e k=>?_,fun b hb=>?_⟩
  · by_cases p:b=d+j.num
    · subst p;rw[Hp.jO]at e;cases e;exact⟨_,_,rfl,rfl⟩
    · rw[Hp.gR _ _ p]at e
      by_cases z:b=d+j.num+1
      · subst z;rw[A hg]at k;cases k
      · rw[Hp.gR _ _ z]at e;exact u rb y b o r1 e k
  · rw[Hp.gR _ _ (by omega),Hp.gR _ _ (by omega)];exact hf b (by omega)
theorem gx.later(H:gx B0 w0 g O G w){g':Gm}{e_:Nat}{w':World}(hw:pY w.heap.size w w')(hg:g.le g')(B:G<=e_)(j:∀b,b<G->g'.ga b=g.ga b)(u:∀b rb ro,g'.ga b=some (rb,ro)->b<e_/\rb<w'.heap.size)(m:∀b x,g'.room b=some x->g'.ga b≠none):
 gx B0 w0 g' O e_ w':=by
 have A:∀{rb:Nat} {o:Obj},w.heap[rb]?=some o->w'.heap[rb]?=some o:=fun {rb o} h=>by
  have jH:=sG h
  rw[hw.b.block rb jH];exact h
 refine⟨H.below.trans (hw.mono H.base),ff H.base hw.b.size,u,fun b o e=>?_,fun b ms e=>?_,H.mem,fun b1 b2 o1 o2 r r1 r2 jI e1 e2 y z=>?_,m⟩
 · obtain⟨p,q⟩:=H.live b o e
   refine⟨by omega,fun rb ro k=>?_⟩
   rw[j b p]at k
   obtain⟨jv,a2,a3⟩:=q rb ro k
   exact⟨jv,A a2,a3.mono hg k⟩
 · rw[j b (H.live b _ e).1];exact H.pC b ms e
 · rw[j b1 (H.live b1 _ e1).1]at y
   rw[j b2 (H.live b2 _ e2).1]at z
   exact H.sep b1 b2 o1 o2 r r1 r2 jI e1 e2 y z
end
end
end Sw
namespace Sw
noncomputable section
open Go Go.RowKit
theorem Py{n:Nat}:∀{A:mZ} {b x:Nat},C3 n A=true->look b A=some x->b<n
 |[],_,_,_,h=>by cases h
 |(y,z)::A,b,x,hk,h=>by
  simp only[C3,Bool.and_eq_true]at hk
  simp only[look]at h
  cases e:Nat.beq b y with
  |true=>rw[beq_eq e];exact fk hk.1
  |false=>rw[e]at h;exact Py hk.2 h
theorem JL{kq:List TB}:∀{A:mZ} {b x:Nat},Fk A kq=true->look b A=some x->∃e∈kq,e.num=b
 |[],_,_,_,h=>by cases h
 |(y,z)::A,b,x,hk,h=>by
  simp only[Fk,Bool.and_eq_true]at hk
  simp only[look]at h
  cases j:Nat.beq b y with
  |true=>
   obtain⟨e,h1,D⟩:=List.any_eq_true.1 hk.1
   exact⟨e,h1,(beq_eq D).trans (beq_eq j).symm⟩
  |false=>rw[j]at h;exact JL hk.2 h
theorem WS{ng i:Nat}(h:i<ng):look i (Wb ng)=some i:=by
 have:∀(l:List Nat),i∈l->look i (l.map fun i=>(i,i))=some i:=by
  intro l
  induction l with
  |nil=>intro h;cases h
  |cons x l ih=>
   intro hm
   simp only[List.map_cons,look]
   cases b:Nat.beq i x with
   |true=>rw[beq_eq b];rfl
   |false=>
    rcases fT.1 hm with rfl|hm
    · rw[Nat.beq_refl]at b;cases b
    · exact ih hm
 exact this _ (gL.2 h)
theorem CB{A:mZ}:∀{kq:List TB},xU A kq=true->∀b∈kq,b.mP=true->look (b.num+1) A=none
 |[],_,b,h,_=>by cases h
 |t::kq,h,b,hm,hg=>by
  simp only[xU,Bool.and_eq_true,Bool.or_eq_true,Bool.not_eq_true']at h
  rcases fT.1 hm with rfl|hm
  · rcases h.1 with k|k
    · rw[hg]at k;cases k
    · cases hl:look (b.num+1) A with
      |none=>rfl
      |some x=>rw[hl]at k;cases k
  · exact CB h.2 b hm hg
theorem B7{hi:Nat}:∀{kq:List TB} {lo:Nat},tI lo hi kq=true->∀b∈kq,b.num+(bif b.mP then 2 else 1)<=hi
 |[],_,_,b,h=>by cases h
 |t::kq,lo,h,b,hm=>by
  simp only[tI,Bool.and_eq_true]at h
  have mono:∀{kq:List TB} {lo:Nat},tI lo hi kq=true->lo<=hi:=by
   intro kq
   induction kq with
   |nil=>intro lo h;exact fk h
   |cons t kq ih=>
    intro lo h
    simp only[tI,Bool.and_eq_true]at h
    have:=ih h.2
    have:=fk h.1
    cases hg:t.mP<;>simp[hg]at*<;>omega
  rcases fT.1 hm with rfl|hm
  · exact mono h.2
  · exact B7 h.2 b hm
section
variable {B0:Nat}{w0:World}{g:Gm}{G:Nat}{w:World}
def Found(B0:Nat)(g:Gm)(w:World)(yC:Nat->Prop)(d:Nat)(b:TB)(Z:List Value):Prop:=
 ∀rb ro,g.ga (d+b.num)=some (rb,ro)->yC rb/\∃jv,w.heap[rb]?=some jv/\pj B0 g (d+b.num) (.cells Z ⟨true,bif b.mP then some (d+b.num+1)else none,0,b.unit⟩) rb ro jv
theorem Pz{yC:Nat->Prop}{d hi:Nat}(A:d+hi<=G):∀(kq:List TB) (lo:Nat) (h j:Ht),tI lo hi kq=true->gx B0 w0 g h.get G w->QO g h.get yC->(∀b,d+lo<=b->h.get b=none)->
 (∀e∈kq,e.mP=true->g.ga (d+e.num+1)=none)->(∀e∈kq,∀Z,ML (Iz d 8) e.Z=some Z->Found B0 g w yC d e Z)->QM d kq h=some j->gx B0 w0 g j.get G w
 |[],lo,h,j,_,H,_,_,_,_,hl=>by cases hl;exact H
 |e::kq,lo,h,j,hn,H,B,hf,o,m,hl=>by
  have jH:=B7 hn e (fz ..)
  simp only[tI,Bool.and_eq_true]at hn
  have C:=fk hn.1
  simp only[QM]at hl
  split at hl
  · rename_i Z y
    obtain⟨H1,p,z⟩:=H.CA (Z:=Z) B (by omega) (fun b hb=>hf b (by omega)) (o e (fz ..)) (m e (fz ..) Z y)
    exact Pz A kq _ _ j hn.2 H1 p (fun b hb=>z b (by omega)) (fun t u=>o t (fG _ u)) (fun t u=>m t (fG _ u)) hl
  · cases hl
theorem JM{yC:Nat->Prop}:∀(kq:List TB) (lo:Nat) (h:Ht),tI lo G kq=true->gx B0 w0 g h.get G w->QO g h.get yC->(∀b,lo<=b->h.get b=none)->
 (∀e∈kq,e.mP=true->g.ga (e.num+1)=none)->(∀e∈kq,Found B0 g w yC 0 e e.Z)->gx B0 w0 g (yA kq h).get G w
 |[],lo,h,_,H,_,_,_,_=>H
 |e::kq,lo,h,hn,H,y,hf,m,j=>by
  have jH:=B7 hn e (fz ..)
  simp only[tI,Bool.and_eq_true]at hn
  have z:=fk hn.1
  obtain⟨H1,o,u⟩:=H.CA (d:=0) (Z:=e.Z) y (by omega) (fun b hb=>hf b (by omega)) (fun hg=>by rw[Nat.zero_add];exact m e (fz ..) hg) (j e (fz ..))
  exact JM kq _ _ hn.2 H1 o (fun b hb=>u b (by omega)) (fun t p=>m t (fG _ p)) (fun t p=>j t (fG _ p))
theorem pj.list{b:Nat}{Z:List Value}{m:gm}{rb ro:Nat}{jv:Obj}(h:pj B0 g b (.cells Z m) rb ro jv):
 ∃o el p,jv=.cells o el p/\ro+Z.length<=o.size/\gZ g Z ((o.toList.drop ro).take Z.length)/\(m.ro=false->B0<=rb)/\(∀gr,m.mP=some gr->g.room b=some (o.size,m.unit))/\(m.mP=none->g.room b=none):=by
 cases jv<;>first|exact h.elim|skip
 obtain⟨h1,D,h3,h4,u⟩:=h
 refine⟨_,_,_,rfl,h1,⟨by simp;omega,fun i v v' e j=>?_⟩,fun k=>(h3 k).1,h4,u⟩
 rw[List.getElem?_take]at j
 split at j
 · rw[List.getElem?_drop]at j
   exact D i v v' e (by simpa using j)
 · cases j
theorem pj.PA{m:Nat}{g1:Gm}{b1:Nat}{j:List Value}{gr:Option Nat}{u:Nat}{rb ro n:Nat}{b:Array Value}{el:TypeId}{p:Nat×Nat}(hlen:ro+n<=b.size)(hl:gZ g1 j ((b.toList.drop ro).take n))
 (h1:∀x,gr=some x->g1.room b1=some (b.size,u)) (D:gr=none->g1.room b1=none):pj m g1 b1 (.cells j ⟨true,gr,0,u⟩) rb ro (.cells b el p):=by
 have hn:j.length=n:=by have:=hl.1;simp at this;omega
 refine⟨by omega,fun i v v' e o=>?_,(fun k=>by cases k),h1,D⟩
 have hi:i<n:=by have:=(fp.1 e).1;omega
 exact hl.2 i v v' e (by rw[List.getElem?_take,if_pos hi,List.getElem?_drop];simpa using o)
end
end
end Sw
namespace Sw
noncomputable section
open Go Go.RowKit
section
variable {P:Program}{ng:Nat}{e:Env}{B0:Nat}{w0:World}{g:Gm}{G:Nat}{w:World}{O:Ht}
def CD(g:Gm)(A:mZ):Gm:=⟨fun b=>(look b A).bind g.ga,fun b=>(look b A).bind g.room⟩
theorem MQ(g:Gm)(A:mZ):MN (CD g A) g A:=fun e b h=>by simp[CD,h]
def MR(g:Gm)(G:Nat)(gr:Gm):Gm:=⟨fun b=>if b<G then g.ga b else gr.ga (b-G),fun b=>if b<G then g.room b else gr.room (b-G)⟩
theorem QP{m:gm}{b:TB}(h:AM m b=true)(hg:b.mP=false):m.mP=none:=by
 unfold AM at h
 cases hm:m.mP with
 |none=>rfl
 |some x=>rw[hm,hg]at h;cases h
theorem QQ{m:gm}{b:TB}(h:AM m b=true)(hg:b.mP=true):(∃x,m.mP=some x)/\m.unit=b.unit:=by
 unfold AM at h
 cases hm:m.mP with
 |none=>rw[hm,hg]at h;cases h
 |some x=>
  rw[hm,hg]at h
  exact⟨⟨x,rfl⟩,beq_eq (by simpa using h)⟩
theorem MS{C:Nat}{gc:Gm}{d:Nat}{e:TB}{Z B:List Value}{m:gm}{b:Nat}{yC:Nat->Prop}{w1:World}(o:AM m e=true)(u:∀rb ro jv,g.ga b=some (rb,ro)->pj B0 g b (.cells Z m) rb ro jv->yC rb)
 (j:∀rb ro,g.ga b=some (rb,ro)->∃jv,w1.heap[rb]?=some jv/\pj B0 g b (.cells Z m) rb ro jv) (hblk:∀x,gc.ga (d+e.num)=some x->g.ga b=some x/\gc.room (d+e.num)=g.room b)
 (p:∀lJ,gZ g Z lJ->gZ gc B lJ):Found C gc w1 yC d e B:=by
 intro rb ro k
 obtain⟨z,A⟩:=hblk _ k
 obtain⟨jv,a2,a3⟩:=j rb ro z
 refine⟨u rb ro jv z a3,jv,a2,?_⟩
 obtain⟨J,el,F,rfl,hlen,hl,E,h1,D⟩:=a3.list
 refine pj.PA hlen (p _ hl) (fun x hx=>?_) (fun hx=>?_)
 · cases hg:e.mP with
   |false=>rw[hg]at hx;cases hx
   |true=>
    obtain⟨⟨y,hy⟩,hu⟩:=QQ o hg
    rw[A,h1 y hy,hu]
 · cases hg:e.mP with
   |true=>rw[hg]at hx;cases hx
   |false=>rw[A];exact D (QP o hg)
def LS(b:Nat->World->Prop):Prop:=∀B0 w0 w,b B0 w0->Below B0 w0 w->B0<=w.heap.size->b w.heap.size w
theorem QR{I:Nat->World->Prop}(aQ:LS I)(hi:I B0 w0)(ok:mY P ng e)(nm:∀B0 w0,I B0 w0->so P ng B0 w0 e){f:FuncId}{n aq:Nat}{j:w7}(hold:zL ng e f n aq j=true)(H:gx B0 w0 g O.get G w)(hg:lv g ng){l:List Value}{args:Array Value}(hl:gZ g l args.toList)
 {v:Value} {h:Ht} {aE:Nat} (hu:JK ng j l O G=some (v,h,aE)) (fs:List Frame):qF P B0 w0 .normal g G f args w v h aE fs:=by
 unfold zL at hold
 rw[Bool.and_eq_true]at hold
 obtain⟨aj,hex⟩:=hold
 unfold X9 at aj
 simp only[Bool.and_eq_true]at aj
 obtain⟨t1,t2,t3⟩:=aj
 have t1:=fk t1
 unfold JK at hu
 split at hu
 case h_2=>cases hu
 rename_i A aP
 split at hu
 case h_2=>cases hu
 rename_i an aw
 cases ah:(xU an j.blocks&&C3 j.G an)with
 |false=>rw[ah]at hu;cases hu
 |true=>
 rw[ah]at hu
 simp only[cond_true]at hu
 split at hu
 case h_2=>cases hu
 rename_i a6 h1 aD aA
 cases hu
 rw[Bool.and_eq_true]at ah
 obtain⟨aN,aR⟩:=Bw (MO 8) _ _ _ _ aP
 obtain⟨av,aS⟩:=MP _ _ _ aw
 let gc:=CD g an
 have via:=MQ g an
 have aB:gZ gc j.args args.toList:=aR gc g _ (via.sub av) hl
 have az:lv gc ng:=fun i hi=>by
  have:=av _ _ (aN _ _ (WS hi))
  exact(via _ _ this).1.trans (hg i hi)
 have aJ:gx w.heap.size w gc (Tr.nil:Ht).get j.G w:=by
  refine⟨pY.refl _ _,fg _,fun b rb ro k=>?_,fun b o k=>(by cases k),fun b ms k=>(by cases k),fun b Z m gr k=>(by cases k),fun b1 b2 o1 o2 r r1 r2 _ k=>(by cases k),fun b x k=>?_⟩
  · simp only[gc,CD]at k
    obtain⟨c,E,F⟩:=fM.1 k
    exact⟨Py ah.2 E,(H.rT _ _ _ F).2⟩
  · simp only[gc,CD]at k⊢
    obtain⟨c,E,F⟩:=fM.1 k
    rw[E]
    exact H.room _ _ F
 have aI:gx w.heap.size w gc (yA j.blocks .nil).get j.G w:=by
  refine JM (yC:=fun _=>True) j.blocks 0 .nil t2 aJ (fun rb _ b o r1 k=>by cases k) (fun b _=>rfl) (fun p S N=>?_) (fun p S=>?_)
  · have:=CB ah.1 p S N
    simp[gc,CD,this]
  · obtain⟨b,Z,m,ab,al,q3,_,au⟩:=aS p S
    refine MS (g:=g) (b:=b) (Z:=Z) (m:=m) (B0:=B0) q3 (fun _ _ _ _ _=>trivial) (fun rb ro k=>(H.live b _ al).2 rb ro k) (fun x k=>?_) (fun lJ af=>au gc g lJ via af)
    rw[Nat.zero_add]at k⊢
    obtain⟨p1,ak⟩:=via _ _ ab
    exact⟨p1▸k,ak⟩
 have ao:=aQ _ _ _ hi H.below.b H.base
 obtain⟨f',B,rest,x,hr⟩:=me.Hu (zB ok (nm _ _ ao) (F9 ok (nm _ _ ao) n) aI az aB fs (Us j)) hex
 rcases B with B|⟨a7,e9,e_,B,L⟩
 · obtain⟨m,B⟩:=B rest;rw[hr]at B;cases B
 have C:=B rest
 rw[hr]at C
 unfold Us at C
 split at C
 case h_2=>cases C
 rename_i aV ax
 split at C
 case h_2=>cases C
 rename_i ad ay
 cases R:(Fk ad j.xV&&xU ad j.xV)with
 |false=>rw[R]at C;cases C
 |true=>
 rw[Bool.and_eq_true]at R
 obtain⟨v',w',K,ae,aL,aW,st⟩:=L
 have y:pY w.heap.size w w':=ae.below
 obtain⟨aX,aT⟩:=MO 8 _ _ _ _ ax
 obtain⟨aO,aF⟩:=MP _ _ _ ay
 let gr:=CD K ad
 have W:=MQ K ad
 have aM:fP gr j.uu v':=aT gr K v' (W.sub aO) aL
 let g':=MR g G gr
 have u:∀b,b<G->g'.ga b=g.ga b:=fun b hb=>by simp[g',MR,hb]
 have X:∀b,b<G->g'.room b=g.room b:=fun b hb=>by simp[g',MR,hb]
 have z:∀b,G<=b->g'.ga b=gr.ga (b-G):=fun b hb=>by simp[g',MR,Nat.not_lt.2 hb]
 have J:∀b,G<=b->g'.room b=gr.room (b-G):=fun b hb=>by simp[g',MR,Nat.not_lt.2 hb]
 have hle:g.le g':=⟨fun b x k=>by rw[u b (H.rT b x.1 x.2 k).1];exact k,fun b x k=>X b (H.rT b x.1 x.2 k).1⟩
 have aa:QN G gr g':=fun b _=>by
  have:G+b-G=b:=by omega
  rw[z _ (Nat.le_add_right _ _),J _ (Nat.le_add_right _ _),this]
  exact⟨rfl,rfl⟩
 have ag:∀b c,look b ad=some c->b<j.MM:=fun b c k=>by
  obtain⟨p,h1,D⟩:=JL R.1 k
  have:=B7 t3 p h1
  cases N:p.mP<;>simp[N]at this<;>omega
 have fresh:∀b rb ro,gr.ga b=some (rb,ro)->w.heap.size<=rb/\rb<w'.heap.size/\b<j.MM:=fun b rb ro k=>by
  simp only[gr,CD]at k
  obtain⟨c,E,F⟩:=fM.1 k
  obtain⟨p,h1,D⟩:=JL R.1 E
  obtain⟨c2,Z,m,ab,al,q3,ar,_⟩:=aF p h1
  rw[D,E]at ab;cases ab
  obtain⟨jv,_,a3⟩:=(ae.live c _ al).2 rb ro F
  obtain⟨_,_,_,_,_,_,ai,_⟩:=a3.list
  exact⟨ai (ar rfl),(ae.rT _ _ _ F).2,ag b c E⟩
 have aG:gx B0 w0 g' O.get (G+j.MM) w':=by
  refine H.later y hle (gv _ _) u (fun b rb ro k=>?_) (fun b x k=>?_)
  · by_cases hb:b<G
    · rw[u b hb]at k
      have:=(H.rT _ _ _ k).2
      have:=y.b.size
      exact⟨by omega,by omega⟩
    · rw[z b (Nat.not_lt.1 hb)]at k
      obtain⟨_,ak,aY⟩:=fresh _ _ _ k
      exact⟨by omega,ak⟩
  · by_cases hb:b<G
    · rw[X b hb]at k;rw[u b hb];exact H.room b x k
    · rw[J b (Nat.not_lt.1 hb)]at k
      rw[z b (Nat.not_lt.1 hb)]
      simp only[gr,CD]at k⊢
      obtain⟨c,E,F⟩:=fM.1 k
      rw[E]
      exact ae.room _ _ F
 have aH:gx B0 w0 g' h.get (G+j.MM) w':=by
  refine Pz (yC:=fun rb=>w.heap.size<=rb) (hi:=j.MM) (fg _) j.xV 0 O h t3 aG (fun rb aU b o r1 E F=>?_) (fun b hb=>?_) (fun p S N=>?_) (fun p S aZ aC=>?_) aA
  · exfalso
    have hb:=(H.live b o E).1
    rw[u b hb]at F
    have:=(H.rT _ _ _ F).2
    omega
  · cases hx:O.get b with
    |none=>rfl
    |some o=>have:=(H.live b o hx).1;omega
  · rw[z _ (by omega)]
    have:G+p.num+1-G=p.num+1:=by omega
    rw[this]
    have:=CB R.2 p S N
    simp[gr,CD,this]
  · obtain⟨c,Z,m,ab,al,q3,ar,au⟩:=aF p S
    refine MS (g:=K) (b:=c) (Z:=Z) (m:=m) (B0:=w.heap.size) q3 (fun rb ro jv _ a3=>?_) (fun rb ro k=>(ae.live c _ al).2 rb ro k) (fun x k=>?_) (fun lJ af=>?_)
    · obtain⟨_,_,_,_,_,_,ai,_⟩:=a3.list
      exact ai (ar rfl)
    · rw[z _ (Nat.le_add_right _ _)]at k
      rw[J _ (Nat.le_add_right _ _)]
      have:G+p.num-G=p.num:=by omega
      rw[this]at k⊢
      obtain⟨p1,ak⟩:=W _ _ ab
      exact⟨p1▸k,ak⟩
    · exact IA (Sb G 8) _ _ aC gr g' lJ aa (au gr K lJ W af)
 refine⟨v',w',g',aH,Sb G 8 _ _ aD gr g' v' aa aM,⟨⟨hle,gv _ _,fun b hb=>?_⟩,⟨y.b.size,fun rb jH _=>y.b.block rb jH⟩,fun b rb ro k=>?_⟩,st⟩
 · by_cases M:b<G
   · rw[u b M]at hb;exact .inl hb
   · exact .inr (Nat.not_lt.1 M)
 · by_cases M:b<G
   · rw[u b M]at k;exact .inl ⟨b,ro,k⟩
   · rw[z b (Nat.not_lt.1 M)]at k
     exact .inr (fresh _ _ _ k).1
theorem KI:∀{o6:List w7} {l:List Value} {O:Ht} {G:Nat} {r:Value×Ht×Nat},zD ng o6 l O G=some r->∃b∈o6,JK ng b l O G=some r
 |[],_,_,_,_,h=>by cases h
 |b::o6,l,O,G,r,h=>by
  simp only[zD]at h
  split at h
  · rename_i e hr
    cases h
    exact⟨b,fz ..,hr⟩
  · obtain⟨t,h1,D⟩:=KI h
    exact⟨t,fG _ h1,D⟩
theorem WT{u:Nat->World->Prop}(y:LS u)(hi:u B0 w0)(ok:mY P ng e)(nm:∀B0 w0,u B0 w0->so P ng B0 w0 e){f:FuncId}{o6:List w7}(hold:∀m∈o6,∃n j,zL ng e f n j m=true)(l:List Value)(args:Array Value)(O:Ht)(G:Nat)(g:Gm)(w:World)(H:gx B0 w0 g O.get G w)(hg:lv g ng)(hl:gZ g l args.toList):
 (∀Z k b,(yB ng o6).run l O G Z k b=b)\/∃p:List Nat->KC->R,(∀Z k b,(yB ng o6).run l O G Z k b=p Z k)/\∀fs,tX P B0 w0 .normal g G f args w fs p:=by
 cases hu:zD ng o6 l O G with
 |none=>exact .inl fun Z k b=>by simp only[yB,hu]
 |some r=>
  obtain⟨v,h,o⟩:=r
  obtain⟨m,h1,D⟩:=KI hu
  obtain⟨n,j,h3⟩:=hold m h1
  refine .inr ⟨fun Z k=>k v h o Z,fun Z k b=>by simp only[yB,hu],fun fs k=>.here (.inr ⟨v,h,o,fun Z=>rfl,?_⟩)⟩
  exact QR y hi ok nm h3 H hg hl D fs
end
end
end Sw
namespace Sw
noncomputable section
open Go Go.RowKit
def MT{α:Type}:Nat->List α->Tr α->Tr α
 |_,[],t=>t
 |i,x::xs,t=>MT (i+1) xs (t.set i (some x))
theorem PB{α:Type}:∀(l:List α) (i:Nat) (t:Tr α) (j:Nat),(MT i l t).get j=if i<=j/\j<i+l.length then l[j-i]? else t.get j
 |[],i,t,j=>by simp[MT];omega
 |x::xs,i,t,j=>by
  have b:∀k,(t.set i (some x)).get k=if k=i then some x else t.get k:=fun k=>by
   show(t.Af (i+1) (some x)).y5 (k+1)=if k=i then some x else t.y5 (k+1)
   rw[Tr.Kv t (some x) _ _ (by omega) (by omega)]
   by_cases h:k=i
   · rw[if_pos h,if_pos (by omega)]
   · rw[if_neg h,if_neg (by omega)]
  rw[MT,PB xs (i+1)]
  by_cases h:i+1<=j/\j<i+1+xs.length
  · rw[if_pos h,if_pos ⟨by omega,by simp;omega⟩]
    have:j-i=(j-(i+1))+1:=by omega
    rw[this];simp
  · rw[if_neg h,b]
    by_cases hj:j=i
    · subst hj
      rw[if_pos rfl,if_pos ⟨Nat.le_refl _,by simp⟩];simp
    · rw[if_neg hj,if_neg (by simp;omega)]
theorem xj{α:Type}(l:List α)(j:Nat):(MT 0 l .nil).get j=l[j]?:=by
 rw[PB]
 by_cases h:j<l.length
 · rw[if_pos ⟨Nat.zero_le _,by omega⟩];simp
 · rw[if_neg (by omega)]
   have:(Tr.nil:Tr α).get j=none:=rfl
   rw[this];simp;omega
def Zi(nt:Nat):ResultVar->Bool
 |.tmp i=>Nat.blt i nt
 |.cell i _=>Nat.blt i nt
def Al(ng:Nat)(fn:Func):Bool:=match fn.body with
 |none=>false
 |some b=>Nat.ble fn.ntmps 512&&(codeOk ng fn.ntmps b&&(fn.results.toList.all (Zi fn.ntmps)&&!(fn.name== "runtime.NumGoroutine")))
def LU(fn:Func):Option wF:=match fn.body with
 |some b=>some ⟨b,fn.ntmps,fn.results.toList⟩
 |none=>none
def MU(i:TypeInfo):Bool:=match i.zero with
 |some z=>flat z&&Nat.beq z.cells.size i.size
 |none=>true
def Bx(T:Ty)(i:TypeInfo):Bool:=match i.desc with
 |.struct fs=>fs.toList.all fun f=>(T.size f.type).isSome
 |_=>true
def IB(T:Ty)(t:TypeId)(name:String)(f:FuncId):Bool:=match T.kn t,T.jo t with
 |some i,some d=>(match i.methods.find? (·.name==name)with
  |some m=>m.path.isEmpty&&((match m.func with|some (g,p)=>Nat.beq g f&&!p|none=>false)&&(match d with|.pointer _=>false|_=>true))
  |none=>false)
 |_,_=>false
theorem QS{P:Program}{T:Ty}(ok:T.Ok P){t:TypeId}{name:String}{f:FuncId}(h:IB T t name f=true)(v:Value)(w:World):(method (P.types.size+Made.depth) t v name).run P w=.ok (f,v) w:=by
 unfold IB at h
 split at h
 · rename_i i d hi hd
   split at h
   · rename_i m hm
     simp only[Bool.and_eq_true]at h
     obtain⟨h1,D,h3⟩:=h
     have e:m.path=#[]:=by simpa using h1
     cases b:m.func with
     |none=>rw[b]at D;cases D
     |some j=>
      obtain⟨g,p⟩:=j
      rw[b]at D
      simp only[Bool.and_eq_true,Bool.not_eq_true']at D
      obtain⟨D,rfl⟩:=D
      have:=beq_eq D
      subst this
      have MV:0<Made.depth:=by decide
      obtain⟨n,hn⟩:∃n,P.types.size+Made.depth=n+1:=⟨P.types.size+Made.depth-1,by omega⟩
      rw[hn]
      unfold method
      have r1:(typeInfo t).run P w=.ok i w:=ok.sa hi w
      rw[ft r1,hm]
      simp only[e,b]
      have r2:(follow (#[]:Array FieldStep).toList t (.val v)).run P w=.ok (t,.val v) w:=rfl
      rw[ft r2]
      simp only
      have o:(receiverAt t (.val v) false (if(#[]:Array FieldStep).isEmpty then some ((name.splitOn ".").getLastD name)else none)).run P w=.ok v w:=by
       unfold receiverAt
       rw[ft (ok.gV hd w)]
       cases d<;>first|(cases h3;done)|rfl
      rw[ft o];rfl
   · cases h
 · cases h
theorem Zj{P:Program}{ng:Nat}{T:Ty}{F:FuncId->Option Func}{M:TypeId->String->Option FuncId}{K:FuncId->Option Ju}{low:Nat}(hT:T.Ok P)(j:T.CO)(m:∀f fn,F f=some fn->P.funcs[f]?=some fn/\Al ng fn=true)
 (o:∀t n f,M t n=some f->IB T t n f=true):mY P ng ⟨T,fun f=>(F f).bind LU,M,K,low⟩:=by
 refine⟨hT,j,fun f fi h=>?_,fun t n f h=>QS hT (o t n f h)⟩
 obtain⟨fn,h1,D⟩:=fM.1 h
 obtain⟨h3,h4⟩:=m f fn h1
 unfold LU at D
 unfold Al at h4
 cases hb:fn.body with
 |none=>rw[hb]at D;cases D
 |some b=>
  rw[hb]at D h4
  cases D
  simp only[Bool.and_eq_true,Bool.not_eq_true']at h4
  obtain⟨p,u,e,y⟩:=h4
  refine⟨fn,h3,hb,rfl,rfl,y,fk p,u,?_⟩
  rw[List.all_eq_true]at e⊢
  intro r hr
  have:=e r hr
  cases r<;>exact this
theorem Zk{P:Program}{T:Ty}(h:∀t i,T.kn t=some i->P.info? t=some i/\MU i=true/\Bx T i=true)
 (he:∀t,T.G4 t=true->P.stoodInHeld t=false/\P.eqGuardType P.depth t=false/\∀fs,P.underlying t=some (.struct fs)->∀f∈fs.toList,f.name≠ "_"):T.Ok P/\T.CO:=by
 refine⟨⟨fun t i k=>(h t i k).1,fun t i z k b=>?_,fun t i z k b=>?_,he⟩,fun t fs hu f hf=>?_⟩
 · have:=(h t i k).2.1
   unfold MU at this
   rw[b]at this
   simp only[Bool.and_eq_true]at this
   exact this.1
 · have:=(h t i k).2.1
   unfold MU at this
   rw[b]at this
   simp only[Bool.and_eq_true]at this
   exact beq_eq this.2
 · have key:∀i,Bx T i=true->i.desc=.struct fs->∃n,T.size f.type=some n:=fun i hc hd=>by
    unfold Bx at hc
    rw[hd]at hc
    exact Option.isSome_iff_exists.1 (fO.1 hc f hf)
   unfold Ty.jo at hu
   split at hu
   · rename_i i hi
     split at hu
     · rename_i u hd
       obtain⟨i2,D,h3⟩:=fI.1 hu
       exact key i2 (h u i2 D).2.2 h3
     · exact key i (h t i hi).2.2 (gb hu)
   · cases hu
end
end Sw
namespace Sw
noncomputable section
open Go Go.RowKit
def mC(e:Env)(fm:Fm)(c:Code)(s:St)(o:Nat)(j:St):Prop:=∃b,∀n,b<=n->∀Z,ev e n fm c (s.at Z)=.ok (o,j.at Z)
def By(e:Env)(f:FuncId)(l:List Value)(O:Ht)(G:Nat)(v:Value)(e9:Ht)(e_:Nat):Prop:=
 ∃b,∀n,b<=n->∀Z k,nC e (ev e n) f l O G Z k=k v e9 e_ Z
theorem WU(e:Env)(n:Nat)(fm:Fm)(c:Code)(s:St):ev e (n+1) fm c s=vJ c e (ev e n) fm s:=rfl
section
variable {e:Env}{fm:Fm}{s s1 s2:St}{o:Nat}
theorem mC.step{c:Code}(h:∃b,∀n,b<=n->∀Z,vJ c e (ev e n) fm (s.at Z)=.ok (o,s1.at Z)):mC e fm c s o s1:=by
 obtain⟨b,h⟩:=h
 refine⟨b+1,fun n hn Z=>?_⟩
 obtain⟨m,rfl⟩:∃m,n=m+1:=⟨n-1,by omega⟩
 rw[WU]
 exact h m (by omega) Z
theorem mC.skip:mC e fm .skip s 0 s:=.step ⟨0,fun _ _ _=>rfl⟩
theorem mC.exit{i:Nat}:mC e fm (.exit i) s (i+2) s:=.step ⟨0,fun _ _ _=>rfl⟩
theorem mC.ret:mC e fm .ret s 1 s:=.step ⟨0,fun _ _ _=>rfl⟩
theorem PC(a b:Code)(e:Env)(rec:Rec)(fm:Fm)(s:St):vJ (.seq a b) e rec fm s=(match rec fm a s with
 |.ok (o,s1)=>(match o with
  |0=>rec fm b s1
  |o+1=>.ok (o+1,s1))
 |.gu m=>.gu m):=rfl
theorem mC.seq{a b:Code}(h:mC e fm a s 0 s1)(k:mC e fm b s1 o s2):mC e fm (.seq a b) s o s2:=by
 obtain⟨j,h⟩:=h
 obtain⟨n2,k⟩:=k
 refine .step ⟨max j n2,fun n hn Z=>?_⟩
 rw[PC,h n (by omega) Z]
 exact k n (by omega) Z
theorem mC.Hi{a b:Code}(h:mC e fm a s (o+1) s1):mC e fm (.seq a b) s (o+1) s1:=by
 obtain⟨j,h⟩:=h
 refine .step ⟨j,fun n hn Z=>?_⟩
 rw[PC,h n hn Z]
theorem Uu(x:Operand)(a b:Code)(e:Env)(rec:Rec)(fm:Fm)(s:St):vJ (.cond x a b) e rec fm s=(match (f_ x).run s.I with
 |.bool c=>(match c with
  |true=>rec fm a s
  |false=>rec fm b s)
 |_=>.gu 0):=rfl
theorem mC.cond{x:Operand}{a b:Code}{t:Bool}(hx:(f_ x).run s.I=.bool t)(h:mC e fm (if t then a else b) s o s1):mC e fm (.cond x a b) s o s1:=by
 obtain⟨j,h⟩:=h
 refine .step ⟨j,fun n hn Z=>?_⟩
 have hx:(f_ x).run (s.at Z).I=.bool t:=hx
 rw[Uu,hx]
 cases t with
 |true=>exact h n hn Z
 |false=>exact h n hn Z
theorem mC.Zl{x:Operand}{a b:Code}(hx:(f_ x).run s.I=.bool true)(h:mC e fm a s o s1):mC e fm (.cond x a b) s o s1:=.cond hx h
theorem mC.Zm{x:Operand}{a b:Code}(hx:(f_ x).run s.I=.bool false)(h:mC e fm b s o s1):mC e fm (.cond x a b) s o s1:=.cond hx h
theorem KJ(id:Nat)(b:Code)(e:Env)(rec:Rec)(fm:Fm)(s:St):vJ (.block id b) e rec fm s=(match rec fm b s with
 |.ok (o,s1)=>bif Nat.beq o (id+2)then .ok (0,s1)else .ok (o,s1)
 |.gu m=>.gu m):=rfl
theorem mC.E8{id:Nat}{b:Code}(h:mC e fm b s (id+2) s1):mC e fm (.block id b) s 0 s1:=by
 obtain⟨j,h⟩:=h
 refine .step ⟨j,fun n hn Z=>?_⟩
 rw[KJ,h n hn Z]
 simp only[Nat.beq_refl,cond_true]
theorem mC.block{id:Nat}{b:Code}(h:mC e fm b s o s1)(jI:Nat.beq o (id+2)=false):mC e fm (.block id b) s o s1:=by
 obtain⟨j,h⟩:=h
 refine .step ⟨j,fun n hn Z=>?_⟩
 rw[KJ,h n hn Z]
 simp only[jI,cond_false]
theorem MW(b:Code)(e:Env)(rec:Rec)(fm:Fm)(s:St):vJ (.loop b) e rec fm s=(match rec fm b s with
 |.ok (o,s1)=>(match o with
  |0=>rec fm (.loop b) s1
  |o+1=>.ok (o+1,s1))
 |.gu m=>.gu m):=rfl
theorem mC.loop{b:Code}(h:mC e fm b s 0 s1)(k:mC e fm (.loop b) s1 o s2):mC e fm (.loop b) s o s2:=by
 obtain⟨j,h⟩:=h
 obtain⟨n2,k⟩:=k
 refine .step ⟨max j n2,fun n hn Z=>?_⟩
 rw[MW,h n (by omega) Z]
 exact k n (by omega) Z
theorem mC.E7{b:Code}(h:mC e fm b s (o+1) s1):mC e fm (.loop b) s (o+1) s1:=by
 obtain⟨j,h⟩:=h
 refine .step ⟨j,fun n hn Z=>?_⟩
 rw[MW,h n hn Z]
theorem mC.scope{b:Code}(h:mC e fm b s o s1):mC e fm (.scope b) s o s1:=by
 obtain⟨j,h⟩:=h
 exact .step ⟨j,fun n hn Z=>h n hn Z⟩
theorem mC.region{id:Nat}{ops:Array Oper}(h:∃b,∀n,b<=n->∀Z,wG (g_ ops.toList ops.toList) e (ev e n) fm (s.at Z)=.ok (0,s1.at Z)):mC e fm (.region id ops false) s 0 s1:=by
 obtain⟨j,h⟩:=h
 exact .step ⟨j,fun n hn Z=>h n hn Z⟩
theorem mC.draw{id:Nat}{ops:Array Oper}(h:∃b,∀n,b<=n->∀Z,o9 (Ax (wv ops.toList) ops.toList (yn (wv ops.toList) ops.toList).sk) e (ev e n) fm (s.at Z)=.ok (0,s1.at Z)):mC e fm (.region id ops true) s 0 s1:=by
 obtain⟨j,h⟩:=h
 exact .step ⟨j,fun n hn Z=>h n hn Z⟩
theorem By.Jz{f:FuncId}{fi:wF}{l:List Value}{O:Ht}{G:Nat}{t:Tm}{b:St}{vs:List Value}{o:Nat}(hk:e.K f=none)(hf:e.F f=some fi)(hl:Nat.ble l.length fi.nt=true)(m:qP zA l Tm.undef=some t)
 (hb:mC e ⟨f,fi.nt,none⟩ fi.body ⟨t,[],O,G,[]⟩ o b) (j:Nat.ble o 1=true) (hd:b.ds=[]) (hr:nc e.T b.O.get b.I fi.uu=some vs):By e f l O G (qQ vs) b.O b.G:=by
 obtain⟨p,hb⟩:=hb
 refine⟨p,fun n hn Z k=>?_⟩
 have hb:=hb n hn Z
 simp only[nC,hk,uv,hf,sU,hl,cond_true,m]
 have hb:ev e n ⟨f,fi.nt,none⟩ fi.body ⟨t,[],O,G,Z⟩=.ok (o,b.at Z):=hb
 rw[hb]
 simp only[St.at,j,cond_true,hd,lT,y8,hr]
theorem By.WW{ng:Nat}{f:FuncId}{o6:List w7}{l:List Value}{O e9:Ht}{G e_:Nat}{v:Value}(hk:e.K f=some (yB ng o6))(hu:zD ng o6 l O G=some (v,e9,e_)):By e f l O G v e9 e_:=
 ⟨0,fun n _ Z k=>by simp only[nC,hk,yB,hu]⟩
end
section
variable {all:List Oper}{e:Env}{rec:Rec}{fm:Fm}{I:Tm}{ds:List Deferred}{O:Ht}{G:Nat}{Z:List Nat}{k:St->R}{d:Option Tmp}{ty:TypeId}{pos:String}{j7:Array Edge}
end
theorem MX(all:List Oper)(o:Oper)(os:List Oper):g_ all (o::os)=iQ all o::g_ all os:=rfl
theorem Uv(c:Cl)(l:List Cl)(e:Env)(rec:Rec)(fm:Fm)(s:St)(Z:List Nat):wG (c::l) e rec fm (s.at Z)=c.run e rec fm s.I s.ds s.O s.G Z fun s=>wG l e rec fm s:=rfl
end
end Sw
namespace Sw
noncomputable section
open Go Go.RowKit
def WP(e:Env)(fm:Fm)(c:Code)(s:St)(Q:Nat->St->Prop):Prop:=∃o b,mC e fm c s o b/\Q o b
def WC(e:Env)(fm:Fm)(c:Cl)(s:St)(Q:St->Prop):Prop:=∃s1,(∃b,∀n,b<=n->∀Z k,c.run e (ev e n) fm s.I s.ds s.O s.G Z k=k (s1.at Z))/\Q s1
def WO(e:Env)(fm:Fm)(l:List Cl)(s:St)(Q:St->Prop):Prop:=∃s1,(∃b,∀n,b<=n->∀Z,wG l e (ev e n) fm (s.at Z)=.ok (0,s1.at Z))/\Q s1
def WN(e:Env)(fm:Fm)(l:List Cl)(s:St)(Q:St->Prop):Prop:=∃s1,(∃b,∀n,b<=n->∀Z k,zc l e (ev e n) fm (s.at Z) k=k (s1.at Z))/\Q s1
def WD(e:Env)(fm:Fm)(l:List Kt)(s:St)(Q:St->Prop):Prop:=∃s1,(∃b,∀n,b<=n->∀Z,o9 l e (ev e n) fm (s.at Z)=.ok (0,s1.at Z))/\Q s1
def jc(e:Env)(l:List tG)(s:St):Prop:=∀Z k,xB l e (s.at Z) k=k
def WF(e:Env)(f:FuncId)(l:List Value)(O:Ht)(G:Nat)(Q:Value->Ht->Nat->Prop):Prop:=∃v e9 e_,By e f l O G v e9 e_/\Q v e9 e_
section
variable {e:Env}{fm:Fm}{s s1:St}{Q:St->Prop}{W:Nat->St->Prop}
theorem WP.mono{c:Code}{b:Nat->St->Prop}(h:WP e fm c s W)(k:∀o s,W o s->b o s):WP e fm c s b:=by
 obtain⟨o,j,h1,D⟩:=h;exact⟨o,j,h1,k _ _ D⟩
theorem WF.mono{f:FuncId}{l:List Value}{O:Ht}{G:Nat}{A B:Value->Ht->Nat->Prop}(h:WF e f l O G A)(k:∀v O G,A v O G->B v O G):WF e f l O G B:=by
 obtain⟨v,e9,e_,h1,D⟩:=h;exact⟨v,e9,e_,h1,k _ _ _ D⟩
theorem WP.seq{a b:Code}(h:WP e fm a s fun o s1=>match o with
 |0=>WP e fm b s1 W
 |o+1=>W (o+1) s1):WP e fm (.seq a b) s W:=by
 obtain⟨o,s1,h1,D⟩:=h
 cases o with
 |zero=>obtain⟨o2,s2,h3,h4⟩:=D;exact⟨o2,s2,h1.seq h3,h4⟩
 |succ o=>exact⟨o+1,s1,h1.Hi,D⟩
theorem WP.skip(h:W 0 s):WP e fm .skip s W:=⟨0,s,.skip,h⟩
theorem WP.ret(h:W 1 s):WP e fm .ret s W:=⟨1,s,.ret,h⟩
theorem WP.exit{i:Nat}(h:W (i+2) s):WP e fm (.exit i) s W:=⟨_,s,.exit,h⟩
theorem WP.cond{x:Operand}{a b:Code}(t:Bool)(hx:(f_ x).run s.I=.bool t)(h1:t=true->WP e fm a s W)(D:t=false->WP e fm b s W):WP e fm (.cond x a b) s W:=by
 cases t with
 |true=>obtain⟨o,j,h,k⟩:=h1 rfl;exact⟨o,j,.Zl hx h,k⟩
 |false=>obtain⟨o,j,h,k⟩:=D rfl;exact⟨o,j,.Zm hx h,k⟩
theorem WP.block{id:Nat}{b:Code}(h:WP e fm b s fun o s1=>W (bif Nat.beq o (id+2)then 0 else o) s1):WP e fm (.block id b) s W:=by
 obtain⟨o,s1,h1,D⟩:=h
 cases hb:Nat.beq o (id+2)with
 |true=>
  rw[hb]at D
  obtain rfl:=fC hb
  exact⟨0,s1,.E8 h1,D⟩
 |false=>rw[hb]at D;exact⟨o,s1,.block h1 hb,D⟩
theorem WP.loop{b:Code}(p:Nat->St->Prop)(hb:∀m s,p m s->WP e fm b s fun o s1=>match o with
 |0=>∃j,j<m/\p j s1
 |o+1=>W (o+1) s1):∀(m:Nat) {s:St},p m s->WP e fm (.loop b) s W:=by
 intro m
 induction m using Nat.strongRecOn with
 |_ m ih=>
  intro s hs
  obtain⟨o,s1,h1,D⟩:=hb m s hs
  cases o with
  |zero=>
   obtain⟨j,hm,hi⟩:=D
   obtain⟨o2,s2,h3,h4⟩:=ih j hm hi
   exact⟨o2,s2,.loop h1 h3,h4⟩
  |succ o=>exact⟨o+1,s1,.E7 h1,D⟩
theorem WP.region{id:Nat}{ops:Array Oper}(h:WO e fm (g_ ops.toList ops.toList) s (W 0)):WP e fm (.region id ops false) s W:=by
 obtain⟨s1,h1,D⟩:=h;exact⟨0,s1,.region h1,D⟩
theorem WP.draw{id:Nat}{ops:Array Oper}(h:WD e fm (Ax (wv ops.toList) ops.toList (yn (wv ops.toList) ops.toList).sk) s (W 0)):WP e fm (.region id ops true) s W:=by
 obtain⟨s1,h1,D⟩:=h;exact⟨0,s1,.draw h1,D⟩
theorem WO.nil{all:List Oper}(h:Q s):WO e fm (g_ all []) s Q:=⟨s,⟨0,fun _ _ _=>rfl⟩,h⟩
theorem WO.cons{all:List Oper}{o:Oper}{os:List Oper}(h:WC e fm (iQ all o) s fun s1=>WO e fm (g_ all os) s1 Q):WO e fm (g_ all (o::os)) s Q:=by
 obtain⟨s1,⟨b,h1⟩,s2,⟨n2,D⟩,q⟩:=h
 exact⟨s2,⟨max b n2,fun n hn Z=>by rw[MX,Uv,h1 n (by omega)];exact D n (by omega) Z⟩,q⟩
theorem WN.nil(h:Q s):WN e fm [] s Q:=⟨s,⟨0,fun _ _ _ _=>rfl⟩,h⟩
theorem WX(c:Cl)(l:List Cl)(e:Env)(rec:Rec)(fm:Fm)(s:St)(Z:List Nat)(k:St->R):zc (c::l) e rec fm (s.at Z) k=c.run e rec fm s.I s.ds s.O s.G Z fun s=>zc l e rec fm s k:=rfl
theorem WN.cons{c:Cl}{l:List Cl}(h:WC e fm c s fun s1=>WN e fm l s1 Q):WN e fm (c::l) s Q:=by
 obtain⟨s1,⟨b,h1⟩,s2,⟨n2,D⟩,q⟩:=h
 exact⟨s2,⟨max b n2,fun n hn Z k=>by rw[WX,h1 n (by omega)];exact D n (by omega) Z k⟩,q⟩
theorem Lm(ne:List Cl)(qW:List tG)(c:Cl)(b:List Kt)(e:Env)(rec:Rec)(fm:Fm)(s:St):o9 (⟨ne,qW,some c⟩::b) e rec fm s=
 zc ne e rec fm s (fun st1=>xB qW e st1 (c.run e rec fm st1.I st1.ds st1.O st1.G st1.Z (fun st2=>o9 b e rec fm st2))):=rfl
theorem Ln(ne:List Cl)(qW:List tG)(b:List Kt)(e:Env)(rec:Rec)(fm:Fm)(s:St):o9 (⟨ne,qW,none⟩::b) e rec fm s=
 zc ne e rec fm s (fun st1=>xB qW e st1 (.ok (0,st1))):=rfl
theorem WD.kZ{ne:List Cl}{qW:List tG}{c:Cl}{b:List Kt}(h:WN e fm ne s fun s1=>jc e qW s1/\WC e fm c s1 fun s2=>WD e fm b s2 Q):WD e fm (⟨ne,qW,some c⟩::b) s Q:=by
 obtain⟨s1,⟨j,h1⟩,hk,s2,⟨n2,D⟩,o,⟨m,h3⟩,q⟩:=h
 refine⟨o,⟨max j (max n2 m),fun n hn Z=>?_⟩,q⟩
 rw[Lm,h1 n (by omega),hk]
 show c.run e (ev e n) fm s1.I s1.ds s1.O s1.G Z _=_
 rw[D n (by omega)]
 exact h3 n (by omega) Z
theorem WD.last{ne:List Cl}{qW:List tG}{j:List Kt}(h:WN e fm ne s fun s1=>jc e qW s1/\Q s1):WD e fm (⟨ne,qW,none⟩::j) s Q:=by
 obtain⟨s1,⟨b,h1⟩,hk,q⟩:=h
 refine⟨s1,⟨b,fun n hn Z=>?_⟩,q⟩
 rw[Ln,h1 n hn,hk]
theorem jc.nil:jc e [] s:=fun _ _=>rfl
theorem jc.cons{c:tG}{l:List tG}(h:∀k,c.run e.T s.O s.G s.I k=k)(hl:jc e l s):jc e (c::l) s:=fun Z k=>by
 have:xB (c::l) e (s.at Z) k=c.run e.T s.O s.G s.I (xB l e (s.at Z) k):=rfl
 rw[this,h,hl]
end
section
variable {e:Env}{fm:Fm}{c:Cl}{I:Tm}{ds:List Deferred}{O:Ht}{G:Nat}{gX:List Nat}{Q:St->Prop}
theorem WC.val(d:Nat)(v:Value)(h:∀rec Z k,c.run e rec fm I ds O G Z k=k ⟨I.set d v,ds,O,G,Z⟩)(q:Q ⟨I.set d v,ds,O,G,gX⟩):WC e fm c ⟨I,ds,O,G,gX⟩ Q:=
 ⟨⟨I.set d v,ds,O,G,gX⟩,⟨0,fun n _ Z k=>h (ev e n) Z k⟩,q⟩
theorem WC.mq(d:Nat)(o:Option Value){v:Value}(h:∀rec Z k,c.run e rec fm I ds O G Z k=kQ o (fun v=>k ⟨I.set d v,ds,O,G,Z⟩))(b:o=some v)(q:Q ⟨I.set d v,ds,O,G,gX⟩):WC e fm c ⟨I,ds,O,G,gX⟩ Q:=
 .val d v (fun rec Z k=>by rw[h,b];rfl) q
def jm:uq->Ht->Ht
 |[],h=>h
 |(b,o)::e,h=>jm e (h.set b o)
theorem IC:∀(e:uq) (h:Ht),Ah 0 e h=some (jm e h)
 |[],h=>rfl
 |(b,o)::e,h=>by
  show(bif Nat.ble 0 b then Ah 0 e (h.set b o)else none)=_
  rw[Nat.ble_eq_true_of_le (Nat.zero_le b),cond_true,IC e];rfl
theorem WC.kZ(d:Nat)(v:Value)(jJ:uq)(m:Nat)(hl:e.low=0)(h:∀rec Z k,c.run e rec fm I ds O G Z k=tW (fun t v=>t.set d v) e.low I ds O G Z k (v,jJ,m))(q:Q ⟨I.set d v,ds,jm jJ O,G+m,gX⟩):WC e fm c ⟨I,ds,O,G,gX⟩ Q:=
 ⟨⟨I.set d v,ds,jm jJ O,G+m,gX⟩,⟨0,fun n _ Z k=>by show c.run e (ev e n) fm I ds O G Z k=_;rw[h (ev e n) Z k,hl];simp only[tW,IC,St.at]⟩,q⟩
theorem WC.Yb(d:Nat)(o:Option qj){v:Value}{jJ:uq}{m:Nat}(hl:e.low=0)(h:∀rec Z k,c.run e rec fm I ds O G Z k=qO o (tW (fun t v=>t.set d v) e.low I ds O G Z k))(b:o=some (v,jJ,m))(q:Q ⟨I.set d v,ds,jm jJ O,G+m,gX⟩):WC e fm c ⟨I,ds,O,G,gX⟩ Q:=
 .kZ d v jJ m hl (fun rec Z k=>by rw[h,b];rfl) q
theorem WC.KK(d:Nat)(o:Option qj){v:Value}{jJ:uq}{m:Nat}(hl:e.low=0)(h:∀rec Z k,c.run e rec fm I ds O G Z k=qO o (fun f=>match f with
 |(v,jJ,m)=>match Ah e.low jJ O with
  |some h=>k ⟨I.set d v,ds,h,G+m,Z⟩
  |none=>.gu 0)) (b:o=some (v,jJ,m)) (q:Q ⟨I.set d v,ds,jm jJ O,G+m,gX⟩):WC e fm c ⟨I,ds,O,G,gX⟩ Q:=
 ⟨⟨I.set d v,ds,jm jJ O,G+m,gX⟩,⟨0,fun n _ Z k=>by show c.run e (ev e n) fm I ds O G Z k=_;rw[h (ev e n) Z k,b,hl];simp only[qO,IC,St.at]⟩,q⟩
theorem WC.call(d:Nat)(f:FuncId)(l:List Value)(h:∀rec Z k,c.run e rec fm I ds O G Z k=nC e rec f l O G Z (fun v O G Z=>k ⟨I.set d v,ds,O,G,Z⟩))
 (hf:WF e f l O G fun v O G=>Q ⟨I.set d v,ds,O,G,gX⟩):WC e fm c ⟨I,ds,O,G,gX⟩ Q:=by
 obtain⟨v,e9,e_,⟨b,h1⟩,q⟩:=hf
 exact⟨⟨I.set d v,ds,e9,e_,gX⟩,⟨b,fun n hn Z k=>by show c.run e (ev e n) fm I ds O G Z k=_;rw[h (ev e n) Z k,h1 n hn];rfl⟩,q⟩
theorem WF.body{f:FuncId}{fi:wF}{l:List Value}{t:Tm}{R:Value->Ht->Nat->Prop}(hk:e.K f=none)(hf:e.F f=some fi)(hl:Nat.ble l.length fi.nt=true)(m:qP zA l Tm.undef=some t)
 (hb:WP e ⟨f,fi.nt,none⟩ fi.body ⟨t,[],O,G,[]⟩ fun o b=>Nat.ble o 1=true/\b.ds=[]/\∃vs,nc e.T b.O.get b.I fi.uu=some vs/\R (qQ vs) b.O b.G):WF e f l O G R:=by
 obtain⟨o,b,h1,D,h3,vs,h4,j⟩:=hb
 exact⟨_,_,_,.Jz hk hf hl m h1 D h3 h4,j⟩
theorem WF.Yc{ng:Nat}{f:FuncId}{o6:List w7}{l:List Value}{v:Value}{e9:Ht}{e_:Nat}{R:Value->Ht->Nat->Prop}(hk:e.K f=some (yB ng o6))(hu:zD ng o6 l O G=some (v,e9,e_))(q:R v e9 e_):WF e f l O G R:=
 ⟨_,_,_,.WW hk hu,q⟩
end
theorem ki{T:Ty}{O:Hp}{t:TypeId}{b o:Nat}{cells:List Value}{m:gm}{v:Value}(e:T.agg t=some false)(hb:O b=some (.cells cells m))(hc:cells[o]?=some v):kh T O t (.pointer (some ⟨b,o,none⟩))=some v:=by
 simp only[kh,hb,e,hc]
theorem jV{T:Ty}{O:Hp}{t:TypeId}{b o n:Nat}{cells l:List Value}{m:gm}(e:T.agg t=some true)(hs:T.size t=some n)(hb:O b=some (.cells cells m))(hc:lQ n (cells.drop o)=some l):kh T O t (.pointer (some ⟨b,o,none⟩))=some (.agg l.toArray):=by
 simp only[kh,hb,e,hs,Option.bind_some,hc,Option.map_some]
theorem Lo{T:Ty}{t el:TypeId}{b o len c i s:Nat}{k:IntKind}(hu:T.jo t=some (.slice el))(hs:T.size el=some s)(hi:i<len):mQ T t (.slice (some ⟨b,o,none⟩) len c) (.int k (.ofNat i))=some (.pointer (some ⟨b,o+i*s,none⟩)):=by
 simp only[mQ,hu,vl,mN.2 hi,cond_true,hs,Option.map_some,Int.toNat]
theorem Fl{f:Value->Value->Bool}:∀(l:List Value),(∀v∈l,f v v=true)->uU f l l=true
 |[],_=>rfl
 |x::xs,h=>by
  simp only[uU,h x (List.mem_cons_self ..),Fl xs (fun v b=>h v (List.mem_cons_of_mem _ b)),Bool.and_true]
theorem iF(n:Nat)(k:IntKind)(i:Int):lx n (.int k i) (.int k i)=true:=by
 have h1:wD k k=true:=by cases k<;>rfl
 have D:kN i i=true:=lS.2 rfl
 cases n<;>simp only[lx,h1,D,Bool.and_true]
theorem iR(n b o:Nat):lx n (.pointer (some ⟨b,o,none⟩)) (.pointer (some ⟨b,o,none⟩))=true:=by
 cases n<;>simp only[lx,Nat.beq_refl,Bool.and_true]
theorem u9(n b o l c:Nat):lx n (.slice (some ⟨b,o,none⟩) l c) (.slice (some ⟨b,o,none⟩) l c)=true:=by
 cases n<;>simp only[lx,Nat.beq_refl,Bool.and_true]
theorem xW(n l c:Nat):lx n (.slice none l c) (.slice none l c)=true:=by
 cases n<;>simp only[lx,Nat.beq_refl,Bool.and_true]
theorem wK(n:Nat)(x:Array Value)(h:∀v∈x.toList,lx n v v=true):lx (n+1) (.agg x) (.agg x)=true:=by
 simp only[lx,Fl _ h]
theorem Tr.ig(t:Ht)(n:Nat)(o:Option (jT Tm)):(t.set n o).get n=o:=by rw[Tr.oh];simp[Hp.set]
theorem Tr.gG(t:Ht){n m:Nat}(o:Option (jT Tm))(h:m≠n):(t.set n o).get m=t.get m:=by rw[Tr.oh];simp[Hp.set,h]
def HE(B:Nat)(O e9:Ht):Prop:=∀b,b<B->e9.get b=O.get b
theorem HE.refl(B:Nat)(O:Ht):HE B O O:=fun _ _=>rfl
theorem HE.trans{B B':Nat}{h1 D h3:Ht}(a:HE B h1 D)(b:HE B' D h3)(hb:B<=B':=by omega):HE B h1 h3:=fun x hx=>(b x (by omega)).trans (a x hx)
theorem HE.set{B n:Nat}(O:Ht)(o:Option (jT Tm))(h:B<=n):HE B O (O.set n o):=fun b hb=>Tr.gG _ _ (by omega)
theorem HE.get{B b:Nat}{h1 D:Ht}(a:HE B h1 D){o:Option (jT Tm)}(h:h1.get b=o)(hb:b<B:=by omega):D.get b=o:=(a b hb).trans h
inductive Sl(B size:Nat)(O:Ht)(G:Nat):Value->Nat->List Value->Prop where
 |nil:Sl B size O G (.slice none 0 0) 0 []
 |plain {b l:Nat} {xs:List Value} {m:gm} (hb:O.get b=some (.cells xs m)) (hm:m.mP=none) (h:b<G) (h0:B<=b) (hl:xs.length=l*size):Sl B size O G (.slice (some ⟨b,0,none⟩) l l) l xs
 |grown {b l gr:Nat} {xs:List Value} {ms:List Mem} (hb:O.get b=some (.cells xs ⟨false,some gr,0,size⟩)) (hg:O.get gr=some (.group ms)) (qX:∀e∈ms,e.base+e.len<=xs.length)
   (h:b<G) (h0:B<=b) (D:gr<G) (h3:B<=gr) (hl:xs.length=l*size):Sl B size O G (.slice (some ⟨b,0,none⟩) l l) l xs
theorem Sl.mono{B size G e_ l:Nat}{O e9:Ht}{v:Value}{xs:List Value}(h:Sl B size O G v l xs)(he:HE G O e9)(hn:G<=e_):Sl B size e9 e_ v l xs:=by
 cases h with
 |nil=>exact .nil
 |plain hb hm h h0 hl=>exact .plain (he.get hb h) hm (by omega) h0 hl
 |grown hb hg qX h h0 D h3 hl=>exact .grown (he.get hb h) (he.get hg D) qX (by omega) h0 (by omega) h3 hl
theorem Sl.le{B B' size G l:Nat}{O:Ht}{v:Value}{xs:List Value}(h:Sl B size O G v l xs)(hb:B'<=B):Sl B' size O G v l xs:=by
 cases h with
 |nil=>exact .nil
 |plain h1 hm h h0 hl=>exact .plain h1 hm h (by omega) hl
 |grown h1 hg qX h h0 D h3 hl=>exact .grown h1 hg qX h (by omega) D (by omega) hl
theorem Sl.len{B size G l:Nat}{O:Ht}{v:Value}{xs:List Value}(h:Sl B size O G v l xs):xs.length=l*size:=by
 cases h with
 |nil=>simp
 |plain hb hm h h0 hl=>exact hl
 |grown hb hg qX h h0 D h3 hl=>exact hl
theorem Sl.EV{B size G l:Nat}{O:Ht}{v:Value}{xs:List Value}(h:Sl B size O G v l xs):∃a,v=.slice a l l:=by
 cases h<;>exact⟨_,rfl⟩
theorem vW{α:Type}:∀(l:List α) (n:Nat),l.length=n->lQ n l=some l
 |[],0,_=>rfl
 |x::xs,n+1,h=>by simp only[lQ,vW xs n (by simpa using h),Option.map_some]
 |[],n+1,h=>by simp at h
 |x::xs,0,h=>by simp at h
def y4(xs:List Value)(off:Nat):Nat->Option (List Value)
 |0=>some []
 |k=>lQ k (xs.drop off)
theorem tJ(O:Hp)(b off l size:Nat)(new:List Value)(m n:Nat):pZ O (some ⟨b,off,none⟩) l size new m n=(match O b with
 |some (.cells Z mt)=>(y4 Z off (l*size)).bind fun j=>match mt.mP with
  |none=>some (.slice (some ⟨n+1,0,none⟩) (l+m) (l+m),
    [(n,some (jT.group [⟨n+1,0,(j++new).length⟩])),(n+1,some (jT.cells (j++new) ⟨false,some n,0,size⟩))],2)
  |some gr=>match O gr with
   |some (.group ms)=>
    bif (!mt.ro&&Nat.beq mt.unit size)&&oF O (beyond (mt.base+off+l*size)) ms then
     some (.slice (some ⟨n,0,none⟩) (l+m) (l+m),
      nw (beyond (mt.base+off+l*size)) ms++[(gr,some (jT.group ((ms.filter fun e=>!(beyond (mt.base+off+l*size) e))++([⟨n,mt.base+off,(j++new).length⟩]:List Mem)))),
       (n,some (jT.cells (j++new) ⟨false,some gr,mt.base+off,size⟩))],1)
    else none
   |_=>none
 |_=>none):=rfl
theorem Ba(xs:List Value):∀l,xs.length=l->y4 xs 0 l=some xs
 |0,h=>by rw[List.length_eq_zero_iff.1 h];rfl
 |l+1,h=>vW xs _ h
theorem Sl.append{T:Ty}{B size G l m st xt el:Nat}{O:Ht}{v x z:Value}{inf:TypeInfo}{xs j:List Value}(h:Sl B size O G v l xs)(hu:T.jo st=some (.slice el))(hs:T.size el=some size)(N:T.zero el=some z)(hi:T.kn el=some inf)
 (hx:pR T xt x=some (m,false)) (A:lU O.get (m*size) x=some j) (C:uR size x=true) (L:j.length=m*size) (y:j.all one=true) (hm:0<m)
 (b1:(l+m)*inf.bytes<=70368744177664) (b2:inf.bytes<=1073741824) (M:l+m<=70368744177664) (o:B<=G):
 ∃v' jJ k,jU T O.get st xt v x G=some (v',jJ,k)/\Sl B size (jm jJ O) (G+k) v' (l+m) (xs++j)/\HE B O (jm jJ O):=by
 have F:¬(l+m<=l):=by omega
 have u:Nat.ble (l+m) l=false:=by
  cases hb:Nat.ble (l+m) l with
  |false=>rfl
  |true=>exact absurd (fk hb) F
 have e1:∀a,jU T O.get st xt (.slice a l l) x G=pZ O.get a l size j m G:=fun a=>by
  simp only[jU,hu,hs,N,hi,hx,mg,cond_false,C,cond_true,A,Option.bind_some,y,Nat.ble_eq_true_of_le b1,Nat.ble_eq_true_of_le b2,Nat.ble_eq_true_of_le M,Bool.and_true,u]
 have hlen:(xs++j).length=(l+m)*size:=by rw[List.length_append,h.len,L,Nat.add_mul]
 cases h with
 |nil=>
  rw[e1]
  refine⟨_,_,_,rfl,?_,?_⟩
  · simp only[jm,List.nil_append]
    refine .grown (gr:=G) (Tr.ig ..) ((Tr.gG _ _ (by omega)).trans (Tr.ig ..)) (fun e he=>?_) (by omega) (by omega) (by omega) o (by simpa using hlen)
    rw[List.mem_singleton.1 he];simp
  · exact(HE.set _ _ o).trans (HE.set _ _ (show B<=G+1 by omega)) (fg _)
 |@plain b _ _ mt hb J jH E hl=>
  rw[e1]
  have:pZ O.get (some ⟨b,0,none⟩) l size j m G=some (.slice (some ⟨G+1,0,none⟩) (l+m) (l+m),
   [(G,some (jT.group [⟨G+1,0,(xs++j).length⟩])),(G+1,some (jT.cells (xs++j) ⟨false,some G,0,size⟩))],2):=by
   simp only[tJ,hb,Ba _ _ hl,Option.bind_some,J]
  refine⟨_,_,_,this,?_,?_⟩
  · simp only[jm]
    refine .grown (gr:=G) (Tr.ig ..) ((Tr.gG _ _ (by omega)).trans (Tr.ig ..)) (fun e he=>?_) (by omega) (by omega) (by omega) o hlen
    rw[List.mem_singleton.1 he];simp
  · exact(HE.set _ _ o).trans (HE.set _ _ (show B<=G+1 by omega)) (fg _)
 |@grown b _ gr _ ms hb hg qX jH E D h3 hl=>
  rw[e1]
  have p:∀e∈ms,beyond (0+0+l*size) e=false:=fun e he=>by
   have:=qX e he
   cases K:beyond (0+0+l*size) e with
   |false=>rfl
   |true=>
    unfold beyond at K
    have:=mN.1 K
    omega
  have f1:ms.filter (beyond (0+0+l*size))=[]:=by
   rw[List.filter_eq_nil_iff];intro e he;rw[p e he];simp
  have f2:(ms.filter fun e=>!(beyond (0+0+l*size) e))=ms:=by
   rw[List.filter_eq_self];intro e he;rw[p e he];rfl
  have:pZ O.get (some ⟨b,0,none⟩) l size j m G=some (.slice (some ⟨G,0,none⟩) (l+m) (l+m),
   [(gr,some (jT.group (ms++[⟨G,0,(xs++j).length⟩]))),(G,some (jT.cells (xs++j) ⟨false,some gr,0,size⟩))],1):=by
   simp only[tJ,hb,Ba _ _ hl,Option.bind_some,hg,oF,f1,List.all_nil,Bool.not_false,Nat.beq_refl,Bool.and_true,cond_true,nw,List.map_nil,List.nil_append,f2]
  refine⟨_,_,_,this,?_,?_⟩
  · simp only[jm]
    refine .grown (gr:=gr) (Tr.ig ..) ((Tr.gG _ _ (by omega)).trans (Tr.ig ..)) (fun e he=>?_) (by omega) (by omega) (by omega) h3 hlen
    rcases fR.1 he with he|he
    · have:=qX e he;rw[List.length_append];omega
    · rw[List.mem_singleton.1 he];simp
  · exact(HE.set _ _ h3).trans (HE.set _ _ o) (fg _)
section
variable {e:Env}{fm:Fm}{I:Tm}{ds:List Deferred}{O:Ht}{G:Nat}{gX:List Nat}{Q:St->Prop}{all:List Oper}{d:Tmp}{ty:TypeId}{pos:String}{j7:Array Edge}
theorem WC.box{t:TypeId}{x:Operand}(v:Value)(cells:List Value)(hl:e.low=0)(hx:(f_ x).run I=v)(b:v.cells.toList=cells)(q:Q ⟨I.set d (.pointer (some ⟨G,0,none⟩)),ds,O.set G (some (.cells cells gm.plain)),G+1,gX⟩):
 WC e fm (iQ all ⟨some d,.box t x,ty,pos,j7,none⟩) ⟨I,ds,O,G,gX⟩ Q:=by
 subst hx b
 exact .kZ d _ [(G,some (.cells ((f_ x).run I).cells.toList gm.plain))] 1 hl (fun _ _ _=>rfl) q
theorem WC.jW{t:TypeId}{a:Operand}(b o:Nat)(v:Value){cells:List Value}{m:gm}(hx:(f_ a).run I=.pointer (some ⟨b,o,none⟩))(j:e.T.agg t=some false)(hb:O.get b=some (.cells cells m))(hc:cells[o]?=some v)(q:Q ⟨I.set d v,ds,O,G,gX⟩):
 WC e fm (iQ all ⟨some d,.load t a,ty,pos,j7,none⟩) ⟨I,ds,O,G,gX⟩ Q:=
 .mq d (kh e.T O.get t ((f_ a).run I)) (fun _ _ _=>rfl) (by rw[hx];exact ki j hb hc) q
theorem WC.iz{t:TypeId}{a:Operand}(b o:Nat)(l:List Value){n:Nat}{cells:List Value}{m:gm}(hx:(f_ a).run I=.pointer (some ⟨b,o,none⟩))(j:e.T.agg t=some true)(hs:e.T.size t=some n)(hb:O.get b=some (.cells cells m))(hc:lQ n (cells.drop o)=some l)(q:Q ⟨I.set d (.agg l.toArray),ds,O,G,gX⟩):
 WC e fm (iQ all ⟨some d,.load t a,ty,pos,j7,none⟩) ⟨I,ds,O,G,gX⟩ Q:=
 .mq d (kh e.T O.get t ((f_ a).run I)) (fun _ _ _=>rfl) (by rw[hx];exact jV j hs hb hc) q
theorem WC.buildSlice{t:TypeId}{n:Nat}{ps:Array (Nat×Operand)}(cells:List Value)(hl:e.low=0)(h:qY e.T t n (tV (zz ps.toList) I) G=some (vQ G cells n n))(q:Q ⟨I.set d (.slice (some ⟨G,0,none⟩) n n),ds,O.set G (some (.cells cells gm.plain)),G+1,gX⟩):
 WC e fm (iQ all ⟨some d,.buildSlice t n ps,ty,pos,j7,none⟩) ⟨I,ds,O,G,gX⟩ Q:=
 .Yb d (qY e.T t n (tV (zz ps.toList) I) G) hl (fun _ _ _=>rfl) h q
end
end
end Sw
