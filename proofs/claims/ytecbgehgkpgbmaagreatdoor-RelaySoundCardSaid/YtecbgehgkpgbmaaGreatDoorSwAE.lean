/- A part of the proof that the law returns true for every input that its row speaks of. No condition is added. -/
import Derived.Test.YtecbgehgkpgbmaaGreatDoorSwAD
import Derived.Orders
import Derived.KernelRfl
namespace Sw
noncomputable section
open Go Go.RowKit
def r_(listed:Array Bool)(i:Nat):Prop:=listed[i]?=some true
def yK(all:List Oper)(L:Nat)(listed:Array Bool)(i:Nat):Prop:=i<all.length/\has L i=true/\¬r_ listed i
structure uI(fl:Bool)(B0:Nat)(w0:World)(nt mL:Nat)(all:List Oper)(L:Nat)(listed:Array Bool)(s:St)(a:Act)(w:World)(g:Gm):Prop where
 sub:∀i,r_ listed i->has L i=true
 Jn:∀i,yK all L listed i->qv fl all i≠2
 closed:∀i,r_ listed i->∀ed∈pk all i,Region.binds .any ed=true->r_ listed ed.on
 heap:gm B0 w0 g s.O.get s.G w
 ds:ny g s.ds a.defers
 Ia:a.tmps.size=nt
 tmps:∀x,x<nt->(∀i,yK all L listed i->sh all i≠some x)->fK g (s.I.get x) (a.tmps.getD x undef)
 low:mL<=s.G
 fW:∀i,yK all L listed i->qv fl all i=1->∀d m,sh all i=some d->wL (s.I.get d)=some m->
  g.fW m=none/\mL<=m/\m<s.G/\∀k,yK all L listed k->qv fl all k=1->k≠i->∀d',sh all k=some d'->wL (s.I.get d')≠some m
structure D9(ng nt:Nat)(all:List Oper):Prop where
 small:nt<=512
 ops:all.all (wU ng nt)=true
section
variable {fl:Bool}{B0:Nat}{w0:World}{nt mL ng:Nat}{all:List Oper}{L:Nat}{listed:Array Bool}{s:St}{a:Act}{w:World}{g:Gm}{bm:List Nat}
theorem Mp{i:Nat}{o:Oper}(h:nD i all=some o):o∈all:=by
 rw[qj]at h
 obtain⟨hi,rfl⟩:=fe.1 h
 simp
theorem Jo{i:Nat}{o:Oper}(h:nD i all=some o):i<all.length:=by
 rw[qj]at h
 exact(fe.1 h).1
theorem Kk{i:Nat}(h:i<all.length):∃o,nD i all=some o:=by
 rw[qj];exact⟨all[i],ff h⟩
theorem D9.dst(ok:D9 ng nt all){i d:Nat}(h:sh all i=some d):d<nt:=by
 unfold sh at h
 split at h
 · rename_i o b
   have:=fE.1 ok.ops o (Mp b)
   unfold wU at this
   rw[Bool.and_eq_true]at this
   have D:=this.2
   rw[h]at D
   exact fa D
 · cases h
theorem Tm.Pb{I:Tm}{v:Value}{dst:Option Nat}{x:Nat}(hd:∀d,dst=some d->d<512)(hx:x<512)(h:dst≠some x):((kh dst).run I v).get x=I.get x:=by
 cases dst with
 |none=>rfl
 |some d=>
  rw[Ds,Tm.nT _ _ (hd d rfl) hx,if_neg (fun k=>h (by rw[k]))]
theorem Tm.Bf{I:Tm}{v:Value}{d:Nat}(hd:d<512):((kh (some d)).run I v).get d=v:=by
 rw[Ds,Tm.nT _ _ hd hd,if_pos rfl]
theorem Kl(b:qY fl all bm)(closed:∀i,r_ listed i->∀ed∈pk all i,Region.binds .any ed=true->r_ listed ed.on):
 ∀k,k<all.length->(∀ed∈pk all k,Region.binds .any ed=true->r_ listed ed.on)->∀i,has (xY k bm) i=true->r_ listed i:=by
 intro k
 induction k using Nat.strongRecOn with
 |_ k ih=>
  intro hk he i hi
  obtain⟨ed,h1,D,h3⟩:=b.bm k hk i hi
  have hl:=he ed h1 D
  have jA:=b.back k hk ed h1 D
  rcases h3 with rfl|h3
  · exact hl
  · exact ih ed.on jA (by omega) (closed _ hl) i h3
theorem gm.Wn{O:Hp}{G:Nat}(H:gm B0 w0 g O G w)(cells:List Value):gm B0 w0 g (O.set G (some (.cells cells gi.plain))) (G+1) w:=by
 have F:=H.fresh (e9 G)
 have h0:∀b o,O.set G (some (.cells cells gi.plain)) b=some o->b≠G->O b=some o:=fun b o e hb=>by rw[Hp.gN _ _ hb]at e;exact e
 have hblk:∀{b:Nat} {x:Nat×Nat},g.fW b=some x->b≠G:=fun h hb=>by subst hb;rw[F.fW]at h;cases h
 refine⟨H.below,H.base,fun b rb ro e=>⟨by have:=(H.rH b rb ro e).1;omega,(H.rH b rb ro e).2⟩,fun b o e=>?_,fun b ms e=>?_,fun b Z m gr e k=>?_,fun b1 b2 o1 o2 rb r1 r2 jB e1 e2 j u=>?_,H.room⟩
 · by_cases hb:b=G
   · subst hb;exact⟨by omega,fun rb ro k=>by rw[F.fW]at k;cases k⟩
   · obtain⟨p,q⟩:=H.live b o (h0 b o e hb)
     exact⟨by omega,q⟩
 · by_cases hb:b=G
   · subst hb;exact F.fW
   · exact H.ph b ms (h0 b _ e hb)
 · by_cases hb:b=G
   · subst hb;rw[Hp.jH]at e;cases e;cases k
   · obtain⟨ms,a1,a2⟩:=H.mem b Z m gr (h0 b _ e hb) k
     refine⟨ms,?_,a2⟩
     rw[Hp.gN _ _ (by rintro rfl;rw[F.O]at a1;cases a1)]
     exact a1
 · exact H.sep b1 b2 o1 o2 rb r1 r2 jB (h0 b1 o1 e1 (hblk j)) (h0 b2 o2 e2 (hblk u)) j u
theorem uI.ne(uu:uI fl B0 w0 nt mL all L listed s a w g)(ok:D9 ng nt all)(am:qY fl all bm){i:Nat}{o:Oper}(af:nD i all=some o)(hc:kF fl o.op≠2)(ai:has L i=false){s1:St}
 (N:RI (kF fl o.op) o.dst s s1):uI fl B0 w0 nt mL all (put L i) listed s1 a w g:=by
 have hi:=Jo af
 have E:qv fl all i=kF fl o.op:=by simp[qv,af]
 have j:sh all i=o.dst:=by simp[sh,af]
 have ac:¬r_ listed i:=fun h=>by rw[uu.sub i h]at ai;cases ai
 have A:∀k,yK all (put L i) listed k->k=i\/(k≠i/\yK all L listed k):=fun k hk=>by
  by_cases h:k=i
  · exact .inl h
  · obtain⟨h1,D,h3⟩:=hk
    rw[H_ (fun e=>h e.symm)]at D
    exact .inr ⟨h,h1,D,h3⟩
 have al:yK all (put L i) listed i:=⟨hi,EX _ _,ac⟩
 have R:∀k,yK all L listed k->yK all (put L i) listed k:=fun k hk=>⟨hk.1,sJ hk.2.1,hk.2.2⟩
 obtain⟨v,S,b⟩:=N.step
 have y:∀d,o.dst=some d->d<512:=fun d hd=>e4 (ok.dst (j.trans hd)) ok.small
 have J:∀x,x<512->o.dst≠some x->s1.I.get x=s.I.get x:=fun x hx h=>by rw[S];exact Tm.Pb y hx h
 have z:∀k d,k<all.length->k≠i->sh all k=some d->s1.I.get d=s.I.get d:=fun k d hk jB hd=>
  J d (e4 (ok.dst hd) ok.small) (by rw[<-j];exact am.XM k i hk hi jB d hd)
 have ak:s.G<=s1.G:=by rcases b with⟨_,h,_⟩|⟨_,_,h,_⟩<;>omega
 refine⟨fun k hk=>sJ (uu.sub k hk),fun k hk=>?_,uu.closed,?_,by rw[N.ds];exact uu.ds,uu.Ia,fun x hx hk=>?_,e8 uu.low ak,fun k hk F d m hd hm=>?_⟩
 · rcases A k hk with rfl|⟨_,h⟩
   · rw[E];exact hc
   · exact uu.Jn k h
 · rcases b with⟨h1,D,_⟩|⟨_,_,D,cells,h1⟩
   · rw[h1,D];exact uu.heap
   · rw[h1,D,Tr.nT];exact uu.heap.Wn cells
 · have h1:o.dst≠some x:=by rw[<-j];exact hk i al
   rw[J x (Nat.lt_of_lt_of_le hx ok.small) h1]
   exact uu.tmps x hx fun k u=>hk k (R k u)
 · rcases A k hk with rfl|⟨jB,u⟩
   ·
    rw[E]at F
    rw[j]at hd
    have ag:s1.I.get d=v:=by rw[S,hd];exact Tm.Bf (y d hd)
    rw[ag]at hm
    rcases b with⟨_,_,h3⟩|⟨_,h4,D,_⟩
    · rw[h3 F]at hm;cases hm
    · rw[h4]at hm;cases hm
      refine⟨(uu.heap.fresh (e9 _)).fW,uu.low,by omega,fun k' u ab M d' W aa=>?_⟩
      rcases A k' u with rfl|⟨_,K⟩
      · exact M rfl
      · rw[z k' d' K.1 M W]at aa
        have:=(uu.fW k' K ab d' _ W aa).2.2.1
        omega
   · rw[z k d u.1 jB hd]at hm
     obtain⟨an,ao,q3,ap⟩:=uu.fW k u F d m hd hm
     refine⟨an,ao,by omega,fun ah aj C ad d2 B p=>?_⟩
     rcases A ah aj with rfl|⟨ae,X⟩
     · rw[E]at C
       rw[j]at B
       have ag:s1.I.get d2=v:=by rw[S,B];exact Tm.Bf (y d2 B)
       rw[ag]at p
       rcases b with⟨_,_,h3⟩|⟨_,h4,_,_⟩
       · rw[h3 C]at p;cases p
       · rw[h4]at p;cases p;omega
     · rw[z ah d2 X.1 ae B]at p
       exact ap ah X C ad d2 B p
end
end
end Sw
namespace Sw
noncomputable section
open Go Go.RowKit
section
variable {fl:Bool}{B0:Nat}{w0:World}{nt mL ng:Nat}{all:List Oper}{L:Nat}{listed:Array Bool}{s:St}{a:Act}{w:World}{g:Gm}{bm:List Nat}{e:Env}{rec:Rec}{fm:Fm}
theorem CM{i:Nat}{o:Oper}(h:nD i all=some o):qv fl all i=kF fl o.op:=by simp[qv,h]
theorem AR{i:Nat}{o:Oper}(h:nD i all=some o):sh all i=o.dst:=by simp[sh,h]
theorem Mq(ok:D9 ng nt all)(A:qY fl all bm):∀(ne:List Nat) (L b:Nat) (s:St),uI fl B0 w0 nt mL all L listed s a w g->GG fl all ne L=some b->
 (∀i,has L i=true->has b i=true)/\
 ((∀Z k,∃m,yT (ne.map (pN fl all)) e rec fm (s.at Z) k=.gk m)\/
   ∃s1,uI fl B0 w0 nt mL all b listed s1 a w g/\∀Z k,yT (ne.map (pN fl all)) e rec fm (s.at Z) k=k (s1.at Z))
 |[],L,b,s,uu,h=>by
  cases h
  exact⟨fun _ h=>h,.inr ⟨s,uu,fun Z k=>rfl⟩⟩
 |i::ne,L,b,s,uu,h=>by
  simp only[GG]at h
  cases hb:(Nat.blt i all.length&&(!(Nat.beq (qv fl all i) 2)&&!(has L i)))with
  |false=>rw[hb]at h;cases h
  |true=>
   rw[hb]at h
   simp only[cond_true]at h
   simp only[Bool.and_eq_true,Bool.not_eq_true']at hb
   obtain⟨b1,b2,E⟩:=hb
   obtain⟨o,z⟩:=Kk (all:=all) (fa b1)
   have hc:kF fl o.op≠2:=fun k=>by rw[CM z,k,Nat.beq_refl]at b2;cases b2
   have y:pN fl all i=s_ fl all o:=by simp[pN,z]
   have p:∀Z k,yT ((i::ne).map (pN fl all)) e rec fm (s.at Z) k=(s_ fl all o).run e rec fm s.I s.ds s.O s.G Z (fun s=>yT (ne.map (pN fl all)) e rec fm s k):=by
    intro Z k
    simp only[List.map_cons,yT,y];rfl
   rcases Wm all hc e rec fm s with g1|⟨s1,N,g1⟩
   · refine⟨fun k hk=>?_,.inl fun Z k=>by rw[p];exact g1 _ _⟩
     have:∀(ne:List Nat) (L b:Nat),GG fl all ne L=some b->∀i,has L i=true->has b i=true:=by
      intro ne
      induction ne with
      |nil=>intro L b h i hi;cases h;exact hi
      |cons j ne ih=>
       intro L b h i hi
       simp only[GG]at h
       cases hb:(Nat.blt j all.length&&(!(Nat.beq (qv fl all j) 2)&&!(has L j)))with
       |false=>rw[hb]at h;cases h
       |true=>rw[hb]at h;exact ih _ _ h i (sJ hi)
     exact this ne _ _ h k (sJ hk)
   · have B:=uu.ne ok A z hc E N
     obtain⟨F,u⟩:=Mq ok A ne (put L i) b s1 B h
     refine⟨fun k hk=>F k (sJ hk),?_⟩
     rcases u with u|⟨s2,C,u⟩
     · exact .inl fun Z k=>by rw[p,g1];exact u Z k
     · exact .inr ⟨s2,C,fun Z k=>by rw[p,g1];exact u Z k⟩
theorem Ib:∀(qK:List Nat) (s:St),(∀i∈qK,qv fl all i≠2)->
 (∀Z k,∃m,xh (qK.map (vo fl all)) e (s.at Z) k=.gk m)\/
   ((∀Z k,xh (qK.map (vo fl all)) e (s.at Z) k=k)/\∀i∈qK,∀o,nD i all=some o->Good fl all o e.T s.O s.G s.I)
 |[],s,_=>.inr ⟨fun Z k=>rfl,fun i hi=>by cases hi⟩
 |i::qK,s,hc=>by
  have b:∀Z k,xh ((i::qK).map (vo fl all)) e (s.at Z) k=(vo fl all i).run e.T s.O s.G s.I (xh (qK.map (vo fl all)) e (s.at Z) k):=fun Z k=>rfl
  cases p:nD i all with
  |none=>
   have:vo fl all i=⟨fun _ _ _ _ _=>.gk 0⟩:=by simp[vo,p]
   exact .inl fun Z k=>⟨0,by rw[b,this]⟩
  |some o=>
   have:vo fl all i=GW fl all o:=by simp[vo,p]
   have u:=hc i (fh ..)
   rw[CM p]at u
   rcases T5 all o (Pa u) e.T s.O s.G s.I with g1|⟨g1,g2⟩
   · exact .inl fun Z k=>by rw[b,this];exact g1 _
   · rcases Ib qK s (fun k hk=>hc k (List.mem_cons_of_mem _ hk))with y|⟨y,z⟩
     · exact .inl fun Z k=>by rw[b,this,g1];exact y Z k
     · refine .inr ⟨fun Z k=>by rw[b,this,g1];exact y Z k,fun k hk o' j=>?_⟩
       rcases fM.1 hk with rfl|hk
       · rw[p]at j;cases j;exact g2
       · exact z k hk o' j
theorem Gi{i:Nat}:∀{l:List Nat},FI i l=true->i∈l
 |[],h=>by cases h
 |x::l,h=>by
  simp only[FI,Bool.or_eq_true]at h
  rcases h with h|h
  · rw[beq_eq h];exact fh ..
  · exact fw _ (Gi h)
structure G7(fl:Bool)(all:List Oper)(bm:List Nat)(L:Nat)(kQ:Option Nat)(rest:List vX):Prop where
 ready:∀i,i<all.length->has L i=true\/kQ=some i\/sub (maskAt .any all i) L=false
 last:kQ=none->∀i,i<all.length->has L i=true
 next:∀y,kQ=some y->y<all.length/\qv fl all y=2/\has L y=false/\vA fl all bm rest (put L y) (some y)=true
def BN(fl:Bool)(all:List Oper)(e:Env)(rec:Rec)(fm:Fm)(kQ:Option Nat)(rest:List vX)(s:St):R:=match kQ with
 |none=>.ok (0,s)
 |some y=>(pN fl all y).run e rec fm s.I s.ds s.O s.G s.Z (fun st2=>oR (Ah fl all rest) e rec fm st2)
theorem Wo(st:vX)(h:(st.qK.all fun i=>!(Nat.beq (qv fl all i) 2))=true):∀i∈st.qK,qv fl all i≠2:=fun i hi k=>by
 have:=fE.1 h i hi
 rw[k]at this;cases this
theorem Km(ok:D9 ng nt all)(A:qY fl all bm){st:vX}{rest:List vX}{x:Option Nat}(uu:uI fl B0 w0 nt mL all L listed s a w g)(h:vA fl all bm (st::rest) L x=true)
 (hx:∀y,x=some y->y<all.length/\r_ listed y):
 (∀Z,∃m,oR (Ah fl all (st::rest)) e rec fm (s.at Z)=.gk m)\/
 ∃s1 j,uI fl B0 w0 nt mL all j listed s1 a w g/\G7 fl all bm j st.kQ rest/\(∀i,yK all j listed i->∀o,nD i all=some o->Good fl all o e.T s1.O s1.G s1.I)/\
  ∀Z,oR (Ah fl all (st::rest)) e rec fm (s.at Z)=BN fl all e rec fm st.kQ rest (s1.at Z):=by
 simp only[vA]at h
 cases jB:GG fl all st.ne L with
 |none=>rw[jB]at h;cases h
 |some j=>
  rw[jB]at h
  simp only[Bool.and_eq_true]at h
  obtain⟨h0,h1,D,h3⟩:=h
  have z:=Wo st h0
  have b:∀Z,oR (Ah fl all (st::rest)) e rec fm (s.at Z)=yT (st.ne.map (pN fl all)) e rec fm (s.at Z) (fun st1=>xh (st.qK.map (vo fl all)) e st1 (BN fl all e rec fm st.kQ rest st1)):=by
   intro Z
   simp only[Ah,oR]
   congr 1
   funext st1
   congr 1
   cases st.kQ<;>rfl
  obtain⟨_,q⟩:=Mq (e:=e) (rec:=rec) (fm:=fm) ok A st.ne L j s uu jB
  rcases q with q|⟨s1,u,q⟩
  · exact .inl fun Z=>by rw[b];exact q Z _
  · rcases Ib (all:=all) (e:=e) st.qK s1 z with r|⟨r1,r2⟩
    · exact .inl fun Z=>by rw[b,q];exact r Z _
    · refine .inr ⟨s1,j,u,⟨fun i hi=>?_,fun he=>?_,fun y he=>?_⟩,fun i hi o B=>?_,fun Z=>by rw[b,q,r1]⟩
      · have:=rV D hi
        simp only[Bool.or_eq_true,Bool.not_eq_true']at this
        rcases this with k|k|k
        · exact .inl k
        · refine .inr (.inl ?_)
          cases he:st.kQ with
          |none=>rw[he]at k;cases k
          |some y=>rw[he]at k;rw[beq_eq k]
        · exact .inr (.inr k)
      · rw[he]at h3
        simp only at h3
        split at h3
        · exact fun i hi=>rV h3 hi
        · cases h3
      · rw[he]at h3
        simp only[Bool.and_eq_true,Bool.not_eq_true']at h3
        obtain⟨⟨C,E,F⟩,J⟩:=h3
        exact⟨fa C,beq_eq E,F,J⟩
      · have:=rV h1 hi.1
        simp only[Bool.or_eq_true,Bool.not_eq_true',Bool.and_eq_true]at this
        rcases this with(k|k)|k|⟨_,k⟩
        · exact absurd (beq_eq k) (u.Jn i hi)
        · rw[hi.2.1]at k;cases k
        · exact r2 i (Gi k) o B
        · cases p:x with
          |none=>rw[p]at k;cases k
          |some y=>
           rw[p]at k
           obtain⟨K,M⟩:=hx y p
           exact absurd (Kl A uu.closed y K (uu.closed y M) i k) hi.2.2
end
end
end Sw
namespace Sw
noncomputable section
open Go Go.RowKit
section
variable {fl:Bool}{P:Program}{ng rK:Nat}{B0:Nat}{w0:World}{nt mL:Nat}{ops:Array Oper}{L:Nat}{listed:Array Bool}{s:St}{a:Act}{w:World}{g:Gm}{bm:List Nat}{e:Env}{rec:Rec}{b:Frame}{rn:Option Nat}
theorem td{i k:Nat}(hi:i<listed.size):r_ (listed.setIfInBounds i true) k↔k=i\/r_ listed k:=by
 unfold r_
 by_cases h:k=i
 · subst h
   simp[hi]
 · rw[Array.getElem?_setIfInBounds_ne (fun e=>h e.symm)]
   simp[h]
theorem Gj{all:List Oper}(uu:uI fl B0 w0 nt mL all L listed s a w g)(ok:D9 rK nt all)(e:qY fl all bm){i:Nat}{o:Oper}(b:nD i all=some o)
 (hr:∀ed∈pk all i,Region.binds .any ed=true->r_ listed ed.on) {t:Nat} (j:t∈looks all o) (jA:t<nt):fK g (s.I.get t) (a.tmps.getD t undef):=by
 have hi:=Jo b
 refine uu.tmps t jA fun k hk hd=>?_
 have:t∈looksAt all i:=by simp only[looksAt,b];exact j
 rcases e.looks i hi t this k hk.1 hd with h|h
 · exact uu.Jn k hk h
 · exact hk.2.2 (Kl e uu.closed i hi hr k h)
theorem RQ{all:List Oper}(uu:uI fl B0 w0 nt mL all L listed s a w g)(ok:D9 rK nt all)(u:qY fl all bm)(hg:k_ g rK){i:Nat}{o:Oper}(p:nD i all=some o)
 (hr:∀ed∈pk all i,Region.binds .any ed=true->r_ listed ed.on):vt g s.I a.eval o.op.operands.toList:=by
 have b:=fE.1 ok.ops o (Mp p)
 unfold wU at b
 rw[Bool.and_eq_true]at b
 intro x hx
 have m:=fE.1 b.1 x hx
 cases x with
 |tmp t=>
  have jA:t<nt:=fa m
  refine Gj uu ok u p hr (t:=t) ?_ jA
  unfold looks
  refine fI.2 (.inr ?_)
  exact List.mem_filterMap.2 ⟨.tmp t,hx,rfl⟩
 |const v=>exact fK.G1 g 4 v m
 |global j=>exact fK.ptr (off:=0) (hg j (fa m))
 |func f=>exact .func rfl rfl (fun i v v' e=>by simp at e) (fun i v v' e=>by simp at e)
theorem Oq(uu:uI fl B0 w0 nt mL ops.toList L listed s a w g)(ok:D9 rK nt ops.toList)(u:qY fl ops.toList bm){i:Nat}{o:Oper}(m:nD i ops.toList=some o)
 (hr:∀ed∈pk ops.toList i,Region.binds .any ed=true->r_ listed ed.on):Bd g ops s.I a o:=by
 intro j wn e p d hj hd
 have b:sh ops.toList j=some d:=by
  have:nD j ops.toList=some p:=by rw[qj];simpa using hj
  rw[AR this,hd]
 have jA:=ok.dst b
 refine⟨Gj uu ok u m hr (t:=d) ?_ jA,by rw[uu.Ia];exact jA⟩
 unfold looks
 rw[e]
 simp only[b]
 exact fI.2 (.inl (List.mem_singleton.2 rfl))
theorem uI.T7{all:List Oper}(uu:uI fl B0 w0 nt mL all L listed s a w g)(ok:D9 rK nt all)(aa:qY fl all bm){i:Nat}{o:Oper}(B:nD i all=some o)(O:yK all L listed i)(e:i<listed.size)
 (hr:∀ed∈pk all i,Region.binds .any ed=true->r_ listed ed.on) {v':Value} {w':World} {g':Gm} (H:gm B0 w0 g' s.O.get s.G w') (S:∀d,o.dst=some d->fK g' (s.I.get d) v') (E:lI g mL w g' s.G w')
 (A:∀m,g'.fW m≠none->g.fW m≠none\/(kF fl o.op=1/\∃d,o.dst=some d/\wL (s.I.get d)=some m)):
 uI fl B0 w0 nt mL all L (listed.setIfInBounds i true) s (a.put o.dst v') w' g':=by
 have j:∀k,yK all L (listed.setIfInBounds i true) k->k≠i/\yK all L listed k:=fun k hk=>by
  have h3:=hk.2.2
  rw[td e]at h3
  exact⟨fun h=>h3 (.inl h),hk.1,hk.2.1,fun h=>h3 (.inr h)⟩
 refine⟨fun k hk=>?_,fun k hk=>uu.Jn k (j k hk).2,fun k hk ed he hb=>?_,H,by rw[put_defers];exact uu.ds.mono E.ext.le,?_,fun x hx hk=>?_,uu.low,fun k hk C d m hd hm=>?_⟩
 · rcases(td e).1 hk with rfl|hk
   · exact O.2.1
   · exact uu.sub k hk
 · rw[td e]
   rcases(td e).1 hk with rfl|hk
   · exact .inr (hr ed he hb)
   · exact .inr (uu.closed k hk ed he hb)
 · cases hd:o.dst with
   |none=>simp only[Act.put];exact uu.Ia
   |some d=>simp only[Act.put,Array.size_setIfInBounds];exact uu.Ia
 · by_cases p:o.dst=some x
   · have h1:=S x p
     have:(a.put o.dst v').tmps.getD x undef=v':=by
      have:x<a.tmps.size:=by rw[uu.Ia];exact hx
      rw[p]
      simp[Act.put,Array.getD,this]
     rw[this];exact h1
   · have:(a.put o.dst v').tmps.getD x undef=a.tmps.getD x undef:=by
      cases hd:o.dst with
      |none=>rfl
      |some d=>
       have jB:d≠x:=fun h=>p (by rw[hd,h])
       simp only[Act.put,Array.getD_eq_getD_getElem?]
       rw[Array.getElem?_setIfInBounds_ne jB]
     rw[this]
     refine(uu.tmps x hx fun k b hd=>?_).mono E.ext.le
     by_cases u:k=i
     · subst u;rw[AR B]at hd;exact p hd
     · refine hk k ⟨b.1,b.2.1,fun h=>?_⟩ hd
       rcases(td e).1 h with h|h
       · exact u h
       · exact b.2.2 h
 · obtain⟨jB,b⟩:=j k hk
   obtain⟨W,X,q3,R⟩:=uu.fW k b C d m hd hm
   refine⟨?_,X,q3,fun N K y z d2 J=>R N (j N K).2 y z d2 J⟩
   cases hg:g'.fW m with
   |none=>rfl
   |some x=>
    rcases A m (by rw[hg];simp)with h|⟨hc,d',F,M⟩
    · exact absurd W h
    · exact absurd M (R i O (by rw[CM B];exact hc) (fun h=>jB h.symm) d' (by rw[AR B];exact F))
theorem uI.Wp{all:List Oper}(uu:uI fl B0 w0 nt mL all L listed s a w g)(ok:D9 rK nt all)(ae:qY fl all bm){i:Nat}{o:Oper}(S:nD i all=some o)(X:has L i=false)(p:i<listed.size)
 (hr:∀ed∈pk all i,Region.binds .any ed=true->r_ listed ed.on) {v v':Value} {F j:List Deferred} {eZ:Ht} {e5:Nat} {w':World} {g':Gm} (H:gm B0 w0 g' eZ.get e5 w') (ad:fK g' v v') (hd:ny g' F j) (E:lI g s.G w g' e5 w'):
 uI fl B0 w0 nt mL all (put L i) (listed.setIfInBounds i true) ⟨(kh o.dst).run s.I v,F,eZ,e5,[]⟩ ({a with defers:=j}.put o.dst v') w' g':=by
 have y:∀k,yK all (put L i) (listed.setIfInBounds i true) k->k≠i/\yK all L listed k:=fun k hk=>by
  have h3:=hk.2.2
  rw[td p]at h3
  have jB:k≠i:=fun h=>h3 (.inl h)
  exact⟨jB,hk.1,by have:=hk.2.1;rwa[H_ (fun e=>jB e.symm)]at this,fun h=>h3 (.inr h)⟩
 have hi:=Jo S
 have z:∀d,o.dst=some d->d<512:=fun d hd=>e4 (ok.dst ((AR S).trans hd)) ok.small
 have C:∀x,x<512->o.dst≠some x->((kh o.dst).run s.I v).get x=s.I.get x:=fun x hx h=>Tm.Pb z hx h
 have A:∀k d,k<all.length->k≠i->sh all k=some d->((kh o.dst).run s.I v).get d=s.I.get d:=fun k d hk jB hd=>
  C d (e4 (ok.dst hd) ok.small) (by rw[<-AR S];exact ae.XM k i hk hi jB d hd)
 refine⟨fun k hk=>?_,fun k hk=>uu.Jn k (y k hk).2,fun k hk ed he hb=>?_,H,by rw[put_defers];exact hd,?_,fun x hx hk=>?_,e8 uu.low E.ext.num,fun k hk aa d m hd hm=>?_⟩
 · rcases(td p).1 hk with rfl|hk
   · exact EX _ _
   · exact sJ (uu.sub k hk)
 · rw[td p]
   rcases(td p).1 hk with rfl|hk
   · exact .inr (hr ed he hb)
   · exact .inr (uu.closed k hk ed he hb)
 · cases hd:o.dst with
   |none=>simp only[Act.put];exact uu.Ia
   |some d=>simp only[Act.put,Array.size_setIfInBounds];exact uu.Ia
 · by_cases u:o.dst=some x
   · have h0:((kh o.dst).run s.I v).get x=v:=by rw[u];exact Tm.Bf (z x u)
     have h1:({a with defers:=j}.put o.dst v').tmps.getD x undef=v':=by
      have:x<a.tmps.size:=by rw[uu.Ia];exact hx
      rw[u]
      simp[Act.put,Array.getD,this]
     show fK g' (((kh o.dst).run s.I v).get x) _
     rw[h0,h1];exact ad
   · have h1:({a with defers:=j}.put o.dst v').tmps.getD x undef=a.tmps.getD x undef:=by
      cases hd:o.dst with
      |none=>rfl
      |some d=>
       have jB:d≠x:=fun h=>u (by rw[hd,h])
       simp only[Act.put,Array.getD_eq_getD_getElem?]
       rw[Array.getElem?_setIfInBounds_ne jB]
     show fK g' (((kh o.dst).run s.I v).get x) _
     rw[C x (Nat.lt_of_lt_of_le hx ok.small) u,h1]
     refine(uu.tmps x hx fun k b hd=>?_).mono E.ext.le
     have ac:k≠i:=fun h=>by subst h;rw[b.2.1]at X;cases X
     refine hk k ⟨b.1,sJ b.2.1,fun h=>?_⟩ hd
     rcases(td p).1 h with h|h
     · exact ac h
     · exact b.2.2 h
 · obtain⟨jB,b⟩:=y k hk
   have hm:wL (((kh o.dst).run s.I v).get d)=some m:=hm
   rw[A k d b.1 jB hd]at hm
   obtain⟨af,ag,q3,ah⟩:=uu.fW k b aa d m hd hm
   refine⟨?_,ag,e4 q3 E.ext.num,fun W ab M N d2 J B=>?_⟩
   · cases hg:g'.fW m with
     |none=>rfl
     |some x=>
      rcases E.ext.new m (by rw[hg];simp)with h|h
      · exact absurd af h
      · omega
   · obtain⟨R,K⟩:=y W ab
     have B:wL (((kh o.dst).run s.I v).get d2)=some m:=B
     rw[A W d2 K.1 R J]at B
     exact ah W K M N d2 J B
end
end
end Sw
namespace Sw
noncomputable section
open Go Go.RowKit
theorem count_set:∀(l:List Bool) (i:Nat),l[i]?=some false->(l.set i true).count false+1=l.count false
 |[],i,h=>by simp at h
 |x::l,0,h=>by
  simp at h
  subst h
  simp
 |x::l,i+1,h=>by
  simp at h
  have:=count_set l i h
  cases x<;>simp[List.count_cons]<;>omega
section
variable {fl:Bool}{P:Program}{ng rK:Nat}{B0:Nat}{w0:World}{nt mL:Nat}{ops:Array Oper}{L:Nat}{listed:Array Bool}{s:St}{a:Act}{w:World}{g:Gm}{bm:List Nat}{e:Env}{rec:Rec}{b:Frame}{rn:Option Nat}{md:Region.Mode}{ks:List Item}{fs:List Frame}
theorem Kn(j:listed.size=ops.toList.length){i:Nat}:i∈Region.ready md ops listed↔i<ops.toList.length/\¬r_ listed i/\∀ed∈pk ops.toList i,Region.binds md ed=true->r_ listed ed.on:=by
 unfold Region.ready
 rw[List.mem_filter,List.mem_range]
 have hn:ops.toList.length=ops.size:=by simp
 rw[hn]
 by_cases hi:i<ops.size
 · have h1:nD i ops.toList=some ops[i]:=by rw[qj];simp[hi]
   have D:pk ops.toList i=ops[i].after.toList:=by simp[pk,h1]
   have h3:i<listed.size:=by omega
   rw[D]
   simp only[hi,true_and]
   have e1:listed.getD i true=listed[i]:=by simp[Array.getD,h3]
   have e2:r_ listed i↔listed[i]=true:=by unfold r_;rw[Array.getElem?_eq_getElem h3];simp
   have e3:∀k,listed.getD k false=true↔r_ listed k:=fun k=>by
    unfold r_
    by_cases hk:k<listed.size
    · simp[Array.getD,hk]
    · simp[Array.getD,hk]
   rw[e1,e2]
   simp only[hi,Array.getElem?_eq_getElem,Option.map_some,Option.getD_some,Bool.and_eq_true,Bool.not_eq_true',<-Array.all_toList,List.all_eq_true,Bool.or_eq_true,e3]
   constructor
   · rintro ⟨b,e⟩
     refine⟨by simpa using b,fun ed he hb=>?_⟩
     rcases e ed he with h|h
     · rw[hb]at h;cases h
     · exact h
   · rintro ⟨b,e⟩
     refine⟨by simpa using b,fun ed he=>?_⟩
     cases hb:Region.binds md ed with
     |false=>exact .inl rfl
     |true=>exact .inr (e ed he hb)
 · simp[hi]
theorem Ic(uu:uI fl B0 w0 nt mL ops.toList L listed s a w g){kQ:Option Nat}{rest:List vX}(m:G7 fl ops.toList bm L kQ rest)(j:∀i,i<ops.toList.length->r_ listed i)(fm:Fm):
 wq P B0 w0 b nt g mL ops [] a w ks fs fun Z=>BN fl ops.toList e rec fm kQ rest (s.at Z):=by
 cases kQ with
 |some y=>
  obtain⟨h1,_,h3,_⟩:=m.next y rfl
  rw[uu.sub y (j y h1)]at h3
  cases h3
 |none=>
  refine .here (.inr ⟨s,fun Z=>rfl,a,w,g,⟨uu.heap,⟨uu.Ia,fun x hx=>uu.tmps x hx fun i hi _=>hi.2.2 (j i hi.1)⟩,uu.ds⟩,lI.low (lI.refl _ _ _) uu.low,.refl ..⟩)
theorem wq.pre{l:List Nat}{i:Nat}{a':Act}{w':World}{g':Gm}{r:List Nat->R}(h:wq P B0 w0 b nt g' mL ops l a' w' ks fs r)(hE:∀e5,mL<=e5->lI g mL w g' e5 w')
 (st:Steps P (lone (At b a (.inRegion ops (i::l)::ks)) fs w) (lone (At b a' (.inRegion ops l::ks)) fs w')):wq P B0 w0 b nt g mL ops (i::l) a w ks fs r:=by
 refine h.mono fun f' h=>?_
 rcases h with h|⟨m,h,a2,o,g2,j,e,st2⟩
 · exact .inl h
 · exact .inr ⟨m,h,a2,o,g2,j,(hE mL (e9 _)).RM e,st.trans st2⟩
theorem lI.XN{b n2:Nat}{w':World}{g':Gm}(h:lI g mL w g' b w')(k:mL<=n2):lI g mL w g' n2 w':=⟨⟨h.ext.le,k,h.ext.new⟩,h.kept,h.held⟩
theorem Qo(ok:mP P ng e)(mX:r9 P ng B0 w0 e)(ih:oM P ng B0 w0 rec)(C:D9 rK nt ops.toList)(ae:qY fl ops.toList bm)(f:FuncId){is:List Nat}(aE:uP md ops.toList is 0=true):
 ∀(j t:Nat) (listed:Array Bool) (L:Nat) (s:St) (a:Act) (w:World) (g:Gm) (kQ:Option Nat) (rest:List vX),
  uI fl B0 w0 nt mL ops.toList L listed s a w g->(∀i,yK ops.toList L listed i->∀o,nD i ops.toList=some o->Good fl ops.toList o e.T s.O s.G s.I)->G7 fl ops.toList bm L kQ rest->
  listed.size=ops.toList.length->listed.toList.count false<=j->xj g b rn->k_ g ng->k_ g rK->
  wq P B0 w0 b nt g mL ops (Region.linearise.go md ops j t listed []) a w ks fs fun Z=>BN fl ops.toList e rec ⟨f,nt,rn⟩ kQ rest (s.at Z):=by
 intro j
 induction j with
 |zero=>
  intro t listed L s a w g kQ rest uu oI S F ac N hg K
  have J:∀i,i<ops.toList.length->r_ listed i:=by
   intro i hi
   have ar:i<listed.size:=by omega
   cases hb:listed[i]with
   |true=>unfold r_;rw[Array.getElem?_eq_getElem ar,hb]
   |false=>
    exfalso
    have:false∈listed.toList:=by rw[<-hb];simp
    have:=List.count_pos_iff.2 this
    omega
  simp only[Region.linearise.go]
  exact Ic uu S J _
 |succ j aj=>
  intro t listed L s a w g kQ rest uu oI S F ac N hg K
  simp only[Region.linearise.go]
  change wq P B0 w0 b nt g mL ops (match (Region.ready md ops listed)[t%(Region.ready md ops listed).length]? with
   |some i=>Region.linearise.go md ops j (t/(Region.ready md ops listed).length) (listed.setIfInBounds i true) [i]
   |none=>[].reverse) a w ks fs _
  cases ad:(Region.ready md ops listed)[t%(Region.ready md ops listed).length]? with
  |none=>
   have al:Region.ready md ops listed=[]:=by
    cases hr:Region.ready md ops listed with
    |nil=>rfl
    |cons x xs=>
     rw[hr]at ad
     have jA:t%(x::xs).length<(x::xs).length:=Nat.mod_lt _ (by simp)
     simp at ad
     simp at jA
     omega
   have J:∀i,i<ops.toList.length->r_ listed i:=by
    rcases Qn (Mi:=r_ listed) is 0 aE (fun i h=>by rw[Be]at h;cases h)with h|⟨i,h1,D,h3⟩
    · exact h
    · have:=(Kn F).2 ⟨h1,D,h3⟩
      rw[al]at this;cases this
   exact Ic uu S J _
  |some i=>
   simp only[]
   rw[linearise_go_acc,List.reverse_singleton,List.singleton_append]
   obtain⟨hi,E,p⟩:=(Kn F).1 (cs ad)
   have p:∀ed∈pk ops.toList i,Region.binds .any ed=true->r_ listed ed.on:=fun ed he hb=>p ed he (Kj hb)
   obtain⟨o,u⟩:=Kk (all:=ops.toList) hi
   have M:ops[i]?=some o:=by rw[qj]at u;simpa using u
   have A:i<listed.size:=by omega
   have B:(listed.setIfInBounds i true).toList.count false<=j:=by
    have hf:listed.toList[i]?=some false:=by
     rw[Array.getElem?_toList]
     unfold r_ at E
     rw[Array.getElem?_eq_getElem A]at E⊢
     cases hb:listed[i]with
     |false=>rfl
     |true=>rw[hb]at E;exact absurd rfl E
    have:=count_set _ i hf
    rw[Array.toList_setIfInBounds]
    omega
   have au:=RQ uu C ae K u p
   have ap:=Oq uu C ae u p
   rcases S.ready i hi with aa|aa|aa
   ·
    have O:yK ops.toList L listed i:=⟨hi,aa,E⟩
    have aI:=uu.Jn i O
    obtain⟨v',w',g',aA,aF,W,ak,st⟩:=RN (b:=b) (mL:=mL) ok uu.heap M au ap uu.low (oI i O o u) (fun hc d m hd hm=>by
     obtain⟨aG,aH,q3,_⟩:=uu.fW i O (by rw[CM u];exact hc) d m (by rw[AR u];exact hd) hm
     exact⟨aG,aH,q3⟩)
    have aw:=uu.T7 C ae u O A p aA aF W ak
    refine wq.pre (aj _ _ L s _ w' g' kQ rest aw (fun k hk o' M=>oI k ⟨hk.1,hk.2.1,fun h=>hk.2.2 ((td A).2 (.inr h))⟩ o' M) S (by simpa using F) B (N.mono W.ext.le) (hg.mono W.ext.le) (K.mono W.ext.le)) (fun e5 h=>W.XN h) (st _ ks fs)
   ·
    subst aa
    obtain⟨_,ab,aq,ai⟩:=S.next i rfl
    have ag:pN fl ops.toList i=iJ ops.toList o:=by
     rw[CM u]at ab
     simp only[pN,u,s_,(Qi ab).2];rfl
    have z:(fun Z=>BN fl ops.toList e rec ⟨f,nt,rn⟩ (some i) rest (s.at Z))=fun Z=>(iJ ops.toList o).run e rec ⟨f,nt,rn⟩ s.I s.ds s.O s.G Z (fun st2=>oR (Ah fl ops.toList rest) e rec ⟨f,nt,rn⟩ st2):=by
     funext Z;simp only[BN,ag];rfl
    rw[z]
    have ye:=Gg (I:=s.I) (i:=i) (ops:=ops) (rn:=rn) (rest:=Region.linearise.go md ops j (t/(Region.ready md ops listed).length) (listed.setIfInBounds i true) []) (ks:=ks) (fs:=fs) (R:=⟨ok,mX,ih,uu.heap,hg,uu.ds,N⟩) M au ap f nt
    refine(ye _).bind fun f' h=>?_
    rcases h with h|⟨v,ah,eZ,e5,h,v',aD,w1,g1,H1,aC,ax,X,st1⟩
    · exact .dead h
    · have ay:=uu.Wp C ae u aq A p H1 aC ax X
      have z:f'=fun Z=>oR (Ah fl ops.toList rest) e rec ⟨f,nt,rn⟩ ((⟨(kh o.dst).run s.I v,ah,eZ,e5,[]⟩:St).at Z):=funext h
      rw[z]
      cases rest with
      |nil=>simp[vA]at ai
      |cons am rest=>
       rcases Km (e:=e) (rec:=rec) (fm:=⟨f,nt,rn⟩) C ae ay ai (fun y hy=>by cases hy;exact⟨hi,(td A).2 (.inl rfl)⟩)with q|⟨av,aB,az,ao,af,q⟩
       · exact .dead fun Z=>q Z
       · have z:(fun Z=>oR (Ah fl ops.toList (am::rest)) e rec ⟨f,nt,rn⟩ ((⟨(kh o.dst).run s.I v,ah,eZ,e5,[]⟩:St).at Z))=fun Z=>BN fl ops.toList e rec ⟨f,nt,rn⟩ am.kQ rest (av.at Z):=funext q
         rw[z]
         have an:=(X.low uu.low)
         exact wq.pre (aj _ _ aB av _ w1 g1 am.kQ rest az af ao (by simpa using F) B (N.mono X.ext.le) (hg.mono X.ext.le) (K.mono X.ext.le)) (fun e5 h=>an.XN h) st1
   · exfalso
     have:sub (maskAt .any ops.toList i) L=true:=RO fun x hx=>by
      obtain⟨ed,h1,D,rfl⟩:=yh.1 hx
      exact uu.sub _ (p ed h1 D)
     rw[aa]at this;cases this
end
end
end Sw
namespace Sw
noncomputable section
open Go Go.RowKit
section
variable {fl:Bool}{P:Program}{ng rK:Nat}{B0:Nat}{w0:World}{nt:Nat}{ops:Array Oper}{s:St}{a:Act}{w:World}{g:Gm}{e:Env}{rec:Rec}{b:Frame}{rn:Option Nat}{ks:List Item}{fs:List Frame}
theorem Ie{all:List Oper}:∀(is:List Nat) (L:Nat),uP .text all is L=true->uP .any all is L=true
 |[],L,h=>h
 |i::is,L,h=>by
  simp only[uP,Bool.and_eq_true]at h⊢
  refine⟨h.1,RO fun x hx=>?_,Ie is _ h.2.2⟩
  obtain⟨ed,h1,D,rfl⟩:=yh.1 hx
  exact FP h.2.1 (yh.2 ⟨ed,h1,Kj D,rfl⟩)
theorem Jp{id:Nat}{k:List Item}{Z:List Frame}:
 step P (lone (At b a (.code (.region id ops true)::k)) Z w)=
  .next (lone (At b a (.inRegion ops (Region.schedule (P.follows .mixedOrders) ops (w.tape w.drawn (.order b.fn id)))::k)) Z {w with drawn:=w.drawn+1}):=
 step_lone_go (by simp[stepG,stepG.exec,At,choose,Sem.run,Question.forced,Question.cut])
theorem KZ(mixed:Bool)(t:Nat):∃md b,Region.schedule mixed ops t=Region.linearise md ops b/\(md=.any\/md=.text\/md=.gc):=by
 unfold Region.schedule
 split
 · exact⟨_,_,rfl,.inl rfl⟩
 · split
   · exact⟨_,_,rfl,.inr (.inl rfl)⟩
   · exact⟨_,_,rfl,.inr (.inr rfl)⟩
theorem Ot(ok:mP P ng e)(mX:r9 P ng B0 w0 e)(ih:oM P ng B0 w0 rec)(hn:nt<=512)(M:ops.toList.all (wU rK nt)=true)(m:HI ops.toList=true)(f:FuncId)(id:Nat)(S:vE B0 w0 g nt s a w)(hg:k_ g ng)(J:k_ g rK)(N:xj g b rn):
 vh P B0 w0 b nt g s.G (.region id ops true) a w ks fs fun Z=>oR (Ah (vY ops.toList) ops.toList (xZ (vY ops.toList) ops.toList).r6) e rec ⟨f,nt,rn⟩ (s.at Z):=by
 unfold HI at m
 generalize vY ops.toList=fl at m⊢
 obtain⟨R,t1,t2,t3⟩:=RP m
 have p:D9 rK nt ops.toList:=⟨hn,M⟩
 obtain⟨md,ad,C,L⟩:=KZ (ops:=ops) (P.follows .mixedOrders) (w.tape w.drawn (.order b.fn id))
 have j:∃is,uP md ops.toList is 0=true:=by
  rcases L with rfl|rfl|rfl
  · exact⟨_,Ie _ _ t1⟩
  · exact⟨_,t1⟩
  · exact⟨_,t2⟩
 obtain⟨is,j⟩:=j
 let w1:World:={w with drawn:=w.drawn+1}
 have H1:gm B0 w0 g s.O.get s.G w1:=S.heap.of_heap rfl rfl rfl rfl
 have aa:lI g s.G w g s.G w1:=⟨yd.refl _ _,⟨e9 _,fun _ _ _=>rfl⟩,pD.refl _ _⟩
 let listed:Array Bool:=Array.replicate ops.size false
 have K:listed.size=ops.toList.length:=by simp[listed]
 have u:∀i,¬r_ listed i:=fun i h=>by
  unfold r_ at h
  simp only[listed,Array.getElem?_replicate]at h
  split at h<;>cases h
 have z:∀i,¬yK ops.toList 0 listed i:=fun i h=>by have:=h.2.1;rw[Be]at this;cases this
 have uu:uI fl B0 w0 nt s.G ops.toList 0 listed s a w1 g:=
  ⟨fun i h=>absurd h (u i),fun i h=>absurd h (z i),fun i h=>absurd h (u i),H1,S.act.2,S.act.1.1,fun x hx _=>S.act.1.2 x hx,e9 _,fun i h=>absurd h (z i)⟩
 cases A:(xZ fl ops.toList).r6 with
 |nil=>rw[A]at t3;simp[vA]at t3
 |cons E rest=>
  rw[A]at t3
  rcases Km (e:=e) (rec:=rec) (fm:=⟨f,nt,rn⟩) p R uu t3 (fun y hy=>by cases hy)with q|⟨s1,ab,W,F,o,q⟩
  · exact .dead fun Z=>q Z
  · have B:(fun Z=>oR (Ah fl ops.toList (E::rest)) e rec ⟨f,nt,rn⟩ (s.at Z))=fun Z=>BN fl ops.toList e rec ⟨f,nt,rn⟩ E.kQ rest (s1.at Z):=funext q
    rw[B]
    have main:=Qo (b:=b) (rn:=rn) (ks:=ks) (fs:=fs) (mL:=s.G) ok mX ih p R f j ops.size ad listed ab s1 a w1 g E.kQ rest W o F K (by simp[listed]) N hg J
    refine main.mono fun f' h=>?_
    rcases h with h|⟨ac,h,a',w',g',S',X,st⟩
    · exact .inl h
    · refine .inr ⟨0,ac,h,a',w',g',S',aa.RM X,ks,rfl,?_⟩
      have s1:=Steps.one (Jp (P:=P) (b:=b) (a:=a) (w:=w) (k:=ks) (Z:=fs) (id:=id) (ops:=ops))
      rw[C]at s1
      exact(s1.trans st).trans (.one yc)
end
end
end Sw
namespace Sw
noncomputable section
open Go Go.RowKit
section
variable {P:Program}{ng:Nat}{B0:Nat}{w0:World}{e:Env}
theorem vh.dead{b:Frame}{nt:Nat}{g:Gm}{G:Nat}{c:Code}{a:Act}{w:World}{ks:List Item}{fs:List Frame}{r:List Nat->R}(h:∀Z,∃m,r Z=.gk m):vh P B0 w0 b nt g G c a w ks fs r:=lV.dead h
theorem vh.part{b:Frame}{nt:Nat}{g:Gm}{G:Nat}{c c1:Code}{a:Act}{w:World}{j ks:List Item}{fs:List Frame}{r r2:List Nat->R}(h:vh P B0 w0 b nt g G c1 a w j fs r)(hn:∀p m,r p=.gk m->r2 p=.gk m)
 (k:∀pre o e,(∀Z,r (pre++Z)=.ok (o,e.at Z))->jE P B0 w0 b nt g G c1 a w o e j fs->vh P B0 w0 b nt g G c a w ks fs fun rest=>r2 (pre++rest)):vh P B0 w0 b nt g G c a w ks fs r2:=by
 refine lV.map h hn fun pre h=>?_
 rcases h with h|⟨o,e,h,L⟩
 · exact .dead fun Z=>by obtain⟨m,h⟩:=h Z;exact⟨m,hn _ _ h⟩
 · exact k pre o e h L
theorem r7.seq{g:Gm}{nt:Nat}{a b:Code}(h:r7 g nt (.seq a b)):r7 g nt a/\r7 g nt b:=by
 obtain⟨ng,h1,D⟩:=h
 simp only[codeOk,Bool.and_eq_true]at D
 exact⟨⟨ng,h1,D.1⟩,⟨ng,h1,D.2⟩⟩
theorem Wq(ok:mP P ng e)(mX:r9 P ng B0 w0 e){rec:Rec}(ih:oM P ng B0 w0 rec):oM P ng B0 w0 (fun fm c s=>vp c e rec fm s):=by
 intro fm c s b a w g M z hg y A S ks fs
 obtain⟨fn,nt,rn⟩:=fm
 simp only at M z y A⊢
 have S:vE B0 w0 g nt s a w:=S
 subst M
 cases c with
 |skip=>exact .here (.inr ⟨0,s,fun Z=>rfl,jE.skip S⟩)
 |label l=>exact .here (.inr ⟨0,s,fun Z=>rfl,jE.label S⟩)
 |exit i=>exact .here (.inr ⟨i+2,s,fun Z=>rfl,jE.exit S⟩)
 |ret=>exact .here (.inr ⟨1,s,fun Z=>rfl,jE.ret S⟩)
 |seq c1 c2=>
  obtain⟨E,ad⟩:=A.seq
  have u:=ih ⟨b.fn,nt,rn⟩ c1 s b a w g rfl z hg y E S (.code c2::ks) fs
  have j:∀Z,vp (.seq c1 c2) e rec ⟨b.fn,nt,rn⟩ (s.at Z)=(match rec ⟨b.fn,nt,rn⟩ c1 (s.at Z)with
   |.ok (o,s1)=>(match o with
    |0=>rec ⟨b.fn,nt,rn⟩ c2 s1
    |o+1=>.ok (o+1,s1))
   |.gk m=>.gk m):=fun Z=>rfl
  refine vh.part (r2:=fun Z=>vp (.seq c1 c2) e rec ⟨b.fn,nt,rn⟩ (s.at Z)) u (fun p m h=>by simp only[j,h]) fun pre o s1 h L=>?_
  cases o with
  |succ o=>exact .here (.inr ⟨o+1,s1,fun Z=>by simp only[j,h],jE.GY L⟩)
  |zero=>
   obtain⟨a1,w1,g1,R,B,J,F,t1⟩:=L
   have C:=ih ⟨b.fn,nt,rn⟩ c2 s1 b a1 w1 g1 rfl (z.mono B.ext.le) (hg.mono B.ext.le) y (ad.mono B.ext.le) R ks fs
   have D:(fun rest=>vp (.seq c1 c2) e rec ⟨b.fn,nt,rn⟩ (s.at (pre++rest)))=fun Z=>rec ⟨b.fn,nt,rn⟩ c2 (s1.at Z):=by funext Z;rw[j,h]
   rw[D]
   refine lV.mono C fun f' h=>?_
   rcases h with h|⟨o,s2,h,a2,ae,g2,ac,aa,K,W,t2⟩
   · exact .inl h
   · have F:J=.code c2::ks:=F
     subst F
     exact .inr ⟨o,s2,h,a2,ae,g2,ac,B.trans aa,K,W,((Steps.one HV).trans t1).trans t2⟩
 |cond x c1 c2=>
  obtain⟨rK,h1,D⟩:=A
  simp only[codeOk,Bool.and_eq_true]at D
  have X:=G2 S.act.1 h1 D.1
  have j:∀Z,vp (.cond x c1 c2) e rec ⟨b.fn,nt,rn⟩ (s.at Z)=(match (fV x).run s.I with
   |.bool c=>(match c with
    |true=>rec ⟨b.fn,nt,rn⟩ c1 (s.at Z)
    |false=>rec ⟨b.fn,nt,rn⟩ c2 (s.at Z))
   |_=>.gk 0):=fun Z=>rfl
  generalize hx:(fV x).run s.I=v at X j
  cases v<;>first|(refine vh.dead ?_;intro Z;refine⟨0,?_⟩;rw[j];done)|skip
  rename_i t
  have N:a.eval x=.bool t:=X.rR
  cases t with
  |true=>
   have ye:=ih ⟨b.fn,nt,rn⟩ c1 s b a w g rfl z hg y ⟨rK,h1,D.2.1⟩ S ks fs
   have h3:(fun Z=>vp (.cond x c1 c2) e rec ⟨b.fn,nt,rn⟩ (s.at Z))=fun Z=>rec ⟨b.fn,nt,rn⟩ c1 (s.at Z):=by funext Z;rw[j]
   rw[h3]
   exact lV.mono ye fun f' h=>h.imp id fun⟨o,s2,h,L⟩=>⟨o,s2,h,jE.cond (t:=true) N L⟩
  |false=>
   have ye:=ih ⟨b.fn,nt,rn⟩ c2 s b a w g rfl z hg y ⟨rK,h1,D.2.2⟩ S ks fs
   have h3:(fun Z=>vp (.cond x c1 c2) e rec ⟨b.fn,nt,rn⟩ (s.at Z))=fun Z=>rec ⟨b.fn,nt,rn⟩ c2 (s.at Z):=by funext Z;rw[j]
   rw[h3]
   exact lV.mono ye fun f' h=>h.imp id fun⟨o,s2,h,L⟩=>⟨o,s2,h,jE.cond (t:=false) N L⟩
 |block id c1=>
  have E:r7 g nt c1:=by obtain⟨rK,h1,D⟩:=A;exact⟨rK,h1,D⟩
  have u:=ih ⟨b.fn,nt,rn⟩ c1 s b a w g rfl z hg y E S (.inBlock id::ks) fs
  have j:∀Z,vp (.block id c1) e rec ⟨b.fn,nt,rn⟩ (s.at Z)=(match rec ⟨b.fn,nt,rn⟩ c1 (s.at Z)with
   |.ok (o,s1)=>bif Nat.beq o (id+2)then .ok (0,s1)else .ok (o,s1)
   |.gk m=>.gk m):=fun Z=>rfl
  refine vh.part (r2:=fun Z=>vp (.block id c1) e rec ⟨b.fn,nt,rn⟩ (s.at Z)) u (fun p m h=>by simp only[j,h]) fun pre o s1 h L=>?_
  cases hb:Nat.beq o (id+2)with
  |true=>
   have:=beq_eq hb
   subst this
   exact .here (.inr ⟨0,s1,fun Z=>by simp only[j,h,hb,cond_true],jE.EO L⟩)
  |false=>
   have jB:o≠id+2:=fun h=>by rw[h,Nat.beq_refl]at hb;cases hb
   refine .here (.inr ⟨o,s1,fun Z=>by simp only[j,h,hb,cond_false],?_⟩)
   cases o with
   |zero=>exact jE.TW L
   |succ o=>exact jE.P7 L jB
 |loop c1=>
  have E:r7 g nt c1:=by obtain⟨rK,h1,D⟩:=A;exact⟨rK,h1,D⟩
  have u:=ih ⟨b.fn,nt,rn⟩ c1 s b a w g rfl z hg y E S (.inLoop c1::ks) fs
  have j:∀Z,vp (.loop c1) e rec ⟨b.fn,nt,rn⟩ (s.at Z)=(match rec ⟨b.fn,nt,rn⟩ c1 (s.at Z)with
   |.ok (o,s1)=>(match o with
    |0=>rec ⟨b.fn,nt,rn⟩ (.loop c1) s1
    |o+1=>.ok (o+1,s1))
   |.gk m=>.gk m):=fun Z=>rfl
  refine vh.part (r2:=fun Z=>vp (.loop c1) e rec ⟨b.fn,nt,rn⟩ (s.at Z)) u (fun p m h=>by simp only[j,h]) fun pre o s1 h L=>?_
  cases o with
  |succ o=>exact .here (.inr ⟨o+1,s1,fun Z=>by simp only[j,h],jE.EN L⟩)
  |zero=>
   have L':=L
   obtain⟨a1,w1,g1,R,B,st1⟩:=L'
   have C:=ih ⟨b.fn,nt,rn⟩ (.loop c1) s1 b a1 w1 g1 rfl (z.mono B.ext.le) (hg.mono B.ext.le) y (A.mono B.ext.le) R ks fs
   have D:(fun rest=>vp (.loop c1) e rec ⟨b.fn,nt,rn⟩ (s.at (pre++rest)))=fun Z=>rec ⟨b.fn,nt,rn⟩ (.loop c1) (s1.at Z):=by funext Z;rw[j,h]
   rw[D]
   refine lV.mono C fun f' h=>?_
   rcases h with h|⟨o,s2,h,ab⟩
   · exact .inl h
   · exact .inr ⟨o,s2,h,jE.YU B st1 ab⟩
 |scope c1=>
  have E:r7 g nt c1:=by obtain⟨rK,h1,D⟩:=A;exact⟨rK,h1,D⟩
  have u:=ih ⟨b.fn,nt,rn⟩ c1 s b a w g rfl z hg y E S (.inScope c1::ks) fs
  refine lV.mono u fun f' h=>h.imp id fun⟨o,s2,h,L⟩=>⟨o,s2,h,?_⟩
  cases o with
  |zero=>exact jE.TX L
  |succ o=>exact jE.P8 L
 |region id ops draw=>
  obtain⟨rK,h1,D⟩:=A
  simp only[codeOk,Bool.and_eq_true,Bool.or_eq_true,Bool.not_eq_true']at D
  cases draw with
  |false=>exact Oo ok mX ih y D.1 b.fn id S hg h1 z
  |true=>
   have hd:HI ops.toList=true:=by
    rcases D.2 with h|h
    · cases h
    · exact h
   exact Ot ok mX ih y D.1 hd b.fn id S hg h1 z
 |rangeFunc f ps oz body=>exact Qh ok mX ih y A S hg z
 |_=>exact vh.dead fun Z=>⟨0,rfl⟩
end
end
end Sw
namespace Sw
noncomputable section
open Go Go.RowKit
theorem FQ{P:Program}{ng B0:Nat}{w0:World}{e:Env}(ok:mP P ng e)(mX:r9 P ng B0 w0 e):∀n,oM P ng B0 w0 (ev e n)
 |0=>fun fm c s b a w g _ _ _ _ _ _ _ _=>vh.dead fun Z=>⟨0,rfl⟩
 |n+1=>Wq ok mX (FQ ok mX n)
def Dx(p:Nat->Bool):Nat->Bool
 |0=>true
 |n+1=>p n&&Dx p n
theorem Ci{p:Nat->Bool}:∀{n:Nat},Dx p n=true->∀c,c<n->p c=true
 |0,_,c,hc=>by omega
 |n+1,h,c,hc=>by
  simp only[Dx,Bool.and_eq_true]at h
  by_cases e:c=n
  · subst e;exact h.1
  · exact Ci h.2 c (by omega)
def explore(r:List Nat->R):Nat->List Nat->Bool
 |0,_=>false
 |n+1,p=>match r p with
  |.ok _=>true
  |.gk m=>(match m with
   |0=>false
   |m+1=>Dx (fun c=>explore r n (p++[c])) (m+1))
theorem zY{r:List Nat->R}:∀(n:Nat) (p q:List Nat),explore r n p=true->(∀b c j,q=b++c::j->∃m,r (p++b)=.gk m/\c<m)->∃rest x,r (p++q++rest)=.ok x
 |0,_,_,h,_=>by cases h
 |n+1,p,q,h,o=>by
  unfold explore at h
  cases q with
  |nil=>
   split at h
   · rename_i x hx;exact⟨[],x,by simpa using hx⟩
   · rename_i m hm
     cases m with
     |zero=>cases h
     |succ m=>
      have:=Ci h 0 (by omega)
      obtain⟨rest,x,hx⟩:=zY n (p++[0]) [] this (fun b c j e=>by cases b<;>cases e)
      exact⟨0::rest,x,by simpa using hx⟩
  |cons c q=>
   obtain⟨m,hm,hc⟩:=o [] c q rfl
   rw[List.append_nil]at hm
   rw[hm]at h
   cases m with
   |zero=>omega
   |succ m=>
    have:=Ci h c hc
    obtain⟨rest,x,hx⟩:=zY n (p++[c]) q this (fun b u j e=>by
     obtain⟨y,h1,D⟩:=o (c::b) u j (by rw[e];rfl)
     exact⟨y,by rw[List.append_assoc];exact h1,D⟩)
    exact⟨rest,x,by rw[<-hx];simp⟩
theorem lV.G9{r:List Nat->R}{oI:(List Nat->R)->Prop}(h:lV r oI){n:Nat}(hx:explore r n []=true):∃f',oI f'/\∃rest x,f' rest=.ok x:=by
 obtain⟨pre,h1,D⟩:=h
 obtain⟨rest,x,hr⟩:=zY n [] pre hx (fun p c q e=>by obtain⟨m,a,b⟩:=h1 p c q e;exact⟨m,by simpa using a,b⟩)
 exact⟨_,D,rest,x,by simpa using hr⟩
def Qp:KC:=fun v h G Z=>match v with
 |.bool b=>(match b with
  |true=>.ok (0,⟨Tm.undef,[],h,G,Z⟩)
  |false=>.gk 0)
 |_=>.gk 0
section
variable {P:Program}{ng:Nat}{e:Env}{B0:Nat}{w0:World}{g:Gm}{G:Nat}{w:World}{O:Ht}
theorem Qq(ok:mP P ng e)(mX:r9 P ng B0 w0 e)(H:gm B0 w0 g O.get G w)(hg:k_ g ng){f:FuncId}{l:List Value}{args:Array Value}(hl:gV g l args.toList)(n j:Nat)
 (hx:explore (fun Z=>nh e (ev e n) f l O G Z Qp) j []=true):Calls P f args w fun u w'=>u=.returned (.bool true)/\Below B0 w0 w':=by
 intro fs
 obtain⟨f',hf,rest,x,hr⟩:=lV.G9 (zk ok mX (FQ ok mX n) H hg hl fs Qp) hx
 rcases hf with hf|⟨v,eZ,e5,hf,L⟩
 · obtain⟨m,hf⟩:=hf rest;rw[hr]at hf;cases hf
 · have y:v=.bool true:=by
    have:=hf rest
    rw[hr]at this
    unfold Qp at this
    split at this
    · split at this
      · rfl
      · cases this
    · cases this
   subst y
   obtain⟨v',w',g',o,p,B,fr,s1,m1,d1,z,f1,fn,A,r1⟩:=L
   rw[p.rR]at r1
   exact⟨.returned (.bool true),w',fr,⟨rfl,o.below.b⟩,s1,f1,m1,d1,z,fn,A,r1⟩
end
end
end Sw
namespace Sw
noncomputable section
open Go Go.RowKit
structure TB where
 num:Nat
 Z:List Value
 mG:Bool
 unit:Nat
abbrev mQ:=List (Nat×Nat)
def look(b:Nat):mQ->Option Nat
 |[]=>none
 |(x,y)::A=>bif Nat.beq b x then some y else look b A
def Lw(e b:Nat)(A:mQ):Option mQ:=match look e A with
 |some b'=>bif Nat.beq b b' then some A else none
 |none=>some ((e,b)::A)
def EZ(f:mQ->Value->Value->Option mQ):List Value->List Value->mQ->Option mQ
 |[],[],A=>some A
 |v::vs,t::ts,A=>(match f A v t with
  |some b=>EZ f vs ts b
  |none=>none)
 |_,_,_=>none
def D_:Nat->mQ->Value->Value->Option mQ
 |_,A,.bool a,.bool b=>bif (bif a then b else !b)then some A else none
 |_,A,.int k a,.int k' b=>bif wh k k'&&kC a b then some A else none
 |_,A,.string a,.string b=>bif wF (strs a) (strs b)then some A else none
 |_,A,.pointer none,.pointer none=>some A
 |_,A,.pointer (some ⟨b,o,none⟩),.pointer (some ⟨b',o',none⟩)=>bif Nat.beq o o' then Lw b' b A else none
 |_,A,.slice none 0 0,.slice none 0 0=>some A
 |_,A,.slice (some ⟨b,o,none⟩) l c,.slice (some ⟨b',o',none⟩) m j=>bif Nat.beq o o'&&(Nat.beq l m&&Nat.beq c j)then Lw b' b A else none
 |_,A,.map none,.map none=>some A
 |_,A,.nilFunc,.nilFunc=>some A
 |_,A,.nilIface,.nilIface=>some A
 |n+1,A,.func (.func f) x y,.func (.func f') x' y'=>bif Nat.beq f f' then(match EZ (D_ n) x.toList x'.toList A with
  |some e=>EZ (D_ n) y.toList y'.toList e
  |none=>none)else none
 |n+1,A,.iface t v,.iface p v'=>bif Nat.beq t p then D_ n A v v' else none
 |n+1,A,.agg x,.agg y=>EZ (D_ n) x.toList y.toList A
 |n+1,A,.tuple x,.tuple y=>EZ (D_ n) x.toList y.toList A
 |_,_,_,_=>none
def Aw(m:gi)(b:TB):Bool:=match m.mG with
 |none=>!b.mG
 |some _=>b.mG&&Nat.beq m.unit b.unit
def If(O:Ht)(fresh:Bool):List TB->mQ->Option mQ
 |[],A=>some A
 |e::ki,A=>match look e.num A with
  |some b=>(match O.get b with
   |some (.cells Z m)=>bif Aw m e&&(!fresh||!m.ro)then(match EZ (D_ 8) Z e.Z A with
    |some j=>If O fresh ki j
    |none=>none)else none
   |_=>none)
  |none=>none
def Cj(d:Nat)(b:TB)(Z:List Value)(h:Ht):Ht:=
 bif b.mG then(h.set (d+b.num+1) (some (.group [⟨d+b.num,0,Z.length⟩]))).set (d+b.num) (some (.cells Z ⟨true,some (d+b.num+1),0,b.unit⟩))
 else h.set (d+b.num) (some (.cells Z ⟨true,none,0,b.unit⟩))
def yi:List TB->Ht->Ht
 |[],h=>h
 |b::ki,h=>yi ki (Cj 0 b b.Z h)
def tu:Nat->Nat->List TB->Bool
 |lo,hi,[]=>Nat.ble lo hi
 |lo,hi,b::ki=>Nat.ble lo b.num&&tu (b.num+(bif b.mG then 2 else 1)) hi ki
def xF(A:mQ):List TB->Bool
 |[]=>true
 |b::ki=>(!b.mG||(match look (b.num+1) A with|none=>true|some _=>false))&&xF A ki
def Mr(f:Value->Option Value):List Value->Option (List Value)
 |[]=>some []
 |v::vs=>(match f v,Mr f vs with
  |some u,some b=>some (u::b)
  |_,_=>none)
def Ig(d:Nat):Nat->Value->Option Value
 |_,.bool a=>some (.bool a)
 |_,.int k a=>some (.int k a)
 |_,.string a=>some (.string a)
 |_,.pointer none=>some (.pointer none)
 |_,.pointer (some ⟨b,o,none⟩)=>some (.pointer (some ⟨d+b,o,none⟩))
 |_,.slice none 0 0=>some (.slice none 0 0)
 |_,.slice (some ⟨b,o,none⟩) l c=>some (.slice (some ⟨d+b,o,none⟩) l c)
 |_,.map none=>some (.map none)
 |_,.nilFunc=>some .nilFunc
 |_,.nilIface=>some .nilIface
 |n+1,.agg x=>(Mr (Ig d n) x.toList).map fun l=>.agg l.toArray
 |n+1,.tuple x=>(Mr (Ig d n) x.toList).map fun l=>.tuple l.toArray
 |n+1,.iface t v=>(Ig d n v).map fun v=>.iface t v
 |_,_=>none
def Qr(d:Nat):List TB->Ht->Option Ht
 |[],h=>some h
 |b::ki,h=>(match Mr (Ig d 8) b.Z with
  |some Z=>Qr d ki (Cj d b Z h)
  |none=>none)
structure wN where
 args:List Value
 blocks:List TB
 G:Nat
 ud:Value
 xG:List TB
 Ms:Nat
def CN(n:Nat):mQ->Bool
 |[]=>true
 |(b,_)::A=>Nat.blt b n&&CN n A
def VP(ng:Nat):mQ:=(List.range ng).map fun i=>(i,i)
def Jq(ng:Nat)(b:wN)(l:List Value)(O:Ht)(G:Nat):Option (Value×Ht×Nat):=
 match EZ (D_ 8) l b.args (VP ng)with
 |some A=>(match If O false b.blocks A with
  |some e=>bif xF e b.blocks&&CN b.G e then(match Ig G 8 b.ud,Qr G b.xG O with
   |some v,some h=>some (v,h,G+b.Ms)
   |_,_=>none)else none
  |none=>none)
 |none=>none
def zn(ng:Nat):List wN->List Value->Ht->Nat->Option (Value×Ht×Nat)
 |[],_,_,_=>none
 |b::oO,l,O,G=>match Jq ng b l O G with
  |some r=>some r
  |none=>zn ng oO l O G
def yj(ng:Nat)(oO:List wN):Jb:=⟨fun l O G Z k b=>match zn ng oO l O G with
 |some (v,h,n)=>k v h n Z
 |none=>b⟩
def E0:mQ->List TB->Bool
 |[],_=>true
 |(b,_)::A,ki=>ki.any (fun e=>Nat.beq e.num b)&&E0 A ki
def T8(b:wN):KC:=fun v h G Z=>match D_ 8 [] v b.ud with
 |some A=>(match If h true b.xG A with
  |some e=>bif E0 e b.xG&&xF e b.xG then .ok (0,⟨Tm.undef,[],h,G,Z⟩)else .gk 0
  |none=>.gk 0)
 |none=>.gk 0
def XO(ng:Nat)(b:wN):Bool:=Nat.ble ng b.G&&(tu 0 b.G b.blocks&&tu 0 b.Ms b.xG)
def zw(ng:Nat)(e:Env)(f:FuncId)(n j:Nat)(b:wN):Bool:=
 XO ng b&&explore (fun Z=>nh e (ev e n) f b.args (yi b.blocks .nil) b.G Z (T8 b)) j []
end
end Sw
namespace Sw
noncomputable section
open Go Go.RowKit
def pY(A e:mQ):Prop:=∀b x,look b A=some x->look b e=some x
theorem pY.refl(A:mQ):pY A A:=fun _ _ h=>h
theorem pY.trans{A B C:mQ}(h:pY A B)(k:pY B C):pY A C:=fun b x e=>k b x (h b x e)
theorem BO{m b:Nat}{A o:mQ}(h:Lw m b A=some o):pY A o/\look m o=some b:=by
 unfold Lw at h
 split at h
 · rename_i b' hb
   cases j:Nat.beq b b' with
   |false=>rw[j]at h;cases h
   |true=>
    rw[j]at h;cases h
    exact⟨pY.refl _,by rw[hb,beq_eq j]⟩
 · rename_i hb
   cases h
   refine⟨fun x y e=>?_,by simp[look,Nat.beq_refl]⟩
   have:Nat.beq x m=false:=by
    cases j:Nat.beq x m with
    |false=>rfl
    |true=>rw[beq_eq j,hb]at e;cases e
   simp only[look,this,cond_false];exact e
def Mt(gc g:Gm)(A:mQ):Prop:=∀e b,look e A=some b->gc.fW e=g.fW b/\gc.room e=g.room b
theorem Mt.sub{gc g:Gm}{A j:mQ}(h:Mt gc g j)(k:pY A j):Mt gc g A:=fun m b e=>h m b (k m b e)
def XP(f:mQ->Value->Value->Option mQ):Prop:=∀A v t b,f A v t=some b->pY A b/\∀gc g v',Mt gc g b->fK g v v'->fK gc t v'
theorem Bg{f:mQ->Value->Value->Option mQ}(hf:XP f):∀(vs ts:List Value) (A e:mQ),EZ f vs ts A=some e->pY A e/\∀gc g b,Mt gc g e->gV g vs b->gV gc ts b
 |[],[],A,e,h=>by
  cases h
  exact⟨pY.refl _,fun gc g b _ hl=>by
   have:=hl.1
   cases b with
   |nil=>exact gV.nil gc
   |cons=>cases this⟩
 |v::vs,t::ts,A,e,h=>by
  simp only[EZ]at h
  split at h
  · rename_i m h1
    obtain⟨e1,r1⟩:=hf _ _ _ _ h1
    obtain⟨e2,r2⟩:=Bg hf vs ts m e h
    refine⟨e1.trans e2,fun gc g b j hl=>?_⟩
    cases b with
    |nil=>cases hl.1
    |cons v' b=>exact gV.cons (r1 gc g v' (j.sub e2) hl.head) (r2 gc g b j hl.tail)
  · cases h
 |[],_::_,_,_,h=>by cases h
 |_::_,[],_,_,h=>by cases h
theorem Mu:∀n,XP (D_ n):=by
 intro n
 induction n with
 |zero=>
  intro A v t L h
  unfold D_ at h
  split at h<;>first|(cases h;done)|skip
  · rename_i a b
    cases a<;>cases b<;>first|(cases h;done)|(cases h;exact⟨pY.refl _,fun gc g v' _ r=>by rw[r.rR];exact .bool _⟩)
  · rename_i k a k' b
    cases e:(wh k k'&&kC a b)with
    |false=>rw[e]at h;cases h
    |true=>
     rw[e]at h;cases h
     rw[Bool.and_eq_true]at e
     cases vC e.1;cases lJ.1 e.2
     exact⟨pY.refl _,fun gc g v' _ r=>by rw[r.kU];exact .int _ _⟩
  · rename_i a b
    cases e:wF (strs a) (strs b)with
    |false=>rw[e]at h;cases h
    |true=>
     rw[e]at h;cases h
     rw[wX]at e
     cases A_ (a:=a) (b:=b) (by simpa using e)
     exact⟨pY.refl _,fun gc g v' _ r=>by rw[r.kY];exact .string _⟩
  · cases h;exact⟨pY.refl _,fun gc g v' _ r=>by rw[r.uz];exact .nilPtr⟩
  · rename_i b o b' o'
    cases e:Nat.beq o o' with
    |false=>rw[e]at h;cases h
    |true=>
     rw[e]at h
     cases beq_eq e
     obtain⟨e1,e2⟩:=BO h
     refine⟨e1,fun gc g v' j r=>?_⟩
     obtain⟨_,rb,ro,hg,rfl⟩:=r.sy
     exact .ptr ((j _ _ e2).1.trans hg)
  · cases h;exact⟨pY.refl _,fun gc g v' _ r=>by obtain⟨_,_,rfl⟩:=r.lW;exact .qb⟩
  · rename_i b o l c b' o' C B
    cases e:(Nat.beq o o'&&(Nat.beq l C&&Nat.beq c B))with
    |false=>rw[e]at h;cases h
    |true=>
     rw[e]at h
     rw[Bool.and_eq_true,Bool.and_eq_true]at e
     cases beq_eq e.1;cases beq_eq e.2.1;cases beq_eq e.2.2
     obtain⟨e1,e2⟩:=BO h
     refine⟨e1,fun gc g v' j r=>?_⟩
     rcases r.mW with⟨a2,rfl,rfl,rfl⟩|⟨_,rb,ro,c2,hg,hl,hc,rfl⟩
     · exact .ox _ _
     · obtain⟨E,F⟩:=j _ _ e2
       refine .slice (E.trans hg) hl ?_
       rcases hc with hc|⟨hc,J,u,hr,hf⟩
       · exact .inl hc
       · exact .inr ⟨hc,J,u,F.trans hr,hf⟩
  · cases h;exact⟨pY.refl _,fun gc g v' _ r=>by rw[r.qc];exact .vz⟩
  · cases h;exact⟨pY.refl _,fun gc g v' _ r=>by rw[r.so];exact .nilFunc⟩
  · cases h;exact⟨pY.refl _,fun gc g v' _ r=>by rw[r.oQ];exact .nilIface⟩
  all_goals (rename_i h0;exact absurd h0 (by simp))
 |succ n ih=>
  intro A v t L h
  unfold D_ at h
  split at h<;>first|(cases h;done)|skip
  · rename_i a b
    cases a<;>cases b<;>first|(cases h;done)|(cases h;exact⟨pY.refl _,fun gc g v' _ r=>by rw[r.rR];exact .bool _⟩)
  · rename_i k a k' b
    cases e:(wh k k'&&kC a b)with
    |false=>rw[e]at h;cases h
    |true=>
     rw[e]at h;cases h
     rw[Bool.and_eq_true]at e
     cases vC e.1;cases lJ.1 e.2
     exact⟨pY.refl _,fun gc g v' _ r=>by rw[r.kU];exact .int _ _⟩
  · rename_i a b
    cases e:wF (strs a) (strs b)with
    |false=>rw[e]at h;cases h
    |true=>
     rw[e]at h;cases h
     rw[wX]at e
     cases A_ (a:=a) (b:=b) (by simpa using e)
     exact⟨pY.refl _,fun gc g v' _ r=>by rw[r.kY];exact .string _⟩
  · cases h;exact⟨pY.refl _,fun gc g v' _ r=>by rw[r.uz];exact .nilPtr⟩
  · rename_i b o b' o'
    cases e:Nat.beq o o' with
    |false=>rw[e]at h;cases h
    |true=>
     rw[e]at h
     cases beq_eq e
     obtain⟨e1,e2⟩:=BO h
     refine⟨e1,fun gc g v' j r=>?_⟩
     obtain⟨_,rb,ro,hg,rfl⟩:=r.sy
     exact .ptr ((j _ _ e2).1.trans hg)
  · cases h;exact⟨pY.refl _,fun gc g v' _ r=>by obtain⟨_,_,rfl⟩:=r.lW;exact .qb⟩
  · rename_i b o l c b' o' C B
    cases e:(Nat.beq o o'&&(Nat.beq l C&&Nat.beq c B))with
    |false=>rw[e]at h;cases h
    |true=>
     rw[e]at h
     rw[Bool.and_eq_true,Bool.and_eq_true]at e
     cases beq_eq e.1;cases beq_eq e.2.1;cases beq_eq e.2.2
     obtain⟨e1,e2⟩:=BO h
     refine⟨e1,fun gc g v' j r=>?_⟩
     rcases r.mW with⟨a2,rfl,rfl,rfl⟩|⟨_,rb,ro,c2,hg,hl,hc,rfl⟩
     · exact .ox _ _
     · obtain⟨E,F⟩:=j _ _ e2
       refine .slice (E.trans hg) hl ?_
       rcases hc with hc|⟨hc,J,u,hr,hf⟩
       · exact .inl hc
       · exact .inr ⟨hc,J,u,F.trans hr,hf⟩
  · cases h;exact⟨pY.refl _,fun gc g v' _ r=>by rw[r.qc];exact .vz⟩
  · cases h;exact⟨pY.refl _,fun gc g v' _ r=>by rw[r.so];exact .nilFunc⟩
  · cases h;exact⟨pY.refl _,fun gc g v' _ r=>by rw[r.oQ];exact .nilIface⟩
  · rename_i m f x y f' x' y' hm
    cases hm
    cases e:Nat.beq f f' with
    |false=>rw[e]at h;cases h
    |true=>
     rw[e]at h
     cases beq_eq e
     simp only[cond_true]at h
     split at h
     · rename_i N h1
       obtain⟨e1,r1⟩:=Bg ih _ _ _ _ h1
       obtain⟨e2,r2⟩:=Bg ih _ _ _ _ h
       refine⟨e1.trans e2,fun gc g v' j r=>?_⟩
       obtain⟨z,M,rfl,hx,hy⟩:=r.GF
       have p:=(r1 gc g z.toList (j.sub e2) hx.toList).toArray
       have K:=(r2 gc g M.toList j hy.toList).toArray
       exact .func p.1 K.1 p.2 K.2
     · cases h
  · rename_i m t0 v0 t1 R hm
    cases hm
    cases e:Nat.beq t0 t1 with
    |false=>rw[e]at h;cases h
    |true=>
     rw[e]at h
     cases beq_eq e
     obtain⟨e1,r1⟩:=ih _ _ _ _ h
     refine⟨e1,fun gc g v' j r=>?_⟩
     obtain⟨z,rfl,hx⟩:=r.xC
     exact .iface (r1 gc g z j hx)
  · rename_i m x y hm
    cases hm
    obtain⟨e1,r1⟩:=Bg ih _ _ _ _ h
    refine⟨e1,fun gc g v' j r=>?_⟩
    obtain⟨z,rfl,hx⟩:=r.s8
    have p:=(r1 gc g z.toList j hx.toList).toArray
    exact .agg p.1 p.2
  · rename_i m x y hm
    cases hm
    obtain⟨e1,r1⟩:=Bg ih _ _ _ _ h
    refine⟨e1,fun gc g v' j r=>?_⟩
    obtain⟨z,rfl,hx⟩:=r.En
    have p:=(r1 gc g z.toList j hx.toList).toArray
    exact .tuple p.1 p.2
theorem Mv{O:Ht}{fresh:Bool}:∀(ki:List TB) (A e:mQ),If O fresh ki A=some e->pY A e/\∀j∈ki,∃b Z m,look j.num e=some b/\O.get b=some (.cells Z m)/\Aw m j=true/\(fresh=true->m.ro=false)/\
 ∀gc g lA,Mt gc g e->gV g Z lA->gV gc j.Z lA
 |[],A,e,h=>by cases h;exact⟨pY.refl _,fun j h=>by cases h⟩
 |j::ki,A,e,h=>by
  simp only[If]at h
  split at h
  · rename_i b hb
    split at h
    · rename_i Z m hc
      cases o:(Aw m j&&(!fresh||!m.ro))with
      |false=>rw[o]at h;cases h
      |true=>
       rw[o]at h
       simp only[cond_true]at h
       split at h
       · rename_i y h1
         obtain⟨e1,r1⟩:=Bg (Mu 8) _ _ _ _ h1
         obtain⟨e2,r2⟩:=Mv ki y e h
         rw[Bool.and_eq_true]at o
         refine⟨e1.trans e2,fun u p=>?_⟩
         rcases fM.1 p with rfl|p
         · refine⟨b,Z,m,e2 _ _ (e1 _ _ hb),hc,o.1,fun hf=>by have:=o.2;rw[hf]at this;simpa using this,fun gc g lA z hl=>r1 gc g lA (z.sub e2) hl⟩
         · exact r2 u p
       · cases h
    · cases h
  · cases h
end
end Sw
namespace Sw
noncomputable section
open Go Go.RowKit
def Qs(d:Nat)(gr e:Gm):Prop:=∀b,gr.fW b≠none->e.fW (d+b)=gr.fW b/\e.room (d+b)=gr.room b
def XQ(d:Nat)(f:Value->Option Value):Prop:=∀v u,f v=some u->∀gr b v',Qs d gr b->fK gr v v'->fK b u v'
theorem Ih{d:Nat}{f:Value->Option Value}(hf:XQ d f):∀(vs j:List Value),Mr f vs=some j->∀gr e b,Qs d gr e->gV gr vs b->gV e j b
 |[],j,h,gr,e,b,_,hl=>by
  cases h
  have:=hl.1
  cases b with
  |nil=>exact gV.nil e
  |cons=>cases this
 |v::vs,j,h,gr,e,b,hm,hl=>by
  simp only[Mr]at h
  split at h
  · rename_i u j h1 D
    cases h
    cases b with
    |nil=>cases hl.1
    |cons v' b=>exact gV.cons (hf v u h1 gr e v' hm hl.head) (Ih hf vs j D gr e b hm hl.tail)
  · cases h
theorem RR(d:Nat):∀n,XQ d (Ig d n):=by
 intro n
 induction n with
 |zero=>
  intro v u h gr j v' hm r
  unfold Ig at h
  split at h<;>first|(cases h;done)|skip
  · cases h;rw[r.rR];exact .bool _
  · cases h;rw[r.kU];exact .int _ _
  · cases h;rw[r.kY];exact .string _
  · cases h;rw[r.uz];exact .nilPtr
  · cases h
    obtain⟨_,rb,ro,hg,rfl⟩:=r.sy
    exact .ptr ((hm _ (by rw[hg];simp)).1.trans hg)
  · cases h;obtain⟨_,_,rfl⟩:=r.lW;exact .qb
  · cases h
    rcases r.mW with⟨a2,rfl,rfl,rfl⟩|⟨_,rb,ro,c2,hg,hl,hc,rfl⟩
    · exact .ox _ _
    · obtain⟨o,p⟩:=hm _ (by rw[hg];simp)
      refine .slice (o.trans hg) hl ?_
      rcases hc with hc|⟨hc,y,u,hr,hf⟩
      · exact .inl hc
      · exact .inr ⟨hc,y,u,p.trans hr,hf⟩
  · cases h;rw[r.qc];exact .vz
  · cases h;rw[r.so];exact .nilFunc
  · cases h;rw[r.oQ];exact .nilIface
  all_goals (rename_i h0;exact absurd h0 (by simp))
 |succ n ih=>
  intro v u h gr j v' hm r
  unfold Ig at h
  split at h<;>first|(cases h;done)|skip
  · cases h;rw[r.rR];exact .bool _
  · cases h;rw[r.kU];exact .int _ _
  · cases h;rw[r.kY];exact .string _
  · cases h;rw[r.uz];exact .nilPtr
  · cases h
    obtain⟨_,rb,ro,hg,rfl⟩:=r.sy
    exact .ptr ((hm _ (by rw[hg];simp)).1.trans hg)
  · cases h;obtain⟨_,_,rfl⟩:=r.lW;exact .qb
  · cases h
    rcases r.mW with⟨a2,rfl,rfl,rfl⟩|⟨_,rb,ro,c2,hg,hl,hc,rfl⟩
    · exact .ox _ _
    · obtain⟨o,p⟩:=hm _ (by rw[hg];simp)
      refine .slice (o.trans hg) hl ?_
      rcases hc with hc|⟨hc,y,u,hr,hf⟩
      · exact .inl hc
      · exact .inr ⟨hc,y,u,p.trans hr,hf⟩
  · cases h;rw[r.qc];exact .vz
  · cases h;rw[r.so];exact .nilFunc
  · cases h;rw[r.oQ];exact .nilIface
  · rename_i m x hn
    cases hn
    obtain⟨l,h1,rfl⟩:=fx.1 h
    obtain⟨e,rfl,hx⟩:=r.s8
    have b:=(Ih ih _ _ h1 gr j e.toList hm hx.toList).toArray
    exact .agg b.1 b.2
  · rename_i m x hn
    cases hn
    obtain⟨l,h1,rfl⟩:=fx.1 h
    obtain⟨e,rfl,hx⟩:=r.En
    have b:=(Ih ih _ _ h1 gr j e.toList hm hx.toList).toArray
    exact .tuple b.1 b.2
  · rename_i m t v0 hn
    cases hn
    obtain⟨z,h1,rfl⟩:=fx.1 h
    obtain⟨e,rfl,hx⟩:=r.xC
    exact .iface (ih _ _ h1 gr j e hm hx)
section
variable {B0:Nat}{w0:World}{g:Gm}{O:Hp}{G:Nat}{w:World}
theorem gm.VQ(H:gm B0 w0 g O G w){n:Nat}(hf:O n=none)(hn:n<G){Z:List Value}{u:Nat}
 (p:∀rb ro,g.fW n=some (rb,ro)->(∃jo,w.heap[rb]?=some jo/\o7 B0 g n (.cells Z ⟨true,none,0,u⟩) rb ro jo)/\∀b o r1,O b=some o->g.fW b=some (rb,r1)->∃Z m,o=.cells Z m/\m.ro=true):
 gm B0 w0 g (O.set n (some (.cells Z ⟨true,none,0,u⟩))) G w:=by
 refine⟨H.below,H.base,H.rH,fun b o e=>?_,fun b ms e=>?_,fun b y m gr e k=>?_,fun b1 b2 o1 o2 r r1 r2 jB e1 e2 z A=>?_,H.room⟩
 · by_cases j:b=n
   · subst j
     rw[Hp.jH]at e;cases e
     exact⟨hn,fun r1 r2 k=>(p r1 r2 k).1⟩
   · rw[Hp.gN _ _ j]at e;exact H.live b o e
 · by_cases j:b=n
   · subst j;rw[Hp.jH]at e;cases e
   · rw[Hp.gN _ _ j]at e;exact H.ph b ms e
 · by_cases j:b=n
   · subst j;rw[Hp.jH]at e;cases e;cases k
   · rw[Hp.gN _ _ j]at e
     obtain⟨ms,a1,a2⟩:=H.mem b y m gr e k
     refine⟨ms,?_,a2⟩
     rw[Hp.gN _ _ (by rintro rfl;rw[hf]at a1;cases a1)]
     exact a1
 · by_cases h1:b1=n
   · subst h1
     rw[Hp.jH]at e1;cases e1
     rw[Hp.gN _ _ (Ne.symm jB)]at e2
     obtain⟨B,m2,rfl,hr⟩:=(p _ _ z).2 b2 o2 r2 e2 A
     exact .inl ⟨rfl,hr⟩
   · by_cases D:b2=n
     · subst D
       rw[Hp.jH]at e2;cases e2
       rw[Hp.gN _ _ jB]at e1
       obtain⟨y,m1,rfl,hr⟩:=(p _ _ A).2 b1 o1 r1 e1 z
       exact .inl ⟨hr,rfl⟩
     · rw[Hp.gN _ _ h1]at e1
       rw[Hp.gN _ _ D]at e2
       exact H.sep b1 b2 o1 o2 r r1 r2 jB e1 e2 z A
theorem gm.T9(H:gm B0 w0 g O G w){n gr:Nat}(hf:O n=none)(C:n≠gr)(y:g.fW gr=none)(A:O gr=none)(hn:n<G)(yb:gr<G){Z:List Value}{u:Nat}
 (j:∀rb ro,g.fW n=some (rb,ro)->(∃jo,w.heap[rb]?=some jo/\o7 B0 g n (.cells Z ⟨true,some gr,0,u⟩) rb ro jo)/\∀b o r1,O b=some o->g.fW b=some (rb,r1)->∃Z m,o=.cells Z m/\m.ro=true):
 gm B0 w0 g ((O.set gr (some (.group [⟨n,0,Z.length⟩]))).set n (some (.cells Z ⟨true,some gr,0,u⟩))) G w:=by
 have get:∀b o,((O.set gr (some (.group [⟨n,0,Z.length⟩]))).set n (some (.cells Z ⟨true,some gr,0,u⟩))) b=some o->(b=n/\o=.cells Z ⟨true,some gr,0,u⟩)\/(b=gr/\o=.group [⟨n,0,Z.length⟩])\/(b≠n/\b≠gr/\O b=some o):=fun b o e=>by
  by_cases h1:b=n
  · subst h1;rw[Hp.jH]at e;cases e;exact .inl ⟨rfl,rfl⟩
  · rw[Hp.gN _ _ h1]at e
    by_cases D:b=gr
    · subst D;rw[Hp.jH]at e;cases e;exact .inr (.inl ⟨rfl,rfl⟩)
    · rw[Hp.gN _ _ D]at e;exact .inr (.inr ⟨h1,D,e⟩)
 refine⟨H.below,H.base,H.rH,fun b o e=>?_,fun b ms e=>?_,fun b B m E e k=>?_,fun b1 b2 o1 o2 r r1 r2 jB e1 e2 z p=>?_,H.room⟩
 · rcases get b o e with⟨rfl,rfl⟩|⟨rfl,rfl⟩|⟨_,_,e⟩
   · exact⟨hn,fun r1 r2 k=>(j r1 r2 k).1⟩
   · exact⟨yb,fun r1 r2 k=>by rw[y]at k;cases k⟩
   · exact H.live b o e
 · rcases get b _ e with⟨rfl,h⟩|⟨rfl,_⟩|⟨_,_,e⟩
   · cases h
   · exact y
   · exact H.ph b ms e
 · rcases get b _ e with⟨rfl,h⟩|⟨rfl,h⟩|⟨_,_,e⟩
   · cases h;cases k
     exact⟨_,by rw[Hp.gN _ _ (Ne.symm C),Hp.jH],List.mem_singleton.2 rfl⟩
   · cases h
   · obtain⟨ms,a1,a2⟩:=H.mem b B m E e k
     refine⟨ms,?_,a2⟩
     rw[Hp.gN _ _ (by rintro rfl;rw[hf]at a1;cases a1),Hp.gN _ _ (by rintro rfl;rw[A]at a1;cases a1)]
     exact a1
 · have key:∀b o r1,((O.set gr (some (.group [⟨n,0,Z.length⟩]))).set n (some (.cells Z ⟨true,some gr,0,u⟩))) b=some o->g.fW b=some (r,r1)->(b=n/\o=.cells Z ⟨true,some gr,0,u⟩)\/(b≠n/\O b=some o):=fun b o r1 e k=>by
    rcases get b o e with⟨rfl,rfl⟩|⟨rfl,_⟩|⟨h1,_,e⟩
    · exact .inl ⟨rfl,rfl⟩
    · rw[y]at k;cases k
    · exact .inr ⟨h1,e⟩
   rcases key b1 o1 r1 e1 z with⟨h1,rfl⟩|⟨h1,f1⟩
   · rcases key b2 o2 r2 e2 p with⟨D,_⟩|⟨_,f2⟩
     · exact absurd (h1.trans D.symm) jB
     · rw[h1]at z
       obtain⟨F,m2,rfl,hr⟩:=(j _ _ z).2 b2 o2 r2 f2 p
       exact .inl ⟨rfl,hr⟩
   · rcases key b2 o2 r2 e2 p with⟨D,rfl⟩|⟨_,f2⟩
     · rw[D]at p
       obtain⟨B,m1,rfl,hr⟩:=(j _ _ p).2 b1 o1 r1 f1 z
       exact .inl ⟨hr,rfl⟩
     · exact H.sep b1 b2 o1 o2 r r1 r2 jB f1 f2 z p
def Qt(g:Gm)(O:Hp)(yk:Nat->Prop):Prop:=∀rb,yk rb->∀b o r1,O b=some o->g.fW b=some (rb,r1)->∃Z m,o=.cells Z m/\m.ro=true
theorem gm.Cj{h:Ht}(H:gm B0 w0 g h.get G w){d:Nat}{j:TB}{Z:List Value}{yk:Nat->Prop}(u:Qt g h.get yk)(hn:d+j.num+(bif j.mG then 2 else 1)<=G)(hf:∀b,d+j.num<=b->h.get b=none)
 (A:j.mG=true->g.fW (d+j.num+1)=none) (m:∀rb ro,g.fW (d+j.num)=some (rb,ro)->yk rb/\∃jo,w.heap[rb]?=some jo/\o7 B0 g (d+j.num) (.cells Z ⟨true,bif j.mG then some (d+j.num+1)else none,0,j.unit⟩) rb ro jo):
 gm B0 w0 g (Cj d j Z h).get G w/\Qt g (Cj d j Z h).get yk/\(∀b,d+j.num+(bif j.mG then 2 else 1)<=b->(Cj d j Z h).get b=none):=by
 unfold Sw.Cj
 cases hg:j.mG with
 |false=>
  rw[hg]at hn m
  simp only[cond_false]at hn m⊢
  rw[Tr.nT]
  refine⟨H.VQ (hf _ (e9 _)) (by omega) fun rb ro k=>⟨(m rb ro k).2,u rb (m rb ro k).1⟩,fun rb y b o r1 e k=>?_,fun b hb=>?_⟩
  · by_cases p:b=d+j.num
    · subst p;rw[Hp.jH]at e;cases e;exact⟨_,_,rfl,rfl⟩
    · rw[Hp.gN _ _ p]at e;exact u rb y b o r1 e k
  · rw[Hp.gN _ _ (by omega)];exact hf b (by omega)
 |true=>
  rw[hg]at hn m
  simp only[cond_true]at hn m⊢
  rw[Tr.nT,Tr.nT]
  refine⟨H.T9 (hf _ (e9 _)) (by omega) (A hg) (hf _ (by omega)) (by omega) (by omega) fun rb ro k=>⟨(m rb ro k).2,u rb (m rb ro k).1⟩,fun rb y b o r1 e k=>?_,fun b hb=>?_⟩
  · by_cases p:b=d+j.num
    · subst p;rw[Hp.jH]at e;cases e;exact⟨_,_,rfl,rfl⟩
    · rw[Hp.gN _ _ p]at e
      by_cases z:b=d+j.num+1
      · subst z;rw[A hg]at k;cases k
      · rw[Hp.gN _ _ z]at e;exact u rb y b o r1 e k
  · rw[Hp.gN _ _ (by omega),Hp.gN _ _ (by omega)];exact hf b (by omega)
theorem gm.later(H:gm B0 w0 g O G w){g':Gm}{e5:Nat}{w':World}(hw:pL w.heap.size w w')(hg:g.le g')(B:G<=e5)(j:∀b,b<G->g'.fW b=g.fW b)(u:∀b rb ro,g'.fW b=some (rb,ro)->b<e5/\rb<w'.heap.size)(m:∀b x,g'.room b=some x->g'.fW b≠none):
 gm B0 w0 g' O e5 w':=by
 have A:∀{rb:Nat} {o:Obj},w.heap[rb]?=some o->w'.heap[rb]?=some o:=fun {rb o} h=>by
  have jA:=sq h
  rw[hw.b.block rb jA];exact h
 refine⟨H.below.trans (hw.mono H.base),e8 H.base hw.b.size,u,fun b o e=>?_,fun b ms e=>?_,H.mem,fun b1 b2 o1 o2 r r1 r2 jB e1 e2 y z=>?_,m⟩
 · obtain⟨p,q⟩:=H.live b o e
   refine⟨by omega,fun rb ro k=>?_⟩
   rw[j b p]at k
   obtain⟨jo,a2,a3⟩:=q rb ro k
   exact⟨jo,A a2,a3.mono hg k⟩
 · rw[j b (H.live b _ e).1];exact H.ph b ms e
 · rw[j b1 (H.live b1 _ e1).1]at y
   rw[j b2 (H.live b2 _ e2).1]at z
   exact H.sep b1 b2 o1 o2 r r1 r2 jB e1 e2 y z
end
end
end Sw
namespace Sw
noncomputable section
open Go Go.RowKit
theorem Pc{n:Nat}:∀{A:mQ} {b x:Nat},CN n A=true->look b A=some x->b<n
 |[],_,_,_,h=>by cases h
 |(y,z)::A,b,x,hk,h=>by
  simp only[CN,Bool.and_eq_true]at hk
  simp only[look]at h
  cases e:Nat.beq b y with
  |true=>rw[beq_eq e];exact fa hk.1
  |false=>rw[e]at h;exact Pc hk.2 h
theorem Jr{ki:List TB}:∀{A:mQ} {b x:Nat},E0 A ki=true->look b A=some x->∃e∈ki,e.num=b
 |[],_,_,_,h=>by cases h
 |(y,z)::A,b,x,hk,h=>by
  simp only[E0,Bool.and_eq_true]at hk
  simp only[look]at h
  cases j:Nat.beq b y with
  |true=>
   obtain⟨e,h1,D⟩:=List.any_eq_true.1 hk.1
   exact⟨e,h1,(beq_eq D).trans (beq_eq j).symm⟩
  |false=>rw[j]at h;exact Jr hk.2 h
theorem Wr{ng i:Nat}(h:i<ng):look i (VP ng)=some i:=by
 have:∀(l:List Nat),i∈l->look i (l.map fun i=>(i,i))=some i:=by
  intro l
  induction l with
  |nil=>intro h;cases h
  |cons x l ih=>
   intro hm
   simp only[List.map_cons,look]
   cases b:Nat.beq i x with
   |true=>rw[beq_eq b];rfl
   |false=>
    rcases fM.1 hm with rfl|hm
    · rw[Nat.beq_refl]at b;cases b
    · exact ih hm
 exact this _ (gJ.2 h)
theorem Ck{A:mQ}:∀{ki:List TB},xF A ki=true->∀b∈ki,b.mG=true->look (b.num+1) A=none
 |[],_,b,h,_=>by cases h
 |t::ki,h,b,hm,hg=>by
  simp only[xF,Bool.and_eq_true,Bool.or_eq_true,Bool.not_eq_true']at h
  rcases fM.1 hm with rfl|hm
  · rcases h.1 with k|k
    · rw[hg]at k;cases k
    · cases hl:look (b.num+1) A with
      |none=>rfl
      |some x=>rw[hl]at k;cases k
  · exact Ck h.2 b hm hg
theorem BP{hi:Nat}:∀{ki:List TB} {lo:Nat},tu lo hi ki=true->∀b∈ki,b.num+(bif b.mG then 2 else 1)<=hi
 |[],_,_,b,h=>by cases h
 |t::ki,lo,h,b,hm=>by
  simp only[tu,Bool.and_eq_true]at h
  have mono:∀{ki:List TB} {lo:Nat},tu lo hi ki=true->lo<=hi:=by
   intro ki
   induction ki with
   |nil=>intro lo h;exact fa h
   |cons t ki ih=>
    intro lo h
    simp only[tu,Bool.and_eq_true]at h
    have:=ih h.2
    have:=fa h.1
    cases hg:t.mG<;>simp[hg]at*<;>omega
  rcases fM.1 hm with rfl|hm
  · exact mono h.2
  · exact BP h.2 b hm
section
variable {B0:Nat}{w0:World}{g:Gm}{G:Nat}{w:World}
def Found(B0:Nat)(g:Gm)(w:World)(yk:Nat->Prop)(d:Nat)(b:TB)(Z:List Value):Prop:=
 ∀rb ro,g.fW (d+b.num)=some (rb,ro)->yk rb/\∃jo,w.heap[rb]?=some jo/\o7 B0 g (d+b.num) (.cells Z ⟨true,bif b.mG then some (d+b.num+1)else none,0,b.unit⟩) rb ro jo
theorem Pd{yk:Nat->Prop}{d hi:Nat}(A:d+hi<=G):∀(ki:List TB) (lo:Nat) (h j:Ht),tu lo hi ki=true->gm B0 w0 g h.get G w->Qt g h.get yk->(∀b,d+lo<=b->h.get b=none)->
 (∀e∈ki,e.mG=true->g.fW (d+e.num+1)=none)->(∀e∈ki,∀Z,Mr (Ig d 8) e.Z=some Z->Found B0 g w yk d e Z)->Qr d ki h=some j->gm B0 w0 g j.get G w
 |[],lo,h,j,_,H,_,_,_,_,hl=>by cases hl;exact H
 |e::ki,lo,h,j,hn,H,B,hf,o,m,hl=>by
  have jA:=BP hn e (fh ..)
  simp only[tu,Bool.and_eq_true]at hn
  have C:=fa hn.1
  simp only[Qr]at hl
  split at hl
  · rename_i Z y
    obtain⟨H1,p,z⟩:=H.Cj (Z:=Z) B (by omega) (fun b hb=>hf b (by omega)) (o e (fh ..)) (m e (fh ..) Z y)
    exact Pd A ki _ _ j hn.2 H1 p (fun b hb=>z b (by omega)) (fun t u=>o t (fw _ u)) (fun t u=>m t (fw _ u)) hl
  · cases hl
theorem Js{yk:Nat->Prop}:∀(ki:List TB) (lo:Nat) (h:Ht),tu lo G ki=true->gm B0 w0 g h.get G w->Qt g h.get yk->(∀b,lo<=b->h.get b=none)->
 (∀e∈ki,e.mG=true->g.fW (e.num+1)=none)->(∀e∈ki,Found B0 g w yk 0 e e.Z)->gm B0 w0 g (yi ki h).get G w
 |[],lo,h,_,H,_,_,_,_=>H
 |e::ki,lo,h,hn,H,y,hf,m,j=>by
  have jA:=BP hn e (fh ..)
  simp only[tu,Bool.and_eq_true]at hn
  have z:=fa hn.1
  obtain⟨H1,o,u⟩:=H.Cj (d:=0) (Z:=e.Z) y (by omega) (fun b hb=>hf b (by omega)) (fun hg=>by rw[Nat.zero_add];exact m e (fh ..) hg) (j e (fh ..))
  exact Js ki _ _ hn.2 H1 o (fun b hb=>u b (by omega)) (fun t p=>m t (fw _ p)) (fun t p=>j t (fw _ p))
theorem o7.list{b:Nat}{Z:List Value}{m:gi}{rb ro:Nat}{jo:Obj}(h:o7 B0 g b (.cells Z m) rb ro jo):
 ∃o el p,jo=.cells o el p/\ro+Z.length<=o.size/\gV g Z ((o.toList.drop ro).take Z.length)/\(m.ro=false->B0<=rb)/\(∀gr,m.mG=some gr->g.room b=some (o.size,m.unit))/\(m.mG=none->g.room b=none):=by
 cases jo<;>first|exact h.elim|skip
 obtain⟨h1,D,h3,h4,u⟩:=h
 refine⟨_,_,_,rfl,h1,⟨by simp;omega,fun i v v' e j=>?_⟩,fun k=>(h3 k).1,h4,u⟩
 rw[List.getElem?_take]at j
 split at j
 · rw[List.getElem?_drop]at j
   exact D i v v' e (by simpa using j)
 · cases j
theorem o7.Pe{m:Nat}{g1:Gm}{b1:Nat}{j:List Value}{gr:Option Nat}{u:Nat}{rb ro n:Nat}{b:Array Value}{el:TypeId}{p:Nat×Nat}(hlen:ro+n<=b.size)(hl:gV g1 j ((b.toList.drop ro).take n))
 (h1:∀x,gr=some x->g1.room b1=some (b.size,u)) (D:gr=none->g1.room b1=none):o7 m g1 b1 (.cells j ⟨true,gr,0,u⟩) rb ro (.cells b el p):=by
 have hn:j.length=n:=by have:=hl.1;simp at this;omega
 refine⟨by omega,fun i v v' e o=>?_,(fun k=>by cases k),h1,D⟩
 have hi:i<n:=by have:=(fe.1 e).1;omega
 exact hl.2 i v v' e (by rw[List.getElem?_take,if_pos hi,List.getElem?_drop];simpa using o)
end
end
end Sw
namespace Sw
noncomputable section
open Go Go.RowKit
section
variable {P:Program}{ng:Nat}{e:Env}{B0:Nat}{w0:World}{g:Gm}{G:Nat}{w:World}{O:Ht}
def Cm(g:Gm)(A:mQ):Gm:=⟨fun b=>(look b A).bind g.fW,fun b=>(look b A).bind g.room⟩
theorem Mw(g:Gm)(A:mQ):Mt (Cm g A) g A:=fun e b h=>by simp[Cm,h]
def Mx(g:Gm)(G:Nat)(gr:Gm):Gm:=⟨fun b=>if b<G then g.fW b else gr.fW (b-G),fun b=>if b<G then g.room b else gr.room (b-G)⟩
theorem Qu{m:gi}{b:TB}(h:Aw m b=true)(hg:b.mG=false):m.mG=none:=by
 unfold Aw at h
 cases hm:m.mG with
 |none=>rfl
 |some x=>rw[hm,hg]at h;cases h
theorem Qv{m:gi}{b:TB}(h:Aw m b=true)(hg:b.mG=true):(∃x,m.mG=some x)/\m.unit=b.unit:=by
 unfold Aw at h
 cases hm:m.mG with
 |none=>rw[hm,hg]at h;cases h
 |some x=>
  rw[hm,hg]at h
  exact⟨⟨x,rfl⟩,beq_eq (by simpa using h)⟩
theorem My{C:Nat}{gc:Gm}{d:Nat}{e:TB}{Z B:List Value}{m:gi}{b:Nat}{yk:Nat->Prop}{w1:World}(o:Aw m e=true)(u:∀rb ro jo,g.fW b=some (rb,ro)->o7 B0 g b (.cells Z m) rb ro jo->yk rb)
 (j:∀rb ro,g.fW b=some (rb,ro)->∃jo,w1.heap[rb]?=some jo/\o7 B0 g b (.cells Z m) rb ro jo) (hblk:∀x,gc.fW (d+e.num)=some x->g.fW b=some x/\gc.room (d+e.num)=g.room b)
 (p:∀lA,gV g Z lA->gV gc B lA):Found C gc w1 yk d e B:=by
 intro rb ro k
 obtain⟨z,A⟩:=hblk _ k
 obtain⟨jo,a2,a3⟩:=j rb ro z
 refine⟨u rb ro jo z a3,jo,a2,?_⟩
 obtain⟨J,el,F,rfl,hlen,hl,E,h1,D⟩:=a3.list
 refine o7.Pe hlen (p _ hl) (fun x hx=>?_) (fun hx=>?_)
 · cases hg:e.mG with
   |false=>rw[hg]at hx;cases hx
   |true=>
    obtain⟨⟨y,hy⟩,hu⟩:=Qv o hg
    rw[A,h1 y hy,hu]
 · cases hg:e.mG with
   |true=>rw[hg]at hx;cases hx
   |false=>rw[A];exact D (Qu o hg)
def Lx(b:Nat->World->Prop):Prop:=∀B0 w0 w,b B0 w0->Below B0 w0 w->B0<=w.heap.size->b w.heap.size w
theorem Qw{I:Nat->World->Prop}(aN:Lx I)(hi:I B0 w0)(ok:mP P ng e)(mX:∀B0 w0,I B0 w0->r9 P ng B0 w0 e){f:FuncId}{n an:Nat}{j:wN}(hold:zw ng e f n an j=true)(H:gm B0 w0 g O.get G w)(hg:k_ g ng){l:List Value}{args:Array Value}(hl:gV g l args.toList)
 {v:Value} {h:Ht} {aB:Nat} (hu:Jq ng j l O G=some (v,h,aB)) (fs:List Frame):qq P B0 w0 .normal g G f args w v h aB fs:=by
 unfold zw at hold
 rw[Bool.and_eq_true]at hold
 obtain⟨ai,hex⟩:=hold
 unfold XO at ai
 simp only[Bool.and_eq_true]at ai
 obtain⟨t1,t2,t3⟩:=ai
 have t1:=fa t1
 unfold Jq at hu
 split at hu
 case h_2=>cases hu
 rename_i A aM
 split at hu
 case h_2=>cases hu
 rename_i al ar
 cases ag:(xF al j.blocks&&CN j.G al)with
 |false=>rw[ag]at hu;cases hu
 |true=>
 rw[ag]at hu
 simp only[cond_true]at hu
 split at hu
 case h_2=>cases hu
 rename_i aX h1 aA ax
 cases hu
 rw[Bool.and_eq_true]at ag
 obtain⟨aK,aO⟩:=Bg (Mu 8) _ _ _ _ aM
 obtain⟨aq,aP⟩:=Mv _ _ _ ar
 let gc:=Cm g al
 have via:=Mw g al
 have ay:gV gc j.args args.toList:=aO gc g _ (via.sub aq) hl
 have aw:k_ gc ng:=fun i hi=>by
  have:=aq _ _ (aK _ _ (Wr hi))
  exact(via _ _ this).1.trans (hg i hi)
 have aG:gm w.heap.size w gc (Tr.nil:Ht).get j.G w:=by
  refine⟨pL.refl _ _,e9 _,fun b rb ro k=>?_,fun b o k=>(by cases k),fun b ms k=>(by cases k),fun b Z m gr k=>(by cases k),fun b1 b2 o1 o2 r r1 r2 _ k=>(by cases k),fun b x k=>?_⟩
  · simp only[gc,Cm]at k
    obtain⟨c,E,F⟩:=fD.1 k
    exact⟨Pc ag.2 E,(H.rH _ _ _ F).2⟩
  · simp only[gc,Cm]at k⊢
    obtain⟨c,E,F⟩:=fD.1 k
    rw[E]
    exact H.room _ _ F
 have aF:gm w.heap.size w gc (yi j.blocks .nil).get j.G w:=by
  refine Js (yk:=fun _=>True) j.blocks 0 .nil t2 aG (fun rb _ b o r1 k=>by cases k) (fun b _=>rfl) (fun p S N=>?_) (fun p S=>?_)
  · have:=Ck ag.1 p S N
    simp[gc,Cm,this]
  · obtain⟨b,Z,m,ab,ak,q3,_,ap⟩:=aP p S
    refine My (g:=g) (b:=b) (Z:=Z) (m:=m) (B0:=B0) q3 (fun _ _ _ _ _=>trivial) (fun rb ro k=>(H.live b _ ak).2 rb ro k) (fun x k=>?_) (fun lA ae=>ap gc g lA via ae)
    rw[Nat.zero_add]at k⊢
    obtain⟨p1,aj⟩:=via _ _ ab
    exact⟨p1▸k,aj⟩
 have am:=aN _ _ _ hi H.below.b H.base
 obtain⟨f',B,rest,x,hr⟩:=lV.G9 (zk ok (mX _ _ am) (FQ ok (mX _ _ am) n) aF aw ay fs (T8 j)) hex
 rcases B with B|⟨aY,eZ,e5,B,L⟩
 · obtain⟨m,B⟩:=B rest;rw[hr]at B;cases B
 have C:=B rest
 rw[hr]at C
 unfold T8 at C
 split at C
 case h_2=>cases C
 rename_i aS au
 split at C
 case h_2=>cases C
 rename_i ac av
 cases R:(E0 ac j.xG&&xF ac j.xG)with
 |false=>rw[R]at C;cases C
 |true=>
 rw[Bool.and_eq_true]at R
 obtain⟨v',w',K,ad,aI,aT,st⟩:=L
 have y:pL w.heap.size w w':=ad.below
 obtain⟨aU,aQ⟩:=Mu 8 _ _ _ _ au
 obtain⟨aL,aC⟩:=Mv _ _ _ av
 let gr:=Cm K ac
 have W:=Mw K ac
 have aJ:fK gr j.ud v':=aQ gr K v' (W.sub aL) aI
 let g':=Mx g G gr
 have u:∀b,b<G->g'.fW b=g.fW b:=fun b hb=>by simp[g',Mx,hb]
 have X:∀b,b<G->g'.room b=g.room b:=fun b hb=>by simp[g',Mx,hb]
 have z:∀b,G<=b->g'.fW b=gr.fW (b-G):=fun b hb=>by simp[g',Mx,Nat.not_lt.2 hb]
 have J:∀b,G<=b->g'.room b=gr.room (b-G):=fun b hb=>by simp[g',Mx,Nat.not_lt.2 hb]
 have hle:g.le g':=⟨fun b x k=>by rw[u b (H.rH b x.1 x.2 k).1];exact k,fun b x k=>X b (H.rH b x.1 x.2 k).1⟩
 have aa:Qs G gr g':=fun b _=>by
  have:G+b-G=b:=by omega
  rw[z _ (Nat.le_add_right _ _),J _ (Nat.le_add_right _ _),this]
  exact⟨rfl,rfl⟩
 have af:∀b c,look b ac=some c->b<j.Ms:=fun b c k=>by
  obtain⟨p,h1,D⟩:=Jr R.1 k
  have:=BP t3 p h1
  cases N:p.mG<;>simp[N]at this<;>omega
 have fresh:∀b rb ro,gr.fW b=some (rb,ro)->w.heap.size<=rb/\rb<w'.heap.size/\b<j.Ms:=fun b rb ro k=>by
  simp only[gr,Cm]at k
  obtain⟨c,E,F⟩:=fD.1 k
  obtain⟨p,h1,D⟩:=Jr R.1 E
  obtain⟨c2,Z,m,ab,ak,q3,ao,_⟩:=aC p h1
  rw[D,E]at ab;cases ab
  obtain⟨jo,_,a3⟩:=(ad.live c _ ak).2 rb ro F
  obtain⟨_,_,_,_,_,_,ah,_⟩:=a3.list
  exact⟨ah (ao rfl),(ad.rH _ _ _ F).2,af b c E⟩
 have aD:gm B0 w0 g' O.get (G+j.Ms) w':=by
  refine H.later y hle (gv _ _) u (fun b rb ro k=>?_) (fun b x k=>?_)
  · by_cases hb:b<G
    · rw[u b hb]at k
      have:=(H.rH _ _ _ k).2
      have:=y.b.size
      exact⟨by omega,by omega⟩
    · rw[z b (Nat.not_lt.1 hb)]at k
      obtain⟨_,aj,aV⟩:=fresh _ _ _ k
      exact⟨by omega,aj⟩
  · by_cases hb:b<G
    · rw[X b hb]at k;rw[u b hb];exact H.room b x k
    · rw[J b (Nat.not_lt.1 hb)]at k
      rw[z b (Nat.not_lt.1 hb)]
      simp only[gr,Cm]at k⊢
      obtain⟨c,E,F⟩:=fD.1 k
      rw[E]
      exact ad.room _ _ F
 have aE:gm B0 w0 g' h.get (G+j.Ms) w':=by
  refine Pd (yk:=fun rb=>w.heap.size<=rb) (hi:=j.Ms) (e9 _) j.xG 0 O h t3 aD (fun rb aR b o r1 E F=>?_) (fun b hb=>?_) (fun p S N=>?_) (fun p S aW az=>?_) ax
  · exfalso
    have hb:=(H.live b o E).1
    rw[u b hb]at F
    have:=(H.rH _ _ _ F).2
    omega
  · cases hx:O.get b with
    |none=>rfl
    |some o=>have:=(H.live b o hx).1;omega
  · rw[z _ (by omega)]
    have:G+p.num+1-G=p.num+1:=by omega
    rw[this]
    have:=Ck R.2 p S N
    simp[gr,Cm,this]
  · obtain⟨c,Z,m,ab,ak,q3,ao,ap⟩:=aC p S
    refine My (g:=K) (b:=c) (Z:=Z) (m:=m) (B0:=w.heap.size) q3 (fun rb ro jo _ a3=>?_) (fun rb ro k=>(ad.live c _ ak).2 rb ro k) (fun x k=>?_) (fun lA ae=>?_)
    · obtain⟨_,_,_,_,_,_,ah,_⟩:=a3.list
      exact ah (ao rfl)
    · rw[z _ (Nat.le_add_right _ _)]at k
      rw[J _ (Nat.le_add_right _ _)]
      have:G+p.num-G=p.num:=by omega
      rw[this]at k⊢
      obtain⟨p1,aj⟩:=W _ _ ab
      exact⟨p1▸k,aj⟩
    · exact Ih (RR G 8) _ _ az gr g' lA aa (ap gr K lA W ae)
 refine⟨v',w',g',aE,RR G 8 _ _ aA gr g' v' aa aJ,⟨⟨hle,gv _ _,fun b hb=>?_⟩,⟨y.b.size,fun rb jA _=>y.b.block rb jA⟩,fun b rb ro k=>?_⟩,st⟩
 · by_cases M:b<G
   · rw[u b M]at hb;exact .inl hb
   · exact .inr (Nat.not_lt.1 M)
 · by_cases M:b<G
   · rw[u b M]at k;exact .inl ⟨b,ro,k⟩
   · rw[z b (Nat.not_lt.1 M)]at k
     exact .inr (fresh _ _ _ k).1
theorem Ko:∀{oO:List wN} {l:List Value} {O:Ht} {G:Nat} {r:Value×Ht×Nat},zn ng oO l O G=some r->∃b∈oO,Jq ng b l O G=some r
 |[],_,_,_,_,h=>by cases h
 |b::oO,l,O,G,r,h=>by
  simp only[zn]at h
  split at h
  · rename_i e hr
    cases h
    exact⟨b,fh ..,hr⟩
  · obtain⟨t,h1,D⟩:=Ko h
    exact⟨t,fw _ h1,D⟩
theorem Ws{u:Nat->World->Prop}(y:Lx u)(hi:u B0 w0)(ok:mP P ng e)(mX:∀B0 w0,u B0 w0->r9 P ng B0 w0 e){f:FuncId}{oO:List wN}(hold:∀m∈oO,∃n j,zw ng e f n j m=true)(l:List Value)(args:Array Value)(O:Ht)(G:Nat)(g:Gm)(w:World)(H:gm B0 w0 g O.get G w)(hg:k_ g ng)(hl:gV g l args.toList):
 (∀Z k b,(yj ng oO).run l O G Z k b=b)\/∃p:List Nat->KC->R,(∀Z k b,(yj ng oO).run l O G Z k b=p Z k)/\∀fs,tL P B0 w0 .normal g G f args w fs p:=by
 cases hu:zn ng oO l O G with
 |none=>exact .inl fun Z k b=>by simp only[yj,hu]
 |some r=>
  obtain⟨v,h,o⟩:=r
  obtain⟨m,h1,D⟩:=Ko hu
  obtain⟨n,j,h3⟩:=hold m h1
  refine .inr ⟨fun Z k=>k v h o Z,fun Z k b=>by simp only[yj,hu],fun fs k=>.here (.inr ⟨v,h,o,fun Z=>rfl,?_⟩)⟩
  exact Qw y hi ok mX h3 H hg hl D fs
end
end
end Sw
namespace Sw
noncomputable section
open Go Go.RowKit
def Mz{α:Type}:Nat->List α->Tr α->Tr α
 |_,[],t=>t
 |i,x::xs,t=>Mz (i+1) xs (t.set i (some x))
theorem Pf{α:Type}:∀(l:List α) (i:Nat) (t:Tr α) (j:Nat),(Mz i l t).get j=if i<=j/\j<i+l.length then l[j-i]? else t.get j
 |[],i,t,j=>by simp[Mz];omega
 |x::xs,i,t,j=>by
  have b:∀k,(t.set i (some x)).get k=if k=i then some x else t.get k:=fun k=>by
   show(t.zQ (i+1) (some x)).yN (k+1)=if k=i then some x else t.yN (k+1)
   rw[Tr.Kc t (some x) _ _ (by omega) (by omega)]
   by_cases h:k=i
   · rw[if_pos h,if_pos (by omega)]
   · rw[if_neg h,if_neg (by omega)]
  rw[Mz,Pf xs (i+1)]
  by_cases h:i+1<=j/\j<i+1+xs.length
  · rw[if_pos h,if_pos ⟨by omega,by simp;omega⟩]
    have:j-i=(j-(i+1))+1:=by omega
    rw[this];simp
  · rw[if_neg h,b]
    by_cases hj:j=i
    · subst hj
      rw[if_pos rfl,if_pos ⟨Nat.le_refl _,by simp⟩];simp
    · rw[if_neg hj,if_neg (by simp;omega)]
theorem wZ{α:Type}(l:List α)(j:Nat):(Mz 0 l .nil).get j=l[j]?:=by
 rw[Pf]
 by_cases h:j<l.length
 · rw[if_pos ⟨Nat.zero_le _,by omega⟩];simp
 · rw[if_neg (by omega)]
   have:(Tr.nil:Tr α).get j=none:=rfl
   rw[this];simp;omega
def YY(nt:Nat):ResultVar->Bool
 |.tmp i=>Nat.blt i nt
 |.cell i _=>Nat.blt i nt
def zZ(ng:Nat)(fn:Func):Bool:=match fn.body with
 |none=>false
 |some b=>Nat.ble fn.ntmps 512&&(codeOk ng fn.ntmps b&&(fn.results.toList.all (YY fn.ntmps)&&!(fn.name== "runtime.NumGoroutine")))
def Ly(fn:Func):Option wj:=match fn.body with
 |some b=>some ⟨b,fn.ntmps,fn.results.toList⟩
 |none=>none
def MA(i:TypeInfo):Bool:=match i.zero with
 |some z=>flat z&&Nat.beq z.cells.size i.size
 |none=>true
def Bh(T:Ty)(i:TypeInfo):Bool:=match i.desc with
 |.struct fs=>fs.toList.all fun f=>(T.size f.type).isSome
 |_=>true
def Ii(T:Ty)(t:TypeId)(name:String)(f:FuncId):Bool:=match T.kd t,T.jh t with
 |some i,some d=>(match i.methods.find? (·.name==name)with
  |some m=>m.path.isEmpty&&((match m.func with|some (g,p)=>Nat.beq g f&&!p|none=>false)&&(match d with|.pointer _=>false|_=>true))
  |none=>false)
 |_,_=>false
theorem Qx{P:Program}{T:Ty}(ok:T.Ok P){t:TypeId}{name:String}{f:FuncId}(h:Ii T t name f=true)(v:Value)(w:World):(method (P.types.size+Made.depth) t v name).run P w=.ok (f,v) w:=by
 unfold Ii at h
 split at h
 · rename_i i d hi hd
   split at h
   · rename_i m hm
     simp only[Bool.and_eq_true]at h
     obtain⟨h1,D,h3⟩:=h
     have e:m.path=#[]:=by simpa using h1
     cases b:m.func with
     |none=>rw[b]at D;cases D
     |some j=>
      obtain⟨g,p⟩:=j
      rw[b]at D
      simp only[Bool.and_eq_true,Bool.not_eq_true']at D
      obtain⟨D,rfl⟩:=D
      have:=beq_eq D
      subst this
      have MB:0<Made.depth:=by decide
      obtain⟨n,hn⟩:∃n,P.types.size+Made.depth=n+1:=⟨P.types.size+Made.depth-1,by omega⟩
      rw[hn]
      unfold method
      have r1:(typeInfo t).run P w=.ok i w:=ok.rT hi w
      rw[fk r1,hm]
      simp only[e,b]
      have r2:(follow (#[]:Array FieldStep).toList t (.val v)).run P w=.ok (t,.val v) w:=rfl
      rw[fk r2]
      simp only
      have o:(receiverAt t (.val v) false (if(#[]:Array FieldStep).isEmpty then some ((name.splitOn ".").getLastD name)else none)).run P w=.ok v w:=by
       unfold receiverAt
       rw[fk (ok.gQ hd w)]
       cases d<;>first|(cases h3;done)|rfl
      rw[fk o];rfl
   · cases h
 · cases h
theorem YZ{P:Program}{ng:Nat}{T:Ty}{F:FuncId->Option Func}{M:TypeId->String->Option FuncId}{K:FuncId->Option Jb}{low:Nat}(hT:T.Ok P)(j:T.Cx)(m:∀f fn,F f=some fn->P.funcs[f]?=some fn/\zZ ng fn=true)
 (o:∀t n f,M t n=some f->Ii T t n f=true):mP P ng ⟨T,fun f=>(F f).bind Ly,M,K,low⟩:=by
 refine⟨hT,j,fun f fi h=>?_,fun t n f h=>Qx hT (o t n f h)⟩
 obtain⟨fn,h1,D⟩:=fD.1 h
 obtain⟨h3,h4⟩:=m f fn h1
 unfold Ly at D
 unfold zZ at h4
 cases hb:fn.body with
 |none=>rw[hb]at D;cases D
 |some b=>
  rw[hb]at D h4
  cases D
  simp only[Bool.and_eq_true,Bool.not_eq_true']at h4
  obtain⟨p,u,e,y⟩:=h4
  refine⟨fn,h3,hb,rfl,rfl,y,fa p,u,?_⟩
  rw[List.all_eq_true]at e⊢
  intro r hr
  have:=e r hr
  cases r<;>exact this
theorem Y0{P:Program}{T:Ty}(h:∀t i,T.kd t=some i->P.info? t=some i/\MA i=true/\Bh T i=true)
 (he:∀t,T.GK t=true->P.stoodInHeld t=false/\P.eqGuardType P.depth t=false/\∀fs,P.underlying t=some (.struct fs)->∀f∈fs.toList,f.name≠ "_"):T.Ok P/\T.Cx:=by
 refine⟨⟨fun t i k=>(h t i k).1,fun t i z k b=>?_,fun t i z k b=>?_,he⟩,fun t fs hu f hf=>?_⟩
 · have:=(h t i k).2.1
   unfold MA at this
   rw[b]at this
   simp only[Bool.and_eq_true]at this
   exact this.1
 · have:=(h t i k).2.1
   unfold MA at this
   rw[b]at this
   simp only[Bool.and_eq_true]at this
   exact beq_eq this.2
 · have key:∀i,Bh T i=true->i.desc=.struct fs->∃n,T.size f.type=some n:=fun i hc hd=>by
    unfold Bh at hc
    rw[hd]at hc
    exact Option.isSome_iff_exists.1 (fE.1 hc f hf)
   unfold Ty.jh at hu
   split at hu
   · rename_i i hi
     split at hu
     · rename_i u hd
       obtain⟨i2,D,h3⟩:=fx.1 hu
       exact key i2 (h u i2 D).2.2 h3
     · exact key i (h t i hi).2.2 (fS hu)
   · cases hu
end
end Sw
namespace Sw
noncomputable section
open Go Go.RowKit
def mo(e:Env)(fm:Fm)(c:Code)(s:St)(o:Nat)(j:St):Prop:=∃b,∀n,b<=n->∀Z,ev e n fm c (s.at Z)=.ok (o,j.at Z)
def Bi(e:Env)(f:FuncId)(l:List Value)(O:Ht)(G:Nat)(v:Value)(eZ:Ht)(e5:Nat):Prop:=
 ∃b,∀n,b<=n->∀Z k,nh e (ev e n) f l O G Z k=k v eZ e5 Z
theorem Wt(e:Env)(n:Nat)(fm:Fm)(c:Code)(s:St):ev e (n+1) fm c s=vp c e (ev e n) fm s:=rfl
section
variable {e:Env}{fm:Fm}{s s1 s2:St}{o:Nat}
theorem mo.step{c:Code}(h:∃b,∀n,b<=n->∀Z,vp c e (ev e n) fm (s.at Z)=.ok (o,s1.at Z)):mo e fm c s o s1:=by
 obtain⟨b,h⟩:=h
 refine⟨b+1,fun n hn Z=>?_⟩
 obtain⟨m,rfl⟩:∃m,n=m+1:=⟨n-1,by omega⟩
 rw[Wt]
 exact h m (by omega) Z
theorem mo.skip:mo e fm .skip s 0 s:=.step ⟨0,fun _ _ _=>rfl⟩
theorem mo.exit{i:Nat}:mo e fm (.exit i) s (i+2) s:=.step ⟨0,fun _ _ _=>rfl⟩
theorem mo.ret:mo e fm .ret s 1 s:=.step ⟨0,fun _ _ _=>rfl⟩
theorem Pg(a b:Code)(e:Env)(rec:Rec)(fm:Fm)(s:St):vp (.seq a b) e rec fm s=(match rec fm a s with
 |.ok (o,s1)=>(match o with
  |0=>rec fm b s1
  |o+1=>.ok (o+1,s1))
 |.gk m=>.gk m):=rfl
theorem mo.seq{a b:Code}(h:mo e fm a s 0 s1)(k:mo e fm b s1 o s2):mo e fm (.seq a b) s o s2:=by
 obtain⟨j,h⟩:=h
 obtain⟨n2,k⟩:=k
 refine .step ⟨max j n2,fun n hn Z=>?_⟩
 rw[Pg,h n (by omega) Z]
 exact k n (by omega) Z
theorem mo.GY{a b:Code}(h:mo e fm a s (o+1) s1):mo e fm (.seq a b) s (o+1) s1:=by
 obtain⟨j,h⟩:=h
 refine .step ⟨j,fun n hn Z=>?_⟩
 rw[Pg,h n hn Z]
theorem T_(x:Operand)(a b:Code)(e:Env)(rec:Rec)(fm:Fm)(s:St):vp (.cond x a b) e rec fm s=(match (fV x).run s.I with
 |.bool c=>(match c with
  |true=>rec fm a s
  |false=>rec fm b s)
 |_=>.gk 0):=rfl
theorem mo.cond{x:Operand}{a b:Code}{t:Bool}(hx:(fV x).run s.I=.bool t)(h:mo e fm (if t then a else b) s o s1):mo e fm (.cond x a b) s o s1:=by
 obtain⟨j,h⟩:=h
 refine .step ⟨j,fun n hn Z=>?_⟩
 have hx:(fV x).run (s.at Z).I=.bool t:=hx
 rw[T_,hx]
 cases t with
 |true=>exact h n hn Z
 |false=>exact h n hn Z
theorem mo.Y1{x:Operand}{a b:Code}(hx:(fV x).run s.I=.bool true)(h:mo e fm a s o s1):mo e fm (.cond x a b) s o s1:=.cond hx h
theorem mo.Y2{x:Operand}{a b:Code}(hx:(fV x).run s.I=.bool false)(h:mo e fm b s o s1):mo e fm (.cond x a b) s o s1:=.cond hx h
theorem Kp(id:Nat)(b:Code)(e:Env)(rec:Rec)(fm:Fm)(s:St):vp (.block id b) e rec fm s=(match rec fm b s with
 |.ok (o,s1)=>bif Nat.beq o (id+2)then .ok (0,s1)else .ok (o,s1)
 |.gk m=>.gk m):=rfl
theorem mo.EO{id:Nat}{b:Code}(h:mo e fm b s (id+2) s1):mo e fm (.block id b) s 0 s1:=by
 obtain⟨j,h⟩:=h
 refine .step ⟨j,fun n hn Z=>?_⟩
 rw[Kp,h n hn Z]
 simp only[Nat.beq_refl,cond_true]
theorem mo.block{id:Nat}{b:Code}(h:mo e fm b s o s1)(jB:Nat.beq o (id+2)=false):mo e fm (.block id b) s o s1:=by
 obtain⟨j,h⟩:=h
 refine .step ⟨j,fun n hn Z=>?_⟩
 rw[Kp,h n hn Z]
 simp only[jB,cond_false]
theorem MC(b:Code)(e:Env)(rec:Rec)(fm:Fm)(s:St):vp (.loop b) e rec fm s=(match rec fm b s with
 |.ok (o,s1)=>(match o with
  |0=>rec fm (.loop b) s1
  |o+1=>.ok (o+1,s1))
 |.gk m=>.gk m):=rfl
theorem mo.loop{b:Code}(h:mo e fm b s 0 s1)(k:mo e fm (.loop b) s1 o s2):mo e fm (.loop b) s o s2:=by
 obtain⟨j,h⟩:=h
 obtain⟨n2,k⟩:=k
 refine .step ⟨max j n2,fun n hn Z=>?_⟩
 rw[MC,h n (by omega) Z]
 exact k n (by omega) Z
theorem mo.EN{b:Code}(h:mo e fm b s (o+1) s1):mo e fm (.loop b) s (o+1) s1:=by
 obtain⟨j,h⟩:=h
 refine .step ⟨j,fun n hn Z=>?_⟩
 rw[MC,h n hn Z]
theorem mo.scope{b:Code}(h:mo e fm b s o s1):mo e fm (.scope b) s o s1:=by
 obtain⟨j,h⟩:=h
 exact .step ⟨j,fun n hn Z=>h n hn Z⟩
theorem mo.region{id:Nat}{ops:Array Oper}(h:∃b,∀n,b<=n->∀Z,wk (gW ops.toList ops.toList) e (ev e n) fm (s.at Z)=.ok (0,s1.at Z)):mo e fm (.region id ops false) s 0 s1:=by
 obtain⟨j,h⟩:=h
 exact .step ⟨j,fun n hn Z=>h n hn Z⟩
theorem mo.draw{id:Nat}{ops:Array Oper}(h:∃b,∀n,b<=n->∀Z,oR (Ah (vY ops.toList) ops.toList (xZ (vY ops.toList) ops.toList).r6) e (ev e n) fm (s.at Z)=.ok (0,s1.at Z)):mo e fm (.region id ops true) s 0 s1:=by
 obtain⟨j,h⟩:=h
 exact .step ⟨j,fun n hn Z=>h n hn Z⟩
theorem Bi.Jg{f:FuncId}{fi:wj}{l:List Value}{O:Ht}{G:Nat}{t:Tm}{b:St}{vs:List Value}{o:Nat}(hk:e.K f=none)(hf:e.F f=some fi)(hl:Nat.ble l.length fi.nt=true)(m:qC zj l Tm.undef=some t)
 (hb:mo e ⟨f,fi.nt,none⟩ fi.body ⟨t,[],O,G,[]⟩ o b) (j:Nat.ble o 1=true) (hd:b.ds=[]) (hr:mS e.T b.O.get b.I fi.ud=some vs):Bi e f l O G (qE vs) b.O b.G:=by
 obtain⟨p,hb⟩:=hb
 refine⟨p,fun n hn Z k=>?_⟩
 have hb:=hb n hn Z
 simp only[nh,hk,ue,hf,sI,hl,cond_true,m]
 have hb:ev e n ⟨f,fi.nt,none⟩ fi.body ⟨t,[],O,G,Z⟩=.ok (o,b.at Z):=hb
 rw[hb]
 simp only[St.at,j,cond_true,hd,lK,yQ,hr]
theorem Bi.Wu{ng:Nat}{f:FuncId}{oO:List wN}{l:List Value}{O eZ:Ht}{G e5:Nat}{v:Value}(hk:e.K f=some (yj ng oO))(hu:zn ng oO l O G=some (v,eZ,e5)):Bi e f l O G v eZ e5:=
 ⟨0,fun n _ Z k=>by simp only[nh,hk,yj,hu]⟩
end
section
variable {all:List Oper}{e:Env}{rec:Rec}{fm:Fm}{I:Tm}{ds:List Deferred}{O:Ht}{G:Nat}{Z:List Nat}{k:St->R}{d:Option Tmp}{ty:TypeId}{pos:String}{j0:Array Edge}
end
theorem MD(all:List Oper)(o:Oper)(os:List Oper):gW all (o::os)=iJ all o::gW all os:=rfl
theorem Ua(c:Cl)(l:List Cl)(e:Env)(rec:Rec)(fm:Fm)(s:St)(Z:List Nat):wk (c::l) e rec fm (s.at Z)=c.run e rec fm s.I s.ds s.O s.G Z fun s=>wk l e rec fm s:=rfl
end
end Sw
namespace Sw
noncomputable section
open Go Go.RowKit
def WP(e:Env)(fm:Fm)(c:Code)(s:St)(Q:Nat->St->Prop):Prop:=∃o b,mo e fm c s o b/\Q o b
def WC(e:Env)(fm:Fm)(c:Cl)(s:St)(Q:St->Prop):Prop:=∃s1,(∃b,∀n,b<=n->∀Z k,c.run e (ev e n) fm s.I s.ds s.O s.G Z k=k (s1.at Z))/\Q s1
def WO(e:Env)(fm:Fm)(l:List Cl)(s:St)(Q:St->Prop):Prop:=∃s1,(∃b,∀n,b<=n->∀Z,wk l e (ev e n) fm (s.at Z)=.ok (0,s1.at Z))/\Q s1
def WN(e:Env)(fm:Fm)(l:List Cl)(s:St)(Q:St->Prop):Prop:=∃s1,(∃b,∀n,b<=n->∀Z k,yT l e (ev e n) fm (s.at Z) k=k (s1.at Z))/\Q s1
def WD(e:Env)(fm:Fm)(l:List Ka)(s:St)(Q:St->Prop):Prop:=∃s1,(∃b,∀n,b<=n->∀Z,oR l e (ev e n) fm (s.at Z)=.ok (0,s1.at Z))/\Q s1
def iX(e:Env)(l:List tq)(s:St):Prop:=∀Z k,xh l e (s.at Z) k=k
def WF(e:Env)(f:FuncId)(l:List Value)(O:Ht)(G:Nat)(Q:Value->Ht->Nat->Prop):Prop:=∃v eZ e5,Bi e f l O G v eZ e5/\Q v eZ e5
section
variable {e:Env}{fm:Fm}{s s1:St}{Q:St->Prop}{W:Nat->St->Prop}
theorem WP.mono{c:Code}{b:Nat->St->Prop}(h:WP e fm c s W)(k:∀o s,W o s->b o s):WP e fm c s b:=by
 obtain⟨o,j,h1,D⟩:=h;exact⟨o,j,h1,k _ _ D⟩
theorem WF.mono{f:FuncId}{l:List Value}{O:Ht}{G:Nat}{A B:Value->Ht->Nat->Prop}(h:WF e f l O G A)(k:∀v O G,A v O G->B v O G):WF e f l O G B:=by
 obtain⟨v,eZ,e5,h1,D⟩:=h;exact⟨v,eZ,e5,h1,k _ _ _ D⟩
theorem WP.seq{a b:Code}(h:WP e fm a s fun o s1=>match o with
 |0=>WP e fm b s1 W
 |o+1=>W (o+1) s1):WP e fm (.seq a b) s W:=by
 obtain⟨o,s1,h1,D⟩:=h
 cases o with
 |zero=>obtain⟨o2,s2,h3,h4⟩:=D;exact⟨o2,s2,h1.seq h3,h4⟩
 |succ o=>exact⟨o+1,s1,h1.GY,D⟩
theorem WP.skip(h:W 0 s):WP e fm .skip s W:=⟨0,s,.skip,h⟩
theorem WP.ret(h:W 1 s):WP e fm .ret s W:=⟨1,s,.ret,h⟩
theorem WP.exit{i:Nat}(h:W (i+2) s):WP e fm (.exit i) s W:=⟨_,s,.exit,h⟩
theorem WP.cond{x:Operand}{a b:Code}(t:Bool)(hx:(fV x).run s.I=.bool t)(h1:t=true->WP e fm a s W)(D:t=false->WP e fm b s W):WP e fm (.cond x a b) s W:=by
 cases t with
 |true=>obtain⟨o,j,h,k⟩:=h1 rfl;exact⟨o,j,.Y1 hx h,k⟩
 |false=>obtain⟨o,j,h,k⟩:=D rfl;exact⟨o,j,.Y2 hx h,k⟩
theorem WP.block{id:Nat}{b:Code}(h:WP e fm b s fun o s1=>W (bif Nat.beq o (id+2)then 0 else o) s1):WP e fm (.block id b) s W:=by
 obtain⟨o,s1,h1,D⟩:=h
 cases hb:Nat.beq o (id+2)with
 |true=>
  rw[hb]at D
  obtain rfl:=fj hb
  exact⟨0,s1,.EO h1,D⟩
 |false=>rw[hb]at D;exact⟨o,s1,.block h1 hb,D⟩
theorem WP.loop{b:Code}(p:Nat->St->Prop)(hb:∀m s,p m s->WP e fm b s fun o s1=>match o with
 |0=>∃j,j<m/\p j s1
 |o+1=>W (o+1) s1):∀(m:Nat) {s:St},p m s->WP e fm (.loop b) s W:=by
 intro m
 induction m using Nat.strongRecOn with
 |_ m ih=>
  intro s hs
  obtain⟨o,s1,h1,D⟩:=hb m s hs
  cases o with
  |zero=>
   obtain⟨j,hm,hi⟩:=D
   obtain⟨o2,s2,h3,h4⟩:=ih j hm hi
   exact⟨o2,s2,.loop h1 h3,h4⟩
  |succ o=>exact⟨o+1,s1,.EN h1,D⟩
theorem WP.region{id:Nat}{ops:Array Oper}(h:WO e fm (gW ops.toList ops.toList) s (W 0)):WP e fm (.region id ops false) s W:=by
 obtain⟨s1,h1,D⟩:=h;exact⟨0,s1,.region h1,D⟩
theorem WP.draw{id:Nat}{ops:Array Oper}(h:WD e fm (Ah (vY ops.toList) ops.toList (xZ (vY ops.toList) ops.toList).r6) s (W 0)):WP e fm (.region id ops true) s W:=by
 obtain⟨s1,h1,D⟩:=h;exact⟨0,s1,.draw h1,D⟩
theorem WO.nil{all:List Oper}(h:Q s):WO e fm (gW all []) s Q:=⟨s,⟨0,fun _ _ _=>rfl⟩,h⟩
theorem WO.cons{all:List Oper}{o:Oper}{os:List Oper}(h:WC e fm (iJ all o) s fun s1=>WO e fm (gW all os) s1 Q):WO e fm (gW all (o::os)) s Q:=by
 obtain⟨s1,⟨b,h1⟩,s2,⟨n2,D⟩,q⟩:=h
 exact⟨s2,⟨max b n2,fun n hn Z=>by rw[MD,Ua,h1 n (by omega)];exact D n (by omega) Z⟩,q⟩
theorem WN.nil(h:Q s):WN e fm [] s Q:=⟨s,⟨0,fun _ _ _ _=>rfl⟩,h⟩
theorem Wv(c:Cl)(l:List Cl)(e:Env)(rec:Rec)(fm:Fm)(s:St)(Z:List Nat)(k:St->R):yT (c::l) e rec fm (s.at Z) k=c.run e rec fm s.I s.ds s.O s.G Z fun s=>yT l e rec fm s k:=rfl
theorem WN.cons{c:Cl}{l:List Cl}(h:WC e fm c s fun s1=>WN e fm l s1 Q):WN e fm (c::l) s Q:=by
 obtain⟨s1,⟨b,h1⟩,s2,⟨n2,D⟩,q⟩:=h
 exact⟨s2,⟨max b n2,fun n hn Z k=>by rw[Wv,h1 n (by omega)];exact D n (by omega) Z k⟩,q⟩
theorem K0(ne:List Cl)(qK:List tq)(c:Cl)(b:List Ka)(e:Env)(rec:Rec)(fm:Fm)(s:St):oR (⟨ne,qK,some c⟩::b) e rec fm s=
 yT ne e rec fm s (fun st1=>xh qK e st1 (c.run e rec fm st1.I st1.ds st1.O st1.G st1.Z (fun st2=>oR b e rec fm st2))):=rfl
theorem K3(ne:List Cl)(qK:List tq)(b:List Ka)(e:Env)(rec:Rec)(fm:Fm)(s:St):oR (⟨ne,qK,none⟩::b) e rec fm s=
 yT ne e rec fm s (fun st1=>xh qK e st1 (.ok (0,st1))):=rfl
theorem WD.kQ{ne:List Cl}{qK:List tq}{c:Cl}{b:List Ka}(h:WN e fm ne s fun s1=>iX e qK s1/\WC e fm c s1 fun s2=>WD e fm b s2 Q):WD e fm (⟨ne,qK,some c⟩::b) s Q:=by
 obtain⟨s1,⟨j,h1⟩,hk,s2,⟨n2,D⟩,o,⟨m,h3⟩,q⟩:=h
 refine⟨o,⟨max j (max n2 m),fun n hn Z=>?_⟩,q⟩
 rw[K0,h1 n (by omega),hk]
 show c.run e (ev e n) fm s1.I s1.ds s1.O s1.G Z _=_
 rw[D n (by omega)]
 exact h3 n (by omega) Z
theorem WD.last{ne:List Cl}{qK:List tq}{j:List Ka}(h:WN e fm ne s fun s1=>iX e qK s1/\Q s1):WD e fm (⟨ne,qK,none⟩::j) s Q:=by
 obtain⟨s1,⟨b,h1⟩,hk,q⟩:=h
 refine⟨s1,⟨b,fun n hn Z=>?_⟩,q⟩
 rw[K3,h1 n hn,hk]
theorem iX.nil:iX e [] s:=fun _ _=>rfl
theorem iX.cons{c:tq}{l:List tq}(h:∀k,c.run e.T s.O s.G s.I k=k)(hl:iX e l s):iX e (c::l) s:=fun Z k=>by
 have:xh (c::l) e (s.at Z) k=c.run e.T s.O s.G s.I (xh l e (s.at Z) k):=rfl
 rw[this,h,hl]
end
section
variable {e:Env}{fm:Fm}{c:Cl}{I:Tm}{ds:List Deferred}{O:Ht}{G:Nat}{gS:List Nat}{Q:St->Prop}
theorem WC.val(d:Nat)(v:Value)(h:∀rec Z k,c.run e rec fm I ds O G Z k=k ⟨I.set d v,ds,O,G,Z⟩)(q:Q ⟨I.set d v,ds,O,G,gS⟩):WC e fm c ⟨I,ds,O,G,gS⟩ Q:=
 ⟨⟨I.set d v,ds,O,G,gS⟩,⟨0,fun n _ Z k=>h (ev e n) Z k⟩,q⟩
theorem WC.me(d:Nat)(o:Option Value){v:Value}(h:∀rec Z k,c.run e rec fm I ds O G Z k=kI o (fun v=>k ⟨I.set d v,ds,O,G,Z⟩))(b:o=some v)(q:Q ⟨I.set d v,ds,O,G,gS⟩):WC e fm c ⟨I,ds,O,G,gS⟩ Q:=
 .val d v (fun rec Z k=>by rw[h,b];rfl) q
def jg:ub->Ht->Ht
 |[],h=>h
 |(b,o)::e,h=>jg e (h.set b o)
theorem Ij:∀(e:ub) (h:Ht),zS 0 e h=some (jg e h)
 |[],h=>rfl
 |(b,o)::e,h=>by
  show(bif Nat.ble 0 b then zS 0 e (h.set b o)else none)=_
  rw[Nat.ble_eq_true_of_le (Nat.zero_le b),cond_true,Ij e];rfl
theorem WC.kQ(d:Nat)(v:Value)(jC:ub)(m:Nat)(hl:e.low=0)(h:∀rec Z k,c.run e rec fm I ds O G Z k=tK (fun t v=>t.set d v) e.low I ds O G Z k (v,jC,m))(q:Q ⟨I.set d v,ds,jg jC O,G+m,gS⟩):WC e fm c ⟨I,ds,O,G,gS⟩ Q:=
 ⟨⟨I.set d v,ds,jg jC O,G+m,gS⟩,⟨0,fun n _ Z k=>by show c.run e (ev e n) fm I ds O G Z k=_;rw[h (ev e n) Z k,hl];simp only[tK,Ij,St.at]⟩,q⟩
theorem WC.XR(d:Nat)(o:Option p0){v:Value}{jC:ub}{m:Nat}(hl:e.low=0)(h:∀rec Z k,c.run e rec fm I ds O G Z k=qB o (tK (fun t v=>t.set d v) e.low I ds O G Z k))(b:o=some (v,jC,m))(q:Q ⟨I.set d v,ds,jg jC O,G+m,gS⟩):WC e fm c ⟨I,ds,O,G,gS⟩ Q:=
 .kQ d v jC m hl (fun rec Z k=>by rw[h,b];rfl) q
theorem WC.Kq(d:Nat)(o:Option p0){v:Value}{jC:ub}{m:Nat}(hl:e.low=0)(h:∀rec Z k,c.run e rec fm I ds O G Z k=qB o (fun f=>match f with
 |(v,jC,m)=>match zS e.low jC O with
  |some h=>k ⟨I.set d v,ds,h,G+m,Z⟩
  |none=>.gk 0)) (b:o=some (v,jC,m)) (q:Q ⟨I.set d v,ds,jg jC O,G+m,gS⟩):WC e fm c ⟨I,ds,O,G,gS⟩ Q:=
 ⟨⟨I.set d v,ds,jg jC O,G+m,gS⟩,⟨0,fun n _ Z k=>by show c.run e (ev e n) fm I ds O G Z k=_;rw[h (ev e n) Z k,b,hl];simp only[qB,Ij,St.at]⟩,q⟩
theorem WC.call(d:Nat)(f:FuncId)(l:List Value)(h:∀rec Z k,c.run e rec fm I ds O G Z k=nh e rec f l O G Z (fun v O G Z=>k ⟨I.set d v,ds,O,G,Z⟩))
 (hf:WF e f l O G fun v O G=>Q ⟨I.set d v,ds,O,G,gS⟩):WC e fm c ⟨I,ds,O,G,gS⟩ Q:=by
 obtain⟨v,eZ,e5,⟨b,h1⟩,q⟩:=hf
 exact⟨⟨I.set d v,ds,eZ,e5,gS⟩,⟨b,fun n hn Z k=>by show c.run e (ev e n) fm I ds O G Z k=_;rw[h (ev e n) Z k,h1 n hn];rfl⟩,q⟩
theorem WF.body{f:FuncId}{fi:wj}{l:List Value}{t:Tm}{R:Value->Ht->Nat->Prop}(hk:e.K f=none)(hf:e.F f=some fi)(hl:Nat.ble l.length fi.nt=true)(m:qC zj l Tm.undef=some t)
 (hb:WP e ⟨f,fi.nt,none⟩ fi.body ⟨t,[],O,G,[]⟩ fun o b=>Nat.ble o 1=true/\b.ds=[]/\∃vs,mS e.T b.O.get b.I fi.ud=some vs/\R (qE vs) b.O b.G):WF e f l O G R:=by
 obtain⟨o,b,h1,D,h3,vs,h4,j⟩:=hb
 exact⟨_,_,_,.Jg hk hf hl m h1 D h3 h4,j⟩
theorem WF.XS{ng:Nat}{f:FuncId}{oO:List wN}{l:List Value}{v:Value}{eZ:Ht}{e5:Nat}{R:Value->Ht->Nat->Prop}(hk:e.K f=some (yj ng oO))(hu:zn ng oO l O G=some (v,eZ,e5))(q:R v eZ e5):WF e f l O G R:=
 ⟨_,_,_,.Wu hk hu,q⟩
end
theorem j_{T:Ty}{O:Hp}{t:TypeId}{b o:Nat}{cells:List Value}{m:gi}{v:Value}(e:T.agg t=some false)(hb:O b=some (.cells cells m))(hc:cells[o]?=some v):j9 T O t (.pointer (some ⟨b,o,none⟩))=some v:=by
 simp only[j9,hb,e,hc]
theorem jO{T:Ty}{O:Hp}{t:TypeId}{b o n:Nat}{cells l:List Value}{m:gi}(e:T.agg t=some true)(hs:T.size t=some n)(hb:O b=some (.cells cells m))(hc:lH n (cells.drop o)=some l):j9 T O t (.pointer (some ⟨b,o,none⟩))=some (.agg l.toArray):=by
 simp only[j9,hb,e,hs,Option.bind_some,hc,Option.map_some]
theorem K4{T:Ty}{t el:TypeId}{b o len c i s:Nat}{k:IntKind}(hu:T.jh t=some (.slice el))(hs:T.size el=some s)(hi:i<len):mH T t (.slice (some ⟨b,o,none⟩) len c) (.int k (.ofNat i))=some (.pointer (some ⟨b,o+i*s,none⟩)):=by
 simp only[mH,hu,u4,mE.2 hi,cond_true,hs,Option.map_some,Int.toNat]
theorem E4{f:Value->Value->Bool}:∀(l:List Value),(∀v∈l,f v v=true)->uG f l l=true
 |[],_=>rfl
 |x::xs,h=>by
  simp only[uG,h x (List.mem_cons_self ..),E4 xs (fun v b=>h v (List.mem_cons_of_mem _ b)),Bool.and_true]
theorem iz(n:Nat)(k:IntKind)(i:Int):lg n (.int k i) (.int k i)=true:=by
 have h1:wh k k=true:=by cases k<;>rfl
 have D:kC i i=true:=lJ.2 rfl
 cases n<;>simp only[lg,h1,D,Bool.and_true]
theorem iK(n b o:Nat):lg n (.pointer (some ⟨b,o,none⟩)) (.pointer (some ⟨b,o,none⟩))=true:=by
 cases n<;>simp only[lg,Nat.beq_refl,Bool.and_true]
theorem uQ(n b o l c:Nat):lg n (.slice (some ⟨b,o,none⟩) l c) (.slice (some ⟨b,o,none⟩) l c)=true:=by
 cases n<;>simp only[lg,Nat.beq_refl,Bool.and_true]
theorem xH(n l c:Nat):lg n (.slice none l c) (.slice none l c)=true:=by
 cases n<;>simp only[lg,Nat.beq_refl,Bool.and_true]
theorem wv(n:Nat)(x:Array Value)(h:∀v∈x.toList,lg n v v=true):lg (n+1) (.agg x) (.agg x)=true:=by
 simp only[lg,E4 _ h]
theorem Tr.ia(t:Ht)(n:Nat)(o:Option (jM Tm)):(t.set n o).get n=o:=by rw[Tr.nT];simp[Hp.set]
theorem Tr.gA(t:Ht){n m:Nat}(o:Option (jM Tm))(h:m≠n):(t.set n o).get m=t.get m:=by rw[Tr.nT];simp[Hp.set,h]
def HE(B:Nat)(O eZ:Ht):Prop:=∀b,b<B->eZ.get b=O.get b
theorem HE.refl(B:Nat)(O:Ht):HE B O O:=fun _ _=>rfl
theorem HE.trans{B B':Nat}{h1 D h3:Ht}(a:HE B h1 D)(b:HE B' D h3)(hb:B<=B':=by omega):HE B h1 h3:=fun x hx=>(b x (by omega)).trans (a x hx)
theorem HE.set{B n:Nat}(O:Ht)(o:Option (jM Tm))(h:B<=n):HE B O (O.set n o):=fun b hb=>Tr.gA _ _ (by omega)
theorem HE.get{B b:Nat}{h1 D:Ht}(a:HE B h1 D){o:Option (jM Tm)}(h:h1.get b=o)(hb:b<B:=by omega):D.get b=o:=(a b hb).trans h
inductive Sl(B size:Nat)(O:Ht)(G:Nat):Value->Nat->List Value->Prop where
 |nil:Sl B size O G (.slice none 0 0) 0 []
 |plain {b l:Nat} {xs:List Value} {m:gi} (hb:O.get b=some (.cells xs m)) (hm:m.mG=none) (h:b<G) (h0:B<=b) (hl:xs.length=l*size):Sl B size O G (.slice (some ⟨b,0,none⟩) l l) l xs
 |grown {b l gr:Nat} {xs:List Value} {ms:List Mem} (hb:O.get b=some (.cells xs ⟨false,some gr,0,size⟩)) (hg:O.get gr=some (.group ms)) (qL:∀e∈ms,e.base+e.len<=xs.length)
   (h:b<G) (h0:B<=b) (D:gr<G) (h3:B<=gr) (hl:xs.length=l*size):Sl B size O G (.slice (some ⟨b,0,none⟩) l l) l xs
theorem Sl.mono{B size G e5 l:Nat}{O eZ:Ht}{v:Value}{xs:List Value}(h:Sl B size O G v l xs)(he:HE G O eZ)(hn:G<=e5):Sl B size eZ e5 v l xs:=by
 cases h with
 |nil=>exact .nil
 |plain hb hm h h0 hl=>exact .plain (he.get hb h) hm (by omega) h0 hl
 |grown hb hg qL h h0 D h3 hl=>exact .grown (he.get hb h) (he.get hg D) qL (by omega) h0 (by omega) h3 hl
theorem Sl.le{B B' size G l:Nat}{O:Ht}{v:Value}{xs:List Value}(h:Sl B size O G v l xs)(hb:B'<=B):Sl B' size O G v l xs:=by
 cases h with
 |nil=>exact .nil
 |plain h1 hm h h0 hl=>exact .plain h1 hm h (by omega) hl
 |grown h1 hg qL h h0 D h3 hl=>exact .grown h1 hg qL h (by omega) D (by omega) hl
theorem Sl.len{B size G l:Nat}{O:Ht}{v:Value}{xs:List Value}(h:Sl B size O G v l xs):xs.length=l*size:=by
 cases h with
 |nil=>simp
 |plain hb hm h h0 hl=>exact hl
 |grown hb hg qL h h0 D h3 hl=>exact hl
theorem Sl.EE{B size G l:Nat}{O:Ht}{v:Value}{xs:List Value}(h:Sl B size O G v l xs):∃a,v=.slice a l l:=by
 cases h<;>exact⟨_,rfl⟩
theorem vI{α:Type}:∀(l:List α) (n:Nat),l.length=n->lH n l=some l
 |[],0,_=>rfl
 |x::xs,n+1,h=>by simp only[lH,vI xs n (by simpa using h),Option.map_some]
 |[],n+1,h=>by simp at h
 |x::xs,0,h=>by simp at h
def yM(xs:List Value)(off:Nat):Nat->Option (List Value)
 |0=>some []
 |k=>lH k (xs.drop off)
theorem tw(O:Hp)(b off l size:Nat)(new:List Value)(m n:Nat):pM O (some ⟨b,off,none⟩) l size new m n=(match O b with
 |some (.cells Z mt)=>(yM Z off (l*size)).bind fun j=>match mt.mG with
  |none=>some (.slice (some ⟨n+1,0,none⟩) (l+m) (l+m),
    [(n,some (jM.group [⟨n+1,0,(j++new).length⟩])),(n+1,some (jM.cells (j++new) ⟨false,some n,0,size⟩))],2)
  |some gr=>match O gr with
   |some (.group ms)=>
    bif (!mt.ro&&Nat.beq mt.unit size)&&oe O (beyond (mt.base+off+l*size)) ms then
     some (.slice (some ⟨n,0,none⟩) (l+m) (l+m),
      mZ (beyond (mt.base+off+l*size)) ms++[(gr,some (jM.group ((ms.filter fun e=>!(beyond (mt.base+off+l*size) e))++([⟨n,mt.base+off,(j++new).length⟩]:List Mem)))),
       (n,some (jM.cells (j++new) ⟨false,some gr,mt.base+off,size⟩))],1)
    else none
   |_=>none
 |_=>none):=rfl
theorem AS(xs:List Value):∀l,xs.length=l->yM xs 0 l=some xs
 |0,h=>by rw[List.length_eq_zero_iff.1 h];rfl
 |l+1,h=>vI xs _ h
theorem Sl.append{T:Ty}{B size G l m st xt el:Nat}{O:Ht}{v x z:Value}{inf:TypeInfo}{xs j:List Value}(h:Sl B size O G v l xs)(hu:T.jh st=some (.slice el))(hs:T.size el=some size)(N:T.zero el=some z)(hi:T.kd el=some inf)
 (hx:pE T xt x=some (m,false)) (A:lL O.get (m*size) x=some j) (C:uD size x=true) (L:j.length=m*size) (y:j.all one=true) (hm:0<m)
 (b1:(l+m)*inf.bytes<=70368744177664) (b2:inf.bytes<=1073741824) (M:l+m<=70368744177664) (o:B<=G):
 ∃v' jC k,jN T O.get st xt v x G=some (v',jC,k)/\Sl B size (jg jC O) (G+k) v' (l+m) (xs++j)/\HE B O (jg jC O):=by
 have F:¬(l+m<=l):=by omega
 have u:Nat.ble (l+m) l=false:=by
  cases hb:Nat.ble (l+m) l with
  |false=>rfl
  |true=>exact absurd (fa hb) F
 have e1:∀a,jN T O.get st xt (.slice a l l) x G=pM O.get a l size j m G:=fun a=>by
  simp only[jN,hu,hs,N,hi,hx,lX,cond_false,C,cond_true,A,Option.bind_some,y,Nat.ble_eq_true_of_le b1,Nat.ble_eq_true_of_le b2,Nat.ble_eq_true_of_le M,Bool.and_true,u]
 have hlen:(xs++j).length=(l+m)*size:=by rw[List.length_append,h.len,L,Nat.add_mul]
 cases h with
 |nil=>
  rw[e1]
  refine⟨_,_,_,rfl,?_,?_⟩
  · simp only[jg,List.nil_append]
    refine .grown (gr:=G) (Tr.ia ..) ((Tr.gA _ _ (by omega)).trans (Tr.ia ..)) (fun e he=>?_) (by omega) (by omega) (by omega) o (by simpa using hlen)
    rw[List.mem_singleton.1 he];simp
  · exact(HE.set _ _ o).trans (HE.set _ _ (show B<=G+1 by omega)) (e9 _)
 |@plain b _ _ mt hb J jA E hl=>
  rw[e1]
  have:pM O.get (some ⟨b,0,none⟩) l size j m G=some (.slice (some ⟨G+1,0,none⟩) (l+m) (l+m),
   [(G,some (jM.group [⟨G+1,0,(xs++j).length⟩])),(G+1,some (jM.cells (xs++j) ⟨false,some G,0,size⟩))],2):=by
   simp only[tw,hb,AS _ _ hl,Option.bind_some,J]
  refine⟨_,_,_,this,?_,?_⟩
  · simp only[jg]
    refine .grown (gr:=G) (Tr.ia ..) ((Tr.gA _ _ (by omega)).trans (Tr.ia ..)) (fun e he=>?_) (by omega) (by omega) (by omega) o hlen
    rw[List.mem_singleton.1 he];simp
  · exact(HE.set _ _ o).trans (HE.set _ _ (show B<=G+1 by omega)) (e9 _)
 |@grown b _ gr _ ms hb hg qL jA E D h3 hl=>
  rw[e1]
  have p:∀e∈ms,beyond (0+0+l*size) e=false:=fun e he=>by
   have:=qL e he
   cases K:beyond (0+0+l*size) e with
   |false=>rfl
   |true=>
    unfold beyond at K
    have:=mE.1 K
    omega
  have f1:ms.filter (beyond (0+0+l*size))=[]:=by
   rw[List.filter_eq_nil_iff];intro e he;rw[p e he];simp
  have f2:(ms.filter fun e=>!(beyond (0+0+l*size) e))=ms:=by
   rw[List.filter_eq_self];intro e he;rw[p e he];rfl
  have:pM O.get (some ⟨b,0,none⟩) l size j m G=some (.slice (some ⟨G,0,none⟩) (l+m) (l+m),
   [(gr,some (jM.group (ms++[⟨G,0,(xs++j).length⟩]))),(G,some (jM.cells (xs++j) ⟨false,some gr,0,size⟩))],1):=by
   simp only[tw,hb,AS _ _ hl,Option.bind_some,hg,oe,f1,List.all_nil,Bool.not_false,Nat.beq_refl,Bool.and_true,cond_true,mZ,List.map_nil,List.nil_append,f2]
  refine⟨_,_,_,this,?_,?_⟩
  · simp only[jg]
    refine .grown (gr:=gr) (Tr.ia ..) ((Tr.gA _ _ (by omega)).trans (Tr.ia ..)) (fun e he=>?_) (by omega) (by omega) (by omega) h3 hlen
    rcases fI.1 he with he|he
    · have:=qL e he;rw[List.length_append];omega
    · rw[List.mem_singleton.1 he];simp
  · exact(HE.set _ _ h3).trans (HE.set _ _ o) (e9 _)
section
variable {e:Env}{fm:Fm}{I:Tm}{ds:List Deferred}{O:Ht}{G:Nat}{gS:List Nat}{Q:St->Prop}{all:List Oper}{d:Tmp}{ty:TypeId}{pos:String}{j0:Array Edge}
theorem WC.box{t:TypeId}{x:Operand}(v:Value)(cells:List Value)(hl:e.low=0)(hx:(fV x).run I=v)(b:v.cells.toList=cells)(q:Q ⟨I.set d (.pointer (some ⟨G,0,none⟩)),ds,O.set G (some (.cells cells gi.plain)),G+1,gS⟩):
 WC e fm (iJ all ⟨some d,.box t x,ty,pos,j0,none⟩) ⟨I,ds,O,G,gS⟩ Q:=by
 subst hx b
 exact .kQ d _ [(G,some (.cells ((fV x).run I).cells.toList gi.plain))] 1 hl (fun _ _ _=>rfl) q
theorem WC.jP{t:TypeId}{a:Operand}(b o:Nat)(v:Value){cells:List Value}{m:gi}(hx:(fV a).run I=.pointer (some ⟨b,o,none⟩))(j:e.T.agg t=some false)(hb:O.get b=some (.cells cells m))(hc:cells[o]?=some v)(q:Q ⟨I.set d v,ds,O,G,gS⟩):
 WC e fm (iJ all ⟨some d,.load t a,ty,pos,j0,none⟩) ⟨I,ds,O,G,gS⟩ Q:=
 .me d (j9 e.T O.get t ((fV a).run I)) (fun _ _ _=>rfl) (by rw[hx];exact j_ j hb hc) q
theorem WC.im{t:TypeId}{a:Operand}(b o:Nat)(l:List Value){n:Nat}{cells:List Value}{m:gi}(hx:(fV a).run I=.pointer (some ⟨b,o,none⟩))(j:e.T.agg t=some true)(hs:e.T.size t=some n)(hb:O.get b=some (.cells cells m))(hc:lH n (cells.drop o)=some l)(q:Q ⟨I.set d (.agg l.toArray),ds,O,G,gS⟩):
 WC e fm (iJ all ⟨some d,.load t a,ty,pos,j0,none⟩) ⟨I,ds,O,G,gS⟩ Q:=
 .me d (j9 e.T O.get t ((fV a).run I)) (fun _ _ _=>rfl) (by rw[hx];exact jO j hs hb hc) q
theorem WC.buildSlice{t:TypeId}{n:Nat}{ps:Array (Nat×Operand)}(cells:List Value)(hl:e.low=0)(h:qM e.T t n (tJ (zi ps.toList) I) G=some (vB G cells n n))(q:Q ⟨I.set d (.slice (some ⟨G,0,none⟩) n n),ds,O.set G (some (.cells cells gi.plain)),G+1,gS⟩):
 WC e fm (iJ all ⟨some d,.buildSlice t n ps,ty,pos,j0,none⟩) ⟨I,ds,O,G,gS⟩ Q:=
 .XR d (qM e.T t n (tJ (zi ps.toList) I) G) hl (fun _ _ _=>rfl) h q
end
end
end Sw
