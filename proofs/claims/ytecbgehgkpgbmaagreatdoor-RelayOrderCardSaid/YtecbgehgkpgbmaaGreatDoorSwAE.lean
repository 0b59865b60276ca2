/- A part of the proof that the law returns true for every input that its row speaks of. No condition is added. -/
import Derived.Test.YtecbgehgkpgbmaaGreatDoorSwAD
import Derived.Orders
import Derived.KernelRfl
namespace Sw
noncomputable section
open Go Go.RowKit
def rX(listed:Array Bool)(i:Nat):Prop:=listed[i]?=some true
def yj(all:List Oper)(L:Nat)(listed:Array Bool)(i:Nat):Prop:=i<all.length/\has L i=true/\¬rX listed i
structure ud(fl:Bool)(B0:Nat)(w0:World)(nt mA:Nat)(all:List Oper)(L:Nat)(listed:Array Bool)(s:St)(a:Act)(w:World)(g:Gm):Prop where
 sub:∀i,rX listed i->has L i=true
 I9:∀i,yj all L listed i->qv fl all i≠2
 closed:∀i,rX listed i->∀ed∈o9 all i,Region.binds .any ed=true->rX listed ed.on
 heap:gu B0 w0 g s.hp.get s.nx w
 ds:mV g s.ds a.defers
 HQ:a.tmps.size=nt
 tmps:∀x,x<nt->(∀i,yj all L listed i->r6 all i≠some x)->fQ g (s.to.get x) (a.tmps.getD x undef)
 low:mA<=s.nx
 gb:∀i,yj all L listed i->qv fl all i=1->∀d m,r6 all i=some d->wz (s.to.get d)=some m->
  g.gb m=none/\mA<=m/\m<s.nx/\∀k,yj all L listed k->qv fl all k=1->k≠i->∀d',r6 all k=some d'->wz (s.to.get d')≠some m
structure DI(ng nt:Nat)(all:List Oper):Prop where
 small:nt<=512
 ops:all.all (wF ng nt)=true
section
variable {fl:Bool}{B0:Nat}{w0:World}{nt mA ng:Nat}{all:List Oper}{L:Nat}{listed:Array Bool}{s:St}{a:Act}{w:World}{g:Gm}{bm:List Nat}
theorem L7{i:Nat}{o:Oper}(h:m_ i all=some o):o∈all:=by
 rw[qc]at h
 obtain⟨hi,rfl⟩:=List.getElem?_eq_some_iff.1 h
 simp
theorem I_{i:Nat}{o:Oper}(h:m_ i all=some o):i<all.length:=by
 rw[qc]at h
 exact(List.getElem?_eq_some_iff.1 h).1
theorem J3{i:Nat}(h:i<all.length):∃o,m_ i all=some o:=by
 rw[qc];exact⟨all[i],List.getElem?_eq_getElem h⟩
theorem DI.dst(ok:DI ng nt all){i d:Nat}(h:r6 all i=some d):d<nt:=by
 unfold r6 at h
 split at h
 · rename_i o j
   have:=List.all_eq_true.1 ok.ops o (L7 j)
   unfold wF at this
   rw[Bool.and_eq_true]at this
   have h2:=this.2
   rw[h]at h2
   exact Nat.le_of_ble_eq_true h2
 · cases h
theorem Tm.OO{to:Tm}{v:Value}{dst:Option Nat}{x:Nat}(hd:∀d,dst=some d->d<512)(hx:x<512)(h:dst≠some x):((ka dst).run to v).get x=to.get x:=by
 cases dst with
 |none=>rfl
 |some d=>
  rw[C2,Tm.nJ _ _ (hd d rfl) hx,if_neg (fun k=>h (by rw[k]))]
theorem Tm.AO{to:Tm}{v:Value}{d:Nat}(hd:d<512):((ka (some d)).run to v).get d=v:=by
 rw[C2,Tm.nJ _ _ hd hd,if_pos rfl]
theorem J4(j:qS fl all bm)(closed:∀i,rX listed i->∀ed∈o9 all i,Region.binds .any ed=true->rX listed ed.on):
 ∀k,k<all.length->(∀ed∈o9 all k,Region.binds .any ed=true->rX listed ed.on)->∀i,has (xC k bm) i=true->rX listed i:=by
 intro k
 induction k using Nat.strongRecOn with
 |_ k ih=>
  intro hk he i hi
  obtain⟨ed,h1,h2,h3⟩:=j.bm k hk i hi
  have hl:=he ed h1 h2
  have jz:=j.back k hk ed h1 h2
  rcases h3 with rfl|h3
  · exact hl
  · exact ih ed.on jz (by omega) (closed _ hl) i h3
theorem gu.VD{hp:Hp}{nx:Nat}(H:gu B0 w0 g hp nx w)(cells:List Value):gu B0 w0 g (hp.set nx (some (.cells cells gl.plain))) (nx+1) w:=by
 have F:=H.fresh (Nat.le_refl nx)
 have h0:∀b o,hp.set nx (some (.cells cells gl.plain)) b=some o->b≠nx->hp b=some o:=fun b o e hb=>by rw[Hp.gP _ _ hb]at e;exact e
 have hblk:∀{b:Nat} {x:Nat×Nat},g.gb b=some x->b≠nx:=fun h hb=>by subst hb;rw[F.gb]at h;cases h
 refine⟨H.below,H.base,fun b rb ro e=>⟨by have:=(H.rq b rb ro e).1;omega,(H.rq b rb ro e).2⟩,fun b o e=>?_,fun b ms e=>?_,fun b cs m gr e k=>?_,fun b1 b2 o1 o2 rb r1 r2 jG e1 e2 j C=>?_,H.room⟩
 · by_cases hb:b=nx
   · subst hb;exact⟨by omega,fun rb ro k=>by rw[F.gb]at k;cases k⟩
   · obtain⟨p,q⟩:=H.live b o (h0 b o e hb)
     exact⟨by omega,q⟩
 · by_cases hb:b=nx
   · subst hb;exact F.gb
   · exact H.o7 b ms (h0 b _ e hb)
 · by_cases hb:b=nx
   · subst hb;rw[Hp.jH]at e;cases e;cases k
   · obtain⟨ms,a1,a2⟩:=H.mem b cs m gr (h0 b _ e hb) k
     refine⟨ms,?_,a2⟩
     rw[Hp.gP _ _ (by rintro rfl;rw[F.hp]at a1;cases a1)]
     exact a1
 · exact H.sep b1 b2 o1 o2 rb r1 r2 jG (h0 b1 o1 e1 (hblk j)) (h0 b2 o2 e2 (hblk C)) j C
theorem ud.ne(D:ud fl B0 w0 nt mA all L listed s a w g)(ok:DI ng nt all)(aD:qS fl all bm){i:Nat}{o:Oper}(aw:m_ i all=some o)(hc:kA fl o.op≠2)(az:has L i=false){s1:St}
 (N:Rg (kA fl o.op) o.dst s s1):ud fl B0 w0 nt mA all (put L i) listed s1 a w g:=by
 have hi:=I_ aw
 have ae:qv fl all i=kA fl o.op:=by simp[qv,aw]
 have C:r6 all i=o.dst:=by simp[r6,aw]
 have ar:¬rX listed i:=fun h=>by rw[D.sub i h]at az;cases az
 have aa:∀k,yj all (put L i) listed k->k=i\/(k≠i/\yj all L listed k):=fun k hk=>by
  by_cases h:k=i
  · exact .inl h
  · obtain⟨h1,h2,h3⟩:=hk
    rw[HP (fun e=>h e.symm)]at h2
    exact .inr ⟨h,h1,h2,h3⟩
 have aC:yj all (put L i) listed i:=⟨hi,Ex _ _,ar⟩
 have aj:∀k,yj all L listed k->yj all (put L i) listed k:=fun k hk=>⟨hk.1,sB hk.2.1,hk.2.2⟩
 obtain⟨v,ak,j⟩:=N.step
 have R:∀d,o.dst=some d->d<512:=fun d hd=>Nat.lt_of_lt_of_le (ok.dst (C.trans hd)) ok.small
 have ag:∀x,x<512->o.dst≠some x->s1.to.get x=s.to.get x:=fun x hx h=>by rw[ak];exact Tm.OO R hx h
 have U:∀k d,k<all.length->k≠i->r6 all k=some d->s1.to.get d=s.to.get d:=fun k d hk jG hd=>
  ag d (Nat.lt_of_lt_of_le (ok.dst hd) ok.small) (by rw[<-C];exact aD.W4 k i hk hi jG d hd)
 have aB:s.nx<=s1.nx:=by rcases j with⟨_,h,_⟩|⟨_,_,h,_⟩<;>omega
 refine⟨fun k hk=>sB (D.sub k hk),fun k hk=>?_,D.closed,?_,by rw[N.ds];exact D.ds,D.HQ,fun x hx hk=>?_,Nat.le_trans D.low aB,fun k hk af d m hd hm=>?_⟩
 · rcases aa k hk with rfl|⟨_,h⟩
   · rw[ae];exact hc
   · exact D.I9 k h
 · rcases j with⟨h1,h2,_⟩|⟨_,_,h2,cells,h1⟩
   · rw[h1,h2];exact D.heap
   · rw[h1,h2,Tr.nJ];exact D.heap.VD cells
 · have h1:o.dst≠some x:=by rw[<-C];exact hk i aC
   rw[ag x (Nat.lt_of_lt_of_le hx ok.small) h1]
   exact D.tmps x hx fun k J=>hk k (aj k J)
 · rcases aa k hk with rfl|⟨jG,J⟩
   ·
    rw[ae]at af
    rw[C]at hd
    have ax:s1.to.get d=v:=by rw[ak,hd];exact Tm.AO (R d hd)
    rw[ax]at hm
    rcases j with⟨_,_,h3⟩|⟨_,h4,h2,_⟩
    · rw[h3 af]at hm;cases hm
    · rw[h4]at hm;cases hm
      refine⟨(D.heap.fresh (Nat.le_refl _)).gb,D.low,by omega,fun k' J aq ai d' al ao=>?_⟩
      rcases aa k' J with rfl|⟨_,ah⟩
      · exact ai rfl
      · rw[U k' d' ah.1 ai al]at ao
        have:=(D.gb k' ah aq d' _ al ao).2.2.1
        omega
   · rw[U k d J.1 jG hd]at hm
     obtain⟨aE,aF,q3,aG⟩:=D.gb k J af d m hd hm
     refine⟨aE,aF,by omega,fun ay aA ad au d2 ab I=>?_⟩
     rcases aa ay aA with rfl|⟨av,an⟩
     · rw[ae]at ad
       rw[C]at ab
       have ax:s1.to.get d2=v:=by rw[ak,ab];exact Tm.AO (R d2 ab)
       rw[ax]at I
       rcases j with⟨_,_,h3⟩|⟨_,h4,_,_⟩
       · rw[h3 ad]at I;cases I
       · rw[h4]at I;cases I;omega
     · rw[U ay d2 an.1 av ab]at I
       exact aG ay an ad au d2 ab I
end
end
end Sw
namespace Sw
noncomputable section
open Go Go.RowKit
section
variable {fl:Bool}{B0:Nat}{w0:World}{nt mA ng:Nat}{all:List Oper}{L:Nat}{listed:Array Bool}{s:St}{a:Act}{w:World}{g:Gm}{bm:List Nat}{e:Env}{rec:Rec}{fm:Fm}
theorem Cn{i:Nat}{o:Oper}(h:m_ i all=some o):qv fl all i=kA fl o.op:=by simp[qv,h]
theorem As{i:Nat}{o:Oper}(h:m_ i all=some o):r6 all i=o.dst:=by simp[r6,h]
theorem L8(ok:DI ng nt all)(aa:qS fl all bm):∀(ne:List Nat) (L C:Nat) (s:St),ud fl B0 w0 nt mA all L listed s a w g->Gj fl all ne L=some C->
 (∀i,has L i=true->has C i=true)/\
 ((∀cs k,∃m,yw (ne.map (pD fl all)) e rec fm (s.at cs) k=.gm m)\/
   ∃s1,ud fl B0 w0 nt mA all C listed s1 a w g/\∀cs k,yw (ne.map (pD fl all)) e rec fm (s.at cs) k=k (s1.at cs))
 |[],L,C,s,D,h=>by
  cases h
  exact⟨fun _ h=>h,.inr ⟨s,D,fun cs k=>rfl⟩⟩
 |i::ne,L,C,s,D,h=>by
  simp only[Gj]at h
  cases hb:(Nat.blt i all.length&&(!(Nat.beq (qv fl all i) 2)&&!(has L i)))with
  |false=>rw[hb]at h;cases h
  |true=>
   rw[hb]at h
   simp only[cond_true]at h
   simp only[Bool.and_eq_true,Bool.not_eq_true']at hb
   obtain⟨b1,b2,ae⟩:=hb
   obtain⟨o,U⟩:=J3 (all:=all) (Nat.le_of_ble_eq_true b1)
   have hc:kA fl o.op≠2:=fun k=>by rw[Cn U,k,Nat.beq_refl]at b2;cases b2
   have R:pD fl all i=sT fl all o:=by simp[pD,U]
   have I:∀cs k,yw ((i::ne).map (pD fl all)) e rec fm (s.at cs) k=(sT fl all o).run e rec fm s.to s.ds s.hp s.nx cs (fun s=>yw (ne.map (pD fl all)) e rec fm s k):=by
    intro cs k
    simp only[List.map_cons,yw,R];rfl
   rcases VC all hc e rec fm s with g1|⟨s1,N,g1⟩
   · refine⟨fun k hk=>?_,.inl fun cs k=>by rw[I];exact g1 _ _⟩
     have:∀(ne:List Nat) (L C:Nat),Gj fl all ne L=some C->∀i,has L i=true->has C i=true:=by
      intro ne
      induction ne with
      |nil=>intro L C h i hi;cases h;exact hi
      |cons j ne ih=>
       intro L C h i hi
       simp only[Gj]at h
       cases hb:(Nat.blt j all.length&&(!(Nat.beq (qv fl all j) 2)&&!(has L j)))with
       |false=>rw[hb]at h;cases h
       |true=>rw[hb]at h;exact ih _ _ h i (sB hi)
     exact this ne _ _ h k (sB hk)
   · have ab:=D.ne ok aa U hc ae N
     obtain⟨af,J⟩:=L8 ok aa ne (put L i) C s1 ab h
     refine⟨fun k hk=>af k (sB hk),?_⟩
     rcases J with J|⟨s2,ad,J⟩
     · exact .inl fun cs k=>by rw[I,g1];exact J cs k
     · exact .inr ⟨s2,ad,fun cs k=>by rw[I,g1];exact J cs k⟩
theorem HR:∀(pQ:List Nat) (s:St),(∀i∈pQ,qv fl all i≠2)->
 (∀cs k,∃m,wX (pQ.map (uV fl all)) e (s.at cs) k=.gm m)\/
   ((∀cs k,wX (pQ.map (uV fl all)) e (s.at cs) k=k)/\∀i∈pQ,∀o,m_ i all=some o->Good fl all o e.T s.hp s.nx s.to)
 |[],s,_=>.inr ⟨fun cs k=>rfl,fun i hi=>by cases hi⟩
 |i::pQ,s,hc=>by
  have j:∀cs k,wX ((i::pQ).map (uV fl all)) e (s.at cs) k=(uV fl all i).run e.T s.hp s.nx s.to (wX (pQ.map (uV fl all)) e (s.at cs) k):=fun cs k=>rfl
  cases I:m_ i all with
  |none=>
   have:uV fl all i=⟨fun _ _ _ _ _=>.gm 0⟩:=by simp[uV,I]
   exact .inl fun cs k=>⟨0,by rw[j,this]⟩
  |some o=>
   have:uV fl all i=Gy fl all o:=by simp[uV,I]
   have J:=hc i (List.mem_cons_self ..)
   rw[Cn I]at J
   rcases To all o (ON J) e.T s.hp s.nx s.to with g1|⟨g1,g2⟩
   · exact .inl fun cs k=>by rw[j,this];exact g1 _
   · rcases HR pQ s (fun k hk=>hc k (List.mem_cons_of_mem _ hk))with R|⟨R,U⟩
     · exact .inl fun cs k=>by rw[j,this,g1];exact R cs k
     · refine .inr ⟨fun cs k=>by rw[j,this,g1];exact R cs k,fun k hk o' C=>?_⟩
       rcases List.mem_cons.1 hk with rfl|hk
       · rw[I]at C;cases C;exact g2
       · exact U k hk o' C
theorem F0{i:Nat}:∀{l:List Nat},Fh i l=true->i∈l
 |[],h=>by cases h
 |x::l,h=>by
  simp only[Fh,Bool.or_eq_true]at h
  rcases h with h|h
  · rw[beq_eq h];exact List.mem_cons_self ..
  · exact List.mem_cons_of_mem _ (F0 h)
structure GL(fl:Bool)(all:List Oper)(bm:List Nat)(L:Nat)(ln:Option Nat)(rest:List vF):Prop where
 ready:∀i,i<all.length->has L i=true\/ln=some i\/sub (maskAt .any all i) L=false
 last:ln=none->∀i,i<all.length->has L i=true
 next:∀y,ln=some y->y<all.length/\qv fl all y=2/\has L y=false/\u_ fl all bm rest (put L y) (some y)=true
def Br(fl:Bool)(all:List Oper)(e:Env)(rec:Rec)(fm:Fm)(ln:Option Nat)(rest:List vF)(s:St):R:=match ln with
 |none=>.ok (0,s)
 |some y=>(pD fl all y).run e rec fm s.to s.ds s.hp s.nx s.cs (fun st2=>oE (zN fl all rest) e rec fm st2)
theorem VE(st:vF)(h:(st.pQ.all fun i=>!(Nat.beq (qv fl all i) 2))=true):∀i∈st.pQ,qv fl all i≠2:=fun i hi k=>by
 have:=List.all_eq_true.1 h i hi
 rw[k]at this;cases this
theorem J5(ok:DI ng nt all)(U:qS fl all bm){st:vF}{rest:List vF}{x:Option Nat}(D:ud fl B0 w0 nt mA all L listed s a w g)(h:u_ fl all bm (st::rest) L x=true)
 (hx:∀y,x=some y->y<all.length/\rX listed y):
 (∀cs,∃m,oE (zN fl all (st::rest)) e rec fm (s.at cs)=.gm m)\/
 ∃s1 C,ud fl B0 w0 nt mA all C listed s1 a w g/\GL fl all bm C st.ln rest/\(∀i,yj all C listed i->∀o,m_ i all=some o->Good fl all o e.T s1.hp s1.nx s1.to)/\
  ∀cs,oE (zN fl all (st::rest)) e rec fm (s.at cs)=Br fl all e rec fm st.ln rest (s1.at cs):=by
 simp only[u_]at h
 cases jG:Gj fl all st.ne L with
 |none=>rw[jG]at h;cases h
 |some C=>
  rw[jG]at h
  simp only[Bool.and_eq_true]at h
  obtain⟨h0,h1,h2,h3⟩:=h
  have R:=VE st h0
  have j:∀cs,oE (zN fl all (st::rest)) e rec fm (s.at cs)=yw (st.ne.map (pD fl all)) e rec fm (s.at cs) (fun st1=>wX (st.pQ.map (uV fl all)) e st1 (Br fl all e rec fm st.ln rest st1)):=by
   intro cs
   simp only[zN,oE]
   congr 1
   funext st1
   congr 1
   cases st.ln<;>rfl
  obtain⟨_,q⟩:=L8 (e:=e) (rec:=rec) (fm:=fm) ok U st.ne L C s D jG
  rcases q with q|⟨s1,J,q⟩
  · exact .inl fun cs=>by rw[j];exact q cs _
  · rcases HR (all:=all) (e:=e) st.pQ s1 R with r|⟨r1,r2⟩
    · exact .inl fun cs=>by rw[j,q];exact r cs _
    · refine .inr ⟨s1,C,J,⟨fun i hi=>?_,fun he=>?_,fun y he=>?_⟩,fun i hi o aa=>?_,fun cs=>by rw[j,q,r1]⟩
      · have:=rO h2 hi
        simp only[Bool.or_eq_true,Bool.not_eq_true']at this
        rcases this with k|k|k
        · exact .inl k
        · refine .inr (.inl ?_)
          cases he:st.ln with
          |none=>rw[he]at k;cases k
          |some y=>rw[he]at k;rw[beq_eq k]
        · exact .inr (.inr k)
      · rw[he]at h3
        simp only at h3
        split at h3
        · exact fun i hi=>rO h3 hi
        · cases h3
      · rw[he]at h3
        simp only[Bool.and_eq_true,Bool.not_eq_true']at h3
        obtain⟨⟨ab,ad,ae⟩,af⟩:=h3
        exact⟨Nat.le_of_ble_eq_true ab,beq_eq ad,ae,af⟩
      · have:=rO h1 hi.1
        simp only[Bool.or_eq_true,Bool.not_eq_true',Bool.and_eq_true]at this
        rcases this with(k|k)|k|⟨_,k⟩
        · exact absurd (beq_eq k) (J.I9 i hi)
        · rw[hi.2.1]at k;cases k
        · exact r2 i (F0 k) o aa
        · cases I:x with
          |none=>rw[I]at k;cases k
          |some y=>
           rw[I]at k
           obtain⟨ag,ah⟩:=hx y I
           exact absurd (J4 U D.closed y ag (D.closed y ah) i k) hi.2.2
end
end
end Sw
namespace Sw
noncomputable section
open Go Go.RowKit
section
variable {fl:Bool}{P:Program}{ng rF:Nat}{B0:Nat}{w0:World}{nt mA:Nat}{ops:Array Oper}{L:Nat}{listed:Array Bool}{s:St}{a:Act}{w:World}{g:Gm}{bm:List Nat}{e:Env}{rec:Rec}{b:Frame}{rn:Option Nat}
theorem sV{i k:Nat}(hi:i<listed.size):rX (listed.setIfInBounds i true) k↔k=i\/rX listed k:=by
 unfold rX
 by_cases h:k=i
 · subst h
   simp[hi]
 · rw[Array.getElem?_setIfInBounds_ne (fun e=>h e.symm)]
   simp[h]
theorem F1{all:List Oper}(D:ud fl B0 w0 nt mA all L listed s a w g)(ok:DI rF nt all)(C:qS fl all bm){i:Nat}{o:Oper}(j:m_ i all=some o)
 (hr:∀ed∈o9 all i,Region.binds .any ed=true->rX listed ed.on) {t:Nat} (I:t∈looks all o) (jz:t<nt):fQ g (s.to.get t) (a.tmps.getD t undef):=by
 have hi:=I_ j
 refine D.tmps t jz fun k hk hd=>?_
 have:t∈looksAt all i:=by simp only[looksAt,j];exact I
 rcases C.looks i hi t this k hk.1 hd with h|h
 · exact D.I9 k hk h
 · exact hk.2.2 (J4 C D.closed i hi hr k h)
theorem Rn{all:List Oper}(D:ud fl B0 w0 nt mA all L listed s a w g)(ok:DI rF nt all)(R:qS fl all bm)(hg:kT g rF){i:Nat}{o:Oper}(J:m_ i all=some o)
 (hr:∀ed∈o9 all i,Region.binds .any ed=true->rX listed ed.on):uX g s.to a.eval o.op.operands.toList:=by
 have C:=List.all_eq_true.1 ok.ops o (L7 J)
 unfold wF at C
 rw[Bool.and_eq_true]at C
 intro x hx
 have I:=List.all_eq_true.1 C.1 x hx
 cases x with
 |tmp t=>
  have jz:t<nt:=Nat.le_of_ble_eq_true I
  refine F1 D ok R J hr (t:=t) ?_ jz
  unfold looks
  refine List.mem_append.2 (.inr ?_)
  exact List.mem_filterMap.2 ⟨.tmp t,hx,rfl⟩
 |const v=>exact fQ.GF g 4 v I
 |global j=>exact fQ.ptr (off:=0) (hg j (Nat.le_of_ble_eq_true I))
 |func f=>exact .func rfl rfl (fun i v v' e=>by simp at e) (fun i v v' e=>by simp at e)
theorem N5(D:ud fl B0 w0 nt mA ops.toList L listed s a w g)(ok:DI rF nt ops.toList)(U:qS fl ops.toList bm){i:Nat}{o:Oper}(J:m_ i ops.toList=some o)
 (hr:∀ed∈o9 ops.toList i,Region.binds .any ed=true->rX listed ed.on):AM g ops s.to a o:=by
 intro j wn I R d hj hd
 have C:r6 ops.toList j=some d:=by
  have:m_ j ops.toList=some R:=by rw[qc];simpa using hj
  rw[As this,hd]
 have jz:=ok.dst C
 refine⟨F1 D ok U J hr (t:=d) ?_ jz,by rw[D.HQ];exact jz⟩
 unfold looks
 rw[I]
 simp only[C]
 exact List.mem_append.2 (.inl (List.mem_singleton.2 rfl))
theorem ud.Tq{all:List Oper}(D:ud fl B0 w0 nt mA all L listed s a w g)(ok:DI rF nt all)(aq:qS fl all bm){i:Nat}{o:Oper}(ad:m_ i all=some o)(hp:yj all L listed i)(C:i<listed.size)
 (hr:∀ed∈o9 all i,Region.binds .any ed=true->rX listed ed.on) {v':Value} {w':World} {g':Gm} (H:gu B0 w0 g' s.hp.get s.nx w') (al:∀d,o.dst=some d->fQ g' (s.to.get d) v') (E:Ext g mA w g' s.nx w')
 (ab:∀m,g'.gb m≠none->g.gb m≠none\/(kA fl o.op=1/\∃d,o.dst=some d/\wz (s.to.get d)=some m)):
 ud fl B0 w0 nt mA all L (listed.setIfInBounds i true) s (a.put o.dst v') w' g':=by
 have I:∀k,yj all L (listed.setIfInBounds i true) k->k≠i/\yj all L listed k:=fun k hk=>by
  have h3:=hk.2.2
  rw[sV C]at h3
  exact⟨fun h=>h3 (.inl h),hk.1,hk.2.1,fun h=>h3 (.inr h)⟩
 refine⟨fun k hk=>?_,fun k hk=>D.I9 k (I k hk).2,fun k hk ed he hb=>?_,H,by rw[put_defers];exact D.ds.mono E.ext.le,?_,fun x hx hk=>?_,D.low,fun k hk ae d m hd hm=>?_⟩
 · rcases(sV C).1 hk with rfl|hk
   · exact hp.2.1
   · exact D.sub k hk
 · rw[sV C]
   rcases(sV C).1 hk with rfl|hk
   · exact .inr (hr ed he hb)
   · exact .inr (D.closed k hk ed he hb)
 · cases hd:o.dst with
   |none=>simp only[Act.put];exact D.HQ
   |some d=>simp only[Act.put,Array.size_setIfInBounds];exact D.HQ
 · by_cases J:o.dst=some x
   · have h1:=al x J
     have:(a.put o.dst v').tmps.getD x undef=v':=by
      have:x<a.tmps.size:=by rw[D.HQ];exact hx
      rw[J]
      simp[Act.put,Array.getD,this]
     rw[this];exact h1
   · have:(a.put o.dst v').tmps.getD x undef=a.tmps.getD x undef:=by
      cases hd:o.dst with
      |none=>rfl
      |some d=>
       have jG:d≠x:=fun h=>J (by rw[hd,h])
       simp only[Act.put,Array.getD_eq_getD_getElem?]
       rw[Array.getElem?_setIfInBounds_ne jG]
     rw[this]
     refine(D.tmps x hx fun k j hd=>?_).mono E.ext.le
     by_cases R:k=i
     · subst R;rw[As ad]at hd;exact J hd
     · refine hk k ⟨j.1,j.2.1,fun h=>?_⟩ hd
       rcases(sV C).1 h with h|h
       · exact R h
       · exact j.2.2 h
 · obtain⟨jG,j⟩:=I k hk
   obtain⟨an,ao,q3,ak⟩:=D.gb k j ae d m hd hm
   refine⟨?_,ao,q3,fun aj ah U aa d2 ag=>ak aj (I aj ah).2 U aa d2 ag⟩
   cases hg:g'.gb m with
   |none=>rfl
   |some x=>
    rcases ab m (by rw[hg];simp)with h|⟨hc,d',af,ai⟩
    · exact absurd an h
    · exact absurd ai (ak i hp (by rw[Cn ad];exact hc) (fun h=>jG h.symm) d' (by rw[As ad];exact af))
theorem ud.VF{all:List Oper}(D:ud fl B0 w0 nt mA all L listed s a w g)(ok:DI rF nt all)(av:qS fl all bm){i:Nat}{o:Oper}(ak:m_ i all=some o)(an:has L i=false)(I:i<listed.size)
 (hr:∀ed∈o9 all i,Region.binds .any ed=true->rX listed ed.on) {v v':Value} {ae C:List Deferred} {fe:Ht} {fg:Nat} {w':World} {g':Gm} (H:gu B0 w0 g' fe.get fg w') (au:fQ g' v v') (hd:mV g' ae C) (E:Ext g s.nx w g' fg w'):
 ud fl B0 w0 nt mA all (put L i) (listed.setIfInBounds i true) ⟨(ka o.dst).run s.to v,ae,fe,fg,[]⟩ ({a with defers:=C}.put o.dst v') w' g':=by
 have R:∀k,yj all (put L i) (listed.setIfInBounds i true) k->k≠i/\yj all L listed k:=fun k hk=>by
  have h3:=hk.2.2
  rw[sV I]at h3
  have jG:k≠i:=fun h=>h3 (.inl h)
  exact⟨jG,hk.1,by have:=hk.2.1;rwa[HP (fun e=>jG e.symm)]at this,fun h=>h3 (.inr h)⟩
 have hi:=I_ ak
 have U:∀d,o.dst=some d->d<512:=fun d hd=>Nat.lt_of_lt_of_le (ok.dst ((As ak).trans hd)) ok.small
 have ad:∀x,x<512->o.dst≠some x->((ka o.dst).run s.to v).get x=s.to.get x:=fun x hx h=>Tm.OO U hx h
 have aa:∀k d,k<all.length->k≠i->r6 all k=some d->((ka o.dst).run s.to v).get d=s.to.get d:=fun k d hk jG hd=>
  ad d (Nat.lt_of_lt_of_le (ok.dst hd) ok.small) (by rw[<-As ak];exact av.W4 k i hk hi jG d hd)
 refine⟨fun k hk=>?_,fun k hk=>D.I9 k (R k hk).2,fun k hk ed he hb=>?_,H,by rw[put_defers];exact hd,?_,fun x hx hk=>?_,Nat.le_trans D.low E.ext.num,fun k hk ao d m hd hm=>?_⟩
 · rcases(sV I).1 hk with rfl|hk
   · exact Ex _ _
   · exact sB (D.sub k hk)
 · rw[sV I]
   rcases(sV I).1 hk with rfl|hk
   · exact .inr (hr ed he hb)
   · exact .inr (D.closed k hk ed he hb)
 · cases hd:o.dst with
   |none=>simp only[Act.put];exact D.HQ
   |some d=>simp only[Act.put,Array.size_setIfInBounds];exact D.HQ
 · by_cases J:o.dst=some x
   · have h0:((ka o.dst).run s.to v).get x=v:=by rw[J];exact Tm.AO (U x J)
     have h1:({a with defers:=C}.put o.dst v').tmps.getD x undef=v':=by
      have:x<a.tmps.size:=by rw[D.HQ];exact hx
      rw[J]
      simp[Act.put,Array.getD,this]
     show fQ g' (((ka o.dst).run s.to v).get x) _
     rw[h0,h1];exact au
   · have h1:({a with defers:=C}.put o.dst v').tmps.getD x undef=a.tmps.getD x undef:=by
      cases hd:o.dst with
      |none=>rfl
      |some d=>
       have jG:d≠x:=fun h=>J (by rw[hd,h])
       simp only[Act.put,Array.getD_eq_getD_getElem?]
       rw[Array.getElem?_setIfInBounds_ne jG]
     show fQ g' (((ka o.dst).run s.to v).get x) _
     rw[ad x (Nat.lt_of_lt_of_le hx ok.small) J,h1]
     refine(D.tmps x hx fun k j hd=>?_).mono E.ext.le
     have ar:k≠i:=fun h=>by subst h;rw[j.2.1]at an;cases an
     refine hk k ⟨j.1,sB j.2.1,fun h=>?_⟩ hd
     rcases(sV I).1 h with h|h
     · exact ar h
     · exact j.2.2 h
 · obtain⟨jG,j⟩:=R k hk
   have hm:wz (((ka o.dst).run s.to v).get d)=some m:=hm
   rw[aa k d j.1 jG hd]at hm
   obtain⟨aw,ax,q3,ay⟩:=D.gb k j ao d m hd hm
   refine⟨?_,ax,Nat.lt_of_lt_of_le q3 E.ext.num,fun al aq ah ai d2 af ab=>?_⟩
   · cases hg:g'.gb m with
     |none=>rfl
     |some x=>
      rcases E.ext.new m (by rw[hg];simp)with h|h
      · exact absurd aw h
      · omega
   · obtain⟨aj,ag⟩:=R al aq
     have ab:wz (((ka o.dst).run s.to v).get d2)=some m:=ab
     rw[aa al d2 ag.1 aj af]at ab
     exact ay al ag ah ai d2 af ab
end
end
end Sw
namespace Sw
noncomputable section
open Go Go.RowKit
theorem count_set:∀(l:List Bool) (i:Nat),l[i]?=some false->(l.set i true).count false+1=l.count false
 |[],i,h=>by simp at h
 |x::l,0,h=>by
  simp at h
  subst h
  simp
 |x::l,i+1,h=>by
  simp at h
  have:=count_set l i h
  cases x<;>simp[List.count_cons]<;>omega
section
variable {fl:Bool}{P:Program}{ng rF:Nat}{B0:Nat}{w0:World}{nt mA:Nat}{ops:Array Oper}{L:Nat}{listed:Array Bool}{s:St}{a:Act}{w:World}{g:Gm}{bm:List Nat}{e:Env}{rec:Rec}{b:Frame}{rn:Option Nat}{md:Region.Mode}{ks:List Item}{fs:List Frame}
theorem J6(C:listed.size=ops.toList.length){i:Nat}:i∈Region.ready md ops listed↔i<ops.toList.length/\¬rX listed i/\∀ed∈o9 ops.toList i,Region.binds md ed=true->rX listed ed.on:=by
 unfold Region.ready
 rw[List.mem_filter,List.mem_range]
 have hn:ops.toList.length=ops.size:=by simp
 rw[hn]
 by_cases hi:i<ops.size
 · have h1:m_ i ops.toList=some ops[i]:=by rw[qc];simp[hi]
   have h2:o9 ops.toList i=ops[i].after.toList:=by simp[o9,h1]
   have h3:i<listed.size:=by omega
   rw[h2]
   simp only[hi,true_and]
   have e1:listed.getD i true=listed[i]:=by simp[Array.getD,h3]
   have e2:rX listed i↔listed[i]=true:=by unfold rX;rw[Array.getElem?_eq_getElem h3];simp
   have e3:∀k,listed.getD k false=true↔rX listed k:=fun k=>by
    unfold rX
    by_cases hk:k<listed.size
    · simp[Array.getD,hk]
    · simp[Array.getD,hk]
   rw[e1,e2]
   simp only[hi,Array.getElem?_eq_getElem,Option.map_some,Option.getD_some,Bool.and_eq_true,Bool.not_eq_true',<-Array.all_toList,List.all_eq_true,Bool.or_eq_true,e3]
   constructor
   · rintro ⟨j,o⟩
     refine⟨by simpa using j,fun ed he hb=>?_⟩
     rcases o ed he with h|h
     · rw[hb]at h;cases h
     · exact h
   · rintro ⟨j,o⟩
     refine⟨by simpa using j,fun ed he=>?_⟩
     cases hb:Region.binds md ed with
     |false=>exact .inl rfl
     |true=>exact .inr (o ed he hb)
 · simp[hi]
theorem HS(D:ud fl B0 w0 nt mA ops.toList L listed s a w g){ln:Option Nat}{rest:List vF}(o:GL fl ops.toList bm L ln rest)(j:∀i,i<ops.toList.length->rX listed i)(fm:Fm):
 vU P B0 w0 b nt g mA ops [] a w ks fs fun cs=>Br fl ops.toList e rec fm ln rest (s.at cs):=by
 cases ln with
 |some y=>
  obtain⟨h1,_,h3,_⟩:=o.next y rfl
  rw[D.sub y (j y h1)]at h3
  cases h3
 |none=>
  refine .here (.inr ⟨s,fun cs=>rfl,a,w,g,⟨D.heap,⟨D.HQ,fun x hx=>D.tmps x hx fun i hi _=>hi.2.2 (j i hi.1)⟩,D.ds⟩,Ext.low (Ext.refl _ _ _) D.low,.refl ..⟩)
theorem vU.pre{l:List Nat}{i:Nat}{a':Act}{w':World}{g':Gm}{r:List Nat->R}(h:vU P B0 w0 b nt g' mA ops l a' w' ks fs r)(hE:∀fg,mA<=fg->Ext g mA w g' fg w')
 (st:Steps P (lone (At b a (.inRegion ops (i::l)::ks)) fs w) (lone (At b a' (.inRegion ops l::ks)) fs w')):vU P B0 w0 b nt g mA ops (i::l) a w ks fs r:=by
 refine h.mono fun f' h=>?_
 rcases h with h|⟨C,h,a2,I,g2,o,j,st2⟩
 · exact .inl h
 · exact .inr ⟨C,h,a2,I,g2,o,(hE mA (Nat.le_refl _)).Ri j,st.trans st2⟩
theorem Ext.W5{j n2:Nat}{w':World}{g':Gm}(h:Ext g mA w g' j w')(k:mA<=n2):Ext g mA w g' n2 w':=⟨⟨h.ext.le,k,h.ext.new⟩,h.kept,h.held⟩
theorem PZ(ok:mE P ng e)(mL:rW P ng B0 w0 e)(ih:ot P ng B0 w0 rec)(aa:DI rF nt ops.toList)(ar:qS fl ops.toList bm)(f:FuncId){is:List Nat}(aR:ux md ops.toList is 0=true):
 ∀(fuel t:Nat) (listed:Array Bool) (L:Nat) (s:St) (a:Act) (w:World) (g:Gm) (ln:Option Nat) (rest:List vF),
  ud fl B0 w0 nt mA ops.toList L listed s a w g->(∀i,yj ops.toList L listed i->∀o,m_ i ops.toList=some o->Good fl ops.toList o e.T s.hp s.nx s.to)->GL fl ops.toList bm L ln rest->
  listed.size=ops.toList.length->listed.toList.count false<=fuel->wY g b rn->kT g ng->kT g rF->
  vU P B0 w0 b nt g mA ops (Region.linearise.go md ops fuel t listed []) a w ks fs fun cs=>Br fl ops.toList e rec ⟨f,nt,rn⟩ ln rest (s.at cs):=by
 intro fuel
 induction fuel with
 |zero=>
  intro t listed L s a w g ln rest D oF ai ad ao ah hg af
  have ae:∀i,i<ops.toList.length->rX listed i:=by
   intro i hi
   have aG:i<listed.size:=by omega
   cases hb:listed[i]with
   |true=>unfold rX;rw[Array.getElem?_eq_getElem aG,hb]
   |false=>
    exfalso
    have:false∈listed.toList:=by rw[<-hb];simp
    have:=List.count_pos_iff.2 this
    omega
  simp only[Region.linearise.go]
  exact HS D ai ae _
 |succ fuel ay=>
  intro t listed L s a w g ln rest D oF ai ad ao ah hg af
  simp only[Region.linearise.go]
  change vU P B0 w0 b nt g mA ops (match (Region.ready md ops listed)[t%(Region.ready md ops listed).length]? with
   |some i=>Region.linearise.go md ops fuel (t/(Region.ready md ops listed).length) (listed.setIfInBounds i true) [i]
   |none=>[].reverse) a w ks fs _
  cases aq:(Region.ready md ops listed)[t%(Region.ready md ops listed).length]? with
  |none=>
   have aA:Region.ready md ops listed=[]:=by
    cases hr:Region.ready md ops listed with
    |nil=>rfl
    |cons x xs=>
     rw[hr]at aq
     have jz:t%(x::xs).length<(x::xs).length:=Nat.mod_lt _ (by simp)
     simp at aq
     simp at jz
     omega
   have ae:∀i,i<ops.toList.length->rX listed i:=by
    rcases PY (LX:=rX listed) is 0 aR (fun i h=>by rw[AN]at h;cases h)with h|⟨i,h1,h2,h3⟩
    · exact h
    · have:=(J6 ad).2 ⟨h1,h2,h3⟩
      rw[aA]at this;cases this
   exact HS D ai ae _
  |some i=>
   simp only[]
   rw[linearise_go_acc,List.reverse_singleton,List.singleton_append]
   obtain⟨hi,ab,j⟩:=(J6 ad).1 (List.mem_of_getElem? aq)
   have j:∀ed∈o9 ops.toList i,Region.binds .any ed=true->rX listed ed.on:=fun ed he hb=>j ed he (J1 hb)
   obtain⟨o,C⟩:=J3 (all:=ops.toList) hi
   have ag:ops[i]?=some o:=by rw[qc]at C;simpa using C
   have J:i<listed.size:=by omega
   have U:(listed.setIfInBounds i true).toList.count false<=fuel:=by
    have hf:listed.toList[i]?=some false:=by
     rw[Array.getElem?_toList]
     unfold rX at ab
     rw[Array.getElem?_eq_getElem J]at ab⊢
     cases hb:listed[i]with
     |false=>rfl
     |true=>rw[hb]at ab;exact absurd rfl ab
    have:=count_set _ i hf
    rw[Array.toList_setIfInBounds]
    omega
   have aH:=Rn D aa ar af C j
   have aE:=N5 D aa ar C j
   rcases ai.ready i hi with al|al|al
   ·
    have hp:yj ops.toList L listed i:=⟨hi,al,ab⟩
    have aW:=D.I9 i hp
    obtain⟨v',w',g',aN,aS,aj,az,st⟩:=Rj (b:=b) (mA:=mA) ok D.heap ag aH aE D.low (oF i hp o C) (fun hc d m hd hm=>by
     obtain⟨aT,aU,q3,_⟩:=D.gb i hp (by rw[Cn C];exact hc) d m (by rw[As C];exact hd) hm
     exact⟨aT,aU,q3⟩)
    have aJ:=D.Tq aa ar C hp J j aN aS aj az
    refine vU.pre (ay _ _ L s _ w' g' ln rest aJ (fun k hk o' ag=>oF k ⟨hk.1,hk.2.1,fun h=>hk.2.2 ((sV J).2 (.inr h))⟩ o' ag) ai (by simpa using ad) U (ah.mono aj.ext.le) (hg.mono aj.ext.le) (af.mono aj.ext.le)) (fun fg h=>aj.W5 h) (st _ ks fs)
   ·
    subst al
    obtain⟨_,an,aF,ax⟩:=ai.next i rfl
    have av:pD fl ops.toList i=iH ops.toList o:=by
     rw[Cn C]at an
     simp only[pD,C,sT,(PT an).2];rfl
    have I:(fun cs=>Br fl ops.toList e rec ⟨f,nt,rn⟩ (some i) rest (s.at cs))=fun cs=>(iH ops.toList o).run e rec ⟨f,nt,rn⟩ s.to s.ds s.hp s.nx cs (fun st2=>oE (zN fl ops.toList rest) e rec ⟨f,nt,rn⟩ st2):=by
     funext cs;simp only[Br,av];rfl
    rw[I]
    have xI:=FY (to:=s.to) (i:=i) (ops:=ops) (rn:=rn) (rest:=Region.linearise.go md ops fuel (t/(Region.ready md ops listed).length) (listed.setIfInBounds i true) []) (ks:=ks) (fs:=fs) (R:=⟨ok,mL,ih,D.heap,hg,D.ds,ah⟩) ag aH aE f nt
    refine(xI _).bind fun f' h=>?_
    rcases h with h|⟨v,aw,fe,fg,h,v',aQ,aV,g1,H1,aP,aK,ak,st1⟩
    · exact .dead h
    · have aL:=D.VF aa ar C aF J j H1 aP aK ak
      have I:f'=fun cs=>oE (zN fl ops.toList rest) e rec ⟨f,nt,rn⟩ ((⟨(ka o.dst).run s.to v,aw,fe,fg,[]⟩:St).at cs):=funext h
      rw[I]
      cases rest with
      |nil=>simp[u_]at ax
      |cons aB rest=>
       rcases J5 (e:=e) (rec:=rec) (fm:=⟨f,nt,rn⟩) aa ar aL ax (fun y hy=>by cases hy;exact⟨hi,(sV J).2 (.inl rfl)⟩)with q|⟨aI,aO,aM,aD,au,q⟩
       · exact .dead fun cs=>q cs
       · have I:(fun cs=>oE (zN fl ops.toList (aB::rest)) e rec ⟨f,nt,rn⟩ ((⟨(ka o.dst).run s.to v,aw,fe,fg,[]⟩:St).at cs))=fun cs=>Br fl ops.toList e rec ⟨f,nt,rn⟩ aB.ln rest (aI.at cs):=funext q
         rw[I]
         have aC:=(ak.low D.low)
         exact vU.pre (ay _ _ aO aI _ aV g1 aB.ln rest aM au aD (by simpa using ad) U (ah.mono ak.ext.le) (hg.mono ak.ext.le) (af.mono ak.ext.le)) (fun fg h=>aC.W5 h) st1
   · exfalso
     have:sub (maskAt .any ops.toList i) L=true:=Rk fun x hx=>by
      obtain⟨ed,h1,h2,rfl⟩:=xL.1 hx
      exact D.sub _ (j ed h1 h2)
     rw[al]at this;cases this
end
end
end Sw
namespace Sw
noncomputable section
open Go Go.RowKit
section
variable {fl:Bool}{P:Program}{ng rF:Nat}{B0:Nat}{w0:World}{nt:Nat}{ops:Array Oper}{s:St}{a:Act}{w:World}{g:Gm}{e:Env}{rec:Rec}{b:Frame}{rn:Option Nat}{ks:List Item}{fs:List Frame}
theorem HT{all:List Oper}:∀(is:List Nat) (L:Nat),ux .text all is L=true->ux .any all is L=true
 |[],L,h=>h
 |i::is,L,h=>by
  simp only[ux,Bool.and_eq_true]at h⊢
  refine⟨h.1,Rk fun x hx=>?_,HT is _ h.2.2⟩
  obtain⟨ed,h1,h2,rfl⟩:=xL.1 hx
  exact Fq h.2.1 (xL.2 ⟨ed,h1,J1 h2,rfl⟩)
theorem Ja{id:Nat}{k:List Item}{cs:List Frame}:
 step P (lone (At b a (.code (.region id ops true)::k)) cs w)=
  .next (lone (At b a (.inRegion ops (Region.schedule (P.follows .mixedOrders) ops (w.tape w.drawn (.order b.fn id)))::k)) cs {w with drawn:=w.drawn+1}):=
 step_lone_go (by simp[stepG,stepG.exec,At,choose,Sem.run,Question.forced,Question.cut])
theorem KF(mixed:Bool)(t:Nat):∃md j,Region.schedule mixed ops t=Region.linearise md ops j/\(md=.any\/md=.text\/md=.gc):=by
 unfold Region.schedule
 split
 · exact⟨_,_,rfl,.inl rfl⟩
 · split
   · exact⟨_,_,rfl,.inr (.inl rfl)⟩
   · exact⟨_,_,rfl,.inr (.inr rfl)⟩
theorem N6(ok:mE P ng e)(mL:rW P ng B0 w0 e)(ih:ot P ng B0 w0 rec)(hn:nt<=512)(aj:ops.toList.all (wF rF nt)=true)(o:Hm ops.toList=true)(f:FuncId)(id:Nat)(S:vg B0 w0 g nt s a w)(hg:kT g ng)(ag:kT g rF)(ak:wY g b rn):
 uS P B0 w0 b nt g s.nx (.region id ops true) a w ks fs fun cs=>oE (zN (vH ops.toList) ops.toList (xD (vH ops.toList) ops.toList).rT) e rec ⟨f,nt,rn⟩ (s.at cs):=by
 unfold Hm at o
 generalize vH ops.toList=fl at o⊢
 obtain⟨al,t1,t2,t3⟩:=Rl o
 have J:DI rF nt ops.toList:=⟨hn,aj⟩
 obtain⟨md,av,ad,ai⟩:=KF (ops:=ops) (P.follows .mixedOrders) (w.tape w.drawn (.order b.fn id))
 have j:∃is,ux md ops.toList is 0=true:=by
  rcases ai with rfl|rfl|rfl
  · exact⟨_,HT _ _ t1⟩
  · exact⟨_,t1⟩
  · exact⟨_,t2⟩
 obtain⟨is,j⟩:=j
 let I:World:={w with drawn:=w.drawn+1}
 have H1:gu B0 w0 g s.hp.get s.nx I:=S.heap.of_heap rfl rfl rfl rfl
 have aq:Ext g s.nx w g s.nx I:=⟨xH.refl _ _,⟨Nat.le_refl _,fun _ _ _=>rfl⟩,pk.refl _ _⟩
 let listed:Array Bool:=Array.replicate ops.size false
 have ah:listed.size=ops.toList.length:=by simp[listed]
 have R:∀i,¬rX listed i:=fun i h=>by
  unfold rX at h
  simp only[listed,Array.getElem?_replicate]at h
  split at h<;>cases h
 have U:∀i,¬yj ops.toList 0 listed i:=fun i h=>by have:=h.2.1;rw[AN]at this;cases this
 have D:ud fl B0 w0 nt s.nx ops.toList 0 listed s a I g:=
  ⟨fun i h=>absurd h (R i),fun i h=>absurd h (U i),fun i h=>absurd h (R i),H1,S.act.2,S.act.1.1,fun x hx _=>S.act.1.2 x hx,Nat.le_refl _,fun i h=>absurd h (U i)⟩
 cases aa:(xD fl ops.toList).rT with
 |nil=>rw[aa]at t3;simp[u_]at t3
 |cons ae rest=>
  rw[aa]at t3
  rcases J5 (e:=e) (rec:=rec) (fm:=⟨f,nt,rn⟩) J al D t3 (fun y hy=>by cases hy)with q|⟨s1,ar,an,af,C,q⟩
  · exact .dead fun cs=>q cs
  · have ab:(fun cs=>oE (zN fl ops.toList (ae::rest)) e rec ⟨f,nt,rn⟩ (s.at cs))=fun cs=>Br fl ops.toList e rec ⟨f,nt,rn⟩ ae.ln rest (s1.at cs):=funext q
    rw[ab]
    have main:=PZ (b:=b) (rn:=rn) (ks:=ks) (fs:=fs) (mA:=s.nx) ok mL ih J al f j ops.size av listed ar s1 a I g ae.ln rest an C af ah (by simp[listed]) ak hg ag
    refine main.mono fun f' h=>?_
    rcases h with h|⟨au,h,a',w',g',S',ao,st⟩
    · exact .inl h
    · refine .inr ⟨0,au,h,a',w',g',S',aq.Ri ao,ks,rfl,?_⟩
      have s1:=Steps.one (Ja (P:=P) (b:=b) (a:=a) (w:=w) (k:=ks) (cs:=fs) (id:=id) (ops:=ops))
      rw[ad]at s1
      exact(s1.trans st).trans (.one xG)
end
end
end Sw
namespace Sw
noncomputable section
open Go Go.RowKit
section
variable {P:Program}{ng:Nat}{B0:Nat}{w0:World}{e:Env}
theorem uS.dead{b:Frame}{nt:Nat}{g:Gm}{nx:Nat}{c:Code}{a:Act}{w:World}{ks:List Item}{fs:List Frame}{r:List Nat->R}(h:∀cs,∃m,r cs=.gm m):uS P B0 w0 b nt g nx c a w ks fs r:=lS.dead h
theorem uS.part{b:Frame}{nt:Nat}{g:Gm}{nx:Nat}{c c1:Code}{a:Act}{w:World}{C ks:List Item}{fs:List Frame}{r r2:List Nat->R}(h:uS P B0 w0 b nt g nx c1 a w C fs r)(hn:∀p m,r p=.gm m->r2 p=.gm m)
 (k:∀pre o j,(∀cs,r (pre++cs)=.ok (o,j.at cs))->jC P B0 w0 b nt g nx c1 a w o j C fs->uS P B0 w0 b nt g nx c a w ks fs fun rest=>r2 (pre++rest)):uS P B0 w0 b nt g nx c a w ks fs r2:=by
 refine lS.map h hn fun pre h=>?_
 rcases h with h|⟨o,j,h,L⟩
 · exact .dead fun cs=>by obtain⟨m,h⟩:=h cs;exact⟨m,hn _ _ h⟩
 · exact k pre o j h L
theorem rU.seq{g:Gm}{nt:Nat}{a b:Code}(h:rU g nt (.seq a b)):rU g nt a/\rU g nt b:=by
 obtain⟨ng,h1,h2⟩:=h
 simp only[codeOk,Bool.and_eq_true]at h2
 exact⟨⟨ng,h1,h2.1⟩,⟨ng,h1,h2.2⟩⟩
theorem VG(ok:mE P ng e)(mL:rW P ng B0 w0 e){rec:Rec}(ih:ot P ng B0 w0 rec):ot P ng B0 w0 (fun fm c s=>uW c e rec fm s):=by
 intro fm c s b a w g ag J hg I R S ks fs
 obtain⟨fn,nt,rn⟩:=fm
 simp only at ag J I R⊢
 have S:vg B0 w0 g nt s a w:=S
 subst ag
 cases c with
 |skip=>exact .here (.inr ⟨0,s,fun cs=>rfl,jC.skip S⟩)
 |label l=>exact .here (.inr ⟨0,s,fun cs=>rfl,jC.label S⟩)
 |exit i=>exact .here (.inr ⟨i+2,s,fun cs=>rfl,jC.exit S⟩)
 |ret=>exact .here (.inr ⟨1,s,fun cs=>rfl,jC.ret S⟩)
 |seq c1 c2=>
  obtain⟨ab,ar⟩:=R.seq
  have C:=ih ⟨b.fn,nt,rn⟩ c1 s b a w g rfl J hg I ab S (.code c2::ks) fs
  have j:∀cs,uW (.seq c1 c2) e rec ⟨b.fn,nt,rn⟩ (s.at cs)=(match rec ⟨b.fn,nt,rn⟩ c1 (s.at cs)with
   |.ok (o,s1)=>(match o with
    |0=>rec ⟨b.fn,nt,rn⟩ c2 s1
    |o+1=>.ok (o+1,s1))
   |.gm m=>.gm m):=fun cs=>rfl
  refine uS.part (r2:=fun cs=>uW (.seq c1 c2) e rec ⟨b.fn,nt,rn⟩ (s.at cs)) C (fun p m h=>by simp only[j,h]) fun pre o s1 h L=>?_
  cases o with
  |succ o=>exact .here (.inr ⟨o+1,s1,fun cs=>by simp only[j,h],jC.GA L⟩)
  |zero=>
   obtain⟨a1,aj,g1,ai,U,ae,ad,t1⟩:=L
   have aa:=ih ⟨b.fn,nt,rn⟩ c2 s1 b a1 aj g1 rfl (J.mono U.ext.le) (hg.mono U.ext.le) I (ar.mono U.ext.le) ai ks fs
   have h2:(fun rest=>uW (.seq c1 c2) e rec ⟨b.fn,nt,rn⟩ (s.at (pre++rest)))=fun cs=>rec ⟨b.fn,nt,rn⟩ c2 (s1.at cs):=by funext cs;rw[j,h]
   rw[h2]
   refine lS.mono aa fun f' h=>?_
   rcases h with h|⟨o,s2,h,a2,au,g2,aq,an,af,ak,t2⟩
   · exact .inl h
   · have ad:ae=.code c2::ks:=ad
     subst ad
     exact .inr ⟨o,s2,h,a2,au,g2,aq,U.trans an,af,ak,((Steps.one HD).trans t1).trans t2⟩
 |cond x c1 c2=>
  obtain⟨rF,h1,h2⟩:=R
  simp only[codeOk,Bool.and_eq_true]at h2
  have al:=GG S.act.1 h1 h2.1
  have j:∀cs,uW (.cond x c1 c2) e rec ⟨b.fn,nt,rn⟩ (s.at cs)=(match (aaj x).run s.to with
   |.bool c=>(match c with
    |true=>rec ⟨b.fn,nt,rn⟩ c1 (s.at cs)
    |false=>rec ⟨b.fn,nt,rn⟩ c2 (s.at cs))
   |_=>.gm 0):=fun cs=>rfl
  generalize hx:(aaj x).run s.to=v at al j
  cases v<;>first|(refine uS.dead ?_;intro cs;refine⟨0,?_⟩;rw[j];done)|skip
  rename_i t
  have ah:a.eval x=.bool t:=al.rK
  cases t with
  |true=>
   have xI:=ih ⟨b.fn,nt,rn⟩ c1 s b a w g rfl J hg I ⟨rF,h1,h2.2.1⟩ S ks fs
   have h3:(fun cs=>uW (.cond x c1 c2) e rec ⟨b.fn,nt,rn⟩ (s.at cs))=fun cs=>rec ⟨b.fn,nt,rn⟩ c1 (s.at cs):=by funext cs;rw[j]
   rw[h3]
   exact lS.mono xI fun f' h=>h.imp id fun⟨o,s2,h,L⟩=>⟨o,s2,h,jC.cond (t:=true) ah L⟩
  |false=>
   have xI:=ih ⟨b.fn,nt,rn⟩ c2 s b a w g rfl J hg I ⟨rF,h1,h2.2.2⟩ S ks fs
   have h3:(fun cs=>uW (.cond x c1 c2) e rec ⟨b.fn,nt,rn⟩ (s.at cs))=fun cs=>rec ⟨b.fn,nt,rn⟩ c2 (s.at cs):=by funext cs;rw[j]
   rw[h3]
   exact lS.mono xI fun f' h=>h.imp id fun⟨o,s2,h,L⟩=>⟨o,s2,h,jC.cond (t:=false) ah L⟩
 |block id c1=>
  have ab:rU g nt c1:=by obtain⟨rF,h1,h2⟩:=R;exact⟨rF,h1,h2⟩
  have C:=ih ⟨b.fn,nt,rn⟩ c1 s b a w g rfl J hg I ab S (.inBlock id::ks) fs
  have j:∀cs,uW (.block id c1) e rec ⟨b.fn,nt,rn⟩ (s.at cs)=(match rec ⟨b.fn,nt,rn⟩ c1 (s.at cs)with
   |.ok (o,s1)=>bif Nat.beq o (id+2)then .ok (0,s1)else .ok (o,s1)
   |.gm m=>.gm m):=fun cs=>rfl
  refine uS.part (r2:=fun cs=>uW (.block id c1) e rec ⟨b.fn,nt,rn⟩ (s.at cs)) C (fun p m h=>by simp only[j,h]) fun pre o s1 h L=>?_
  cases hb:Nat.beq o (id+2)with
  |true=>
   have:=beq_eq hb
   subst this
   exact .here (.inr ⟨0,s1,fun cs=>by simp only[j,h,hb,cond_true],jC.En L⟩)
  |false=>
   have jG:o≠id+2:=fun h=>by rw[h,Nat.beq_refl]at hb;cases hb
   refine .here (.inr ⟨o,s1,fun cs=>by simp only[j,h,hb,cond_false],?_⟩)
   cases o with
   |zero=>exact jC.Th L
   |succ o=>exact jC.PG L jG
 |loop c1=>
  have ab:rU g nt c1:=by obtain⟨rF,h1,h2⟩:=R;exact⟨rF,h1,h2⟩
  have C:=ih ⟨b.fn,nt,rn⟩ c1 s b a w g rfl J hg I ab S (.inLoop c1::ks) fs
  have j:∀cs,uW (.loop c1) e rec ⟨b.fn,nt,rn⟩ (s.at cs)=(match rec ⟨b.fn,nt,rn⟩ c1 (s.at cs)with
   |.ok (o,s1)=>(match o with
    |0=>rec ⟨b.fn,nt,rn⟩ (.loop c1) s1
    |o+1=>.ok (o+1,s1))
   |.gm m=>.gm m):=fun cs=>rfl
  refine uS.part (r2:=fun cs=>uW (.loop c1) e rec ⟨b.fn,nt,rn⟩ (s.at cs)) C (fun p m h=>by simp only[j,h]) fun pre o s1 h L=>?_
  cases o with
  |succ o=>exact .here (.inr ⟨o+1,s1,fun cs=>by simp only[j,h],jC.Em L⟩)
  |zero=>
   have L':=L
   obtain⟨a1,aj,g1,ai,U,st1⟩:=L'
   have aa:=ih ⟨b.fn,nt,rn⟩ (.loop c1) s1 b a1 aj g1 rfl (J.mono U.ext.le) (hg.mono U.ext.le) I (R.mono U.ext.le) ai ks fs
   have h2:(fun rest=>uW (.loop c1) e rec ⟨b.fn,nt,rn⟩ (s.at (pre++rest)))=fun cs=>rec ⟨b.fn,nt,rn⟩ (.loop c1) (s1.at cs):=by funext cs;rw[j,h]
   rw[h2]
   refine lS.mono aa fun f' h=>?_
   rcases h with h|⟨o,s2,h,ao⟩
   · exact .inl h
   · exact .inr ⟨o,s2,h,jC.X5 U st1 ao⟩
 |scope c1=>
  have ab:rU g nt c1:=by obtain⟨rF,h1,h2⟩:=R;exact⟨rF,h1,h2⟩
  have C:=ih ⟨b.fn,nt,rn⟩ c1 s b a w g rfl J hg I ab S (.inScope c1::ks) fs
  refine lS.mono C fun f' h=>h.imp id fun⟨o,s2,h,L⟩=>⟨o,s2,h,?_⟩
  cases o with
  |zero=>exact jC.Ti L
  |succ o=>exact jC.PH L
 |region id ops draw=>
  obtain⟨rF,h1,h2⟩:=R
  simp only[codeOk,Bool.and_eq_true,Bool.or_eq_true,Bool.not_eq_true']at h2
  cases draw with
  |false=>exact N4 ok mL ih I h2.1 b.fn id S hg h1 J
  |true=>
   have hd:Hm ops.toList=true:=by
    rcases h2.2 with h|h
    · cases h
    · exact h
   exact N6 ok mL ih I h2.1 hd b.fn id S hg h1 J
 |rangeFunc f ps n9 body=>exact PS ok mL ih I R S hg J
 |_=>exact uS.dead fun cs=>⟨0,rfl⟩
end
end
end Sw
namespace Sw
noncomputable section
open Go Go.RowKit
theorem Fs{P:Program}{ng B0:Nat}{w0:World}{e:Env}(ok:mE P ng e)(mL:rW P ng B0 w0 e):∀n,ot P ng B0 w0 (ev e n)
 |0=>fun fm c s b a w g _ _ _ _ _ _ _ _=>uS.dead fun cs=>⟨0,rfl⟩
 |n+1=>VG ok mL (Fs ok mL n)
def C7(p:Nat->Bool):Nat->Bool
 |0=>true
 |n+1=>p n&&C7 p n
theorem BU{p:Nat->Bool}:∀{n:Nat},C7 p n=true->∀c,c<n->p c=true
 |0,_,c,hc=>by omega
 |n+1,h,c,hc=>by
  simp only[C7,Bool.and_eq_true]at h
  by_cases e:c=n
  · subst e;exact h.1
  · exact BU h.2 c (by omega)
def explore(r:List Nat->R):Nat->List Nat->Bool
 |0,_=>false
 |n+1,p=>match r p with
  |.ok _=>true
  |.gm m=>(match m with
   |0=>false
   |m+1=>C7 (fun c=>explore r n (p++[c])) (m+1))
theorem zC{r:List Nat->R}:∀(n:Nat) (p q:List Nat),explore r n p=true->(∀j c o,q=j++c::o->∃m,r (p++j)=.gm m/\c<m)->∃rest x,r (p++q++rest)=.ok x
 |0,_,_,h,_=>by cases h
 |n+1,p,q,h,C=>by
  unfold explore at h
  cases q with
  |nil=>
   split at h
   · rename_i x hx;exact⟨[],x,by simpa using hx⟩
   · rename_i m hm
     cases m with
     |zero=>cases h
     |succ m=>
      have:=BU h 0 (by omega)
      obtain⟨rest,x,hx⟩:=zC n (p++[0]) [] this (fun j c o e=>by cases j<;>cases e)
      exact⟨0::rest,x,by simpa using hx⟩
  |cons c q=>
   obtain⟨m,hm,hc⟩:=C [] c q rfl
   rw[List.append_nil]at hm
   rw[hm]at h
   cases m with
   |zero=>omega
   |succ m=>
    have:=BU h c hc
    obtain⟨rest,x,hx⟩:=zC n (p++[c]) q this (fun j I o e=>by
     obtain⟨J,h1,h2⟩:=C (c::j) I o (by rw[e];rfl)
     exact⟨J,by rw[List.append_assoc];exact h1,h2⟩)
    exact⟨rest,x,by rw[<-hx];simp⟩
theorem lS.GM{r:List Nat->R}{oF:(List Nat->R)->Prop}(h:lS r oF){n:Nat}(hx:explore r n []=true):∃f',oF f'/\∃rest x,f' rest=.ok x:=by
 obtain⟨pre,h1,h2⟩:=h
 obtain⟨rest,x,hr⟩:=zC n [] pre hx (fun p c q e=>by obtain⟨m,a,b⟩:=h1 p c q e;exact⟨m,by simpa using a,b⟩)
 exact⟨_,h2,rest,x,by simpa using hr⟩
def P0:KC:=fun v h nx cs=>match v with
 |.bool b=>(match b with
  |true=>.ok (0,⟨Tm.undef,[],h,nx,cs⟩)
  |false=>.gm 0)
 |_=>.gm 0
section
variable {P:Program}{ng:Nat}{e:Env}{B0:Nat}{w0:World}{g:Gm}{nx:Nat}{w:World}{hp:Ht}
theorem P1(ok:mE P ng e)(mL:rW P ng B0 w0 e)(H:gu B0 w0 g hp.get nx w)(hg:kT g ng){f:FuncId}{l:List Value}{args:Array Value}(hl:gX g l args.toList)(n fuel:Nat)
 (hx:explore (fun cs=>mP e (ev e n) f l hp nx cs P0) fuel []=true):Calls P f args w fun C w'=>C=.returned (.bool true)/\Below B0 w0 w':=by
 intro fs
 obtain⟨f',hf,rest,x,hr⟩:=lS.GM (yW ok mL (Fs ok mL n) H hg hl fs P0) hx
 rcases hf with hf|⟨v,fe,fg,hf,L⟩
 · obtain⟨m,hf⟩:=hf rest;rw[hr]at hf;cases hf
 · have I:v=.bool true:=by
    have:=hf rest
    rw[hr]at this
    unfold P0 at this
    split at this
    · split at this
      · rfl
      · cases this
    · cases this
   subst I
   obtain⟨v',w',g',j,o,U,fr,s1,m1,d1,J,f1,fn,R,r1⟩:=L
   rw[o.rK]at r1
   exact⟨.returned (.bool true),w',fr,⟨rfl,j.below.b⟩,s1,f1,m1,d1,J,fn,R,r1⟩
end
end
end Sw
namespace Sw
noncomputable section
open Go Go.RowKit
structure TB where
 num:Nat
 cs:List Value
 mu:Bool
 unit:Nat
abbrev mF:=List (Nat×Nat)
def look(b:Nat):mF->Option Nat
 |[]=>none
 |(x,y)::A=>bif Nat.beq b x then some y else look b A
def Lc(j b:Nat)(A:mF):Option mF:=match look j A with
 |some b'=>bif Nat.beq b b' then some A else none
 |none=>some ((j,b)::A)
def Ez(f:mF->Value->Value->Option mF):List Value->List Value->mF->Option mF
 |[],[],A=>some A
 |v::vs,t::ts,A=>(match f A v t with
  |some j=>Ez f vs ts j
  |none=>none)
 |_,_,_=>none
def DJ:Nat->mF->Value->Value->Option mF
 |_,A,.bool a,.bool b=>bif (bif a then b else !b)then some A else none
 |_,A,.int k a,.int k' b=>bif vO k k'&&km a b then some A else none
 |_,A,.string a,.string b=>bif wm (strs a) (strs b)then some A else none
 |_,A,.pointer none,.pointer none=>some A
 |_,A,.pointer (some ⟨b,o,none⟩),.pointer (some ⟨b',o',none⟩)=>bif Nat.beq o o' then Lc b' b A else none
 |_,A,.slice none 0 0,.slice none 0 0=>some A
 |_,A,.slice (some ⟨b,o,none⟩) l c,.slice (some ⟨b',o',none⟩) I C=>bif Nat.beq o o'&&(Nat.beq l I&&Nat.beq c C)then Lc b' b A else none
 |_,A,.map none,.map none=>some A
 |_,A,.nilFunc,.nilFunc=>some A
 |_,A,.nilIface,.nilIface=>some A
 |n+1,A,.func (.func f) x y,.func (.func f') x' y'=>bif Nat.beq f f' then(match Ez (DJ n) x.toList x'.toList A with
  |some j=>Ez (DJ n) y.toList y'.toList j
  |none=>none)else none
 |n+1,A,.iface t v,.iface J v'=>bif Nat.beq t J then DJ n A v v' else none
 |n+1,A,.agg x,.agg y=>Ez (DJ n) x.toList y.toList A
 |n+1,A,.tuple x,.tuple y=>Ez (DJ n) x.toList y.toList A
 |_,_,_,_=>none
def z6(m:gl)(j:TB):Bool:=match m.mu with
 |none=>!j.mu
 |some _=>j.mu&&Nat.beq m.unit j.unit
def HU(hp:Ht)(fresh:Bool):List TB->mF->Option mF
 |[],A=>some A
 |j::kb,A=>match look j.num A with
  |some b=>(match hp.get b with
   |some (.cells cs m)=>bif z6 m j&&(!fresh||!m.ro)then(match Ez (DJ 8) cs j.cs A with
    |some o=>HU hp fresh kb o
    |none=>none)else none
   |_=>none)
  |none=>none
def BV(d:Nat)(j:TB)(cs:List Value)(h:Ht):Ht:=
 bif j.mu then(h.set (d+j.num+1) (some (.group [⟨d+j.num,0,cs.length⟩]))).set (d+j.num) (some (.cells cs ⟨true,some (d+j.num+1),0,j.unit⟩))
 else h.set (d+j.num) (some (.cells cs ⟨true,none,0,j.unit⟩))
def xM:List TB->Ht->Ht
 |[],h=>h
 |j::kb,h=>xM kb (BV 0 j j.cs h)
def s8:Nat->Nat->List TB->Bool
 |lo,hi,[]=>Nat.ble lo hi
 |lo,hi,j::kb=>Nat.ble lo j.num&&s8 (j.num+(bif j.mu then 2 else 1)) hi kb
def xi(A:mF):List TB->Bool
 |[]=>true
 |j::kb=>(!j.mu||(match look (j.num+1) A with|none=>true|some _=>false))&&xi A kb
def L9(f:Value->Option Value):List Value->Option (List Value)
 |[]=>some []
 |v::vs=>(match f v,L9 f vs with
  |some u,some us=>some (u::us)
  |_,_=>none)
def HV(d:Nat):Nat->Value->Option Value
 |_,.bool a=>some (.bool a)
 |_,.int k a=>some (.int k a)
 |_,.string a=>some (.string a)
 |_,.pointer none=>some (.pointer none)
 |_,.pointer (some ⟨b,o,none⟩)=>some (.pointer (some ⟨d+b,o,none⟩))
 |_,.slice none 0 0=>some (.slice none 0 0)
 |_,.slice (some ⟨b,o,none⟩) l c=>some (.slice (some ⟨d+b,o,none⟩) l c)
 |_,.map none=>some (.map none)
 |_,.nilFunc=>some .nilFunc
 |_,.nilIface=>some .nilIface
 |n+1,.agg x=>(L9 (HV d n) x.toList).map fun l=>.agg l.toArray
 |n+1,.tuple x=>(L9 (HV d n) x.toList).map fun l=>.tuple l.toArray
 |n+1,.iface t v=>(HV d n v).map fun v=>.iface t v
 |_,_=>none
def P2(d:Nat):List TB->Ht->Option Ht
 |[],h=>some h
 |j::kb,h=>(match L9 (HV d 8) j.cs with
  |some cs=>P2 d kb (BV d j cs h)
  |none=>none)
structure wB where
 args:List Value
 blocks:List TB
 nx:Nat
 res:Value
 xj:List TB
 L_:Nat
def Co(n:Nat):mF->Bool
 |[]=>true
 |(b,_)::A=>Nat.blt b n&&Co n A
def U_(ng:Nat):mF:=(List.range ng).map fun i=>(i,i)
def Jb(ng:Nat)(j:wB)(l:List Value)(hp:Ht)(nx:Nat):Option (Value×Ht×Nat):=
 match Ez (DJ 8) l j.args (U_ ng)with
 |some A=>(match HU hp false j.blocks A with
  |some o=>bif xi o j.blocks&&Co j.nx o then(match HV nx 8 j.res,P2 nx j.xj hp with
   |some v,some h=>some (v,h,nx+j.L_)
   |_,_=>none)else none
  |none=>none)
 |none=>none
def yY(ng:Nat):List wB->List Value->Ht->Nat->Option (Value×Ht×Nat)
 |[],_,_,_=>none
 |j::pS,l,hp,nx=>match Jb ng j l hp nx with
  |some r=>some r
  |none=>yY ng pS l hp nx
def xN(ng:Nat)(pS:List wB):IX:=⟨fun l hp nx cs k j=>match yY ng pS l hp nx with
 |some (v,h,n)=>k v h n cs
 |none=>j⟩
def EA:mF->List TB->Bool
 |[],_=>true
 |(b,_)::A,kb=>kb.any (fun j=>Nat.beq j.num b)&&EA A kb
def Ts(j:wB):KC:=fun v h nx cs=>match DJ 8 [] v j.res with
 |some A=>(match HU h true j.xj A with
  |some o=>bif EA o j.xj&&xi o j.xj then .ok (0,⟨Tm.undef,[],h,nx,cs⟩)else .gm 0
  |none=>.gm 0)
 |none=>.gm 0
def W6(ng:Nat)(j:wB):Bool:=Nat.ble ng j.nx&&(s8 0 j.nx j.blocks&&s8 0 j.L_ j.xj)
def y8(ng:Nat)(e:Env)(f:FuncId)(n fuel:Nat)(j:wB):Bool:=
 W6 ng j&&explore (fun cs=>mP e (ev e n) f j.args (xM j.blocks .nil) j.nx cs (Ts j)) fuel []
end
end Sw
namespace Sw
noncomputable section
open Go Go.RowKit
def pN(A j:mF):Prop:=∀b x,look b A=some x->look b j=some x
theorem pN.refl(A:mF):pN A A:=fun _ _ h=>h
theorem pN.trans{A B C:mF}(h:pN A B)(k:pN B C):pN A C:=fun b x e=>k b x (h b x e)
theorem Bs{o b:Nat}{A C:mF}(h:Lc o b A=some C):pN A C/\look o C=some b:=by
 unfold Lc at h
 split at h
 · rename_i b' hb
   cases j:Nat.beq b b' with
   |false=>rw[j]at h;cases h
   |true=>
    rw[j]at h;cases h
    exact⟨pN.refl _,by rw[hb,beq_eq j]⟩
 · rename_i hb
   cases h
   refine⟨fun x y e=>?_,by simp[look,Nat.beq_refl]⟩
   have:Nat.beq x o=false:=by
    cases j:Nat.beq x o with
    |false=>rfl
    |true=>rw[beq_eq j,hb]at e;cases e
   simp only[look,this,cond_false];exact e
def Ma(gc g:Gm)(A:mF):Prop:=∀j b,look j A=some b->gc.gb j=g.gb b/\gc.room j=g.room b
theorem Ma.sub{gc g:Gm}{A j:mF}(h:Ma gc g j)(k:pN A j):Ma gc g A:=fun o b e=>h o b (k o b e)
def W7(f:mF->Value->Value->Option mF):Prop:=∀A v t j,f A v t=some j->pN A j/\∀gc g v',Ma gc g j->fQ g v v'->fQ gc t v'
theorem AP{f:mF->Value->Value->Option mF}(hf:W7 f):∀(vs ts:List Value) (A o:mF),Ez f vs ts A=some o->pN A o/\∀gc g j,Ma gc g o->gX g vs j->gX gc ts j
 |[],[],A,o,h=>by
  cases h
  exact⟨pN.refl _,fun gc g j _ hl=>by
   have:=hl.1
   cases j with
   |nil=>exact gX.nil gc
   |cons=>cases this⟩
 |v::vs,t::ts,A,o,h=>by
  simp only[Ez]at h
  split at h
  · rename_i I h1
    obtain⟨e1,r1⟩:=hf _ _ _ _ h1
    obtain⟨e2,r2⟩:=AP hf vs ts I o h
    refine⟨e1.trans e2,fun gc g j C hl=>?_⟩
    cases j with
    |nil=>cases hl.1
    |cons v' j=>exact gX.cons (r1 gc g v' (C.sub e2) hl.head) (r2 gc g j C hl.tail)
  · cases h
 |[],_::_,_,_,h=>by cases h
 |_::_,[],_,_,h=>by cases h
theorem Mb:∀n,W7 (DJ n):=by
 intro n
 induction n with
 |zero=>
  intro A v t ae h
  unfold DJ at h
  split at h<;>first|(cases h;done)|skip
  · rename_i a b
    cases a<;>cases b<;>first|(cases h;done)|(cases h;exact⟨pN.refl _,fun gc g v' _ r=>by rw[r.rK];exact .bool _⟩)
  · rename_i k a k' b
    cases j:(vO k k'&&km a b)with
    |false=>rw[j]at h;cases h
    |true=>
     rw[j]at h;cases h
     rw[Bool.and_eq_true]at j
     cases ve j.1;cases lH.1 j.2
     exact⟨pN.refl _,fun gc g v' _ r=>by rw[r.kQ];exact .int _ _⟩
  · rename_i a b
    cases j:wm (strs a) (strs b)with
    |false=>rw[j]at h;cases h
    |true=>
     rw[j]at h;cases h
     rw[wI]at j
     cases AI (a:=a) (b:=b) (by simpa using j)
     exact⟨pN.refl _,fun gc g v' _ r=>by rw[r.kS];exact .string _⟩
  · cases h;exact⟨pN.refl _,fun gc g v' _ r=>by rw[r.tW];exact .nilPtr⟩
  · rename_i b o b' o'
    cases j:Nat.beq o o' with
    |false=>rw[j]at h;cases h
    |true=>
     rw[j]at h
     cases beq_eq j
     obtain⟨e1,e2⟩:=Bs h
     refine⟨e1,fun gc g v' C r=>?_⟩
     obtain⟨_,rb,ro,hg,rfl⟩:=r.sn
     exact .ptr ((C _ _ e2).1.trans hg)
  · cases h;exact⟨pN.refl _,fun gc g v' _ r=>by obtain⟨_,_,rfl⟩:=r.lT;exact .pW⟩
  · rename_i b o l c b' o' U R
    cases j:(Nat.beq o o'&&(Nat.beq l U&&Nat.beq c R))with
    |false=>rw[j]at h;cases h
    |true=>
     rw[j]at h
     rw[Bool.and_eq_true,Bool.and_eq_true]at j
     cases beq_eq j.1;cases beq_eq j.2.1;cases beq_eq j.2.2
     obtain⟨e1,e2⟩:=Bs h
     refine⟨e1,fun gc g v' C r=>?_⟩
     rcases r.mK with⟨a2,rfl,rfl,rfl⟩|⟨_,rb,ro,c2,hg,hl,hc,rfl⟩
     · exact .nY _ _
     · obtain⟨aa,ab⟩:=C _ _ e2
       refine .slice (aa.trans hg) hl ?_
       rcases hc with hc|⟨hc,rs,u,hr,hf⟩
       · exact .inl hc
       · exact .inr ⟨hc,rs,u,ab.trans hr,hf⟩
  · cases h;exact⟨pN.refl _,fun gc g v' _ r=>by rw[r.pX];exact .u9⟩
  · cases h;exact⟨pN.refl _,fun gc g v' _ r=>by rw[r.se];exact .nilFunc⟩
  · cases h;exact⟨pN.refl _,fun gc g v' _ r=>by rw[r.oz];exact .nilIface⟩
  all_goals (rename_i h0;exact absurd h0 (by simp))
 |succ n ih=>
  intro A v t ae h
  unfold DJ at h
  split at h<;>first|(cases h;done)|skip
  · rename_i a b
    cases a<;>cases b<;>first|(cases h;done)|(cases h;exact⟨pN.refl _,fun gc g v' _ r=>by rw[r.rK];exact .bool _⟩)
  · rename_i k a k' b
    cases j:(vO k k'&&km a b)with
    |false=>rw[j]at h;cases h
    |true=>
     rw[j]at h;cases h
     rw[Bool.and_eq_true]at j
     cases ve j.1;cases lH.1 j.2
     exact⟨pN.refl _,fun gc g v' _ r=>by rw[r.kQ];exact .int _ _⟩
  · rename_i a b
    cases j:wm (strs a) (strs b)with
    |false=>rw[j]at h;cases h
    |true=>
     rw[j]at h;cases h
     rw[wI]at j
     cases AI (a:=a) (b:=b) (by simpa using j)
     exact⟨pN.refl _,fun gc g v' _ r=>by rw[r.kS];exact .string _⟩
  · cases h;exact⟨pN.refl _,fun gc g v' _ r=>by rw[r.tW];exact .nilPtr⟩
  · rename_i b o b' o'
    cases j:Nat.beq o o' with
    |false=>rw[j]at h;cases h
    |true=>
     rw[j]at h
     cases beq_eq j
     obtain⟨e1,e2⟩:=Bs h
     refine⟨e1,fun gc g v' C r=>?_⟩
     obtain⟨_,rb,ro,hg,rfl⟩:=r.sn
     exact .ptr ((C _ _ e2).1.trans hg)
  · cases h;exact⟨pN.refl _,fun gc g v' _ r=>by obtain⟨_,_,rfl⟩:=r.lT;exact .pW⟩
  · rename_i b o l c b' o' U R
    cases j:(Nat.beq o o'&&(Nat.beq l U&&Nat.beq c R))with
    |false=>rw[j]at h;cases h
    |true=>
     rw[j]at h
     rw[Bool.and_eq_true,Bool.and_eq_true]at j
     cases beq_eq j.1;cases beq_eq j.2.1;cases beq_eq j.2.2
     obtain⟨e1,e2⟩:=Bs h
     refine⟨e1,fun gc g v' C r=>?_⟩
     rcases r.mK with⟨a2,rfl,rfl,rfl⟩|⟨_,rb,ro,c2,hg,hl,hc,rfl⟩
     · exact .nY _ _
     · obtain⟨aa,ab⟩:=C _ _ e2
       refine .slice (aa.trans hg) hl ?_
       rcases hc with hc|⟨hc,rs,u,hr,hf⟩
       · exact .inl hc
       · exact .inr ⟨hc,rs,u,ab.trans hr,hf⟩
  · cases h;exact⟨pN.refl _,fun gc g v' _ r=>by rw[r.pX];exact .u9⟩
  · cases h;exact⟨pN.refl _,fun gc g v' _ r=>by rw[r.se];exact .nilFunc⟩
  · cases h;exact⟨pN.refl _,fun gc g v' _ r=>by rw[r.oz];exact .nilIface⟩
  · rename_i m f x y f' x' y' hm
    cases hm
    cases j:Nat.beq f f' with
    |false=>rw[j]at h;cases h
    |true=>
     rw[j]at h
     cases beq_eq j
     simp only[cond_true]at h
     split at h
     · rename_i ag h1
       obtain⟨e1,r1⟩:=AP ih _ _ _ _ h1
       obtain⟨e2,r2⟩:=AP ih _ _ _ _ h
       refine⟨e1.trans e2,fun gc g v' C r=>?_⟩
       obtain⟨J,af,rfl,hx,hy⟩:=r.Gi
       have I:=(r1 gc g J.toList (C.sub e2) hx.toList).toArray
       have ad:=(r2 gc g af.toList C hy.toList).toArray
       exact .func I.1 ad.1 I.2 ad.2
     · cases h
  · rename_i m t0 v0 t1 v1 hm
    cases hm
    cases j:Nat.beq t0 t1 with
    |false=>rw[j]at h;cases h
    |true=>
     rw[j]at h
     cases beq_eq j
     obtain⟨e1,r1⟩:=ih _ _ _ _ h
     refine⟨e1,fun gc g v' C r=>?_⟩
     obtain⟨J,rfl,hx⟩:=r.xe
     exact .iface (r1 gc g J C hx)
  · rename_i m x y hm
    cases hm
    obtain⟨e1,r1⟩:=AP ih _ _ _ _ h
    refine⟨e1,fun gc g v' C r=>?_⟩
    obtain⟨J,rfl,hx⟩:=r.sR
    have I:=(r1 gc g J.toList C hx.toList).toArray
    exact .agg I.1 I.2
  · rename_i m x y hm
    cases hm
    obtain⟨e1,r1⟩:=AP ih _ _ _ _ h
    refine⟨e1,fun gc g v' C r=>?_⟩
    obtain⟨J,rfl,hx⟩:=r.DV
    have I:=(r1 gc g J.toList C hx.toList).toArray
    exact .tuple I.1 I.2
theorem Mc{hp:Ht}{fresh:Bool}:∀(kb:List TB) (A j:mF),HU hp fresh kb A=some j->pN A j/\∀o∈kb,∃b cs m,look o.num j=some b/\hp.get b=some (.cells cs m)/\z6 m o=true/\(fresh=true->m.ro=false)/\
 ∀gc g lv,Ma gc g j->gX g cs lv->gX gc o.cs lv
 |[],A,j,h=>by cases h;exact⟨pN.refl _,fun o h=>by cases h⟩
 |o::kb,A,j,h=>by
  simp only[HU]at h
  split at h
  · rename_i b hb
    split at h
    · rename_i cs m hc
      cases C:(z6 m o&&(!fresh||!m.ro))with
      |false=>rw[C]at h;cases h
      |true=>
       rw[C]at h
       simp only[cond_true]at h
       split at h
       · rename_i R h1
         obtain⟨e1,r1⟩:=AP (Mb 8) _ _ _ _ h1
         obtain⟨e2,r2⟩:=Mc kb R j h
         rw[Bool.and_eq_true]at C
         refine⟨e1.trans e2,fun J I=>?_⟩
         rcases List.mem_cons.1 I with rfl|I
         · refine⟨b,cs,m,e2 _ _ (e1 _ _ hb),hc,C.1,fun hf=>by have:=C.2;rw[hf]at this;simpa using this,fun gc g lv U hl=>r1 gc g lv (U.sub e2) hl⟩
         · exact r2 J I
       · cases h
    · cases h
  · cases h
end
end Sw
namespace Sw
noncomputable section
open Go Go.RowKit
def P3(d:Nat)(gr j:Gm):Prop:=∀b,gr.gb b≠none->j.gb (d+b)=gr.gb b/\j.room (d+b)=gr.room b
def W8(d:Nat)(f:Value->Option Value):Prop:=∀v u,f v=some u->∀gr j v',P3 d gr j->fQ gr v v'->fQ j u v'
theorem HW{d:Nat}{f:Value->Option Value}(hf:W8 d f):∀(vs us:List Value),L9 f vs=some us->∀gr o j,P3 d gr o->gX gr vs j->gX o us j
 |[],us,h,gr,o,j,_,hl=>by
  cases h
  have:=hl.1
  cases j with
  |nil=>exact gX.nil o
  |cons=>cases this
 |v::vs,us,h,gr,o,j,hm,hl=>by
  simp only[L9]at h
  split at h
  · rename_i u us h1 h2
    cases h
    cases j with
    |nil=>cases hl.1
    |cons v' j=>exact gX.cons (hf v u h1 gr o v' hm hl.head) (HW hf vs us h2 gr o j hm hl.tail)
  · cases h
theorem Ro(d:Nat):∀n,W8 d (HV d n):=by
 intro n
 induction n with
 |zero=>
  intro v u h gr C v' hm r
  unfold HV at h
  split at h<;>first|(cases h;done)|skip
  · cases h;rw[r.rK];exact .bool _
  · cases h;rw[r.kQ];exact .int _ _
  · cases h;rw[r.kS];exact .string _
  · cases h;rw[r.tW];exact .nilPtr
  · cases h
    obtain⟨_,rb,ro,hg,rfl⟩:=r.sn
    exact .ptr ((hm _ (by rw[hg];simp)).1.trans hg)
  · cases h;obtain⟨_,_,rfl⟩:=r.lT;exact .pW
  · cases h
    rcases r.mK with⟨a2,rfl,rfl,rfl⟩|⟨_,rb,ro,c2,hg,hl,hc,rfl⟩
    · exact .nY _ _
    · obtain⟨I,J⟩:=hm _ (by rw[hg];simp)
      refine .slice (I.trans hg) hl ?_
      rcases hc with hc|⟨hc,rs,u,hr,hf⟩
      · exact .inl hc
      · exact .inr ⟨hc,rs,u,J.trans hr,hf⟩
  · cases h;rw[r.pX];exact .u9
  · cases h;rw[r.se];exact .nilFunc
  · cases h;rw[r.oz];exact .nilIface
  all_goals (rename_i h0;exact absurd h0 (by simp))
 |succ n ih=>
  intro v u h gr C v' hm r
  unfold HV at h
  split at h<;>first|(cases h;done)|skip
  · cases h;rw[r.rK];exact .bool _
  · cases h;rw[r.kQ];exact .int _ _
  · cases h;rw[r.kS];exact .string _
  · cases h;rw[r.tW];exact .nilPtr
  · cases h
    obtain⟨_,rb,ro,hg,rfl⟩:=r.sn
    exact .ptr ((hm _ (by rw[hg];simp)).1.trans hg)
  · cases h;obtain⟨_,_,rfl⟩:=r.lT;exact .pW
  · cases h
    rcases r.mK with⟨a2,rfl,rfl,rfl⟩|⟨_,rb,ro,c2,hg,hl,hc,rfl⟩
    · exact .nY _ _
    · obtain⟨I,J⟩:=hm _ (by rw[hg];simp)
      refine .slice (I.trans hg) hl ?_
      rcases hc with hc|⟨hc,rs,u,hr,hf⟩
      · exact .inl hc
      · exact .inr ⟨hc,rs,u,J.trans hr,hf⟩
  · cases h;rw[r.pX];exact .u9
  · cases h;rw[r.se];exact .nilFunc
  · cases h;rw[r.oz];exact .nilIface
  · rename_i m x hn
    cases hn
    obtain⟨l,h1,rfl⟩:=Option.map_eq_some_iff.1 h
    obtain⟨o,rfl,hx⟩:=r.sR
    have j:=(HW ih _ _ h1 gr C o.toList hm hx.toList).toArray
    exact .agg j.1 j.2
  · rename_i m x hn
    cases hn
    obtain⟨l,h1,rfl⟩:=Option.map_eq_some_iff.1 h
    obtain⟨o,rfl,hx⟩:=r.DV
    have j:=(HW ih _ _ h1 gr C o.toList hm hx.toList).toArray
    exact .tuple j.1 j.2
  · rename_i m t v0 hn
    cases hn
    obtain⟨R,h1,rfl⟩:=Option.map_eq_some_iff.1 h
    obtain⟨o,rfl,hx⟩:=r.xe
    exact .iface (ih _ _ h1 gr C o hm hx)
section
variable {B0:Nat}{w0:World}{g:Gm}{hp:Hp}{nx:Nat}{w:World}
theorem gu.Va(H:gu B0 w0 g hp nx w){n:Nat}(hf:hp n=none)(hn:n<nx){cs:List Value}{u:Nat}
 (C:∀rb ro,g.gb n=some (rb,ro)->(∃jq,w.heap[rb]?=some jq/\oP B0 g n (.cells cs ⟨true,none,0,u⟩) rb ro jq)/\∀b o r1,hp b=some o->g.gb b=some (rb,r1)->∃cs m,o=.cells cs m/\m.ro=true):
 gu B0 w0 g (hp.set n (some (.cells cs ⟨true,none,0,u⟩))) nx w:=by
 refine⟨H.below,H.base,H.rq,fun b o e=>?_,fun b ms e=>?_,fun b I m gr e k=>?_,fun b1 b2 o1 o2 r r1 r2 jG e1 e2 J R=>?_,H.room⟩
 · by_cases j:b=n
   · subst j
     rw[Hp.jH]at e;cases e
     exact⟨hn,fun r1 r2 k=>(C r1 r2 k).1⟩
   · rw[Hp.gP _ _ j]at e;exact H.live b o e
 · by_cases j:b=n
   · subst j;rw[Hp.jH]at e;cases e
   · rw[Hp.gP _ _ j]at e;exact H.o7 b ms e
 · by_cases j:b=n
   · subst j;rw[Hp.jH]at e;cases e;cases k
   · rw[Hp.gP _ _ j]at e
     obtain⟨ms,a1,a2⟩:=H.mem b I m gr e k
     refine⟨ms,?_,a2⟩
     rw[Hp.gP _ _ (by rintro rfl;rw[hf]at a1;cases a1)]
     exact a1
 · by_cases h1:b1=n
   · subst h1
     rw[Hp.jH]at e1;cases e1
     rw[Hp.gP _ _ (Ne.symm jG)]at e2
     obtain⟨U,m2,rfl,hr⟩:=(C _ _ J).2 b2 o2 r2 e2 R
     exact .inl ⟨rfl,hr⟩
   · by_cases h2:b2=n
     · subst h2
       rw[Hp.jH]at e2;cases e2
       rw[Hp.gP _ _ jG]at e1
       obtain⟨I,m1,rfl,hr⟩:=(C _ _ R).2 b1 o1 r1 e1 J
       exact .inl ⟨hr,rfl⟩
     · rw[Hp.gP _ _ h1]at e1
       rw[Hp.gP _ _ h2]at e2
       exact H.sep b1 b2 o1 o2 r r1 r2 jG e1 e2 J R
theorem gu.Tt(H:gu B0 w0 g hp nx w){n gr:Nat}(hf:hp n=none)(aa:n≠gr)(I:g.gb gr=none)(R:hp gr=none)(hn:n<nx)(xF:gr<nx){cs:List Value}{u:Nat}
 (j:∀rb ro,g.gb n=some (rb,ro)->(∃jq,w.heap[rb]?=some jq/\oP B0 g n (.cells cs ⟨true,some gr,0,u⟩) rb ro jq)/\∀b o r1,hp b=some o->g.gb b=some (rb,r1)->∃cs m,o=.cells cs m/\m.ro=true):
 gu B0 w0 g ((hp.set gr (some (.group [⟨n,0,cs.length⟩]))).set n (some (.cells cs ⟨true,some gr,0,u⟩))) nx w:=by
 have get:∀b o,((hp.set gr (some (.group [⟨n,0,cs.length⟩]))).set n (some (.cells cs ⟨true,some gr,0,u⟩))) b=some o->(b=n/\o=.cells cs ⟨true,some gr,0,u⟩)\/(b=gr/\o=.group [⟨n,0,cs.length⟩])\/(b≠n/\b≠gr/\hp b=some o):=fun b o e=>by
  by_cases h1:b=n
  · subst h1;rw[Hp.jH]at e;cases e;exact .inl ⟨rfl,rfl⟩
  · rw[Hp.gP _ _ h1]at e
    by_cases h2:b=gr
    · subst h2;rw[Hp.jH]at e;cases e;exact .inr (.inl ⟨rfl,rfl⟩)
    · rw[Hp.gP _ _ h2]at e;exact .inr (.inr ⟨h1,h2,e⟩)
 refine⟨H.below,H.base,H.rq,fun b o e=>?_,fun b ms e=>?_,fun b U m ab e k=>?_,fun b1 b2 o1 o2 r r1 r2 jG e1 e2 J C=>?_,H.room⟩
 · rcases get b o e with⟨rfl,rfl⟩|⟨rfl,rfl⟩|⟨_,_,e⟩
   · exact⟨hn,fun r1 r2 k=>(j r1 r2 k).1⟩
   · exact⟨xF,fun r1 r2 k=>by rw[I]at k;cases k⟩
   · exact H.live b o e
 · rcases get b _ e with⟨rfl,h⟩|⟨rfl,_⟩|⟨_,_,e⟩
   · cases h
   · exact I
   · exact H.o7 b ms e
 · rcases get b _ e with⟨rfl,h⟩|⟨rfl,h⟩|⟨_,_,e⟩
   · cases h;cases k
     exact⟨_,by rw[Hp.gP _ _ (Ne.symm aa),Hp.jH],List.mem_singleton.2 rfl⟩
   · cases h
   · obtain⟨ms,a1,a2⟩:=H.mem b U m ab e k
     refine⟨ms,?_,a2⟩
     rw[Hp.gP _ _ (by rintro rfl;rw[hf]at a1;cases a1),Hp.gP _ _ (by rintro rfl;rw[R]at a1;cases a1)]
     exact a1
 · have key:∀b o r1,((hp.set gr (some (.group [⟨n,0,cs.length⟩]))).set n (some (.cells cs ⟨true,some gr,0,u⟩))) b=some o->g.gb b=some (r,r1)->(b=n/\o=.cells cs ⟨true,some gr,0,u⟩)\/(b≠n/\hp b=some o):=fun b o r1 e k=>by
    rcases get b o e with⟨rfl,rfl⟩|⟨rfl,_⟩|⟨h1,_,e⟩
    · exact .inl ⟨rfl,rfl⟩
    · rw[I]at k;cases k
    · exact .inr ⟨h1,e⟩
   rcases key b1 o1 r1 e1 J with⟨h1,rfl⟩|⟨h1,f1⟩
   · rcases key b2 o2 r2 e2 C with⟨h2,_⟩|⟨_,f2⟩
     · exact absurd (h1.trans h2.symm) jG
     · rw[h1]at J
       obtain⟨ad,m2,rfl,hr⟩:=(j _ _ J).2 b2 o2 r2 f2 C
       exact .inl ⟨rfl,hr⟩
   · rcases key b2 o2 r2 e2 C with⟨h2,rfl⟩|⟨_,f2⟩
     · rw[h2]at C
       obtain⟨U,m1,rfl,hr⟩:=(j _ _ C).2 b1 o1 r1 f1 J
       exact .inl ⟨hr,rfl⟩
     · exact H.sep b1 b2 o1 o2 r r1 r2 jG f1 f2 J C
def P4(g:Gm)(hp:Hp)(xO:Nat->Prop):Prop:=∀rb,xO rb->∀b o r1,hp b=some o->g.gb b=some (rb,r1)->∃cs m,o=.cells cs m/\m.ro=true
theorem gu.BV{h:Ht}(H:gu B0 w0 g h.get nx w){d:Nat}{j:TB}{cs:List Value}{xO:Nat->Prop}(J:P4 g h.get xO)(hn:d+j.num+(bif j.mu then 2 else 1)<=nx)(hf:∀b,d+j.num<=b->h.get b=none)
 (aa:j.mu=true->g.gb (d+j.num+1)=none) (C:∀rb ro,g.gb (d+j.num)=some (rb,ro)->xO rb/\∃jq,w.heap[rb]?=some jq/\oP B0 g (d+j.num) (.cells cs ⟨true,bif j.mu then some (d+j.num+1)else none,0,j.unit⟩) rb ro jq):
 gu B0 w0 g (BV d j cs h).get nx w/\P4 g (BV d j cs h).get xO/\(∀b,d+j.num+(bif j.mu then 2 else 1)<=b->(BV d j cs h).get b=none):=by
 unfold Sw.BV
 cases hg:j.mu with
 |false=>
  rw[hg]at hn C
  simp only[cond_false]at hn C⊢
  rw[Tr.nJ]
  refine⟨H.Va (hf _ (Nat.le_refl _)) (by omega) fun rb ro k=>⟨(C rb ro k).2,J rb (C rb ro k).1⟩,fun rb R b o r1 e k=>?_,fun b hb=>?_⟩
  · by_cases I:b=d+j.num
    · subst I;rw[Hp.jH]at e;cases e;exact⟨_,_,rfl,rfl⟩
    · rw[Hp.gP _ _ I]at e;exact J rb R b o r1 e k
  · rw[Hp.gP _ _ (by omega)];exact hf b (by omega)
 |true=>
  rw[hg]at hn C
  simp only[cond_true]at hn C⊢
  rw[Tr.nJ,Tr.nJ]
  refine⟨H.Tt (hf _ (Nat.le_refl _)) (by omega) (aa hg) (hf _ (by omega)) (by omega) (by omega) fun rb ro k=>⟨(C rb ro k).2,J rb (C rb ro k).1⟩,fun rb R b o r1 e k=>?_,fun b hb=>?_⟩
  · by_cases I:b=d+j.num
    · subst I;rw[Hp.jH]at e;cases e;exact⟨_,_,rfl,rfl⟩
    · rw[Hp.gP _ _ I]at e
      by_cases U:b=d+j.num+1
      · subst U;rw[aa hg]at k;cases k
      · rw[Hp.gP _ _ U]at e;exact J rb R b o r1 e k
  · rw[Hp.gP _ _ (by omega),Hp.gP _ _ (by omega)];exact hf b (by omega)
theorem gu.later(H:gu B0 w0 g hp nx w){g':Gm}{fg:Nat}{w':World}(hw:pB w.heap.size w w')(hg:g.le g')(aa:nx<=fg)(j:∀b,b<nx->g'.gb b=g.gb b)(I:∀b rb ro,g'.gb b=some (rb,ro)->b<fg/\rb<w'.heap.size)(C:∀b x,g'.room b=some x->g'.gb b≠none):
 gu B0 w0 g' hp fg w':=by
 have U:∀{rb:Nat} {o:Obj},w.heap[rb]?=some o->w'.heap[rb]?=some o:=fun {rb o} h=>by
  have jz:=sf h
  rw[hw.b.block rb jz];exact h
 refine⟨H.below.trans (hw.mono H.base),Nat.le_trans H.base hw.b.size,I,fun b o e=>?_,fun b ms e=>?_,H.mem,fun b1 b2 o1 o2 r r1 r2 jG e1 e2 J R=>?_,C⟩
 · obtain⟨p,q⟩:=H.live b o e
   refine⟨by omega,fun rb ro k=>?_⟩
   rw[j b p]at k
   obtain⟨jq,a2,a3⟩:=q rb ro k
   exact⟨jq,U a2,a3.mono hg k⟩
 · rw[j b (H.live b _ e).1];exact H.o7 b ms e
 · rw[j b1 (H.live b1 _ e1).1]at J
   rw[j b2 (H.live b2 _ e2).1]at R
   exact H.sep b1 b2 o1 o2 r r1 r2 jG e1 e2 J R
end
end
end Sw
namespace Sw
noncomputable section
open Go Go.RowKit
theorem OP{n:Nat}:∀{A:mF} {b x:Nat},Co n A=true->look b A=some x->b<n
 |[],_,_,_,h=>by cases h
 |(y,z)::A,b,x,hk,h=>by
  simp only[Co,Bool.and_eq_true]at hk
  simp only[look]at h
  cases j:Nat.beq b y with
  |true=>rw[beq_eq j];exact Nat.le_of_ble_eq_true hk.1
  |false=>rw[j]at h;exact OP hk.2 h
theorem Jc{kb:List TB}:∀{A:mF} {b x:Nat},EA A kb=true->look b A=some x->∃j∈kb,j.num=b
 |[],_,_,_,h=>by cases h
 |(y,z)::A,b,x,hk,h=>by
  simp only[EA,Bool.and_eq_true]at hk
  simp only[look]at h
  cases o:Nat.beq b y with
  |true=>
   obtain⟨j,h1,h2⟩:=List.any_eq_true.1 hk.1
   exact⟨j,h1,(beq_eq h2).trans (beq_eq o).symm⟩
  |false=>rw[o]at h;exact Jc hk.2 h
theorem VH{ng i:Nat}(h:i<ng):look i (U_ ng)=some i:=by
 have:∀(l:List Nat),i∈l->look i (l.map fun i=>(i,i))=some i:=by
  intro l
  induction l with
  |nil=>intro h;cases h
  |cons x l ih=>
   intro hm
   simp only[List.map_cons,look]
   cases j:Nat.beq i x with
   |true=>rw[beq_eq j];rfl
   |false=>
    rcases List.mem_cons.1 hm with rfl|hm
    · rw[Nat.beq_refl]at j;cases j
    · exact ih hm
 exact this _ (List.mem_range.2 h)
theorem BW{A:mF}:∀{kb:List TB},xi A kb=true->∀j∈kb,j.mu=true->look (j.num+1) A=none
 |[],_,j,h,_=>by cases h
 |t::kb,h,j,hm,hg=>by
  simp only[xi,Bool.and_eq_true,Bool.or_eq_true,Bool.not_eq_true']at h
  rcases List.mem_cons.1 hm with rfl|hm
  · rcases h.1 with k|k
    · rw[hg]at k;cases k
    · cases hl:look (j.num+1) A with
      |none=>rfl
      |some x=>rw[hl]at k;cases k
  · exact BW h.2 j hm hg
theorem Bt{hi:Nat}:∀{kb:List TB} {lo:Nat},s8 lo hi kb=true->∀j∈kb,j.num+(bif j.mu then 2 else 1)<=hi
 |[],_,_,j,h=>by cases h
 |t::kb,lo,h,j,hm=>by
  simp only[s8,Bool.and_eq_true]at h
  have mono:∀{kb:List TB} {lo:Nat},s8 lo hi kb=true->lo<=hi:=by
   intro kb
   induction kb with
   |nil=>intro lo h;exact Nat.le_of_ble_eq_true h
   |cons t kb ih=>
    intro lo h
    simp only[s8,Bool.and_eq_true]at h
    have:=ih h.2
    have:=Nat.le_of_ble_eq_true h.1
    cases hg:t.mu<;>simp[hg]at*<;>omega
  rcases List.mem_cons.1 hm with rfl|hm
  · exact mono h.2
  · exact Bt h.2 j hm
section
variable {B0:Nat}{w0:World}{g:Gm}{nx:Nat}{w:World}
def Found(B0:Nat)(g:Gm)(w:World)(xO:Nat->Prop)(d:Nat)(j:TB)(cs:List Value):Prop:=
 ∀rb ro,g.gb (d+j.num)=some (rb,ro)->xO rb/\∃jq,w.heap[rb]?=some jq/\oP B0 g (d+j.num) (.cells cs ⟨true,bif j.mu then some (d+j.num+1)else none,0,j.unit⟩) rb ro jq
theorem OQ{xO:Nat->Prop}{d hi:Nat}(ab:d+hi<=nx):∀(kb:List TB) (lo:Nat) (h o:Ht),s8 lo hi kb=true->gu B0 w0 g h.get nx w->P4 g h.get xO->(∀b,d+lo<=b->h.get b=none)->
 (∀j∈kb,j.mu=true->g.gb (d+j.num+1)=none)->(∀j∈kb,∀cs,L9 (HV d 8) j.cs=some cs->Found B0 g w xO d j cs)->P2 d kb h=some o->gu B0 w0 g o.get nx w
 |[],lo,h,o,_,H,_,_,_,_,hl=>by cases hl;exact H
 |j::kb,lo,h,o,hn,H,ad,hf,I,C,hl=>by
  have jz:=Bt hn j (List.mem_cons_self ..)
  simp only[s8,Bool.and_eq_true]at hn
  have ae:=Nat.le_of_ble_eq_true hn.1
  simp only[P2]at hl
  split at hl
  · rename_i cs U
    obtain⟨H1,J,aa⟩:=H.BV (cs:=cs) ad (by omega) (fun b hb=>hf b (by omega)) (I j (List.mem_cons_self ..)) (C j (List.mem_cons_self ..) cs U)
    exact OQ ab kb _ _ o hn.2 H1 J (fun b hb=>aa b (by omega)) (fun t R=>I t (List.mem_cons_of_mem _ R)) (fun t R=>C t (List.mem_cons_of_mem _ R)) hl
  · cases hl
theorem Jd{xO:Nat->Prop}:∀(kb:List TB) (lo:Nat) (h:Ht),s8 lo nx kb=true->gu B0 w0 g h.get nx w->P4 g h.get xO->(∀b,lo<=b->h.get b=none)->
 (∀j∈kb,j.mu=true->g.gb (j.num+1)=none)->(∀j∈kb,Found B0 g w xO 0 j j.cs)->gu B0 w0 g (xM kb h).get nx w
 |[],lo,h,_,H,_,_,_,_=>H
 |j::kb,lo,h,hn,H,U,hf,C,o=>by
  have jz:=Bt hn j (List.mem_cons_self ..)
  simp only[s8,Bool.and_eq_true]at hn
  have aa:=Nat.le_of_ble_eq_true hn.1
  obtain⟨H1,I,R⟩:=H.BV (d:=0) (cs:=j.cs) U (by omega) (fun b hb=>hf b (by omega)) (fun hg=>by rw[Nat.zero_add];exact C j (List.mem_cons_self ..) hg) (o j (List.mem_cons_self ..))
  exact Jd kb _ _ hn.2 H1 I (fun b hb=>R b (by omega)) (fun t J=>C t (List.mem_cons_of_mem _ J)) (fun t J=>o t (List.mem_cons_of_mem _ J))
theorem oP.list{b:Nat}{cs:List Value}{m:gl}{rb ro:Nat}{jq:Obj}(h:oP B0 g b (.cells cs m) rb ro jq):
 ∃rc el o,jq=.cells rc el o/\ro+cs.length<=rc.size/\gX g cs ((rc.toList.drop ro).take cs.length)/\(m.ro=false->B0<=rb)/\(∀gr,m.mu=some gr->g.room b=some (rc.size,m.unit))/\(m.mu=none->g.room b=none):=by
 cases jq<;>first|exact h.elim|skip
 obtain⟨h1,h2,h3,h4,C⟩:=h
 refine⟨_,_,_,rfl,h1,⟨by simp;omega,fun i v v' e j=>?_⟩,fun k=>(h3 k).1,h4,C⟩
 rw[List.getElem?_take]at j
 split at j
 · rw[List.getElem?_drop]at j
   exact h2 i v v' e (by simpa using j)
 · cases j
theorem oP.OR{j:Nat}{g1:Gm}{b1:Nat}{us:List Value}{gr:Option Nat}{u:Nat}{rb ro n:Nat}{rc:Array Value}{el:TypeId}{C:Nat×Nat}(hlen:ro+n<=rc.size)(hl:gX g1 us ((rc.toList.drop ro).take n))
 (h1:∀x,gr=some x->g1.room b1=some (rc.size,u)) (h2:gr=none->g1.room b1=none):oP j g1 b1 (.cells us ⟨true,gr,0,u⟩) rb ro (.cells rc el C):=by
 have hn:us.length=n:=by have:=hl.1;simp at this;omega
 refine⟨by omega,fun i v v' e o=>?_,(fun k=>by cases k),h1,h2⟩
 have hi:i<n:=by have:=(List.getElem?_eq_some_iff.1 e).1;omega
 exact hl.2 i v v' e (by rw[List.getElem?_take,if_pos hi,List.getElem?_drop];simpa using o)
end
end
end Sw
namespace Sw
noncomputable section
open Go Go.RowKit
section
variable {P:Program}{ng:Nat}{e:Env}{B0:Nat}{w0:World}{g:Gm}{nx:Nat}{w:World}{hp:Ht}
def BX(g:Gm)(A:mF):Gm:=⟨fun b=>(look b A).bind g.gb,fun b=>(look b A).bind g.room⟩
theorem Md(g:Gm)(A:mF):Ma (BX g A) g A:=fun j b h=>by simp[BX,h]
def Me(g:Gm)(nx:Nat)(gr:Gm):Gm:=⟨fun b=>if b<nx then g.gb b else gr.gb (b-nx),fun b=>if b<nx then g.room b else gr.room (b-nx)⟩
theorem P5{m:gl}{j:TB}(h:z6 m j=true)(hg:j.mu=false):m.mu=none:=by
 unfold z6 at h
 cases hm:m.mu with
 |none=>rfl
 |some x=>rw[hm,hg]at h;cases h
theorem P6{m:gl}{j:TB}(h:z6 m j=true)(hg:j.mu=true):(∃x,m.mu=some x)/\m.unit=j.unit:=by
 unfold z6 at h
 cases hm:m.mu with
 |none=>rw[hm,hg]at h;cases h
 |some x=>
  rw[hm,hg]at h
  exact⟨⟨x,rfl⟩,beq_eq (by simpa using h)⟩
theorem Mf{ab:Nat}{gc:Gm}{d:Nat}{j:TB}{cs us:List Value}{m:gl}{b:Nat}{xO:Nat->Prop}{aa:World}(C:z6 m j=true)(J:∀rb ro jq,g.gb b=some (rb,ro)->oP B0 g b (.cells cs m) rb ro jq->xO rb)
 (o:∀rb ro,g.gb b=some (rb,ro)->∃jq,aa.heap[rb]?=some jq/\oP B0 g b (.cells cs m) rb ro jq) (hblk:∀x,gc.gb (d+j.num)=some x->g.gb b=some x/\gc.room (d+j.num)=g.room b)
 (I:∀lv,gX g cs lv->gX gc us lv):Found ab gc aa xO d j us:=by
 intro rb ro k
 obtain⟨R,U⟩:=hblk _ k
 obtain⟨jq,a2,a3⟩:=o rb ro R
 refine⟨J rb ro jq R a3,jq,a2,?_⟩
 obtain⟨rc,el,ae,rfl,hlen,hl,ad,h1,h2⟩:=a3.list
 refine oP.OR hlen (I _ hl) (fun x hx=>?_) (fun hx=>?_)
 · cases hg:j.mu with
   |false=>rw[hg]at hx;cases hx
   |true=>
    obtain⟨⟨y,hy⟩,hu⟩:=P6 C hg
    rw[U,h1 y hy,hu]
 · cases hg:j.mu with
   |true=>rw[hg]at hx;cases hx
   |false=>rw[U];exact h2 (P5 C hg)
def Ld(I:Nat->World->Prop):Prop:=∀B0 w0 w,I B0 w0->Below B0 w0 w->B0<=w.heap.size->I w.heap.size w
theorem P7{I:Nat->World->Prop}(a6:Ld I)(hi:I B0 w0)(ok:mE P ng e)(mL:∀B0 w0,I B0 w0->rW P ng B0 w0 e){f:FuncId}{n fuel:Nat}{j:wB}(hold:y8 ng e f n fuel j=true)(H:gu B0 w0 g hp.get nx w)(hg:kT g ng){l:List Value}{args:Array Value}(hl:gX g l args.toList)
 {v:Value} {h:Ht} {aP:Nat} (hu:Jb ng j l hp nx=some (v,h,aP)) (fs:List Frame):qk P B0 w0 .normal g nx f args w v h aP fs:=by
 unfold y8 at hold
 rw[Bool.and_eq_true]at hold
 obtain⟨az,hex⟩:=hold
 unfold W6 at az
 simp only[Bool.and_eq_true]at az
 obtain⟨t1,t2,t3⟩:=az
 have t1:=Nat.le_of_ble_eq_true t1
 unfold Jb at hu
 split at hu
 case h_2=>cases hu
 rename_i A aZ
 split at hu
 case h_2=>cases hu
 rename_i aC aH
 cases ax:(xi aC j.blocks&&Co j.nx aC)with
 |false=>rw[ax]at hu;cases hu
 |true=>
 rw[ax]at hu
 simp only[cond_true]at hu
 split at hu
 case h_2=>cases hu
 rename_i v1 h1 aO aL
 cases hu
 rw[Bool.and_eq_true]at ax
 obtain⟨aX,a7⟩:=AP (Mb 8) _ _ _ _ aZ
 obtain⟨aG,a8⟩:=Mc _ _ _ aH
 let gc:=BX g aC
 have via:=Md g aC
 have aM:gX gc j.args args.toList:=a7 gc g _ (via.sub aG) hl
 have aK:kT gc ng:=fun i hi=>by
  have:=aG _ _ (aX _ _ (VH hi))
  exact(via _ _ this).1.trans (hg i hi)
 have aU:gu w.heap.size w gc (Tr.nil:Ht).get j.nx w:=by
  refine⟨pB.refl _ _,Nat.le_refl _,fun b rb ro k=>?_,fun b o k=>(by cases k),fun b ms k=>(by cases k),fun b cs m gr k=>(by cases k),fun b1 b2 o1 o2 r r1 r2 _ k=>(by cases k),fun b x k=>?_⟩
  · simp only[gc,BX]at k
    obtain⟨c,ad,ae⟩:=Option.bind_eq_some_iff.1 k
    exact⟨OP ax.2 ad,(H.rq _ _ _ ae).2⟩
  · simp only[gc,BX]at k⊢
    obtain⟨c,ad,ae⟩:=Option.bind_eq_some_iff.1 k
    rw[ad]
    exact H.room _ _ ae
 have aT:gu w.heap.size w gc (xM j.blocks .nil).get j.nx w:=by
  refine Jd (xO:=fun _=>True) j.blocks 0 .nil t2 aU (fun rb _ b o r1 k=>by cases k) (fun b _=>rfl) (fun C ak ai=>?_) (fun C ak=>?_)
  · have:=BW ax.1 C ak ai
    simp[gc,BX,this]
  · obtain⟨b,cs,m,aq,aB,q3,_,aF⟩:=a8 C ak
    refine Mf (g:=g) (b:=b) (cs:=cs) (m:=m) (B0:=B0) q3 (fun _ _ _ _ _=>trivial) (fun rb ro k=>(H.live b _ aB).2 rb ro k) (fun x k=>?_) (fun lv av=>aF gc g lv via av)
    rw[Nat.zero_add]at k⊢
    obtain⟨p1,aA⟩:=via _ _ aq
    exact⟨p1▸k,aA⟩
 have aD:=a6 _ _ _ hi H.below.b H.base
 obtain⟨f',aa,rest,x,hr⟩:=lS.GM (yW ok (mL _ _ aD) (Fs ok (mL _ _ aD) n) aT aK aM fs (Ts j)) hex
 rcases aa with aa|⟨bj,fe,fg,aa,L⟩
 · obtain⟨m,aa⟩:=aa rest;rw[hr]at aa;cases aa
 have ab:=aa rest
 rw[hr]at ab
 unfold Ts at ab
 split at ab
 case h_2=>cases ab
 rename_i bd aI
 split at ab
 case h_2=>cases ab
 rename_i ar aJ
 cases aj:(EA ar j.xj&&xi ar j.xj)with
 |false=>rw[aj]at ab;cases ab
 |true=>
 rw[Bool.and_eq_true]at aj
 obtain⟨v',w',ag,au,aV,bf,st⟩:=L
 have R:pB w.heap.size w w':=au.below
 obtain⟨bg,a_⟩:=Mb 8 _ _ _ _ aI
 obtain⟨aY,aQ⟩:=Mc _ _ _ aJ
 let gr:=BX ag ar
 have al:=Md ag ar
 have aW:fQ gr j.res v':=a_ gr ag v' (al.sub aY) aV
 let g':=Me g nx gr
 have J:∀b,b<nx->g'.gb b=g.gb b:=fun b hb=>by simp[g',Me,hb]
 have an:∀b,b<nx->g'.room b=g.room b:=fun b hb=>by simp[g',Me,hb]
 have U:∀b,nx<=b->g'.gb b=gr.gb (b-nx):=fun b hb=>by simp[g',Me,Nat.not_lt.2 hb]
 have af:∀b,nx<=b->g'.room b=gr.room (b-nx):=fun b hb=>by simp[g',Me,Nat.not_lt.2 hb]
 have hle:g.le g':=⟨fun b x k=>by rw[J b (H.rq b x.1 x.2 k).1];exact k,fun b x k=>an b (H.rq b x.1 x.2 k).1⟩
 have ao:P3 nx gr g':=fun b _=>by
  have:nx+b-nx=b:=by omega
  rw[U _ (Nat.le_add_right _ _),af _ (Nat.le_add_right _ _),this]
  exact⟨rfl,rfl⟩
 have aw:∀b c,look b ar=some c->b<j.L_:=fun b c k=>by
  obtain⟨C,h1,h2⟩:=Jc aj.1 k
  have:=Bt t3 C h1
  cases ai:C.mu<;>simp[ai]at this<;>omega
 have fresh:∀b rb ro,gr.gb b=some (rb,ro)->w.heap.size<=rb/\rb<w'.heap.size/\b<j.L_:=fun b rb ro k=>by
  simp only[gr,BX]at k
  obtain⟨c,ad,ae⟩:=Option.bind_eq_some_iff.1 k
  obtain⟨C,h1,h2⟩:=Jc aj.1 ad
  obtain⟨c2,cs,m,aq,aB,q3,aE,_⟩:=aQ C h1
  rw[h2,ad]at aq;cases aq
  obtain⟨jq,_,a3⟩:=(au.live c _ aB).2 rb ro ae
  obtain⟨_,_,_,_,_,_,ay,_⟩:=a3.list
  exact⟨ay (aE rfl),(au.rq _ _ _ ae).2,aw b c ad⟩
 have aR:gu B0 w0 g' hp.get (nx+j.L_) w':=by
  refine H.later R hle (Nat.le_add_right _ _) J (fun b rb ro k=>?_) (fun b x k=>?_)
  · by_cases hb:b<nx
    · rw[J b hb]at k
      have:=(H.rq _ _ _ k).2
      have:=R.b.size
      exact⟨by omega,by omega⟩
    · rw[U b (Nat.not_lt.1 hb)]at k
      obtain⟨_,aA,bh⟩:=fresh _ _ _ k
      exact⟨by omega,aA⟩
  · by_cases hb:b<nx
    · rw[an b hb]at k;rw[J b hb];exact H.room b x k
    · rw[af b (Nat.not_lt.1 hb)]at k
      rw[U b (Nat.not_lt.1 hb)]
      simp only[gr,BX]at k⊢
      obtain⟨c,ad,ae⟩:=Option.bind_eq_some_iff.1 k
      rw[ad]
      exact au.room _ _ ae
 have aS:gu B0 w0 g' h.get (nx+j.L_) w':=by
  refine OQ (xO:=fun rb=>w.heap.size<=rb) (hi:=j.L_) (Nat.le_refl _) j.xj 0 hp h t3 aR (fun rb bc b o r1 ad ae=>?_) (fun b hb=>?_) (fun C ak ai=>?_) (fun C ak us aN=>?_) aL
  · exfalso
    have hb:=(H.live b o ad).1
    rw[J b hb]at ae
    have:=(H.rq _ _ _ ae).2
    omega
  · cases hx:hp.get b with
    |none=>rfl
    |some o=>have:=(H.live b o hx).1;omega
  · rw[U _ (by omega)]
    have:nx+C.num+1-nx=C.num+1:=by omega
    rw[this]
    have:=BW aj.2 C ak ai
    simp[gr,BX,this]
  · obtain⟨c,cs,m,aq,aB,q3,aE,aF⟩:=aQ C ak
    refine Mf (g:=ag) (b:=c) (cs:=cs) (m:=m) (B0:=w.heap.size) q3 (fun rb ro jq _ a3=>?_) (fun rb ro k=>(au.live c _ aB).2 rb ro k) (fun x k=>?_) (fun lv av=>?_)
    · obtain⟨_,_,_,_,_,_,ay,_⟩:=a3.list
      exact ay (aE rfl)
    · rw[U _ (Nat.le_add_right _ _)]at k
      rw[af _ (Nat.le_add_right _ _)]
      have:nx+C.num-nx=C.num:=by omega
      rw[this]at k⊢
      obtain⟨p1,aA⟩:=al _ _ aq
      exact⟨p1▸k,aA⟩
    · exact HW (Ro nx 8) _ _ aN gr g' lv ao (aF gr ag lv al av)
 refine⟨v',w',g',aS,Ro nx 8 _ _ aO gr g' v' ao aW,⟨⟨hle,Nat.le_add_right _ _,fun b hb=>?_⟩,⟨R.b.size,fun rb jz _=>R.b.block rb jz⟩,fun b rb ro k=>?_⟩,st⟩
 · by_cases ah:b<nx
   · rw[J b ah]at hb;exact .inl hb
   · exact .inr (Nat.not_lt.1 ah)
 · by_cases ah:b<nx
   · rw[J b ah]at k;exact .inl ⟨b,ro,k⟩
   · rw[U b (Nat.not_lt.1 ah)]at k
     exact .inr (fresh _ _ _ k).1
theorem J7:∀{pS:List wB} {l:List Value} {hp:Ht} {nx:Nat} {r:Value×Ht×Nat},yY ng pS l hp nx=some r->∃j∈pS,Jb ng j l hp nx=some r
 |[],_,_,_,_,h=>by cases h
 |j::pS,l,hp,nx,r,h=>by
  simp only[yY]at h
  split at h
  · rename_i o hr
    cases h
    exact⟨j,List.mem_cons_self ..,hr⟩
  · obtain⟨t,h1,h2⟩:=J7 h
    exact⟨t,List.mem_cons_of_mem _ h1,h2⟩
theorem VI{I:Nat->World->Prop}(U:Ld I)(hi:I B0 w0)(ok:mE P ng e)(mL:∀B0 w0,I B0 w0->rW P ng B0 w0 e){f:FuncId}{pS:List wB}(hold:∀o∈pS,∃n fuel,y8 ng e f n fuel o=true)(l:List Value)(args:Array Value)(hp:Ht)(nx:Nat)(g:Gm)(w:World)(H:gu B0 w0 g hp.get nx w)(hg:kT g ng)(hl:gX g l args.toList):
 (∀cs k j,(xN ng pS).run l hp nx cs k j=j)\/∃J:List Nat->KC->R,(∀cs k j,(xN ng pS).run l hp nx cs k j=J cs k)/\∀fs,tx P B0 w0 .normal g nx f args w fs J:=by
 cases hu:yY ng pS l hp nx with
 |none=>exact .inl fun cs k j=>by simp only[xN,hu]
 |some r=>
  obtain⟨v,h,C⟩:=r
  obtain⟨o,h1,h2⟩:=J7 hu
  obtain⟨n,fuel,h3⟩:=hold o h1
  refine .inr ⟨fun cs k=>k v h C cs,fun cs k j=>by simp only[xN,hu],fun fs k=>.here (.inr ⟨v,h,C,fun cs=>rfl,?_⟩)⟩
  exact P7 U hi ok mL h3 H hg hl h2 fs
end
end
end Sw
namespace Sw
noncomputable section
open Go Go.RowKit
def Mg{α:Type}:Nat->List α->Tr α->Tr α
 |_,[],t=>t
 |i,x::xs,t=>Mg (i+1) xs (t.set i (some x))
theorem OS{α:Type}:∀(l:List α) (i:Nat) (t:Tr α) (j:Nat),(Mg i l t).get j=if i<=j/\j<i+l.length then l[j-i]? else t.get j
 |[],i,t,j=>by simp[Mg];omega
 |x::xs,i,t,j=>by
  have o:∀k,(t.set i (some x)).get k=if k=i then some x else t.get k:=fun k=>by
   show(t.zx (i+1) (some x)).yn (k+1)=if k=i then some x else t.yn (k+1)
   rw[Tr.JQ t (some x) _ _ (by omega) (by omega)]
   by_cases h:k=i
   · rw[if_pos h,if_pos (by omega)]
   · rw[if_neg h,if_neg (by omega)]
  rw[Mg,OS xs (i+1)]
  by_cases h:i+1<=j/\j<i+1+xs.length
  · rw[if_pos h,if_pos ⟨by omega,by simp;omega⟩]
    have:j-i=(j-(i+1))+1:=by omega
    rw[this];simp
  · rw[if_neg h,o]
    by_cases hj:j=i
    · subst hj
      rw[if_pos rfl,if_pos ⟨Nat.le_refl _,by simp⟩];simp
    · rw[if_neg hj,if_neg (by simp;omega)]
theorem wK{α:Type}(l:List α)(j:Nat):(Mg 0 l .nil).get j=l[j]?:=by
 rw[OS]
 by_cases h:j<l.length
 · rw[if_pos ⟨Nat.zero_le _,by omega⟩];simp
 · rw[if_neg (by omega)]
   have:(Tr.nil:Tr α).get j=none:=rfl
   rw[this];simp;omega
def X9(nt:Nat):ResultVar->Bool
 |.tmp i=>Nat.blt i nt
 |.cell i _=>Nat.blt i nt
def zD(ng:Nat)(fn:Func):Bool:=match fn.body with
 |none=>false
 |some b=>Nat.ble fn.ntmps 512&&(codeOk ng fn.ntmps b&&(fn.results.toList.all (X9 fn.ntmps)&&!(fn.name== "runtime.NumGoroutine")))
def Le(fn:Func):Option vQ:=match fn.body with
 |some b=>some ⟨b,fn.ntmps,fn.results.toList⟩
 |none=>none
def Mh(i:TypeInfo):Bool:=match i.zero with
 |some z=>flat z&&Nat.beq z.cells.size i.size
 |none=>true
def AQ(T:Ty)(i:TypeInfo):Bool:=match i.desc with
 |.struct fs=>fs.toList.all fun f=>(T.size f.type).isSome
 |_=>true
def HX(T:Ty)(t:TypeId)(name:String)(f:FuncId):Bool:=match T.info t,T.ji t with
 |some i,some d=>(match i.methods.find? (·.name==name)with
  |some m=>m.path.isEmpty&&((match m.func with|some (g,p)=>Nat.beq g f&&!p|none=>false)&&(match d with|.pointer _=>false|_=>true))
  |none=>false)
 |_,_=>false
theorem P8{P:Program}{T:Ty}(ok:T.Ok P){t:TypeId}{name:String}{f:FuncId}(h:HX T t name f=true)(v:Value)(w:World):(method (P.types.size+Made.depth) t v name).run P w=.ok (f,v) w:=by
 unfold HX at h
 split at h
 · rename_i i d hi hd
   split at h
   · rename_i m hm
     simp only[Bool.and_eq_true]at h
     obtain⟨h1,h2,h3⟩:=h
     have o:m.path=#[]:=by simpa using h1
     cases j:m.func with
     |none=>rw[j]at h2;cases h2
     |some C=>
      obtain⟨g,p⟩:=C
      rw[j]at h2
      simp only[Bool.and_eq_true,Bool.not_eq_true']at h2
      obtain⟨h2,rfl⟩:=h2
      have:=beq_eq h2
      subst this
      have P9:0<Made.depth:=by decide
      obtain⟨n,hn⟩:∃n,P.types.size+Made.depth=n+1:=⟨P.types.size+Made.depth-1,by omega⟩
      rw[hn]
      unfold method
      have r1:(typeInfo t).run P w=.ok i w:=ok.rM hi w
      rw[fw r1,hm]
      simp only[o,j]
      have r2:(follow (#[]:Array FieldStep).toList t (.val v)).run P w=.ok (t,.val v) w:=rfl
      rw[fw r2]
      simp only
      have I:(receiverAt t (.val v) false (if(#[]:Array FieldStep).isEmpty then some ((name.splitOn ".").getLastD name)else none)).run P w=.ok v w:=by
       unfold receiverAt
       rw[fw (ok.gS hd w)]
       cases d<;>first|(cases h3;done)|rfl
      rw[fw I];rfl
   · cases h
 · cases h
theorem X_{P:Program}{ng:Nat}{T:Ty}{F:FuncId->Option Func}{M:TypeId->String->Option FuncId}{K:FuncId->Option IX}{low:Nat}(hT:T.Ok P)(o:T.B9)(C:∀f fn,F f=some fn->P.funcs[f]?=some fn/\zD ng fn=true)
 (I:∀t n f,M t n=some f->HX T t n f=true):mE P ng ⟨T,fun f=>(F f).bind Le,M,K,low⟩:=by
 refine⟨hT,o,fun f fi h=>?_,fun t n f h=>P8 hT (I t n f h)⟩
 obtain⟨fn,h1,h2⟩:=Option.bind_eq_some_iff.1 h
 obtain⟨h3,h4⟩:=C f fn h1
 unfold Le at h2
 unfold zD at h4
 cases hb:fn.body with
 |none=>rw[hb]at h2;cases h2
 |some b=>
  rw[hb]at h2 h4
  cases h2
  simp only[Bool.and_eq_true,Bool.not_eq_true']at h4
  obtain⟨J,R,j,U⟩:=h4
  refine⟨fn,h3,hb,rfl,rfl,U,Nat.le_of_ble_eq_true J,R,?_⟩
  rw[List.all_eq_true]at j⊢
  intro r hr
  have:=j r hr
  cases r<;>exact this
theorem Ya{P:Program}{T:Ty}(h:∀t i,T.info t=some i->P.info? t=some i/\Mh i=true/\AQ T i=true)
 (he:∀t,T.Gn t=true->P.stoodInHeld t=false/\P.eqGuardType P.depth t=false/\∀fs,P.underlying t=some (.struct fs)->∀f∈fs.toList,f.name≠ "_"):T.Ok P/\T.B9:=by
 refine⟨⟨fun t i k=>(h t i k).1,fun t i z k j=>?_,fun t i z k j=>?_,he⟩,fun t fs hu f hf=>?_⟩
 · have:=(h t i k).2.1
   unfold Mh at this
   rw[j]at this
   simp only[Bool.and_eq_true]at this
   exact this.1
 · have:=(h t i k).2.1
   unfold Mh at this
   rw[j]at this
   simp only[Bool.and_eq_true]at this
   exact beq_eq this.2
 · have key:∀i,AQ T i=true->i.desc=.struct fs->∃n,T.size f.type=some n:=fun i hc hd=>by
    unfold AQ at hc
    rw[hd]at hc
    exact Option.isSome_iff_exists.1 (List.all_eq_true.1 hc f hf)
   unfold Ty.ji at hu
   split at hu
   · rename_i i hi
     split at hu
     · rename_i u hd
       obtain⟨i2,h2,h3⟩:=Option.map_eq_some_iff.1 hu
       exact key i2 (h u i2 h2).2.2 h3
     · exact key i (h t i hi).2.2 (Option.some.inj hu)
   · cases hu
end
end Sw
namespace Sw
noncomputable section
open Go Go.RowKit
def me(e:Env)(fm:Fm)(c:Code)(s:St)(o:Nat)(C:St):Prop:=∃j,∀n,j<=n->∀cs,ev e n fm c (s.at cs)=.ok (o,C.at cs)
def AR(e:Env)(f:FuncId)(l:List Value)(hp:Ht)(nx:Nat)(v:Value)(fe:Ht)(fg:Nat):Prop:=
 ∃j,∀n,j<=n->∀cs k,mP e (ev e n) f l hp nx cs k=k v fe fg cs
theorem VJ(e:Env)(n:Nat)(fm:Fm)(c:Code)(s:St):ev e (n+1) fm c s=uW c e (ev e n) fm s:=rfl
section
variable {e:Env}{fm:Fm}{s s1 s2:St}{o:Nat}
theorem me.step{c:Code}(h:∃j,∀n,j<=n->∀cs,uW c e (ev e n) fm (s.at cs)=.ok (o,s1.at cs)):me e fm c s o s1:=by
 obtain⟨j,h⟩:=h
 refine⟨j+1,fun n hn cs=>?_⟩
 obtain⟨m,rfl⟩:∃m,n=m+1:=⟨n-1,by omega⟩
 rw[VJ]
 exact h m (by omega) cs
theorem me.skip:me e fm .skip s 0 s:=.step ⟨0,fun _ _ _=>rfl⟩
theorem me.exit{i:Nat}:me e fm (.exit i) s (i+2) s:=.step ⟨0,fun _ _ _=>rfl⟩
theorem me.ret:me e fm .ret s 1 s:=.step ⟨0,fun _ _ _=>rfl⟩
theorem OT(a b:Code)(e:Env)(rec:Rec)(fm:Fm)(s:St):uW (.seq a b) e rec fm s=(match rec fm a s with
 |.ok (o,s1)=>(match o with
  |0=>rec fm b s1
  |o+1=>.ok (o+1,s1))
 |.gm m=>.gm m):=rfl
theorem me.seq{a b:Code}(h:me e fm a s 0 s1)(k:me e fm b s1 o s2):me e fm (.seq a b) s o s2:=by
 obtain⟨j,h⟩:=h
 obtain⟨n2,k⟩:=k
 refine .step ⟨max j n2,fun n hn cs=>?_⟩
 rw[OT,h n (by omega) cs]
 exact k n (by omega) cs
theorem me.GA{a b:Code}(h:me e fm a s (o+1) s1):me e fm (.seq a b) s (o+1) s1:=by
 obtain⟨j,h⟩:=h
 refine .step ⟨j,fun n hn cs=>?_⟩
 rw[OT,h n hn cs]
theorem Tu(x:Operand)(a b:Code)(e:Env)(rec:Rec)(fm:Fm)(s:St):uW (.cond x a b) e rec fm s=(match (aaj x).run s.to with
 |.bool c=>(match c with
  |true=>rec fm a s
  |false=>rec fm b s)
 |_=>.gm 0):=rfl
theorem me.cond{x:Operand}{a b:Code}{t:Bool}(hx:(aaj x).run s.to=.bool t)(h:me e fm (if t then a else b) s o s1):me e fm (.cond x a b) s o s1:=by
 obtain⟨j,h⟩:=h
 refine .step ⟨j,fun n hn cs=>?_⟩
 have hx:(aaj x).run (s.at cs).to=.bool t:=hx
 rw[Tu,hx]
 cases t with
 |true=>exact h n hn cs
 |false=>exact h n hn cs
theorem me.Yb{x:Operand}{a b:Code}(hx:(aaj x).run s.to=.bool true)(h:me e fm a s o s1):me e fm (.cond x a b) s o s1:=.cond hx h
theorem me.Yc{x:Operand}{a b:Code}(hx:(aaj x).run s.to=.bool false)(h:me e fm b s o s1):me e fm (.cond x a b) s o s1:=.cond hx h
theorem J8(id:Nat)(b:Code)(e:Env)(rec:Rec)(fm:Fm)(s:St):uW (.block id b) e rec fm s=(match rec fm b s with
 |.ok (o,s1)=>bif Nat.beq o (id+2)then .ok (0,s1)else .ok (o,s1)
 |.gm m=>.gm m):=rfl
theorem me.En{id:Nat}{b:Code}(h:me e fm b s (id+2) s1):me e fm (.block id b) s 0 s1:=by
 obtain⟨j,h⟩:=h
 refine .step ⟨j,fun n hn cs=>?_⟩
 rw[J8,h n hn cs]
 simp only[Nat.beq_refl,cond_true]
theorem me.block{id:Nat}{b:Code}(h:me e fm b s o s1)(jG:Nat.beq o (id+2)=false):me e fm (.block id b) s o s1:=by
 obtain⟨j,h⟩:=h
 refine .step ⟨j,fun n hn cs=>?_⟩
 rw[J8,h n hn cs]
 simp only[jG,cond_false]
theorem Mi(b:Code)(e:Env)(rec:Rec)(fm:Fm)(s:St):uW (.loop b) e rec fm s=(match rec fm b s with
 |.ok (o,s1)=>(match o with
  |0=>rec fm (.loop b) s1
  |o+1=>.ok (o+1,s1))
 |.gm m=>.gm m):=rfl
theorem me.loop{b:Code}(h:me e fm b s 0 s1)(k:me e fm (.loop b) s1 o s2):me e fm (.loop b) s o s2:=by
 obtain⟨j,h⟩:=h
 obtain⟨n2,k⟩:=k
 refine .step ⟨max j n2,fun n hn cs=>?_⟩
 rw[Mi,h n (by omega) cs]
 exact k n (by omega) cs
theorem me.Em{b:Code}(h:me e fm b s (o+1) s1):me e fm (.loop b) s (o+1) s1:=by
 obtain⟨j,h⟩:=h
 refine .step ⟨j,fun n hn cs=>?_⟩
 rw[Mi,h n hn cs]
theorem me.scope{b:Code}(h:me e fm b s o s1):me e fm (.scope b) s o s1:=by
 obtain⟨j,h⟩:=h
 exact .step ⟨j,fun n hn cs=>h n hn cs⟩
theorem me.region{id:Nat}{ops:Array Oper}(h:∃j,∀n,j<=n->∀cs,vR (gY ops.toList ops.toList) e (ev e n) fm (s.at cs)=.ok (0,s1.at cs)):me e fm (.region id ops false) s 0 s1:=by
 obtain⟨o,h⟩:=h
 exact .step ⟨o,fun n hn cs=>h n hn cs⟩
theorem me.draw{id:Nat}{ops:Array Oper}(h:∃j,∀n,j<=n->∀cs,oE (zN (vH ops.toList) ops.toList (xD (vH ops.toList) ops.toList).rT) e (ev e n) fm (s.at cs)=.ok (0,s1.at cs)):me e fm (.region id ops true) s 0 s1:=by
 obtain⟨o,h⟩:=h
 exact .step ⟨o,fun n hn cs=>h n hn cs⟩
theorem AR.I2{f:FuncId}{fi:vQ}{l:List Value}{hp:Ht}{nx:Nat}{t:Tm}{j:St}{vs:List Value}{o:Nat}(hk:e.K f=none)(hf:e.F f=some fi)(hl:Nat.ble l.length fi.nt=true)(I:setArgs yV l Tm.undef=some t)
 (hb:me e ⟨f,fi.nt,none⟩ fi.body ⟨t,[],hp,nx,[]⟩ o j) (C:Nat.ble o 1=true) (hd:j.ds=[]) (hr:mH e.T j.hp.get j.to fi.res=some vs):AR e f l hp nx (qz vs) j.hp j.nx:=by
 obtain⟨J,hb⟩:=hb
 refine⟨J,fun n hn cs k=>?_⟩
 have hb:=hb n hn cs
 simp only[mP,hk,tJ,hf,sA,hl,cond_true,I]
 have hb:ev e n ⟨f,fi.nt,none⟩ fi.body ⟨t,[],hp,nx,cs⟩=.ok (o,j.at cs):=hb
 rw[hb]
 simp only[St.at,C,cond_true,hd,lI,yr,hr]
theorem AR.VK{ng:Nat}{f:FuncId}{pS:List wB}{l:List Value}{hp fe:Ht}{nx fg:Nat}{v:Value}(hk:e.K f=some (xN ng pS))(hu:yY ng pS l hp nx=some (v,fe,fg)):AR e f l hp nx v fe fg:=
 ⟨0,fun n _ cs k=>by simp only[mP,hk,xN,hu]⟩
end
section
variable {all:List Oper}{e:Env}{rec:Rec}{fm:Fm}{to:Tm}{ds:List Deferred}{hp:Ht}{nx:Nat}{cs:List Nat}{k:St->R}{d:Option Tmp}{ty:TypeId}{pos:String}{j1:Array Edge}
end
theorem Mj(all:List Oper)(o:Oper)(os:List Oper):gY all (o::os)=iH all o::gY all os:=rfl
theorem Tv(c:Cl)(l:List Cl)(e:Env)(rec:Rec)(fm:Fm)(s:St)(cs:List Nat):vR (c::l) e rec fm (s.at cs)=c.run e rec fm s.to s.ds s.hp s.nx cs fun s=>vR l e rec fm s:=rfl
end
end Sw
namespace Sw
noncomputable section
open Go Go.RowKit
def WP(e:Env)(fm:Fm)(c:Code)(s:St)(Q:Nat->St->Prop):Prop:=∃o j,me e fm c s o j/\Q o j
def WC(e:Env)(fm:Fm)(c:Cl)(s:St)(Q:St->Prop):Prop:=∃s1,(∃j,∀n,j<=n->∀cs k,c.run e (ev e n) fm s.to s.ds s.hp s.nx cs k=k (s1.at cs))/\Q s1
def WO(e:Env)(fm:Fm)(l:List Cl)(s:St)(Q:St->Prop):Prop:=∃s1,(∃j,∀n,j<=n->∀cs,vR l e (ev e n) fm (s.at cs)=.ok (0,s1.at cs))/\Q s1
def WN(e:Env)(fm:Fm)(l:List Cl)(s:St)(Q:St->Prop):Prop:=∃s1,(∃j,∀n,j<=n->∀cs k,yw l e (ev e n) fm (s.at cs) k=k (s1.at cs))/\Q s1
def WD(e:Env)(fm:Fm)(l:List JO)(s:St)(Q:St->Prop):Prop:=∃s1,(∃j,∀n,j<=n->∀cs,oE l e (ev e n) fm (s.at cs)=.ok (0,s1.at cs))/\Q s1
def jh(e:Env)(l:List s6)(s:St):Prop:=∀cs k,wX l e (s.at cs) k=k
def WF(e:Env)(f:FuncId)(l:List Value)(hp:Ht)(nx:Nat)(Q:Value->Ht->Nat->Prop):Prop:=∃v fe fg,AR e f l hp nx v fe fg/\Q v fe fg
section
variable {e:Env}{fm:Fm}{s s1:St}{Q:St->Prop}{W:Nat->St->Prop}
theorem WP.mono{c:Code}{j:Nat->St->Prop}(h:WP e fm c s W)(k:∀o s,W o s->j o s):WP e fm c s j:=by
 obtain⟨o,C,h1,h2⟩:=h;exact⟨o,C,h1,k _ _ h2⟩
theorem WF.mono{f:FuncId}{l:List Value}{hp:Ht}{nx:Nat}{A B:Value->Ht->Nat->Prop}(h:WF e f l hp nx A)(k:∀v hp nx,A v hp nx->B v hp nx):WF e f l hp nx B:=by
 obtain⟨v,fe,fg,h1,h2⟩:=h;exact⟨v,fe,fg,h1,k _ _ _ h2⟩
theorem WP.seq{a b:Code}(h:WP e fm a s fun o s1=>match o with
 |0=>WP e fm b s1 W
 |o+1=>W (o+1) s1):WP e fm (.seq a b) s W:=by
 obtain⟨o,s1,h1,h2⟩:=h
 cases o with
 |zero=>obtain⟨o2,s2,h3,h4⟩:=h2;exact⟨o2,s2,h1.seq h3,h4⟩
 |succ o=>exact⟨o+1,s1,h1.GA,h2⟩
theorem WP.skip(h:W 0 s):WP e fm .skip s W:=⟨0,s,.skip,h⟩
theorem WP.ret(h:W 1 s):WP e fm .ret s W:=⟨1,s,.ret,h⟩
theorem WP.exit{i:Nat}(h:W (i+2) s):WP e fm (.exit i) s W:=⟨_,s,.exit,h⟩
theorem WP.cond{x:Operand}{a b:Code}(t:Bool)(hx:(aaj x).run s.to=.bool t)(h1:t=true->WP e fm a s W)(h2:t=false->WP e fm b s W):WP e fm (.cond x a b) s W:=by
 cases t with
 |true=>obtain⟨o,j,h,k⟩:=h1 rfl;exact⟨o,j,.Yb hx h,k⟩
 |false=>obtain⟨o,j,h,k⟩:=h2 rfl;exact⟨o,j,.Yc hx h,k⟩
theorem WP.block{id:Nat}{b:Code}(h:WP e fm b s fun o s1=>W (bif Nat.beq o (id+2)then 0 else o) s1):WP e fm (.block id b) s W:=by
 obtain⟨o,s1,h1,h2⟩:=h
 cases hb:Nat.beq o (id+2)with
 |true=>
  rw[hb]at h2
  obtain rfl:=Nat.eq_of_beq_eq_true hb
  exact⟨0,s1,.En h1,h2⟩
 |false=>rw[hb]at h2;exact⟨o,s1,.block h1 hb,h2⟩
theorem WP.loop{b:Code}(I:Nat->St->Prop)(hb:∀m s,I m s->WP e fm b s fun o s1=>match o with
 |0=>∃j,j<m/\I j s1
 |o+1=>W (o+1) s1):∀(m:Nat) {s:St},I m s->WP e fm (.loop b) s W:=by
 intro m
 induction m using Nat.strongRecOn with
 |_ m ih=>
  intro s hs
  obtain⟨o,s1,h1,h2⟩:=hb m s hs
  cases o with
  |zero=>
   obtain⟨j,hm,hi⟩:=h2
   obtain⟨o2,s2,h3,h4⟩:=ih j hm hi
   exact⟨o2,s2,.loop h1 h3,h4⟩
  |succ o=>exact⟨o+1,s1,.Em h1,h2⟩
theorem WP.region{id:Nat}{ops:Array Oper}(h:WO e fm (gY ops.toList ops.toList) s (W 0)):WP e fm (.region id ops false) s W:=by
 obtain⟨s1,h1,h2⟩:=h;exact⟨0,s1,.region h1,h2⟩
theorem WP.draw{id:Nat}{ops:Array Oper}(h:WD e fm (zN (vH ops.toList) ops.toList (xD (vH ops.toList) ops.toList).rT) s (W 0)):WP e fm (.region id ops true) s W:=by
 obtain⟨s1,h1,h2⟩:=h;exact⟨0,s1,.draw h1,h2⟩
theorem WO.nil{all:List Oper}(h:Q s):WO e fm (gY all []) s Q:=⟨s,⟨0,fun _ _ _=>rfl⟩,h⟩
theorem WO.cons{all:List Oper}{o:Oper}{os:List Oper}(h:WC e fm (iH all o) s fun s1=>WO e fm (gY all os) s1 Q):WO e fm (gY all (o::os)) s Q:=by
 obtain⟨s1,⟨j,h1⟩,s2,⟨n2,h2⟩,q⟩:=h
 exact⟨s2,⟨max j n2,fun n hn cs=>by rw[Mj,Tv,h1 n (by omega)];exact h2 n (by omega) cs⟩,q⟩
theorem WN.nil(h:Q s):WN e fm [] s Q:=⟨s,⟨0,fun _ _ _ _=>rfl⟩,h⟩
theorem VL(c:Cl)(l:List Cl)(e:Env)(rec:Rec)(fm:Fm)(s:St)(cs:List Nat)(k:St->R):yw (c::l) e rec fm (s.at cs) k=c.run e rec fm s.to s.ds s.hp s.nx cs fun s=>yw l e rec fm s k:=rfl
theorem WN.cons{c:Cl}{l:List Cl}(h:WC e fm c s fun s1=>WN e fm l s1 Q):WN e fm (c::l) s Q:=by
 obtain⟨s1,⟨j,h1⟩,s2,⟨n2,h2⟩,q⟩:=h
 exact⟨s2,⟨max j n2,fun n hn cs k=>by rw[VL,h1 n (by omega)];exact h2 n (by omega) cs k⟩,q⟩
theorem KG(ne:List Cl)(pQ:List s6)(c:Cl)(j:List JO)(e:Env)(rec:Rec)(fm:Fm)(s:St):oE (⟨ne,pQ,some c⟩::j) e rec fm s=
 yw ne e rec fm s (fun st1=>wX pQ e st1 (c.run e rec fm st1.to st1.ds st1.hp st1.nx st1.cs (fun st2=>oE j e rec fm st2))):=rfl
theorem KH(ne:List Cl)(pQ:List s6)(j:List JO)(e:Env)(rec:Rec)(fm:Fm)(s:St):oE (⟨ne,pQ,none⟩::j) e rec fm s=
 yw ne e rec fm s (fun st1=>wX pQ e st1 (.ok (0,st1))):=rfl
theorem WD.ln{ne:List Cl}{pQ:List s6}{c:Cl}{j:List JO}(h:WN e fm ne s fun s1=>jh e pQ s1/\WC e fm c s1 fun s2=>WD e fm j s2 Q):WD e fm (⟨ne,pQ,some c⟩::j) s Q:=by
 obtain⟨s1,⟨o,h1⟩,hk,s2,⟨n2,h2⟩,I,⟨C,h3⟩,q⟩:=h
 refine⟨I,⟨max o (max n2 C),fun n hn cs=>?_⟩,q⟩
 rw[KG,h1 n (by omega),hk]
 show c.run e (ev e n) fm s1.to s1.ds s1.hp s1.nx cs _=_
 rw[h2 n (by omega)]
 exact h3 n (by omega) cs
theorem WD.last{ne:List Cl}{pQ:List s6}{o:List JO}(h:WN e fm ne s fun s1=>jh e pQ s1/\Q s1):WD e fm (⟨ne,pQ,none⟩::o) s Q:=by
 obtain⟨s1,⟨j,h1⟩,hk,q⟩:=h
 refine⟨s1,⟨j,fun n hn cs=>?_⟩,q⟩
 rw[KH,h1 n hn,hk]
theorem jh.nil:jh e [] s:=fun _ _=>rfl
theorem jh.cons{c:s6}{l:List s6}(h:∀k,c.run e.T s.hp s.nx s.to k=k)(hl:jh e l s):jh e (c::l) s:=fun cs k=>by
 have:wX (c::l) e (s.at cs) k=c.run e.T s.hp s.nx s.to (wX l e (s.at cs) k):=rfl
 rw[this,h,hl]
end
section
variable {e:Env}{fm:Fm}{c:Cl}{to:Tm}{ds:List Deferred}{hp:Ht}{nx:Nat}{gW:List Nat}{Q:St->Prop}
theorem WC.val(d:Nat)(v:Value)(h:∀rec cs k,c.run e rec fm to ds hp nx cs k=k ⟨to.set d v,ds,hp,nx,cs⟩)(q:Q ⟨to.set d v,ds,hp,nx,gW⟩):WC e fm c ⟨to,ds,hp,nx,gW⟩ Q:=
 ⟨⟨to.set d v,ds,hp,nx,gW⟩,⟨0,fun n _ cs k=>h (ev e n) cs k⟩,q⟩
theorem WC.opt(d:Nat)(o:Option Value){v:Value}(h:∀rec cs k,c.run e rec fm to ds hp nx cs k=kF o (fun v=>k ⟨to.set d v,ds,hp,nx,cs⟩))(j:o=some v)(q:Q ⟨to.set d v,ds,hp,nx,gW⟩):WC e fm c ⟨to,ds,hp,nx,gW⟩ Q:=
 .val d v (fun rec cs k=>by rw[h,j];rfl) q
def jg:tH->Ht->Ht
 |[],h=>h
 |(b,o)::us,h=>jg us (h.set b o)
theorem HY:∀(us:tH) (h:Ht),zz 0 us h=some (jg us h)
 |[],h=>rfl
 |(b,o)::us,h=>by
  show(bif Nat.ble 0 b then zz 0 us (h.set b o)else none)=_
  rw[Nat.ble_eq_true_of_le (Nat.zero_le b),cond_true,HY us];rfl
theorem WC.ln(d:Nat)(v:Value)(jA:tH)(m:Nat)(hl:e.low=0)(h:∀rec cs k,c.run e rec fm to ds hp nx cs k=tw (fun t v=>t.set d v) e.low to ds hp nx cs k (v,jA,m))(q:Q ⟨to.set d v,ds,jg jA hp,nx+m,gW⟩):WC e fm c ⟨to,ds,hp,nx,gW⟩ Q:=
 ⟨⟨to.set d v,ds,jg jA hp,nx+m,gW⟩,⟨0,fun n _ cs k=>by show c.run e (ev e n) fm to ds hp nx cs k=_;rw[h (ev e n) cs k,hl];simp only[tw,HY,St.at]⟩,q⟩
theorem WC.W9(d:Nat)(o:Option pR){v:Value}{jA:tH}{m:Nat}(hl:e.low=0)(h:∀rec cs k,c.run e rec fm to ds hp nx cs k=qy o (tw (fun t v=>t.set d v) e.low to ds hp nx cs k))(j:o=some (v,jA,m))(q:Q ⟨to.set d v,ds,jg jA hp,nx+m,gW⟩):WC e fm c ⟨to,ds,hp,nx,gW⟩ Q:=
 .ln d v jA m hl (fun rec cs k=>by rw[h,j];rfl) q
theorem WC.Mk(d:Nat)(o:Option pR){v:Value}{jA:tH}{m:Nat}(hl:e.low=0)(h:∀rec cs k,c.run e rec fm to ds hp nx cs k=qy o (fun f=>match f with
 |(v,jA,m)=>match zz e.low jA hp with
  |some h=>k ⟨to.set d v,ds,h,nx+m,cs⟩
  |none=>.gm 0)) (j:o=some (v,jA,m)) (q:Q ⟨to.set d v,ds,jg jA hp,nx+m,gW⟩):WC e fm c ⟨to,ds,hp,nx,gW⟩ Q:=
 ⟨⟨to.set d v,ds,jg jA hp,nx+m,gW⟩,⟨0,fun n _ cs k=>by show c.run e (ev e n) fm to ds hp nx cs k=_;rw[h (ev e n) cs k,j,hl];simp only[qy,HY,St.at]⟩,q⟩
theorem WC.call(d:Nat)(f:FuncId)(l:List Value)(h:∀rec cs k,c.run e rec fm to ds hp nx cs k=mP e rec f l hp nx cs (fun v hp nx cs=>k ⟨to.set d v,ds,hp,nx,cs⟩))
 (hf:WF e f l hp nx fun v hp nx=>Q ⟨to.set d v,ds,hp,nx,gW⟩):WC e fm c ⟨to,ds,hp,nx,gW⟩ Q:=by
 obtain⟨v,fe,fg,⟨j,h1⟩,q⟩:=hf
 exact⟨⟨to.set d v,ds,fe,fg,gW⟩,⟨j,fun n hn cs k=>by show c.run e (ev e n) fm to ds hp nx cs k=_;rw[h (ev e n) cs k,h1 n hn];rfl⟩,q⟩
theorem WF.body{f:FuncId}{fi:vQ}{l:List Value}{t:Tm}{R:Value->Ht->Nat->Prop}(hk:e.K f=none)(hf:e.F f=some fi)(hl:Nat.ble l.length fi.nt=true)(I:setArgs yV l Tm.undef=some t)
 (hb:WP e ⟨f,fi.nt,none⟩ fi.body ⟨t,[],hp,nx,[]⟩ fun o j=>Nat.ble o 1=true/\j.ds=[]/\∃vs,mH e.T j.hp.get j.to fi.res=some vs/\R (qz vs) j.hp j.nx):WF e f l hp nx R:=by
 obtain⟨o,j,h1,h2,h3,vs,h4,C⟩:=hb
 exact⟨_,_,_,.I2 hk hf hl I h1 h2 h3 h4,C⟩
theorem WF.W_{ng:Nat}{f:FuncId}{pS:List wB}{l:List Value}{v:Value}{fe:Ht}{fg:Nat}{R:Value->Ht->Nat->Prop}(hk:e.K f=some (xN ng pS))(hu:yY ng pS l hp nx=some (v,fe,fg))(q:R v fe fg):WF e f l hp nx R:=
 ⟨_,_,_,.VK hk hu,q⟩
end
theorem ko{T:Ty}{hp:Hp}{t:TypeId}{b o:Nat}{cells:List Value}{m:gl}{v:Value}(j:T.agg t=some false)(hb:hp b=some (.cells cells m))(hc:cells[o]?=some v):kB T hp t (.pointer (some ⟨b,o,none⟩))=some v:=by
 simp only[kB,hb,j,hc]
theorem lF{T:Ty}{hp:Hp}{t:TypeId}{b o n:Nat}{cells l:List Value}{m:gl}(j:T.agg t=some true)(hs:T.size t=some n)(hb:hp b=some (.cells cells m))(hc:lJ n (cells.drop o)=some l):kB T hp t (.pointer (some ⟨b,o,none⟩))=some (.agg l.toArray):=by
 simp only[kB,hb,j,hs,Option.bind_some,hc,Option.map_some]
theorem KI{T:Ty}{t el:TypeId}{b o len c i s:Nat}{k:IntKind}(hu:T.ji t=some (.slice el))(hs:T.size el=some s)(hi:i<len):lh T t (.slice (some ⟨b,o,none⟩) len c) (.int k (.ofNat i))=some (.pointer (some ⟨b,o+i*s,none⟩)):=by
 simp only[lh,hu,uH,mq.2 hi,cond_true,hs,Option.map_some,Int.toNat]
theorem EB{f:Value->Value->Bool}:∀(l:List Value),(∀v∈l,f v v=true)->ub f l l=true
 |[],_=>rfl
 |x::xs,h=>by
  simp only[ub,h x (List.mem_cons_self ..),EB xs (fun v j=>h v (List.mem_cons_of_mem _ j)),Bool.and_true]
theorem iQ(n:Nat)(k:IntKind)(i:Int):kY n (.int k i) (.int k i)=true:=by
 have h1:vO k k=true:=by cases k<;>rfl
 have h2:km i i=true:=lH.2 rfl
 cases n<;>simp only[kY,h1,h2,Bool.and_true]
theorem iW(n b o:Nat):kY n (.pointer (some ⟨b,o,none⟩)) (.pointer (some ⟨b,o,none⟩))=true:=by
 cases n<;>simp only[kY,Nat.beq_refl,Bool.and_true]
theorem qT(n b o l c:Nat):kY n (.slice (some ⟨b,o,none⟩) l c) (.slice (some ⟨b,o,none⟩) l c)=true:=by
 cases n<;>simp only[kY,Nat.beq_refl,Bool.and_true]
theorem xk(n l c:Nat):kY n (.slice none l c) (.slice none l c)=true:=by
 cases n<;>simp only[kY,Nat.beq_refl,Bool.and_true]
theorem yA(n:Nat)(x:Array Value)(h:∀v∈x.toList,kY n v v=true):kY (n+1) (.agg x) (.agg x)=true:=by
 simp only[kY,EB _ h]
theorem Tr.hY(t:Ht)(n:Nat)(o:Option (jM Tm)):(t.set n o).get n=o:=by rw[Tr.nJ];simp[Hp.set]
theorem Tr.gC(t:Ht){n m:Nat}(o:Option (jM Tm))(h:m≠n):(t.set n o).get m=t.get m:=by rw[Tr.nJ];simp[Hp.set,h]
def HE(B:Nat)(hp fe:Ht):Prop:=∀b,b<B->fe.get b=hp.get b
theorem HE.refl(B:Nat)(hp:Ht):HE B hp hp:=fun _ _=>rfl
theorem HE.trans{B B':Nat}{h1 h2 h3:Ht}(a:HE B h1 h2)(b:HE B' h2 h3)(hb:B<=B':=by omega):HE B h1 h3:=fun x hx=>(b x (by omega)).trans (a x hx)
theorem HE.set{B n:Nat}(hp:Ht)(o:Option (jM Tm))(h:B<=n):HE B hp (hp.set n o):=fun b hb=>Tr.gC _ _ (by omega)
theorem HE.get{B b:Nat}{h1 h2:Ht}(a:HE B h1 h2){o:Option (jM Tm)}(h:h1.get b=o)(hb:b<B:=by omega):h2.get b=o:=(a b hb).trans h
inductive Sl(B size:Nat)(hp:Ht)(nx:Nat):Value->Nat->List Value->Prop where
 |nil:Sl B size hp nx (.slice none 0 0) 0 []
 |plain {b l:Nat} {xs:List Value} {m:gl} (hb:hp.get b=some (.cells xs m)) (hm:m.mu=none) (h:b<nx) (h0:B<=b) (hl:xs.length=l*size):Sl B size hp nx (.slice (some ⟨b,0,none⟩) l l) l xs
 |grown {b l gr:Nat} {xs:List Value} {ms:List Mem} (hb:hp.get b=some (.cells xs ⟨false,some gr,0,size⟩)) (hg:hp.get gr=some (.group ms)) (qF:∀e∈ms,e.base+e.len<=xs.length)
   (h:b<nx) (h0:B<=b) (h2:gr<nx) (h3:B<=gr) (hl:xs.length=l*size):Sl B size hp nx (.slice (some ⟨b,0,none⟩) l l) l xs
theorem Sl.mono{B size nx fg l:Nat}{hp fe:Ht}{v:Value}{xs:List Value}(h:Sl B size hp nx v l xs)(he:HE nx hp fe)(hn:nx<=fg):Sl B size fe fg v l xs:=by
 cases h with
 |nil=>exact .nil
 |plain hb hm h h0 hl=>exact .plain (he.get hb h) hm (by omega) h0 hl
 |grown hb hg qF h h0 h2 h3 hl=>exact .grown (he.get hb h) (he.get hg h2) qF (by omega) h0 (by omega) h3 hl
theorem Sl.le{B B' size nx l:Nat}{hp:Ht}{v:Value}{xs:List Value}(h:Sl B size hp nx v l xs)(hb:B'<=B):Sl B' size hp nx v l xs:=by
 cases h with
 |nil=>exact .nil
 |plain h1 hm h h0 hl=>exact .plain h1 hm h (by omega) hl
 |grown h1 hg qF h h0 h2 h3 hl=>exact .grown h1 hg qF h (by omega) h2 (by omega) hl
theorem Sl.len{B size nx l:Nat}{hp:Ht}{v:Value}{xs:List Value}(h:Sl B size hp nx v l xs):xs.length=l*size:=by
 cases h with
 |nil=>simp
 |plain hb hm h h0 hl=>exact hl
 |grown hb hg qF h h0 h2 h3 hl=>exact hl
theorem Sl.Ed{B size nx l:Nat}{hp:Ht}{v:Value}{xs:List Value}(h:Sl B size hp nx v l xs):∃a,v=.slice a l l:=by
 cases h<;>exact⟨_,rfl⟩
theorem xl{α:Type}:∀(l:List α) (n:Nat),l.length=n->lJ n l=some l
 |[],0,_=>rfl
 |x::xs,n+1,h=>by simp only[lJ,xl xs n (by simpa using h),Option.map_some]
 |[],n+1,h=>by simp at h
 |x::xs,0,h=>by simp at h
def ym(xs:List Value)(off:Nat):Nat->Option (List Value)
 |0=>some []
 |k=>lJ k (xs.drop off)
theorem s9(hp:Hp)(b off l size:Nat)(new:List Value)(m n:Nat):pC hp (some ⟨b,off,none⟩) l size new m n=(match hp b with
 |some (.cells cs mt)=>(ym cs off (l*size)).bind fun j=>match mt.mu with
  |none=>some (.slice (some ⟨n+1,0,none⟩) (l+m) (l+m),
    [(n,some (jM.group [⟨n+1,0,(j++new).length⟩])),(n+1,some (jM.cells (j++new) ⟨false,some n,0,size⟩))],2)
  |some gr=>match hp gr with
   |some (.group ms)=>
    bif (!mt.ro&&Nat.beq mt.unit size)&&nT hp (beyond (mt.base+off+l*size)) ms then
     some (.slice (some ⟨n,0,none⟩) (l+m) (l+m),
      mN (beyond (mt.base+off+l*size)) ms++[(gr,some (jM.group ((ms.filter fun e=>!(beyond (mt.base+off+l*size) e))++([⟨n,mt.base+off,(j++new).length⟩]:List Mem)))),
       (n,some (jM.cells (j++new) ⟨false,some gr,mt.base+off,size⟩))],1)
    else none
   |_=>none
 |_=>none):=rfl
theorem Au(xs:List Value):∀l,xs.length=l->ym xs 0 l=some xs
 |0,h=>by rw[List.length_eq_zero_iff.1 h];rfl
 |l+1,h=>xl xs _ h
theorem Sl.append{T:Ty}{B size nx l m st xt el:Nat}{hp:Ht}{v x z:Value}{inf:TypeInfo}{xs j:List Value}(h:Sl B size hp nx v l xs)(hu:T.ji st=some (.slice el))(hs:T.size el=some size)(ah:T.zero el=some z)(hi:T.info el=some inf)
 (hx:pn T xt x=some (m,false)) (R:lK hp.get (m*size) x=some j) (U:tZ size x=true) (af:j.length=m*size) (J:j.all one=true) (hm:0<m)
 (b1:(l+m)*inf.bytes<=70368744177664) (b2:inf.bytes<=1073741824) (ag:l+m<=70368744177664) (o:B<=nx):
 ∃v' jA k,jZ T hp.get st xt v x nx=some (v',jA,k)/\Sl B size (jg jA hp) (nx+k) v' (l+m) (xs++j)/\HE B hp (jg jA hp):=by
 have ab:¬(l+m<=l):=by omega
 have I:Nat.ble (l+m) l=false:=by
  cases hb:Nat.ble (l+m) l with
  |false=>rfl
  |true=>exact absurd (Nat.le_of_ble_eq_true hb) ab
 have e1:∀a,jZ T hp.get st xt (.slice a l l) x nx=pC hp.get a l size j m nx:=fun a=>by
  simp only[jZ,hu,hs,ah,hi,hx,ml,cond_false,U,cond_true,R,Option.bind_some,J,Nat.ble_eq_true_of_le b1,Nat.ble_eq_true_of_le b2,Nat.ble_eq_true_of_le ag,Bool.and_true,I]
 have hlen:(xs++j).length=(l+m)*size:=by rw[List.length_append,h.len,af,Nat.add_mul]
 cases h with
 |nil=>
  rw[e1]
  refine⟨_,_,_,rfl,?_,?_⟩
  · simp only[jg,List.nil_append]
    refine .grown (gr:=nx) (Tr.hY ..) ((Tr.gC _ _ (by omega)).trans (Tr.hY ..)) (fun e he=>?_) (by omega) (by omega) (by omega) o (by simpa using hlen)
    rw[List.mem_singleton.1 he];simp
  · exact(HE.set _ _ o).trans (HE.set _ _ (show B<=nx+1 by omega)) (Nat.le_refl _)
 |@plain b _ _ mt hb ad jz aa hl=>
  rw[e1]
  have:pC hp.get (some ⟨b,0,none⟩) l size j m nx=some (.slice (some ⟨nx+1,0,none⟩) (l+m) (l+m),
   [(nx,some (jM.group [⟨nx+1,0,(xs++j).length⟩])),(nx+1,some (jM.cells (xs++j) ⟨false,some nx,0,size⟩))],2):=by
   simp only[s9,hb,Au _ _ hl,Option.bind_some,ad]
  refine⟨_,_,_,this,?_,?_⟩
  · simp only[jg]
    refine .grown (gr:=nx) (Tr.hY ..) ((Tr.gC _ _ (by omega)).trans (Tr.hY ..)) (fun e he=>?_) (by omega) (by omega) (by omega) o hlen
    rw[List.mem_singleton.1 he];simp
  · exact(HE.set _ _ o).trans (HE.set _ _ (show B<=nx+1 by omega)) (Nat.le_refl _)
 |@grown b _ gr _ ms hb hg qF jz aa h2 h3 hl=>
  rw[e1]
  have C:∀e∈ms,beyond (0+0+l*size) e=false:=fun e he=>by
   have:=qF e he
   cases ae:beyond (0+0+l*size) e with
   |false=>rfl
   |true=>
    unfold beyond at ae
    have:=mq.1 ae
    omega
  have f1:ms.filter (beyond (0+0+l*size))=[]:=by
   rw[List.filter_eq_nil_iff];intro e he;rw[C e he];simp
  have f2:(ms.filter fun e=>!(beyond (0+0+l*size) e))=ms:=by
   rw[List.filter_eq_self];intro e he;rw[C e he];rfl
  have:pC hp.get (some ⟨b,0,none⟩) l size j m nx=some (.slice (some ⟨nx,0,none⟩) (l+m) (l+m),
   [(gr,some (jM.group (ms++[⟨nx,0,(xs++j).length⟩]))),(nx,some (jM.cells (xs++j) ⟨false,some gr,0,size⟩))],1):=by
   simp only[s9,hb,Au _ _ hl,Option.bind_some,hg,nT,f1,List.all_nil,Bool.not_false,Nat.beq_refl,Bool.and_true,cond_true,mN,List.map_nil,List.nil_append,f2]
  refine⟨_,_,_,this,?_,?_⟩
  · simp only[jg]
    refine .grown (gr:=gr) (Tr.hY ..) ((Tr.gC _ _ (by omega)).trans (Tr.hY ..)) (fun e he=>?_) (by omega) (by omega) (by omega) h3 hlen
    rcases List.mem_append.1 he with he|he
    · have:=qF e he;rw[List.length_append];omega
    · rw[List.mem_singleton.1 he];simp
  · exact(HE.set _ _ h3).trans (HE.set _ _ o) (Nat.le_refl _)
section
variable {e:Env}{fm:Fm}{to:Tm}{ds:List Deferred}{hp:Ht}{nx:Nat}{gW:List Nat}{Q:St->Prop}{all:List Oper}{d:Tmp}{ty:TypeId}{pos:String}{j1:Array Edge}
theorem WC.box{t:TypeId}{x:Operand}(v:Value)(cells:List Value)(hl:e.low=0)(hx:(aaj x).run to=v)(j:v.cells.toList=cells)(q:Q ⟨to.set d (.pointer (some ⟨nx,0,none⟩)),ds,hp.set nx (some (.cells cells gl.plain)),nx+1,gW⟩):
 WC e fm (iH all ⟨some d,.box t x,ty,pos,j1,none⟩) ⟨to,ds,hp,nx,gW⟩ Q:=by
 subst hx j
 exact .ln d _ [(nx,some (.cells ((aaj x).run to).cells.toList gl.plain))] 1 hl (fun _ _ _=>rfl) q
theorem WC.jX{t:TypeId}{a:Operand}(b o:Nat)(v:Value){cells:List Value}{m:gl}(hx:(aaj a).run to=.pointer (some ⟨b,o,none⟩))(j:e.T.agg t=some false)(hb:hp.get b=some (.cells cells m))(hc:cells[o]?=some v)(q:Q ⟨to.set d v,ds,hp,nx,gW⟩):
 WC e fm (iH all ⟨some d,.load t a,ty,pos,j1,none⟩) ⟨to,ds,hp,nx,gW⟩ Q:=
 .opt d (kB e.T hp.get t ((aaj a).run to)) (fun _ _ _=>rfl) (by rw[hx];exact ko j hb hc) q
theorem WC.jb{t:TypeId}{a:Operand}(b o:Nat)(l:List Value){n:Nat}{cells:List Value}{m:gl}(hx:(aaj a).run to=.pointer (some ⟨b,o,none⟩))(j:e.T.agg t=some true)(hs:e.T.size t=some n)(hb:hp.get b=some (.cells cells m))(hc:lJ n (cells.drop o)=some l)(q:Q ⟨to.set d (.agg l.toArray),ds,hp,nx,gW⟩):
 WC e fm (iH all ⟨some d,.load t a,ty,pos,j1,none⟩) ⟨to,ds,hp,nx,gW⟩ Q:=
 .opt d (kB e.T hp.get t ((aaj a).run to)) (fun _ _ _=>rfl) (by rw[hx];exact lF j hs hb hc) q
theorem WC.buildSlice{t:TypeId}{n:Nat}{ps:Array (Nat×Operand)}(cells:List Value)(hl:e.low=0)(h:qH e.T t n (tu (yU ps.toList) to) nx=some (vd nx cells n n))(q:Q ⟨to.set d (.slice (some ⟨nx,0,none⟩) n n),ds,hp.set nx (some (.cells cells gl.plain)),nx+1,gW⟩):
 WC e fm (iH all ⟨some d,.buildSlice t n ps,ty,pos,j1,none⟩) ⟨to,ds,hp,nx,gW⟩ Q:=
 .W9 d (qH e.T t n (tu (yU ps.toList) to) nx) hl (fun _ _ _=>rfl) h q
end
end
end Sw
