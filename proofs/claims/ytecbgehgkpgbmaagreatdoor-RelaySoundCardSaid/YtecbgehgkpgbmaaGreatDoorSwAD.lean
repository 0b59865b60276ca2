/- A part of the proof that the law returns true for every input that its row speaks of. No condition is added. -/
import Derived.Test.YtecbgehgkpgbmaaGreatDoorSwAC
namespace Sw
noncomputable section
open Go Go.RowKit
section
variable {P:Program}{ng:Nat}{e:Env}{B0:Nat}{w0:World}{b:Frame}{nt:Nat}{g:Gm}{G:Nat}{a:Act}{w:World}{I:Tm}{O:Ht}{rec:Rec}
theorem Act.eval_put{a:Act}{d:Nat}{v:Value}(h:d<a.tmps.size):(a.put (some d) v).eval (.tmp d)=v:=by
 simp[Act.eval,Act.put,Array.getD,h]
theorem MA{o:Oper}{i:Nat}{ops:Array Oper}{rest:List Nat}{k:List Item}{c:Frame}{Z:List Frame}(j:ops[i]?=some o)(hw:Region.wanted o (yielded ops a.tmps)=true)(hr:b.roundOf=none)(hc:c.mode=.returning)(hk:b.kind=.deferred)
 (h:(execOp a.eval o).run P w=.ok .recover w):
 step P (lone (At b a (.inRegion ops (i::rest)::k)) (c::Z) w)=.next (lone (At b (a.put o.dst .nilIface) (.inRegion ops rest::k)) (c::Z) w):=by
 have e:=At.finish b a ops i rest k .nilIface
 rw[j]at e
 refine step_lone_go ?_
 rw[Ij j hw (.inl hr)]
 have e:(At b a (.inRegion ops (i::rest)::k)).finish .nilIface=At b (a.put o.dst .nilIface) (.inRegion ops rest::k):=e
 rw[<-e]
 have h1:(At b a (.inRegion ops (i::rest)::k)).roundOf=none:=hr
 have D:tryRecover (At b a (.inRegion ops (i::rest)::k)) (c::Z)=none:=by
  have:(At b a (.inRegion ops (i::rest)::k)).kind=.deferred:=hk
  simp[tryRecover,this,hc]
 simp[stepG.apply,h,h1,D]
theorem OH(ok:mY P ng e)(H:gx B0 w0 g O.get G w){f:FuncId}{fi:wF}(hf:e.F f=some fi)(m:Ig e.T fi=true)(args:Array Value):
 ∃v' w' g',gx B0 w0 g' O.get G w'/\lR g G w g' G w'/\∀(c:Frame) Z,c.mode=.returning->∃fr,Steps P (lone (Frame.enter P f args .deferred) (c::Z) w) (lone fr (c::Z) w')/\fr.mode=.returning/\fr.defers=[]/\fr.kind=.deferred/\fr.fn=f/\
  ∃fn,P.funcs[fr.fn]?=some fn/\(results fn fr.tmps).run P w'=.ok v' w':=by
 obtain⟨fn,f1,f2,f3,f4,f5,f6,f7,f8⟩:=ok.F f fi hf
 obtain⟨body,nt,uu⟩:=fi
 unfold Ig at m
 split at m<;>first|(cases m;done)|skip
 rename_i aa o1 ab o2 x y z o
 unfold RP at m
 split at m<;>first|(cases m;done)|skip
 rename_i MB d1 N af V6 p1 R d2 a2 ag ai S d3 an ah aj W d4 t4 c4 p A p4 u h1 D
 simp only[Bool.and_eq_true]at m
 obtain⟨⟨J,K,q3,L⟩,⟨r1,r2,ad,ae⟩,hb⟩:=m
 have J:=fC J;have K:=fC K;have q3:=fC q3;have L:=fC L
 subst J;subst K;subst q3;subst L
 have e1:=congrArg List.toArray h1
 have e2:=congrArg List.toArray D
 simp only[Array.toArray_toList]at e1 e2
 subst e1;subst e2
 have hb:Ac e.T .neq t4 (.tmp d3) (.const .nilIface) .nilIface .nilIface=some (.bool false):=by
  split at hb
  · assumption
  · cases hb
 simp only at f2 f3 f4 f8 o z
 subst o;subst z
 let a0:Act:=⟨args++Array.replicate (nt-args.size) Go.undef,[]⟩
 have al:nt<=a0.tmps.size:=by simp[a0];omega
 let b:=Frame.enter P f args .deferred
 have he:b=At b a0 [.code (.seq (.region aa #[⟨some d1,.call ⟨.builtin .recover,N,af⟩,V6,p1,R,none⟩,⟨some d2,.assign (.tmp d1),ag,ai,S,none⟩] false) (.seq (.region ab #[⟨some d3,.move (.tmp d2),ah,aj,W,none⟩,⟨some d4,.binOp .neq t4 (.tmp d3) (.const .nilIface) p,A,p4,u,none⟩] false) (.cond (.tmp d4) y .skip)))]:=by simp[b,Frame.enter,At,f1,f2,f3,a0]
 have hr:b.roundOf=none:=by simp[b,Frame.enter]
 have hk:b.kind=.deferred:=by simp[b,Frame.enter]
 have B:b.fn=f:=by simp[b,Frame.enter]
 let a1:=a0.put (some d1) .nilIface
 let a2:=a1.put (some d2) .nilIface
 let a3:=a2.put (some d3) .nilIface
 have M:∀(a:Act) (d:Nat) (v:Value),(a.put (some d) v).tmps.size=a.tmps.size:=fun a d v=>by simp[Act.put]
 have s1:a1.tmps.size=a0.tmps.size:=M ..
 have s2:a2.tmps.size=a0.tmps.size:=(M ..).trans s1
 have ao:a3.tmps.size=a0.tmps.size:=(M ..).trans s2
 have r1:=fk r1;have r2:=fk r2;have ad:=fk ad;have ae:=fk ae
 have ak:a1.eval (.tmp d1)=.nilIface:=Act.eval_put (by omega)
 have v2:a2.eval (.tmp d2)=.nilIface:=Act.eval_put (by omega)
 have v3:a3.eval (.tmp d3)=.nilIface:=Act.eval_put (by omega)
 have Q:=H_ (n:=G) ok.T H hb (.nilIface (g:=g)) (.nilIface (g:=g))
 obtain⟨g',v',w',E⟩:=Q G (fg _) (fg _) (fun j hj=>by cases hj)
 have X:v'=.bool false:=by have:=E.val;cases this;rfl
 subst X
 have C:∀b',g'.ga b'≠none->g.ga b'≠none:=fun b' hb=>by
  rcases E.new b' hb with h|h
  · exact h
  · have D:b'<G+0:=h.2
    omega
 let a4:=a3.put (some d4) (.bool false)
 have v4:a4.eval (.tmp d4)=.bool false:=Act.eval_put (by omega)
 refine⟨.tuple #[],w',g',E.rel,⟨⟨E.le,fg _,fun b' hb=>.inl (C b' hb)⟩,E.keeps.kept E.size,E.held⟩,fun c Z hc=>⟨{At b a4 []with mode:=.returning},?_,rfl,rfl,hk,B,fn,by show P.funcs[b.fn]?=_;rw[B];exact f1,?_⟩⟩
 · show Steps P (lone b (c::Z) w) _
   rw[he]
   refine .head Ii (.head E6 ?_)
   refine .head (MA (i:=0) (rest:=[1]) rfl rfl hr hc hk rfl) (.head (DH (i:=1) (rest:=[]) (v:=.nilIface) rfl rfl (.inl hr) (by show Result.ok (Next.value (a1.eval (.tmp d1))) w=_;rw[ak])) (.head yu (.head Ii (.head E6 ?_))))
   refine .head (DH (i:=0) (rest:=[1]) (v:=.nilIface) rfl rfl (.inl hr) (by show Result.ok (Next.value (a2.eval (.tmp d2))) w=_;rw[v2])) (.head (E9 (i:=1) (rest:=[]) (v:=.bool false) (w':=w') rfl rfl (.inl hr) ?_) (.head yu (.head (Pu v4) (.head Pt (.one (Gv hr))))))
   have e:(execOp a3.eval ⟨some d4,.binOp .neq t4 (.tmp d3) (.const .nilIface) p,A,p4,u,none⟩:Sem Next)=(do pure (Next.value (<-(do eqGuard .neq t4 (.tmp d3) (.const .nilIface) .nilIface .nilIface;binOp .neq t4 .nilIface .nilIface:Sem Value))):Sem Next):=by
    show(do pure (Next.value (<-(do eqGuard .neq t4 (.tmp d3) (.const .nilIface) (a3.eval (.tmp d3)) .nilIface;binOp .neq t4 (a3.eval (.tmp d3)) .nilIface:Sem Value))):Sem Next)=_
    rw[v3]
   show Ih ((execOp a3.eval ⟨some d4,.binOp .neq t4 (.tmp d3) (.const .nilIface) p,A,p4,u,none⟩:Sem Next).run P w)=_
   rw[e,Qn]
   exact E.run
 · have:fn.results=#[]:=by rw[<-Array.toArray_toList (xs:=fn.results),f4]
   simp[results,this]
theorem yx(ok:mY P ng e)(ih:o5 P ng B0 w0 rec)(k:Ht->Nat->List Nat->R):∀(ds p:List Deferred) (O:Ht) (G:Nat) (g:Gm) (w:World) (fr:Frame) (fs:List Frame),gx B0 w0 g O.get G w->lv g ng->nK g ds p->fr.mode=.returning->fr.defers=p->
 me (fun Z=>lT e rec ds O G Z k) fun f'=>Ai f'\/∃e9 e_,(∀Z,f' Z=k e9 e_ Z)/\tx P B0 w0 g G w e9 e_ fr fs
 |[],p,O,G,g,w,fr,fs,H,hg,hd,hm,he=>by
  cases nK.wH hd
  exact .here (.inr ⟨O,G,fun Z=>rfl,tx.nil H he⟩)
 |d::ds,p,O,G,g,w,fr,fs,H,hg,hd,hm,he=>by
  obtain⟨d',j,rfl,h1,D⟩:=hd.cons_inv
  obtain⟨ab,u⟩:=d
  have fail:∀f:List Nat->R,(∀Z,f Z=.gu 0)->me f fun f'=>Ai f'\/∃e9 e_,(∀Z,f' Z=k e9 e_ Z)/\tx P B0 w0 g G w e9 e_ fr fs:=fun f h=>.dead fun Z=>⟨0,h Z⟩
  cases ab with
  |nil=>exact fail _ fun Z=>rfl
  |builtin=>exact fail _ fun Z=>rfl
  |coroexit=>exact fail _ fun Z=>rfl
  |collected r=>
   cases hr:O.get r with
   |none=>exact fail _ fun Z=>by simp[lT,hr]
   |some o=>
    cases o with
    |deferred x=>
     cases x with
     |none=>exact fail _ fun Z=>by simp[lT,hr]
     |some l=>
      cases l with
      |cons=>exact fail _ fun Z=>by simp[lT,hr]
      |nil=>
       cases hb:Nat.ble e.low r with
       |false=>exact fail _ fun Z=>by simp[lT,hr,hb]
       |true=>
        have:u=#[]:=by cases h1;rfl
        subst this
        have b:(fun Z=>lT e rec (⟨.collected r,#[]⟩::ds) O G Z k)=fun Z=>lT e rec ds (O.set r (some (.deferred none))) G Z k:=by funext Z;simp[lT,hr,hb]
        rw[b]
        cases h1 with
        |@G2 _ rr z=>
         obtain⟨jv,ad,N⟩:=(H.live _ _ hr).2 _ _ z
         cases jv<;>first|exact N.elim|skip
         rename_i l
         cases l with
         |none=>exact N.elim
         |some l=>
          obtain⟨_,X,h4⟩:=N
          cases nK.wH h4
          have H1:=H.setObj hr z (o':=.deferred none) (fun _ _ h=>by cases h) (fun _ _ h=>by cases h) rfl (.deferred none) X ⟨rfl,X⟩
          rw[<-Tr.oh]at H1
          refine(yx ok ih k ds j _ G g _ {fr with defers:=j} fs H1 hg D hm rfl).mono fun f' h=>?_
          rcases h with h|⟨e9,e_,h,w',g',R,E,st⟩
          · exact .inl h
          · exact .inr ⟨e9,e_,h,w',g',R,(lR.putObj z _).trans E,.head (Fa hm he ad) st⟩
    |_=>exact fail _ fun Z=>by simp[lT,hr]
  |fn fn cap=>
   cases fn with
   |func f=>
    cases h1 with
    |@fn _ _ y _ B hy hx=>
    cases hf:e.F f with
    |none=>exact fail _ fun Z=>by simp[lT,hf]
    |some fi=>
     cases A:Ig e.T fi with
     |true=>
      have b:(fun Z=>lT e rec (⟨.fn (.func f) cap,u⟩::ds) O G Z k)=fun Z=>lT e rec ds O G Z k:=by funext Z;simp[lT,hf,A]
      rw[b]
      obtain⟨v',w1,g1,H1,m,st1⟩:=OH ok H hf A (B++y)
      obtain⟨fn,f1,f2,f3,f4,f5,f6,f7,f8⟩:=ok.F f fi hf
      refine(yx ok ih k ds j O G g1 w1 {fr with defers:=j} fs H1 (hg.mono m.ext.le) (D.mono m.ext.le) hm rfl).mono fun f' h=>?_
      rcases h with h|⟨e9,e_,h,w',g',R,E,st⟩
      · exact .inl h
      · refine .inr ⟨e9,e_,h,w',g',R,m.trans E,?_⟩
        obtain⟨W,s1,m1,d1,L,_,S,M,r1⟩:=st1 {fr with defers:=j} fs hm
        exact .head (Fb f1 f2 f5 hm he) (s1.trans (.head (Az m1 d1 L M r1 hm) st))
     |false=>
     have b:(fun Z=>lT e rec (⟨.fn (.func f) cap,u⟩::ds) O G Z k)=fun Z=>E0 e rec f (u.toList++cap.toList) O G Z (fun _ O G Z=>lT e rec ds O G Z k):=by funext Z;simp[lT,hf,A]
     rw[b]
     obtain⟨fn,f1,f2,f3,f4,f5,f6,f7,f8⟩:=ok.F f fi hf
     have hl:gZ g (u.toList++cap.toList) (B++y).toList:=by
      rw[Array.toList_append];exact hx.toList.append hy.toList
     refine(OG ok ih H hg hl .deferred ({fr with defers:=j}::fs) ⟨fi,hf⟩ _).bind fun f' h=>?_
     rcases h with h|⟨v,J,K,h,C⟩
     · exact .dead h
     · have aa:=C
       obtain⟨v',w1,g1,H1,_,m,W,s1,m1,d1,L,_,S,M,r1⟩:=aa
       have b:f'=fun Z=>lT e rec ds J K Z k:=funext h
       rw[b]
       refine(yx ok ih k ds j J K g1 w1 {fr with defers:=j} fs H1 (hg.mono m.ext.le) (D.mono m.ext.le) hm rfl).mono fun f' h=>?_
       rcases h with h|⟨e9,e_,h,w',g',R,E,st⟩
       · exact .inl h
       · exact .inr ⟨e9,e_,h,w',g',R,m.trans E,.head (Fb f1 f2 f5 hm he) (s1.trans (.head (Az m1 d1 L M r1 hm) st))⟩
   |_=>exact fail _ fun Z=>by simp[lT]
def so(P:Program)(ng:Nat)(B0:Nat)(w0:World)(e:Env):Prop:=
 ∀f j,e.K f=some j->(∃fn c,P.funcs[f]?=some fn/\fn.body=some c/\(fn.name== "runtime.NumGoroutine")=false)/\
  ∀(l:List Value) (args:Array Value) (O:Ht) (G:Nat) (g:Gm) (w:World),gx B0 w0 g O.get G w->lv g ng->gZ g l args.toList->
   (∀Z k b,j.run l O G Z k b=b)\/∃m:List Nat->KC->R,(∀Z k b,j.run l O G Z k b=m Z k)/\∀fs,tX P B0 w0 .normal g G f args w fs m
theorem tX.fail{kind:CallKind}{f:FuncId}{args:Array Value}{fs:List Frame}{run:List Nat->KC->R}(h:∀Z k,run Z k=.gu 0):tX P B0 w0 kind g G f args w fs run:=fun k=>.dead fun Z=>⟨0,h Z k⟩
theorem Gx(ok:mY P ng e)(ih:o5 P ng B0 w0 rec)(H:gx B0 w0 g O.get G w)(hg:lv g ng){f:FuncId}{l:List Value}{args:Array Value}(hl:gZ g l args.toList)(fs:List Frame):
 tX P B0 w0 .normal g G f args w fs fun Z k=>uv e rec f l O G Z k:=by
 cases hf:e.F f with
 |none=>exact .fail fun Z k=>by simp only[uv,hf]
 |some fi=>
  intro k
  have h0:(fun Z=>uv e rec f l O G Z k)=fun Z=>sU rec f fi l O G Z (fun ds I O G Z=>lT e rec ds O G Z (fun O G Z=>y8 e.T fi I k O G Z)):=by funext Z;simp only[uv,hf]
  rw[h0]
  refine(Gw ok ih H hg hf hl .normal fs _).bind fun f' h=>?_
  rcases h with h|⟨ds,I,j,m,h,B⟩
  · exact .dead h
  · have o:f'=fun Z=>lT e rec ds j m Z (fun O G Z=>y8 e.T fi I k O G Z):=funext h
    rw[o]
    have B':=B
    obtain⟨a',w1,g1,H1,C,A,p,fr,s1,b⟩:=B'
    refine(yx ok ih _ ds a'.defers j m g1 w1 fr fs H1 (hg.mono p.ext.le) A b.mode b.defers).mono fun f' h=>?_
    rcases h with h|⟨jy,o_,h,z,g2,y,u,st2⟩
    · exact .inl h
    · cases hr:nc e.T jy.get I fi.uu with
      |none=>exact .inl fun Z=>⟨0,by rw[h];simp[y8,hr]⟩
      |some vs=>
       refine .inr ⟨qQ vs,jy,o_,fun Z=>by rw[h];simp[y8,hr],?_⟩
       obtain⟨fn,f1,f2,f3,f4,f5,f6,f7,f8⟩:=ok.F f fi hf
       obtain⟨v',r1,r2⟩:=Ek ok.T y (C.mono u.ext.le) f4 f8 hr
       refine⟨v',z,g2,y,r2,p.trans u,{fr with defers:=[]},s1.trans st2,b.mode,rfl,b.kind,b.fn,fn,?_,?_⟩
       · show P.funcs[fr.fn]?=_;rw[b.fn];exact f1
       · show(results fn fr.tmps).run P z=_;rw[b.tmps];exact r1
theorem zB(ok:mY P ng e)(nm:so P ng B0 w0 e)(ih:o5 P ng B0 w0 rec)(H:gx B0 w0 g O.get G w)(hg:lv g ng){f:FuncId}{l:List Value}{args:Array Value}(hl:gZ g l args.toList)(fs:List Frame):
 tX P B0 w0 .normal g G f args w fs fun Z k=>nC e rec f l O G Z k:=by
 cases hk:e.K f with
 |none=>
  have h0:(fun Z k=>nC e rec f l O G Z k)=fun Z k=>uv e rec f l O G Z k:=by funext Z k;simp only[nC,hk]
  rw[h0];exact Gx ok ih H hg hl fs
 |some b=>
  rcases(nm f b hk).2 l args O G g w H hg hl with h|⟨j,h,hs⟩
  · have h0:(fun Z k=>nC e rec f l O G Z k)=fun Z k=>uv e rec f l O G Z k:=by funext Z k;simp only[nC,hk,h]
    rw[h0];exact Gx ok ih H hg hl fs
  · have h0:(fun Z k=>nC e rec f l O G Z k)=j:=by funext Z k;simp only[nC,hk,h]
    rw[h0];exact hs fs
end
end
end Sw
namespace Sw
noncomputable section
open Go Go.RowKit
def Ho(P:Program):Next->Option Frame
 |.enter f args=>some (Frame.enter P f args .normal)
 |.round l f tmps assign body=>some (Frame.round l f tmps assign body .normal)
 |_=>none
def RW(P:Program)(B0:Nat)(w0:World)(g:Gm)(G:Nat)(e:Next)(w:World)(v:Value)(e9:Ht)(e_:Nat)(c:Frame)(fs:List Frame):Prop:=
 ∃v' w' g' b,gx B0 w0 g' e9.get e_ w'/\fP g' v v'/\lR g G w g' e_ w'/\Ho P e=some b/\Steps P (lone b (c::fs) w) (lone (c.finish v') fs w')
def qw(P:Program)(B0:Nat)(w0:World)(g:Gm)(G:Nat)(s:Sem Next)(w:World)(c:Frame)(fs:List Frame)(run:List Nat->KC->R):Prop:=
 ∀k:KC,me (fun Z=>run Z k) fun f'=>Ai f'\/∃v e9 e_,(∀Z,f' Z=k v e9 e_ Z)/\∃b,s.run P w=.ok b w/\RW P B0 w0 g G b w v e9 e_ c fs
section
variable {P:Program}{ng:Nat}{e:Env}{B0:Nat}{w0:World}{b:Frame}{nt:Nat}{g:Gm}{G:Nat}{a:Act}{w:World}{I:Tm}{O:Ht}{rec:Rec}
theorem qw.fail{s:Sem Next}{c:Frame}{fs:List Frame}{run:List Nat->KC->R}(h:∀Z k,run Z k=.gu 0):qw P B0 w0 g G s w c fs run:=fun k=>.dead fun Z=>⟨0,h Z k⟩
theorem qw.enter{f:FuncId}{args:Array Value}{s:Sem Next}{c:Frame}{fs:List Frame}{run:List Nat->KC->R}(h:tX P B0 w0 .normal g G f args w (c::fs) run)(hs:s.run P w=.ok (.enter f args) w):qw P B0 w0 g G s w c fs run:=by
 intro k
 refine(h k).mono fun f' h=>?_
 rcases h with h|⟨v,e9,e_,h,v',w',g',H,V,E,fr,s1,m1,d1,b,_,fn,e,r1⟩
 · exact .inl h
 · exact .inr ⟨v,e9,e_,h,_,hs,v',w',g',_,H,V,E,rfl,s1.trans (.one (step_leave_returned ⟨m1,d1,b,fn,e,r1⟩))⟩
theorem Em{g:Gm}{nt:Nat}(hn:nt<=512):∀(ps:List Tmp) (oP b:List Value) (t t1:Tm) (tmps:Array Value),r_ g nt t tmps->gZ g oP b->ps.all (Nat.blt · nt)=true->vS ps oP t=some t1->
 b.length=ps.length/\r_ g nt t1 ((ps.zip b).foldl (fun tmps (x:Tmp×Value)=>tmps.setIfInBounds x.1 x.2) tmps)
 |[],[],b,t,t1,tmps,e,hl,_,h=>by
  cases h
  have:=hl.1
  cases b with
  |nil=>exact⟨rfl,e⟩
  |cons=>cases this
 |[],_::_,_,_,_,_,_,_,_,h=>by cases h
 |_::_,[],_,_,_,_,_,_,_,h=>by cases h
 |p::ps,v::oP,b,t,t1,tmps,e,hl,O,h=>by
  cases b with
  |nil=>cases hl.1
  |cons v' b=>
   rw[List.all_cons,Bool.and_eq_true]at O
   simp only[vS]at h
   have h1:r_ g nt ((kp (some p)).run t v) (tmps.setIfInBounds p v'):=by
    have:=r_.put (a:=⟨tmps,[]⟩) e hn (d:=some p) O.1 hl.head
    exact this
   obtain⟨j,m⟩:=Em hn ps oP b _ t1 _ h1 hl.tail O.2 h
   exact⟨by simp[j],m⟩
theorem gx.Fc(H:gx B0 w0 g O.get G w){l:Nat}{r:td Tm}(h:O.get l=some (.loop r)){rl ro:Nat}(hb:g.ga l=some (rl,ro)):
 ∃b,ro=0/\w.heap[rl]?=some (.loop b)/\B0<=rl/\tu g r b:=by
 obtain⟨jv,a2,a3⟩:=(H.live _ _ h).2 _ _ hb
 cases jv<;>first|exact a3.elim|skip
 obtain⟨rfl,e,j⟩:=a3
 exact⟨_,rfl,a2,e,j⟩
theorem run_getLoop{rl:Nat}{r:Loop}(h:w.heap[rl]?=some (.loop r)):(Instr.getLoop rl).run P w=.ok r w:=by
 unfold Instr.getLoop
 rw[ft (oO h (fun _ _ _ h=>by cases h))];rfl
theorem JB{r:Loop}:∀c e f,Obj.loop r≠.cells c e f:=fun _ _ _ h=>by cases h
theorem gx.JC(H:gx B0 w0 g O.get G w){l rl:Nat}{r r1:td Tm}{b:Loop}(h:O.get l=some (.loop r))(hb:g.ga l=some (rl,0))(e:B0<=rl)(hr:tu g r1 b):
 gx B0 w0 g (O.set l (some (.loop r1))).get G (w.putObj rl (.loop b)):=by
 rw[Tr.oh]
 exact H.setObj h hb (fun _ _ h=>by cases h) (fun _ _ h=>by cases h) rfl (.loop b) e ⟨rfl,e,hr⟩
theorem Li{rl:Nat}{r:Loop}{k:List Item}{Z:List Frame}(hr:b.roundOf=some rl)(h:w.heap[rl]?=some (.loop r))(hs:r.state=.ready):
 step P (lone (At b a (.beginRound::k)) Z w)=.next (lone (At b a k) Z (w.putObj rl (.loop {r with state:=.busy}))):=by
 have e:(Instr.beginRound rl).run P w=.ok () (w.putObj rl (.loop {r with state:=.busy})):=by
  unfold Instr.beginRound
  rw[ft (run_getLoop h),ft (qt _ h JB),hs];rfl
 refine step_lone_go ?_
 simp[stepG,stepG.exec,At,hr,stepG.apply,e,Frame.finish]
theorem run_endRound{rl:Nat}{r:Loop}(j:Option Code)(h:w.heap[rl]?=some (.loop r)):
 (Instr.endRound rl j).run P w=.ok (.bool j.isNone) (w.putObj rl (.loop {r with state:=if j.isNone then .ready else .done,pending:=j})):=by
 unfold Instr.endRound
 rw[ft (run_getLoop h),ft (qt _ h JB)];rfl
theorem ze{id:Nat}:∀k,A7 id k->exitTo id k=none
 |[],_=>rfl
 |x::k,h=>by
  cases x<;>first|exact ze k h|skip
  rename_i i
  obtain⟨h1,D⟩:=h
  show(if i==id then some k else exitTo id k)=_
  rw[if_neg (by simpa using h1)]
  exact ze k D
theorem OI{rl:Nat}{r:Loop}{o:Nat}{todo:List Item}{c:Frame}{Z:List Frame}(hr:b.roundOf=some rl)(hk:b.kind=.normal)(h:w.heap[rl]?=some (.loop r))(he:Ends o [] todo):
 step P (lone (At b a todo) (c::Z) w)=.next (lone (c.finish (.bool (Nat.beq o 0))) Z (w.putObj rl (.loop {r with state:=(bif Nat.beq o 0 then .ready else .done),pending:=xh o}))):=by
 match o,he with
 |0,he=>
  have he:todo=[]:=he
  subst he
  refine step_lone_go ?_
  have:=run_endRound (P:=P) none h
  simp[stepG,stepG.exec,At,hr,this,doReturn,hk,xh]
 |1,he=>
  obtain⟨e,rfl⟩:=he
  refine step_lone_go ?_
  have:=run_endRound (P:=P) (some .ret) h
  simp[stepG,stepG.exec,At,hr,this,doReturn,hk,xh]
  exact⟨rfl,rfl⟩
 |i+2,he=>
  obtain⟨e,rfl,hn⟩:=he
  refine step_lone_go ?_
  have:=run_endRound (P:=P) (some (.exit i)) h
  have hx:=ze e hn
  simp[stepG,stepG.exec,At,hr,this,doReturn,hk,xh,hx]
  exact⟨rfl,rfl⟩
end
end
end Sw
namespace Sw
noncomputable section
open Go Go.RowKit
section
variable {P:Program}{ng:Nat}{e:Env}{B0:Nat}{w0:World}{b:Frame}{nt:Nat}{g:Gm}{G:Nat}{a:Act}{w:World}{I:Tm}{O:Ht}{rec:Rec}
theorem tu.aab{r:td Tm}{b:Loop}(h:tu g r b)(s:LoopState)(p:Option Code):tu g {r with state:=s,pending:=p} {b with state:=s,pending:=p}:=by
 obtain⟨_,_,c⟩:=h
 exact⟨rfl,rfl,c⟩
theorem tu.Kx{r:td Tm}{b:Loop}(h:tu g r b)(s:LoopState):tu g {r with state:=s} {b with state:=s}:=by
 obtain⟨_,p,c⟩:=h
 exact⟨rfl,p,c⟩
theorem run_yield{rl:Nat}{r:Loop}{oP:Array Value}(h:w.heap[rl]?=some (.loop r))(hs:oP.size=r.params.size):
 (Instr.yield rl oP).run P w=.ok (.round rl r.fn ((r.params.zip oP).foldl (fun tmps (x:Tmp×Value)=>tmps.setIfInBounds x.1 x.2) r.tmps) r.assign r.body) w:=by
 unfold Instr.yield
 rw[ft (run_getLoop h)]
 simp[hs]
theorem OJ(ih:o5 P ng B0 w0 rec)(hg:lv g ng)(H:gx B0 w0 g O.get G w){l rl:Nat}(hl:g.ga l=some (rl,0)){oP:List Value}{u:Array Value}(aE:gZ g oP u.toList)(c:Frame)(fs:List Frame):
 qw P B0 w0 g G (Instr.yield rl u) w c fs fun Z k=>qu e rec l oP O G Z k:=by
 have fail:∀{s:Sem Next},(∀Z k,qu e rec l oP O G Z k=.gu 0)->qw P B0 w0 g G s w c fs fun Z k=>qu e rec l oP O G Z k:=fun h=>.fail h
 cases hr:O.get l with
 |none=>exact fail fun Z k=>by simp only[qu,hr]
 |some ob=>
  cases ob<;>first|(refine fail ?_;intro Z k;simp only[qu,hr];done)|skip
  rename_i r
  obtain⟨j,_,hw,aN,L⟩:=H.Fc hr hl
  cases hb:Nat.ble e.low l with
  |false=>exact fail fun Z k=>by simp only[qu,hr,hb,cond_false]
  |true=>
   cases hs:vS r.params oP r.tmps with
   |none=>exact fail fun Z k=>by simp only[qu,hr,hb,cond_true,hs]
   |some t=>
    have L':=L
    obtain⟨aO,aP,aF,aG,au,aH,aI,aQ,ad,ao,aq,ar⟩:=L'
    have lf:r.fn=j.fn:=aF
    obtain⟨aJ,ae⟩:=Em ad r.params oP u.toList r.tmps t j.tmps aG aE ar hs
    intro k
    let b:=(j.params.zip u).foldl (fun tmps (x:Tmp×Value)=>tmps.setIfInBounds x.1 x.2) j.tmps
    have ak:u.size=j.params.size:=by simpa[au]using aJ
    have ae:r_ g r.nt t b:=by
     have e:b=(r.params.zip u.toList).foldl (fun tmps (x:Tmp×Value)=>tmps.setIfInBounds x.1 x.2) j.tmps:=by
      simp only[b,<-Array.foldl_toList,Array.toList_zip,au]
     rw[e];exact ae
    let E:Frame:=Frame.round rl j.fn b j.assign j.body .normal
    let a0:Act:=⟨b,[]⟩
    have aC:vT B0 w0 g r.nt ⟨t,[],O,G,[]⟩ a0 w:=⟨H,ae,⟨rfl,fun i d d' h=>by simp at h⟩⟩
    have yw:=ih ⟨r.fn,r.nt,some l⟩ r.assign ⟨t,[],O,G,[]⟩ E a0 w g lf.symm ⟨rl,rfl,hl⟩ hg ad ao aC [.beginRound,.code j.body] (c::fs)
    refine me.map (f2:=fun Z=>qu e rec l oP O G Z k) yw (fun p m h=>?_) fun pre h=>?_
    · have h:rec ⟨r.fn,r.nt,some l⟩ r.assign ⟨t,[],O,G,p⟩=.gu m:=h
      simp[qu,hr,hb,hs,h]
    · rcases h with h|⟨o,s1,h,aA⟩
      · refine .dead fun Z=>?_
        obtain⟨m,h⟩:=h Z
        have h:rec ⟨r.fn,r.nt,some l⟩ r.assign ⟨t,[],O,G,pre++Z⟩=.gu m:=h
        exact⟨m,by simp[qu,hr,hb,hs,h]⟩
      · have h:∀Z,rec ⟨r.fn,r.nt,some l⟩ r.assign ⟨t,[],O,G,pre++Z⟩=.ok (o,s1.at Z):=h
        cases o with
        |succ o=>exact .dead fun Z=>⟨0,by simp[qu,hr,hb,hs,h,St.at];rfl⟩
        |zero=>
        obtain⟨a1,w1,g1,aa,N,W,F,t1⟩:=aA
        have A:=N.ext.le.1 _ _ hl
        cases y:s1.O.get l with
        |none=>exact .dead fun Z=>⟨0,by simp[qu,hr,hb,hs,h,St.at,y]⟩
        |some ob=>
         cases ob<;>first|(refine .dead ?_;intro Z;refine⟨0,?_⟩;simp[qu,hr,hb,hs,h,St.at,y];done)|skip
         rename_i r1
         obtain⟨B,_,al,ai,af⟩:=aa.heap.Fc y A
         cases K:r1.state<;>first|(refine .dead ?_;intro Z;refine⟨0,?_⟩;simp[qu,hr,hb,hs,h,St.at,y,K];done)|skip
         have ab:B.state=.ready:=by rw[<-af.1,K]
         have ax:=aa.heap.JC y A ai (af.Kx .busy)
         have aw:lR g1 s1.G w1 g1 s1.G (w1.putObj rl (.loop {B with state:=.busy})):=lR.putObj A _
         have aD:vT B0 w0 g1 r.nt ⟨s1.I,s1.ds,s1.O.set l (some (.loop {r1 with state:=.busy})),s1.G,[]⟩ a1 (w1.putObj rl (.loop {B with state:=.busy})):=⟨ax,aa.act⟩
         have S:=ih ⟨r.fn,r.nt,some l⟩ r.body _ E a1 _ g1 lf.symm ⟨rl,rfl,A⟩ (hg.mono N.ext.le) ad (aq.mono N.ext.le) aD [] (c::fs)
         have h3:(fun rest=>qu e rec l oP O G (pre++rest) k)=fun Z=>(match rec ⟨r.fn,r.nt,some l⟩ r.body ⟨s1.I,s1.ds,s1.O.set l (some (.loop {r1 with state:=.busy})),s1.G,Z⟩with
          |.ok (o2,⟨_,ds,O,G,Z⟩)=>(match O.get l,ds with
           |some (.loop r2),[]=>k (.bool (Nat.beq o2 0)) (O.set l (some (.loop {r2 with state:=(bif Nat.beq o2 0 then .ready else .done),pending:=xh o2}))) G Z
           |_,_=>.gu 0)
          |.gu m=>.gu m):=by
          funext Z
          simp[qu,hr,hb,hs,h,St.at,y,K]<;>rfl
         rw[h3]
         refine me.map S (fun p m h=>?_) fun M h=>?_
         · have h:rec ⟨r.fn,r.nt,some l⟩ r.body ⟨s1.I,s1.ds,s1.O.set l (some (.loop {r1 with state:=.busy})),s1.G,p⟩=.gu m:=h
           simp only[h]
         · refine .here ?_
           rcases h with h|⟨o2,C,h,aB⟩
           · refine .inl fun Z=>?_
             obtain⟨m,h⟩:=h Z
             have h:rec ⟨r.fn,r.nt,some l⟩ r.body ⟨s1.I,s1.ds,s1.O.set l (some (.loop {r1 with state:=.busy})),s1.G,M++Z⟩=.gu m:=h
             exact⟨m,by simp only[h]⟩
           · have h:∀Z,rec ⟨r.fn,r.nt,some l⟩ r.body ⟨s1.I,s1.ds,s1.O.set l (some (.loop {r1 with state:=.busy})),s1.G,M++Z⟩=.ok (o2,C.at Z):=h
             obtain⟨a3,aL,g3,ag,R,av,ah,t3⟩:=aB
             have R:lR g1 s1.G (w1.putObj rl (.loop {B with state:=.busy})) g3 C.G aL:=R
             have J:=R.ext.le.1 _ _ A
             cases z:C.O.get l with
             |none=>exact .inl fun Z=>⟨0,by simp only[h,St.at,z]⟩
             |some ob=>
              cases ob<;>first|(refine .inl ?_;intro Z;refine⟨0,?_⟩;simp only[h,St.at,z];done)|skip
              rename_i aK
              obtain⟨aM,_,an,aj,az⟩:=ag.heap.Fc z J
              cases X:C.ds with
              |cons=>exact .inl fun Z=>⟨0,by simp only[h,St.at,z,X]⟩
              |nil=>
               refine .inr ⟨.bool (Nat.beq o2 0),C.O.set l (some (.loop {aK with state:=(bif Nat.beq o2 0 then .ready else .done),pending:=xh o2})),C.G,fun Z=>by simp only[h,St.at,z,X],_,run_yield hw ak,?_⟩
               have ay:=ag.heap.JC z J aj (az.aab (bif Nat.beq o2 0 then .ready else .done) (xh o2))
               refine⟨.bool (Nat.beq o2 0),_,g3,E,ay,.bool _,(N.trans (aw.trans R)).trans (lR.putObj J _),rfl,?_⟩
               have F:W=[.beginRound,.code j.body]:=F
               subst F
               have t1:Steps P (lone E (c::fs) w) (lone (At E a1 [.beginRound,.code j.body]) (c::fs) w1):=by rw[aH]at t1;exact t1
               rw[aI]at t3
               exact(t1.trans (.one (Li rfl al ab))).trans (t3.trans (.one (OI rfl rfl an ah)))
end
end
end Sw
namespace Sw
noncomputable section
open Go Go.RowKit
section
variable {P:Program}{ng:Nat}{e:Env}{B0:Nat}{w0:World}{b:Frame}{nt:Nat}{g:Gm}{G:Nat}{a:Act}{w:World}{I:Tm}{ds:List Deferred}{O:Ht}{rec:Rec}{ops:Array Oper}{i:Nat}{o:Oper}{rest:List Nat}{ks:List Item}{fs:List Frame}{c:Frame}
theorem RX(ok:mY P ng e)(nm:so P ng B0 w0 e){f:FuncId}(h:e.K f≠none\/e.F f≠none)(args:Array Value):(callFunc f args).run P w=.ok (.enter f args) w:=by
 cases hk:e.K f with
 |some b=>
  obtain⟨⟨fn,c,h1,D,h3⟩,_⟩:=nm f b hk
  exact Bs h1 D h3 args
 |none=>
  cases hf:e.F f with
  |some fi=>
   obtain⟨fn,f1,f2,f3,f4,f5,_⟩:=ok.F f fi hf
   exact Bs f1 f2 f5 args
  |none=>rcases h with h|h<;>exact absurd (by assumption) h
theorem Gy(ok:mY P ng e)(nm:so P ng B0 w0 e)(ih:o5 P ng B0 w0 rec)(H:gx B0 w0 g O.get G w)(hg:lv g ng){f:FuncId}{l:List Value}{args:Array Value}(hl:gZ g l args.toList){s:Sem Next}
 (hs:s.run P w=(callFunc f args).run P w):qw P B0 w0 g G s w c fs fun Z k=>nC e rec f l O G Z k:=by
 by_cases h:e.K f≠none\/e.F f≠none
 · exact qw.enter (zB ok nm ih H hg hl _) (hs.trans (RX ok nm h args))
 · have h1:e.K f=none:=by cases hk:e.K f with|none=>rfl|some=>exact absurd (.inl (by rw[hk];simp)) h
   have D:e.F f=none:=by cases hk:e.F f with|none=>rfl|some=>exact absurd (.inr (by rw[hk];simp)) h
   exact .fail fun Z k=>by simp only[nC,uv,h1,D]
def A8(f:Value)(args:Array Value):Sem Next:=do let d<-Deferred.ofValue f args;invoke d.target d.args
theorem Il(ok:mY P ng e)(nm:so P ng B0 w0 e)(ih:o5 P ng B0 w0 rec)(H:gx B0 w0 g O.get G w)(hg:lv g ng){f f':Value}(hf:fP g f f'){l:List Value}{args:Array Value}(hl:gZ g l args.toList):
 qw P B0 w0 g G (A8 f' args) w c fs fun Z k=>B2 e rec f l O G Z k:=by
 cases hf with
 |@func f x x' y y' hx hy kx ky=>
  refine Gy ok nm ih H hg (f:=f) (l:=x.toList++l++y.toList) (args:=x'++args++y') ?_ rfl
  rw[Array.toList_append,Array.toList_append]
  exact((sy.toList ⟨hx,kx⟩).append hl).append (sy.toList ⟨hy,ky⟩)
 |@A0 b rl h=>
  have:=OJ (e:=e) ih hg H h hl c fs
  have e1:A8 (.func (.yield rl) #[] #[]) args=Instr.yield rl args:=by
   show Instr.yield rl (#[]++args)=_
   simp
  rw[e1];exact this
 |_=>exact .fail fun Z k=>rfl
theorem Qy(ok:mY P ng e)(nm:so P ng B0 w0 e)(ih:o5 P ng B0 w0 rec)(H:gx B0 w0 g O.get G w)(hg:lv g ng){r b:Value}(hr:fP g r b)(name:String){l:List Value}{args:Array Value}(hl:gZ g l args.toList):
 qw P B0 w0 g G (invoke (.fn (.method name) #[]) (#[b]++args)) w c fs fun Z k=>F7 e rec r name l O G Z k:=by
 cases hr with
 |@iface t v v' j=>
  cases hm:e.M t name with
  |none=>exact .fail fun Z k=>by simp only[F7,hm]
  |some f=>
   have h0:(fun Z (k:KC)=>F7 e rec (.iface t v) name l O G Z k)=fun Z k=>nC e rec f (v::l) O G Z k:=by funext Z k;simp only[F7,hm]
   rw[h0]
   refine Gy ok nm ih H hg (f:=f) (l:=v::l) (args:=#[v']++args) ?_ ?_
   · rw[Array.toList_append];exact gZ.cons j hl
   · have e1:(#[Value.iface t v']++args)[0]?=some (.iface t v'):=by rw[Array.getElem?_append_left (by simp)];rfl
     have e2:(#[Value.iface t v']++args).extract 1 (#[Value.iface t v']++args).size=args:=by
      apply Array.toList_inj.1;simp
     have h1:(method (P.types.size+Made.depth) t v' name).run P w=.ok (f,v') w:=ok.M t name f hm v' w
     unfold invoke
     simp only[e1,e2]
     unfold callMethod
     have D:(program:Sem Program).run P w=.ok P w:=rfl
     simp only
     rw[ft D,ft h1]
 |_=>exact .fail fun Z k=>rfl
theorem Qz{e:Next}{j:Frame}{k:List Item}{Z:List Frame}{rest:List Nat}(m:ops[i]?=some o)(hw:Region.wanted o (yielded ops a.tmps)=true)(hr:b.roundOf=none\/qR o.op=true)
 (h:(execOp a.eval o).run P w=.ok e w) (hc:Ho P e=some j):
 step P (lone (At b a (.inRegion ops (i::rest)::k)) Z w)=.next (lone j (At b a (.inRegion ops (i::rest)::k)::Z) w):=by
 refine step_lone_go ?_
 rw[Ij m hw hr]
 cases e<;>first|(cases hc;done)|skip
 · cases hc;simp[stepG.apply,h,At]
 · cases hc;simp[stepG.apply,h,At]
theorem qw.op(hd:nK g ds a.defers)(m:ops[i]?=some o)(hw:Region.wanted o (yielded ops a.tmps)=true)(hr:b.roundOf=none\/qR o.op=true){s:Sem Next}(hs:(execOp a.eval o).run P w=s.run P w)
 {run:List Nat->KC->R} (h:qw P B0 w0 g G s w (At b a (.inRegion ops (i::rest)::ks)) fs run):
 uw P B0 w0 b g I G ops i o.dst a w rest ks fs fun Z k=>run Z (fun v O G Z=>k ⟨(kp o.dst).run I v,ds,O,G,Z⟩):=by
 intro k
 refine(h (fun v O G Z=>k ⟨(kp o.dst).run I v,ds,O,G,Z⟩)).mono fun f' h=>?_
 rcases h with h|⟨v,e9,e_,h,z,h1,v',w',g',y,p,u,j,hc,st⟩
 · exact .inl h
 · refine .inr ⟨v,ds,e9,e_,h,v',a.defers,w',g',p,u,hd.mono j.ext.le,j,?_⟩
   have e:=At.finish b a ops i rest ks v'
   rw[m]at e
   have e:(At b a (.inRegion ops (i::rest)::ks)).finish v'=At b (a.put o.dst v') (.inRegion ops rest::ks):=e
   have:=(Steps.one (Qz (k:=ks) (Z:=fs) (rest:=rest) m hw hr (hs.trans h1) hc)).trans st
   rw[e]at this
   exact this
theorem WH(ok:mY P ng e)(nm:so P ng B0 w0 e)(ih:o5 P ng B0 w0 rec)(H:gx B0 w0 g O.get G w)(hg:lv g ng)(hd:nK g ds a.defers)(z:ops[i]?=some o)(hw:Region.wanted o (yielded ops a.tmps)=true)
 {c:Call} (j:o.op=.call c) (y:vK g I a.eval o.op.operands.toList) (fm:Fm):
 uw P B0 w0 b g I G ops i o.dst a w rest ks fs fun Z k=>(qv o.op o.dst).run e rec fm I ds O G Z k:=by
 have hr:b.roundOf=none\/qR o.op=true:=.inr (by rw[j];rfl)
 rw[j]at y
 have p:gZ g (runs (tk c.args.toList) I) (c.args.map a.eval).toList:=by
  rw[Array.toList_map]
  exact zd c.args.toList fun x hx=>y x (by simp only[Op.operands,Call.operands];cases c.callee<;>simp[hx])
 rw[j]
 cases hc:c.callee with
 |value f=>
  have hf:fP g ((f_ f).run I) (a.eval f):=y f (by simp[Op.operands,Call.operands,hc])
  have h0:(fun(Z:List Nat) (k:St->R)=>(qv (.call c) o.dst).run e rec fm I ds O G Z k)=fun Z k=>B2 e rec ((f_ f).run I) (runs (tk c.args.toList) I) O G Z (fun v O G Z=>k ⟨(kp o.dst).run I v,ds,O,G,Z⟩):=by
   funext Z k;simp only[qv,hc];rfl
  rw[h0]
  refine qw.op hd z hw hr (s:=A8 (a.eval f) (c.args.map a.eval)) ?_ (Il ok nm ih H hg hf p)
  simp only[execOp,j,resolve,hc];rfl
 |invoke r m=>
  have hf:fP g ((f_ r).run I) (a.eval r):=y r (by simp[Op.operands,Call.operands,hc])
  have h0:(fun(Z:List Nat) (k:St->R)=>(qv (.call c) o.dst).run e rec fm I ds O G Z k)=fun Z k=>F7 e rec ((f_ r).run I) m (runs (tk c.args.toList) I) O G Z (fun v O G Z=>k ⟨(kp o.dst).run I v,ds,O,G,Z⟩):=by
   funext Z k;simp only[qv,hc];rfl
  rw[h0]
  refine qw.op hd z hw hr (s:=invoke (.fn (.method m) #[]) (#[a.eval r]++c.args.map a.eval)) ?_ (Qy ok nm ih H hg hf m p)
  simp only[execOp,j,resolve,hc];rfl
 |builtin u=>
  have h0:(fun(Z:List Nat) (k:St->R)=>(qv (.call c) o.dst).run e rec fm I ds O G Z k)=fun Z k=>bi u e.T O.get G c.argTypes.toList (runs (tk c.args.toList) I) (fun v=>k ⟨(kp o.dst).run I v,ds,O,G,Z⟩) (tW (kp o.dst).run e.low I ds O G Z k):=by
   funext Z k;simp only[qv,hc];rfl
  rw[h0]
  refine k_.yw (run:=fun B A=>bi u e.T O.get G c.argTypes.toList (runs (tk c.args.toList) I) B A) H hd z hw hr (fun B A=>?_)
  have:=My (n:=G) ok.T H (b:=u) (ts:=c.argTypes.toList) p o.type (c.args.map fun|.const _=>true|_=>false) B A
  have e1:(execOp a.eval o).run P w=(Go.builtin u c.argTypes.toList.toArray o.type (c.args.map fun|.const _=>true|_=>false) (c.args.map a.eval).toList.toArray).run P w:=by
   simp only[execOp,j,resolve,hc];rfl
  rw[e1];exact this
end
end
end Sw
namespace Sw
noncomputable section
open Go Go.RowKit
section
variable {P:Program}{ng:Nat}{e:Env}{B0:Nat}{w0:World}{b:Frame}{nt:Nat}{g:Gm}{G:Nat}{a:Act}{w:World}{I:Tm}{ds:List Deferred}{O:Ht}{rec:Rec}{ops:Array Oper}{i:Nat}{o:Oper}{rn:Option Nat}{rest:List Nat}{ks:List Item}{fs:List Frame}
theorem uw.fail{dst:Option Tmp}{run:List Nat->(St->R)->R}(h:∀Z k,run Z k=.gu 0):uw P B0 w0 b g I G ops i dst a w rest ks fs run:=fun k=>.dead fun Z=>⟨0,h Z k⟩
theorem QA{d:Deferred}{k:List Item}{Z:List Frame}{rest:List Nat}(j:ops[i]?=some o)(hw:Region.wanted o (yielded ops a.tmps)=true)(hr:b.roundOf=none)
 (h:(execOp a.eval o).run P w=.ok (.defer d) w):
 step P (lone (At b a (.inRegion ops (i::rest)::k)) Z w)=.next (lone (At b ({a with defers:=d::a.defers}.put o.dst undef) (.inRegion ops rest::k)) Z w):=by
 refine step_lone_go ?_
 rw[Ij j hw (.inl hr)]
 have e:=At.finish b {a with defers:=d::a.defers} ops i rest k undef
 rw[j]at e
 have e:(At b {a with defers:=d::a.defers} (.inRegion ops (i::rest)::k)).finish undef=At b ({a with defers:=d::a.defers}.put o.dst undef) (.inRegion ops rest::k):=e
 rw[<-e]
 simp[stepG.apply,h,At]
theorem Um(hg:xC g b rn)(H:gx B0 w0 g O.get G w)(hd:nK g ds a.defers)(F:ops[i]?=some o)(hw:Region.wanted o (yielded ops a.tmps)=true)
 {c:Call} (m:o.op=.defer c) (A:vK g I a.eval o.op.operands.toList) (f:FuncId) (nt:Nat):
 uw P B0 w0 b g I G ops i o.dst a w rest ks fs fun Z k=>(qv o.op o.dst).run e rec ⟨f,nt,rn⟩ I ds O G Z k:=by
 rw[m]at A
 rw[m]
 have h0:(fun(Z:List Nat) (k:St->R)=>(qv (.defer c) o.dst).run e rec ⟨f,nt,rn⟩ I ds O G Z k)=fun Z k=>(match y9 c ⟨f,nt,rn⟩ I with
  |some x=>k ⟨(kp o.dst).run I undef,x::ds,O,G,Z⟩
  |none=>.gu 0):=by funext Z k;rfl
 rw[h0]
 cases rn with
 |some l=>exact .fail fun Z k=>by simp[y9]
 |none=>
 have hg:b.roundOf=none:=hg
 cases hc:c.callee with
 |invoke=>exact .fail fun Z k=>by simp[y9,hc]
 |builtin=>exact .fail fun Z k=>by simp[y9,hc]
 |value fv=>
  have z:gZ g (runs (tk c.args.toList) I) (c.args.map a.eval).toList:=by
   rw[Array.toList_map]
   exact zd c.args.toList fun x hx=>A x (by simp only[Op.operands,Call.operands];cases c.callee<;>simp[hx])
  have hf:fP g ((f_ fv).run I) (a.eval fv):=A fv (by simp[Op.operands,Call.operands,hc])
  generalize C:(f_ fv).run I=v at hf
  generalize E:a.eval fv=v' at hf
  cases hf with
  |@func u x x' y y' hx hy kx ky=>
   intro k
   refine .here (.inr ⟨undef,⟨.fn (.func u) y,(x.toList++runs (tk c.args.toList) I).toArray⟩::ds,O,G,fun Z=>by simp[y9,hc,C],undef,⟨.fn (.func u) y',x'++c.args.map a.eval⟩::a.defers,w,g,H,fP.undef g,?_,lR.refl _ _ _,?_⟩)
   · have B:Cm g ⟨.fn (.func u) y,(x.toList++runs (tk c.args.toList) I).toArray⟩ ⟨.fn (.func u) y',x'++c.args.map a.eval⟩:=by
      refine .fn ⟨hy,ky⟩ ?_
      have:=(gZ.append (sy.toList ⟨hx,kx⟩) z).toArray
      have e:(x'.toList++(c.args.map a.eval).toList).toArray=x'++c.args.map a.eval:=by apply Array.toList_inj.1;simp
      rw[e]at this;exact this
     refine⟨by simp[hd.1],fun j d d' e p=>?_⟩
     cases j with
     |zero=>simp at e p;subst e;subst p;exact B
     |succ j=>simp at e p;exact hd.2 j d d' e p
   · refine .one (QA F hw hg ?_)
     simp only[execOp,m,resolve,hc,E];rfl
  |_=>exact .fail fun Z k=>by simp[y9,hc,C]
end
end
end Sw
namespace Sw
noncomputable section
open Go Go.RowKit
theorem kY.cons_inv{g:Gm}{e:MapEntry}{x y:List MapEntry}(h:kY g (e::x) y):∃j x',y=j::x'/\(fP g e.key j.key/\fP g e.val j.val/\e.born=j.born)/\kY g x x':=by
 cases y with
 |nil=>cases h.1
 |cons j x'=>exact⟨j,x',rfl,h.2 0 e j rfl rfl,by have:=h.1;simpa using this,fun i u m a b=>h.2 (i+1) u m (by simpa using a) (by simpa using b)⟩
theorem kY.wH{g:Gm}{y:List MapEntry}(h:kY g [] y):y=[]:=by have:=h.1;cases y<;>first|rfl|cases this
theorem kY.append{g:Gm}{x x' y y':List MapEntry}(h:kY g x x')(k:kY g y y'):kY g (x++y) (x'++y'):=by
 induction x generalizing x' with
 |nil=>cases h.wH;exact k
 |cons e x ih=>
  obtain⟨b,j,rfl,h1,D⟩:=h.cons_inv
  exact kY.cons h1 (ih D)
theorem En(n:Nat):∀l:List Nat,Qg n l=l.contains n
 |[]=>rfl
 |x::xs=>by
  simp only[Qg,List.contains_cons,En n xs]
  congr 1
  cases h:Nat.beq x n with
  |true=>have:=fC h;subst this;simp
  |false=>
   have:¬n=x:=fun e=>by subst e;simp at h
   simp[this]
theorem Fe{g:Gm}(seen:List Nat)(ju:Nat)(b:Bool):∀(es m:List MapEntry),kY g es m->
 kY g (AK seen ju b es) ((m.filter fun e=>!seen.contains e.born).filter fun e=>if b then decide (e.born<ju)else decide (ju<=e.born))
 |[],m,h=>by cases h.wH;exact kY.nil
 |e::es,m,h=>by
  obtain⟨j,u,rfl,h1,D⟩:=h.cons_inv
  have ih:=Fe seen ju b es u D
  simp only[AK,En,h1.2.2]
  cases hc:seen.contains j.born with
  |true=>
   have:¬j.born∉seen:=by simpa using hc
   simp only[cond_true]
   rw[List.filter_cons_of_neg (by simpa using hc)]
   exact ih
  |false=>
   simp only[cond_false]
   rw[List.filter_cons_of_pos (by simpa using hc)]
   have hb:(bif Nat.blt j.born ju then b else !b)=(if b then decide (j.born<ju)else decide (ju<=j.born)):=by
    cases jH:Nat.blt j.born ju with
    |true=>
     have:j.born<ju:=fk jH
     cases b<;>simp<;>omega
    |false=>
     have:¬j.born<ju:=fun k=>by
      have D:Nat.blt j.born ju=true:=gl k
      rw[D]at jH;cases jH
     cases b<;>simp<;>omega
   rw[hb]
   cases o:(if b then decide (j.born<ju)else decide (ju<=j.born))with
   |true=>rw[List.filter_cons_of_pos (p:=fun e:MapEntry=>if b then decide (e.born<ju)else decide (ju<=e.born)) o];exact kY.cons h1 ih
   |false=>rw[List.filter_cons_of_neg (p:=fun e:MapEntry=>if b then decide (e.born<ju)else decide (ju<=e.born)) (fun k=>by rw[o]at k;cases k)];exact ih
theorem Im{g:Gm}(last:Nat):∀(es b:List MapEntry),kY g es b->EW last es=b.all fun e=>decide (last<=e.born)
 |[],b,h=>by cases h.wH;rfl
 |e::es,b,h=>by
  obtain⟨j,m,rfl,h1,D⟩:=h.cons_inv
  simp only[EW,List.all_cons,h1.2.2,Im last es m D]
  congr 1
  cases hb:Nat.ble last j.born with
  |true=>simp[Nat.le_of_ble_eq_true hb]
  |false=>
   have:¬last<=j.born:=fun k=>by have:=gl k;rw[hb]at this;cases this
   simp[this]
def DJ(g:Gm)(x x':List (Option MapEntry)):Prop:=
 x.length=x'.length/\∀(i:Nat) (e b:Option MapEntry),x[i]?=some e->x'[i]?=some b->match e,b with
  |none,none=>True
  |some e,some b=>fP g e.key b.key/\fP g e.val b.val/\e.born=b.born
  |_,_=>False
theorem DJ.Pv{g:Gm}{x x':List MapEntry}(h:kY g x x'):DJ g (x.map some) (x'.map some):=
 ⟨by simp[h.1],fun i e m a b=>by
   rw[List.getElem?_map,Option.map_eq_some_iff]at a b
   obtain⟨u,a1,rfl⟩:=a
   obtain⟨j,b1,rfl⟩:=b
   exact h.2 i u j a1 b1⟩
theorem DJ.RY{g:Gm}{x x':List (Option MapEntry)}(h:DJ g x x'):DJ g (none::x) (none::x'):=
 ⟨by simp[h.1],fun i e j a b=>by
   cases i with
   |zero=>simp at a b;subst a;subst b;trivial
   |succ i=>simp at a b;exact h.2 i e j a b⟩
section
variable {P:Program}{ng:Nat}{e:Env}{B0:Nat}{w0:World}{b:Frame}{nt:Nat}{g:Gm}{G:Nat}{a:Act}{w:World}{I:Tm}{ds:List Deferred}{O:Ht}{rec:Rec}{ops:Array Oper}{i:Nat}{o:Oper}
def yy(es:Array MapEntry)(seen:Array Nat)(ju:Nat):Array (Option MapEntry):=
 let left:=es.filter fun e=>!seen.contains e.born
 let b:=left.filter (·.born<ju)
 let new:=left.filter (·.born>=ju)
 (if b.isEmpty then #[none]else #[])++(b++new).map some
theorem RZ{es:List MapEntry}{j:Array MapEntry}{b:Array Nat}{ju last clock:Nat}{l:List (Option MapEntry)}{cl:Nat}{O:Hp}{m:Nat}(h:kY g es j.toList)(hm:O m=some (.map es clock))(hn:F6 O m ju b.toList last=some (l,cl)):
 cl=clock/\DJ g l (yy j b ju).toList/\(!b.isEmpty&&!j.isEmpty&&j.all (fun e=>decide (e.born>=last)))=false:=by
 unfold F6 at hn
 rw[hm]at hn
 simp only at hn
 have h1:=Fe b.toList ju true es j.toList h
 have D:=Fe b.toList ju false es j.toList h
 have e1:((j.filter fun e=>!b.contains e.born).filter (·.born<ju)).toList=(j.toList.filter fun e=>!b.toList.contains e.born).filter fun e=>if true then decide (e.born<ju)else decide (ju<=e.born):=by simp
 have e2:((j.filter fun e=>!b.contains e.born).filter (·.born>=ju)).toList=(j.toList.filter fun e=>!b.toList.contains e.born).filter fun e=>if false then decide (e.born<ju)else decide (ju<=e.born):=by simp
 rw[<-e1]at h1
 rw[<-e2]at D
 have o:(!b.toList.isEmpty&&(!es.isEmpty&&EW last es))=(!b.isEmpty&&!j.isEmpty&&j.all (fun e=>decide (e.born>=last))):=by
  rw[Im last es j.toList h]
  have:es.isEmpty=j.isEmpty:=by
   have:=h.1
   rw[<-Array.isEmpty_toList]
   cases es<;>cases hx:j.toList<;>simp_all
  rw[this,Bool.and_assoc]
  simp
 rw[o]at hn
 cases u:(!b.isEmpty&&!j.isEmpty&&j.all (fun e=>decide (e.born>=last)))with
 |true=>rw[u]at hn;cases hn
 |false=>
  rw[u]at hn
  simp only[cond_false]at hn
  split at hn
  · rename_i p
    cases hn
    refine⟨rfl,?_,rfl⟩
    rw[p]at h1
    have h0:=h1.wH
    have:((j.filter fun e=>!b.contains e.born).filter (·.born<ju)).isEmpty=true:=by rw[<-Array.isEmpty_toList,h0];rfl
    unfold yy
    simp only[this,if_true,Array.toList_append,Array.toList_map,h0,List.nil_append]
    exact DJ.RY (DJ.Pv D)
  · rename_i A p
    cases hn
    refine⟨rfl,?_,rfl⟩
    have:((j.filter fun e=>!b.contains e.born).filter (·.born<ju)).isEmpty=false:=by
     rw[<-Array.isEmpty_toList]
     have:=h1.1
     cases hx:AK b.toList ju true es with
     |nil=>exact absurd hx (by intro hx;exact p hx)
     |cons y B=>
      rw[hx]at this
      cases z:((j.filter fun e=>!b.contains e.born).filter (·.born<ju)).toList with
      |nil=>rw[z]at this;cases this
      |cons=>rfl
    unfold yy
    simp only[this,Bool.false_eq_true,if_false,Array.toList_append,Array.toList_map,List.nil_append]
    exact DJ.Pv (h1.append D)
end
end
end Sw
namespace Sw
noncomputable section
open Go Go.RowKit
section
variable {P:Program}{ng:Nat}{e:Env}{B0:Nat}{w0:World}{b:Frame}{nt:Nat}{g:Gm}{G:Nat}{a:Act}{w:World}{I:Tm}{ds:List Deferred}{O:Ht}{rec:Rec}{ops:Array Oper}{i:Nat}{o:Oper}{rest:List Nat}{ks:List Item}{fs:List Frame}
theorem JD{m:Option Nat}{s st:Nat}{seen:Array Nat}:∀c e f,Obj.mapIter m s seen st≠.cells c e f:=fun _ _ _ h=>by cases h
theorem X5{es:Array MapEntry}{c:Nat}:∀k e f,Obj.map es c≠.cells k e f:=fun _ _ _ h=>by cases h
theorem JE(n:Nat):∃c w1,(choose (.mapNext n)).run P w=.ok c w1/\(0<n->c<n)/\(w1=w\/w1=w.drew):=by
 by_cases h:n<=1
 · refine⟨0,w,?_,fun k=>k,.inl rfl⟩
   simp[choose,Sem.run,Question.forced,h]
 · refine⟨w.tape w.drawn (.mapNext n)%n,w.drew,?_,fun k=>Nat.mod_lt _ k,.inr rfl⟩
   simp[choose,Sem.run,Question.forced,h,Question.cut]
theorem Lj{rr:Nat}{s st:Nat}{seen:Array Nat}(h:w.heap[rr]?=some (.mapIter none s seen st))(ty:TypeId):
 (Instr.next (.pointer (some ⟨rr,0,none⟩)) false ty).run P w=.ok (.tuple #[.bool false]) w:=by
 unfold Instr.next
 simp only
 rw[ft (oO h JD)];rfl
theorem run_next_map{rr m:Nat}{ju last clock:Nat}{seen:Array Nat}{es:Array MapEntry}(h:w.heap[rr]?=some (.mapIter (some m) ju seen last))(hm:w.heap[m]?=some (.map es clock))(ty:TypeId)
 (o:(!seen.isEmpty&&!es.isEmpty&&es.all (fun e=>decide (e.born>=last)))=false) {c:Nat} {w1:World} (hc:(choose (.mapNext (yy es seen ju).size)).run P w=.ok c w1) (hw:w1.heap=w.heap)
 {x:Option MapEntry} (hx:(yy es seen ju)[c]?=some x):
 (Instr.next (.pointer (some ⟨rr,0,none⟩)) false ty).run P w=(match x with
   |some e=>.ok (.tuple #[.bool true,e.key,e.val]) (w1.putObj rr (.mapIter (some m) ju (seen.push e.born) clock))
   |none=>.ok (.tuple #[.bool false]) w1):=by
 unfold Instr.next
 simp only
 rw[ft (oO h JD)]
 simp only
 rw[ft (oO hm X5)]
 simp only
 rw[if_neg (by rw[o];simp)]
 have b:(choose (.mapNext (yy es seen ju).size)).run P w=.ok c w1:=hc
 unfold yy at b hx
 simp only at b hx
 rw[ft b,hx]
 cases x with
 |none=>rfl
 |some e=>
  simp only
  have j:w1.heap[rr]?=some (.mapIter (some m) ju seen last):=by rw[hw];exact h
  rw[ft (qt _ j JD)];rfl
theorem MC:∀(c:Nat) (l:List (Option MapEntry)),Cv c l=l[c]?
 |_,[]=>by simp[Cv]
 |0,x::xs=>by simp[Cv]
 |c+1,x::xs=>by simp[Cv,MC c xs]
theorem zK.X6(hd:nK g ds a.defers)(e:ops[i]?=some o)(hw:Region.wanted o (yielded ops a.tmps)=true)(hr:b.roundOf=none\/qR o.op=true){s:Sem Value}(he:execOp a.eval o=(do pure (.value (<-s)))){v v':Value}{w':World}{g':Gm}{e9:Ht}{e_:Nat}
 (hs:s.run P w=.ok v' w') (H:gx B0 w0 g' e9.get e_ w') (j:fP g' v v') (E:lR g G w g' e_ w'):zK P B0 w0 b g G ops i o.dst a w v ds e9 e_ rest ks fs:=
 ⟨v',a.defers,w',g',H,j,hd.mono E.ext.le,E,.one (E9 e hw hr (by rw[he,Qn];exact hs))⟩
theorem lR.drew{w1:World}(h:w1=w\/w1=w.drew):lR g G w g G w1:=by
 rcases h with rfl|rfl
 · exact lR.refl _ _ _
 · exact⟨yv.refl _ _,⟨fg _,fun _ _ _=>rfl⟩,pQ.refl _ _⟩
theorem WI(H:gx B0 w0 g O.get G w)(hd:nK g ds a.defers)(aa:ops[i]?=some o)(hw:Region.wanted o (yielded ops a.tmps)=true)
 {it:Operand} (J:o.op=.next it false) (aj:vK g I a.eval o.op.operands.toList) (fm:Fm):
 uw P B0 w0 b g I G ops i o.dst a w rest ks fs fun Z k=>(qv o.op o.dst).run e rec fm I ds O G Z k:=by
 have hr:b.roundOf=none\/qR o.op=true:=.inr (by rw[J];rfl)
 rw[J]at aj
 have he:execOp a.eval o=(do pure (.value (<-Instr.next (a.eval it) false o.type))):=by simp only[execOp,J]
 have ab:fP g ((f_ it).run I) (a.eval it):=aj it (by simp[Op.operands])
 rw[J]
 have h0:(fun(Z:List Nat) (k:St->R)=>(qv (.next it false) o.dst).run e rec fm I ds O G Z k)=fun Z k=>uT e.low ((f_ it).run I) O G Z (fun v O G Z=>k ⟨(kp o.dst).run I v,ds,O,G,Z⟩):=by funext Z k;rfl
 rw[h0]
 generalize hx:(f_ it).run I=x at ab
 generalize M:a.eval it=x' at ab he
 cases ab with
 |@ptr r off rr ro hg=>
  cases off with
  |succ=>exact .fail fun Z k=>by simp[uT]
  |zero=>
  cases u:O.get r with
  |none=>exact .fail fun Z k=>by simp[uT,u]
  |some ob=>
   cases ob<;>first|(refine uw.fail ?_;intro Z k;simp[uT,u];done)|skip
   rename_i m ju seen last
   cases m with
   |none=>
    obtain⟨C,j,rfl,D,X,h4,A⟩:=H.Ms u hg
    cases C with
    |some=>exact A.elim
    |none=>
     intro k
     refine .here (.inr ⟨.tuple #[.bool false],ds,O,G,fun Z=>by simp[uT,u],?_⟩)
     refine zK.X6 hd aa hw hr he (Lj D _) H ?_ (lR.refl _ _ _)
     exact(gZ.cons (.bool false) (gZ.nil g)).toArray|>fun h=>.tuple h.1 h.2
   |some m=>
    cases hb:Nat.ble e.low r with
    |false=>exact .fail fun Z k=>by simp[uT,u,hb]
    |true=>
    cases hn:F6 O.get m ju seen last with
    |none=>exact .fail fun Z k=>by simp[uT,u,hb,hn]
    |some ao=>
     obtain⟨l,clock⟩:=ao
     obtain⟨C,j,rfl,D,X,rfl,A⟩:=H.Ms u hg
     cases C with
     |none=>exact A.elim
     |some C=>
     have A:g.ga m=some (C,0):=A
     cases hm:O.get m with
     |none=>exact .fail fun Z k=>by simp[F6,hm]at hn
     |some om=>
      cases om<;>first|(exfalso;simp[F6,hm]at hn;done)|skip
      rename_i es aw
      obtain⟨E,_,al,ax,an⟩:=H.AJ hm A
      obtain⟨rfl,ag,ak⟩:=RZ an hm hn
      obtain⟨c,w1,hc,jH,L⟩:=JE (P:=P) (w:=w) (yy E j ju).size
      have F:w1.heap=w.heap:=by rcases L with rfl|rfl<;>rfl
      have ad:lR g G w g G w1:=lR.drew L
      have H1:gx B0 w0 g O.get G w1:=by rcases L with rfl|rfl;exact H;exact H.of_heap rfl rfl rfl rfl
      intro k
      have hlen:l.length=(yy E j ju).size:=by rw[ag.1];simp
      have key:∀x,l[c]?=some x->∀f':List Nat->R,(∀Z,f' Z=(match x with
       |some x=>k ⟨(kp o.dst).run I (.tuple #[.bool true,x.key,x.val]),ds,O.set r (some (.mapIter (some m) ju (j.toList++[x.born]) clock)),G,Z⟩
       |none=>k ⟨(kp o.dst).run I (.tuple #[.bool false]),ds,O,G,Z⟩))->
       Ai f'\/∃v W e9 e_,(∀Z,f' Z=k ⟨(kp o.dst).run I v,W,e9,e_,Z⟩)/\zK P B0 w0 b g G ops i o.dst a w v W e9 e_ rest ks fs:=by
       intro x hx f' hf
       have ai:∃x',(yy E j ju)[c]?=some x':=by
        have:c<(yy E j ju).size:=by rw[<-hlen];exact(fp.1 hx).1
        exact⟨_,gA this⟩
       obtain⟨x',M⟩:=ai
       have B:=ag.2 c x x' hx (by simpa using M)
       have K:=run_next_map D al o.type ak hc F M
       cases x with
       |none=>
        cases x' with
        |some=>exact B.elim
        |none=>
         refine .inr ⟨.tuple #[.bool false],ds,O,G,hf,?_⟩
         refine zK.X6 hd aa hw hr he K H1 ?_ ad
         exact(gZ.cons (.bool false) (gZ.nil g)).toArray|>fun h=>.tuple h.1 h.2
       |some N=>
        cases x' with
        |none=>exact B.elim
        |some af=>
         obtain⟨aq,ar,q3⟩:=B
         refine .inr ⟨.tuple #[.bool true,N.key,N.val],ds,O.set r (some (.mapIter (some m) ju (j.toList++[N.born]) clock)),G,hf,?_⟩
         have au:w1.heap[rr]?=some (.mapIter (some C) ju j last):=by rw[F];exact D
         have ae:=H1.setObj u hg (o':=.mapIter (some m) ju (j.toList++[N.born]) clock) (fun _ _ h=>by cases h) (fun _ _ h=>by cases h) rfl (.mapIter (some C) ju (j.push af.born) clock) X
          ⟨rfl,X,rfl,by rw[q3];simp,rfl,A⟩
         rw[<-Tr.oh]at ae
         refine zK.X6 hd aa hw hr he K ae ?_ (ad.trans (lR.putObj hg _))
         exact(gZ.cons (.bool true) (gZ.cons aq (gZ.cons ar (gZ.nil g)))).toArray|>fun h=>.tuple h.1 h.2
      by_cases h1:∃x,l=[x]
      · obtain⟨x,rfl⟩:=h1
        have ah:c=0:=by have:=jH (by rw[<-hlen];simp);rw[<-hlen]at this;simp at this;exact this
        refine .here (key x (by rw[ah];rfl) _ fun Z=>?_)
        cases x<;>simp[uT,u,hb,hn]
      · by_cases h0:l=[]
        · subst h0
          refine .dead fun Z=>?_
          cases Z with
          |nil=>exact⟨0,by simp[uT,u,hb,hn]⟩
          |cons c Z=>exact⟨0,by simp[uT,u,hb,hn,Cv]⟩
        · have jH:=jH (by rw[<-hlen];exact List.length_pos_iff.2 h0)
          rw[<-hlen]at jH
          have hl:∀Z,uT e.low (.pointer (some ⟨r,0,none⟩)) O G Z (fun v O G Z=>k ⟨(kp o.dst).run I v,ds,O,G,Z⟩)=(match Z with
           |[]=>.gu l.length
           |c::Z=>match Cv c l with
            |some x=>(match x with
             |some x=>k ⟨(kp o.dst).run I (.tuple #[.bool true,x.key,x.val]),ds,O.set r (some (.mapIter (some m) ju (j.toList++[x.born]) clock)),G,Z⟩
             |none=>k ⟨(kp o.dst).run I (.tuple #[.bool false]),ds,O,G,Z⟩)
            |none=>.gu 0):=by
           intro Z
           match l,h0,h1,hn with
           |[],h0,_,_=>exact absurd rfl h0
           |[x],_,h1,_=>exact absurd ⟨x,rfl⟩ h1
           |x::y::l,_,_,hn=>
            cases Z with
            |nil=>simp[uT,u,hb,hn]
            |cons c Z=>
             cases S:Cv c (x::y::l)with
             |none=>simp[uT,u,hb,hn,S]
             |some z=>cases z<;>simp[uT,u,hb,hn,S]
          refine⟨[c],fun p av q e=>?_,?_⟩
          · cases p with
            |nil=>
             simp at e
             obtain⟨rfl,_⟩:=e
             exact⟨l.length,hl [],jH⟩
            |cons y ay=>simp at e
          · refine key l[c] (List.getElem?_eq_getElem jH) _ fun Z=>?_
            have S:Cv c l=some l[c]:=by rw[MC];exact fq jH
            have:=hl (c::Z)
            simp only[S]at this
            exact this
 |_=>exact .fail fun Z k=>rfl
end
end
end Sw
namespace Sw
noncomputable section
open Go Go.RowKit
section
variable {P:Program}{ng:Nat}{e:Env}{B0:Nat}{w0:World}{b:Frame}{nt:Nat}{g:Gm}{G:Nat}{a:Act}{w:World}{I:Tm}{ds:List Deferred}{O:Ht}{rec:Rec}{ops:Array Oper}{i:Nat}{o:Oper}{rn:Option Nat}{rest:List Nat}{ks:List Item}{fs:List Frame}
structure LQ(P:Program)(ng:Nat)(e:Env)(B0:Nat)(w0:World)(rec:Rec)(b:Frame)(g:Gm)(O:Ht)(G:Nat)(w:World)(ds:List Deferred)(a:Act)(rn:Option Nat):Prop where
 ok:mY P ng e
 nm:so P ng B0 w0 e
 ih:o5 P ng B0 w0 rec
 H:gx B0 w0 g O.get G w
 hg:lv g ng
 hd:nK g ds a.defers
 rn:xC g b rn
theorem MD(R:LQ P ng e B0 w0 rec b g O G w ds a rn)(p:ops[i]?=some o)(hw:Region.wanted o (yielded ops a.tmps)=true)(hr:qR o.op=true)
 (u:vK g I a.eval o.op.operands.toList):
 uw P B0 w0 b g I G ops i o.dst a w rest ks fs fun Z k=>(xT o.op).run e.T O.get G I (fun v=>k ⟨(kp o.dst).run I v,ds,O,G,Z⟩) (tW (kp o.dst).run e.low I ds O G Z k):=
 k_.yw (run:=fun m j=>(xT o.op).run e.T O.get G I m j) R.H R.hd p hw (.inr hr) (fun m j=>Ku R.ok.T R.ok.cl R.H u m j)
theorem Ky(R:LQ P ng e B0 w0 rec b g O G w ds a rn)(m:ops[i]?=some o)(hw:Region.wanted o (yielded ops a.tmps)=true)
 (p:vK g I a.eval o.op.operands.toList) (f:FuncId) (nt:Nat):
 uw P B0 w0 b g I G ops i o.dst a w rest ks fs fun Z k=>(qv o.op o.dst).run e rec ⟨f,nt,rn⟩ I ds O G Z k:=by
 cases j:o.op with
 |call c=>have:=WH (b:=b) (rest:=rest) (ks:=ks) (fs:=fs) R.ok R.nm R.ih R.H R.hg R.hd m hw j p ⟨f,nt,rn⟩;rw[j]at this;exact this
 |defer c=>have:=Um (P:=P) (rec:=rec) (e:=e) (rest:=rest) (ks:=ks) (fs:=fs) R.rn R.H R.hd m hw j p f nt;rw[j]at this;exact this
 |next it s=>
  cases s with
  |false=>have:=WI (P:=P) (b:=b) (rec:=rec) (e:=e) (rest:=rest) (ks:=ks) (fs:=fs) R.H R.hd m hw j p ⟨f,nt,rn⟩;rw[j]at this;exact this
  |true=>have:=MD (rest:=rest) (ks:=ks) (fs:=fs) R m hw (by rw[j];rfl) p;rw[j]at this;exact this
 |_=>have:=MD (rest:=rest) (ks:=ks) (fs:=fs) R m hw (by rw[j];rfl) p;rw[j]at this;exact this
theorem qx:∀(c:Nat) (l:List Oper),nP c l=l[c]?
 |_,[]=>by simp[nP]
 |0,x::xs=>by simp[nP]
 |c+1,x::xs=>by simp[nP,qx c xs]
def Bt(g:Gm)(ops:Array Oper)(I:Tm)(a:Act)(o:Oper):Prop:=
 ∀j wn,o.guard=some (j,wn)->∀b d,ops[j]?=some b->b.dst=some d->fP g (I.get d) (a.tmps.getD d undef)/\d<a.tmps.size
theorem Io{g:Gm}(e:Bt g ops I a o){j:Nat}{wn:Bool}(hg:o.guard=some (j,wn)){b:Oper}{d:Tmp}(hj:ops[j]?=some b)(hd:b.dst=some d):
 Region.wanted o (yielded ops a.tmps)=nD wn (I.get d):=by
 obtain⟨h1,D⟩:=e j wn hg b d hj hd
 have h3:a.tmps[d]?=some (a.tmps.getD d undef):=by simp[Array.getD,D]
 simp only[Region.wanted,hg,yielded,hj,hd,Option.bind_some,h3]
 generalize a.tmps.getD d undef=v' at h1
 generalize I.get d=v at h1
 cases h1<;>first|rfl|skip
 rename_i bb
 cases bb<;>cases wn<;>rfl
theorem Lk(R:LQ P ng e B0 w0 rec b g O G w ds a rn)(j:ops[i]?=some o)(hw:Region.wanted o (yielded ops a.tmps)=false):
 uw P B0 w0 b g I G ops i o.dst a w rest ks fs fun Z k=>k ⟨(kp o.dst).run I undef,ds,O,G,Z⟩:=
 fun k=>.here (.inr ⟨undef,ds,O,G,fun Z=>rfl,undef,a.defers,w,g,R.H,fP.undef g,R.hd,lR.refl _ _ _,.one (Ej j hw)⟩)
theorem Gz(R:LQ P ng e B0 w0 rec b g O G w ds a rn)(p:ops[i]?=some o)(y:vK g I a.eval o.op.operands.toList)(z:Bt g ops I a o)(f:FuncId)(nt:Nat):
 uw P B0 w0 b g I G ops i o.dst a w rest ks fs fun Z k=>(iQ ops.toList o).run e rec ⟨f,nt,rn⟩ I ds O G Z k:=by
 cases hg:o.guard with
 |none=>
  have hw:Region.wanted o (yielded ops a.tmps)=true:=by simp[Region.wanted,hg]
  have h0:iQ ops.toList o=qv o.op o.dst:=by
   obtain⟨dst,op,ty,pos,after,guard⟩:=o
   cases hg;rfl
  rw[h0]
  exact Ky R p hw y f nt
 |some A=>
  obtain⟨j,wn⟩:=A
  have h0:iQ ops.toList o=(match kL ops.toList j with
   |some g=>⟨fun e rec fm I ds O G Z k=>Bool.casesOn (nD wn (g.run I)) (k ⟨(kp o.dst).run I undef,ds,O,G,Z⟩) ((qv o.op o.dst).run e rec fm I ds O G Z k)⟩
   |none=>⟨fun _ _ _ _ _ _ _ _ _=>.gu 0⟩):=by
   obtain⟨dst,op,ty,pos,after,guard⟩:=o
   cases hg;rfl
  rw[h0]
  cases hj:ops[j]? with
  |none=>
   have:kL ops.toList j=none:=by simp[kL,qx,hj]
   rw[this]
   exact .fail fun Z k=>rfl
  |some B=>
   cases hd:B.dst with
   |none=>
    have:kL ops.toList j=none:=by simp[kL,qx,hj,hd,Cu]
    rw[this]
    exact .fail fun Z k=>rfl
   |some d=>
    have:kL ops.toList j=some (f_ (.tmp d)):=by simp[kL,qx,hj,hd,Cu]
    rw[this]
    have m:=Io z hg hj hd
    show uw P B0 w0 b g I G ops i o.dst a w rest ks fs fun Z k=>(Bool.casesOn (nD wn (I.get d)) (k ⟨(kp o.dst).run I undef,ds,O,G,Z⟩) ((qv o.op o.dst).run e rec ⟨f,nt,rn⟩ I ds O G Z k):XW (Nat×St))
    cases u:nD wn (I.get d)with
    |false=>exact Lk R p (m.trans u)
    |true=>exact Ky R p (m.trans u) y f nt
end
end
end Sw
namespace Sw
noncomputable section
open Go Go.RowKit
def Un(P:Program)(B0:Nat)(w0:World)(b:Frame)(nt:Nat)(g:Gm)(G:Nat)(ops:Array Oper)(l:List Nat)(a:Act)(w:World)(e:St)(ks:List Item)(fs:List Frame):Prop:=
 ∃a' w' g',vT B0 w0 g' nt e a' w'/\lR g G w g' e.G w'/\Steps P (lone (At b a (.inRegion ops l::ks)) fs w) (lone (At b a' (.inRegion ops []::ks)) fs w')
def wI(P:Program)(B0:Nat)(w0:World)(b:Frame)(nt:Nat)(g:Gm)(G:Nat)(ops:Array Oper)(l:List Nat)(a:Act)(w:World)(ks:List Item)(fs:List Frame)(r:List Nat->R):Prop:=
 me r fun e=>Ai e\/∃j,(∀Z,e Z=.ok (0,j.at Z))/\Un P B0 w0 b nt g G ops l a w j ks fs
section
variable {P:Program}{ng:Nat}{e:Env}{B0:Nat}{w0:World}{b:Frame}{nt:Nat}{g:Gm}{G:Nat}{a:Act}{w:World}{rec:Rec}{ops:Array Oper}{rn:Option Nat}{ks:List Item}{fs:List Frame}
theorem xC.mono{g g':Gm}(h:g.le g'){rn:Option Nat}(k:xC g b rn):xC g' b rn:=by
 cases rn with
 |none=>exact k
 |some l=>obtain⟨rl,h1,D⟩:=k;exact⟨rl,h1,h.1 _ _ D⟩
theorem OK{I:Tm}{o:Oper}(e:r_ g nt I a.tmps)(b:ops.toList.all (xc ng nt)=true):Bt g ops I a o:=by
 intro j wn _ m d hj hd
 have hm:m∈ops.toList:=by obtain⟨hi,rfl⟩:=gf.1 hj;simp
 have:=fO.1 b m hm
 unfold xc at this
 rw[Bool.and_eq_true]at this
 have D:=this.2
 rw[hd]at D
 have jH:@LT.lt Nat _ d nt:=fk D
 exact⟨e.2 d jH,by rw[e.1];exact jH⟩
theorem Kz(ok:mY P ng e)(nm:so P ng B0 w0 e)(ih:o5 P ng B0 w0 rec)(hn:nt<=512){rW:Nat}(y:ops.toList.all (xc rW nt)=true)(f:FuncId):
 ∀(n i:Nat) (s:St) (a:Act) (w:World) (g:Gm),i+n=ops.size->vT B0 w0 g nt s a w->lv g ng->lv g rW->xC g b rn->
  wI P B0 w0 b nt g s.G ops (List.range' i n) a w ks fs fun Z=>wG (g_ ops.toList (ops.toList.drop i)) e rec ⟨f,nt,rn⟩ (s.at Z)
 |0,i,s,a,w,g,hi,S,_,_,_=>by
  have:ops.toList.drop i=[]:=by simp;omega
  rw[this]
  exact .here (.inr ⟨s,fun Z=>rfl,a,w,g,S,lR.refl _ _ _,.refl ..⟩)
 |n+1,i,s,a,w,g,hi,S,hg,A,B=>by
  have jH:i<ops.size:=by omega
  have z:ops.toList.drop i=ops[i]::ops.toList.drop (i+1):=by
   rw[List.drop_eq_getElem_cons (by simpa using jH)];simp
  have N:ops[i]?=some ops[i]:=gA jH
  have o:=fO.1 y ops[i] (by simp)
  unfold xc at o
  rw[Bool.and_eq_true]at o
  rw[z]
  have m:(fun Z=>wG (g_ ops.toList (ops[i]::ops.toList.drop (i+1))) e rec ⟨f,nt,rn⟩ (s.at Z))=fun Z=>(iQ ops.toList ops[i]).run e rec ⟨f,nt,rn⟩ s.I s.ds s.O s.G Z fun s=>wG (g_ ops.toList (ops.toList.drop (i+1))) e rec ⟨f,nt,rn⟩ s:=by
   funext Z;rfl
  rw[m]
  have yw:=Gz (I:=s.I) (i:=i) (ops:=ops) (rn:=rn) (rest:=List.range' (i+1) n) (ks:=ks) (fs:=fs) (R:=⟨ok,nm,ih,S.heap,hg,S.act.2,B⟩) N (RT S.act.1 A o.1) (OK S.act.1 y) f nt
  refine(yw _).bind fun f' h=>?_
  rcases h with h|⟨v,u,e9,e_,h,st⟩
  · exact .dead h
  · have E:=st
    obtain⟨v',j,w1,g1,H1,M,C,p,st1⟩:=E
    have L:r_ g1 nt ((kp ops[i].dst).run s.I v) ({a with defers:=j}.put ops[i].dst v').tmps:=
     r_.put (a:={a with defers:=j}) (S.act.1.mono p.ext.le) hn o.2 M
    have C:nK g1 u ({a with defers:=j}.put ops[i].dst v').defers:=by rw[put_defers];exact C
    have J:vT B0 w0 g1 nt ⟨(kp ops[i].dst).run s.I v,u,e9,e_,[]⟩ ({a with defers:=j}.put ops[i].dst v') w1:=⟨H1,L,C⟩
    have m:f'=fun Z=>wG (g_ ops.toList (ops.toList.drop (i+1))) e rec ⟨f,nt,rn⟩ ((⟨(kp ops[i].dst).run s.I v,u,e9,e_,[]⟩:St).at Z):=funext h
    rw[m]
    refine(Kz ok nm ih hn y f n (i+1) _ _ w1 g1 (by omega) J (hg.mono p.ext.le) (A.mono p.ext.le) (B.mono p.ext.le)).mono fun X h=>?_
    rcases h with h|⟨s2,h,a2,W,g2,K,F,st2⟩
    · exact .inl h
    · refine .inr ⟨s2,h,a2,W,g2,K,p.trans F,?_⟩
      rw[List.range'_succ]
      exact st1.trans st2
theorem OL(ok:mY P ng e)(nm:so P ng B0 w0 e)(ih:o5 P ng B0 w0 rec)(hn:nt<=512){rW:Nat}(m:ops.toList.all (xc rW nt)=true)(f:FuncId)(id:Nat){s:St}(S:vT B0 w0 g nt s a w)(hg:lv g ng)(j:lv g rW)(o:xC g b rn):
 vA P B0 w0 b nt g s.G (.region id ops false) a w ks fs fun Z=>wG (g_ ops.toList ops.toList) e rec ⟨f,nt,rn⟩ (s.at Z):=by
 have h:=Kz (ks:=ks) (fs:=fs) ok nm ih hn m f ops.size 0 s a w g (by omega) S hg j o
 rw[List.drop_zero]at h
 refine h.mono fun f' h=>?_
 rcases h with h|⟨u,h,a',w',g',S',p,st⟩
 · exact .inl h
 · refine .inr ⟨0,u,h,a',w',g',S',p,ks,rfl,?_⟩
   have:=(Steps.one (E6 (P:=P) (b:=b) (a:=a) (w:=w) (k:=ks) (Z:=fs) (id:=id) (ops:=ops))).trans (by rw[List.range_eq_range'];exact st)
   exact this.trans (.one yu)
end
end
end Sw
namespace Sw
noncomputable section
open Go Go.RowKit
section
variable {P:Program}{ng:Nat}{e:Env}{B0:Nat}{w0:World}{b:Frame}{nt:Nat}{g:Gm}{G:Nat}{a:Act}{w:World}{rec:Rec}{rn:Option Nat}{O:Ht}
theorem ME(H:gx B0 w0 g O.get G w){I:Tm}{tmps:Array Value}(p:r_ g nt I tmps)(hn:nt<=512){f:FuncId}{ps:Array Tmp}{oP body:Code}(o:sn g nt oP)(hb:sn g nt body)(m:ps.toList.all (Nat.blt · nt)=true){e b:Nat}(j:g.ga e=some (b,0)):
 gx B0 w0 (g.add G (w.heap.size,0) none) (O.set G (some (.loop ⟨.ready,none,f,I,nt,ps.toList,oP,body,e⟩))).get (G+1) (w.alloc (.loop {state:=.ready,pending:=none,fn:=f,tmps:=tmps,params:=ps,assign:=oP,body:=body,defers:=b}))/\
 lR g G w (g.add G (w.heap.size,0) none) (G+1) (w.alloc (.loop {state:=.ready,pending:=none,fn:=f,tmps:=tmps,params:=ps,assign:=oP,body:=body,defers:=b}))/\
 (g.add G (w.heap.size,0) none).ga G=some (w.heap.size,0):=by
 have F:=H.fresh (fg G)
 have hle:=Gm.rq F.ga (w.heap.size,0) none
 refine⟨?_,lR.alloc (fg _) (by omega) F.ga _ _,Gm.ma _ _ _ _⟩
 rw[Tr.oh]
 refine H.alloc F.ga F.room F.O (fh _) (fo _) _ _ none rfl ⟨rfl,H.base,rfl,rfl,rfl,p.mono hle,rfl,rfl,rfl,hle.1 _ _ j,hn,o.mono hle,hb.mono hle,m⟩ (fun _ _ _ h=>by cases h)
theorem MF(H:gx B0 w0 g O.get G w):
 gx B0 w0 (g.add G (w.heap.size,0) none) (O.set G (some (.deferred (some [])))).get (G+1) (w.alloc (.deferred (some [])))/\lR g G w (g.add G (w.heap.size,0) none) (G+1) (w.alloc (.deferred (some [])))/\
 (g.add G (w.heap.size,0) none).ga G=some (w.heap.size,0):=by
 have F:=H.fresh (fg G)
 refine⟨?_,lR.alloc (fg _) (by omega) F.ga _ _,Gm.ma _ _ _ _⟩
 rw[Tr.oh]
 exact H.alloc F.ga F.room F.O (fh _) (fo _) _ _ none rfl ⟨rfl,H.base,rfl,fun i d d' h=>by simp at h⟩ (fun _ _ _ h=>by cases h)
def Ff(b:Frame)(a:Act)(l:Nat)(mark:List Deferred)(k:List Item):Frame:={At b a (.inRangeFunc l::k)with defers:=mark++a.defers}
theorem Ip(a:Act)(f:Operand)(l:Nat)(x:TypeId)(ρ:Operand->Value)(b:ρ f=a.eval f)(hc:∀v,ρ (.const v)=v):
 (do let d<-resolve ρ ({callee:=.value f,args:=#[.const (.func (.yield l) #[] #[])],argTypes:=#[]}:Call) x;invoke d.target d.args:Sem Next)=A8 (a.eval f) #[.func (.yield l) #[] #[]]:=by
 simp only[resolve,A8,b,List.map_toArray,List.map_cons,List.map_nil,hc]
theorem MG{f:Operand}{params:Array Tmp}{assign body:Code}{k:List Item}{Z:List Frame}{l:Nat}{mark:List Deferred}{w1:World}{e:Next}{m:Frame}
 (h:(Instr.enterLoop b.fn a.tmps params assign body b.roundOf).run P w=.ok (l,mark) w1) (hs:(A8 (a.eval f) #[.func (.yield l) #[] #[]]).run P w1=.ok e w1) (hc:Ho P e=some m):
 step P (lone (At b a (.code (.rangeFunc f params assign body)::k)) Z w)=.next (lone m (Ff b a l mark k::Z) w1):=by
 refine step_lone_go ?_
 have e1:(Frame.eval {At b a (.inRangeFunc l::k)with defers:=mark++a.defers} f)=a.eval f:=by cases f<;>rfl
 have hr:=Ip a f l 0 (Frame.eval {At b a (.inRangeFunc l::k)with defers:=mark++a.defers}) e1 (fun _=>rfl)
 have o:(do let d<-resolve (Frame.eval {At b a (.inRangeFunc l::k)with defers:=mark++a.defers}) ({callee:=.value f,args:=#[.const (.func (.yield l) #[] #[])],argTypes:=#[]}:Call) 0;invoke d.target d.args:Sem Next).run P w1=.ok e w1:=by rw[hr];exact hs
 simp only[At]at o
 have j:=o
 rw[Sem.run_bind]at j
 cases e<;>first|(cases hc;done)|skip
 · cases hc
   simp[stepG,stepG.exec,At,h,stepG.apply,Ff]
   simp[j]
 · cases hc
   simp[stepG,stepG.exec,At,h,stepG.apply,Ff]
   simp[j]
theorem Iq{l:Nat}{r:Loop}{k:List Item}{Z:List Frame}(h:w.heap[l]?=some (.loop r))(hs:r.state≠.busy):
 step P (lone (At b a (.endRangeFunc l::k)) Z w)=.next (lone (At b a ((r.pending.map Item.code).toList++k)) Z (w.putObj l (.loop {r with state:=.exhausted}))):=by
 have e:(Instr.endLoop l).run P w=.ok r.pending (w.putObj l (.loop {r with state:=.exhausted})):=by
  unfold Instr.endLoop
  rw[ft (run_getLoop h)]
  have:(r.state==LoopState.busy)=false:=by simpa using hs
  simp only[this]
  rw[if_neg (by simp),ft (qt _ h JB)];rfl
 refine step_lone_go ?_
 simp[stepG,stepG.exec,At,e]
theorem QB{c:Option Code}{o:Nat}(h:AL c=some o)(k:List Item):Ends o k ((c.map Item.code).toList++k):=by
 cases c with
 |none=>cases h;rfl
 |some c=>
  cases c<;>first|(cases h;done)|skip
  · cases h;exact⟨[],rfl,trivial⟩
  · cases h;exact⟨k,rfl⟩
end
end
end Sw
namespace Sw
noncomputable section
open Go Go.RowKit
section
variable {P:Program}{ng:Nat}{e:Env}{B0:Nat}{w0:World}{b:Frame}{nt:Nat}{g:Gm}{G:Nat}{a:Act}{w:World}{rec:Rec}{rn:Option Nat}{O:Ht}{ks:List Item}{fs:List Frame}
def Fg(e:Env)(rec:Rec)(fv:Value)(I:Tm)(ds mark:List Deferred)(l:Nat)(h:Ht)(n:Nat)(Z:List Nat):R:=
 B2 e rec fv [.func (.yield l) #[] #[]] h n Z (fun _ O G Z=>match O.get l with
  |some (.loop r)=>(match r.state with
   |.busy=>.gu 0
   |_=>(match AL r.pending with
    |some o=>.ok (o,⟨I,mark++ds,O.set l (some (.loop {r with state:=.exhausted})),G,Z⟩)
    |none=>.gu 0))
  |_=>.gu 0)
theorem GA(ok:mY P ng e)(nm:so P ng B0 w0 e)(ih:o5 P ng B0 w0 rec){f:Operand}{params:Array Tmp}{assign body:Code}{I:Tm}{ds mark zC:List Deferred}{h:Ht}{w1:World}{g1:Gm}{l rl:Nat}{J:Nat}
 (hg:lv g1 ng) (af:r_ g nt I a.tmps) (hd:nK g1 ds a.defers) (hm:nK g1 mark zC) (R:fP g ((f_ f).run I) (a.eval f)) (H1:gx B0 w0 g1 h.get J w1) (A:lR g G w g1 J w1) (hl:g1.ga l=some (rl,0))
 (N:(Instr.enterLoop b.fn a.tmps params assign body b.roundOf).run P w=.ok (rl,zC) w1):
 vA P B0 w0 b nt g G (.rangeFunc f params assign body) a w ks fs fun Z=>Fg e rec ((f_ f).run I) I ds mark l h J Z:=by
 have B:gZ g1 [.func (.yield l) #[] #[]] (#[.func (.yield rl) #[] #[]]:Array Value).toList:=gZ.cons (.A0 hl) (gZ.nil g1)
 refine(Il (c:=Ff b a rl zC ks) (fs:=fs) ok nm ih H1 hg (R.mono A.ext.le) B _).mono fun f' hf=>?_
 rcases hf with hf|⟨v,e9,e_,hf,ai,hs,v',aa,g2,ah,L,aj,p,hc,st⟩
 · exact .inl hf
 · have u:=p.ext.le.1 _ _ hl
   cases hr:e9.get l with
   |none=>exact .inl fun Z=>⟨0,by rw[hf,hr]⟩
   |some ob=>
    cases ob<;>first|(refine .inl ?_;intro Z;refine⟨0,?_⟩;rw[hf,hr];done)|skip
    rename_i r
    obtain⟨K,_,S,M,C⟩:=L.Fc hr u
    have E:r.state≠.busy->∀o,AL r.pending=some o->(∀Z,f' Z=.ok (o,(⟨I,mark++ds,e9.set l (some (.loop {r with state:=.exhausted})),e_,[]⟩:St).at Z))->
     Ai f'\/∃o X,(∀Z,f' Z=.ok (o,X.at Z))/\jL P B0 w0 b nt g G (.rangeFunc f params assign body) a w o X ks fs:=by
     intro j o y hf
     refine .inr ⟨o,_,hf,?_⟩
     have ad:=L.JC hr u M (C.Kx .exhausted)
     have ab:lR g2 e_ aa g2 e_ (aa.putObj rl (.loop {K with state:=.exhausted})):=lR.putObj u _
     have ae:=af.mono (A.ext.le.1|>fun _=>(Gm.le_trans A.ext.le p.ext.le))
     refine⟨⟨a.tmps,zC++a.defers⟩,_,g2,⟨ad,ae,?_⟩,(A.trans p).trans ab,?_⟩
     · have z:=hm.mono p.ext.le
       have W:=hd.mono p.ext.le
       refine⟨by simp[z.1,W.1],fun i d d' e m=>?_⟩
       have e:(mark++ds)[i]?=some d:=e
       have m:(zC++a.defers)[i]?=some d':=m
       rw[List.getElem?_append]at e m
       by_cases hi:i<mark.length
       · rw[if_pos hi]at e;rw[if_pos (z.1▸hi)]at m;exact z.2 i d d' e m
       · rw[if_neg hi]at e;rw[if_neg (z.1▸hi)]at m;rw[<-z.1]at m;exact W.2 _ d d' e m
     · refine⟨(K.pending.map Item.code).toList++ks,?_,?_⟩
       · rw[<-C.2.1];exact QB y ks
       · have F:K.state≠.busy:=by rw[<-C.1];exact j
         have s1:=Steps.one (MG (k:=ks) (Z:=fs) N hs hc)
         have s2:=st
         have e1:(Ff b a rl zC ks).finish v'=At b ⟨a.tmps,zC++a.defers⟩ (.endRangeFunc rl::ks):=rfl
         rw[e1]at s2
         have ag:=Steps.one (Iq (P:=P) (b:=b) (a:=⟨a.tmps,zC++a.defers⟩) (k:=ks) (Z:=fs) S F)
         exact(s1.trans s2).trans ag
    cases j:r.state with
    |busy=>exact .inl fun Z=>⟨0,by rw[hf,hr];simp[j]⟩
    |_=>
     cases y:AL r.pending with
     |none=>exact .inl fun Z=>⟨0,by rw[hf,hr];simp[j,y]⟩
     |some o=>exact E (by rw[j];intro k;cases k) o y fun Z=>by rw[hf,hr];simp[j,y,St.at]
theorem WJ(e:Env)(rec:Rec)(f:Operand)(params:Array Tmp)(assign body:Code)(fn:FuncId)(nt:Nat)(rn:Option Nat)(s:St):vJ (.rangeFunc f params assign body) e rec ⟨fn,nt,rn⟩ s=(match (match rn with
 |none=>some (s.G,s.G+1,s.O.set s.G (some (.deferred (some []))),[(⟨.collected s.G,#[]⟩:Deferred)])
 |some l=>(match s.O.get l with
  |some (.loop r)=>some (r.defers,s.G,s.O,[])
  |_=>none))with
 |some (b,l,h,mark)=>Fg e rec ((f_ f).run s.I) s.I s.ds mark l (h.set l (some (.loop ⟨.ready,none,fn,s.I,nt,params.toList,assign,body,b⟩))) (l+1) s.Z
 |none=>.gu 0):=by cases rn<;>rfl
theorem QC(ok:mY P ng e)(nm:so P ng B0 w0 e)(ih:o5 P ng B0 w0 rec)(hn:nt<=512){f:Operand}{params:Array Tmp}{assign body:Code}(M:sn g nt (.rangeFunc f params assign body)){s:St}(S:vT B0 w0 g nt s a w)
 (hg:lv g ng) (j:xC g b rn):
 vA P B0 w0 b nt g s.G (.rangeFunc f params assign body) a w ks fs fun Z=>vJ (.rangeFunc f params assign body) e rec ⟨b.fn,nt,rn⟩ (s.at Z):=by
 obtain⟨rW,m,hc⟩:=M
 unfold codeOk at hc
 rw[Bool.and_eq_true,Bool.and_eq_true,Bool.and_eq_true]at hc
 obtain⟨c1,c2,B,c4⟩:=hc
 have y:=Hl S.act.1 m c1
 have h0:(fun Z=>vJ (.rangeFunc f params assign body) e rec ⟨b.fn,nt,rn⟩ (s.at Z))=fun Z=>_:=funext fun Z=>WJ e rec f params assign body b.fn nt rn (s.at Z)
 rw[h0]
 cases rn with
 |none=>
  obtain⟨H1,p,m1⟩:=MF S.heap
  obtain⟨z,o,m2⟩:=ME (f:=b.fn) H1 (S.act.1.mono p.ext.le) hn (oP:=assign) (body:=body) (ps:=params) ⟨rW,m.mono p.ext.le,B⟩ ⟨rW,m.mono p.ext.le,c4⟩ c2 m1
  have j:b.roundOf=none:=j
  have E:=p.trans o
  show vA P B0 w0 b nt g s.G (.rangeFunc f params assign body) a w ks fs fun Z=>Fg e rec ((f_ f).run s.I) s.I s.ds [⟨.collected s.G,#[]⟩] (s.G+1) ((s.O.set s.G (some (.deferred (some [])))).set (s.G+1) (some (.loop ⟨.ready,none,b.fn,s.I,nt,params.toList,assign,body,s.G⟩))) (s.G+1+1) Z
  refine GA ok nm ih (zC:=[⟨.collected w.heap.size,#[]⟩]) (hg.mono E.ext.le) S.act.1 (S.act.2.mono E.ext.le) ?_ y z E m2 ?_
  · have u:Cm ((g.add s.G (w.heap.size,0) none).add (s.G+1) ((w.alloc (.deferred (some []))).heap.size,0) none) ⟨.collected s.G,#[]⟩ ⟨.collected w.heap.size,#[]⟩:=.G2 (o.ext.le.1 _ _ m1)
    refine⟨rfl,fun i d d' e C=>?_⟩
    cases i with
    |zero=>simp at e C;subst e;subst C;exact u
    |succ i=>simp at e
  · rw[j];rfl
 |some N=>
  obtain⟨X,j,K⟩:=j
  cases hr:s.O.get N with
  |none=>exact .dead fun Z=>⟨0,by simp[St.at,hr]⟩
  |some ob=>
   cases ob<;>first|(refine .dead ?_;intro Z;refine⟨0,?_⟩;simp[St.at,hr];done)|skip
   rename_i r
   obtain⟨W,_,hw,aa,L⟩:=S.heap.Fc hr K
   have F:g.ga r.defers=some (W.defers,0):=L.2.2.2.2.2.2.2.1
   obtain⟨z,o,m2⟩:=ME (f:=b.fn) S.heap S.act.1 hn (oP:=assign) (body:=body) (ps:=params) ⟨rW,m,B⟩ ⟨rW,m,c4⟩ c2 F
   have A:(fun Z=>(match (match (some N:Option Nat)with
    |none=>some ((s.at Z).G,(s.at Z).G+1,(s.at Z).O.set (s.at Z).G (some (.deferred (some []))),[(⟨.collected (s.at Z).G,#[]⟩:Deferred)])
    |some l=>(match (s.at Z).O.get l with
     |some (.loop r)=>some (r.defers,(s.at Z).G,(s.at Z).O,[])
     |_=>none))with
     |some (R,l,h,mark)=>Fg e rec ((f_ f).run (s.at Z).I) (s.at Z).I (s.at Z).ds mark l (h.set l (some (.loop ⟨.ready,none,b.fn,(s.at Z).I,nt,params.toList,assign,body,R⟩))) (l+1) (s.at Z).Z
     |none=>.gu 0))=fun Z=>Fg e rec ((f_ f).run s.I) s.I s.ds [] s.G (s.O.set s.G (some (.loop ⟨.ready,none,b.fn,s.I,nt,params.toList,assign,body,r.defers⟩))) (s.G+1) Z:=by
    funext Z;simp[St.at,hr]
   rw[A]
   refine GA ok nm ih (zC:=[]) (hg.mono o.ext.le) S.act.1 (S.act.2.mono o.ext.le) ⟨rfl,fun i d d' e=>by simp at e⟩ y z o m2 ?_
   rw[j]
   unfold Instr.enterLoop
   simp only
   have J:=run_getLoop (P:=P) hw
   rw[ft J]
   rfl
end
end
end Sw
namespace Sw
noncomputable section
open Go Go.RowKit
theorem beq_eq{a b:Nat}(h:Nat.beq a b=true):a=b:=fC h
theorem tH{f:Value->Value->Bool}(hf:∀a b,f a b=true->a=b):∀x y:List Value,uU f x y=true->x=y
 |[],[],_=>rfl
 |a::x,b::y,h=>by
  simp only[uU,Bool.and_eq_true]at h
  rw[hf a b h.1,tH hf x y h.2]
 |[],_::_,h=>by cases h
 |_::_,[],h=>by cases h
theorem B4:∀(n:Nat) (a b:Value),lx n a b=true->a=b:=by
 intro n
 induction n with
 |zero=>
  intro a b h
  unfold lx at h
  split at h<;>first|(cases h;done)|rfl|skip
  · rename_i a b;cases a<;>cases b<;>first|rfl|cases h
  · rw[Bool.and_eq_true]at h;rw[vR h.1,lS.1 h.2]
  · rw[xg]at h;exact congrArg Value.string (Bp (by simpa using h))
  · rw[Bool.and_eq_true]at h;rw[beq_eq h.1,beq_eq h.2]
  · rw[Bool.and_eq_true]at h;rw[beq_eq h.1,beq_eq h.2]
  · rw[Bool.and_eq_true,Bool.and_eq_true,Bool.and_eq_true]at h;rw[beq_eq h.1,beq_eq h.2.1,beq_eq h.2.2.1,beq_eq h.2.2.2]
  · rw[beq_eq h]
  all_goals (rename_i h0;exact absurd h0 (by simp))
 |succ n ih=>
  intro a b h
  unfold lx at h
  split at h<;>first|(cases h;done)|rfl|skip
  · rename_i a b;cases a<;>cases b<;>first|rfl|cases h
  · rw[Bool.and_eq_true]at h;rw[vR h.1,lS.1 h.2]
  · rw[xg]at h;exact congrArg Value.string (Bp (by simpa using h))
  · rw[Bool.and_eq_true]at h;rw[beq_eq h.1,beq_eq h.2]
  · rw[Bool.and_eq_true]at h;rw[beq_eq h.1,beq_eq h.2]
  · rw[Bool.and_eq_true,Bool.and_eq_true,Bool.and_eq_true]at h;rw[beq_eq h.1,beq_eq h.2.1,beq_eq h.2.2.1,beq_eq h.2.2.2]
  · rw[beq_eq h]
  · rename_i hm
    cases hm
    rw[Bool.and_eq_true,Bool.and_eq_true]at h
    rw[beq_eq h.1,Array.toList_inj.1 (tH ih _ _ h.2.1),Array.toList_inj.1 (tH ih _ _ h.2.2)]
  · rename_i hm
    cases hm
    rw[Bool.and_eq_true,Bool.and_eq_true]at h
    rw[beq_eq h.1,Array.toList_inj.1 (tH ih _ _ h.2.1),Array.toList_inj.1 (tH ih _ _ h.2.2)]
  · rename_i hm
    cases hm
    rw[Bool.and_eq_true]at h;rw[beq_eq h.1,ih _ _ h.2]
  · rename_i hm
    cases hm
    rw[Array.toList_inj.1 (tH ih _ _ h)]
  · rename_i hm
    cases hm
    rw[Array.toList_inj.1 (tH ih _ _ h)]
def rH(run:K1->K2->R):Prop:=(∀b e,∃m,run b e=.gu m)\/∃v,∀b e,run b e=b v
theorem rH.mq(o:Option Value):rH fun b _=>kQ o b:=by
 cases o with
 |none=>exact .inl fun _ _=>⟨0,rfl⟩
 |some v=>exact .inr ⟨v,fun _ _=>rfl⟩
theorem rH.fail:rH fun _ _=>.gu 0:=.inl fun _ _=>⟨0,rfl⟩
theorem rH.val(v:Value):rH fun b _=>b v:=.inr ⟨v,fun _ _=>rfl⟩
theorem KA{op:Op}(h:qp op=0)(hc:∀c,op≠.call c)(T:Ty)(O:Hp)(n:Nat)(I:Tm):rH ((xT op).run T O n I):=by
 cases op<;>first
  |(simp[qp]at h;done)
  |exact absurd rfl (hc _)
  |exact rH.val _
  |exact rH.mq _
  |exact rH.fail
theorem Hq{c:Call}(h:qp (.call c)=0):∃b,c.callee=.builtin b/\∀(T:Ty) (O:Hp) (n:Nat) (ts:List TypeId) (l:List Value),rH (bi b T O n ts l):=by
 simp only[qp]at h
 split at h<;>first|(cases h;done)|skip
 all_goals (rename_i hc;refine⟨_,hc,fun T O n ts l=>?_⟩)
 · cases ts<;>cases l<;>first|exact rH.fail|exact rH.mq _
 · cases ts<;>cases l<;>first|exact rH.fail|exact rH.mq _
 · exact rH.mq _
 · exact rH.mq _
def Ir(n:Nat)(run:K1->K2->R):Prop:=(∀e b,∃m,run e b=.gu m)\/∃v Z,w5 v=some n/\∀e b,run e b=b (v,[(n,some (.cells Z gm.plain))],1)
theorem KB{op:Op}(h:qp op=1)(T:Ty)(n:Nat)(I:Tm):∀O:Hp,Ir n ((xT op).run T O n I):=by
 cases op<;>first|(simp[qp]at h;done)|skip
 · rename_i el
   intro O
   show Ir n fun j b=>(match T.zero el with|some z=>b (Co n z.cells.toList)|none=>.gu 0)
   cases T.zero el with
   |none=>exact .inl fun _ _=>⟨0,rfl⟩
   |some z=>exact .inr ⟨_,_,rfl,fun _ _=>rfl⟩
 · intro O
   exact .inr ⟨_,_,rfl,fun _ _=>rfl⟩
 · rename_i t len ps
   intro O
   show Ir n fun j b=>qO (qY T t len (tV (zz ps.toList) I) n) b
   cases he:qY T t len (tV (zz ps.toList) I) n with
   |none=>exact .inl fun _ _=>⟨0,rfl⟩
   |some f=>
    unfold qY at he
    split at he
    · split at he
      · rename_i s z _ _
        cases hb:(Nat.ble (len*s) 16777216&&Nat.beq z.cells.toList.length s)with
        |false=>rw[hb]at he;cases he
        |true=>
         rw[hb]at he
         obtain⟨c,_,rfl⟩:=fI.1 he
         exact .inr ⟨_,_,rfl,fun _ _=>rfl⟩
      · cases he
    · cases he
 · rename_i t l c
   intro O
   show Ir n fun j b=>qO (wE T t ((f_ l).run I) ((f_ c).run I) n) b
   cases he:wE T t ((f_ l).run I) ((f_ c).run I) n with
   |none=>exact .inl fun _ _=>⟨0,rfl⟩
   |some f=>
    unfold wE at he
    split at he
    · split at he
      · split at he
        · rename_i u m o e _ _ _ _ inf pI _ z p
          cases hb:(Nat.ble m e&&(Nat.ble (e*inf.bytes) 1099511627776&&Nat.blt e 2147483648))with
          |false=>rw[hb]at he;cases he
          |true=>
           rw[hb]at he
           cases he
           exact .inr ⟨_,_,rfl,fun _ _=>rfl⟩
        · cases he
      · cases he
    · cases he
 · exfalso;simp only[qp]at h;split at h<;>cases h
theorem R0{op:Op}(h:qp op=1)(T:Ty)(n:Nat)(I:Tm)(O e9:Hp):(xT op).run T O n I=(xT op).run T e9 n I:=by
 cases op<;>first|(simp[qp]at h;done)|rfl
variable {fl:Bool}
theorem DK{op:Op}(h:kO fl op=1):qp op=1/\(fl&&pX op)=false:=by
 unfold kO at h
 cases hb:(fl&&pX op)with
 |true=>rw[hb]at h;cases h
 |false=>rw[hb]at h;exact⟨h,rfl⟩
theorem Cx{op:Op}(h:kO fl op=0):(fl&&pX op)=true\/(qp op=0/\(fl&&pX op)=false):=by
 unfold kO at h
 cases hb:(fl&&pX op)with
 |true=>exact .inl rfl
 |false=>rw[hb]at h;exact .inr ⟨h,rfl⟩
theorem QD{op:Op}(h:kO fl op=2):qp op=2/\(fl&&pX op)=false:=by
 unfold kO at h
 cases hb:(fl&&pX op)with
 |true=>rw[hb]at h;cases h
 |false=>rw[hb]at h;exact⟨h,rfl⟩
theorem Cy{op:Op}(h:(fl&&pX op)=true)(T:Ty)(O:Hp)(n:Nat)(I:Tm):(∀b,∃m,(B3 op).run T O n I b=.gu m)\/
 ∃v,(∀b,(B3 op).run T O n I b=b v)/\∀b e,(xT op).run T O n I b e=e (v,[],0):=by
 rw[Bool.and_eq_true]at h
 replace h:=h.2
 cases op<;>first|(cases h;done)|skip
 rename_i s d x
 have e1:∀b,(B3 (.convert s d x)).run T O n I b=V9 (uS T O s d ((f_ x).run I) n) b:=fun b=>rfl
 have e2:∀b e,(xT (.convert s d x)).run T O n I b e=qO (uS T O s d ((f_ x).run I) n) e:=fun b e=>rfl
 rcases hE:uS T O s d ((f_ x).run I) n with _|⟨v,_|_,_|_⟩
 · exact .inl fun b=>⟨0,by rw[e1,hE];rfl⟩
 · exact .inr ⟨v,fun b=>by rw[e1,hE];rfl,fun b e=>by rw[e2,hE];rfl⟩
 all_goals exact .inl fun b=>⟨0,by rw[e1,hE];rfl⟩
end
end Sw
namespace Sw
noncomputable section
open Go Go.RowKit
section
variable {fl:Bool}{e:Env}{rec:Rec}{fm:Fm}{I:Tm}{ds:List Deferred}{O:Ht}{G:Nat}
theorem Is{op:Op}(hc:qp op≠2)(hn:∀c,op≠.call c)(dst:Option Nat):qv op dst=⟨fun e _ _ I ds O G Z k=>(xT op).run e.T O.get G I (fun v=>k ⟨(kp dst).run I v,ds,O,G,Z⟩) (tW (kp dst).run e.low I ds O G Z k)⟩:=by
 cases op<;>first|rfl|exact absurd rfl (hn _)|(exact absurd rfl hc)
theorem DL{op:Op}(hn:∀c,op≠.call c):y_ op=⟨fun T O n I b=>(xT op).run T O n I b (fun _=>.gu 0)⟩:=by
 cases op<;>first|rfl|exact absurd rfl (hn _)
theorem MH(op:Op):(∃c,op=.call c)\/∀c,op≠.call c:=by
 cases op<;>first|exact .inl ⟨_,rfl⟩|exact .inr fun c h=>by cases h
theorem Uo{op:Op}(h:qp op=0)(dst:Option Nat)(e:Env)(rec:Rec)(fm:Fm)(I:Tm)(ds:List Deferred)(O:Ht)(G:Nat):
 (∀Z k,∃m,(qv op dst).run e rec fm I ds O G Z k=.gu m)\/
 ∃v,(∀Z k,(qv op dst).run e rec fm I ds O G Z k=k ⟨(kp dst).run I v,ds,O,G,Z⟩)/\∀j,(y_ op).run e.T O.get G I j=j v:=by
 rcases MH op with⟨c,rfl⟩|hn
 · obtain⟨b,hb,hg⟩:=Hq h
   have h1:∀Z k,(qv (.call c) dst).run e rec fm I ds O G Z k=bi b e.T O.get G c.argTypes.toList (runs (tk c.args.toList) I) (fun v=>k ⟨(kp dst).run I v,ds,O,G,Z⟩) (tW (kp dst).run e.low I ds O G Z k):=by
    intro Z k;simp only[qv,hb];rfl
   have D:∀j,(y_ (.call c)).run e.T O.get G I j=bi b e.T O.get G c.argTypes.toList (runs (tk c.args.toList) I) j (fun _=>.gu 0):=by
    intro j;simp only[y_,hb]
   rcases hg e.T O.get G c.argTypes.toList (runs (tk c.args.toList) I)with g|⟨v,g⟩
   · exact .inl fun Z k=>by rw[h1];exact g _ _
   · exact .inr ⟨v,fun Z k=>by rw[h1,g],fun j=>by rw[D,g]⟩
 · have h1:=Is (by rw[h];decide) hn dst
   have D:=DL hn
   rw[h1,D]
   rcases KA h hn e.T O.get G I with g|⟨v,g⟩
   · exact .inl fun Z k=>g _ _
   · exact .inr ⟨v,fun Z k=>by simp only[g],fun j=>by simp only[g]⟩
theorem R1{op:Op}(h:qp op=1)(dst:Option Nat)(e:Env)(rec:Rec)(fm:Fm)(I:Tm)(ds:List Deferred)(O:Ht)(G:Nat):
 (∀Z k,∃m,(qv op dst).run e rec fm I ds O G Z k=.gu m)\/
 ∃v cells,w5 v=some G/\(∀Z k,(qv op dst).run e rec fm I ds O G Z k=k ⟨(kp dst).run I v,ds,O.set G (some (.cells cells gm.plain)),G+1,Z⟩):=by
 have hn:∀c,op≠.call c:=fun c hc=>by subst hc;simp only[qp]at h;split at h<;>cases h
 have h1:=Is (by rw[h];decide) hn dst
 rw[h1]
 rcases KB h e.T G I O.get with g|⟨v,cells,b,g⟩
 · exact .inl fun Z k=>g _ _
 · cases hb:Nat.ble e.low G with
   |false=>exact .inl fun Z k=>⟨0,by simp only[g,tW,Ah,hb,cond_false]⟩
   |true=>exact .inr ⟨v,cells,b,fun Z k=>by simp only[g,tW,Ah,hb,cond_true]⟩
def uV(fl:Bool)(op:Op)(dst:Option Nat):Cl:=bif fl&&pX op then E4 op dst else qv op dst
theorem R2{op:Op}(h:kO fl op=0)(dst:Option Nat)(e:Env)(rec:Rec)(fm:Fm)(I:Tm)(ds:List Deferred)(O:Ht)(G:Nat):
 (∀Z k,∃m,(uV fl op dst).run e rec fm I ds O G Z k=.gu m)\/
 ∃v,(∀Z k,(uV fl op dst).run e rec fm I ds O G Z k=k ⟨(kp dst).run I v,ds,O,G,Z⟩)/\∀b,(vz fl op).run e.T O.get G I b=b v:=by
 rcases Cx h with hb|⟨h0,hb⟩
 · have e1:uV fl op dst=E4 op dst:=by unfold uV;rw[hb];rfl
   have e2:vz fl op=B3 op:=by unfold vz;rw[hb];rfl
   rw[e1,e2]
   rcases Cy hb e.T O.get G I with g|⟨v,g,_⟩
   · exact .inl fun Z k=>g _
   · exact .inr ⟨v,fun Z k=>g _,g⟩
 · have e1:uV fl op dst=qv op dst:=by unfold uV;rw[hb];rfl
   have e2:vz fl op=y_ op:=by unfold vz;rw[hb];rfl
   rw[e1,e2]
   exact Uo h0 dst e rec fm I ds O G
theorem QE{op:Op}(h:kO fl op=1)(dst:Option Nat)(e:Env)(rec:Rec)(fm:Fm)(I:Tm)(ds:List Deferred)(O:Ht)(G:Nat):
 (∀Z k,∃m,(uV fl op dst).run e rec fm I ds O G Z k=.gu m)\/
 ∃v cells,w5 v=some G/\(∀Z k,(uV fl op dst).run e rec fm I ds O G Z k=k ⟨(kp dst).run I v,ds,O.set G (some (.cells cells gm.plain)),G+1,Z⟩):=by
 obtain⟨h1,hb⟩:=DK h
 have e1:uV fl op dst=qv op dst:=by unfold uV;rw[hb];rfl
 rw[e1]
 exact R1 h1 dst e rec fm I ds O G
def gw(all:List Oper)(o:Oper)(I:Tm):Option Bool:=match o.guard with
 |none=>some true
 |some (j,w)=>match kL all j with
  |some g=>some (nD w (g.run I))
  |none=>none
theorem R3(all:List Oper)(o:Oper)(e:Env)(rec:Rec)(fm:Fm)(I:Tm)(ds:List Deferred)(O:Ht)(G:Nat)(Z:List Nat)(k:St->R):
 (iQ all o).run e rec fm I ds O G Z k=(match gw all o I with
   |some true=>(qv o.op o.dst).run e rec fm I ds O G Z k
   |some false=>k ⟨(kp o.dst).run I undef,ds,O,G,Z⟩
   |none=>.gu 0):=by
 obtain⟨dst,op,ty,pos,after,guard⟩:=o
 cases guard with
 |none=>rfl
 |some b=>
  obtain⟨j,w⟩:=b
  simp only[gw,iQ]
  cases kL all j with
  |none=>rfl
  |some g=>
   simp only
   cases nD w (g.run I)<;>rfl
theorem wJ(all:List Oper)(o:Oper)(e:Env)(rec:Rec)(fm:Fm)(I:Tm)(ds:List Deferred)(O:Ht)(G:Nat)(Z:List Nat)(k:St->R):
 (tw fl all o).run e rec fm I ds O G Z k=(match gw all o I with
   |some true=>(uV fl o.op o.dst).run e rec fm I ds O G Z k
   |some false=>k ⟨(kp o.dst).run I undef,ds,O,G,Z⟩
   |none=>.gu 0):=by
 cases hb:(fl&&pX o.op)with
 |false=>
  have e1:tw fl all o=iQ all o:=by unfold tw;rw[hb];rfl
  have e2:uV fl o.op o.dst=qv o.op o.dst:=by unfold uV;rw[hb];rfl
  rw[e1,e2];exact R3 all o e rec fm I ds O G Z k
 |true=>
  have e1:tw fl all o=Hf all o:=by unfold tw;rw[hb];rfl
  have e2:uV fl o.op o.dst=E4 o.op o.dst:=by unfold uV;rw[hb];rfl
  rw[e1,e2]
  clear hb e1 e2
  obtain⟨dst,op,ty,pos,after,guard⟩:=o
  cases guard with
  |none=>rfl
  |some b=>
   obtain⟨j,w⟩:=b
   simp only[gw,Hf]
   cases kL all j with
   |none=>rfl
   |some g=>
    simp only
    cases nD w (g.run I)<;>rfl
theorem Pw{o:Oper}(h:kO fl o.op≠2):kO fl o.op=0\/kO fl o.op=1:=by
 cases hb:(fl&&pX o.op)with
 |true=>exact .inl (by unfold kO;rw[hb];rfl)
 |false=>
  have e:kO fl o.op=qp o.op:=by unfold kO;rw[hb];rfl
  rw[e]at h⊢
  have:qp o.op=0\/qp o.op=1\/qp o.op=2:=by
   cases b:o.op<;>simp[qp]
   split<;>simp
  rcases this with h1|h1|h1
  · exact .inl h1
  · exact .inr h1
  · exact absurd h1 h
structure R4(R5:Nat)(dst:Option Nat)(s s1:St):Prop where
 ds:s1.ds=s.ds
 step:∃v,s1.I=(kp dst).run s.I v/\((s1.O=s.O/\s1.G=s.G/\(R5=1->w5 v=none))\/(R5=1/\w5 v=some s.G/\s1.G=s.G+1/\∃cells,s1.O=s.O.set s.G (some (.cells cells gm.plain))))
theorem WK(all:List Oper){o:Oper}(h:kO fl o.op≠2)(e:Env)(rec:Rec)(fm:Fm)(s:St):
 (∀Z k,∃m,(tw fl all o).run e rec fm s.I s.ds s.O s.G Z k=.gu m)\/
 ∃s1,R4 (kO fl o.op) o.dst s s1/\∀Z k,(tw fl all o).run e rec fm s.I s.ds s.O s.G Z k=k (s1.at Z):=by
 cases hg:gw all o s.I with
 |none=>exact .inl fun Z k=>⟨0,by rw[wJ,hg]⟩
 |some wn=>
  cases wn with
  |false=>
   refine .inr ⟨⟨(kp o.dst).run s.I undef,s.ds,s.O,s.G,[]⟩,⟨rfl,undef,rfl,.inl ⟨rfl,rfl,fun _=>rfl⟩⟩,fun Z k=>?_⟩
   rw[wJ,hg];rfl
  |true=>
   have b:kO fl o.op=0\/kO fl o.op=1:=Pw h
   rcases b with hc|hc
   · rcases R2 hc o.dst e rec fm s.I s.ds s.O s.G with g|⟨v,g,_⟩
     · exact .inl fun Z k=>by rw[wJ,hg];exact g Z k
     · refine .inr ⟨⟨(kp o.dst).run s.I v,s.ds,s.O,s.G,[]⟩,⟨rfl,v,rfl,.inl ⟨rfl,rfl,fun k=>by rw[hc]at k;cases k⟩⟩,fun Z k=>?_⟩
       rw[wJ,hg];exact g Z k
   · rcases QE hc o.dst e rec fm s.I s.ds s.O s.G with g|⟨v,cells,j,g⟩
     · exact .inl fun Z k=>by rw[wJ,hg];exact g Z k
     · refine .inr ⟨⟨(kp o.dst).run s.I v,s.ds,s.O.set s.G (some (.cells cells gm.plain)),s.G+1,[]⟩,⟨rfl,v,rfl,.inr ⟨hc,j,rfl,cells,rfl⟩⟩,fun Z k=>?_⟩
       rw[wJ,hg];exact g Z k
end
end
end Sw
namespace Sw
noncomputable section
open Go Go.RowKit
variable {fl:Bool}
def V_(fl:Bool)(o:Oper)(T:Ty)(O:Ht)(n:Nat)(I:Tm):Prop:=∃v,(∀b,(vz fl o.op).run T O.get n I b=b v)/\∀d,o.dst=some d->I.get d=v
def Wa(o:Oper)(T:Ty)(O:Ht)(I:Tm):Prop:=∃d m cells,o.dst=some d/\w5 (I.get d)=some m/\O.get m=some (.cells cells gm.plain)/\
 ∀e b,(xT o.op).run T O.get m I e b=b (I.get d,[(m,some (.cells cells gm.plain))],1)
def Good(fl:Bool)(all:List Oper)(o:Oper)(T:Ty)(O:Ht)(n:Nat)(I:Tm):Prop:=
 (gw all o I=some false/\∀d,o.dst=some d->I.get d=undef)\/(gw all o I=some true/\((kO fl o.op=0/\V_ fl o T O n I)\/(kO fl o.op=1/\Wa o T O I)))
theorem QF{op:Op}(h:qp op=0)(T:Ty)(O:Hp)(n:Nat)(I:Tm):(∀e,∃m,(y_ op).run T O n I e=.gu m)\/∃v,∀e,(y_ op).run T O n I e=e v:=by
 rcases MH op with⟨c,rfl⟩|hn
 · obtain⟨b,hb,hg⟩:=Hq h
   have D:∀e,(y_ (.call c)).run T O n I e=bi b T O n c.argTypes.toList (runs (tk c.args.toList) I) e (fun _=>.gu 0):=by
    intro e;simp only[y_,hb]
   rcases hg T O n c.argTypes.toList (runs (tk c.args.toList) I)with g|⟨v,g⟩
   · exact .inl fun e=>by rw[D];exact g _ _
   · exact .inr ⟨v,fun e=>by rw[D,g]⟩
 · rw[DL hn]
   rcases KA h hn T O n I with g|⟨v,g⟩
   · exact .inl fun e=>g _ _
   · exact .inr ⟨v,fun e=>by simp only[g]⟩
theorem QG{op:Op}(h:kO fl op=0)(T:Ty)(O:Hp)(n:Nat)(I:Tm):(∀b,∃m,(vz fl op).run T O n I b=.gu m)\/∃v,∀b,(vz fl op).run T O n I b=b v:=by
 rcases Cx h with hb|⟨h0,hb⟩
 · have e2:vz fl op=B3 op:=by unfold vz;rw[hb];rfl
   rw[e2]
   rcases Cy hb T O n I with g|⟨v,g,_⟩
   · exact .inl g
   · exact .inr ⟨v,g⟩
 · have e2:vz fl op=y_ op:=by unfold vz;rw[hb];rfl
   rw[e2];exact QF h0 T O n I
theorem R6{m:gm}(h:CZ m=true):m=gm.plain:=by
 obtain⟨ro,mP,base,unit⟩:=m
 simp only[CZ,Bool.and_eq_true]at h
 obtain⟨h1,D,h3,h4⟩:=h
 cases ro<;>cases mP<;>first|(cases h1;done)|(cases D;done)|skip
 rw[beq_eq h3,beq_eq h4];rfl
theorem DM(op:Op)(d:Option Nat)(T:Ty)(O:Ht)(n:Nat)(I:Tm)(k:R):
 (Ug fl op d).run T O n I k=(vz fl op).run T O.get n I (fun v=>match d with|some d=>(bif lx 8 v (I.get d)then k else .gu 0)|none=>k):=by
 cases d<;>rfl
theorem zf(op:Op)(d:Nat)(T:Ty)(O:Ht)(n:Nat)(I:Tm)(k:R):
 (Uh op (some d)).run T O n I k=(match w5 (I.get d)with
   |some m=>(xT op).run T O.get m I (fun _=>.gu 0) (fun f=>match f with
    |(v,jJ,_)=>match jJ,O.get m with
     |[(_,some (.cells Z _))],some (.cells lJ b)=>bif lx 8 v (I.get d)&&(uU (lx 8) Z lJ&&CZ b)then k else .gu 0
     |_,_=>.gu 0)
   |none=>.gu 0):=rfl
theorem QH(o:Oper)(hc:kO fl o.op=0\/kO fl o.op=1)(T:Ty)(O:Ht)(n:Nat)(I:Tm):
 (∀k,∃m,(xA fl o).run T O n I k=.gu m)\/((∀k,(xA fl o).run T O n I k=k)/\((kO fl o.op=0/\V_ fl o T O n I)\/(kO fl o.op=1/\Wa o T O I))):=by
 rcases hc with hc|hc
 · have e:xA fl o=Ug fl o.op o.dst:=by unfold xA;rw[hc];rfl
   rw[e]
   rcases QG hc T O.get n I with g|⟨v,g⟩
   · exact .inl fun k=>by rw[DM];exact g _
   · cases hd:o.dst with
     |none=>exact .inr ⟨fun k=>by rw[DM,g],.inl ⟨hc,v,g,fun d h=>by rw[hd]at h;cases h⟩⟩
     |some d=>
      cases p:lx 8 v (I.get d)with
      |false=>exact .inl fun k=>⟨0,by rw[DM,g];simp only[p,cond_false]⟩
      |true=>exact .inr ⟨fun k=>by rw[DM,g];simp only[p,cond_true],.inl ⟨hc,v,g,fun d' h=>by rw[hd]at h;cases h;exact(B4 8 _ _ p).symm⟩⟩
 · have e:xA fl o=Uh o.op o.dst:=by unfold xA;rw[hc];rfl
   rw[e]
   cases hd:o.dst with
   |none=>exact .inl fun k=>⟨0,rfl⟩
   |some d=>
    cases hm:w5 (I.get d)with
    |none=>exact .inl fun k=>⟨0,by rw[zf,hm]⟩
    |some m=>
     rcases KB (DK hc).1 T m I O.get with g|⟨v,cells,p,g⟩
     · exact .inl fun k=>by rw[zf,hm];exact g _ _
     · cases j:O.get m with
       |none=>exact .inl fun k=>⟨0,by rw[zf,hm];simp only[g,j]⟩
       |some ob=>
        cases ob<;>first|(refine .inl ?_;intro k;refine⟨0,?_⟩;rw[zf,hm];simp only[g,j];done)|skip
        rename_i lJ u
        cases b:(lx 8 v (I.get d)&&(uU (lx 8) cells lJ&&CZ u))with
        |false=>exact .inl fun k=>⟨0,by rw[zf,hm];simp only[g,j,b,cond_false]⟩
        |true=>
         refine .inr ⟨fun k=>by rw[zf,hm];simp only[g,j,b,cond_true],.inr ⟨hc,d,m,cells,hd,hm,?_,?_⟩⟩
         · rw[Bool.and_eq_true,Bool.and_eq_true]at b
           rw[j,tH (B4 8) _ _ b.2.1,R6 b.2.2]
         · rw[Bool.and_eq_true,Bool.and_eq_true]at b
           rw[<-B4 8 _ _ b.1];exact g
theorem C1(all:List Oper)(o:Oper)(T:Ty)(O:Ht)(n:Nat)(I:Tm)(k:R):
 (Hg fl all o).run T O n I k=(match gw all o I with
   |some true=>(xA fl o).run T O n I k
   |some false=>(bif A6 o.dst I then k else .gu 0)
   |none=>.gu 0):=by
 unfold Hg gw
 cases o.guard with
 |none=>rfl
 |some b=>
  obtain⟨j,w⟩:=b
  simp only
  cases kL all j with
  |none=>rfl
  |some g=>
   simp only
   cases nD w (g.run I)<;>rfl
theorem Up(all:List Oper)(o:Oper)(hc:kO fl o.op=0\/kO fl o.op=1)(T:Ty)(O:Ht)(n:Nat)(I:Tm):
 (∀k,∃m,(Hg fl all o).run T O n I k=.gu m)\/((∀k,(Hg fl all o).run T O n I k=k)/\Good fl all o T O n I):=by
 cases hg:gw all o I with
 |none=>exact .inl fun k=>⟨0,by rw[C1,hg]⟩
 |some wn=>
  cases wn with
  |false=>
   cases hu:A6 o.dst I with
   |false=>exact .inl fun k=>⟨0,by rw[C1,hg];simp only[hu,cond_false]⟩
   |true=>
    refine .inr ⟨fun k=>by rw[C1,hg];simp only[hu,cond_true],.inl ⟨hg,fun d hd=>?_⟩⟩
    rw[hd]at hu
    exact(B4 8 _ _ hu).symm
  |true=>
   rcases QH o hc T O n I with g|⟨g1,g2⟩
   · exact .inl fun k=>by rw[C1,hg];exact g k
   · exact .inr ⟨fun k=>by rw[C1,hg];exact g1 k,.inr ⟨hg,g2⟩⟩
end
end Sw
namespace Sw
noncomputable section
open Go Go.RowKit
section
variable {P:Program}{ng:Nat}{e:Env}{B0:Nat}{w0:World}{b:Frame}{g:Gm}{G mU:Nat}{a:Act}{w:World}{I:Tm}{O:Ht}{ops:Array Oper}{i:Nat}{o:Oper}
theorem lR.low{g':Gm}{w':World}{e_:Nat}(h:lR g G w g' e_ w')(k:mU<=G):lR g mU w g' e_ w':=
 ⟨⟨h.ext.le,ff k h.ext.num,fun b hb=>(h.ext.new b hb).imp id (ff k)⟩,h.kept,h.held⟩
theorem lR.R7{g1 g2:Gm}{n o n2:Nat}{w1 j:World}(h:lR g n w g1 o w1)(k:lR g1 n w1 g2 n2 j):lR g n w g2 n2 j:=
 ⟨⟨Gm.le_trans h.ext.le k.ext.le,k.ext.num,fun b hb=>(k.ext.new b hb).elim (fun q=>h.ext.new b q) .inr⟩,h.kept.trans h.held k.kept,fun b rb ro e=>by
   rcases k.held b rb ro e with⟨m,p,q⟩|q
   · exact h.held m rb p q
   · exact .inr (ff h.kept.1 q)⟩
theorem k_.value{Q:qj->Prop}{run:K1->K2->R}{v:Value}(h:∀b o,k_ Q (fun i:List Nat=>run (b i) (o i)) b o)(p:∀b,run b (fun _=>.gu 0)=b v):Q (v,[],0):=by
 classical
 let j:St:=⟨Tm.undef,[],.nil,0,[]⟩
 have:=h (fun _ u=>if u=v then .ok (0,j)else .gu 0) (fun _ _=>.gu 0)
 have e0:run (fun u=>if u=v then .ok (0,j)else .gu 0) (fun _=>.gu 0)=.ok (0,j):=by rw[p];simp
 rcases this with q|⟨u,e,y⟩|⟨f,e,_⟩
 · obtain⟨m,q⟩:=q [];simp only[e0]at q;cases q
 · have q:=e []
   simp only[e0]at q
   by_cases hu:u=v
   · subst hu;exact y
   · rw[if_neg hu]at q;cases q
 · have q:=e [];simp only[e0]at q;cases q
theorem k_.effect{Q:qj->Prop}{run:K1->K2->R}{f:qj}(h:∀e b,k_ Q (fun i:List Nat=>run (e i) (b i)) e b)(hf:∀e b,run e b=b f):Q f:=by
 classical
 let o:St:=⟨Tm.undef,[],.nil,0,[]⟩
 have:=h (fun _ _=>.gu 0) (fun _ u=>if u=f then .ok (0,o)else .gu 0)
 have e0:run (fun _=>.gu 0) (fun u=>if u=f then .ok (0,o)else .gu 0)=.ok (0,o):=by rw[hf];simp
 rcases this with q|⟨u,j,p⟩|⟨u,j,p⟩
 · obtain⟨m,q⟩:=q [];simp only[e0]at q;cases q
 · have q:=j [];simp only[e0]at q;cases q
 · have q:=j []
   simp only[e0]at q
   by_cases hu:u=f
   · subst hu;exact p
   · rw[if_neg hu]at q;cases q
def Uq(fl:Bool)(P:Program)(B0:Nat)(w0:World)(b:Frame)(g:Gm)(mU:Nat)(O:Ht)(G:Nat)(I:Tm)(ops:Array Oper)(i:Nat)(o:Oper)(a:Act)(w:World):Prop:=
 ∃v' w' g',gx B0 w0 g' O.get G w'/\(∀d,o.dst=some d->fP g' (I.get d) v')/\lR g mU w g' G w'/\
  (∀m,g'.ga m≠none->g.ga m≠none\/(kO fl o.op=1/\∃d,o.dst=some d/\w5 (I.get d)=some m))/\
  ∀rest k Z,Steps P (lone (At b a (.inRegion ops (i::rest)::k)) Z w) (lone (At b (a.put o.dst v') (.inRegion ops rest::k)) Z w')
theorem Hr(ok:mY P ng e){O:Hp}(H:gx B0 w0 g O G w)(m:vK g I a.eval o.op.operands.toList)(n:Nat)(j:List Nat->K1)(b:List Nat->K2):
 k_ (nY P B0 w0 g O G n w ((execOp a.eval o).run P w)) (fun i=>(xT o.op).run e.T O n I (j i) (b i)) j b:=Ku ok.T ok.cl H m j b
theorem Zh{u v:Value}(h:∀b:K1,b u=b v):u=v:=by
 have:=h fun x=>.ok (0,⟨Tm.undef,[⟨.collected 0,#[x]⟩],.nil,0,[]⟩)
 simpa using this
theorem R8{fl:Bool}(ok:mY P ng e)(H:gx B0 w0 g O.get G w)(ab:ops[i]?=some o)(R:vK g I a.eval o.op.operands.toList)(an:Bt g ops I a o)(L:mU<=G)
 (oV:Good fl ops.toList o e.T O G I) (hm:kO fl o.op=1->∀d m,o.dst=some d->w5 (I.get d)=some m->g.ga m=none/\mU<=m/\m<G):
 Uq fl P B0 w0 b g mU O G I ops i o a w:=by
 have F:∀wn,gw ops.toList o I=some wn->Region.wanted o (yielded ops a.tmps)=wn:=by
  intro wn h
  cases hg:o.guard with
  |none=>
   simp only[gw,hg]at h
   cases h
   simp[Region.wanted,hg]
  |some aq=>
   obtain⟨j,w'⟩:=aq
   simp only[gw,hg]at h
   cases hj:ops[j]? with
   |none=>
    have:kL ops.toList j=none:=by simp[kL,qx,hj]
    rw[this]at h;cases h
   |some ar=>
    cases hd:ar.dst with
    |none=>
     have:kL ops.toList j=none:=by simp[kL,qx,hj,hd,Cu]
     rw[this]at h;cases h
    |some d=>
     have:kL ops.toList j=some (f_ (.tmp d)):=by simp[kL,qx,hj,hd,Cu]
     rw[this]at h
     have aj:=Io an hg hj hd
     rw[aj]
     simp only[Option.some.injEq]at h
     exact h
 rcases oV with⟨g1,g2⟩|⟨g1,g2⟩
 · have hw:=F _ g1
   refine⟨undef,w,g,H,fun d hd=>by rw[g2 d hd];exact fP.undef g,lR.low (lR.refl _ _ _) L,fun m hm=>.inl hm,fun rest k Z=>.one (Ej ab hw)⟩
 · have hw:=F _ g1
   have aa:qR o.op=true:=by
    cases z:o.op<;>first|rfl|skip
    exfalso
    rw[z]at g2
    have ao:∀c,kO fl (Op.defer c)=2:=fun _=>by unfold kO;cases fl<;>rfl
    rcases g2 with⟨q,_⟩|⟨q,_⟩<;>(rw[ao]at q;cases q)
   rcases g2 with⟨hc,v,J,hd⟩|⟨hc,d,m,cells,hd,N,B,ad⟩
   · have Q:nY P B0 w0 g O.get G G w ((execOp a.eval o).run P w) (v,[],0):=by
      rcases Cx hc with C|⟨hc,C⟩
      · have e2:vz fl o.op=B3 o.op:=by unfold vz;rw[C];rfl
        rw[e2]at J
        refine k_.effect (run:=fun p y=>(xT o.op).run e.T O.get G I p y) (fun p y=>Hr ok H R G p y) (fun p y=>?_)
        rcases Cy C e.T O.get G I with g|⟨u,g,g'⟩
        · obtain⟨m,hm⟩:=g fun v=>.ok (0,⟨Tm.undef,[],.nil,0,[]⟩)
          rw[J]at hm;cases hm
        · have:u=v:=Zh (fun p=>(g p).symm.trans (J p))
          rw[g',this]
      have e2:vz fl o.op=y_ o.op:=by unfold vz;rw[C];rfl
      rw[e2]at J
      rcases MH o.op with⟨c,z⟩|ag
      · obtain⟨ae,hb,hg⟩:=Hq (by rw[z]at hc;exact hc)
        have W:gZ g (runs (tk c.args.toList) I) (c.args.map a.eval).toList:=by
         rw[Array.toList_map]
         rw[z]at R
         exact zd c.args.toList fun x hx=>R x (by simp only[Op.operands,Call.operands];cases c.callee<;>simp[hx])
        have e1:(execOp a.eval o).run P w=(Go.builtin ae c.argTypes.toList.toArray o.type (c.args.map fun|.const _=>true|_=>false) (c.args.map a.eval).toList.toArray).run P w:=by
         simp only[execOp,z,resolve,hb];rfl
        rw[e1]
        refine k_.value (run:=fun p y=>bi ae e.T O.get G c.argTypes.toList (runs (tk c.args.toList) I) p y) (fun p y=>My ok.T H W o.type _ p y) (fun p=>?_)
        have:=J p
        rw[z]at this
        simp only[y_,hb]at this
        exact this
      · refine k_.value (run:=fun p y=>(xT o.op).run e.T O.get G I p y) (fun p y=>Hr ok H R G p y) (fun p=>?_)
        have:=J p
        rw[DL ag]at this
        exact this
     obtain⟨g',v',w',E⟩:=Q G (fg _) (fg _) (fun j hj=>by cases hj)
     have M:∀b',g'.ga b'≠none->g.ga b'≠none:=fun b' hb=>by
      rcases E.new b' hb with h|h
      · exact h
      · have D:b'<G+0:=h.2
        omega
     refine⟨v',w',g',E.rel,fun d' h=>by rw[hd d' h];exact E.val,⟨⟨E.le,L,fun b' hb=>.inl (M b' hb)⟩,E.keeps.kept E.size,E.held⟩,fun S K=>.inl (M S K),fun rest k Z=>?_⟩
     exact .one (E9 ab hw (.inr aa) E.run)
   · obtain⟨ak,au,av⟩:=hm hc d m hd N
     have ah:∀ms,O.get m≠some (.group ms):=fun ms h=>by rw[B]at h;cases h
     have al:=H.kill m ah
     have Q:nY P B0 w0 g (Hp.set O.get m none) G m w ((execOp a.eval o).run P w) (I.get d,[(m,some (.cells cells gm.plain))],1):=
      k_.effect (run:=fun p y=>(xT o.op).run e.T (Hp.set O.get m none) m I p y) (fun p y=>Hr ok al R m p y) (fun p y=>by
       rw[R0 (DK hc).1 e.T m I (Hp.set O.get m none) O.get];exact ad p y)
     have X:g.room m=none:=by
      cases hr:g.room m with
      |none=>rfl
      |some x=>exact absurd ak (H.room m x hr)
     obtain⟨g',v',w',E⟩:=Q G (fg _) (by show m+1<=G;omega) (fun j hj=>by
      have hj:j<1:=hj
      have:j=0:=by omega
      subst this
      exact⟨ak,X,Hp.jO _ _ _⟩)
     have af:(Hp.set O.get m none).ur [(m,some (.cells cells gm.plain))]=O.get:=by
      funext x
      show Hp.set (Hp.set O.get m none) m (some (.cells cells gm.plain)) x=_
      by_cases hx:x=m
      · subst hx;rw[Hp.jO,B]
      · rw[Hp.gR _ _ hx,Hp.gR _ _ hx]
     have A:=E.rel
     simp only at A
     rw[af]at A
     have hk:Kept g w w':=⟨E.size,fun rb jH ai=>E.keeps rb jH fun b' _ ro _=>ai b' ro⟩
     refine⟨v',w',g',A,fun d' h=>by rw[hd]at h;cases h;exact E.val,⟨⟨E.le,L,fun b' hb=>?_⟩,hk,E.held⟩,fun S K=>?_,fun rest k Z=>?_⟩
     · rcases E.new b' hb with h|h
       · exact .inl h
       · exact .inr (by omega)
     · rcases E.new S K with h|h
       · exact .inl h
       · have:S=m:=by have h1:=h.1;have D:S<m+1:=h.2;omega
         subst this
         exact .inr ⟨hc,d,hd,N⟩
     · exact .one (E9 ab hw (.inr aa) E.run)
end
end
end Sw
namespace Sw
noncomputable section
open Go Go.RowKit
theorem A9(s i x:Nat):has (put s i) x=(has s x||decide (i=x)):=by
 unfold has put
 have:Nat.testBit (Nat.lor s (2^i)) x=(Nat.testBit s x||Nat.testBit (2^i) x):=Nat.testBit_or ..
 rw[this,Nat.testBit_two_pow]
theorem Fh(s i:Nat):has (put s i) i=true:=by rw[A9];simp
theorem It{s i x:Nat}(h:i≠x):has (put s i) x=has s x:=by rw[A9];simp[h]
theorem sV{s i x:Nat}(h:has s x=true):has (put s i) x=true:=by rw[A9,h];rfl
theorem Bu(x:Nat):has 0 x=false:=by simp[has]
theorem F8{a b x:Nat}(h:sub a b=true)(hx:has a x=true):has b x=true:=by
 have h:=beq_eq h
 have:Nat.testBit (Nat.land a b) x=(Nat.testBit a x&&Nat.testBit b x):=Nat.testBit_and ..
 rw[h]at this
 unfold has at*
 rw[hx]at this
 simpa using this.symm
theorem R9{a b:Nat}(h:∀x,has a x=true->has b x=true):sub a b=true:=by
 have:Nat.land a b=a:=by
  apply Nat.eq_of_testBit_eq
  intro x
  have e:Nat.testBit (Nat.land a b) x=(Nat.testBit a x&&Nat.testBit b x):=Nat.testBit_and ..
  rw[e]
  cases hx:Nat.testBit a x with
  |false=>rfl
  |true=>have:=h x hx;unfold has at this;rw[this];rfl
 unfold sub;rw[this];exact Nat.beq_refl a
theorem Fi{md:Region.Mode}{x:Nat}:∀{es:List Edge},has (F0 md es) x=true↔∃e∈es,Region.binds md e=true/\e.on=x
 |[]=>by simp[F0,Bu]
 |e::es=>by
  simp only[F0]
  cases hb:Region.binds md e with
  |false=>simp[Fi (es:=es),hb]
  |true=>
   simp only[cond_true,A9,Bool.or_eq_true,decide_eq_true_eq,Fi (es:=es),List.mem_cons]
   constructor
   · rintro(⟨b,h1,D⟩|h)
     · exact⟨b,.inr h1,D⟩
     · exact⟨e,.inl rfl,hb,h⟩
   · rintro ⟨b,rfl|h1,D,h3⟩
     · exact .inr h3
     · exact .inl ⟨b,h1,D,h3⟩
theorem JG{bm:List Nat}{x:Nat}:∀{es:List Edge},has (EF bm es) x=true->∃e∈es,Region.binds .any e=true/\(x=e.on\/has (ym e.on bm) x=true)
 |[],h=>by simp[EF,Bu]at h
 |e::es,h=>by
  simp only[EF]at h
  cases hb:Region.binds .any e with
  |false=>
   rw[hb]at h
   obtain⟨b,h1,D⟩:=JG (es:=es) h
   exact⟨b,fG _ h1,D⟩
  |true=>
   rw[hb]at h
   have:Nat.testBit (Nat.lor (ym e.on bm) (put (EF bm es) e.on)) x=(Nat.testBit (ym e.on bm) x||Nat.testBit (put (EF bm es) e.on) x):=Nat.testBit_or ..
   have h:Nat.testBit (Nat.lor (ym e.on bm) (put (EF bm es) e.on)) x=true:=h
   rw[this,Bool.or_eq_true]at h
   rcases h with h|h
   · exact⟨e,fz ..,hb,.inr h⟩
   · have h:has (put (EF bm es) e.on) x=true:=h
     rw[A9,Bool.or_eq_true]at h
     rcases h with h|h
     · obtain⟨b,h1,D⟩:=JG (es:=es) h
       exact⟨b,fG _ h1,D⟩
     · exact⟨e,fz ..,hb,.inl (by simpa using(of_decide_eq_true h).symm)⟩
def pE(all:List Oper)(i:Nat):List Edge:=match nP i all with
 |some o=>o.after.toList
 |none=>[]
theorem yz{md:Region.Mode}{all:List Oper}{i x:Nat}:has (maskAt md all i) x=true↔∃e∈pE all i,Region.binds md e=true/\e.on=x:=by
 unfold maskAt pE
 cases nP i all with
 |none=>simp[Bu]
 |some o=>exact Fi
theorem sc{n:Nat}{p:Nat->Bool}(h:(List.range n).all p=true){i:Nat}(hi:i<n):p i=true:=fO.1 h i (gL.2 hi)
variable {fl:Bool}
structure rI(fl:Bool)(all:List Oper)(bm:List Nat):Prop where
 X7:∀i k,i<all.length->k<all.length->i≠k->∀d,sA all i=some d->sA all k≠some d
 looks:∀k,k<all.length->∀t,t∈looksAt all k->∀i,i<all.length->sA all i=some t->qI fl all i=2\/has (ym k bm) i=true
 bm:∀i,i<all.length->∀x,has (ym i bm) x=true->∃e∈pE all i,Region.binds .any e=true/\(x=e.on\/has (ym e.on bm) x=true)
 back:∀i,i<all.length->∀e∈pE all i,Region.binds .any e=true->e.on<i
theorem R_{all:List Oper}{pl:T9}(h:HY fl all pl=true):
 rI fl all pl.bm/\u7 .text all (List.range all.length) 0=true/\u7 .gc all pl.XL 0=true/\vP fl all pl.bm pl.sk 0 none=true:=by
 unfold HY at h
 simp only[Bool.and_eq_true]at h
 obtain⟨h1,D,h3,h4,m,p,u⟩:=h
 refine⟨⟨?_,?_,?_,?_⟩,m,p,u⟩
 · intro i k hi hk jI d hd j
   have:=sc h1 hi
   rw[hd]at this
   have:=sc this hk
   rw[j]at this
   simp only[Bool.or_eq_true]at this
   rcases this with h|h
   · exact jI (beq_eq h)
   · rw[Nat.beq_refl]at h;cases h
 · intro k hk t y i hi hd
   have:=fO.1 (sc D hk) t y
   have:=sc this hi
   rw[hd]at this
   simp only[Bool.or_eq_true]at this
   rcases this with h|h|h
   · rw[Nat.beq_refl]at h;cases h
   · exact .inl (beq_eq h)
   · exact .inr h
 · intro i hi x hx
   have:=sc h3 hi
   unfold pE
   cases b:nP i all with
   |none=>
    rw[qx]at b
    simp at b;omega
   |some o=>
    rw[b]at this
    exact JG (F8 this hx)
 · intro i hi e he hb
   have:=sc h4 hi
   have hx:has (maskAt .any all i) e.on=true:=yz.2 ⟨e,he,hb,rfl⟩
   have:=F8 this hx
   unfold has at this
   rw[Nat.testBit_two_pow_sub_one]at this
   exact of_decide_eq_true this
theorem KD{md:Region.Mode}{e:Edge}(h:Region.binds .any e=true):Region.binds md e=true:=by
 unfold Region.binds at*
 split at h<;>first|(cases h;done)|(cases md<;>simp_all)
theorem QI{md:Region.Mode}{all:List Oper}{MB:Nat->Prop}:∀(is:List Nat) (L:Nat),u7 md all is L=true->(∀i,has L i=true->MB i)->
 (∀i,i<all.length->MB i)\/∃i,i<all.length/\¬MB i/\∀e∈pE all i,Region.binds md e=true->MB e.on:=by
 classical
 intro is
 induction is with
 |nil=>
  intro L h b
  exact .inl fun i hi=>b i (sc h hi)
 |cons i is ih=>
  intro L h b
  simp only[u7,Bool.and_eq_true]at h
  obtain⟨h0,h1,D⟩:=h
  have hi:i<all.length:=fk h0
  by_cases hl:MB i
  · refine ih (put L i) D fun k hk=>?_
    rw[A9,Bool.or_eq_true]at hk
    rcases hk with hk|hk
    · exact b k hk
    · have:=of_decide_eq_true hk;subst this;exact hl
  · exact .inr ⟨i,hi,hl,fun e he hb=>b _ (F8 h1 (yz.2 ⟨e,he,hb,rfl⟩))⟩
end
end Sw
