/- A part of the proof that the law returns true for every input that its row speaks of. No condition is added. -/
import Derived.Test.YtecbgehgkpgbmaaGreatDoorSwAC
namespace Sw
noncomputable section
open Go Go.RowKit
section
variable {P:Program}{ng:Nat}{e:Env}{B0:Nat}{w0:World}{b:Frame}{nt:Nat}{g:Gm}{G:Nat}{a:Act}{w:World}{I:Tm}{O:Ht}{rec:Rec}
theorem Act.eval_put{a:Act}{d:Nat}{v:Value}(h:d<a.tmps.size):(a.put (some d) v).eval (.tmp d)=v:=by
 simp[Act.eval,Act.put,Array.getD,h]
theorem Mh{o:Oper}{i:Nat}{ops:Array Oper}{rest:List Nat}{k:List Item}{c:Frame}{Z:List Frame}(j:ops[i]?=some o)(hw:Region.wanted o (yielded ops a.tmps)=true)(hr:b.roundOf=none)(hc:c.mode=.returning)(hk:b.kind=.deferred)
 (h:(execOp a.eval o).run P w=.ok .recover w):
 step P (lone (At b a (.inRegion ops (i::rest)::k)) (c::Z) w)=.next (lone (At b (a.put o.dst .nilIface) (.inRegion ops rest::k)) (c::Z) w):=by
 have e:=At.finish b a ops i rest k .nilIface
 rw[j]at e
 refine step_lone_go ?_
 rw[HW j hw (.inl hr)]
 have e:(At b a (.inRegion ops (i::rest)::k)).finish .nilIface=At b (a.put o.dst .nilIface) (.inRegion ops rest::k):=e
 rw[<-e]
 have h1:(At b a (.inRegion ops (i::rest)::k)).roundOf=none:=hr
 have D:tryRecover (At b a (.inRegion ops (i::rest)::k)) (c::Z)=none:=by
  have:(At b a (.inRegion ops (i::rest)::k)).kind=.deferred:=hk
  simp[tryRecover,this,hc]
 simp[stepG.apply,h,h1,D]
theorem Oj(ok:mP P ng e)(H:gm B0 w0 g O.get G w){f:FuncId}{fi:wj}(hf:e.F f=some fi)(m:HT e.T fi=true)(args:Array Value):
 ∃v' w' g',gm B0 w0 g' O.get G w'/\lI g G w g' G w'/\∀(c:Frame) Z,c.mode=.returning->∃fr,Steps P (lone (Frame.enter P f args .deferred) (c::Z) w) (lone fr (c::Z) w')/\fr.mode=.returning/\fr.defers=[]/\fr.kind=.deferred/\fr.fn=f/\
  ∃fn,P.funcs[fr.fn]?=some fn/\(results fn fr.tmps).run P w'=.ok v' w':=by
 obtain⟨fn,f1,f2,f3,f4,f5,f6,f7,f8⟩:=ok.F f fi hf
 obtain⟨body,nt,ud⟩:=fi
 unfold HT at m
 split at m<;>first|(cases m;done)|skip
 rename_i aa o1 ab o2 x y z o
 unfold Rt at m
 split at m<;>first|(cases m;done)|skip
 rename_i Mi d1 N ae VJ p1 R d2 a2 af ah S d3 al ag ai W d4 t4 c4 p A p4 u h1 D
 simp only[Bool.and_eq_true]at m
 obtain⟨⟨J,K,q3,L⟩,⟨r1,r2,ac,ad⟩,hb⟩:=m
 have J:=fj J;have K:=fj K;have q3:=fj q3;have L:=fj L
 subst J;subst K;subst q3;subst L
 have e1:=congrArg List.toArray h1
 have e2:=congrArg List.toArray D
 simp only[Array.toArray_toList]at e1 e2
 subst e1;subst e2
 have hb:zN e.T .neq t4 (.tmp d3) (.const .nilIface) .nilIface .nilIface=some (.bool false):=by
  split at hb
  · assumption
  · cases hb
 simp only at f2 f3 f4 f8 o z
 subst o;subst z
 let a0:Act:=⟨args++Array.replicate (nt-args.size) Go.undef,[]⟩
 have ak:nt<=a0.tmps.size:=by simp[a0];omega
 let b:=Frame.enter P f args .deferred
 have he:b=At b a0 [.code (.seq (.region aa #[⟨some d1,.call ⟨.builtin .recover,N,ae⟩,VJ,p1,R,none⟩,⟨some d2,.assign (.tmp d1),af,ah,S,none⟩] false) (.seq (.region ab #[⟨some d3,.move (.tmp d2),ag,ai,W,none⟩,⟨some d4,.binOp .neq t4 (.tmp d3) (.const .nilIface) p,A,p4,u,none⟩] false) (.cond (.tmp d4) y .skip)))]:=by simp[b,Frame.enter,At,f1,f2,f3,a0]
 have hr:b.roundOf=none:=by simp[b,Frame.enter]
 have hk:b.kind=.deferred:=by simp[b,Frame.enter]
 have B:b.fn=f:=by simp[b,Frame.enter]
 let a1:=a0.put (some d1) .nilIface
 let a2:=a1.put (some d2) .nilIface
 let a3:=a2.put (some d3) .nilIface
 have M:∀(a:Act) (d:Nat) (v:Value),(a.put (some d) v).tmps.size=a.tmps.size:=fun a d v=>by simp[Act.put]
 have s1:a1.tmps.size=a0.tmps.size:=M ..
 have s2:a2.tmps.size=a0.tmps.size:=(M ..).trans s1
 have am:a3.tmps.size=a0.tmps.size:=(M ..).trans s2
 have r1:=fa r1;have r2:=fa r2;have ac:=fa ac;have ad:=fa ad
 have aj:a1.eval (.tmp d1)=.nilIface:=Act.eval_put (by omega)
 have v2:a2.eval (.tmp d2)=.nilIface:=Act.eval_put (by omega)
 have v3:a3.eval (.tmp d3)=.nilIface:=Act.eval_put (by omega)
 have Q:=HO (n:=G) ok.T H hb (.nilIface (g:=g)) (.nilIface (g:=g))
 obtain⟨g',v',w',E⟩:=Q G (e9 _) (e9 _) (fun j hj=>by cases hj)
 have X:v'=.bool false:=by have:=E.val;cases this;rfl
 subst X
 have C:∀b',g'.fW b'≠none->g.fW b'≠none:=fun b' hb=>by
  rcases E.new b' hb with h|h
  · exact h
  · have D:b'<G+0:=h.2
    omega
 let a4:=a3.put (some d4) (.bool false)
 have v4:a4.eval (.tmp d4)=.bool false:=Act.eval_put (by omega)
 refine⟨.tuple #[],w',g',E.rel,⟨⟨E.le,e9 _,fun b' hb=>.inl (C b' hb)⟩,E.keeps.kept E.size,E.held⟩,fun c Z hc=>⟨{At b a4 []with mode:=.returning},?_,rfl,rfl,hk,B,fn,by show P.funcs[b.fn]?=_;rw[B];exact f1,?_⟩⟩
 · show Steps P (lone b (c::Z) w) _
   rw[he]
   refine .head HV (.head EM ?_)
   refine .head (Mh (i:=0) (rest:=[1]) rfl rfl hr hc hk rfl) (.head (Dr (i:=1) (rest:=[]) (v:=.nilIface) rfl rfl (.inl hr) (by show Result.ok (Next.value (a1.eval (.tmp d1))) w=_;rw[aj])) (.head yc (.head HV (.head EM ?_))))
   refine .head (Dr (i:=0) (rest:=[1]) (v:=.nilIface) rfl rfl (.inl hr) (by show Result.ok (Next.value (a2.eval (.tmp d2))) w=_;rw[v2])) (.head (EP (i:=1) (rest:=[]) (v:=.bool false) (w':=w') rfl rfl (.inl hr) ?_) (.head yc (.head (O9 v4) (.head O7 (.one (Gc hr))))))
   have e:(execOp a3.eval ⟨some d4,.binOp .neq t4 (.tmp d3) (.const .nilIface) p,A,p4,u,none⟩:Sem Next)=(do pure (Next.value (<-(do eqGuard .neq t4 (.tmp d3) (.const .nilIface) .nilIface .nilIface;binOp .neq t4 .nilIface .nilIface:Sem Value))):Sem Next):=by
    show(do pure (Next.value (<-(do eqGuard .neq t4 (.tmp d3) (.const .nilIface) (a3.eval (.tmp d3)) .nilIface;binOp .neq t4 (a3.eval (.tmp d3)) .nilIface:Sem Value))):Sem Next)=_
    rw[v3]
   show HU ((execOp a3.eval ⟨some d4,.binOp .neq t4 (.tmp d3) (.const .nilIface) p,A,p4,u,none⟩:Sem Next).run P w)=_
   rw[e,P3]
   exact E.run
 · have:fn.results=#[]:=by rw[<-Array.toArray_toList (xs:=fn.results),f4]
   simp[results,this]
theorem yf(ok:mP P ng e)(ih:oM P ng B0 w0 rec)(k:Ht->Nat->List Nat->R):∀(ds p:List Deferred) (O:Ht) (G:Nat) (g:Gm) (w:World) (fr:Frame) (fs:List Frame),gm B0 w0 g O.get G w->k_ g ng->ny g ds p->fr.mode=.returning->fr.defers=p->
 lV (fun Z=>lK e rec ds O G Z k) fun f'=>zV f'\/∃eZ e5,(∀Z,f' Z=k eZ e5 Z)/\tc P B0 w0 g G w eZ e5 fr fs
 |[],p,O,G,g,w,fr,fs,H,hg,hd,hm,he=>by
  cases ny.wm hd
  exact .here (.inr ⟨O,G,fun Z=>rfl,tc.nil H he⟩)
 |d::ds,p,O,G,g,w,fr,fs,H,hg,hd,hm,he=>by
  obtain⟨d',j,rfl,h1,D⟩:=hd.cons_inv
  obtain⟨ab,u⟩:=d
  have fail:∀f:List Nat->R,(∀Z,f Z=.gk 0)->lV f fun f'=>zV f'\/∃eZ e5,(∀Z,f' Z=k eZ e5 Z)/\tc P B0 w0 g G w eZ e5 fr fs:=fun f h=>.dead fun Z=>⟨0,h Z⟩
  cases ab with
  |nil=>exact fail _ fun Z=>rfl
  |builtin=>exact fail _ fun Z=>rfl
  |coroexit=>exact fail _ fun Z=>rfl
  |collected r=>
   cases hr:O.get r with
   |none=>exact fail _ fun Z=>by simp[lK,hr]
   |some o=>
    cases o with
    |deferred x=>
     cases x with
     |none=>exact fail _ fun Z=>by simp[lK,hr]
     |some l=>
      cases l with
      |cons=>exact fail _ fun Z=>by simp[lK,hr]
      |nil=>
       cases hb:Nat.ble e.low r with
       |false=>exact fail _ fun Z=>by simp[lK,hr,hb]
       |true=>
        have:u=#[]:=by cases h1;rfl
        subst this
        have b:(fun Z=>lK e rec (⟨.collected r,#[]⟩::ds) O G Z k)=fun Z=>lK e rec ds (O.set r (some (.deferred none))) G Z k:=by funext Z;simp[lK,hr,hb]
        rw[b]
        cases h1 with
        |@GH _ rr z=>
         obtain⟨jo,ac,N⟩:=(H.live _ _ hr).2 _ _ z
         cases jo<;>first|exact N.elim|skip
         rename_i l
         cases l with
         |none=>exact N.elim
         |some l=>
          obtain⟨_,X,h4⟩:=N
          cases ny.wm h4
          have H1:=H.setObj hr z (o':=.deferred none) (fun _ _ h=>by cases h) (fun _ _ h=>by cases h) rfl (.deferred none) X ⟨rfl,X⟩
          rw[<-Tr.nT]at H1
          refine(yf ok ih k ds j _ G g _ {fr with defers:=j} fs H1 hg D hm rfl).mono fun f' h=>?_
          rcases h with h|⟨eZ,e5,h,w',g',R,E,st⟩
          · exact .inl h
          · exact .inr ⟨eZ,e5,h,w',g',R,(lI.putObj z _).trans E,.head (ER hm he ac) st⟩
    |_=>exact fail _ fun Z=>by simp[lK,hr]
  |fn fn cap=>
   cases fn with
   |func f=>
    cases h1 with
    |@fn _ _ y _ B hy hx=>
    cases hf:e.F f with
    |none=>exact fail _ fun Z=>by simp[lK,hf]
    |some fi=>
     cases A:HT e.T fi with
     |true=>
      have b:(fun Z=>lK e rec (⟨.fn (.func f) cap,u⟩::ds) O G Z k)=fun Z=>lK e rec ds O G Z k:=by funext Z;simp[lK,hf,A]
      rw[b]
      obtain⟨v',w1,g1,H1,m,st1⟩:=Oj ok H hf A (B++y)
      obtain⟨fn,f1,f2,f3,f4,f5,f6,f7,f8⟩:=ok.F f fi hf
      refine(yf ok ih k ds j O G g1 w1 {fr with defers:=j} fs H1 (hg.mono m.ext.le) (D.mono m.ext.le) hm rfl).mono fun f' h=>?_
      rcases h with h|⟨eZ,e5,h,w',g',R,E,st⟩
      · exact .inl h
      · refine .inr ⟨eZ,e5,h,w',g',R,m.trans E,?_⟩
        obtain⟨W,s1,m1,d1,L,_,S,M,r1⟩:=st1 {fr with defers:=j} fs hm
        exact .head (ES f1 f2 f5 hm he) (s1.trans (.head (Aj m1 d1 L M r1 hm) st))
     |false=>
     have b:(fun Z=>lK e rec (⟨.fn (.func f) cap,u⟩::ds) O G Z k)=fun Z=>EJ e rec f (u.toList++cap.toList) O G Z (fun _ O G Z=>lK e rec ds O G Z k):=by funext Z;simp[lK,hf,A]
     rw[b]
     obtain⟨fn,f1,f2,f3,f4,f5,f6,f7,f8⟩:=ok.F f fi hf
     have hl:gV g (u.toList++cap.toList) (B++y).toList:=by
      rw[Array.toList_append];exact hx.toList.append hy.toList
     refine(Oi ok ih H hg hl .deferred ({fr with defers:=j}::fs) ⟨fi,hf⟩ _).bind fun f' h=>?_
     rcases h with h|⟨v,J,K,h,C⟩
     · exact .dead h
     · have aa:=C
       obtain⟨v',w1,g1,H1,_,m,W,s1,m1,d1,L,_,S,M,r1⟩:=aa
       have b:f'=fun Z=>lK e rec ds J K Z k:=funext h
       rw[b]
       refine(yf ok ih k ds j J K g1 w1 {fr with defers:=j} fs H1 (hg.mono m.ext.le) (D.mono m.ext.le) hm rfl).mono fun f' h=>?_
       rcases h with h|⟨eZ,e5,h,w',g',R,E,st⟩
       · exact .inl h
       · exact .inr ⟨eZ,e5,h,w',g',R,m.trans E,.head (ES f1 f2 f5 hm he) (s1.trans (.head (Aj m1 d1 L M r1 hm) st))⟩
   |_=>exact fail _ fun Z=>by simp[lK]
def r9(P:Program)(ng:Nat)(B0:Nat)(w0:World)(e:Env):Prop:=
 ∀f j,e.K f=some j->(∃fn c,P.funcs[f]?=some fn/\fn.body=some c/\(fn.name== "runtime.NumGoroutine")=false)/\
  ∀(l:List Value) (args:Array Value) (O:Ht) (G:Nat) (g:Gm) (w:World),gm B0 w0 g O.get G w->k_ g ng->gV g l args.toList->
   (∀Z k b,j.run l O G Z k b=b)\/∃m:List Nat->KC->R,(∀Z k b,j.run l O G Z k b=m Z k)/\∀fs,tL P B0 w0 .normal g G f args w fs m
theorem tL.fail{kind:CallKind}{f:FuncId}{args:Array Value}{fs:List Frame}{run:List Nat->KC->R}(h:∀Z k,run Z k=.gk 0):tL P B0 w0 kind g G f args w fs run:=fun k=>.dead fun Z=>⟨0,h Z k⟩
theorem Ge(ok:mP P ng e)(ih:oM P ng B0 w0 rec)(H:gm B0 w0 g O.get G w)(hg:k_ g ng){f:FuncId}{l:List Value}{args:Array Value}(hl:gV g l args.toList)(fs:List Frame):
 tL P B0 w0 .normal g G f args w fs fun Z k=>ue e rec f l O G Z k:=by
 cases hf:e.F f with
 |none=>exact .fail fun Z k=>by simp only[ue,hf]
 |some fi=>
  intro k
  have h0:(fun Z=>ue e rec f l O G Z k)=fun Z=>sI rec f fi l O G Z (fun ds I O G Z=>lK e rec ds O G Z (fun O G Z=>yQ e.T fi I k O G Z)):=by funext Z;simp only[ue,hf]
  rw[h0]
  refine(Gd ok ih H hg hf hl .normal fs _).bind fun f' h=>?_
  rcases h with h|⟨ds,I,j,m,h,B⟩
  · exact .dead h
  · have o:f'=fun Z=>lK e rec ds j m Z (fun O G Z=>yQ e.T fi I k O G Z):=funext h
    rw[o]
    have B':=B
    obtain⟨a',w1,g1,H1,C,A,p,fr,s1,b⟩:=B'
    refine(yf ok ih _ ds a'.defers j m g1 w1 fr fs H1 (hg.mono p.ext.le) A b.mode b.defers).mono fun f' h=>?_
    rcases h with h|⟨jq,oT,h,z,g2,y,u,st2⟩
    · exact .inl h
    · cases hr:mS e.T jq.get I fi.ud with
      |none=>exact .inl fun Z=>⟨0,by rw[h];simp[yQ,hr]⟩
      |some vs=>
       refine .inr ⟨qE vs,jq,oT,fun Z=>by rw[h];simp[yQ,hr],?_⟩
       obtain⟨fn,f1,f2,f3,f4,f5,f6,f7,f8⟩:=ok.F f fi hf
       obtain⟨v',r1,r2⟩:=D5 ok.T y (C.mono u.ext.le) f4 f8 hr
       refine⟨v',z,g2,y,r2,p.trans u,{fr with defers:=[]},s1.trans st2,b.mode,rfl,b.kind,b.fn,fn,?_,?_⟩
       · show P.funcs[fr.fn]?=_;rw[b.fn];exact f1
       · show(results fn fr.tmps).run P z=_;rw[b.tmps];exact r1
theorem zk(ok:mP P ng e)(mX:r9 P ng B0 w0 e)(ih:oM P ng B0 w0 rec)(H:gm B0 w0 g O.get G w)(hg:k_ g ng){f:FuncId}{l:List Value}{args:Array Value}(hl:gV g l args.toList)(fs:List Frame):
 tL P B0 w0 .normal g G f args w fs fun Z k=>nh e rec f l O G Z k:=by
 cases hk:e.K f with
 |none=>
  have h0:(fun Z k=>nh e rec f l O G Z k)=fun Z k=>ue e rec f l O G Z k:=by funext Z k;simp only[nh,hk]
  rw[h0];exact Ge ok ih H hg hl fs
 |some b=>
  rcases(mX f b hk).2 l args O G g w H hg hl with h|⟨j,h,hs⟩
  · have h0:(fun Z k=>nh e rec f l O G Z k)=fun Z k=>ue e rec f l O G Z k:=by funext Z k;simp only[nh,hk,h]
    rw[h0];exact Ge ok ih H hg hl fs
  · have h0:(fun Z k=>nh e rec f l O G Z k)=j:=by funext Z k;simp only[nh,hk,h]
    rw[h0];exact hs fs
end
end
end Sw
namespace Sw
noncomputable section
open Go Go.RowKit
def G4(P:Program):Next->Option Frame
 |.enter f args=>some (Frame.enter P f args .normal)
 |.round l f tmps assign body=>some (Frame.round l f tmps assign body .normal)
 |_=>none
def RA(P:Program)(B0:Nat)(w0:World)(g:Gm)(G:Nat)(e:Next)(w:World)(v:Value)(eZ:Ht)(e5:Nat)(c:Frame)(fs:List Frame):Prop:=
 ∃v' w' g' b,gm B0 w0 g' eZ.get e5 w'/\fK g' v v'/\lI g G w g' e5 w'/\G4 P e=some b/\Steps P (lone b (c::fs) w) (lone (c.finish v') fs w')
def qi(P:Program)(B0:Nat)(w0:World)(g:Gm)(G:Nat)(s:Sem Next)(w:World)(c:Frame)(fs:List Frame)(run:List Nat->KC->R):Prop:=
 ∀k:KC,lV (fun Z=>run Z k) fun f'=>zV f'\/∃v eZ e5,(∀Z,f' Z=k v eZ e5 Z)/\∃b,s.run P w=.ok b w/\RA P B0 w0 g G b w v eZ e5 c fs
section
variable {P:Program}{ng:Nat}{e:Env}{B0:Nat}{w0:World}{b:Frame}{nt:Nat}{g:Gm}{G:Nat}{a:Act}{w:World}{I:Tm}{O:Ht}{rec:Rec}
theorem qi.fail{s:Sem Next}{c:Frame}{fs:List Frame}{run:List Nat->KC->R}(h:∀Z k,run Z k=.gk 0):qi P B0 w0 g G s w c fs run:=fun k=>.dead fun Z=>⟨0,h Z k⟩
theorem qi.enter{f:FuncId}{args:Array Value}{s:Sem Next}{c:Frame}{fs:List Frame}{run:List Nat->KC->R}(h:tL P B0 w0 .normal g G f args w (c::fs) run)(hs:s.run P w=.ok (.enter f args) w):qi P B0 w0 g G s w c fs run:=by
 intro k
 refine(h k).mono fun f' h=>?_
 rcases h with h|⟨v,eZ,e5,h,v',w',g',H,V,E,fr,s1,m1,d1,b,_,fn,e,r1⟩
 · exact .inl h
 · exact .inr ⟨v,eZ,e5,h,_,hs,v',w',g',_,H,V,E,rfl,s1.trans (.one (step_leave_returned ⟨m1,d1,b,fn,e,r1⟩))⟩
theorem D7{g:Gm}{nt:Nat}(hn:nt<=512):∀(ps:List Tmp) (oz b:List Value) (t t1:Tm) (tmps:Array Value),rS g nt t tmps->gV g oz b->ps.all (Nat.blt · nt)=true->vD ps oz t=some t1->
 b.length=ps.length/\rS g nt t1 ((ps.zip b).foldl (fun tmps (x:Tmp×Value)=>tmps.setIfInBounds x.1 x.2) tmps)
 |[],[],b,t,t1,tmps,e,hl,_,h=>by
  cases h
  have:=hl.1
  cases b with
  |nil=>exact⟨rfl,e⟩
  |cons=>cases this
 |[],_::_,_,_,_,_,_,_,_,h=>by cases h
 |_::_,[],_,_,_,_,_,_,_,h=>by cases h
 |p::ps,v::oz,b,t,t1,tmps,e,hl,O,h=>by
  cases b with
  |nil=>cases hl.1
  |cons v' b=>
   rw[List.all_cons,Bool.and_eq_true]at O
   simp only[vD]at h
   have h1:rS g nt ((kh (some p)).run t v) (tmps.setIfInBounds p v'):=by
    have:=rS.put (a:=⟨tmps,[]⟩) e hn (d:=some p) O.1 hl.head
    exact this
   obtain⟨j,m⟩:=D7 hn ps oz b _ t1 _ h1 hl.tail O.2 h
   exact⟨by simp[j],m⟩
theorem gm.ET(H:gm B0 w0 g O.get G w){l:Nat}{r:sU Tm}(h:O.get l=some (.loop r)){rl ro:Nat}(hb:g.fW l=some (rl,ro)):
 ∃b,ro=0/\w.heap[rl]?=some (.loop b)/\B0<=rl/\s9 g r b:=by
 obtain⟨jo,a2,a3⟩:=(H.live _ _ h).2 _ _ hb
 cases jo<;>first|exact a3.elim|skip
 obtain⟨rfl,e,j⟩:=a3
 exact⟨_,rfl,a2,e,j⟩
theorem run_getLoop{rl:Nat}{r:Loop}(h:w.heap[rl]?=some (.loop r)):(Instr.getLoop rl).run P w=.ok r w:=by
 unfold Instr.getLoop
 rw[fk (oy h (fun _ _ _ h=>by cases h))];rfl
theorem Jh{r:Loop}:∀c e f,Obj.loop r≠.cells c e f:=fun _ _ _ h=>by cases h
theorem gm.Ji(H:gm B0 w0 g O.get G w){l rl:Nat}{r r1:sU Tm}{b:Loop}(h:O.get l=some (.loop r))(hb:g.fW l=some (rl,0))(e:B0<=rl)(hr:s9 g r1 b):
 gm B0 w0 g (O.set l (some (.loop r1))).get G (w.putObj rl (.loop b)):=by
 rw[Tr.nT]
 exact H.setObj h hb (fun _ _ h=>by cases h) (fun _ _ h=>by cases h) rfl (.loop b) e ⟨rfl,e,hr⟩
theorem KW{rl:Nat}{r:Loop}{k:List Item}{Z:List Frame}(hr:b.roundOf=some rl)(h:w.heap[rl]?=some (.loop r))(hs:r.state=.ready):
 step P (lone (At b a (.beginRound::k)) Z w)=.next (lone (At b a k) Z (w.putObj rl (.loop {r with state:=.busy}))):=by
 have e:(Instr.beginRound rl).run P w=.ok () (w.putObj rl (.loop {r with state:=.busy})):=by
  unfold Instr.beginRound
  rw[fk (run_getLoop h),fk (qf _ h Jh),hs];rfl
 refine step_lone_go ?_
 simp[stepG,stepG.exec,At,hr,stepG.apply,e,Frame.finish]
theorem run_endRound{rl:Nat}{r:Loop}(j:Option Code)(h:w.heap[rl]?=some (.loop r)):
 (Instr.endRound rl j).run P w=.ok (.bool j.isNone) (w.putObj rl (.loop {r with state:=if j.isNone then .ready else .done,pending:=j})):=by
 unfold Instr.endRound
 rw[fk (run_getLoop h),fk (qf _ h Jh)];rfl
theorem yV{id:Nat}:∀k,AO id k->exitTo id k=none
 |[],_=>rfl
 |x::k,h=>by
  cases x<;>first|exact yV k h|skip
  rename_i i
  obtain⟨h1,D⟩:=h
  show(if i==id then some k else exitTo id k)=_
  rw[if_neg (by simpa using h1)]
  exact yV k D
theorem Ol{rl:Nat}{r:Loop}{o:Nat}{todo:List Item}{c:Frame}{Z:List Frame}(hr:b.roundOf=some rl)(hk:b.kind=.normal)(h:w.heap[rl]?=some (.loop r))(he:Ends o [] todo):
 step P (lone (At b a todo) (c::Z) w)=.next (lone (c.finish (.bool (Nat.beq o 0))) Z (w.putObj rl (.loop {r with state:=(bif Nat.beq o 0 then .ready else .done),pending:=wY o}))):=by
 match o,he with
 |0,he=>
  have he:todo=[]:=he
  subst he
  refine step_lone_go ?_
  have:=run_endRound (P:=P) none h
  simp[stepG,stepG.exec,At,hr,this,doReturn,hk,wY]
 |1,he=>
  obtain⟨e,rfl⟩:=he
  refine step_lone_go ?_
  have:=run_endRound (P:=P) (some .ret) h
  simp[stepG,stepG.exec,At,hr,this,doReturn,hk,wY]
  exact⟨rfl,rfl⟩
 |i+2,he=>
  obtain⟨e,rfl,hn⟩:=he
  refine step_lone_go ?_
  have:=run_endRound (P:=P) (some (.exit i)) h
  have hx:=yV e hn
  simp[stepG,stepG.exec,At,hr,this,doReturn,hk,wY,hx]
  exact⟨rfl,rfl⟩
end
end
end Sw
namespace Sw
noncomputable section
open Go Go.RowKit
section
variable {P:Program}{ng:Nat}{e:Env}{B0:Nat}{w0:World}{b:Frame}{nt:Nat}{g:Gm}{G:Nat}{a:Act}{w:World}{I:Tm}{O:Ht}{rec:Rec}
theorem s9.ZR{r:sU Tm}{b:Loop}(h:s9 g r b)(s:LoopState)(p:Option Code):s9 g {r with state:=s,pending:=p} {b with state:=s,pending:=p}:=by
 obtain⟨_,_,c⟩:=h
 exact⟨rfl,rfl,c⟩
theorem s9.Ke{r:sU Tm}{b:Loop}(h:s9 g r b)(s:LoopState):s9 g {r with state:=s} {b with state:=s}:=by
 obtain⟨_,p,c⟩:=h
 exact⟨rfl,p,c⟩
theorem run_yield{rl:Nat}{r:Loop}{oz:Array Value}(h:w.heap[rl]?=some (.loop r))(hs:oz.size=r.params.size):
 (Instr.yield rl oz).run P w=.ok (.round rl r.fn ((r.params.zip oz).foldl (fun tmps (x:Tmp×Value)=>tmps.setIfInBounds x.1 x.2) r.tmps) r.assign r.body) w:=by
 unfold Instr.yield
 rw[fk (run_getLoop h)]
 simp[hs]
theorem Om(ih:oM P ng B0 w0 rec)(hg:k_ g ng)(H:gm B0 w0 g O.get G w){l rl:Nat}(hl:g.fW l=some (rl,0)){oz:List Value}{u:Array Value}(aB:gV g oz u.toList)(c:Frame)(fs:List Frame):
 qi P B0 w0 g G (Instr.yield rl u) w c fs fun Z k=>qg e rec l oz O G Z k:=by
 have fail:∀{s:Sem Next},(∀Z k,qg e rec l oz O G Z k=.gk 0)->qi P B0 w0 g G s w c fs fun Z k=>qg e rec l oz O G Z k:=fun h=>.fail h
 cases hr:O.get l with
 |none=>exact fail fun Z k=>by simp only[qg,hr]
 |some ob=>
  cases ob<;>first|(refine fail ?_;intro Z k;simp only[qg,hr];done)|skip
  rename_i r
  obtain⟨j,_,hw,aK,L⟩:=H.ET hr hl
  cases hb:Nat.ble e.low l with
  |false=>exact fail fun Z k=>by simp only[qg,hr,hb,cond_false]
  |true=>
   cases hs:vD r.params oz r.tmps with
   |none=>exact fail fun Z k=>by simp only[qg,hr,hb,cond_true,hs]
   |some t=>
    have L':=L
    obtain⟨aL,aM,aC,aD,ap,aE,aF,aN,ac,am,an,ao⟩:=L'
    have lf:r.fn=j.fn:=aC
    obtain⟨aG,ad⟩:=D7 ac r.params oz u.toList r.tmps t j.tmps aD aB ao hs
    intro k
    let b:=(j.params.zip u).foldl (fun tmps (x:Tmp×Value)=>tmps.setIfInBounds x.1 x.2) j.tmps
    have aj:u.size=j.params.size:=by simpa[ap]using aG
    have ad:rS g r.nt t b:=by
     have e:b=(r.params.zip u.toList).foldl (fun tmps (x:Tmp×Value)=>tmps.setIfInBounds x.1 x.2) j.tmps:=by
      simp only[b,<-Array.foldl_toList,Array.toList_zip,ap]
     rw[e];exact ad
    let E:Frame:=Frame.round rl j.fn b j.assign j.body .normal
    let a0:Act:=⟨b,[]⟩
    have az:vE B0 w0 g r.nt ⟨t,[],O,G,[]⟩ a0 w:=⟨H,ad,⟨rfl,fun i d d' h=>by simp at h⟩⟩
    have ye:=ih ⟨r.fn,r.nt,some l⟩ r.assign ⟨t,[],O,G,[]⟩ E a0 w g lf.symm ⟨rl,rfl,hl⟩ hg ac am az [.beginRound,.code j.body] (c::fs)
    refine lV.map (f2:=fun Z=>qg e rec l oz O G Z k) ye (fun p m h=>?_) fun pre h=>?_
    · have h:rec ⟨r.fn,r.nt,some l⟩ r.assign ⟨t,[],O,G,p⟩=.gk m:=h
      simp[qg,hr,hb,hs,h]
    · rcases h with h|⟨o,s1,h,ax⟩
      · refine .dead fun Z=>?_
        obtain⟨m,h⟩:=h Z
        have h:rec ⟨r.fn,r.nt,some l⟩ r.assign ⟨t,[],O,G,pre++Z⟩=.gk m:=h
        exact⟨m,by simp[qg,hr,hb,hs,h]⟩
      · have h:∀Z,rec ⟨r.fn,r.nt,some l⟩ r.assign ⟨t,[],O,G,pre++Z⟩=.ok (o,s1.at Z):=h
        cases o with
        |succ o=>exact .dead fun Z=>⟨0,by simp[qg,hr,hb,hs,h,St.at];rfl⟩
        |zero=>
        obtain⟨a1,w1,g1,aa,N,W,F,t1⟩:=ax
        have A:=N.ext.le.1 _ _ hl
        cases y:s1.O.get l with
        |none=>exact .dead fun Z=>⟨0,by simp[qg,hr,hb,hs,h,St.at,y]⟩
        |some ob=>
         cases ob<;>first|(refine .dead ?_;intro Z;refine⟨0,?_⟩;simp[qg,hr,hb,hs,h,St.at,y];done)|skip
         rename_i r1
         obtain⟨B,_,ak,ah,ae⟩:=aa.heap.ET y A
         cases K:r1.state<;>first|(refine .dead ?_;intro Z;refine⟨0,?_⟩;simp[qg,hr,hb,hs,h,St.at,y,K];done)|skip
         have ab:B.state=.ready:=by rw[<-ae.1,K]
         have au:=aa.heap.Ji y A ah (ae.Ke .busy)
         have ar:lI g1 s1.G w1 g1 s1.G (w1.putObj rl (.loop {B with state:=.busy})):=lI.putObj A _
         have aA:vE B0 w0 g1 r.nt ⟨s1.I,s1.ds,s1.O.set l (some (.loop {r1 with state:=.busy})),s1.G,[]⟩ a1 (w1.putObj rl (.loop {B with state:=.busy})):=⟨au,aa.act⟩
         have S:=ih ⟨r.fn,r.nt,some l⟩ r.body _ E a1 _ g1 lf.symm ⟨rl,rfl,A⟩ (hg.mono N.ext.le) ac (an.mono N.ext.le) aA [] (c::fs)
         have h3:(fun rest=>qg e rec l oz O G (pre++rest) k)=fun Z=>(match rec ⟨r.fn,r.nt,some l⟩ r.body ⟨s1.I,s1.ds,s1.O.set l (some (.loop {r1 with state:=.busy})),s1.G,Z⟩with
          |.ok (o2,⟨_,ds,O,G,Z⟩)=>(match O.get l,ds with
           |some (.loop r2),[]=>k (.bool (Nat.beq o2 0)) (O.set l (some (.loop {r2 with state:=(bif Nat.beq o2 0 then .ready else .done),pending:=wY o2}))) G Z
           |_,_=>.gk 0)
          |.gk m=>.gk m):=by
          funext Z
          simp[qg,hr,hb,hs,h,St.at,y,K]<;>rfl
         rw[h3]
         refine lV.map S (fun p m h=>?_) fun M h=>?_
         · have h:rec ⟨r.fn,r.nt,some l⟩ r.body ⟨s1.I,s1.ds,s1.O.set l (some (.loop {r1 with state:=.busy})),s1.G,p⟩=.gk m:=h
           simp only[h]
         · refine .here ?_
           rcases h with h|⟨o2,C,h,ay⟩
           · refine .inl fun Z=>?_
             obtain⟨m,h⟩:=h Z
             have h:rec ⟨r.fn,r.nt,some l⟩ r.body ⟨s1.I,s1.ds,s1.O.set l (some (.loop {r1 with state:=.busy})),s1.G,M++Z⟩=.gk m:=h
             exact⟨m,by simp only[h]⟩
           · have h:∀Z,rec ⟨r.fn,r.nt,some l⟩ r.body ⟨s1.I,s1.ds,s1.O.set l (some (.loop {r1 with state:=.busy})),s1.G,M++Z⟩=.ok (o2,C.at Z):=h
             obtain⟨a3,aI,g3,af,R,aq,ag,t3⟩:=ay
             have R:lI g1 s1.G (w1.putObj rl (.loop {B with state:=.busy})) g3 C.G aI:=R
             have J:=R.ext.le.1 _ _ A
             cases z:C.O.get l with
             |none=>exact .inl fun Z=>⟨0,by simp only[h,St.at,z]⟩
             |some ob=>
              cases ob<;>first|(refine .inl ?_;intro Z;refine⟨0,?_⟩;simp only[h,St.at,z];done)|skip
              rename_i aH
              obtain⟨aJ,_,al,ai,aw⟩:=af.heap.ET z J
              cases X:C.ds with
              |cons=>exact .inl fun Z=>⟨0,by simp only[h,St.at,z,X]⟩
              |nil=>
               refine .inr ⟨.bool (Nat.beq o2 0),C.O.set l (some (.loop {aH with state:=(bif Nat.beq o2 0 then .ready else .done),pending:=wY o2})),C.G,fun Z=>by simp only[h,St.at,z,X],_,run_yield hw aj,?_⟩
               have av:=af.heap.Ji z J ai (aw.ZR (bif Nat.beq o2 0 then .ready else .done) (wY o2))
               refine⟨.bool (Nat.beq o2 0),_,g3,E,av,.bool _,(N.trans (ar.trans R)).trans (lI.putObj J _),rfl,?_⟩
               have F:W=[.beginRound,.code j.body]:=F
               subst F
               have t1:Steps P (lone E (c::fs) w) (lone (At E a1 [.beginRound,.code j.body]) (c::fs) w1):=by rw[aE]at t1;exact t1
               rw[aF]at t3
               exact(t1.trans (.one (KW rfl ak ab))).trans (t3.trans (.one (Ol rfl rfl al ag)))
end
end
end Sw
namespace Sw
noncomputable section
open Go Go.RowKit
section
variable {P:Program}{ng:Nat}{e:Env}{B0:Nat}{w0:World}{b:Frame}{nt:Nat}{g:Gm}{G:Nat}{a:Act}{w:World}{I:Tm}{ds:List Deferred}{O:Ht}{rec:Rec}{ops:Array Oper}{i:Nat}{o:Oper}{rest:List Nat}{ks:List Item}{fs:List Frame}{c:Frame}
theorem RB(ok:mP P ng e)(mX:r9 P ng B0 w0 e){f:FuncId}(h:e.K f≠none\/e.F f≠none)(args:Array Value):(callFunc f args).run P w=.ok (.enter f args) w:=by
 cases hk:e.K f with
 |some b=>
  obtain⟨⟨fn,c,h1,D,h3⟩,_⟩:=mX f b hk
  exact Bc h1 D h3 args
 |none=>
  cases hf:e.F f with
  |some fi=>
   obtain⟨fn,f1,f2,f3,f4,f5,_⟩:=ok.F f fi hf
   exact Bc f1 f2 f5 args
  |none=>rcases h with h|h<;>exact absurd (by assumption) h
theorem Gf(ok:mP P ng e)(mX:r9 P ng B0 w0 e)(ih:oM P ng B0 w0 rec)(H:gm B0 w0 g O.get G w)(hg:k_ g ng){f:FuncId}{l:List Value}{args:Array Value}(hl:gV g l args.toList){s:Sem Next}
 (hs:s.run P w=(callFunc f args).run P w):qi P B0 w0 g G s w c fs fun Z k=>nh e rec f l O G Z k:=by
 by_cases h:e.K f≠none\/e.F f≠none
 · exact qi.enter (zk ok mX ih H hg hl _) (hs.trans (RB ok mX h args))
 · have h1:e.K f=none:=by cases hk:e.K f with|none=>rfl|some=>exact absurd (.inl (by rw[hk];simp)) h
   have D:e.F f=none:=by cases hk:e.F f with|none=>rfl|some=>exact absurd (.inr (by rw[hk];simp)) h
   exact .fail fun Z k=>by simp only[nh,ue,h1,D]
def AP(f:Value)(args:Array Value):Sem Next:=do let d<-Deferred.ofValue f args;invoke d.target d.args
theorem HY(ok:mP P ng e)(mX:r9 P ng B0 w0 e)(ih:oM P ng B0 w0 rec)(H:gm B0 w0 g O.get G w)(hg:k_ g ng){f f':Value}(hf:fK g f f'){l:List Value}{args:Array Value}(hl:gV g l args.toList):
 qi P B0 w0 g G (AP f' args) w c fs fun Z k=>BK e rec f l O G Z k:=by
 cases hf with
 |@func f x x' y y' hx hy kx ky=>
  refine Gf ok mX ih H hg (f:=f) (l:=x.toList++l++y.toList) (args:=x'++args++y') ?_ rfl
  rw[Array.toList_append,Array.toList_append]
  exact((sf.toList ⟨hx,kx⟩).append hl).append (sf.toList ⟨hy,ky⟩)
 |@AK b rl h=>
  have:=Om (e:=e) ih hg H h hl c fs
  have e1:AP (.func (.yield rl) #[] #[]) args=Instr.yield rl args:=by
   show Instr.yield rl (#[]++args)=_
   simp
  rw[e1];exact this
 |_=>exact .fail fun Z k=>rfl
theorem Qd(ok:mP P ng e)(mX:r9 P ng B0 w0 e)(ih:oM P ng B0 w0 rec)(H:gm B0 w0 g O.get G w)(hg:k_ g ng){r b:Value}(hr:fK g r b)(name:String){l:List Value}{args:Array Value}(hl:gV g l args.toList):
 qi P B0 w0 g G (invoke (.fn (.method name) #[]) (#[b]++args)) w c fs fun Z k=>FO e rec r name l O G Z k:=by
 cases hr with
 |@iface t v v' j=>
  cases hm:e.M t name with
  |none=>exact .fail fun Z k=>by simp only[FO,hm]
  |some f=>
   have h0:(fun Z (k:KC)=>FO e rec (.iface t v) name l O G Z k)=fun Z k=>nh e rec f (v::l) O G Z k:=by funext Z k;simp only[FO,hm]
   rw[h0]
   refine Gf ok mX ih H hg (f:=f) (l:=v::l) (args:=#[v']++args) ?_ ?_
   · rw[Array.toList_append];exact gV.cons j hl
   · have e1:(#[Value.iface t v']++args)[0]?=some (.iface t v'):=by rw[Array.getElem?_append_left (by simp)];rfl
     have e2:(#[Value.iface t v']++args).extract 1 (#[Value.iface t v']++args).size=args:=by
      apply Array.toList_inj.1;simp
     have h1:(method (P.types.size+Made.depth) t v' name).run P w=.ok (f,v') w:=ok.M t name f hm v' w
     unfold invoke
     simp only[e1,e2]
     unfold callMethod
     have D:(program:Sem Program).run P w=.ok P w:=rfl
     simp only
     rw[fk D,fk h1]
 |_=>exact .fail fun Z k=>rfl
theorem Qe{e:Next}{j:Frame}{k:List Item}{Z:List Frame}{rest:List Nat}(m:ops[i]?=some o)(hw:Region.wanted o (yielded ops a.tmps)=true)(hr:b.roundOf=none\/qF o.op=true)
 (h:(execOp a.eval o).run P w=.ok e w) (hc:G4 P e=some j):
 step P (lone (At b a (.inRegion ops (i::rest)::k)) Z w)=.next (lone j (At b a (.inRegion ops (i::rest)::k)::Z) w):=by
 refine step_lone_go ?_
 rw[HW m hw hr]
 cases e<;>first|(cases hc;done)|skip
 · cases hc;simp[stepG.apply,h,At]
 · cases hc;simp[stepG.apply,h,At]
theorem qi.op(hd:ny g ds a.defers)(m:ops[i]?=some o)(hw:Region.wanted o (yielded ops a.tmps)=true)(hr:b.roundOf=none\/qF o.op=true){s:Sem Next}(hs:(execOp a.eval o).run P w=s.run P w)
 {run:List Nat->KC->R} (h:qi P B0 w0 g G s w (At b a (.inRegion ops (i::rest)::ks)) fs run):
 uf P B0 w0 b g I G ops i o.dst a w rest ks fs fun Z k=>run Z (fun v O G Z=>k ⟨(kh o.dst).run I v,ds,O,G,Z⟩):=by
 intro k
 refine(h (fun v O G Z=>k ⟨(kh o.dst).run I v,ds,O,G,Z⟩)).mono fun f' h=>?_
 rcases h with h|⟨v,eZ,e5,h,z,h1,v',w',g',y,p,u,j,hc,st⟩
 · exact .inl h
 · refine .inr ⟨v,ds,eZ,e5,h,v',a.defers,w',g',p,u,hd.mono j.ext.le,j,?_⟩
   have e:=At.finish b a ops i rest ks v'
   rw[m]at e
   have e:(At b a (.inRegion ops (i::rest)::ks)).finish v'=At b (a.put o.dst v') (.inRegion ops rest::ks):=e
   have:=(Steps.one (Qe (k:=ks) (Z:=fs) (rest:=rest) m hw hr (hs.trans h1) hc)).trans st
   rw[e]at this
   exact this
theorem Wj(ok:mP P ng e)(mX:r9 P ng B0 w0 e)(ih:oM P ng B0 w0 rec)(H:gm B0 w0 g O.get G w)(hg:k_ g ng)(hd:ny g ds a.defers)(z:ops[i]?=some o)(hw:Region.wanted o (yielded ops a.tmps)=true)
 {c:Call} (j:o.op=.call c) (y:vt g I a.eval o.op.operands.toList) (fm:Fm):
 uf P B0 w0 b g I G ops i o.dst a w rest ks fs fun Z k=>(qh o.op o.dst).run e rec fm I ds O G Z k:=by
 have hr:b.roundOf=none\/qF o.op=true:=.inr (by rw[j];rfl)
 rw[j]at y
 have p:gV g (runs (sZ c.args.toList) I) (c.args.map a.eval).toList:=by
  rw[Array.toList_map]
  exact yU c.args.toList fun x hx=>y x (by simp only[Op.operands,Call.operands];cases c.callee<;>simp[hx])
 rw[j]
 cases hc:c.callee with
 |value f=>
  have hf:fK g ((fV f).run I) (a.eval f):=y f (by simp[Op.operands,Call.operands,hc])
  have h0:(fun(Z:List Nat) (k:St->R)=>(qh (.call c) o.dst).run e rec fm I ds O G Z k)=fun Z k=>BK e rec ((fV f).run I) (runs (sZ c.args.toList) I) O G Z (fun v O G Z=>k ⟨(kh o.dst).run I v,ds,O,G,Z⟩):=by
   funext Z k;simp only[qh,hc];rfl
  rw[h0]
  refine qi.op hd z hw hr (s:=AP (a.eval f) (c.args.map a.eval)) ?_ (HY ok mX ih H hg hf p)
  simp only[execOp,j,resolve,hc];rfl
 |invoke r m=>
  have hf:fK g ((fV r).run I) (a.eval r):=y r (by simp[Op.operands,Call.operands,hc])
  have h0:(fun(Z:List Nat) (k:St->R)=>(qh (.call c) o.dst).run e rec fm I ds O G Z k)=fun Z k=>FO e rec ((fV r).run I) m (runs (sZ c.args.toList) I) O G Z (fun v O G Z=>k ⟨(kh o.dst).run I v,ds,O,G,Z⟩):=by
   funext Z k;simp only[qh,hc];rfl
  rw[h0]
  refine qi.op hd z hw hr (s:=invoke (.fn (.method m) #[]) (#[a.eval r]++c.args.map a.eval)) ?_ (Qd ok mX ih H hg hf m p)
  simp only[execOp,j,resolve,hc];rfl
 |builtin u=>
  have h0:(fun(Z:List Nat) (k:St->R)=>(qh (.call c) o.dst).run e rec fm I ds O G Z k)=fun Z k=>bi u e.T O.get G c.argTypes.toList (runs (sZ c.args.toList) I) (fun v=>k ⟨(kh o.dst).run I v,ds,O,G,Z⟩) (tK (kh o.dst).run e.low I ds O G Z k):=by
   funext Z k;simp only[qh,hc];rfl
  rw[h0]
  refine kR.ye (run:=fun B A=>bi u e.T O.get G c.argTypes.toList (runs (sZ c.args.toList) I) B A) H hd z hw hr (fun B A=>?_)
  have:=Mf (n:=G) ok.T H (b:=u) (ts:=c.argTypes.toList) p o.type (c.args.map fun|.const _=>true|_=>false) B A
  have e1:(execOp a.eval o).run P w=(Go.builtin u c.argTypes.toList.toArray o.type (c.args.map fun|.const _=>true|_=>false) (c.args.map a.eval).toList.toArray).run P w:=by
   simp only[execOp,j,resolve,hc];rfl
  rw[e1];exact this
end
end
end Sw
namespace Sw
noncomputable section
open Go Go.RowKit
section
variable {P:Program}{ng:Nat}{e:Env}{B0:Nat}{w0:World}{b:Frame}{nt:Nat}{g:Gm}{G:Nat}{a:Act}{w:World}{I:Tm}{ds:List Deferred}{O:Ht}{rec:Rec}{ops:Array Oper}{i:Nat}{o:Oper}{rn:Option Nat}{rest:List Nat}{ks:List Item}{fs:List Frame}
theorem uf.fail{dst:Option Tmp}{run:List Nat->(St->R)->R}(h:∀Z k,run Z k=.gk 0):uf P B0 w0 b g I G ops i dst a w rest ks fs run:=fun k=>.dead fun Z=>⟨0,h Z k⟩
theorem Qf{d:Deferred}{k:List Item}{Z:List Frame}{rest:List Nat}(j:ops[i]?=some o)(hw:Region.wanted o (yielded ops a.tmps)=true)(hr:b.roundOf=none)
 (h:(execOp a.eval o).run P w=.ok (.defer d) w):
 step P (lone (At b a (.inRegion ops (i::rest)::k)) Z w)=.next (lone (At b ({a with defers:=d::a.defers}.put o.dst undef) (.inRegion ops rest::k)) Z w):=by
 refine step_lone_go ?_
 rw[HW j hw (.inl hr)]
 have e:=At.finish b {a with defers:=d::a.defers} ops i rest k undef
 rw[j]at e
 have e:(At b {a with defers:=d::a.defers} (.inRegion ops (i::rest)::k)).finish undef=At b ({a with defers:=d::a.defers}.put o.dst undef) (.inRegion ops rest::k):=e
 rw[<-e]
 simp[stepG.apply,h,At]
theorem T0(hg:xj g b rn)(H:gm B0 w0 g O.get G w)(hd:ny g ds a.defers)(F:ops[i]?=some o)(hw:Region.wanted o (yielded ops a.tmps)=true)
 {c:Call} (m:o.op=.defer c) (A:vt g I a.eval o.op.operands.toList) (f:FuncId) (nt:Nat):
 uf P B0 w0 b g I G ops i o.dst a w rest ks fs fun Z k=>(qh o.op o.dst).run e rec ⟨f,nt,rn⟩ I ds O G Z k:=by
 rw[m]at A
 rw[m]
 have h0:(fun(Z:List Nat) (k:St->R)=>(qh (.defer c) o.dst).run e rec ⟨f,nt,rn⟩ I ds O G Z k)=fun Z k=>(match yR c ⟨f,nt,rn⟩ I with
  |some x=>k ⟨(kh o.dst).run I undef,x::ds,O,G,Z⟩
  |none=>.gk 0):=by funext Z k;rfl
 rw[h0]
 cases rn with
 |some l=>exact .fail fun Z k=>by simp[yR]
 |none=>
 have hg:b.roundOf=none:=hg
 cases hc:c.callee with
 |invoke=>exact .fail fun Z k=>by simp[yR,hc]
 |builtin=>exact .fail fun Z k=>by simp[yR,hc]
 |value fv=>
  have z:gV g (runs (sZ c.args.toList) I) (c.args.map a.eval).toList:=by
   rw[Array.toList_map]
   exact yU c.args.toList fun x hx=>A x (by simp only[Op.operands,Call.operands];cases c.callee<;>simp[hx])
  have hf:fK g ((fV fv).run I) (a.eval fv):=A fv (by simp[Op.operands,Call.operands,hc])
  generalize C:(fV fv).run I=v at hf
  generalize E:a.eval fv=v' at hf
  cases hf with
  |@func u x x' y y' hx hy kx ky=>
   intro k
   refine .here (.inr ⟨undef,⟨.fn (.func u) y,(x.toList++runs (sZ c.args.toList) I).toArray⟩::ds,O,G,fun Z=>by simp[yR,hc,C],undef,⟨.fn (.func u) y',x'++c.args.map a.eval⟩::a.defers,w,g,H,fK.undef g,?_,lI.refl _ _ _,?_⟩)
   · have B:B6 g ⟨.fn (.func u) y,(x.toList++runs (sZ c.args.toList) I).toArray⟩ ⟨.fn (.func u) y',x'++c.args.map a.eval⟩:=by
      refine .fn ⟨hy,ky⟩ ?_
      have:=(gV.append (sf.toList ⟨hx,kx⟩) z).toArray
      have e:(x'.toList++(c.args.map a.eval).toList).toArray=x'++c.args.map a.eval:=by apply Array.toList_inj.1;simp
      rw[e]at this;exact this
     refine⟨by simp[hd.1],fun j d d' e p=>?_⟩
     cases j with
     |zero=>simp at e p;subst e;subst p;exact B
     |succ j=>simp at e p;exact hd.2 j d d' e p
   · refine .one (Qf F hw hg ?_)
     simp only[execOp,m,resolve,hc,E];rfl
  |_=>exact .fail fun Z k=>by simp[yR,hc,C]
end
end
end Sw
namespace Sw
noncomputable section
open Go Go.RowKit
theorem kP.cons_inv{g:Gm}{e:MapEntry}{x y:List MapEntry}(h:kP g (e::x) y):∃j x',y=j::x'/\(fK g e.key j.key/\fK g e.val j.val/\e.born=j.born)/\kP g x x':=by
 cases y with
 |nil=>cases h.1
 |cons j x'=>exact⟨j,x',rfl,h.2 0 e j rfl rfl,by have:=h.1;simpa using this,fun i u m a b=>h.2 (i+1) u m (by simpa using a) (by simpa using b)⟩
theorem kP.wm{g:Gm}{y:List MapEntry}(h:kP g [] y):y=[]:=by have:=h.1;cases y<;>first|rfl|cases this
theorem kP.append{g:Gm}{x x' y y':List MapEntry}(h:kP g x x')(k:kP g y y'):kP g (x++y) (x'++y'):=by
 induction x generalizing x' with
 |nil=>cases h.wm;exact k
 |cons e x ih=>
  obtain⟨b,j,rfl,h1,D⟩:=h.cons_inv
  exact kP.cons h1 (ih D)
theorem D8(n:Nat):∀l:List Nat,PW n l=l.contains n
 |[]=>rfl
 |x::xs=>by
  simp only[PW,List.contains_cons,D8 n xs]
  congr 1
  cases h:Nat.beq x n with
  |true=>have:=fj h;subst this;simp
  |false=>
   have:¬n=x:=fun e=>by subst e;simp at h
   simp[this]
theorem EU{g:Gm}(seen:List Nat)(jm:Nat)(b:Bool):∀(es m:List MapEntry),kP g es m->
 kP g (Au seen jm b es) ((m.filter fun e=>!seen.contains e.born).filter fun e=>if b then decide (e.born<jm)else decide (jm<=e.born))
 |[],m,h=>by cases h.wm;exact kP.nil
 |e::es,m,h=>by
  obtain⟨j,u,rfl,h1,D⟩:=h.cons_inv
  have ih:=EU seen jm b es u D
  simp only[Au,D8,h1.2.2]
  cases hc:seen.contains j.born with
  |true=>
   have:¬j.born∉seen:=by simpa using hc
   simp only[cond_true]
   rw[List.filter_cons_of_neg (by simpa using hc)]
   exact ih
  |false=>
   simp only[cond_false]
   rw[List.filter_cons_of_pos (by simpa using hc)]
   have hb:(bif Nat.blt j.born jm then b else !b)=(if b then decide (j.born<jm)else decide (jm<=j.born)):=by
    cases jA:Nat.blt j.born jm with
    |true=>
     have:j.born<jm:=fa jA
     cases b<;>simp<;>omega
    |false=>
     have:¬j.born<jm:=fun k=>by
      have D:Nat.blt j.born jm=true:=gh k
      rw[D]at jA;cases jA
     cases b<;>simp<;>omega
   rw[hb]
   cases o:(if b then decide (j.born<jm)else decide (jm<=j.born))with
   |true=>rw[List.filter_cons_of_pos (p:=fun e:MapEntry=>if b then decide (e.born<jm)else decide (jm<=e.born)) o];exact kP.cons h1 ih
   |false=>rw[List.filter_cons_of_neg (p:=fun e:MapEntry=>if b then decide (e.born<jm)else decide (jm<=e.born)) (fun k=>by rw[o]at k;cases k)];exact ih
theorem HZ{g:Gm}(last:Nat):∀(es b:List MapEntry),kP g es b->EF last es=b.all fun e=>decide (last<=e.born)
 |[],b,h=>by cases h.wm;rfl
 |e::es,b,h=>by
  obtain⟨j,m,rfl,h1,D⟩:=h.cons_inv
  simp only[EF,List.all_cons,h1.2.2,HZ last es m D]
  congr 1
  cases hb:Nat.ble last j.born with
  |true=>simp[Nat.le_of_ble_eq_true hb]
  |false=>
   have:¬last<=j.born:=fun k=>by have:=gh k;rw[hb]at this;cases this
   simp[this]
def Dt(g:Gm)(x x':List (Option MapEntry)):Prop:=
 x.length=x'.length/\∀(i:Nat) (e b:Option MapEntry),x[i]?=some e->x'[i]?=some b->match e,b with
  |none,none=>True
  |some e,some b=>fK g e.key b.key/\fK g e.val b.val/\e.born=b.born
  |_,_=>False
theorem Dt.O_{g:Gm}{x x':List MapEntry}(h:kP g x x'):Dt g (x.map some) (x'.map some):=
 ⟨by simp[h.1],fun i e m a b=>by
   rw[List.getElem?_map,Option.map_eq_some_iff]at a b
   obtain⟨u,a1,rfl⟩:=a
   obtain⟨j,b1,rfl⟩:=b
   exact h.2 i u j a1 b1⟩
theorem Dt.RC{g:Gm}{x x':List (Option MapEntry)}(h:Dt g x x'):Dt g (none::x) (none::x'):=
 ⟨by simp[h.1],fun i e j a b=>by
   cases i with
   |zero=>simp at a b;subst a;subst b;trivial
   |succ i=>simp at a b;exact h.2 i e j a b⟩
section
variable {P:Program}{ng:Nat}{e:Env}{B0:Nat}{w0:World}{b:Frame}{nt:Nat}{g:Gm}{G:Nat}{a:Act}{w:World}{I:Tm}{ds:List Deferred}{O:Ht}{rec:Rec}{ops:Array Oper}{i:Nat}{o:Oper}
def yg(es:Array MapEntry)(seen:Array Nat)(jm:Nat):Array (Option MapEntry):=
 let left:=es.filter fun e=>!seen.contains e.born
 let b:=left.filter (·.born<jm)
 let new:=left.filter (·.born>=jm)
 (if b.isEmpty then #[none]else #[])++(b++new).map some
theorem RD{es:List MapEntry}{j:Array MapEntry}{b:Array Nat}{jm last clock:Nat}{l:List (Option MapEntry)}{cl:Nat}{O:Hp}{m:Nat}(h:kP g es j.toList)(hm:O m=some (.map es clock))(hn:FN O m jm b.toList last=some (l,cl)):
 cl=clock/\Dt g l (yg j b jm).toList/\(!b.isEmpty&&!j.isEmpty&&j.all (fun e=>decide (e.born>=last)))=false:=by
 unfold FN at hn
 rw[hm]at hn
 simp only at hn
 have h1:=EU b.toList jm true es j.toList h
 have D:=EU b.toList jm false es j.toList h
 have e1:((j.filter fun e=>!b.contains e.born).filter (·.born<jm)).toList=(j.toList.filter fun e=>!b.toList.contains e.born).filter fun e=>if true then decide (e.born<jm)else decide (jm<=e.born):=by simp
 have e2:((j.filter fun e=>!b.contains e.born).filter (·.born>=jm)).toList=(j.toList.filter fun e=>!b.toList.contains e.born).filter fun e=>if false then decide (e.born<jm)else decide (jm<=e.born):=by simp
 rw[<-e1]at h1
 rw[<-e2]at D
 have o:(!b.toList.isEmpty&&(!es.isEmpty&&EF last es))=(!b.isEmpty&&!j.isEmpty&&j.all (fun e=>decide (e.born>=last))):=by
  rw[HZ last es j.toList h]
  have:es.isEmpty=j.isEmpty:=by
   have:=h.1
   rw[<-Array.isEmpty_toList]
   cases es<;>cases hx:j.toList<;>simp_all
  rw[this,Bool.and_assoc]
  simp
 rw[o]at hn
 cases u:(!b.isEmpty&&!j.isEmpty&&j.all (fun e=>decide (e.born>=last)))with
 |true=>rw[u]at hn;cases hn
 |false=>
  rw[u]at hn
  simp only[cond_false]at hn
  split at hn
  · rename_i p
    cases hn
    refine⟨rfl,?_,rfl⟩
    rw[p]at h1
    have h0:=h1.wm
    have:((j.filter fun e=>!b.contains e.born).filter (·.born<jm)).isEmpty=true:=by rw[<-Array.isEmpty_toList,h0];rfl
    unfold yg
    simp only[this,if_true,Array.toList_append,Array.toList_map,h0,List.nil_append]
    exact Dt.RC (Dt.O_ D)
  · rename_i A p
    cases hn
    refine⟨rfl,?_,rfl⟩
    have:((j.filter fun e=>!b.contains e.born).filter (·.born<jm)).isEmpty=false:=by
     rw[<-Array.isEmpty_toList]
     have:=h1.1
     cases hx:Au b.toList jm true es with
     |nil=>exact absurd hx (by intro hx;exact p hx)
     |cons y B=>
      rw[hx]at this
      cases z:((j.filter fun e=>!b.contains e.born).filter (·.born<jm)).toList with
      |nil=>rw[z]at this;cases this
      |cons=>rfl
    unfold yg
    simp only[this,Bool.false_eq_true,if_false,Array.toList_append,Array.toList_map,List.nil_append]
    exact Dt.O_ (h1.append D)
end
end
end Sw
namespace Sw
noncomputable section
open Go Go.RowKit
section
variable {P:Program}{ng:Nat}{e:Env}{B0:Nat}{w0:World}{b:Frame}{nt:Nat}{g:Gm}{G:Nat}{a:Act}{w:World}{I:Tm}{ds:List Deferred}{O:Ht}{rec:Rec}{ops:Array Oper}{i:Nat}{o:Oper}{rest:List Nat}{ks:List Item}{fs:List Frame}
theorem Jj{m:Option Nat}{s st:Nat}{seen:Array Nat}:∀c e f,Obj.mapIter m s seen st≠.cells c e f:=fun _ _ _ h=>by cases h
theorem XK{es:Array MapEntry}{c:Nat}:∀k e f,Obj.map es c≠.cells k e f:=fun _ _ _ h=>by cases h
theorem Jk(n:Nat):∃c w1,(choose (.mapNext n)).run P w=.ok c w1/\(0<n->c<n)/\(w1=w\/w1=w.drew):=by
 by_cases h:n<=1
 · refine⟨0,w,?_,fun k=>k,.inl rfl⟩
   simp[choose,Sem.run,Question.forced,h]
 · refine⟨w.tape w.drawn (.mapNext n)%n,w.drew,?_,fun k=>Nat.mod_lt _ k,.inr rfl⟩
   simp[choose,Sem.run,Question.forced,h,Question.cut]
theorem KX{rr:Nat}{s st:Nat}{seen:Array Nat}(h:w.heap[rr]?=some (.mapIter none s seen st))(ty:TypeId):
 (Instr.next (.pointer (some ⟨rr,0,none⟩)) false ty).run P w=.ok (.tuple #[.bool false]) w:=by
 unfold Instr.next
 simp only
 rw[fk (oy h Jj)];rfl
theorem run_next_map{rr m:Nat}{jm last clock:Nat}{seen:Array Nat}{es:Array MapEntry}(h:w.heap[rr]?=some (.mapIter (some m) jm seen last))(hm:w.heap[m]?=some (.map es clock))(ty:TypeId)
 (o:(!seen.isEmpty&&!es.isEmpty&&es.all (fun e=>decide (e.born>=last)))=false) {c:Nat} {w1:World} (hc:(choose (.mapNext (yg es seen jm).size)).run P w=.ok c w1) (hw:w1.heap=w.heap)
 {x:Option MapEntry} (hx:(yg es seen jm)[c]?=some x):
 (Instr.next (.pointer (some ⟨rr,0,none⟩)) false ty).run P w=(match x with
   |some e=>.ok (.tuple #[.bool true,e.key,e.val]) (w1.putObj rr (.mapIter (some m) jm (seen.push e.born) clock))
   |none=>.ok (.tuple #[.bool false]) w1):=by
 unfold Instr.next
 simp only
 rw[fk (oy h Jj)]
 simp only
 rw[fk (oy hm XK)]
 simp only
 rw[if_neg (by rw[o];simp)]
 have b:(choose (.mapNext (yg es seen jm).size)).run P w=.ok c w1:=hc
 unfold yg at b hx
 simp only at b hx
 rw[fk b,hx]
 cases x with
 |none=>rfl
 |some e=>
  simp only
  have j:w1.heap[rr]?=some (.mapIter (some m) jm seen last):=by rw[hw];exact h
  rw[fk (qf _ j Jj)];rfl
theorem Mj:∀(c:Nat) (l:List (Option MapEntry)),Ce c l=l[c]?
 |_,[]=>by simp[Ce]
 |0,x::xs=>by simp[Ce]
 |c+1,x::xs=>by simp[Ce,Mj c xs]
theorem zv.XL(hd:ny g ds a.defers)(e:ops[i]?=some o)(hw:Region.wanted o (yielded ops a.tmps)=true)(hr:b.roundOf=none\/qF o.op=true){s:Sem Value}(he:execOp a.eval o=(do pure (.value (<-s)))){v v':Value}{w':World}{g':Gm}{eZ:Ht}{e5:Nat}
 (hs:s.run P w=.ok v' w') (H:gm B0 w0 g' eZ.get e5 w') (j:fK g' v v') (E:lI g G w g' e5 w'):zv P B0 w0 b g G ops i o.dst a w v ds eZ e5 rest ks fs:=
 ⟨v',a.defers,w',g',H,j,hd.mono E.ext.le,E,.one (EP e hw hr (by rw[he,P3];exact hs))⟩
theorem lI.drew{w1:World}(h:w1=w\/w1=w.drew):lI g G w g G w1:=by
 rcases h with rfl|rfl
 · exact lI.refl _ _ _
 · exact⟨yd.refl _ _,⟨e9 _,fun _ _ _=>rfl⟩,pD.refl _ _⟩
theorem Wk(H:gm B0 w0 g O.get G w)(hd:ny g ds a.defers)(aa:ops[i]?=some o)(hw:Region.wanted o (yielded ops a.tmps)=true)
 {it:Operand} (J:o.op=.next it false) (ai:vt g I a.eval o.op.operands.toList) (fm:Fm):
 uf P B0 w0 b g I G ops i o.dst a w rest ks fs fun Z k=>(qh o.op o.dst).run e rec fm I ds O G Z k:=by
 have hr:b.roundOf=none\/qF o.op=true:=.inr (by rw[J];rfl)
 rw[J]at ai
 have he:execOp a.eval o=(do pure (.value (<-Instr.next (a.eval it) false o.type))):=by simp only[execOp,J]
 have ab:fK g ((fV it).run I) (a.eval it):=ai it (by simp[Op.operands])
 rw[J]
 have h0:(fun(Z:List Nat) (k:St->R)=>(qh (.next it false) o.dst).run e rec fm I ds O G Z k)=fun Z k=>uF e.low ((fV it).run I) O G Z (fun v O G Z=>k ⟨(kh o.dst).run I v,ds,O,G,Z⟩):=by funext Z k;rfl
 rw[h0]
 generalize hx:(fV it).run I=x at ab
 generalize M:a.eval it=x' at ab he
 cases ab with
 |@ptr r off rr ro hg=>
  cases off with
  |succ=>exact .fail fun Z k=>by simp[uF]
  |zero=>
  cases u:O.get r with
  |none=>exact .fail fun Z k=>by simp[uF,u]
  |some ob=>
   cases ob<;>first|(refine uf.fail ?_;intro Z k;simp[uF,u];done)|skip
   rename_i m jm seen last
   cases m with
   |none=>
    obtain⟨C,j,rfl,D,X,h4,A⟩:=H.L_ u hg
    cases C with
    |some=>exact A.elim
    |none=>
     intro k
     refine .here (.inr ⟨.tuple #[.bool false],ds,O,G,fun Z=>by simp[uF,u],?_⟩)
     refine zv.XL hd aa hw hr he (KX D _) H ?_ (lI.refl _ _ _)
     exact(gV.cons (.bool false) (gV.nil g)).toArray|>fun h=>.tuple h.1 h.2
   |some m=>
    cases hb:Nat.ble e.low r with
    |false=>exact .fail fun Z k=>by simp[uF,u,hb]
    |true=>
    cases hn:FN O.get m jm seen last with
    |none=>exact .fail fun Z k=>by simp[uF,u,hb,hn]
    |some am=>
     obtain⟨l,clock⟩:=am
     obtain⟨C,j,rfl,D,X,rfl,A⟩:=H.L_ u hg
     cases C with
     |none=>exact A.elim
     |some C=>
     have A:g.fW m=some (C,0):=A
     cases hm:O.get m with
     |none=>exact .fail fun Z k=>by simp[FN,hm]at hn
     |some om=>
      cases om<;>first|(exfalso;simp[FN,hm]at hn;done)|skip
      rename_i es ar
      obtain⟨E,_,ak,au,al⟩:=H.As hm A
      obtain⟨rfl,af,aj⟩:=RD al hm hn
      obtain⟨c,w1,hc,jA,L⟩:=Jk (P:=P) (w:=w) (yg E j jm).size
      have F:w1.heap=w.heap:=by rcases L with rfl|rfl<;>rfl
      have ac:lI g G w g G w1:=lI.drew L
      have H1:gm B0 w0 g O.get G w1:=by rcases L with rfl|rfl;exact H;exact H.of_heap rfl rfl rfl rfl
      intro k
      have hlen:l.length=(yg E j jm).size:=by rw[af.1];simp
      have key:∀x,l[c]?=some x->∀f':List Nat->R,(∀Z,f' Z=(match x with
       |some x=>k ⟨(kh o.dst).run I (.tuple #[.bool true,x.key,x.val]),ds,O.set r (some (.mapIter (some m) jm (j.toList++[x.born]) clock)),G,Z⟩
       |none=>k ⟨(kh o.dst).run I (.tuple #[.bool false]),ds,O,G,Z⟩))->
       zV f'\/∃v W eZ e5,(∀Z,f' Z=k ⟨(kh o.dst).run I v,W,eZ,e5,Z⟩)/\zv P B0 w0 b g G ops i o.dst a w v W eZ e5 rest ks fs:=by
       intro x hx f' hf
       have ah:∃x',(yg E j jm)[c]?=some x':=by
        have:c<(yg E j jm).size:=by rw[<-hlen];exact(fe.1 hx).1
        exact⟨_,gC this⟩
       obtain⟨x',M⟩:=ah
       have B:=af.2 c x x' hx (by simpa using M)
       have K:=run_next_map D ak o.type aj hc F M
       cases x with
       |none=>
        cases x' with
        |some=>exact B.elim
        |none=>
         refine .inr ⟨.tuple #[.bool false],ds,O,G,hf,?_⟩
         refine zv.XL hd aa hw hr he K H1 ?_ ac
         exact(gV.cons (.bool false) (gV.nil g)).toArray|>fun h=>.tuple h.1 h.2
       |some N=>
        cases x' with
        |none=>exact B.elim
        |some ae=>
         obtain⟨an,ao,q3⟩:=B
         refine .inr ⟨.tuple #[.bool true,N.key,N.val],ds,O.set r (some (.mapIter (some m) jm (j.toList++[N.born]) clock)),G,hf,?_⟩
         have ap:w1.heap[rr]?=some (.mapIter (some C) jm j last):=by rw[F];exact D
         have ad:=H1.setObj u hg (o':=.mapIter (some m) jm (j.toList++[N.born]) clock) (fun _ _ h=>by cases h) (fun _ _ h=>by cases h) rfl (.mapIter (some C) jm (j.push ae.born) clock) X
          ⟨rfl,X,rfl,by rw[q3];simp,rfl,A⟩
         rw[<-Tr.nT]at ad
         refine zv.XL hd aa hw hr he K ad ?_ (ac.trans (lI.putObj hg _))
         exact(gV.cons (.bool true) (gV.cons an (gV.cons ao (gV.nil g)))).toArray|>fun h=>.tuple h.1 h.2
      by_cases h1:∃x,l=[x]
      · obtain⟨x,rfl⟩:=h1
        have ag:c=0:=by have:=jA (by rw[<-hlen];simp);rw[<-hlen]at this;simp at this;exact this
        refine .here (key x (by rw[ag];rfl) _ fun Z=>?_)
        cases x<;>simp[uF,u,hb,hn]
      · by_cases h0:l=[]
        · subst h0
          refine .dead fun Z=>?_
          cases Z with
          |nil=>exact⟨0,by simp[uF,u,hb,hn]⟩
          |cons c Z=>exact⟨0,by simp[uF,u,hb,hn,Ce]⟩
        · have jA:=jA (by rw[<-hlen];exact List.length_pos_iff.2 h0)
          rw[<-hlen]at jA
          have hl:∀Z,uF e.low (.pointer (some ⟨r,0,none⟩)) O G Z (fun v O G Z=>k ⟨(kh o.dst).run I v,ds,O,G,Z⟩)=(match Z with
           |[]=>.gk l.length
           |c::Z=>match Ce c l with
            |some x=>(match x with
             |some x=>k ⟨(kh o.dst).run I (.tuple #[.bool true,x.key,x.val]),ds,O.set r (some (.mapIter (some m) jm (j.toList++[x.born]) clock)),G,Z⟩
             |none=>k ⟨(kh o.dst).run I (.tuple #[.bool false]),ds,O,G,Z⟩)
            |none=>.gk 0):=by
           intro Z
           match l,h0,h1,hn with
           |[],h0,_,_=>exact absurd rfl h0
           |[x],_,h1,_=>exact absurd ⟨x,rfl⟩ h1
           |x::y::l,_,_,hn=>
            cases Z with
            |nil=>simp[uF,u,hb,hn]
            |cons c Z=>
             cases S:Ce c (x::y::l)with
             |none=>simp[uF,u,hb,hn,S]
             |some z=>cases z<;>simp[uF,u,hb,hn,S]
          refine⟨[c],fun p aq q e=>?_,?_⟩
          · cases p with
            |nil=>
             simp at e
             obtain⟨rfl,_⟩:=e
             exact⟨l.length,hl [],jA⟩
            |cons y av=>simp at e
          · refine key l[c] (List.getElem?_eq_getElem jA) _ fun Z=>?_
            have S:Ce c l=some l[c]:=by rw[Mj];exact ff jA
            have:=hl (c::Z)
            simp only[S]at this
            exact this
 |_=>exact .fail fun Z k=>rfl
end
end
end Sw
namespace Sw
noncomputable section
open Go Go.RowKit
section
variable {P:Program}{ng:Nat}{e:Env}{B0:Nat}{w0:World}{b:Frame}{nt:Nat}{g:Gm}{G:Nat}{a:Act}{w:World}{I:Tm}{ds:List Deferred}{O:Ht}{rec:Rec}{ops:Array Oper}{i:Nat}{o:Oper}{rn:Option Nat}{rest:List Nat}{ks:List Item}{fs:List Frame}
structure Lv(P:Program)(ng:Nat)(e:Env)(B0:Nat)(w0:World)(rec:Rec)(b:Frame)(g:Gm)(O:Ht)(G:Nat)(w:World)(ds:List Deferred)(a:Act)(rn:Option Nat):Prop where
 ok:mP P ng e
 mX:r9 P ng B0 w0 e
 ih:oM P ng B0 w0 rec
 H:gm B0 w0 g O.get G w
 hg:k_ g ng
 hd:ny g ds a.defers
 rn:xj g b rn
theorem Mk(R:Lv P ng e B0 w0 rec b g O G w ds a rn)(p:ops[i]?=some o)(hw:Region.wanted o (yielded ops a.tmps)=true)(hr:qF o.op=true)
 (u:vt g I a.eval o.op.operands.toList):
 uf P B0 w0 b g I G ops i o.dst a w rest ks fs fun Z k=>(xE o.op).run e.T O.get G I (fun v=>k ⟨(kh o.dst).run I v,ds,O,G,Z⟩) (tK (kh o.dst).run e.low I ds O G Z k):=
 kR.ye (run:=fun m j=>(xE o.op).run e.T O.get G I m j) R.H R.hd p hw (.inr hr) (fun m j=>Kb R.ok.T R.ok.cl R.H u m j)
theorem Kf(R:Lv P ng e B0 w0 rec b g O G w ds a rn)(m:ops[i]?=some o)(hw:Region.wanted o (yielded ops a.tmps)=true)
 (p:vt g I a.eval o.op.operands.toList) (f:FuncId) (nt:Nat):
 uf P B0 w0 b g I G ops i o.dst a w rest ks fs fun Z k=>(qh o.op o.dst).run e rec ⟨f,nt,rn⟩ I ds O G Z k:=by
 cases j:o.op with
 |call c=>have:=Wj (b:=b) (rest:=rest) (ks:=ks) (fs:=fs) R.ok R.mX R.ih R.H R.hg R.hd m hw j p ⟨f,nt,rn⟩;rw[j]at this;exact this
 |defer c=>have:=T0 (P:=P) (rec:=rec) (e:=e) (rest:=rest) (ks:=ks) (fs:=fs) R.rn R.H R.hd m hw j p f nt;rw[j]at this;exact this
 |next it s=>
  cases s with
  |false=>have:=Wk (P:=P) (b:=b) (rec:=rec) (e:=e) (rest:=rest) (ks:=ks) (fs:=fs) R.H R.hd m hw j p ⟨f,nt,rn⟩;rw[j]at this;exact this
  |true=>have:=Mk (rest:=rest) (ks:=ks) (fs:=fs) R m hw (by rw[j];rfl) p;rw[j]at this;exact this
 |_=>have:=Mk (rest:=rest) (ks:=ks) (fs:=fs) R m hw (by rw[j];rfl) p;rw[j]at this;exact this
theorem qj:∀(c:Nat) (l:List Oper),nD c l=l[c]?
 |_,[]=>by simp[nD]
 |0,x::xs=>by simp[nD]
 |c+1,x::xs=>by simp[nD,qj c xs]
def Bd(g:Gm)(ops:Array Oper)(I:Tm)(a:Act)(o:Oper):Prop:=
 ∀j wn,o.guard=some (j,wn)->∀b d,ops[j]?=some b->b.dst=some d->fK g (I.get d) (a.tmps.getD d undef)/\d<a.tmps.size
theorem H5{g:Gm}(e:Bd g ops I a o){j:Nat}{wn:Bool}(hg:o.guard=some (j,wn)){b:Oper}{d:Tmp}(hj:ops[j]?=some b)(hd:b.dst=some d):
 Region.wanted o (yielded ops a.tmps)=ni wn (I.get d):=by
 obtain⟨h1,D⟩:=e j wn hg b d hj hd
 have h3:a.tmps[d]?=some (a.tmps.getD d undef):=by simp[Array.getD,D]
 simp only[Region.wanted,hg,yielded,hj,hd,Option.bind_some,h3]
 generalize a.tmps.getD d undef=v' at h1
 generalize I.get d=v at h1
 cases h1<;>first|rfl|skip
 rename_i bb
 cases bb<;>cases wn<;>rfl
theorem KY(R:Lv P ng e B0 w0 rec b g O G w ds a rn)(j:ops[i]?=some o)(hw:Region.wanted o (yielded ops a.tmps)=false):
 uf P B0 w0 b g I G ops i o.dst a w rest ks fs fun Z k=>k ⟨(kh o.dst).run I undef,ds,O,G,Z⟩:=
 fun k=>.here (.inr ⟨undef,ds,O,G,fun Z=>rfl,undef,a.defers,w,g,R.H,fK.undef g,R.hd,lI.refl _ _ _,.one (D4 j hw)⟩)
theorem Gg(R:Lv P ng e B0 w0 rec b g O G w ds a rn)(p:ops[i]?=some o)(y:vt g I a.eval o.op.operands.toList)(z:Bd g ops I a o)(f:FuncId)(nt:Nat):
 uf P B0 w0 b g I G ops i o.dst a w rest ks fs fun Z k=>(iJ ops.toList o).run e rec ⟨f,nt,rn⟩ I ds O G Z k:=by
 cases hg:o.guard with
 |none=>
  have hw:Region.wanted o (yielded ops a.tmps)=true:=by simp[Region.wanted,hg]
  have h0:iJ ops.toList o=qh o.op o.dst:=by
   obtain⟨dst,op,ty,pos,after,guard⟩:=o
   cases hg;rfl
  rw[h0]
  exact Kf R p hw y f nt
 |some A=>
  obtain⟨j,wn⟩:=A
  have h0:iJ ops.toList o=(match kA ops.toList j with
   |some g=>⟨fun e rec fm I ds O G Z k=>Bool.casesOn (ni wn (g.run I)) (k ⟨(kh o.dst).run I undef,ds,O,G,Z⟩) ((qh o.op o.dst).run e rec fm I ds O G Z k)⟩
   |none=>⟨fun _ _ _ _ _ _ _ _ _=>.gk 0⟩):=by
   obtain⟨dst,op,ty,pos,after,guard⟩:=o
   cases hg;rfl
  rw[h0]
  cases hj:ops[j]? with
  |none=>
   have:kA ops.toList j=none:=by simp[kA,qj,hj]
   rw[this]
   exact .fail fun Z k=>rfl
  |some B=>
   cases hd:B.dst with
   |none=>
    have:kA ops.toList j=none:=by simp[kA,qj,hj,hd,Cd]
    rw[this]
    exact .fail fun Z k=>rfl
   |some d=>
    have:kA ops.toList j=some (fV (.tmp d)):=by simp[kA,qj,hj,hd,Cd]
    rw[this]
    have m:=H5 z hg hj hd
    show uf P B0 w0 b g I G ops i o.dst a w rest ks fs fun Z k=>(Bool.casesOn (ni wn (I.get d)) (k ⟨(kh o.dst).run I undef,ds,O,G,Z⟩) ((qh o.op o.dst).run e rec ⟨f,nt,rn⟩ I ds O G Z k):XB (Nat×St))
    cases u:ni wn (I.get d)with
    |false=>exact KY R p (m.trans u)
    |true=>exact Kf R p (m.trans u) y f nt
end
end
end Sw
namespace Sw
noncomputable section
open Go Go.RowKit
def T2(P:Program)(B0:Nat)(w0:World)(b:Frame)(nt:Nat)(g:Gm)(G:Nat)(ops:Array Oper)(l:List Nat)(a:Act)(w:World)(e:St)(ks:List Item)(fs:List Frame):Prop:=
 ∃a' w' g',vE B0 w0 g' nt e a' w'/\lI g G w g' e.G w'/\Steps P (lone (At b a (.inRegion ops l::ks)) fs w) (lone (At b a' (.inRegion ops []::ks)) fs w')
def wq(P:Program)(B0:Nat)(w0:World)(b:Frame)(nt:Nat)(g:Gm)(G:Nat)(ops:Array Oper)(l:List Nat)(a:Act)(w:World)(ks:List Item)(fs:List Frame)(r:List Nat->R):Prop:=
 lV r fun e=>zV e\/∃j,(∀Z,e Z=.ok (0,j.at Z))/\T2 P B0 w0 b nt g G ops l a w j ks fs
section
variable {P:Program}{ng:Nat}{e:Env}{B0:Nat}{w0:World}{b:Frame}{nt:Nat}{g:Gm}{G:Nat}{a:Act}{w:World}{rec:Rec}{ops:Array Oper}{rn:Option Nat}{ks:List Item}{fs:List Frame}
theorem xj.mono{g g':Gm}(h:g.le g'){rn:Option Nat}(k:xj g b rn):xj g' b rn:=by
 cases rn with
 |none=>exact k
 |some l=>obtain⟨rl,h1,D⟩:=k;exact⟨rl,h1,h.1 _ _ D⟩
theorem On{I:Tm}{o:Oper}(e:rS g nt I a.tmps)(b:ops.toList.all (wU ng nt)=true):Bd g ops I a o:=by
 intro j wn _ m d hj hd
 have hm:m∈ops.toList:=by obtain⟨hi,rfl⟩:=fU.1 hj;simp
 have:=fE.1 b m hm
 unfold wU at this
 rw[Bool.and_eq_true]at this
 have D:=this.2
 rw[hd]at D
 have jA:@LT.lt Nat _ d nt:=fa D
 exact⟨e.2 d jA,by rw[e.1];exact jA⟩
theorem Kg(ok:mP P ng e)(mX:r9 P ng B0 w0 e)(ih:oM P ng B0 w0 rec)(hn:nt<=512){rK:Nat}(y:ops.toList.all (wU rK nt)=true)(f:FuncId):
 ∀(n i:Nat) (s:St) (a:Act) (w:World) (g:Gm),i+n=ops.size->vE B0 w0 g nt s a w->k_ g ng->k_ g rK->xj g b rn->
  wq P B0 w0 b nt g s.G ops (List.range' i n) a w ks fs fun Z=>wk (gW ops.toList (ops.toList.drop i)) e rec ⟨f,nt,rn⟩ (s.at Z)
 |0,i,s,a,w,g,hi,S,_,_,_=>by
  have:ops.toList.drop i=[]:=by simp;omega
  rw[this]
  exact .here (.inr ⟨s,fun Z=>rfl,a,w,g,S,lI.refl _ _ _,.refl ..⟩)
 |n+1,i,s,a,w,g,hi,S,hg,A,B=>by
  have jA:i<ops.size:=by omega
  have z:ops.toList.drop i=ops[i]::ops.toList.drop (i+1):=by
   rw[List.drop_eq_getElem_cons (by simpa using jA)];simp
  have N:ops[i]?=some ops[i]:=gC jA
  have o:=fE.1 y ops[i] (by simp)
  unfold wU at o
  rw[Bool.and_eq_true]at o
  rw[z]
  have m:(fun Z=>wk (gW ops.toList (ops[i]::ops.toList.drop (i+1))) e rec ⟨f,nt,rn⟩ (s.at Z))=fun Z=>(iJ ops.toList ops[i]).run e rec ⟨f,nt,rn⟩ s.I s.ds s.O s.G Z fun s=>wk (gW ops.toList (ops.toList.drop (i+1))) e rec ⟨f,nt,rn⟩ s:=by
   funext Z;rfl
  rw[m]
  have ye:=Gg (I:=s.I) (i:=i) (ops:=ops) (rn:=rn) (rest:=List.range' (i+1) n) (ks:=ks) (fs:=fs) (R:=⟨ok,mX,ih,S.heap,hg,S.act.2,B⟩) N (Rx S.act.1 A o.1) (On S.act.1 y) f nt
  refine(ye _).bind fun f' h=>?_
  rcases h with h|⟨v,u,eZ,e5,h,st⟩
  · exact .dead h
  · have E:=st
    obtain⟨v',j,w1,g1,H1,M,C,p,st1⟩:=E
    have L:rS g1 nt ((kh ops[i].dst).run s.I v) ({a with defers:=j}.put ops[i].dst v').tmps:=
     rS.put (a:={a with defers:=j}) (S.act.1.mono p.ext.le) hn o.2 M
    have C:ny g1 u ({a with defers:=j}.put ops[i].dst v').defers:=by rw[put_defers];exact C
    have J:vE B0 w0 g1 nt ⟨(kh ops[i].dst).run s.I v,u,eZ,e5,[]⟩ ({a with defers:=j}.put ops[i].dst v') w1:=⟨H1,L,C⟩
    have m:f'=fun Z=>wk (gW ops.toList (ops.toList.drop (i+1))) e rec ⟨f,nt,rn⟩ ((⟨(kh ops[i].dst).run s.I v,u,eZ,e5,[]⟩:St).at Z):=funext h
    rw[m]
    refine(Kg ok mX ih hn y f n (i+1) _ _ w1 g1 (by omega) J (hg.mono p.ext.le) (A.mono p.ext.le) (B.mono p.ext.le)).mono fun X h=>?_
    rcases h with h|⟨s2,h,a2,W,g2,K,F,st2⟩
    · exact .inl h
    · refine .inr ⟨s2,h,a2,W,g2,K,p.trans F,?_⟩
      rw[List.range'_succ]
      exact st1.trans st2
theorem Oo(ok:mP P ng e)(mX:r9 P ng B0 w0 e)(ih:oM P ng B0 w0 rec)(hn:nt<=512){rK:Nat}(m:ops.toList.all (wU rK nt)=true)(f:FuncId)(id:Nat){s:St}(S:vE B0 w0 g nt s a w)(hg:k_ g ng)(j:k_ g rK)(o:xj g b rn):
 vh P B0 w0 b nt g s.G (.region id ops false) a w ks fs fun Z=>wk (gW ops.toList ops.toList) e rec ⟨f,nt,rn⟩ (s.at Z):=by
 have h:=Kg (ks:=ks) (fs:=fs) ok mX ih hn m f ops.size 0 s a w g (by omega) S hg j o
 rw[List.drop_zero]at h
 refine h.mono fun f' h=>?_
 rcases h with h|⟨u,h,a',w',g',S',p,st⟩
 · exact .inl h
 · refine .inr ⟨0,u,h,a',w',g',S',p,ks,rfl,?_⟩
   have:=(Steps.one (EM (P:=P) (b:=b) (a:=a) (w:=w) (k:=ks) (Z:=fs) (id:=id) (ops:=ops))).trans (by rw[List.range_eq_range'];exact st)
   exact this.trans (.one yc)
end
end
end Sw
namespace Sw
noncomputable section
open Go Go.RowKit
section
variable {P:Program}{ng:Nat}{e:Env}{B0:Nat}{w0:World}{b:Frame}{nt:Nat}{g:Gm}{G:Nat}{a:Act}{w:World}{rec:Rec}{rn:Option Nat}{O:Ht}
theorem Ml(H:gm B0 w0 g O.get G w){I:Tm}{tmps:Array Value}(p:rS g nt I tmps)(hn:nt<=512){f:FuncId}{ps:Array Tmp}{oz body:Code}(o:r7 g nt oz)(hb:r7 g nt body)(m:ps.toList.all (Nat.blt · nt)=true){e b:Nat}(j:g.fW e=some (b,0)):
 gm B0 w0 (g.add G (w.heap.size,0) none) (O.set G (some (.loop ⟨.ready,none,f,I,nt,ps.toList,oz,body,e⟩))).get (G+1) (w.alloc (.loop {state:=.ready,pending:=none,fn:=f,tmps:=tmps,params:=ps,assign:=oz,body:=body,defers:=b}))/\
 lI g G w (g.add G (w.heap.size,0) none) (G+1) (w.alloc (.loop {state:=.ready,pending:=none,fn:=f,tmps:=tmps,params:=ps,assign:=oz,body:=body,defers:=b}))/\
 (g.add G (w.heap.size,0) none).fW G=some (w.heap.size,0):=by
 have F:=H.fresh (e9 G)
 have hle:=Gm.qS F.fW (w.heap.size,0) none
 refine⟨?_,lI.alloc (e9 _) (by omega) F.fW _ _,Gm.lS _ _ _ _⟩
 rw[Tr.nT]
 refine H.alloc F.fW F.room F.O (e_ _) (fb _) _ _ none rfl ⟨rfl,H.base,rfl,rfl,rfl,p.mono hle,rfl,rfl,rfl,hle.1 _ _ j,hn,o.mono hle,hb.mono hle,m⟩ (fun _ _ _ h=>by cases h)
theorem Mm(H:gm B0 w0 g O.get G w):
 gm B0 w0 (g.add G (w.heap.size,0) none) (O.set G (some (.deferred (some [])))).get (G+1) (w.alloc (.deferred (some [])))/\lI g G w (g.add G (w.heap.size,0) none) (G+1) (w.alloc (.deferred (some [])))/\
 (g.add G (w.heap.size,0) none).fW G=some (w.heap.size,0):=by
 have F:=H.fresh (e9 G)
 refine⟨?_,lI.alloc (e9 _) (by omega) F.fW _ _,Gm.lS _ _ _ _⟩
 rw[Tr.nT]
 exact H.alloc F.fW F.room F.O (e_ _) (fb _) _ _ none rfl ⟨rfl,H.base,rfl,fun i d d' h=>by simp at h⟩ (fun _ _ _ h=>by cases h)
def EV(b:Frame)(a:Act)(l:Nat)(mark:List Deferred)(k:List Item):Frame:={At b a (.inRangeFunc l::k)with defers:=mark++a.defers}
theorem H6(a:Act)(f:Operand)(l:Nat)(x:TypeId)(ρ:Operand->Value)(b:ρ f=a.eval f)(hc:∀v,ρ (.const v)=v):
 (do let d<-resolve ρ ({callee:=.value f,args:=#[.const (.func (.yield l) #[] #[])],argTypes:=#[]}:Call) x;invoke d.target d.args:Sem Next)=AP (a.eval f) #[.func (.yield l) #[] #[]]:=by
 simp only[resolve,AP,b,List.map_toArray,List.map_cons,List.map_nil,hc]
theorem Mn{f:Operand}{params:Array Tmp}{assign body:Code}{k:List Item}{Z:List Frame}{l:Nat}{mark:List Deferred}{w1:World}{e:Next}{m:Frame}
 (h:(Instr.enterLoop b.fn a.tmps params assign body b.roundOf).run P w=.ok (l,mark) w1) (hs:(AP (a.eval f) #[.func (.yield l) #[] #[]]).run P w1=.ok e w1) (hc:G4 P e=some m):
 step P (lone (At b a (.code (.rangeFunc f params assign body)::k)) Z w)=.next (lone m (EV b a l mark k::Z) w1):=by
 refine step_lone_go ?_
 have e1:(Frame.eval {At b a (.inRangeFunc l::k)with defers:=mark++a.defers} f)=a.eval f:=by cases f<;>rfl
 have hr:=H6 a f l 0 (Frame.eval {At b a (.inRangeFunc l::k)with defers:=mark++a.defers}) e1 (fun _=>rfl)
 have o:(do let d<-resolve (Frame.eval {At b a (.inRangeFunc l::k)with defers:=mark++a.defers}) ({callee:=.value f,args:=#[.const (.func (.yield l) #[] #[])],argTypes:=#[]}:Call) 0;invoke d.target d.args:Sem Next).run P w1=.ok e w1:=by rw[hr];exact hs
 simp only[At]at o
 have j:=o
 rw[Sem.run_bind]at j
 cases e<;>first|(cases hc;done)|skip
 · cases hc
   simp[stepG,stepG.exec,At,h,stepG.apply,EV]
   simp[j]
 · cases hc
   simp[stepG,stepG.exec,At,h,stepG.apply,EV]
   simp[j]
theorem H7{l:Nat}{r:Loop}{k:List Item}{Z:List Frame}(h:w.heap[l]?=some (.loop r))(hs:r.state≠.busy):
 step P (lone (At b a (.endRangeFunc l::k)) Z w)=.next (lone (At b a ((r.pending.map Item.code).toList++k)) Z (w.putObj l (.loop {r with state:=.exhausted}))):=by
 have e:(Instr.endLoop l).run P w=.ok r.pending (w.putObj l (.loop {r with state:=.exhausted})):=by
  unfold Instr.endLoop
  rw[fk (run_getLoop h)]
  have:(r.state==LoopState.busy)=false:=by simpa using hs
  simp only[this]
  rw[if_neg (by simp),fk (qf _ h Jh)];rfl
 refine step_lone_go ?_
 simp[stepG,stepG.exec,At,e]
theorem Qg{c:Option Code}{o:Nat}(h:Av c=some o)(k:List Item):Ends o k ((c.map Item.code).toList++k):=by
 cases c with
 |none=>cases h;rfl
 |some c=>
  cases c<;>first|(cases h;done)|skip
  · cases h;exact⟨[],rfl,trivial⟩
  · cases h;exact⟨k,rfl⟩
end
end
end Sw
namespace Sw
noncomputable section
open Go Go.RowKit
section
variable {P:Program}{ng:Nat}{e:Env}{B0:Nat}{w0:World}{b:Frame}{nt:Nat}{g:Gm}{G:Nat}{a:Act}{w:World}{rec:Rec}{rn:Option Nat}{O:Ht}{ks:List Item}{fs:List Frame}
def EW(e:Env)(rec:Rec)(fv:Value)(I:Tm)(ds mark:List Deferred)(l:Nat)(h:Ht)(n:Nat)(Z:List Nat):R:=
 BK e rec fv [.func (.yield l) #[] #[]] h n Z (fun _ O G Z=>match O.get l with
  |some (.loop r)=>(match r.state with
   |.busy=>.gk 0
   |_=>(match Av r.pending with
    |some o=>.ok (o,⟨I,mark++ds,O.set l (some (.loop {r with state:=.exhausted})),G,Z⟩)
    |none=>.gk 0))
  |_=>.gk 0)
theorem Gh(ok:mP P ng e)(mX:r9 P ng B0 w0 e)(ih:oM P ng B0 w0 rec){f:Operand}{params:Array Tmp}{assign body:Code}{I:Tm}{ds mark zm:List Deferred}{h:Ht}{w1:World}{g1:Gm}{l rl:Nat}{J:Nat}
 (hg:k_ g1 ng) (ae:rS g nt I a.tmps) (hd:ny g1 ds a.defers) (hm:ny g1 mark zm) (R:fK g ((fV f).run I) (a.eval f)) (H1:gm B0 w0 g1 h.get J w1) (A:lI g G w g1 J w1) (hl:g1.fW l=some (rl,0))
 (N:(Instr.enterLoop b.fn a.tmps params assign body b.roundOf).run P w=.ok (rl,zm) w1):
 vh P B0 w0 b nt g G (.rangeFunc f params assign body) a w ks fs fun Z=>EW e rec ((fV f).run I) I ds mark l h J Z:=by
 have B:gV g1 [.func (.yield l) #[] #[]] (#[.func (.yield rl) #[] #[]]:Array Value).toList:=gV.cons (.AK hl) (gV.nil g1)
 refine(HY (c:=EV b a rl zm ks) (fs:=fs) ok mX ih H1 hg (R.mono A.ext.le) B _).mono fun f' hf=>?_
 rcases hf with hf|⟨v,eZ,e5,hf,ah,hs,v',aa,g2,ag,L,ai,p,hc,st⟩
 · exact .inl hf
 · have u:=p.ext.le.1 _ _ hl
   cases hr:eZ.get l with
   |none=>exact .inl fun Z=>⟨0,by rw[hf,hr]⟩
   |some ob=>
    cases ob<;>first|(refine .inl ?_;intro Z;refine⟨0,?_⟩;rw[hf,hr];done)|skip
    rename_i r
    obtain⟨K,_,S,M,C⟩:=L.ET hr u
    have E:r.state≠.busy->∀o,Av r.pending=some o->(∀Z,f' Z=.ok (o,(⟨I,mark++ds,eZ.set l (some (.loop {r with state:=.exhausted})),e5,[]⟩:St).at Z))->
     zV f'\/∃o X,(∀Z,f' Z=.ok (o,X.at Z))/\jE P B0 w0 b nt g G (.rangeFunc f params assign body) a w o X ks fs:=by
     intro j o y hf
     refine .inr ⟨o,_,hf,?_⟩
     have ac:=L.Ji hr u M (C.Ke .exhausted)
     have ab:lI g2 e5 aa g2 e5 (aa.putObj rl (.loop {K with state:=.exhausted})):=lI.putObj u _
     have ad:=ae.mono (A.ext.le.1|>fun _=>(Gm.le_trans A.ext.le p.ext.le))
     refine⟨⟨a.tmps,zm++a.defers⟩,_,g2,⟨ac,ad,?_⟩,(A.trans p).trans ab,?_⟩
     · have z:=hm.mono p.ext.le
       have W:=hd.mono p.ext.le
       refine⟨by simp[z.1,W.1],fun i d d' e m=>?_⟩
       have e:(mark++ds)[i]?=some d:=e
       have m:(zm++a.defers)[i]?=some d':=m
       rw[List.getElem?_append]at e m
       by_cases hi:i<mark.length
       · rw[if_pos hi]at e;rw[if_pos (z.1▸hi)]at m;exact z.2 i d d' e m
       · rw[if_neg hi]at e;rw[if_neg (z.1▸hi)]at m;rw[<-z.1]at m;exact W.2 _ d d' e m
     · refine⟨(K.pending.map Item.code).toList++ks,?_,?_⟩
       · rw[<-C.2.1];exact Qg y ks
       · have F:K.state≠.busy:=by rw[<-C.1];exact j
         have s1:=Steps.one (Mn (k:=ks) (Z:=fs) N hs hc)
         have s2:=st
         have e1:(EV b a rl zm ks).finish v'=At b ⟨a.tmps,zm++a.defers⟩ (.endRangeFunc rl::ks):=rfl
         rw[e1]at s2
         have af:=Steps.one (H7 (P:=P) (b:=b) (a:=⟨a.tmps,zm++a.defers⟩) (k:=ks) (Z:=fs) S F)
         exact(s1.trans s2).trans af
    cases j:r.state with
    |busy=>exact .inl fun Z=>⟨0,by rw[hf,hr];simp[j]⟩
    |_=>
     cases y:Av r.pending with
     |none=>exact .inl fun Z=>⟨0,by rw[hf,hr];simp[j,y]⟩
     |some o=>exact E (by rw[j];intro k;cases k) o y fun Z=>by rw[hf,hr];simp[j,y,St.at]
theorem Wl(e:Env)(rec:Rec)(f:Operand)(params:Array Tmp)(assign body:Code)(fn:FuncId)(nt:Nat)(rn:Option Nat)(s:St):vp (.rangeFunc f params assign body) e rec ⟨fn,nt,rn⟩ s=(match (match rn with
 |none=>some (s.G,s.G+1,s.O.set s.G (some (.deferred (some []))),[(⟨.collected s.G,#[]⟩:Deferred)])
 |some l=>(match s.O.get l with
  |some (.loop r)=>some (r.defers,s.G,s.O,[])
  |_=>none))with
 |some (b,l,h,mark)=>EW e rec ((fV f).run s.I) s.I s.ds mark l (h.set l (some (.loop ⟨.ready,none,fn,s.I,nt,params.toList,assign,body,b⟩))) (l+1) s.Z
 |none=>.gk 0):=by cases rn<;>rfl
theorem Qh(ok:mP P ng e)(mX:r9 P ng B0 w0 e)(ih:oM P ng B0 w0 rec)(hn:nt<=512){f:Operand}{params:Array Tmp}{assign body:Code}(M:r7 g nt (.rangeFunc f params assign body)){s:St}(S:vE B0 w0 g nt s a w)
 (hg:k_ g ng) (j:xj g b rn):
 vh P B0 w0 b nt g s.G (.rangeFunc f params assign body) a w ks fs fun Z=>vp (.rangeFunc f params assign body) e rec ⟨b.fn,nt,rn⟩ (s.at Z):=by
 obtain⟨rK,m,hc⟩:=M
 unfold codeOk at hc
 rw[Bool.and_eq_true,Bool.and_eq_true,Bool.and_eq_true]at hc
 obtain⟨c1,c2,B,c4⟩:=hc
 have y:=G2 S.act.1 m c1
 have h0:(fun Z=>vp (.rangeFunc f params assign body) e rec ⟨b.fn,nt,rn⟩ (s.at Z))=fun Z=>_:=funext fun Z=>Wl e rec f params assign body b.fn nt rn (s.at Z)
 rw[h0]
 cases rn with
 |none=>
  obtain⟨H1,p,m1⟩:=Mm S.heap
  obtain⟨z,o,m2⟩:=Ml (f:=b.fn) H1 (S.act.1.mono p.ext.le) hn (oz:=assign) (body:=body) (ps:=params) ⟨rK,m.mono p.ext.le,B⟩ ⟨rK,m.mono p.ext.le,c4⟩ c2 m1
  have j:b.roundOf=none:=j
  have E:=p.trans o
  show vh P B0 w0 b nt g s.G (.rangeFunc f params assign body) a w ks fs fun Z=>EW e rec ((fV f).run s.I) s.I s.ds [⟨.collected s.G,#[]⟩] (s.G+1) ((s.O.set s.G (some (.deferred (some [])))).set (s.G+1) (some (.loop ⟨.ready,none,b.fn,s.I,nt,params.toList,assign,body,s.G⟩))) (s.G+1+1) Z
  refine Gh ok mX ih (zm:=[⟨.collected w.heap.size,#[]⟩]) (hg.mono E.ext.le) S.act.1 (S.act.2.mono E.ext.le) ?_ y z E m2 ?_
  · have u:B6 ((g.add s.G (w.heap.size,0) none).add (s.G+1) ((w.alloc (.deferred (some []))).heap.size,0) none) ⟨.collected s.G,#[]⟩ ⟨.collected w.heap.size,#[]⟩:=.GH (o.ext.le.1 _ _ m1)
    refine⟨rfl,fun i d d' e C=>?_⟩
    cases i with
    |zero=>simp at e C;subst e;subst C;exact u
    |succ i=>simp at e
  · rw[j];rfl
 |some N=>
  obtain⟨X,j,K⟩:=j
  cases hr:s.O.get N with
  |none=>exact .dead fun Z=>⟨0,by simp[St.at,hr]⟩
  |some ob=>
   cases ob<;>first|(refine .dead ?_;intro Z;refine⟨0,?_⟩;simp[St.at,hr];done)|skip
   rename_i r
   obtain⟨W,_,hw,aa,L⟩:=S.heap.ET hr K
   have F:g.fW r.defers=some (W.defers,0):=L.2.2.2.2.2.2.2.1
   obtain⟨z,o,m2⟩:=Ml (f:=b.fn) S.heap S.act.1 hn (oz:=assign) (body:=body) (ps:=params) ⟨rK,m,B⟩ ⟨rK,m,c4⟩ c2 F
   have A:(fun Z=>(match (match (some N:Option Nat)with
    |none=>some ((s.at Z).G,(s.at Z).G+1,(s.at Z).O.set (s.at Z).G (some (.deferred (some []))),[(⟨.collected (s.at Z).G,#[]⟩:Deferred)])
    |some l=>(match (s.at Z).O.get l with
     |some (.loop r)=>some (r.defers,(s.at Z).G,(s.at Z).O,[])
     |_=>none))with
     |some (R,l,h,mark)=>EW e rec ((fV f).run (s.at Z).I) (s.at Z).I (s.at Z).ds mark l (h.set l (some (.loop ⟨.ready,none,b.fn,(s.at Z).I,nt,params.toList,assign,body,R⟩))) (l+1) (s.at Z).Z
     |none=>.gk 0))=fun Z=>EW e rec ((fV f).run s.I) s.I s.ds [] s.G (s.O.set s.G (some (.loop ⟨.ready,none,b.fn,s.I,nt,params.toList,assign,body,r.defers⟩))) (s.G+1) Z:=by
    funext Z;simp[St.at,hr]
   rw[A]
   refine Gh ok mX ih (zm:=[]) (hg.mono o.ext.le) S.act.1 (S.act.2.mono o.ext.le) ⟨rfl,fun i d d' e=>by simp at e⟩ y z o m2 ?_
   rw[j]
   unfold Instr.enterLoop
   simp only
   have J:=run_getLoop (P:=P) hw
   rw[fk J]
   rfl
end
end
end Sw
namespace Sw
noncomputable section
open Go Go.RowKit
theorem beq_eq{a b:Nat}(h:Nat.beq a b=true):a=b:=fj h
theorem tt{f:Value->Value->Bool}(hf:∀a b,f a b=true->a=b):∀x y:List Value,uG f x y=true->x=y
 |[],[],_=>rfl
 |a::x,b::y,h=>by
  simp only[uG,Bool.and_eq_true]at h
  rw[hf a b h.1,tt hf x y h.2]
 |[],_::_,h=>by cases h
 |_::_,[],h=>by cases h
theorem BM:∀(n:Nat) (a b:Value),lg n a b=true->a=b:=by
 intro n
 induction n with
 |zero=>
  intro a b h
  unfold lg at h
  split at h<;>first|(cases h;done)|rfl|skip
  · rename_i a b;cases a<;>cases b<;>first|rfl|cases h
  · rw[Bool.and_eq_true]at h;rw[vC h.1,lJ.1 h.2]
  · rw[wX]at h;exact congrArg Value.string (A_ (by simpa using h))
  · rw[Bool.and_eq_true]at h;rw[beq_eq h.1,beq_eq h.2]
  · rw[Bool.and_eq_true]at h;rw[beq_eq h.1,beq_eq h.2]
  · rw[Bool.and_eq_true,Bool.and_eq_true,Bool.and_eq_true]at h;rw[beq_eq h.1,beq_eq h.2.1,beq_eq h.2.2.1,beq_eq h.2.2.2]
  · rw[beq_eq h]
  all_goals (rename_i h0;exact absurd h0 (by simp))
 |succ n ih=>
  intro a b h
  unfold lg at h
  split at h<;>first|(cases h;done)|rfl|skip
  · rename_i a b;cases a<;>cases b<;>first|rfl|cases h
  · rw[Bool.and_eq_true]at h;rw[vC h.1,lJ.1 h.2]
  · rw[wX]at h;exact congrArg Value.string (A_ (by simpa using h))
  · rw[Bool.and_eq_true]at h;rw[beq_eq h.1,beq_eq h.2]
  · rw[Bool.and_eq_true]at h;rw[beq_eq h.1,beq_eq h.2]
  · rw[Bool.and_eq_true,Bool.and_eq_true,Bool.and_eq_true]at h;rw[beq_eq h.1,beq_eq h.2.1,beq_eq h.2.2.1,beq_eq h.2.2.2]
  · rw[beq_eq h]
  · rename_i hm
    cases hm
    rw[Bool.and_eq_true,Bool.and_eq_true]at h
    rw[beq_eq h.1,Array.toList_inj.1 (tt ih _ _ h.2.1),Array.toList_inj.1 (tt ih _ _ h.2.2)]
  · rename_i hm
    cases hm
    rw[Bool.and_eq_true,Bool.and_eq_true]at h
    rw[beq_eq h.1,Array.toList_inj.1 (tt ih _ _ h.2.1),Array.toList_inj.1 (tt ih _ _ h.2.2)]
  · rename_i hm
    cases hm
    rw[Bool.and_eq_true]at h;rw[beq_eq h.1,ih _ _ h.2]
  · rename_i hm
    cases hm
    rw[Array.toList_inj.1 (tt ih _ _ h)]
  · rename_i hm
    cases hm
    rw[Array.toList_inj.1 (tt ih _ _ h)]
def qX(run:K1->K2->R):Prop:=(∀b e,∃m,run b e=.gk m)\/∃v,∀b e,run b e=b v
theorem qX.me(o:Option Value):qX fun b _=>kI o b:=by
 cases o with
 |none=>exact .inl fun _ _=>⟨0,rfl⟩
 |some v=>exact .inr ⟨v,fun _ _=>rfl⟩
theorem qX.fail:qX fun _ _=>.gk 0:=.inl fun _ _=>⟨0,rfl⟩
theorem qX.val(v:Value):qX fun b _=>b v:=.inr ⟨v,fun _ _=>rfl⟩
theorem Kh{op:Op}(h:qd op=0)(hc:∀c,op≠.call c)(T:Ty)(O:Hp)(n:Nat)(I:Tm):qX ((xE op).run T O n I):=by
 cases op<;>first
  |(simp[qd]at h;done)
  |exact absurd rfl (hc _)
  |exact qX.val _
  |exact qX.me _
  |exact qX.fail
theorem G5{c:Call}(h:qd (.call c)=0):∃b,c.callee=.builtin b/\∀(T:Ty) (O:Hp) (n:Nat) (ts:List TypeId) (l:List Value),qX (bi b T O n ts l):=by
 simp only[qd]at h
 split at h<;>first|(cases h;done)|skip
 all_goals (rename_i hc;refine⟨_,hc,fun T O n ts l=>?_⟩)
 · cases ts<;>cases l<;>first|exact qX.fail|exact qX.me _
 · cases ts<;>cases l<;>first|exact qX.fail|exact qX.me _
 · exact qX.me _
 · exact qX.me _
def H8(n:Nat)(run:K1->K2->R):Prop:=(∀e b,∃m,run e b=.gk m)\/∃v Z,wL v=some n/\∀e b,run e b=b (v,[(n,some (.cells Z gi.plain))],1)
theorem Ki{op:Op}(h:qd op=1)(T:Ty)(n:Nat)(I:Tm):∀O:Hp,H8 n ((xE op).run T O n I):=by
 cases op<;>first|(simp[qd]at h;done)|skip
 · rename_i el
   intro O
   show H8 n fun j b=>(match T.zero el with|some z=>b (B8 n z.cells.toList)|none=>.gk 0)
   cases T.zero el with
   |none=>exact .inl fun _ _=>⟨0,rfl⟩
   |some z=>exact .inr ⟨_,_,rfl,fun _ _=>rfl⟩
 · intro O
   exact .inr ⟨_,_,rfl,fun _ _=>rfl⟩
 · rename_i t len ps
   intro O
   show H8 n fun j b=>qB (qM T t len (tJ (zi ps.toList) I) n) b
   cases he:qM T t len (tJ (zi ps.toList) I) n with
   |none=>exact .inl fun _ _=>⟨0,rfl⟩
   |some f=>
    unfold qM at he
    split at he
    · split at he
      · rename_i s z _ _
        cases hb:(Nat.ble (len*s) 16777216&&Nat.beq z.cells.toList.length s)with
        |false=>rw[hb]at he;cases he
        |true=>
         rw[hb]at he
         obtain⟨c,_,rfl⟩:=fx.1 he
         exact .inr ⟨_,_,rfl,fun _ _=>rfl⟩
      · cases he
    · cases he
 · rename_i t l c
   intro O
   show H8 n fun j b=>qB (wi T t ((fV l).run I) ((fV c).run I) n) b
   cases he:wi T t ((fV l).run I) ((fV c).run I) n with
   |none=>exact .inl fun _ _=>⟨0,rfl⟩
   |some f=>
    unfold wi at he
    split at he
    · split at he
      · split at he
        · rename_i u m o e _ _ _ _ inf pq _ z p
          cases hb:(Nat.ble m e&&(Nat.ble (e*inf.bytes) 1099511627776&&Nat.blt e 2147483648))with
          |false=>rw[hb]at he;cases he
          |true=>
           rw[hb]at he
           cases he
           exact .inr ⟨_,_,rfl,fun _ _=>rfl⟩
        · cases he
      · cases he
    · cases he
 · exfalso;simp only[qd]at h;split at h<;>cases h
theorem RE{op:Op}(h:qd op=1)(T:Ty)(n:Nat)(I:Tm)(O eZ:Hp):(xE op).run T O n I=(xE op).run T eZ n I:=by
 cases op<;>first|(simp[qd]at h;done)|rfl
variable {fl:Bool}
theorem Du{op:Op}(h:kF fl op=1):qd op=1/\(fl&&pK op)=false:=by
 unfold kF at h
 cases hb:(fl&&pK op)with
 |true=>rw[hb]at h;cases h
 |false=>rw[hb]at h;exact⟨h,rfl⟩
theorem Cg{op:Op}(h:kF fl op=0):(fl&&pK op)=true\/(qd op=0/\(fl&&pK op)=false):=by
 unfold kF at h
 cases hb:(fl&&pK op)with
 |true=>exact .inl rfl
 |false=>rw[hb]at h;exact .inr ⟨h,rfl⟩
theorem Qi{op:Op}(h:kF fl op=2):qd op=2/\(fl&&pK op)=false:=by
 unfold kF at h
 cases hb:(fl&&pK op)with
 |true=>rw[hb]at h;cases h
 |false=>rw[hb]at h;exact⟨h,rfl⟩
theorem Ch{op:Op}(h:(fl&&pK op)=true)(T:Ty)(O:Hp)(n:Nat)(I:Tm):(∀b,∃m,(BL op).run T O n I b=.gk m)\/
 ∃v,(∀b,(BL op).run T O n I b=b v)/\∀b e,(xE op).run T O n I b e=e (v,[],0):=by
 rw[Bool.and_eq_true]at h
 replace h:=h.2
 cases op<;>first|(cases h;done)|skip
 rename_i s d x
 have e1:∀b,(BL (.convert s d x)).run T O n I b=VM (uE T O s d ((fV x).run I) n) b:=fun b=>rfl
 have e2:∀b e,(xE (.convert s d x)).run T O n I b e=qB (uE T O s d ((fV x).run I) n) e:=fun b e=>rfl
 rcases hE:uE T O s d ((fV x).run I) n with _|⟨v,_|_,_|_⟩
 · exact .inl fun b=>⟨0,by rw[e1,hE];rfl⟩
 · exact .inr ⟨v,fun b=>by rw[e1,hE];rfl,fun b e=>by rw[e2,hE];rfl⟩
 all_goals exact .inl fun b=>⟨0,by rw[e1,hE];rfl⟩
end
end Sw
namespace Sw
noncomputable section
open Go Go.RowKit
section
variable {fl:Bool}{e:Env}{rec:Rec}{fm:Fm}{I:Tm}{ds:List Deferred}{O:Ht}{G:Nat}
theorem H9{op:Op}(hc:qd op≠2)(hn:∀c,op≠.call c)(dst:Option Nat):qh op dst=⟨fun e _ _ I ds O G Z k=>(xE op).run e.T O.get G I (fun v=>k ⟨(kh dst).run I v,ds,O,G,Z⟩) (tK (kh dst).run e.low I ds O G Z k)⟩:=by
 cases op<;>first|rfl|exact absurd rfl (hn _)|(exact absurd rfl hc)
theorem Dv{op:Op}(hn:∀c,op≠.call c):yS op=⟨fun T O n I b=>(xE op).run T O n I b (fun _=>.gk 0)⟩:=by
 cases op<;>first|rfl|exact absurd rfl (hn _)
theorem Mo(op:Op):(∃c,op=.call c)\/∀c,op≠.call c:=by
 cases op<;>first|exact .inl ⟨_,rfl⟩|exact .inr fun c h=>by cases h
theorem T4{op:Op}(h:qd op=0)(dst:Option Nat)(e:Env)(rec:Rec)(fm:Fm)(I:Tm)(ds:List Deferred)(O:Ht)(G:Nat):
 (∀Z k,∃m,(qh op dst).run e rec fm I ds O G Z k=.gk m)\/
 ∃v,(∀Z k,(qh op dst).run e rec fm I ds O G Z k=k ⟨(kh dst).run I v,ds,O,G,Z⟩)/\∀j,(yS op).run e.T O.get G I j=j v:=by
 rcases Mo op with⟨c,rfl⟩|hn
 · obtain⟨b,hb,hg⟩:=G5 h
   have h1:∀Z k,(qh (.call c) dst).run e rec fm I ds O G Z k=bi b e.T O.get G c.argTypes.toList (runs (sZ c.args.toList) I) (fun v=>k ⟨(kh dst).run I v,ds,O,G,Z⟩) (tK (kh dst).run e.low I ds O G Z k):=by
    intro Z k;simp only[qh,hb];rfl
   have D:∀j,(yS (.call c)).run e.T O.get G I j=bi b e.T O.get G c.argTypes.toList (runs (sZ c.args.toList) I) j (fun _=>.gk 0):=by
    intro j;simp only[yS,hb]
   rcases hg e.T O.get G c.argTypes.toList (runs (sZ c.args.toList) I)with g|⟨v,g⟩
   · exact .inl fun Z k=>by rw[h1];exact g _ _
   · exact .inr ⟨v,fun Z k=>by rw[h1,g],fun j=>by rw[D,g]⟩
 · have h1:=H9 (by rw[h];decide) hn dst
   have D:=Dv hn
   rw[h1,D]
   rcases Kh h hn e.T O.get G I with g|⟨v,g⟩
   · exact .inl fun Z k=>g _ _
   · exact .inr ⟨v,fun Z k=>by simp only[g],fun j=>by simp only[g]⟩
theorem RF{op:Op}(h:qd op=1)(dst:Option Nat)(e:Env)(rec:Rec)(fm:Fm)(I:Tm)(ds:List Deferred)(O:Ht)(G:Nat):
 (∀Z k,∃m,(qh op dst).run e rec fm I ds O G Z k=.gk m)\/
 ∃v cells,wL v=some G/\(∀Z k,(qh op dst).run e rec fm I ds O G Z k=k ⟨(kh dst).run I v,ds,O.set G (some (.cells cells gi.plain)),G+1,Z⟩):=by
 have hn:∀c,op≠.call c:=fun c hc=>by subst hc;simp only[qd]at h;split at h<;>cases h
 have h1:=H9 (by rw[h];decide) hn dst
 rw[h1]
 rcases Ki h e.T G I O.get with g|⟨v,cells,b,g⟩
 · exact .inl fun Z k=>g _ _
 · cases hb:Nat.ble e.low G with
   |false=>exact .inl fun Z k=>⟨0,by simp only[g,tK,zS,hb,cond_false]⟩
   |true=>exact .inr ⟨v,cells,b,fun Z k=>by simp only[g,tK,zS,hb,cond_true]⟩
def uH(fl:Bool)(op:Op)(dst:Option Nat):Cl:=bif fl&&pK op then EK op dst else qh op dst
theorem RG{op:Op}(h:kF fl op=0)(dst:Option Nat)(e:Env)(rec:Rec)(fm:Fm)(I:Tm)(ds:List Deferred)(O:Ht)(G:Nat):
 (∀Z k,∃m,(uH fl op dst).run e rec fm I ds O G Z k=.gk m)\/
 ∃v,(∀Z k,(uH fl op dst).run e rec fm I ds O G Z k=k ⟨(kh dst).run I v,ds,O,G,Z⟩)/\∀b,(vg fl op).run e.T O.get G I b=b v:=by
 rcases Cg h with hb|⟨h0,hb⟩
 · have e1:uH fl op dst=EK op dst:=by unfold uH;rw[hb];rfl
   have e2:vg fl op=BL op:=by unfold vg;rw[hb];rfl
   rw[e1,e2]
   rcases Ch hb e.T O.get G I with g|⟨v,g,_⟩
   · exact .inl fun Z k=>g _
   · exact .inr ⟨v,fun Z k=>g _,g⟩
 · have e1:uH fl op dst=qh op dst:=by unfold uH;rw[hb];rfl
   have e2:vg fl op=yS op:=by unfold vg;rw[hb];rfl
   rw[e1,e2]
   exact T4 h0 dst e rec fm I ds O G
theorem Qj{op:Op}(h:kF fl op=1)(dst:Option Nat)(e:Env)(rec:Rec)(fm:Fm)(I:Tm)(ds:List Deferred)(O:Ht)(G:Nat):
 (∀Z k,∃m,(uH fl op dst).run e rec fm I ds O G Z k=.gk m)\/
 ∃v cells,wL v=some G/\(∀Z k,(uH fl op dst).run e rec fm I ds O G Z k=k ⟨(kh dst).run I v,ds,O.set G (some (.cells cells gi.plain)),G+1,Z⟩):=by
 obtain⟨h1,hb⟩:=Du h
 have e1:uH fl op dst=qh op dst:=by unfold uH;rw[hb];rfl
 rw[e1]
 exact RF h1 dst e rec fm I ds O G
def gw(all:List Oper)(o:Oper)(I:Tm):Option Bool:=match o.guard with
 |none=>some true
 |some (j,w)=>match kA all j with
  |some g=>some (ni w (g.run I))
  |none=>none
theorem RH(all:List Oper)(o:Oper)(e:Env)(rec:Rec)(fm:Fm)(I:Tm)(ds:List Deferred)(O:Ht)(G:Nat)(Z:List Nat)(k:St->R):
 (iJ all o).run e rec fm I ds O G Z k=(match gw all o I with
   |some true=>(qh o.op o.dst).run e rec fm I ds O G Z k
   |some false=>k ⟨(kh o.dst).run I undef,ds,O,G,Z⟩
   |none=>.gk 0):=by
 obtain⟨dst,op,ty,pos,after,guard⟩:=o
 cases guard with
 |none=>rfl
 |some b=>
  obtain⟨j,w⟩:=b
  simp only[gw,iJ]
  cases kA all j with
  |none=>rfl
  |some g=>
   simp only
   cases ni w (g.run I)<;>rfl
theorem wu(all:List Oper)(o:Oper)(e:Env)(rec:Rec)(fm:Fm)(I:Tm)(ds:List Deferred)(O:Ht)(G:Nat)(Z:List Nat)(k:St->R):
 (s_ fl all o).run e rec fm I ds O G Z k=(match gw all o I with
   |some true=>(uH fl o.op o.dst).run e rec fm I ds O G Z k
   |some false=>k ⟨(kh o.dst).run I undef,ds,O,G,Z⟩
   |none=>.gk 0):=by
 cases hb:(fl&&pK o.op)with
 |false=>
  have e1:s_ fl all o=iJ all o:=by unfold s_;rw[hb];rfl
  have e2:uH fl o.op o.dst=qh o.op o.dst:=by unfold uH;rw[hb];rfl
  rw[e1,e2];exact RH all o e rec fm I ds O G Z k
 |true=>
  have e1:s_ fl all o=GU all o:=by unfold s_;rw[hb];rfl
  have e2:uH fl o.op o.dst=EK o.op o.dst:=by unfold uH;rw[hb];rfl
  rw[e1,e2]
  clear hb e1 e2
  obtain⟨dst,op,ty,pos,after,guard⟩:=o
  cases guard with
  |none=>rfl
  |some b=>
   obtain⟨j,w⟩:=b
   simp only[gw,GU]
   cases kA all j with
   |none=>rfl
   |some g=>
    simp only
    cases ni w (g.run I)<;>rfl
theorem Pa{o:Oper}(h:kF fl o.op≠2):kF fl o.op=0\/kF fl o.op=1:=by
 cases hb:(fl&&pK o.op)with
 |true=>exact .inl (by unfold kF;rw[hb];rfl)
 |false=>
  have e:kF fl o.op=qd o.op:=by unfold kF;rw[hb];rfl
  rw[e]at h⊢
  have:qd o.op=0\/qd o.op=1\/qd o.op=2:=by
   cases b:o.op<;>simp[qd]
   split<;>simp
  rcases this with h1|h1|h1
  · exact .inl h1
  · exact .inr h1
  · exact absurd h1 h
structure RI(RJ:Nat)(dst:Option Nat)(s s1:St):Prop where
 ds:s1.ds=s.ds
 step:∃v,s1.I=(kh dst).run s.I v/\((s1.O=s.O/\s1.G=s.G/\(RJ=1->wL v=none))\/(RJ=1/\wL v=some s.G/\s1.G=s.G+1/\∃cells,s1.O=s.O.set s.G (some (.cells cells gi.plain))))
theorem Wm(all:List Oper){o:Oper}(h:kF fl o.op≠2)(e:Env)(rec:Rec)(fm:Fm)(s:St):
 (∀Z k,∃m,(s_ fl all o).run e rec fm s.I s.ds s.O s.G Z k=.gk m)\/
 ∃s1,RI (kF fl o.op) o.dst s s1/\∀Z k,(s_ fl all o).run e rec fm s.I s.ds s.O s.G Z k=k (s1.at Z):=by
 cases hg:gw all o s.I with
 |none=>exact .inl fun Z k=>⟨0,by rw[wu,hg]⟩
 |some wn=>
  cases wn with
  |false=>
   refine .inr ⟨⟨(kh o.dst).run s.I undef,s.ds,s.O,s.G,[]⟩,⟨rfl,undef,rfl,.inl ⟨rfl,rfl,fun _=>rfl⟩⟩,fun Z k=>?_⟩
   rw[wu,hg];rfl
  |true=>
   have b:kF fl o.op=0\/kF fl o.op=1:=Pa h
   rcases b with hc|hc
   · rcases RG hc o.dst e rec fm s.I s.ds s.O s.G with g|⟨v,g,_⟩
     · exact .inl fun Z k=>by rw[wu,hg];exact g Z k
     · refine .inr ⟨⟨(kh o.dst).run s.I v,s.ds,s.O,s.G,[]⟩,⟨rfl,v,rfl,.inl ⟨rfl,rfl,fun k=>by rw[hc]at k;cases k⟩⟩,fun Z k=>?_⟩
       rw[wu,hg];exact g Z k
   · rcases Qj hc o.dst e rec fm s.I s.ds s.O s.G with g|⟨v,cells,j,g⟩
     · exact .inl fun Z k=>by rw[wu,hg];exact g Z k
     · refine .inr ⟨⟨(kh o.dst).run s.I v,s.ds,s.O.set s.G (some (.cells cells gi.plain)),s.G+1,[]⟩,⟨rfl,v,rfl,.inr ⟨hc,j,rfl,cells,rfl⟩⟩,fun Z k=>?_⟩
       rw[wu,hg];exact g Z k
end
end
end Sw
namespace Sw
noncomputable section
open Go Go.RowKit
variable {fl:Bool}
def VN(fl:Bool)(o:Oper)(T:Ty)(O:Ht)(n:Nat)(I:Tm):Prop:=∃v,(∀b,(vg fl o.op).run T O.get n I b=b v)/\∀d,o.dst=some d->I.get d=v
def VO(o:Oper)(T:Ty)(O:Ht)(I:Tm):Prop:=∃d m cells,o.dst=some d/\wL (I.get d)=some m/\O.get m=some (.cells cells gi.plain)/\
 ∀e b,(xE o.op).run T O.get m I e b=b (I.get d,[(m,some (.cells cells gi.plain))],1)
def Good(fl:Bool)(all:List Oper)(o:Oper)(T:Ty)(O:Ht)(n:Nat)(I:Tm):Prop:=
 (gw all o I=some false/\∀d,o.dst=some d->I.get d=undef)\/(gw all o I=some true/\((kF fl o.op=0/\VN fl o T O n I)\/(kF fl o.op=1/\VO o T O I)))
theorem Qk{op:Op}(h:qd op=0)(T:Ty)(O:Hp)(n:Nat)(I:Tm):(∀e,∃m,(yS op).run T O n I e=.gk m)\/∃v,∀e,(yS op).run T O n I e=e v:=by
 rcases Mo op with⟨c,rfl⟩|hn
 · obtain⟨b,hb,hg⟩:=G5 h
   have D:∀e,(yS (.call c)).run T O n I e=bi b T O n c.argTypes.toList (runs (sZ c.args.toList) I) e (fun _=>.gk 0):=by
    intro e;simp only[yS,hb]
   rcases hg T O n c.argTypes.toList (runs (sZ c.args.toList) I)with g|⟨v,g⟩
   · exact .inl fun e=>by rw[D];exact g _ _
   · exact .inr ⟨v,fun e=>by rw[D,g]⟩
 · rw[Dv hn]
   rcases Kh h hn T O n I with g|⟨v,g⟩
   · exact .inl fun e=>g _ _
   · exact .inr ⟨v,fun e=>by simp only[g]⟩
theorem Ql{op:Op}(h:kF fl op=0)(T:Ty)(O:Hp)(n:Nat)(I:Tm):(∀b,∃m,(vg fl op).run T O n I b=.gk m)\/∃v,∀b,(vg fl op).run T O n I b=b v:=by
 rcases Cg h with hb|⟨h0,hb⟩
 · have e2:vg fl op=BL op:=by unfold vg;rw[hb];rfl
   rw[e2]
   rcases Ch hb T O n I with g|⟨v,g,_⟩
   · exact .inl g
   · exact .inr ⟨v,g⟩
 · have e2:vg fl op=yS op:=by unfold vg;rw[hb];rfl
   rw[e2];exact Qk h0 T O n I
theorem RL{m:gi}(h:CJ m=true):m=gi.plain:=by
 obtain⟨ro,mG,base,unit⟩:=m
 simp only[CJ,Bool.and_eq_true]at h
 obtain⟨h1,D,h3,h4⟩:=h
 cases ro<;>cases mG<;>first|(cases h1;done)|(cases D;done)|skip
 rw[beq_eq h3,beq_eq h4];rfl
theorem Dw(op:Op)(d:Option Nat)(T:Ty)(O:Ht)(n:Nat)(I:Tm)(k:R):
 (TS fl op d).run T O n I k=(vg fl op).run T O.get n I (fun v=>match d with|some d=>(bif lg 8 v (I.get d)then k else .gk 0)|none=>k):=by
 cases d<;>rfl
theorem yW(op:Op)(d:Nat)(T:Ty)(O:Ht)(n:Nat)(I:Tm)(k:R):
 (TU op (some d)).run T O n I k=(match wL (I.get d)with
   |some m=>(xE op).run T O.get m I (fun _=>.gk 0) (fun f=>match f with
    |(v,jC,_)=>match jC,O.get m with
     |[(_,some (.cells Z _))],some (.cells lA b)=>bif lg 8 v (I.get d)&&(uG (lg 8) Z lA&&CJ b)then k else .gk 0
     |_,_=>.gk 0)
   |none=>.gk 0):=rfl
theorem Qm(o:Oper)(hc:kF fl o.op=0\/kF fl o.op=1)(T:Ty)(O:Ht)(n:Nat)(I:Tm):
 (∀k,∃m,(xg fl o).run T O n I k=.gk m)\/((∀k,(xg fl o).run T O n I k=k)/\((kF fl o.op=0/\VN fl o T O n I)\/(kF fl o.op=1/\VO o T O I))):=by
 rcases hc with hc|hc
 · have e:xg fl o=TS fl o.op o.dst:=by unfold xg;rw[hc];rfl
   rw[e]
   rcases Ql hc T O.get n I with g|⟨v,g⟩
   · exact .inl fun k=>by rw[Dw];exact g _
   · cases hd:o.dst with
     |none=>exact .inr ⟨fun k=>by rw[Dw,g],.inl ⟨hc,v,g,fun d h=>by rw[hd]at h;cases h⟩⟩
     |some d=>
      cases p:lg 8 v (I.get d)with
      |false=>exact .inl fun k=>⟨0,by rw[Dw,g];simp only[p,cond_false]⟩
      |true=>exact .inr ⟨fun k=>by rw[Dw,g];simp only[p,cond_true],.inl ⟨hc,v,g,fun d' h=>by rw[hd]at h;cases h;exact(BM 8 _ _ p).symm⟩⟩
 · have e:xg fl o=TU o.op o.dst:=by unfold xg;rw[hc];rfl
   rw[e]
   cases hd:o.dst with
   |none=>exact .inl fun k=>⟨0,rfl⟩
   |some d=>
    cases hm:wL (I.get d)with
    |none=>exact .inl fun k=>⟨0,by rw[yW,hm]⟩
    |some m=>
     rcases Ki (Du hc).1 T m I O.get with g|⟨v,cells,p,g⟩
     · exact .inl fun k=>by rw[yW,hm];exact g _ _
     · cases j:O.get m with
       |none=>exact .inl fun k=>⟨0,by rw[yW,hm];simp only[g,j]⟩
       |some ob=>
        cases ob<;>first|(refine .inl ?_;intro k;refine⟨0,?_⟩;rw[yW,hm];simp only[g,j];done)|skip
        rename_i lA u
        cases b:(lg 8 v (I.get d)&&(uG (lg 8) cells lA&&CJ u))with
        |false=>exact .inl fun k=>⟨0,by rw[yW,hm];simp only[g,j,b,cond_false]⟩
        |true=>
         refine .inr ⟨fun k=>by rw[yW,hm];simp only[g,j,b,cond_true],.inr ⟨hc,d,m,cells,hd,hm,?_,?_⟩⟩
         · rw[Bool.and_eq_true,Bool.and_eq_true]at b
           rw[j,tt (BM 8) _ _ b.2.1,RL b.2.2]
         · rw[Bool.and_eq_true,Bool.and_eq_true]at b
           rw[<-BM 8 _ _ b.1];exact g
theorem CL(all:List Oper)(o:Oper)(T:Ty)(O:Ht)(n:Nat)(I:Tm)(k:R):
 (GW fl all o).run T O n I k=(match gw all o I with
   |some true=>(xg fl o).run T O n I k
   |some false=>(bif AN o.dst I then k else .gk 0)
   |none=>.gk 0):=by
 unfold GW gw
 cases o.guard with
 |none=>rfl
 |some b=>
  obtain⟨j,w⟩:=b
  simp only
  cases kA all j with
  |none=>rfl
  |some g=>
   simp only
   cases ni w (g.run I)<;>rfl
theorem T5(all:List Oper)(o:Oper)(hc:kF fl o.op=0\/kF fl o.op=1)(T:Ty)(O:Ht)(n:Nat)(I:Tm):
 (∀k,∃m,(GW fl all o).run T O n I k=.gk m)\/((∀k,(GW fl all o).run T O n I k=k)/\Good fl all o T O n I):=by
 cases hg:gw all o I with
 |none=>exact .inl fun k=>⟨0,by rw[CL,hg]⟩
 |some wn=>
  cases wn with
  |false=>
   cases hu:AN o.dst I with
   |false=>exact .inl fun k=>⟨0,by rw[CL,hg];simp only[hu,cond_false]⟩
   |true=>
    refine .inr ⟨fun k=>by rw[CL,hg];simp only[hu,cond_true],.inl ⟨hg,fun d hd=>?_⟩⟩
    rw[hd]at hu
    exact(BM 8 _ _ hu).symm
  |true=>
   rcases Qm o hc T O n I with g|⟨g1,g2⟩
   · exact .inl fun k=>by rw[CL,hg];exact g k
   · exact .inr ⟨fun k=>by rw[CL,hg];exact g1 k,.inr ⟨hg,g2⟩⟩
end
end Sw
namespace Sw
noncomputable section
open Go Go.RowKit
section
variable {P:Program}{ng:Nat}{e:Env}{B0:Nat}{w0:World}{b:Frame}{g:Gm}{G mL:Nat}{a:Act}{w:World}{I:Tm}{O:Ht}{ops:Array Oper}{i:Nat}{o:Oper}
theorem lI.low{g':Gm}{w':World}{e5:Nat}(h:lI g G w g' e5 w')(k:mL<=G):lI g mL w g' e5 w':=
 ⟨⟨h.ext.le,e8 k h.ext.num,fun b hb=>(h.ext.new b hb).imp id (e8 k)⟩,h.kept,h.held⟩
theorem lI.RM{g1 g2:Gm}{n o n2:Nat}{w1 j:World}(h:lI g n w g1 o w1)(k:lI g1 n w1 g2 n2 j):lI g n w g2 n2 j:=
 ⟨⟨Gm.le_trans h.ext.le k.ext.le,k.ext.num,fun b hb=>(k.ext.new b hb).elim (fun q=>h.ext.new b q) .inr⟩,h.kept.trans h.held k.kept,fun b rb ro e=>by
   rcases k.held b rb ro e with⟨m,p,q⟩|q
   · exact h.held m rb p q
   · exact .inr (e8 h.kept.1 q)⟩
theorem kR.value{Q:p0->Prop}{run:K1->K2->R}{v:Value}(h:∀b o,kR Q (fun i:List Nat=>run (b i) (o i)) b o)(p:∀b,run b (fun _=>.gk 0)=b v):Q (v,[],0):=by
 classical
 let j:St:=⟨Tm.undef,[],.nil,0,[]⟩
 have:=h (fun _ u=>if u=v then .ok (0,j)else .gk 0) (fun _ _=>.gk 0)
 have e0:run (fun u=>if u=v then .ok (0,j)else .gk 0) (fun _=>.gk 0)=.ok (0,j):=by rw[p];simp
 rcases this with q|⟨u,e,y⟩|⟨f,e,_⟩
 · obtain⟨m,q⟩:=q [];simp only[e0]at q;cases q
 · have q:=e []
   simp only[e0]at q
   by_cases hu:u=v
   · subst hu;exact y
   · rw[if_neg hu]at q;cases q
 · have q:=e [];simp only[e0]at q;cases q
theorem kR.effect{Q:p0->Prop}{run:K1->K2->R}{f:p0}(h:∀e b,kR Q (fun i:List Nat=>run (e i) (b i)) e b)(hf:∀e b,run e b=b f):Q f:=by
 classical
 let o:St:=⟨Tm.undef,[],.nil,0,[]⟩
 have:=h (fun _ _=>.gk 0) (fun _ u=>if u=f then .ok (0,o)else .gk 0)
 have e0:run (fun _=>.gk 0) (fun u=>if u=f then .ok (0,o)else .gk 0)=.ok (0,o):=by rw[hf];simp
 rcases this with q|⟨u,j,p⟩|⟨u,j,p⟩
 · obtain⟨m,q⟩:=q [];simp only[e0]at q;cases q
 · have q:=j [];simp only[e0]at q;cases q
 · have q:=j []
   simp only[e0]at q
   by_cases hu:u=f
   · subst hu;exact p
   · rw[if_neg hu]at q;cases q
def T6(fl:Bool)(P:Program)(B0:Nat)(w0:World)(b:Frame)(g:Gm)(mL:Nat)(O:Ht)(G:Nat)(I:Tm)(ops:Array Oper)(i:Nat)(o:Oper)(a:Act)(w:World):Prop:=
 ∃v' w' g',gm B0 w0 g' O.get G w'/\(∀d,o.dst=some d->fK g' (I.get d) v')/\lI g mL w g' G w'/\
  (∀m,g'.fW m≠none->g.fW m≠none\/(kF fl o.op=1/\∃d,o.dst=some d/\wL (I.get d)=some m))/\
  ∀rest k Z,Steps P (lone (At b a (.inRegion ops (i::rest)::k)) Z w) (lone (At b (a.put o.dst v') (.inRegion ops rest::k)) Z w')
theorem G6(ok:mP P ng e){O:Hp}(H:gm B0 w0 g O G w)(m:vt g I a.eval o.op.operands.toList)(n:Nat)(j:List Nat->K1)(b:List Nat->K2):
 kR (nL P B0 w0 g O G n w ((execOp a.eval o).run P w)) (fun i=>(xE o.op).run e.T O n I (j i) (b i)) j b:=Kb ok.T ok.cl H m j b
theorem YX{u v:Value}(h:∀b:K1,b u=b v):u=v:=by
 have:=h fun x=>.ok (0,⟨Tm.undef,[⟨.collected 0,#[x]⟩],.nil,0,[]⟩)
 simpa using this
theorem RN{fl:Bool}(ok:mP P ng e)(H:gm B0 w0 g O.get G w)(ab:ops[i]?=some o)(R:vt g I a.eval o.op.operands.toList)(al:Bd g ops I a o)(L:mL<=G)
 (oI:Good fl ops.toList o e.T O G I) (hm:kF fl o.op=1->∀d m,o.dst=some d->wL (I.get d)=some m->g.fW m=none/\mL<=m/\m<G):
 T6 fl P B0 w0 b g mL O G I ops i o a w:=by
 have F:∀wn,gw ops.toList o I=some wn->Region.wanted o (yielded ops a.tmps)=wn:=by
  intro wn h
  cases hg:o.guard with
  |none=>
   simp only[gw,hg]at h
   cases h
   simp[Region.wanted,hg]
  |some an=>
   obtain⟨j,w'⟩:=an
   simp only[gw,hg]at h
   cases hj:ops[j]? with
   |none=>
    have:kA ops.toList j=none:=by simp[kA,qj,hj]
    rw[this]at h;cases h
   |some ao=>
    cases hd:ao.dst with
    |none=>
     have:kA ops.toList j=none:=by simp[kA,qj,hj,hd,Cd]
     rw[this]at h;cases h
    |some d=>
     have:kA ops.toList j=some (fV (.tmp d)):=by simp[kA,qj,hj,hd,Cd]
     rw[this]at h
     have ai:=H5 al hg hj hd
     rw[ai]
     simp only[Option.some.injEq]at h
     exact h
 rcases oI with⟨g1,g2⟩|⟨g1,g2⟩
 · have hw:=F _ g1
   refine⟨undef,w,g,H,fun d hd=>by rw[g2 d hd];exact fK.undef g,lI.low (lI.refl _ _ _) L,fun m hm=>.inl hm,fun rest k Z=>.one (D4 ab hw)⟩
 · have hw:=F _ g1
   have aa:qF o.op=true:=by
    cases z:o.op<;>first|rfl|skip
    exfalso
    rw[z]at g2
    have am:∀c,kF fl (Op.defer c)=2:=fun _=>by unfold kF;cases fl<;>rfl
    rcases g2 with⟨q,_⟩|⟨q,_⟩<;>(rw[am]at q;cases q)
   rcases g2 with⟨hc,v,J,hd⟩|⟨hc,d,m,cells,hd,N,B,ac⟩
   · have Q:nL P B0 w0 g O.get G G w ((execOp a.eval o).run P w) (v,[],0):=by
      rcases Cg hc with C|⟨hc,C⟩
      · have e2:vg fl o.op=BL o.op:=by unfold vg;rw[C];rfl
        rw[e2]at J
        refine kR.effect (run:=fun p y=>(xE o.op).run e.T O.get G I p y) (fun p y=>G6 ok H R G p y) (fun p y=>?_)
        rcases Ch C e.T O.get G I with g|⟨u,g,g'⟩
        · obtain⟨m,hm⟩:=g fun v=>.ok (0,⟨Tm.undef,[],.nil,0,[]⟩)
          rw[J]at hm;cases hm
        · have:u=v:=YX (fun p=>(g p).symm.trans (J p))
          rw[g',this]
      have e2:vg fl o.op=yS o.op:=by unfold vg;rw[C];rfl
      rw[e2]at J
      rcases Mo o.op with⟨c,z⟩|af
      · obtain⟨ad,hb,hg⟩:=G5 (by rw[z]at hc;exact hc)
        have W:gV g (runs (sZ c.args.toList) I) (c.args.map a.eval).toList:=by
         rw[Array.toList_map]
         rw[z]at R
         exact yU c.args.toList fun x hx=>R x (by simp only[Op.operands,Call.operands];cases c.callee<;>simp[hx])
        have e1:(execOp a.eval o).run P w=(Go.builtin ad c.argTypes.toList.toArray o.type (c.args.map fun|.const _=>true|_=>false) (c.args.map a.eval).toList.toArray).run P w:=by
         simp only[execOp,z,resolve,hb];rfl
        rw[e1]
        refine kR.value (run:=fun p y=>bi ad e.T O.get G c.argTypes.toList (runs (sZ c.args.toList) I) p y) (fun p y=>Mf ok.T H W o.type _ p y) (fun p=>?_)
        have:=J p
        rw[z]at this
        simp only[yS,hb]at this
        exact this
      · refine kR.value (run:=fun p y=>(xE o.op).run e.T O.get G I p y) (fun p y=>G6 ok H R G p y) (fun p=>?_)
        have:=J p
        rw[Dv af]at this
        exact this
     obtain⟨g',v',w',E⟩:=Q G (e9 _) (e9 _) (fun j hj=>by cases hj)
     have M:∀b',g'.fW b'≠none->g.fW b'≠none:=fun b' hb=>by
      rcases E.new b' hb with h|h
      · exact h
      · have D:b'<G+0:=h.2
        omega
     refine⟨v',w',g',E.rel,fun d' h=>by rw[hd d' h];exact E.val,⟨⟨E.le,L,fun b' hb=>.inl (M b' hb)⟩,E.keeps.kept E.size,E.held⟩,fun S K=>.inl (M S K),fun rest k Z=>?_⟩
     exact .one (EP ab hw (.inr aa) E.run)
   · obtain⟨aj,ap,aq⟩:=hm hc d m hd N
     have ag:∀ms,O.get m≠some (.group ms):=fun ms h=>by rw[B]at h;cases h
     have ak:=H.kill m ag
     have Q:nL P B0 w0 g (Hp.set O.get m none) G m w ((execOp a.eval o).run P w) (I.get d,[(m,some (.cells cells gi.plain))],1):=
      kR.effect (run:=fun p y=>(xE o.op).run e.T (Hp.set O.get m none) m I p y) (fun p y=>G6 ok ak R m p y) (fun p y=>by
       rw[RE (Du hc).1 e.T m I (Hp.set O.get m none) O.get];exact ac p y)
     have X:g.room m=none:=by
      cases hr:g.room m with
      |none=>rfl
      |some x=>exact absurd aj (H.room m x hr)
     obtain⟨g',v',w',E⟩:=Q G (e9 _) (by show m+1<=G;omega) (fun j hj=>by
      have hj:j<1:=hj
      have:j=0:=by omega
      subst this
      exact⟨aj,X,Hp.jH _ _ _⟩)
     have ae:(Hp.set O.get m none).uc [(m,some (.cells cells gi.plain))]=O.get:=by
      funext x
      show Hp.set (Hp.set O.get m none) m (some (.cells cells gi.plain)) x=_
      by_cases hx:x=m
      · subst hx;rw[Hp.jH,B]
      · rw[Hp.gN _ _ hx,Hp.gN _ _ hx]
     have A:=E.rel
     simp only at A
     rw[ae]at A
     have hk:Kept g w w':=⟨E.size,fun rb jA ah=>E.keeps rb jA fun b' _ ro _=>ah b' ro⟩
     refine⟨v',w',g',A,fun d' h=>by rw[hd]at h;cases h;exact E.val,⟨⟨E.le,L,fun b' hb=>?_⟩,hk,E.held⟩,fun S K=>?_,fun rest k Z=>?_⟩
     · rcases E.new b' hb with h|h
       · exact .inl h
       · exact .inr (by omega)
     · rcases E.new S K with h|h
       · exact .inl h
       · have:S=m:=by have h1:=h.1;have D:S<m+1:=h.2;omega
         subst this
         exact .inr ⟨hc,d,hd,N⟩
     · exact .one (EP ab hw (.inr aa) E.run)
end
end
end Sw
namespace Sw
noncomputable section
open Go Go.RowKit
theorem AQ(s i x:Nat):has (put s i) x=(has s x||decide (i=x)):=by
 unfold has put
 have:Nat.testBit (Nat.lor s (2^i)) x=(Nat.testBit s x||Nat.testBit (2^i) x):=Nat.testBit_or ..
 rw[this,Nat.testBit_two_pow]
theorem EX(s i:Nat):has (put s i) i=true:=by rw[AQ];simp
theorem H_{s i x:Nat}(h:i≠x):has (put s i) x=has s x:=by rw[AQ];simp[h]
theorem sJ{s i x:Nat}(h:has s x=true):has (put s i) x=true:=by rw[AQ,h];rfl
theorem Be(x:Nat):has 0 x=false:=by simp[has]
theorem FP{a b x:Nat}(h:sub a b=true)(hx:has a x=true):has b x=true:=by
 have h:=beq_eq h
 have:Nat.testBit (Nat.land a b) x=(Nat.testBit a x&&Nat.testBit b x):=Nat.testBit_and ..
 rw[h]at this
 unfold has at*
 rw[hx]at this
 simpa using this.symm
theorem RO{a b:Nat}(h:∀x,has a x=true->has b x=true):sub a b=true:=by
 have:Nat.land a b=a:=by
  apply Nat.eq_of_testBit_eq
  intro x
  have e:Nat.testBit (Nat.land a b) x=(Nat.testBit a x&&Nat.testBit b x):=Nat.testBit_and ..
  rw[e]
  cases hx:Nat.testBit a x with
  |false=>rfl
  |true=>have:=h x hx;unfold has at this;rw[this];rfl
 unfold sub;rw[this];exact Nat.beq_refl a
theorem EY{md:Region.Mode}{x:Nat}:∀{es:List Edge},has (FH md es) x=true↔∃e∈es,Region.binds md e=true/\e.on=x
 |[]=>by simp[FH,Be]
 |e::es=>by
  simp only[FH]
  cases hb:Region.binds md e with
  |false=>simp[EY (es:=es),hb]
  |true=>
   simp only[cond_true,AQ,Bool.or_eq_true,decide_eq_true_eq,EY (es:=es),List.mem_cons]
   constructor
   · rintro(⟨b,h1,D⟩|h)
     · exact⟨b,.inr h1,D⟩
     · exact⟨e,.inl rfl,hb,h⟩
   · rintro ⟨b,rfl|h1,D,h3⟩
     · exact .inr h3
     · exact .inl ⟨b,h1,D,h3⟩
theorem Jm{bm:List Nat}{x:Nat}:∀{es:List Edge},has (Eo bm es) x=true->∃e∈es,Region.binds .any e=true/\(x=e.on\/has (xY e.on bm) x=true)
 |[],h=>by simp[Eo,Be]at h
 |e::es,h=>by
  simp only[Eo]at h
  cases hb:Region.binds .any e with
  |false=>
   rw[hb]at h
   obtain⟨b,h1,D⟩:=Jm (es:=es) h
   exact⟨b,fw _ h1,D⟩
  |true=>
   rw[hb]at h
   have:Nat.testBit (Nat.lor (xY e.on bm) (put (Eo bm es) e.on)) x=(Nat.testBit (xY e.on bm) x||Nat.testBit (put (Eo bm es) e.on) x):=Nat.testBit_or ..
   have h:Nat.testBit (Nat.lor (xY e.on bm) (put (Eo bm es) e.on)) x=true:=h
   rw[this,Bool.or_eq_true]at h
   rcases h with h|h
   · exact⟨e,fh ..,hb,.inr h⟩
   · have h:has (put (Eo bm es) e.on) x=true:=h
     rw[AQ,Bool.or_eq_true]at h
     rcases h with h|h
     · obtain⟨b,h1,D⟩:=Jm (es:=es) h
       exact⟨b,fw _ h1,D⟩
     · exact⟨e,fh ..,hb,.inl (by simpa using(of_decide_eq_true h).symm)⟩
def pk(all:List Oper)(i:Nat):List Edge:=match nD i all with
 |some o=>o.after.toList
 |none=>[]
theorem yh{md:Region.Mode}{all:List Oper}{i x:Nat}:has (maskAt md all i) x=true↔∃e∈pk all i,Region.binds md e=true/\e.on=x:=by
 unfold maskAt pk
 cases nD i all with
 |none=>simp[Be]
 |some o=>exact EY
theorem rV{n:Nat}{p:Nat->Bool}(h:(List.range n).all p=true){i:Nat}(hi:i<n):p i=true:=fE.1 h i (gJ.2 hi)
variable {fl:Bool}
structure qY(fl:Bool)(all:List Oper)(bm:List Nat):Prop where
 XM:∀i k,i<all.length->k<all.length->i≠k->∀d,sh all i=some d->sh all k≠some d
 looks:∀k,k<all.length->∀t,t∈looksAt all k->∀i,i<all.length->sh all i=some t->qv fl all i=2\/has (xY k bm) i=true
 bm:∀i,i<all.length->∀x,has (xY i bm) x=true->∃e∈pk all i,Region.binds .any e=true/\(x=e.on\/has (xY e.on bm) x=true)
 back:∀i,i<all.length->∀e∈pk all i,Region.binds .any e=true->e.on<i
theorem RP{all:List Oper}{pl:TK}(h:HH fl all pl=true):
 qY fl all pl.bm/\uP .text all (List.range all.length) 0=true/\uP .gc all pl.Xq 0=true/\vA fl all pl.bm pl.r6 0 none=true:=by
 unfold HH at h
 simp only[Bool.and_eq_true]at h
 obtain⟨h1,D,h3,h4,m,p,u⟩:=h
 refine⟨⟨?_,?_,?_,?_⟩,m,p,u⟩
 · intro i k hi hk jB d hd j
   have:=rV h1 hi
   rw[hd]at this
   have:=rV this hk
   rw[j]at this
   simp only[Bool.or_eq_true]at this
   rcases this with h|h
   · exact jB (beq_eq h)
   · rw[Nat.beq_refl]at h;cases h
 · intro k hk t y i hi hd
   have:=fE.1 (rV D hk) t y
   have:=rV this hi
   rw[hd]at this
   simp only[Bool.or_eq_true]at this
   rcases this with h|h|h
   · rw[Nat.beq_refl]at h;cases h
   · exact .inl (beq_eq h)
   · exact .inr h
 · intro i hi x hx
   have:=rV h3 hi
   unfold pk
   cases b:nD i all with
   |none=>
    rw[qj]at b
    simp at b;omega
   |some o=>
    rw[b]at this
    exact Jm (FP this hx)
 · intro i hi e he hb
   have:=rV h4 hi
   have hx:has (maskAt .any all i) e.on=true:=yh.2 ⟨e,he,hb,rfl⟩
   have:=FP this hx
   unfold has at this
   rw[Nat.testBit_two_pow_sub_one]at this
   exact of_decide_eq_true this
theorem Kj{md:Region.Mode}{e:Edge}(h:Region.binds .any e=true):Region.binds md e=true:=by
 unfold Region.binds at*
 split at h<;>first|(cases h;done)|(cases md<;>simp_all)
theorem Qn{md:Region.Mode}{all:List Oper}{Mi:Nat->Prop}:∀(is:List Nat) (L:Nat),uP md all is L=true->(∀i,has L i=true->Mi i)->
 (∀i,i<all.length->Mi i)\/∃i,i<all.length/\¬Mi i/\∀e∈pk all i,Region.binds md e=true->Mi e.on:=by
 classical
 intro is
 induction is with
 |nil=>
  intro L h b
  exact .inl fun i hi=>b i (rV h hi)
 |cons i is ih=>
  intro L h b
  simp only[uP,Bool.and_eq_true]at h
  obtain⟨h0,h1,D⟩:=h
  have hi:i<all.length:=fa h0
  by_cases hl:Mi i
  · refine ih (put L i) D fun k hk=>?_
    rw[AQ,Bool.or_eq_true]at hk
    rcases hk with hk|hk
    · exact b k hk
    · have:=of_decide_eq_true hk;subst this;exact hl
  · exact .inr ⟨i,hi,hl,fun e he hb=>b _ (FP h1 (yh.2 ⟨e,he,hb,rfl⟩))⟩
end
end Sw
