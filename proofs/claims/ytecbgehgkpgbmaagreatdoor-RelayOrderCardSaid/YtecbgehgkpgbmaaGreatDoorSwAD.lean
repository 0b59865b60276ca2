/- A part of the proof that the law returns true for every input that its row speaks of. No condition is added. -/
import Derived.Test.YtecbgehgkpgbmaaGreatDoorSwAC
namespace Sw
noncomputable section
open Go Go.RowKit
section
variable {P:Program}{ng:Nat}{e:Env}{B0:Nat}{w0:World}{b:Frame}{nt:Nat}{g:Gm}{nx:Nat}{a:Act}{w:World}{to:Tm}{hp:Ht}{rec:Rec}
theorem Act.eval_put{a:Act}{d:Nat}{v:Value}(h:d<a.tmps.size):(a.put (some d) v).eval (.tmp d)=v:=by
 simp[Act.eval,Act.put,Array.getD,h]
theorem LW{o:Oper}{i:Nat}{ops:Array Oper}{rest:List Nat}{k:List Item}{c:Frame}{cs:List Frame}(C:ops[i]?=some o)(hw:Region.wanted o (yielded ops a.tmps)=true)(hr:b.roundOf=none)(hc:c.mode=.returning)(hk:b.kind=.deferred)
 (h:(execOp a.eval o).run P w=.ok .recover w):
 step P (lone (At b a (.inRegion ops (i::rest)::k)) (c::cs) w)=.next (lone (At b (a.put o.dst .nilIface) (.inRegion ops rest::k)) (c::cs) w):=by
 have j:=At.finish b a ops i rest k .nilIface
 rw[C]at j
 refine step_lone_go ?_
 rw[HF C hw (.inl hr)]
 have j:(At b a (.inRegion ops (i::rest)::k)).finish .nilIface=At b (a.put o.dst .nilIface) (.inRegion ops rest::k):=j
 rw[<-j]
 have h1:(At b a (.inRegion ops (i::rest)::k)).roundOf=none:=hr
 have h2:tryRecover (At b a (.inRegion ops (i::rest)::k)) (c::cs)=none:=by
  have:(At b a (.inRegion ops (i::rest)::k)).kind=.deferred:=hk
  simp[tryRecover,this,hc]
 simp[stepG.apply,h,h1,h2]
theorem N0(ok:mE P ng e)(H:gu B0 w0 g hp.get nx w){f:FuncId}{fi:vQ}(hf:e.F f=some fi)(o:HA e.T fi=true)(args:Array Value):
 ∃v' w' g',gu B0 w0 g' hp.get nx w'/\Ext g nx w g' nx w'/\∀(c:Frame) cs,c.mode=.returning->∃fr,Steps P (lone (Frame.enter P f args .deferred) (c::cs) w) (lone fr (c::cs) w')/\fr.mode=.returning/\fr.defers=[]/\fr.kind=.deferred/\fr.fn=f/\
  ∃fn,P.funcs[fr.fn]?=some fn/\(results fn fr.tmps).run P w'=.ok v' w':=by
 obtain⟨fn,f1,f2,f3,f4,f5,f6,f7,f8⟩:=ok.F f fi hf
 obtain⟨body,nt,res⟩:=fi
 unfold HA at o
 split at o<;>first|(cases o;done)|skip
 rename_i an o1 ao o2 x y R C
 unfold Q1 at o
 split at o<;>first|(cases o;done)|skip
 rename_i LX d1 ah au U4 p1 ai d2 a2 av ax aj d3 aA aw ay ak d4 t4 c4 I U p4 J h1 h2
 simp only[Bool.and_eq_true]at o
 obtain⟨⟨ad,ae,q3,af⟩,⟨r1,r2,aq,ar⟩,hb⟩:=o
 have ad:=Nat.eq_of_beq_eq_true ad;have ae:=Nat.eq_of_beq_eq_true ae;have q3:=Nat.eq_of_beq_eq_true q3;have af:=Nat.eq_of_beq_eq_true af
 subst ad;subst ae;subst q3;subst af
 have e1:=congrArg List.toArray h1
 have e2:=congrArg List.toArray h2
 simp only[Array.toArray_toList]at e1 e2
 subst e1;subst e2
 have hb:wy e.T .neq t4 (.tmp d3) (.const .nilIface) .nilIface .nilIface=some (.bool false):=by
  split at hb
  · assumption
  · cases hb
 simp only at f2 f3 f4 f8 C R
 subst C;subst R
 let a0:Act:=⟨args++Array.replicate (nt-args.size) Go.undef,[]⟩
 have az:nt<=a0.tmps.size:=by simp[a0];omega
 let b:=Frame.enter P f args .deferred
 have he:b=At b a0 [.code (.seq (.region an #[⟨some d1,.call ⟨.builtin .recover,ah,au⟩,U4,p1,ai,none⟩,⟨some d2,.assign (.tmp d1),av,ax,aj,none⟩] false) (.seq (.region ao #[⟨some d3,.move (.tmp d2),aw,ay,ak,none⟩,⟨some d4,.binOp .neq t4 (.tmp d3) (.const .nilIface) I,U,p4,J,none⟩] false) (.cond (.tmp d4) y .skip)))]:=by simp[b,Frame.enter,At,f1,f2,f3,a0]
 have hr:b.roundOf=none:=by simp[b,Frame.enter]
 have hk:b.kind=.deferred:=by simp[b,Frame.enter]
 have aa:b.fn=f:=by simp[b,Frame.enter]
 let a1:=a0.put (some d1) .nilIface
 let a2:=a1.put (some d2) .nilIface
 let a3:=a2.put (some d3) .nilIface
 have ag:∀(a:Act) (d:Nat) (v:Value),(a.put (some d) v).tmps.size=a.tmps.size:=fun a d v=>by simp[Act.put]
 have s1:a1.tmps.size=a0.tmps.size:=ag ..
 have s2:a2.tmps.size=a0.tmps.size:=(ag ..).trans s1
 have aB:a3.tmps.size=a0.tmps.size:=(ag ..).trans s2
 have r1:=Nat.le_of_ble_eq_true r1;have r2:=Nat.le_of_ble_eq_true r2;have aq:=Nat.le_of_ble_eq_true aq;have ar:=Nat.le_of_ble_eq_true ar
 have v1:a1.eval (.tmp d1)=.nilIface:=Act.eval_put (by omega)
 have v2:a2.eval (.tmp d2)=.nilIface:=Act.eval_put (by omega)
 have v3:a3.eval (.tmp d3)=.nilIface:=Act.eval_put (by omega)
 have Q:=Hv (n:=nx) ok.T H hb (.nilIface (g:=g)) (.nilIface (g:=g))
 obtain⟨g',v',w',E⟩:=Q nx (Nat.le_refl _) (Nat.le_refl _) (fun j hj=>by cases hj)
 have al:v'=.bool false:=by have:=E.val;cases this;rfl
 subst al
 have ab:∀b',g'.gb b'≠none->g.gb b'≠none:=fun b' hb=>by
  rcases E.new b' hb with h|h
  · exact h
  · have h2:b'<nx+0:=h.2
    omega
 let a4:=a3.put (some d4) (.bool false)
 have v4:a4.eval (.tmp d4)=.bool false:=Act.eval_put (by omega)
 refine⟨.tuple #[],w',g',E.rel,⟨⟨E.le,Nat.le_refl _,fun b' hb=>.inl (ab b' hb)⟩,E.keeps.kept E.size,E.held⟩,fun c cs hc=>⟨{At b a4 []with mode:=.returning},?_,rfl,rfl,hk,aa,fn,by show P.funcs[b.fn]?=_;rw[aa];exact f1,?_⟩⟩
 · show Steps P (lone b (c::cs) w) _
   rw[he]
   refine .head HD (.head El ?_)
   refine .head (LW (i:=0) (rest:=[1]) rfl rfl hr hc hk rfl) (.head (C1 (i:=1) (rest:=[]) (v:=.nilIface) rfl rfl (.inl hr) (by show Result.ok (Next.value (a1.eval (.tmp d1))) w=_;rw[v1])) (.head xG (.head HD (.head El ?_))))
   refine .head (C1 (i:=0) (rest:=[1]) (v:=.nilIface) rfl rfl (.inl hr) (by show Result.ok (Next.value (a2.eval (.tmp d2))) w=_;rw[v2])) (.head (Eo (i:=1) (rest:=[]) (v:=.bool false) (w':=w') rfl rfl (.inl hr) ?_) (.head xG (.head (OL v4) (.head OK (.one (FU hr))))))
   have e:(execOp a3.eval ⟨some d4,.binOp .neq t4 (.tmp d3) (.const .nilIface) I,U,p4,J,none⟩:Sem Next)=(do pure (Next.value (<-(do eqGuard .neq t4 (.tmp d3) (.const .nilIface) .nilIface .nilIface;binOp .neq t4 .nilIface .nilIface:Sem Value))):Sem Next):=by
    show(do pure (Next.value (<-(do eqGuard .neq t4 (.tmp d3) (.const .nilIface) (a3.eval (.tmp d3)) .nilIface;binOp .neq t4 (a3.eval (.tmp d3)) .nilIface:Sem Value))):Sem Next)=_
    rw[v3]
   show HB ((execOp a3.eval ⟨some d4,.binOp .neq t4 (.tmp d3) (.const .nilIface) I,U,p4,J,none⟩:Sem Next).run P w)=_
   rw[e,PC]
   exact E.run
 · have:fn.results=#[]:=by rw[<-Array.toArray_toList (xs:=fn.results),f4]
   simp[results,this]
theorem xJ(ok:mE P ng e)(ih:ot P ng B0 w0 rec)(k:Ht->Nat->List Nat->R):∀(ds U:List Deferred) (hp:Ht) (nx:Nat) (g:Gm) (w:World) (fr:Frame) (fs:List Frame),gu B0 w0 g hp.get nx w->kT g ng->mV g ds U->fr.mode=.returning->fr.defers=U->
 lS (fun cs=>lI e rec ds hp nx cs k) fun f'=>zA f'\/∃fe fg,(∀cs,f' cs=k fe fg cs)/\sU P B0 w0 g nx w fe fg fr fs
 |[],U,hp,nx,g,w,fr,fs,H,hg,hd,hm,he=>by
  cases mV.vT hd
  exact .here (.inr ⟨hp,nx,fun cs=>rfl,sU.nil H he⟩)
 |d::ds,U,hp,nx,g,w,fr,fs,H,hg,hd,hm,he=>by
  obtain⟨d',I,rfl,h1,h2⟩:=hd.cons_inv
  obtain⟨av,aa⟩:=d
  have fail:∀f:List Nat->R,(∀cs,f cs=.gm 0)->lS f fun f'=>zA f'\/∃fe fg,(∀cs,f' cs=k fe fg cs)/\sU P B0 w0 g nx w fe fg fr fs:=fun f h=>.dead fun cs=>⟨0,h cs⟩
  cases av with
  |nil=>exact fail _ fun cs=>rfl
  |builtin=>exact fail _ fun cs=>rfl
  |coroexit=>exact fail _ fun cs=>rfl
  |collected r=>
   cases hr:hp.get r with
   |none=>exact fail _ fun cs=>by simp[lI,hr]
   |some o=>
    cases o with
    |deferred x=>
     cases x with
     |none=>exact fail _ fun cs=>by simp[lI,hr]
     |some l=>
      cases l with
      |cons=>exact fail _ fun cs=>by simp[lI,hr]
      |nil=>
       cases hb:Nat.ble e.low r with
       |false=>exact fail _ fun cs=>by simp[lI,hr,hb]
       |true=>
        have:aa=#[]:=by cases h1;rfl
        subst this
        have j:(fun cs=>lI e rec (⟨.collected r,#[]⟩::ds) hp nx cs k)=fun cs=>lI e rec ds (hp.set r (some (.deferred none))) nx cs k:=by funext cs;simp[lI,hr,hb]
        rw[j]
        cases h1 with
        |@Gk _ rr ad=>
         obtain⟨jq,aw,al⟩:=(H.live _ _ hr).2 _ _ ad
         cases jq<;>first|exact al.elim|skip
         rename_i l
         cases l with
         |none=>exact al.elim
         |some l=>
          obtain⟨_,aq,h4⟩:=al
          cases mV.vT h4
          have H1:=H.setObj hr ad (o':=.deferred none) (fun _ _ h=>by cases h) (fun _ _ h=>by cases h) rfl (.deferred none) aq ⟨rfl,aq⟩
          rw[<-Tr.nJ]at H1
          refine(xJ ok ih k ds I _ nx g _ {fr with defers:=I} fs H1 hg h2 hm rfl).mono fun f' h=>?_
          rcases h with h|⟨fe,fg,h,w',g',R,E,st⟩
          · exact .inl h
          · exact .inr ⟨fe,fg,h,w',g',R,(Ext.putObj ad _).trans E,.head (Er hm he aw) st⟩
    |_=>exact fail _ fun cs=>by simp[lI,hr]
  |fn fn cap=>
   cases fn with
   |func f=>
    cases h1 with
    |@fn _ _ ab _ af hy hx=>
    cases hf:e.F f with
    |none=>exact fail _ fun cs=>by simp[lI,hf]
    |some fi=>
     cases ae:HA e.T fi with
     |true=>
      have j:(fun cs=>lI e rec (⟨.fn (.func f) cap,aa⟩::ds) hp nx cs k)=fun cs=>lI e rec ds hp nx cs k:=by funext cs;simp[lI,hf,ae]
      rw[j]
      obtain⟨v',ak,g1,H1,J,st1⟩:=N0 ok H hf ae (af++ab)
      obtain⟨fn,f1,f2,f3,f4,f5,f6,f7,f8⟩:=ok.F f fi hf
      refine(xJ ok ih k ds I hp nx g1 ak {fr with defers:=I} fs H1 (hg.mono J.ext.le) (h2.mono J.ext.le) hm rfl).mono fun f' h=>?_
      rcases h with h|⟨fe,fg,h,w',g',R,E,st⟩
      · exact .inl h
      · refine .inr ⟨fe,fg,h,w',g',R,J.trans E,?_⟩
        obtain⟨ao,s1,m1,d1,ai,_,an,aj,r1⟩:=st1 {fr with defers:=I} fs hm
        exact .head (Es f1 f2 f5 hm he) (s1.trans (.head (zP m1 d1 ai aj r1 hm) st))
     |false=>
     have j:(fun cs=>lI e rec (⟨.fn (.func f) cap,aa⟩::ds) hp nx cs k)=fun cs=>Ei e rec f (aa.toList++cap.toList) hp nx cs (fun _ hp nx cs=>lI e rec ds hp nx cs k):=by funext cs;simp[lI,hf,ae]
     rw[j]
     obtain⟨fn,f1,f2,f3,f4,f5,f6,f7,f8⟩:=ok.F f fi hf
     have hl:gX g (aa.toList++cap.toList) (af++ab).toList:=by
      rw[Array.toList_append];exact hx.toList.append hy.toList
     refine(NZ ok ih H hg hl .deferred ({fr with defers:=I}::fs) ⟨fi,hf⟩ _).bind fun f' h=>?_
     rcases h with h|⟨v,ag,ah,h,C⟩
     · exact .dead h
     · have au:=C
       obtain⟨v',ak,g1,H1,_,J,ao,s1,m1,d1,ai,_,an,aj,r1⟩:=au
       have j:f'=fun cs=>lI e rec ds ag ah cs k:=funext h
       rw[j]
       refine(xJ ok ih k ds I ag ah g1 ak {fr with defers:=I} fs H1 (hg.mono J.ext.le) (h2.mono J.ext.le) hm rfl).mono fun f' h=>?_
       rcases h with h|⟨fe,fg,h,w',g',R,E,st⟩
       · exact .inl h
       · exact .inr ⟨fe,fg,h,w',g',R,J.trans E,.head (Es f1 f2 f5 hm he) (s1.trans (.head (zP m1 d1 ai aj r1 hm) st))⟩
   |_=>exact fail _ fun cs=>by simp[lI]
def rW(P:Program)(ng:Nat)(B0:Nat)(w0:World)(e:Env):Prop:=
 ∀f o,e.K f=some o->(∃fn c,P.funcs[f]?=some fn/\fn.body=some c/\(fn.name== "runtime.NumGoroutine")=false)/\
  ∀(l:List Value) (args:Array Value) (hp:Ht) (nx:Nat) (g:Gm) (w:World),gu B0 w0 g hp.get nx w->kT g ng->gX g l args.toList->
   (∀cs k j,o.run l hp nx cs k j=j)\/∃C:List Nat->KC->R,(∀cs k j,o.run l hp nx cs k j=C cs k)/\∀fs,tx P B0 w0 .normal g nx f args w fs C
theorem tx.fail{kind:CallKind}{f:FuncId}{args:Array Value}{fs:List Frame}{run:List Nat->KC->R}(h:∀cs k,run cs k=.gm 0):tx P B0 w0 kind g nx f args w fs run:=fun k=>.dead fun cs=>⟨0,h cs k⟩
theorem FW(ok:mE P ng e)(ih:ot P ng B0 w0 rec)(H:gu B0 w0 g hp.get nx w)(hg:kT g ng){f:FuncId}{l:List Value}{args:Array Value}(hl:gX g l args.toList)(fs:List Frame):
 tx P B0 w0 .normal g nx f args w fs fun cs k=>tJ e rec f l hp nx cs k:=by
 cases hf:e.F f with
 |none=>exact .fail fun cs k=>by simp only[tJ,hf]
 |some fi=>
  intro k
  have h0:(fun cs=>tJ e rec f l hp nx cs k)=fun cs=>sA rec f fi l hp nx cs (fun ds to hp nx cs=>lI e rec ds hp nx cs (fun hp nx cs=>yr e.T fi to k hp nx cs)):=by funext cs;simp only[tJ,hf]
  rw[h0]
  refine(FV ok ih H hg hf hl .normal fs _).bind fun f' h=>?_
  rcases h with h|⟨ds,to,o,C,h,B⟩
  · exact .dead h
  · have I:f'=fun cs=>lI e rec ds o C cs (fun hp nx cs=>yr e.T fi to k hp nx cs):=funext h
    rw[I]
    have B':=B
    obtain⟨a',ae,g1,H1,ad,ab,J,fr,s1,j⟩:=B'
    refine(xJ ok ih _ ds a'.defers o C g1 ae fr fs H1 (hg.mono J.ext.le) ab j.mode j.defers).mono fun f' h=>?_
    rcases h with h|⟨jN,oG,h,aa,g2,U,R,st2⟩
    · exact .inl h
    · cases hr:mH e.T jN.get to fi.res with
      |none=>exact .inl fun cs=>⟨0,by rw[h];simp[yr,hr]⟩
      |some vs=>
       refine .inr ⟨qz vs,jN,oG,fun cs=>by rw[h];simp[yr,hr],?_⟩
       obtain⟨fn,f1,f2,f3,f4,f5,f6,f7,f8⟩:=ok.F f fi hf
       obtain⟨v',r1,r2⟩:=DE ok.T U (ad.mono R.ext.le) f4 f8 hr
       refine⟨v',aa,g2,U,r2,J.trans R,{fr with defers:=[]},s1.trans st2,j.mode,rfl,j.kind,j.fn,fn,?_,?_⟩
       · show P.funcs[fr.fn]?=_;rw[j.fn];exact f1
       · show(results fn fr.tmps).run P aa=_;rw[j.tmps];exact r1
theorem yW(ok:mE P ng e)(mL:rW P ng B0 w0 e)(ih:ot P ng B0 w0 rec)(H:gu B0 w0 g hp.get nx w)(hg:kT g ng){f:FuncId}{l:List Value}{args:Array Value}(hl:gX g l args.toList)(fs:List Frame):
 tx P B0 w0 .normal g nx f args w fs fun cs k=>mP e rec f l hp nx cs k:=by
 cases hk:e.K f with
 |none=>
  have h0:(fun cs k=>mP e rec f l hp nx cs k)=fun cs k=>tJ e rec f l hp nx cs k:=by funext cs k;simp only[mP,hk]
  rw[h0];exact FW ok ih H hg hl fs
 |some j=>
  rcases(mL f j hk).2 l args hp nx g w H hg hl with h|⟨o,h,hs⟩
  · have h0:(fun cs k=>mP e rec f l hp nx cs k)=fun cs k=>tJ e rec f l hp nx cs k:=by funext cs k;simp only[mP,hk,h]
    rw[h0];exact FW ok ih H hg hl fs
  · have h0:(fun cs k=>mP e rec f l hp nx cs k)=o:=by funext cs k;simp only[mP,hk,h]
    rw[h0];exact hs fs
end
end
end Sw
namespace Sw
noncomputable section
open Go Go.RowKit
def GH(P:Program):Next->Option Frame
 |.enter f args=>some (Frame.enter P f args .normal)
 |.round l f tmps assign body=>some (Frame.round l f tmps assign body .normal)
 |_=>none
def Q8(P:Program)(B0:Nat)(w0:World)(g:Gm)(nx:Nat)(o:Next)(w:World)(v:Value)(fe:Ht)(fg:Nat)(c:Frame)(fs:List Frame):Prop:=
 ∃v' w' g' j,gu B0 w0 g' fe.get fg w'/\fQ g' v v'/\Ext g nx w g' fg w'/\GH P o=some j/\Steps P (lone j (c::fs) w) (lone (c.finish v') fs w')
def qb(P:Program)(B0:Nat)(w0:World)(g:Gm)(nx:Nat)(s:Sem Next)(w:World)(c:Frame)(fs:List Frame)(run:List Nat->KC->R):Prop:=
 ∀k:KC,lS (fun cs=>run cs k) fun f'=>zA f'\/∃v fe fg,(∀cs,f' cs=k v fe fg cs)/\∃j,s.run P w=.ok j w/\Q8 P B0 w0 g nx j w v fe fg c fs
section
variable {P:Program}{ng:Nat}{e:Env}{B0:Nat}{w0:World}{b:Frame}{nt:Nat}{g:Gm}{nx:Nat}{a:Act}{w:World}{to:Tm}{hp:Ht}{rec:Rec}
theorem qb.fail{s:Sem Next}{c:Frame}{fs:List Frame}{run:List Nat->KC->R}(h:∀cs k,run cs k=.gm 0):qb P B0 w0 g nx s w c fs run:=fun k=>.dead fun cs=>⟨0,h cs k⟩
theorem qb.enter{f:FuncId}{args:Array Value}{s:Sem Next}{c:Frame}{fs:List Frame}{run:List Nat->KC->R}(h:tx P B0 w0 .normal g nx f args w (c::fs) run)(hs:s.run P w=.ok (.enter f args) w):qb P B0 w0 g nx s w c fs run:=by
 intro k
 refine(h k).mono fun f' h=>?_
 rcases h with h|⟨v,fe,fg,h,v',w',g',H,V,E,fr,s1,m1,d1,j,_,fn,o,r1⟩
 · exact .inl h
 · exact .inr ⟨v,fe,fg,h,_,hs,v',w',g',_,H,V,E,rfl,s1.trans (.one (step_leave_returned ⟨m1,d1,j,fn,o,r1⟩))⟩
theorem DG{g:Gm}{nt:Nat}(hn:nt<=512):∀(ps:List Tmp) (n9 j:List Value) (t t1:Tm) (tmps:Array Value),rL g nt t tmps->gX g n9 j->ps.all (Nat.blt · nt)=true->vf ps n9 t=some t1->
 j.length=ps.length/\rL g nt t1 ((ps.zip j).foldl (fun tmps (x:Tmp×Value)=>tmps.setIfInBounds x.1 x.2) tmps)
 |[],[],j,t,t1,tmps,o,hl,_,h=>by
  cases h
  have:=hl.1
  cases j with
  |nil=>exact⟨rfl,o⟩
  |cons=>cases this
 |[],_::_,_,_,_,_,_,_,_,h=>by cases h
 |_::_,[],_,_,_,_,_,_,_,h=>by cases h
 |p::ps,v::n9,j,t,t1,tmps,o,hl,hp,h=>by
  cases j with
  |nil=>cases hl.1
  |cons v' j=>
   rw[List.all_cons,Bool.and_eq_true]at hp
   simp only[vf]at h
   have h1:rL g nt ((ka (some p)).run t v) (tmps.setIfInBounds p v'):=by
    have:=rL.put (a:=⟨tmps,[]⟩) o hn (d:=some p) hp.1 hl.head
    exact this
   obtain⟨C,I⟩:=DG hn ps n9 j _ t1 _ h1 hl.tail hp.2 h
   exact⟨by simp[C],I⟩
theorem gu.Et(H:gu B0 w0 g hp.get nx w){l:Nat}{r:sL Tm}(h:hp.get l=some (.loop r)){rl ro:Nat}(hb:g.gb l=some (rl,ro)):
 ∃j,ro=0/\w.heap[rl]?=some (.loop j)/\B0<=rl/\sS g r j:=by
 obtain⟨jq,a2,a3⟩:=(H.live _ _ h).2 _ _ hb
 cases jq<;>first|exact a3.elim|skip
 obtain⟨rfl,o,C⟩:=a3
 exact⟨_,rfl,a2,o,C⟩
theorem run_getLoop{rl:Nat}{r:Loop}(h:w.heap[rl]?=some (.loop r)):(Instr.getLoop rl).run P w=.ok r w:=by
 unfold Instr.getLoop
 rw[fw (nZ h (fun _ _ _ h=>by cases h))];rfl
theorem I3{r:Loop}:∀c e f,Obj.loop r≠.cells c e f:=fun _ _ _ h=>by cases h
theorem gu.I4(H:gu B0 w0 g hp.get nx w){l rl:Nat}{r r1:sL Tm}{j:Loop}(h:hp.get l=some (.loop r))(hb:g.gb l=some (rl,0))(o:B0<=rl)(hr:sS g r1 j):
 gu B0 w0 g (hp.set l (some (.loop r1))).get nx (w.putObj rl (.loop j)):=by
 rw[Tr.nJ]
 exact H.setObj h hb (fun _ _ h=>by cases h) (fun _ _ h=>by cases h) rfl (.loop j) o ⟨rfl,o,hr⟩
theorem KB{rl:Nat}{r:Loop}{k:List Item}{cs:List Frame}(hr:b.roundOf=some rl)(h:w.heap[rl]?=some (.loop r))(hs:r.state=.ready):
 step P (lone (At b a (.beginRound::k)) cs w)=.next (lone (At b a k) cs (w.putObj rl (.loop {r with state:=.busy}))):=by
 have j:(Instr.beginRound rl).run P w=.ok () (w.putObj rl (.loop {r with state:=.busy})):=by
  unfold Instr.beginRound
  rw[fw (run_getLoop h),fw (p0 _ h I3),hs];rfl
 refine step_lone_go ?_
 simp[stepG,stepG.exec,At,hr,stepG.apply,j,Frame.finish]
theorem run_endRound{rl:Nat}{r:Loop}(j:Option Code)(h:w.heap[rl]?=some (.loop r)):
 (Instr.endRound rl j).run P w=.ok (.bool j.isNone) (w.putObj rl (.loop {r with state:=if j.isNone then .ready else .done,pending:=j})):=by
 unfold Instr.endRound
 rw[fw (run_getLoop h),fw (p0 _ h I3)];rfl
theorem yy{id:Nat}:∀k,Ap id k->exitTo id k=none
 |[],_=>rfl
 |x::k,h=>by
  cases x<;>first|exact yy k h|skip
  rename_i i
  obtain⟨h1,h2⟩:=h
  show(if i==id then some k else exitTo id k)=_
  rw[if_neg (by simpa using h1)]
  exact yy k h2
theorem N1{rl:Nat}{r:Loop}{o:Nat}{todo:List Item}{c:Frame}{cs:List Frame}(hr:b.roundOf=some rl)(hk:b.kind=.normal)(h:w.heap[rl]?=some (.loop r))(he:Ends o [] todo):
 step P (lone (At b a todo) (c::cs) w)=.next (lone (c.finish (.bool (Nat.beq o 0))) cs (w.putObj rl (.loop {r with state:=(bif Nat.beq o 0 then .ready else .done),pending:=wJ o}))):=by
 match o,he with
 |0,he=>
  have he:todo=[]:=he
  subst he
  refine step_lone_go ?_
  have:=run_endRound (P:=P) none h
  simp[stepG,stepG.exec,At,hr,this,doReturn,hk,wJ]
 |1,he=>
  obtain⟨j,rfl⟩:=he
  refine step_lone_go ?_
  have:=run_endRound (P:=P) (some .ret) h
  simp[stepG,stepG.exec,At,hr,this,doReturn,hk,wJ]
  exact⟨rfl,rfl⟩
 |i+2,he=>
  obtain⟨j,rfl,hn⟩:=he
  refine step_lone_go ?_
  have:=run_endRound (P:=P) (some (.exit i)) h
  have hx:=yy j hn
  simp[stepG,stepG.exec,At,hr,this,doReturn,hk,wJ,hx]
  exact⟨rfl,rfl⟩
end
end
end Sw
namespace Sw
noncomputable section
open Go Go.RowKit
section
variable {P:Program}{ng:Nat}{e:Env}{B0:Nat}{w0:World}{b:Frame}{nt:Nat}{g:Gm}{nx:Nat}{a:Act}{w:World}{to:Tm}{hp:Ht}{rec:Rec}
theorem sS.Y3{r:sL Tm}{j:Loop}(h:sS g r j)(s:LoopState)(p:Option Code):sS g {r with state:=s,pending:=p} {j with state:=s,pending:=p}:=by
 obtain⟨_,_,c⟩:=h
 exact⟨rfl,rfl,c⟩
theorem sS.JS{r:sL Tm}{j:Loop}(h:sS g r j)(s:LoopState):sS g {r with state:=s} {j with state:=s}:=by
 obtain⟨_,p,c⟩:=h
 exact⟨rfl,p,c⟩
theorem run_yield{rl:Nat}{r:Loop}{n9:Array Value}(h:w.heap[rl]?=some (.loop r))(hs:n9.size=r.params.size):
 (Instr.yield rl n9).run P w=.ok (.round rl r.fn ((r.params.zip n9).foldl (fun tmps (x:Tmp×Value)=>tmps.setIfInBounds x.1 x.2) r.tmps) r.assign r.body) w:=by
 unfold Instr.yield
 rw[fw (run_getLoop h)]
 simp[hs]
theorem N2(ih:ot P ng B0 w0 rec)(hg:kT g ng)(H:gu B0 w0 g hp.get nx w){l rl:Nat}(hl:g.gb l=some (rl,0)){n9:List Value}{I:Array Value}(aR:gX g n9 I.toList)(c:Frame)(fs:List Frame):
 qb P B0 w0 g nx (Instr.yield rl I) w c fs fun cs k=>p_ e rec l n9 hp nx cs k:=by
 have fail:∀{s:Sem Next},(∀cs k,p_ e rec l n9 hp nx cs k=.gm 0)->qb P B0 w0 g nx s w c fs fun cs k=>p_ e rec l n9 hp nx cs k:=fun h=>.fail h
 cases hr:hp.get l with
 |none=>exact fail fun cs k=>by simp only[p_,hr]
 |some ob=>
  cases ob<;>first|(refine fail ?_;intro cs k;simp only[p_,hr];done)|skip
  rename_i r
  obtain⟨C,_,hw,a6,L⟩:=H.Et hr hl
  cases hb:Nat.ble e.low l with
  |false=>exact fail fun cs k=>by simp only[p_,hr,hb,cond_false]
  |true=>
   cases hs:vf r.params n9 r.tmps with
   |none=>exact fail fun cs k=>by simp only[p_,hr,hb,cond_true,hs]
   |some t=>
    have L':=L
    obtain⟨a7,a8,aS,aT,aH,aU,aV,a_,au,aE,aF,aG⟩:=L'
    have lf:r.fn=C.fn:=aS
    obtain⟨aW,av⟩:=DG au r.params n9 I.toList r.tmps t C.tmps aT aR aG hs
    intro k
    let j:=(C.params.zip I).foldl (fun tmps (x:Tmp×Value)=>tmps.setIfInBounds x.1 x.2) C.tmps
    have aB:I.size=C.params.size:=by simpa[aH]using aW
    have av:rL g r.nt t j:=by
     have e:j=(r.params.zip I.toList).foldl (fun tmps (x:Tmp×Value)=>tmps.setIfInBounds x.1 x.2) C.tmps:=by
      simp only[j,<-Array.foldl_toList,Array.toList_zip,aH]
     rw[e];exact av
    let ad:Frame:=Frame.round rl C.fn j C.assign C.body .normal
    let a0:Act:=⟨j,[]⟩
    have aP:vg B0 w0 g r.nt ⟨t,[],hp,nx,[]⟩ a0 w:=⟨H,av,⟨rfl,fun i d d' h=>by simp at h⟩⟩
    have xI:=ih ⟨r.fn,r.nt,some l⟩ r.assign ⟨t,[],hp,nx,[]⟩ ad a0 w g lf.symm ⟨rl,rfl,hl⟩ hg au aE aP [.beginRound,.code C.body] (c::fs)
    refine lS.map (f2:=fun cs=>p_ e rec l n9 hp nx cs k) xI (fun p m h=>?_) fun pre h=>?_
    · have h:rec ⟨r.fn,r.nt,some l⟩ r.assign ⟨t,[],hp,nx,p⟩=.gm m:=h
      simp[p_,hr,hb,hs,h]
    · rcases h with h|⟨o,s1,h,aN⟩
      · refine .dead fun cs=>?_
        obtain⟨m,h⟩:=h cs
        have h:rec ⟨r.fn,r.nt,some l⟩ r.assign ⟨t,[],hp,nx,pre++cs⟩=.gm m:=h
        exact⟨m,by simp[p_,hr,hb,hs,h]⟩
      · have h:∀cs,rec ⟨r.fn,r.nt,some l⟩ r.assign ⟨t,[],hp,nx,pre++cs⟩=.ok (o,s1.at cs):=h
        cases o with
        |succ o=>exact .dead fun cs=>⟨0,by simp[p_,hr,hb,hs,h,St.at];rfl⟩
        |zero=>
        obtain⟨a1,ai,g1,aq,aj,an,ae,t1⟩:=aN
        have U:=aj.ext.le.1 _ _ hl
        cases J:s1.hp.get l with
        |none=>exact .dead fun cs=>⟨0,by simp[p_,hr,hb,hs,h,St.at,J]⟩
        |some ob=>
         cases ob<;>first|(refine .dead ?_;intro cs;refine⟨0,?_⟩;simp[p_,hr,hb,hs,h,St.at,J];done)|skip
         rename_i r1
         obtain⟨aa,_,aC,az,aw⟩:=aq.heap.Et J U
         cases ag:r1.state<;>first|(refine .dead ?_;intro cs;refine⟨0,?_⟩;simp[p_,hr,hb,hs,h,St.at,J,ag];done)|skip
         have ar:aa.state=.ready:=by rw[<-aw.1,ag]
         have aK:=aq.heap.I4 J U az (aw.JS .busy)
         have aJ:Ext g1 s1.nx ai g1 s1.nx (ai.putObj rl (.loop {aa with state:=.busy})):=Ext.putObj U _
         have aQ:vg B0 w0 g1 r.nt ⟨s1.to,s1.ds,s1.hp.set l (some (.loop {r1 with state:=.busy})),s1.nx,[]⟩ a1 (ai.putObj rl (.loop {aa with state:=.busy})):=⟨aK,aq.act⟩
         have al:=ih ⟨r.fn,r.nt,some l⟩ r.body _ ad a1 _ g1 lf.symm ⟨rl,rfl,U⟩ (hg.mono aj.ext.le) au (aF.mono aj.ext.le) aQ [] (c::fs)
         have h3:(fun rest=>p_ e rec l n9 hp nx (pre++rest) k)=fun cs=>(match rec ⟨r.fn,r.nt,some l⟩ r.body ⟨s1.to,s1.ds,s1.hp.set l (some (.loop {r1 with state:=.busy})),s1.nx,cs⟩with
          |.ok (o2,⟨_,ds,hp,nx,cs⟩)=>(match hp.get l,ds with
           |some (.loop r2),[]=>k (.bool (Nat.beq o2 0)) (hp.set l (some (.loop {r2 with state:=(bif Nat.beq o2 0 then .ready else .done),pending:=wJ o2}))) nx cs
           |_,_=>.gm 0)
          |.gm m=>.gm m):=by
          funext cs
          simp[p_,hr,hb,hs,h,St.at,J,ag]<;>rfl
         rw[h3]
         refine lS.map al (fun p m h=>?_) fun ah h=>?_
         · have h:rec ⟨r.fn,r.nt,some l⟩ r.body ⟨s1.to,s1.ds,s1.hp.set l (some (.loop {r1 with state:=.busy})),s1.nx,p⟩=.gm m:=h
           simp only[h]
         · refine .here ?_
           rcases h with h|⟨o2,ab,h,aO⟩
           · refine .inl fun cs=>?_
             obtain⟨m,h⟩:=h cs
             have h:rec ⟨r.fn,r.nt,some l⟩ r.body ⟨s1.to,s1.ds,s1.hp.set l (some (.loop {r1 with state:=.busy})),s1.nx,ah++cs⟩=.gm m:=h
             exact⟨m,by simp only[h]⟩
           · have h:∀cs,rec ⟨r.fn,r.nt,some l⟩ r.body ⟨s1.to,s1.ds,s1.hp.set l (some (.loop {r1 with state:=.busy})),s1.nx,ah++cs⟩=.ok (o2,ab.at cs):=h
             obtain⟨a3,aY,g3,ax,ak,aI,ay,t3⟩:=aO
             have ak:Ext g1 s1.nx (ai.putObj rl (.loop {aa with state:=.busy})) g3 ab.nx aY:=ak
             have af:=ak.ext.le.1 _ _ U
             cases R:ab.hp.get l with
             |none=>exact .inl fun cs=>⟨0,by simp only[h,St.at,R]⟩
             |some ob=>
              cases ob<;>first|(refine .inl ?_;intro cs;refine⟨0,?_⟩;simp only[h,St.at,R];done)|skip
              rename_i aX
              obtain⟨aZ,_,aD,aA,aM⟩:=ax.heap.Et R af
              cases ao:ab.ds with
              |cons=>exact .inl fun cs=>⟨0,by simp only[h,St.at,R,ao]⟩
              |nil=>
               refine .inr ⟨.bool (Nat.beq o2 0),ab.hp.set l (some (.loop {aX with state:=(bif Nat.beq o2 0 then .ready else .done),pending:=wJ o2})),ab.nx,fun cs=>by simp only[h,St.at,R,ao],_,run_yield hw aB,?_⟩
               have aL:=ax.heap.I4 R af aA (aM.Y3 (bif Nat.beq o2 0 then .ready else .done) (wJ o2))
               refine⟨.bool (Nat.beq o2 0),_,g3,ad,aL,.bool _,(aj.trans (aJ.trans ak)).trans (Ext.putObj af _),rfl,?_⟩
               have ae:an=[.beginRound,.code C.body]:=ae
               subst ae
               have t1:Steps P (lone ad (c::fs) w) (lone (At ad a1 [.beginRound,.code C.body]) (c::fs) ai):=by rw[aU]at t1;exact t1
               rw[aV]at t3
               exact(t1.trans (.one (KB rfl aC ar))).trans (t3.trans (.one (N1 rfl rfl aD ay)))
end
end
end Sw
namespace Sw
noncomputable section
open Go Go.RowKit
section
variable {P:Program}{ng:Nat}{e:Env}{B0:Nat}{w0:World}{b:Frame}{nt:Nat}{g:Gm}{nx:Nat}{a:Act}{w:World}{to:Tm}{ds:List Deferred}{hp:Ht}{rec:Rec}{ops:Array Oper}{i:Nat}{o:Oper}{rest:List Nat}{ks:List Item}{fs:List Frame}{c:Frame}
theorem Q9(ok:mE P ng e)(mL:rW P ng B0 w0 e){f:FuncId}(h:e.K f≠none\/e.F f≠none)(args:Array Value):(callFunc f args).run P w=.ok (.enter f args) w:=by
 cases hk:e.K f with
 |some j=>
  obtain⟨⟨fn,c,h1,h2,h3⟩,_⟩:=mL f j hk
  exact AL h1 h2 h3 args
 |none=>
  cases hf:e.F f with
  |some fi=>
   obtain⟨fn,f1,f2,f3,f4,f5,_⟩:=ok.F f fi hf
   exact AL f1 f2 f5 args
  |none=>rcases h with h|h<;>exact absurd (by assumption) h
theorem FX(ok:mE P ng e)(mL:rW P ng B0 w0 e)(ih:ot P ng B0 w0 rec)(H:gu B0 w0 g hp.get nx w)(hg:kT g ng){f:FuncId}{l:List Value}{args:Array Value}(hl:gX g l args.toList){s:Sem Next}
 (hs:s.run P w=(callFunc f args).run P w):qb P B0 w0 g nx s w c fs fun cs k=>mP e rec f l hp nx cs k:=by
 by_cases h:e.K f≠none\/e.F f≠none
 · exact qb.enter (yW ok mL ih H hg hl _) (hs.trans (Q9 ok mL h args))
 · have h1:e.K f=none:=by cases hk:e.K f with|none=>rfl|some=>exact absurd (.inl (by rw[hk];simp)) h
   have h2:e.F f=none:=by cases hk:e.F f with|none=>rfl|some=>exact absurd (.inr (by rw[hk];simp)) h
   exact .fail fun cs k=>by simp only[mP,tJ,h1,h2]
def Aq(f:Value)(args:Array Value):Sem Next:=do let d<-Deferred.ofValue f args;invoke d.target d.args
theorem HI(ok:mE P ng e)(mL:rW P ng B0 w0 e)(ih:ot P ng B0 w0 rec)(H:gu B0 w0 g hp.get nx w)(hg:kT g ng){f f':Value}(hf:fQ g f f'){l:List Value}{args:Array Value}(hl:gX g l args.toList):
 qb P B0 w0 g nx (Aq f' args) w c fs fun cs k=>Bo e rec f l hp nx cs k:=by
 cases hf with
 |@func f x x' y y' hx hy kx ky=>
  refine FX ok mL ih H hg (f:=f) (l:=x.toList++l++y.toList) (args:=x'++args++y') ?_ rfl
  rw[Array.toList_append,Array.toList_append]
  exact((r5.toList ⟨hx,kx⟩).append hl).append (r5.toList ⟨hy,ky⟩)
 |@Al j rl h=>
  have:=N2 (e:=e) ih hg H h hl c fs
  have e1:Aq (.func (.yield rl) #[] #[]) args=Instr.yield rl args:=by
   show Instr.yield rl (#[]++args)=_
   simp
  rw[e1];exact this
 |_=>exact .fail fun cs k=>rfl
theorem PN(ok:mE P ng e)(mL:rW P ng B0 w0 e)(ih:ot P ng B0 w0 rec)(H:gu B0 w0 g hp.get nx w)(hg:kT g ng){r j:Value}(hr:fQ g r j)(name:String){l:List Value}{args:Array Value}(hl:gX g l args.toList):
 qb P B0 w0 g nx (invoke (.fn (.method name) #[]) (#[j]++args)) w c fs fun cs k=>Fp e rec r name l hp nx cs k:=by
 cases hr with
 |@iface t v v' o=>
  cases hm:e.M t name with
  |none=>exact .fail fun cs k=>by simp only[Fp,hm]
  |some f=>
   have h0:(fun cs (k:KC)=>Fp e rec (.iface t v) name l hp nx cs k)=fun cs k=>mP e rec f (v::l) hp nx cs k:=by funext cs k;simp only[Fp,hm]
   rw[h0]
   refine FX ok mL ih H hg (f:=f) (l:=v::l) (args:=#[v']++args) ?_ ?_
   · rw[Array.toList_append];exact gX.cons o hl
   · have e1:(#[Value.iface t v']++args)[0]?=some (.iface t v'):=by rw[Array.getElem?_append_left (by simp)];rfl
     have e2:(#[Value.iface t v']++args).extract 1 (#[Value.iface t v']++args).size=args:=by
      apply Array.toList_inj.1;simp
     have h1:(method (P.types.size+Made.depth) t v' name).run P w=.ok (f,v') w:=ok.M t name f hm v' w
     unfold invoke
     simp only[e1,e2]
     unfold callMethod
     have h2:(program:Sem Program).run P w=.ok P w:=rfl
     simp only
     rw[fw h2,fw h1]
 |_=>exact .fail fun cs k=>rfl
theorem PO{j:Next}{C:Frame}{k:List Item}{cs:List Frame}{rest:List Nat}(I:ops[i]?=some o)(hw:Region.wanted o (yielded ops a.tmps)=true)(hr:b.roundOf=none\/qA o.op=true)
 (h:(execOp a.eval o).run P w=.ok j w) (hc:GH P j=some C):
 step P (lone (At b a (.inRegion ops (i::rest)::k)) cs w)=.next (lone C (At b a (.inRegion ops (i::rest)::k)::cs) w):=by
 refine step_lone_go ?_
 rw[HF I hw hr]
 cases j<;>first|(cases hc;done)|skip
 · cases hc;simp[stepG.apply,h,At]
 · cases hc;simp[stepG.apply,h,At]
theorem qb.op(hd:mV g ds a.defers)(I:ops[i]?=some o)(hw:Region.wanted o (yielded ops a.tmps)=true)(hr:b.roundOf=none\/qA o.op=true){s:Sem Next}(hs:(execOp a.eval o).run P w=s.run P w)
 {run:List Nat->KC->R} (h:qb P B0 w0 g nx s w (At b a (.inRegion ops (i::rest)::ks)) fs run):
 tK P B0 w0 b g to nx ops i o.dst a w rest ks fs fun cs k=>run cs (fun v hp nx cs=>k ⟨(ka o.dst).run to v,ds,hp,nx,cs⟩):=by
 intro k
 refine(h (fun v hp nx cs=>k ⟨(ka o.dst).run to v,ds,hp,nx,cs⟩)).mono fun f' h=>?_
 rcases h with h|⟨v,fe,fg,h,ab,h1,v',w',g',aa,J,U,C,hc,st⟩
 · exact .inl h
 · refine .inr ⟨v,ds,fe,fg,h,v',a.defers,w',g',J,U,hd.mono C.ext.le,C,?_⟩
   have j:=At.finish b a ops i rest ks v'
   rw[I]at j
   have j:(At b a (.inRegion ops (i::rest)::ks)).finish v'=At b (a.put o.dst v') (.inRegion ops rest::ks):=j
   have:=(Steps.one (PO (k:=ks) (cs:=fs) (rest:=rest) I hw hr (hs.trans h1) hc)).trans st
   rw[j]at this
   exact this
theorem Vz(ok:mE P ng e)(mL:rW P ng B0 w0 e)(ih:ot P ng B0 w0 rec)(H:gu B0 w0 g hp.get nx w)(hg:kT g ng)(hd:mV g ds a.defers)(U:ops[i]?=some o)(hw:Region.wanted o (yielded ops a.tmps)=true)
 {c:Call} (j:o.op=.call c) (J:uX g to a.eval o.op.operands.toList) (fm:Fm):
 tK P B0 w0 b g to nx ops i o.dst a w rest ks fs fun cs k=>(qa o.op o.dst).run e rec fm to ds hp nx cs k:=by
 have hr:b.roundOf=none\/qA o.op=true:=.inr (by rw[j];rfl)
 rw[j]at J
 have C:gX g (runs (sP c.args.toList) to) (c.args.map a.eval).toList:=by
  rw[Array.toList_map]
  exact yx c.args.toList fun x hx=>J x (by simp only[Op.operands,Call.operands];cases c.callee<;>simp[hx])
 rw[j]
 cases hc:c.callee with
 |value f=>
  have hf:fQ g ((aaj f).run to) (a.eval f):=J f (by simp[Op.operands,Call.operands,hc])
  have h0:(fun(cs:List Nat) (k:St->R)=>(qa (.call c) o.dst).run e rec fm to ds hp nx cs k)=fun cs k=>Bo e rec ((aaj f).run to) (runs (sP c.args.toList) to) hp nx cs (fun v hp nx cs=>k ⟨(ka o.dst).run to v,ds,hp,nx,cs⟩):=by
   funext cs k;simp only[qa,hc];rfl
  rw[h0]
  refine qb.op hd U hw hr (s:=Aq (a.eval f) (c.args.map a.eval)) ?_ (HI ok mL ih H hg hf C)
  simp only[execOp,j,resolve,hc];rfl
 |invoke r m=>
  have hf:fQ g ((aaj r).run to) (a.eval r):=J r (by simp[Op.operands,Call.operands,hc])
  have h0:(fun(cs:List Nat) (k:St->R)=>(qa (.call c) o.dst).run e rec fm to ds hp nx cs k)=fun cs k=>Fp e rec ((aaj r).run to) m (runs (sP c.args.toList) to) hp nx cs (fun v hp nx cs=>k ⟨(ka o.dst).run to v,ds,hp,nx,cs⟩):=by
   funext cs k;simp only[qa,hc];rfl
  rw[h0]
  refine qb.op hd U hw hr (s:=invoke (.fn (.method m) #[]) (#[a.eval r]++c.args.map a.eval)) ?_ (PN ok mL ih H hg hf m C)
  simp only[execOp,j,resolve,hc];rfl
 |builtin I=>
  have h0:(fun(cs:List Nat) (k:St->R)=>(qa (.call c) o.dst).run e rec fm to ds hp nx cs k)=fun cs k=>bi I e.T hp.get nx c.argTypes.toList (runs (sP c.args.toList) to) (fun v=>k ⟨(ka o.dst).run to v,ds,hp,nx,cs⟩) (tw (ka o.dst).run e.low to ds hp nx cs k):=by
   funext cs k;simp only[qa,hc];rfl
  rw[h0]
  refine kP.xI (run:=fun ab aa=>bi I e.T hp.get nx c.argTypes.toList (runs (sP c.args.toList) to) ab aa) H hd U hw hr (fun ab aa=>?_)
  have:=LU (n:=nx) ok.T H (b:=I) (ts:=c.argTypes.toList) C o.type (c.args.map fun|.const _=>true|_=>false) ab aa
  have e1:(execOp a.eval o).run P w=(Go.builtin I c.argTypes.toList.toArray o.type (c.args.map fun|.const _=>true|_=>false) (c.args.map a.eval).toList.toArray).run P w:=by
   simp only[execOp,j,resolve,hc];rfl
  rw[e1];exact this
end
end
end Sw
namespace Sw
noncomputable section
open Go Go.RowKit
section
variable {P:Program}{ng:Nat}{e:Env}{B0:Nat}{w0:World}{b:Frame}{nt:Nat}{g:Gm}{nx:Nat}{a:Act}{w:World}{to:Tm}{ds:List Deferred}{hp:Ht}{rec:Rec}{ops:Array Oper}{i:Nat}{o:Oper}{rn:Option Nat}{rest:List Nat}{ks:List Item}{fs:List Frame}
theorem tK.fail{dst:Option Tmp}{run:List Nat->(St->R)->R}(h:∀cs k,run cs k=.gm 0):tK P B0 w0 b g to nx ops i dst a w rest ks fs run:=fun k=>.dead fun cs=>⟨0,h cs k⟩
theorem PQ{d:Deferred}{k:List Item}{cs:List Frame}{rest:List Nat}(C:ops[i]?=some o)(hw:Region.wanted o (yielded ops a.tmps)=true)(hr:b.roundOf=none)
 (h:(execOp a.eval o).run P w=.ok (.defer d) w):
 step P (lone (At b a (.inRegion ops (i::rest)::k)) cs w)=.next (lone (At b ({a with defers:=d::a.defers}.put o.dst undef) (.inRegion ops rest::k)) cs w):=by
 refine step_lone_go ?_
 rw[HF C hw (.inl hr)]
 have j:=At.finish b {a with defers:=d::a.defers} ops i rest k undef
 rw[C]at j
 have j:(At b {a with defers:=d::a.defers} (.inRegion ops (i::rest)::k)).finish undef=At b ({a with defers:=d::a.defers}.put o.dst undef) (.inRegion ops rest::k):=j
 rw[<-j]
 simp[stepG.apply,h,At]
theorem Tk(hg:wY g b rn)(H:gu B0 w0 g hp.get nx w)(hd:mV g ds a.defers)(af:ops[i]?=some o)(hw:Region.wanted o (yielded ops a.tmps)=true)
 {c:Call} (C:o.op=.defer c) (aa:uX g to a.eval o.op.operands.toList) (f:FuncId) (nt:Nat):
 tK P B0 w0 b g to nx ops i o.dst a w rest ks fs fun cs k=>(qa o.op o.dst).run e rec ⟨f,nt,rn⟩ to ds hp nx cs k:=by
 rw[C]at aa
 rw[C]
 have h0:(fun(cs:List Nat) (k:St->R)=>(qa (.defer c) o.dst).run e rec ⟨f,nt,rn⟩ to ds hp nx cs k)=fun cs k=>(match yu c ⟨f,nt,rn⟩ to with
  |some x=>k ⟨(ka o.dst).run to undef,x::ds,hp,nx,cs⟩
  |none=>.gm 0):=by funext cs k;rfl
 rw[h0]
 cases rn with
 |some l=>exact .fail fun cs k=>by simp[yu]
 |none=>
 have hg:b.roundOf=none:=hg
 cases hc:c.callee with
 |invoke=>exact .fail fun cs k=>by simp[yu,hc]
 |builtin=>exact .fail fun cs k=>by simp[yu,hc]
 |value fv=>
  have U:gX g (runs (sP c.args.toList) to) (c.args.map a.eval).toList:=by
   rw[Array.toList_map]
   exact yx c.args.toList fun x hx=>aa x (by simp only[Op.operands,Call.operands];cases c.callee<;>simp[hx])
  have hf:fQ g ((aaj fv).run to) (a.eval fv):=aa fv (by simp[Op.operands,Call.operands,hc])
  generalize ad:(aaj fv).run to=v at hf
  generalize ae:a.eval fv=v' at hf
  cases hf with
  |@func J x x' y y' hx hy kx ky=>
   intro k
   refine .here (.inr ⟨undef,⟨.fn (.func J) y,(x.toList++runs (sP c.args.toList) to).toArray⟩::ds,hp,nx,fun cs=>by simp[yu,hc,ad],undef,⟨.fn (.func J) y',x'++c.args.map a.eval⟩::a.defers,w,g,H,fQ.undef g,?_,Ext.refl _ _ _,?_⟩)
   · have ab:BI g ⟨.fn (.func J) y,(x.toList++runs (sP c.args.toList) to).toArray⟩ ⟨.fn (.func J) y',x'++c.args.map a.eval⟩:=by
      refine .fn ⟨hy,ky⟩ ?_
      have:=(gX.append (r5.toList ⟨hx,kx⟩) U).toArray
      have e:(x'.toList++(c.args.map a.eval).toList).toArray=x'++c.args.map a.eval:=by apply Array.toList_inj.1;simp
      rw[e]at this;exact this
     refine⟨by simp[hd.1],fun j d d' e I=>?_⟩
     cases j with
     |zero=>simp at e I;subst e;subst I;exact ab
     |succ j=>simp at e I;exact hd.2 j d d' e I
   · refine .one (PQ af hw hg ?_)
     simp only[execOp,C,resolve,hc,ae];rfl
  |_=>exact .fail fun cs k=>by simp[yu,hc,ad]
end
end
end Sw
namespace Sw
noncomputable section
open Go Go.RowKit
theorem kN.cons_inv{g:Gm}{e:MapEntry}{x y:List MapEntry}(h:kN g (e::x) y):∃j x',y=j::x'/\(fQ g e.key j.key/\fQ g e.val j.val/\e.born=j.born)/\kN g x x':=by
 cases y with
 |nil=>cases h.1
 |cons j x'=>exact⟨j,x',rfl,h.2 0 e j rfl rfl,by have:=h.1;simpa using this,fun i u o a b=>h.2 (i+1) u o (by simpa using a) (by simpa using b)⟩
theorem kN.vT{g:Gm}{y:List MapEntry}(h:kN g [] y):y=[]:=by have:=h.1;cases y<;>first|rfl|cases this
theorem kN.append{g:Gm}{x x' y y':List MapEntry}(h:kN g x x')(k:kN g y y'):kN g (x++y) (x'++y'):=by
 induction x generalizing x' with
 |nil=>cases h.vT;exact k
 |cons e x ih=>
  obtain⟨j,o,rfl,h1,h2⟩:=h.cons_inv
  exact kN.cons h1 (ih h2)
theorem DH(n:Nat):∀l:List Nat,Pv n l=l.contains n
 |[]=>rfl
 |x::xs=>by
  simp only[Pv,List.contains_cons,DH n xs]
  congr 1
  cases h:Nat.beq x n with
  |true=>have:=Nat.eq_of_beq_eq_true h;subst this;simp
  |false=>
   have:¬n=x:=fun e=>by subst e;simp at h
   simp[this]
theorem Eu{g:Gm}(seen:List Nat)(since:Nat)(j:Bool):∀(es C:List MapEntry),kN g es C->
 kN g (zY seen since j es) ((C.filter fun e=>!seen.contains e.born).filter fun e=>if j then decide (e.born<since)else decide (since<=e.born))
 |[],C,h=>by cases h.vT;exact kN.nil
 |e::es,C,h=>by
  obtain⟨o,J,rfl,h1,h2⟩:=h.cons_inv
  have ih:=Eu seen since j es J h2
  simp only[zY,DH,h1.2.2]
  cases hc:seen.contains o.born with
  |true=>
   have:¬o.born∉seen:=by simpa using hc
   simp only[cond_true]
   rw[List.filter_cons_of_neg (by simpa using hc)]
   exact ih
  |false=>
   simp only[cond_false]
   rw[List.filter_cons_of_pos (by simpa using hc)]
   have hb:(bif Nat.blt o.born since then j else !j)=(if j then decide (o.born<since)else decide (since<=o.born)):=by
    cases jz:Nat.blt o.born since with
    |true=>
     have:o.born<since:=Nat.le_of_ble_eq_true jz
     cases j<;>simp<;>omega
    |false=>
     have:¬o.born<since:=fun k=>by
      have h2:Nat.blt o.born since=true:=Nat.ble_eq_true_of_le k
      rw[h2]at jz;cases jz
     cases j<;>simp<;>omega
   rw[hb]
   cases I:(if j then decide (o.born<since)else decide (since<=o.born))with
   |true=>rw[List.filter_cons_of_pos (p:=fun e:MapEntry=>if j then decide (e.born<since)else decide (since<=e.born)) I];exact kN.cons h1 ih
   |false=>rw[List.filter_cons_of_neg (p:=fun e:MapEntry=>if j then decide (e.born<since)else decide (since<=e.born)) (fun k=>by rw[I]at k;cases k)];exact ih
theorem HJ{g:Gm}(last:Nat):∀(es j:List MapEntry),kN g es j->Ee last es=j.all fun e=>decide (last<=e.born)
 |[],j,h=>by cases h.vT;rfl
 |e::es,j,h=>by
  obtain⟨o,C,rfl,h1,h2⟩:=h.cons_inv
  simp only[Ee,List.all_cons,h1.2.2,HJ last es C h2]
  congr 1
  cases hb:Nat.ble last o.born with
  |true=>simp[Nat.le_of_ble_eq_true hb]
  |false=>
   have:¬last<=o.born:=fun k=>by have:=Nat.ble_eq_true_of_le k;rw[hb]at this;cases this
   simp[this]
def C3(g:Gm)(x x':List (Option MapEntry)):Prop:=
 x.length=x'.length/\∀(i:Nat) (e j:Option MapEntry),x[i]?=some e->x'[i]?=some j->match e,j with
  |none,none=>True
  |some e,some j=>fQ g e.key j.key/\fQ g e.val j.val/\e.born=j.born
  |_,_=>False
theorem C3.OM{g:Gm}{x x':List MapEntry}(h:kN g x x'):C3 g (x.map some) (x'.map some):=
 ⟨by simp[h.1],fun i e o a b=>by
   rw[List.getElem?_map,Option.map_eq_some_iff]at a b
   obtain⟨u,a1,rfl⟩:=a
   obtain⟨j,b1,rfl⟩:=b
   exact h.2 i u j a1 b1⟩
theorem C3.Q_{g:Gm}{x x':List (Option MapEntry)}(h:C3 g x x'):C3 g (none::x) (none::x'):=
 ⟨by simp[h.1],fun i e j a b=>by
   cases i with
   |zero=>simp at a b;subst a;subst b;trivial
   |succ i=>simp at a b;exact h.2 i e j a b⟩
section
variable {P:Program}{ng:Nat}{e:Env}{B0:Nat}{w0:World}{b:Frame}{nt:Nat}{g:Gm}{nx:Nat}{a:Act}{w:World}{to:Tm}{ds:List Deferred}{hp:Ht}{rec:Rec}{ops:Array Oper}{i:Nat}{o:Oper}
def xK(es:Array MapEntry)(seen:Array Nat)(since:Nat):Array (Option MapEntry):=
 let left:=es.filter fun e=>!seen.contains e.born
 let j:=left.filter (·.born<since)
 let new:=left.filter (·.born>=since)
 (if j.isEmpty then #[none]else #[])++(j++new).map some
theorem Ra{es:List MapEntry}{o:Array MapEntry}{j:Array Nat}{since last clock:Nat}{l:List (Option MapEntry)}{cl:Nat}{hp:Hp}{m:Nat}(h:kN g es o.toList)(hm:hp m=some (.map es clock))(hn:Fo hp m since j.toList last=some (l,cl)):
 cl=clock/\C3 g l (xK o j since).toList/\(!j.isEmpty&&!o.isEmpty&&o.all (fun e=>decide (e.born>=last)))=false:=by
 unfold Fo at hn
 rw[hm]at hn
 simp only at hn
 have h1:=Eu j.toList since true es o.toList h
 have h2:=Eu j.toList since false es o.toList h
 have e1:((o.filter fun e=>!j.contains e.born).filter (·.born<since)).toList=(o.toList.filter fun e=>!j.toList.contains e.born).filter fun e=>if true then decide (e.born<since)else decide (since<=e.born):=by simp
 have e2:((o.filter fun e=>!j.contains e.born).filter (·.born>=since)).toList=(o.toList.filter fun e=>!j.toList.contains e.born).filter fun e=>if false then decide (e.born<since)else decide (since<=e.born):=by simp
 rw[<-e1]at h1
 rw[<-e2]at h2
 have C:(!j.toList.isEmpty&&(!es.isEmpty&&Ee last es))=(!j.isEmpty&&!o.isEmpty&&o.all (fun e=>decide (e.born>=last))):=by
  rw[HJ last es o.toList h]
  have:es.isEmpty=o.isEmpty:=by
   have:=h.1
   rw[<-Array.isEmpty_toList]
   cases es<;>cases hx:o.toList<;>simp_all
  rw[this,Bool.and_assoc]
  simp
 rw[C]at hn
 cases J:(!j.isEmpty&&!o.isEmpty&&o.all (fun e=>decide (e.born>=last)))with
 |true=>rw[J]at hn;cases hn
 |false=>
  rw[J]at hn
  simp only[cond_false]at hn
  split at hn
  · rename_i I
    cases hn
    refine⟨rfl,?_,rfl⟩
    rw[I]at h1
    have h0:=h1.vT
    have:((o.filter fun e=>!j.contains e.born).filter (·.born<since)).isEmpty=true:=by rw[<-Array.isEmpty_toList,h0];rfl
    unfold xK
    simp only[this,if_true,Array.toList_append,Array.toList_map,h0,List.nil_append]
    exact C3.Q_ (C3.OM h2)
  · rename_i U I
    cases hn
    refine⟨rfl,?_,rfl⟩
    have:((o.filter fun e=>!j.contains e.born).filter (·.born<since)).isEmpty=false:=by
     rw[<-Array.isEmpty_toList]
     have:=h1.1
     cases hx:zY j.toList since true es with
     |nil=>exact absurd hx (by intro hx;exact I hx)
     |cons y aa=>
      rw[hx]at this
      cases R:((o.filter fun e=>!j.contains e.born).filter (·.born<since)).toList with
      |nil=>rw[R]at this;cases this
      |cons=>rfl
    unfold xK
    simp only[this,Bool.false_eq_true,if_false,Array.toList_append,Array.toList_map,List.nil_append]
    exact C3.OM (h1.append h2)
end
end
end Sw
namespace Sw
noncomputable section
open Go Go.RowKit
section
variable {P:Program}{ng:Nat}{e:Env}{B0:Nat}{w0:World}{b:Frame}{nt:Nat}{g:Gm}{nx:Nat}{a:Act}{w:World}{to:Tm}{ds:List Deferred}{hp:Ht}{rec:Rec}{ops:Array Oper}{i:Nat}{o:Oper}{rest:List Nat}{ks:List Item}{fs:List Frame}
theorem I5{m:Option Nat}{s st:Nat}{seen:Array Nat}:∀c e f,Obj.mapIter m s seen st≠.cells c e f:=fun _ _ _ h=>by cases h
theorem W2{es:Array MapEntry}{c:Nat}:∀k e f,Obj.map es c≠.cells k e f:=fun _ _ _ h=>by cases h
theorem I6(n:Nat):∃c j,(choose (.mapNext n)).run P w=.ok c j/\(0<n->c<n)/\(j=w\/j=w.drew):=by
 by_cases h:n<=1
 · refine⟨0,w,?_,fun k=>k,.inl rfl⟩
   simp[choose,Sem.run,Question.forced,h]
 · refine⟨w.tape w.drawn (.mapNext n)%n,w.drew,?_,fun k=>Nat.mod_lt _ k,.inr rfl⟩
   simp[choose,Sem.run,Question.forced,h,Question.cut]
theorem KD{rr:Nat}{s st:Nat}{seen:Array Nat}(h:w.heap[rr]?=some (.mapIter none s seen st))(ty:TypeId):
 (Instr.next (.pointer (some ⟨rr,0,none⟩)) false ty).run P w=.ok (.tuple #[.bool false]) w:=by
 unfold Instr.next
 simp only
 rw[fw (nZ h I5)];rfl
theorem run_next_map{rr m:Nat}{since last clock:Nat}{seen:Array Nat}{es:Array MapEntry}(h:w.heap[rr]?=some (.mapIter (some m) since seen last))(hm:w.heap[m]?=some (.map es clock))(ty:TypeId)
 (I:(!seen.isEmpty&&!es.isEmpty&&es.all (fun e=>decide (e.born>=last)))=false) {c:Nat} {j:World} (hc:(choose (.mapNext (xK es seen since).size)).run P w=.ok c j) (hw:j.heap=w.heap)
 {x:Option MapEntry} (hx:(xK es seen since)[c]?=some x):
 (Instr.next (.pointer (some ⟨rr,0,none⟩)) false ty).run P w=(match x with
   |some e=>.ok (.tuple #[.bool true,e.key,e.val]) (j.putObj rr (.mapIter (some m) since (seen.push e.born) clock))
   |none=>.ok (.tuple #[.bool false]) j):=by
 unfold Instr.next
 simp only
 rw[fw (nZ h I5)]
 simp only
 rw[fw (nZ hm W2)]
 simp only
 rw[if_neg (by rw[I];simp)]
 have o:(choose (.mapNext (xK es seen since).size)).run P w=.ok c j:=hc
 unfold xK at o hx
 simp only at o hx
 rw[fw o,hx]
 cases x with
 |none=>rfl
 |some e=>
  simp only
  have C:j.heap[rr]?=some (.mapIter (some m) since seen last):=by rw[hw];exact h
  rw[fw (p0 _ C I5)];rfl
theorem LY:∀(c:Nat) (l:List (Option MapEntry)),BQ c l=l[c]?
 |_,[]=>by simp[BQ]
 |0,x::xs=>by simp[BQ]
 |c+1,x::xs=>by simp[BQ,LY c xs]
theorem y7.W3(hd:mV g ds a.defers)(j:ops[i]?=some o)(hw:Region.wanted o (yielded ops a.tmps)=true)(hr:b.roundOf=none\/qA o.op=true){s:Sem Value}(he:execOp a.eval o=(do pure (.value (<-s)))){v v':Value}{w':World}{g':Gm}{fe:Ht}{fg:Nat}
 (hs:s.run P w=.ok v' w') (H:gu B0 w0 g' fe.get fg w') (C:fQ g' v v') (E:Ext g nx w g' fg w'):y7 P B0 w0 b g nx ops i o.dst a w v ds fe fg rest ks fs:=
 ⟨v',a.defers,w',g',H,C,hd.mono E.ext.le,E,.one (Eo j hw hr (by rw[he,PC];exact hs))⟩
theorem Ext.drew{j:World}(h:j=w\/j=w.drew):Ext g nx w g nx j:=by
 rcases h with rfl|rfl
 · exact Ext.refl _ _ _
 · exact⟨xH.refl _ _,⟨Nat.le_refl _,fun _ _ _=>rfl⟩,pk.refl _ _⟩
theorem VA(H:gu B0 w0 g hp.get nx w)(hd:mV g ds a.defers)(an:ops[i]?=some o)(hw:Region.wanted o (yielded ops a.tmps)=true)
 {it:Operand} (ad:o.op=.next it false) (ay:uX g to a.eval o.op.operands.toList) (fm:Fm):
 tK P B0 w0 b g to nx ops i o.dst a w rest ks fs fun cs k=>(qa o.op o.dst).run e rec fm to ds hp nx cs k:=by
 have hr:b.roundOf=none\/qA o.op=true:=.inr (by rw[ad];rfl)
 rw[ad]at ay
 have he:execOp a.eval o=(do pure (.value (<-Instr.next (a.eval it) false o.type))):=by simp only[execOp,ad]
 have ao:fQ g ((aaj it).run to) (a.eval it):=ay it (by simp[Op.operands])
 rw[ad]
 have h0:(fun(cs:List Nat) (k:St->R)=>(qa (.next it false) o.dst).run e rec fm to ds hp nx cs k)=fun cs k=>ua e.low ((aaj it).run to) hp nx cs (fun v hp nx cs=>k ⟨(ka o.dst).run to v,ds,hp,nx,cs⟩):=by funext cs k;rfl
 rw[h0]
 generalize hx:(aaj it).run to=x at ao
 generalize ag:a.eval it=x' at ao he
 cases ao with
 |@ptr r off rr ro hg=>
  cases off with
  |succ=>exact .fail fun cs k=>by simp[ua]
  |zero=>
  cases C:hp.get r with
  |none=>exact .fail fun cs k=>by simp[ua,C]
  |some ob=>
   cases ob<;>first|(refine tK.fail ?_;intro cs k;simp[ua,C];done)|skip
   rename_i m since seen last
   cases m with
   |none=>
    obtain⟨U,j,rfl,h2,al,h4,I⟩:=H.LN C hg
    cases U with
    |some=>exact I.elim
    |none=>
     intro k
     refine .here (.inr ⟨.tuple #[.bool false],ds,hp,nx,fun cs=>by simp[ua,C],?_⟩)
     refine y7.W3 hd an hw hr he (KD h2 _) H ?_ (Ext.refl _ _ _)
     exact(gX.cons (.bool false) (gX.nil g)).toArray|>fun h=>.tuple h.1 h.2
   |some m=>
    cases hb:Nat.ble e.low r with
    |false=>exact .fail fun cs k=>by simp[ua,C,hb]
    |true=>
    cases hn:Fo hp.get m since seen last with
    |none=>exact .fail fun cs k=>by simp[ua,C,hb,hn]
    |some lc=>
     obtain⟨l,clock⟩:=lc
     obtain⟨U,j,rfl,h2,al,rfl,I⟩:=H.LN C hg
     cases U with
     |none=>exact I.elim
     |some U=>
     have I:g.gb m=some (U,0):=I
     cases hm:hp.get m with
     |none=>exact .fail fun cs k=>by simp[Fo,hm]at hn
     |some om=>
      cases om<;>first|(exfalso;simp[Fo,hm]at hn;done)|skip
      rename_i es aG
      obtain⟨aa,_,aA,aH,aB⟩:=H.zW hm I
      obtain⟨rfl,av,az⟩:=Ra aB hm hn
      obtain⟨c,aj,hc,jz,af⟩:=I6 (P:=P) (w:=w) (xK aa j since).size
      have ab:aj.heap=w.heap:=by rcases af with rfl|rfl<;>rfl
      have aq:Ext g nx w g nx aj:=Ext.drew af
      have H1:gu B0 w0 g hp.get nx aj:=by rcases af with rfl|rfl;exact H;exact H.of_heap rfl rfl rfl rfl
      intro k
      have hlen:l.length=(xK aa j since).size:=by rw[av.1];simp
      have key:∀x,l[c]?=some x->∀f':List Nat->R,(∀cs,f' cs=(match x with
       |some x=>k ⟨(ka o.dst).run to (.tuple #[.bool true,x.key,x.val]),ds,hp.set r (some (.mapIter (some m) since (j.toList++[x.born]) clock)),nx,cs⟩
       |none=>k ⟨(ka o.dst).run to (.tuple #[.bool false]),ds,hp,nx,cs⟩))->
       zA f'\/∃v ak fe fg,(∀cs,f' cs=k ⟨(ka o.dst).run to v,ak,fe,fg,cs⟩)/\y7 P B0 w0 b g nx ops i o.dst a w v ak fe fg rest ks fs:=by
       intro x hx f' hf
       have ax:∃x',(xK aa j since)[c]?=some x':=by
        have:c<(xK aa j since).size:=by rw[<-hlen];exact(List.getElem?_eq_some_iff.1 hx).1
        exact⟨_,Array.getElem?_eq_getElem this⟩
       obtain⟨x',ag⟩:=ax
       have J:=av.2 c x x' hx (by simpa using ag)
       have ae:=run_next_map h2 aA o.type az hc ab ag
       cases x with
       |none=>
        cases x' with
        |some=>exact J.elim
        |none=>
         refine .inr ⟨.tuple #[.bool false],ds,hp,nx,hf,?_⟩
         refine y7.W3 hd an hw hr he ae H1 ?_ aq
         exact(gX.cons (.bool false) (gX.nil g)).toArray|>fun h=>.tuple h.1 h.2
       |some ah=>
        cases x' with
        |none=>exact J.elim
        |some au=>
         obtain⟨aC,aD,q3⟩:=J
         refine .inr ⟨.tuple #[.bool true,ah.key,ah.val],ds,hp.set r (some (.mapIter (some m) since (j.toList++[ah.born]) clock)),nx,hf,?_⟩
         have aE:aj.heap[rr]?=some (.mapIter (some U) since j last):=by rw[ab];exact h2
         have ar:=H1.setObj C hg (o':=.mapIter (some m) since (j.toList++[ah.born]) clock) (fun _ _ h=>by cases h) (fun _ _ h=>by cases h) rfl (.mapIter (some U) since (j.push au.born) clock) al
          ⟨rfl,al,rfl,by rw[q3];simp,rfl,I⟩
         rw[<-Tr.nJ]at ar
         refine y7.W3 hd an hw hr he ae ar ?_ (aq.trans (Ext.putObj hg _))
         exact(gX.cons (.bool true) (gX.cons aC (gX.cons aD (gX.nil g)))).toArray|>fun h=>.tuple h.1 h.2
      by_cases h1:∃x,l=[x]
      · obtain⟨x,rfl⟩:=h1
        have aw:c=0:=by have:=jz (by rw[<-hlen];simp);rw[<-hlen]at this;simp at this;exact this
        refine .here (key x (by rw[aw];rfl) _ fun cs=>?_)
        cases x<;>simp[ua,C,hb,hn]
      · by_cases h0:l=[]
        · subst h0
          refine .dead fun cs=>?_
          cases cs with
          |nil=>exact⟨0,by simp[ua,C,hb,hn]⟩
          |cons c cs=>exact⟨0,by simp[ua,C,hb,hn,BQ]⟩
        · have jz:=jz (by rw[<-hlen];exact List.length_pos_iff.2 h0)
          rw[<-hlen]at jz
          have hl:∀cs,ua e.low (.pointer (some ⟨r,0,none⟩)) hp nx cs (fun v hp nx cs=>k ⟨(ka o.dst).run to v,ds,hp,nx,cs⟩)=(match cs with
           |[]=>.gm l.length
           |c::cs=>match BQ c l with
            |some x=>(match x with
             |some x=>k ⟨(ka o.dst).run to (.tuple #[.bool true,x.key,x.val]),ds,hp.set r (some (.mapIter (some m) since (j.toList++[x.born]) clock)),nx,cs⟩
             |none=>k ⟨(ka o.dst).run to (.tuple #[.bool false]),ds,hp,nx,cs⟩)
            |none=>.gm 0):=by
           intro cs
           match l,h0,h1,hn with
           |[],h0,_,_=>exact absurd rfl h0
           |[x],_,h1,_=>exact absurd ⟨x,rfl⟩ h1
           |x::y::l,_,_,hn=>
            cases cs with
            |nil=>simp[ua,C,hb,hn]
            |cons c cs=>
             cases ai:BQ c (x::y::l)with
             |none=>simp[ua,C,hb,hn,ai]
             |some z=>cases z<;>simp[ua,C,hb,hn,ai]
          refine⟨[c],fun p aF q e=>?_,?_⟩
          · cases p with
            |nil=>
             simp at e
             obtain⟨rfl,_⟩:=e
             exact⟨l.length,hl [],jz⟩
            |cons y aI=>simp at e
          · refine key l[c] (List.getElem?_eq_getElem jz) _ fun cs=>?_
            have ai:BQ c l=some l[c]:=by rw[LY];exact List.getElem?_eq_getElem jz
            have:=hl (c::cs)
            simp only[ai]at this
            exact this
 |_=>exact .fail fun cs k=>rfl
end
end
end Sw
namespace Sw
noncomputable section
open Go Go.RowKit
section
variable {P:Program}{ng:Nat}{e:Env}{B0:Nat}{w0:World}{b:Frame}{nt:Nat}{g:Gm}{nx:Nat}{a:Act}{w:World}{to:Tm}{ds:List Deferred}{hp:Ht}{rec:Rec}{ops:Array Oper}{i:Nat}{o:Oper}{rn:Option Nat}{rest:List Nat}{ks:List Item}{fs:List Frame}
structure K_(P:Program)(ng:Nat)(e:Env)(B0:Nat)(w0:World)(rec:Rec)(b:Frame)(g:Gm)(hp:Ht)(nx:Nat)(w:World)(ds:List Deferred)(a:Act)(rn:Option Nat):Prop where
 ok:mE P ng e
 mL:rW P ng B0 w0 e
 ih:ot P ng B0 w0 rec
 H:gu B0 w0 g hp.get nx w
 hg:kT g ng
 hd:mV g ds a.defers
 rn:wY g b rn
theorem LZ(R:K_ P ng e B0 w0 rec b g hp nx w ds a rn)(I:ops[i]?=some o)(hw:Region.wanted o (yielded ops a.tmps)=true)(hr:qA o.op=true)
 (J:uX g to a.eval o.op.operands.toList):
 tK P B0 w0 b g to nx ops i o.dst a w rest ks fs fun cs k=>(xh o.op).run e.T hp.get nx to (fun v=>k ⟨(ka o.dst).run to v,ds,hp,nx,cs⟩) (tw (ka o.dst).run e.low to ds hp nx cs k):=
 kP.xI (run:=fun C j=>(xh o.op).run e.T hp.get nx to C j) R.H R.hd I hw (.inr hr) (fun C j=>JP R.ok.T R.ok.cl R.H J C j)
theorem JV(R:K_ P ng e B0 w0 rec b g hp nx w ds a rn)(C:ops[i]?=some o)(hw:Region.wanted o (yielded ops a.tmps)=true)
 (I:uX g to a.eval o.op.operands.toList) (f:FuncId) (nt:Nat):
 tK P B0 w0 b g to nx ops i o.dst a w rest ks fs fun cs k=>(qa o.op o.dst).run e rec ⟨f,nt,rn⟩ to ds hp nx cs k:=by
 cases j:o.op with
 |call c=>have:=Vz (b:=b) (rest:=rest) (ks:=ks) (fs:=fs) R.ok R.mL R.ih R.H R.hg R.hd C hw j I ⟨f,nt,rn⟩;rw[j]at this;exact this
 |defer c=>have:=Tk (P:=P) (rec:=rec) (e:=e) (rest:=rest) (ks:=ks) (fs:=fs) R.rn R.H R.hd C hw j I f nt;rw[j]at this;exact this
 |next it s=>
  cases s with
  |false=>have:=VA (P:=P) (b:=b) (rec:=rec) (e:=e) (rest:=rest) (ks:=ks) (fs:=fs) R.H R.hd C hw j I ⟨f,nt,rn⟩;rw[j]at this;exact this
  |true=>have:=LZ (rest:=rest) (ks:=ks) (fs:=fs) R C hw (by rw[j];rfl) I;rw[j]at this;exact this
 |_=>have:=LZ (rest:=rest) (ks:=ks) (fs:=fs) R C hw (by rw[j];rfl) I;rw[j]at this;exact this
theorem qc:∀(c:Nat) (l:List Oper),m_ c l=l[c]?
 |_,[]=>by simp[m_]
 |0,x::xs=>by simp[m_]
 |c+1,x::xs=>by simp[m_,qc c xs]
def AM(g:Gm)(ops:Array Oper)(to:Tm)(a:Act)(o:Oper):Prop:=
 ∀j wn,o.guard=some (j,wn)->∀C d,ops[j]?=some C->C.dst=some d->fQ g (to.get d) (a.tmps.getD d undef)/\d<a.tmps.size
theorem HK{g:Gm}(I:AM g ops to a o){j:Nat}{wn:Bool}(hg:o.guard=some (j,wn)){C:Oper}{d:Tmp}(hj:ops[j]?=some C)(hd:C.dst=some d):
 Region.wanted o (yielded ops a.tmps)=mQ wn (to.get d):=by
 obtain⟨h1,h2⟩:=I j wn hg C d hj hd
 have h3:a.tmps[d]?=some (a.tmps.getD d undef):=by simp[Array.getD,h2]
 simp only[Region.wanted,hg,yielded,hj,hd,Option.bind_some,h3]
 generalize a.tmps.getD d undef=v' at h1
 generalize to.get d=v at h1
 cases h1<;>first|rfl|skip
 rename_i bb
 cases bb<;>cases wn<;>rfl
theorem KE(R:K_ P ng e B0 w0 rec b g hp nx w ds a rn)(j:ops[i]?=some o)(hw:Region.wanted o (yielded ops a.tmps)=false):
 tK P B0 w0 b g to nx ops i o.dst a w rest ks fs fun cs k=>k ⟨(ka o.dst).run to undef,ds,hp,nx,cs⟩:=
 fun k=>.here (.inr ⟨undef,ds,hp,nx,fun cs=>rfl,undef,a.defers,w,g,R.H,fQ.undef g,R.hd,Ext.refl _ _ _,.one (DD j hw)⟩)
theorem FY(R:K_ P ng e B0 w0 rec b g hp nx w ds a rn)(I:ops[i]?=some o)(U:uX g to a.eval o.op.operands.toList)(aa:AM g ops to a o)(f:FuncId)(nt:Nat):
 tK P B0 w0 b g to nx ops i o.dst a w rest ks fs fun cs k=>(iH ops.toList o).run e rec ⟨f,nt,rn⟩ to ds hp nx cs k:=by
 cases hg:o.guard with
 |none=>
  have hw:Region.wanted o (yielded ops a.tmps)=true:=by simp[Region.wanted,hg]
  have h0:iH ops.toList o=qa o.op o.dst:=by
   obtain⟨dst,op,ty,pos,after,guard⟩:=o
   cases hg;rfl
  rw[h0]
  exact JV R I hw U f nt
 |some ab=>
  obtain⟨j,wn⟩:=ab
  have h0:iH ops.toList o=(match kn ops.toList j with
   |some g=>⟨fun e rec fm to ds hp nx cs k=>Bool.casesOn (mQ wn (g.run to)) (k ⟨(ka o.dst).run to undef,ds,hp,nx,cs⟩) ((qa o.op o.dst).run e rec fm to ds hp nx cs k)⟩
   |none=>⟨fun _ _ _ _ _ _ _ _ _=>.gm 0⟩):=by
   obtain⟨dst,op,ty,pos,after,guard⟩:=o
   cases hg;rfl
  rw[h0]
  cases hj:ops[j]? with
  |none=>
   have:kn ops.toList j=none:=by simp[kn,qc,hj]
   rw[this]
   exact .fail fun cs k=>rfl
  |some ad=>
   cases hd:ad.dst with
   |none=>
    have:kn ops.toList j=none:=by simp[kn,qc,hj,hd,BP]
    rw[this]
    exact .fail fun cs k=>rfl
   |some d=>
    have:kn ops.toList j=some (aaj (.tmp d)):=by simp[kn,qc,hj,hd,BP]
    rw[this]
    have C:=HK aa hg hj hd
    show tK P B0 w0 b g to nx ops i o.dst a w rest ks fs fun cs k=>(Bool.casesOn (mQ wn (to.get d)) (k ⟨(ka o.dst).run to undef,ds,hp,nx,cs⟩) ((qa o.op o.dst).run e rec ⟨f,nt,rn⟩ to ds hp nx cs k):WS (Nat×St))
    cases J:mQ wn (to.get d)with
    |false=>exact KE R I (C.trans J)
    |true=>exact JV R I (C.trans J) U f nt
end
end
end Sw
namespace Sw
noncomputable section
open Go Go.RowKit
def Tl(P:Program)(B0:Nat)(w0:World)(b:Frame)(nt:Nat)(g:Gm)(nx:Nat)(ops:Array Oper)(l:List Nat)(a:Act)(w:World)(j:St)(ks:List Item)(fs:List Frame):Prop:=
 ∃a' w' g',vg B0 w0 g' nt j a' w'/\Ext g nx w g' j.nx w'/\Steps P (lone (At b a (.inRegion ops l::ks)) fs w) (lone (At b a' (.inRegion ops []::ks)) fs w')
def vU(P:Program)(B0:Nat)(w0:World)(b:Frame)(nt:Nat)(g:Gm)(nx:Nat)(ops:Array Oper)(l:List Nat)(a:Act)(w:World)(ks:List Item)(fs:List Frame)(r:List Nat->R):Prop:=
 lS r fun j=>zA j\/∃o,(∀cs,j cs=.ok (0,o.at cs))/\Tl P B0 w0 b nt g nx ops l a w o ks fs
section
variable {P:Program}{ng:Nat}{e:Env}{B0:Nat}{w0:World}{b:Frame}{nt:Nat}{g:Gm}{nx:Nat}{a:Act}{w:World}{rec:Rec}{ops:Array Oper}{rn:Option Nat}{ks:List Item}{fs:List Frame}
theorem wY.mono{g g':Gm}(h:g.le g'){rn:Option Nat}(k:wY g b rn):wY g' b rn:=by
 cases rn with
 |none=>exact k
 |some l=>obtain⟨rl,h1,h2⟩:=k;exact⟨rl,h1,h.1 _ _ h2⟩
theorem N3{to:Tm}{o:Oper}(I:rL g nt to a.tmps)(C:ops.toList.all (wF ng nt)=true):AM g ops to a o:=by
 intro j wn _ J d hj hd
 have hm:J∈ops.toList:=by obtain⟨hi,rfl⟩:=Array.getElem?_eq_some_iff.1 hj;simp
 have:=List.all_eq_true.1 C J hm
 unfold wF at this
 rw[Bool.and_eq_true]at this
 have h2:=this.2
 rw[hd]at h2
 have jz:@LT.lt Nat _ d nt:=Nat.le_of_ble_eq_true h2
 exact⟨I.2 d jz,by rw[I.1];exact jz⟩
theorem JW(ok:mE P ng e)(mL:rW P ng B0 w0 e)(ih:ot P ng B0 w0 rec)(hn:nt<=512){rF:Nat}(U:ops.toList.all (wF rF nt)=true)(f:FuncId):
 ∀(n i:Nat) (s:St) (a:Act) (w:World) (g:Gm),i+n=ops.size->vg B0 w0 g nt s a w->kT g ng->kT g rF->wY g b rn->
  vU P B0 w0 b nt g s.nx ops (List.range' i n) a w ks fs fun cs=>vR (gY ops.toList (ops.toList.drop i)) e rec ⟨f,nt,rn⟩ (s.at cs)
 |0,i,s,a,w,g,hi,S,_,_,_=>by
  have:ops.toList.drop i=[]:=by simp;omega
  rw[this]
  exact .here (.inr ⟨s,fun cs=>rfl,a,w,g,S,Ext.refl _ _ _,.refl ..⟩)
 |n+1,i,s,a,w,g,hi,S,hg,ab,ad=>by
  have jz:i<ops.size:=by omega
  have aa:ops.toList.drop i=ops[i]::ops.toList.drop (i+1):=by
   rw[List.drop_eq_getElem_cons (by simpa using jz)];simp
  have an:ops[i]?=some ops[i]:=Array.getElem?_eq_getElem jz
  have C:=List.all_eq_true.1 U ops[i] (by simp)
  unfold wF at C
  rw[Bool.and_eq_true]at C
  rw[aa]
  have o:(fun cs=>vR (gY ops.toList (ops[i]::ops.toList.drop (i+1))) e rec ⟨f,nt,rn⟩ (s.at cs))=fun cs=>(iH ops.toList ops[i]).run e rec ⟨f,nt,rn⟩ s.to s.ds s.hp s.nx cs fun s=>vR (gY ops.toList (ops.toList.drop (i+1))) e rec ⟨f,nt,rn⟩ s:=by
   funext cs;rfl
  rw[o]
  have xI:=FY (to:=s.to) (i:=i) (ops:=ops) (rn:=rn) (rest:=List.range' (i+1) n) (ks:=ks) (fs:=fs) (R:=⟨ok,mL,ih,S.heap,hg,S.act.2,ad⟩) an (Q5 S.act.1 ab C.1) (N3 S.act.1 U) f nt
  refine(xI _).bind fun f' h=>?_
  rcases h with h|⟨v,J,fe,fg,h,st⟩
  · exact .dead h
  · have af:=st
    obtain⟨v',j,ag,g1,H1,al,ae,I,st1⟩:=af
    have ak:rL g1 nt ((ka ops[i].dst).run s.to v) ({a with defers:=j}.put ops[i].dst v').tmps:=
     rL.put (a:={a with defers:=j}) (S.act.1.mono I.ext.le) hn C.2 al
    have ae:mV g1 J ({a with defers:=j}.put ops[i].dst v').defers:=by rw[put_defers];exact ae
    have ai:vg B0 w0 g1 nt ⟨(ka ops[i].dst).run s.to v,J,fe,fg,[]⟩ ({a with defers:=j}.put ops[i].dst v') ag:=⟨H1,ak,ae⟩
    have o:f'=fun cs=>vR (gY ops.toList (ops.toList.drop (i+1))) e rec ⟨f,nt,rn⟩ ((⟨(ka ops[i].dst).run s.to v,J,fe,fg,[]⟩:St).at cs):=funext h
    rw[o]
    refine(JW ok mL ih hn U f n (i+1) _ _ ag g1 (by omega) ai (hg.mono I.ext.le) (ab.mono I.ext.le) (ad.mono I.ext.le)).mono fun aq h=>?_
    rcases h with h|⟨s2,h,a2,ao,g2,aj,ah,st2⟩
    · exact .inl h
    · refine .inr ⟨s2,h,a2,ao,g2,aj,I.trans ah,?_⟩
      rw[List.range'_succ]
      exact st1.trans st2
theorem N4(ok:mE P ng e)(mL:rW P ng B0 w0 e)(ih:ot P ng B0 w0 rec)(hn:nt<=512){rF:Nat}(o:ops.toList.all (wF rF nt)=true)(f:FuncId)(id:Nat){s:St}(S:vg B0 w0 g nt s a w)(hg:kT g ng)(j:kT g rF)(C:wY g b rn):
 uS P B0 w0 b nt g s.nx (.region id ops false) a w ks fs fun cs=>vR (gY ops.toList ops.toList) e rec ⟨f,nt,rn⟩ (s.at cs):=by
 have h:=JW (ks:=ks) (fs:=fs) ok mL ih hn o f ops.size 0 s a w g (by omega) S hg j C
 rw[List.drop_zero]at h
 refine h.mono fun f' h=>?_
 rcases h with h|⟨J,h,a',w',g',S',I,st⟩
 · exact .inl h
 · refine .inr ⟨0,J,h,a',w',g',S',I,ks,rfl,?_⟩
   have:=(Steps.one (El (P:=P) (b:=b) (a:=a) (w:=w) (k:=ks) (cs:=fs) (id:=id) (ops:=ops))).trans (by rw[List.range_eq_range'];exact st)
   exact this.trans (.one xG)
end
end
end Sw
namespace Sw
noncomputable section
open Go Go.RowKit
section
variable {P:Program}{ng:Nat}{e:Env}{B0:Nat}{w0:World}{b:Frame}{nt:Nat}{g:Gm}{nx:Nat}{a:Act}{w:World}{rec:Rec}{rn:Option Nat}{hp:Ht}
theorem L0(H:gu B0 w0 g hp.get nx w){to:Tm}{tmps:Array Value}(R:rL g nt to tmps)(hn:nt<=512){f:FuncId}{ps:Array Tmp}{n9 body:Code}(J:rU g nt n9)(hb:rU g nt body)(I:ps.toList.all (Nat.blt · nt)=true){o j:Nat}(C:g.gb o=some (j,0)):
 gu B0 w0 (g.add nx (w.heap.size,0) none) (hp.set nx (some (.loop ⟨.ready,none,f,to,nt,ps.toList,n9,body,o⟩))).get (nx+1) (w.alloc (.loop {state:=.ready,pending:=none,fn:=f,tmps:=tmps,params:=ps,assign:=n9,body:=body,defers:=j}))/\
 Ext g nx w (g.add nx (w.heap.size,0) none) (nx+1) (w.alloc (.loop {state:=.ready,pending:=none,fn:=f,tmps:=tmps,params:=ps,assign:=n9,body:=body,defers:=j}))/\
 (g.add nx (w.heap.size,0) none).gb nx=some (w.heap.size,0):=by
 have F:=H.fresh (Nat.le_refl nx)
 have hle:=Gm.qM F.gb (w.heap.size,0) none
 refine⟨?_,Ext.alloc (Nat.le_refl _) (by omega) F.gb _ _,Gm.lQ _ _ _ _⟩
 rw[Tr.nJ]
 refine H.alloc F.gb F.room F.hp (Nat.le_succ _) (Nat.lt_succ_self _) _ _ none rfl ⟨rfl,H.base,rfl,rfl,rfl,R.mono hle,rfl,rfl,rfl,hle.1 _ _ C,hn,J.mono hle,hb.mono hle,I⟩ (fun _ _ _ h=>by cases h)
theorem L4(H:gu B0 w0 g hp.get nx w):
 gu B0 w0 (g.add nx (w.heap.size,0) none) (hp.set nx (some (.deferred (some [])))).get (nx+1) (w.alloc (.deferred (some [])))/\Ext g nx w (g.add nx (w.heap.size,0) none) (nx+1) (w.alloc (.deferred (some [])))/\
 (g.add nx (w.heap.size,0) none).gb nx=some (w.heap.size,0):=by
 have F:=H.fresh (Nat.le_refl nx)
 refine⟨?_,Ext.alloc (Nat.le_refl _) (by omega) F.gb _ _,Gm.lQ _ _ _ _⟩
 rw[Tr.nJ]
 exact H.alloc F.gb F.room F.hp (Nat.le_succ _) (Nat.lt_succ_self _) _ _ none rfl ⟨rfl,H.base,rfl,fun i d d' h=>by simp at h⟩ (fun _ _ _ h=>by cases h)
def Ev(b:Frame)(a:Act)(l:Nat)(mark:List Deferred)(k:List Item):Frame:={At b a (.inRangeFunc l::k)with defers:=mark++a.defers}
theorem HL(a:Act)(f:Operand)(l:Nat)(x:TypeId)(ρ:Operand->Value)(j:ρ f=a.eval f)(hc:∀v,ρ (.const v)=v):
 (do let d<-resolve ρ ({callee:=.value f,args:=#[.const (.func (.yield l) #[] #[])],argTypes:=#[]}:Call) x;invoke d.target d.args:Sem Next)=Aq (a.eval f) #[.func (.yield l) #[] #[]]:=by
 simp only[resolve,Aq,j,List.map_toArray,List.map_cons,List.map_nil,hc]
theorem L5{f:Operand}{params:Array Tmp}{assign body:Code}{k:List Item}{cs:List Frame}{l:Nat}{mark:List Deferred}{o:World}{j:Next}{I:Frame}
 (h:(Instr.enterLoop b.fn a.tmps params assign body b.roundOf).run P w=.ok (l,mark) o) (hs:(Aq (a.eval f) #[.func (.yield l) #[] #[]]).run P o=.ok j o) (hc:GH P j=some I):
 step P (lone (At b a (.code (.rangeFunc f params assign body)::k)) cs w)=.next (lone I (Ev b a l mark k::cs) o):=by
 refine step_lone_go ?_
 have e1:(Frame.eval {At b a (.inRangeFunc l::k)with defers:=mark++a.defers} f)=a.eval f:=by cases f<;>rfl
 have hr:=HL a f l 0 (Frame.eval {At b a (.inRangeFunc l::k)with defers:=mark++a.defers}) e1 (fun _=>rfl)
 have J:(do let d<-resolve (Frame.eval {At b a (.inRangeFunc l::k)with defers:=mark++a.defers}) ({callee:=.value f,args:=#[.const (.func (.yield l) #[] #[])],argTypes:=#[]}:Call) 0;invoke d.target d.args:Sem Next).run P o=.ok j o:=by rw[hr];exact hs
 simp only[At]at J
 have C:=J
 rw[Sem.run_bind]at C
 cases j<;>first|(cases hc;done)|skip
 · cases hc
   simp[stepG,stepG.exec,At,h,stepG.apply,Ev]
   simp[C]
 · cases hc
   simp[stepG,stepG.exec,At,h,stepG.apply,Ev]
   simp[C]
theorem HM{l:Nat}{r:Loop}{k:List Item}{cs:List Frame}(h:w.heap[l]?=some (.loop r))(hs:r.state≠.busy):
 step P (lone (At b a (.endRangeFunc l::k)) cs w)=.next (lone (At b a ((r.pending.map Item.code).toList++k)) cs (w.putObj l (.loop {r with state:=.exhausted}))):=by
 have j:(Instr.endLoop l).run P w=.ok r.pending (w.putObj l (.loop {r with state:=.exhausted})):=by
  unfold Instr.endLoop
  rw[fw (run_getLoop h)]
  have:(r.state==LoopState.busy)=false:=by simpa using hs
  simp only[this]
  rw[if_neg (by simp),fw (p0 _ h I3)];rfl
 refine step_lone_go ?_
 simp[stepG,stepG.exec,At,j]
theorem PR{c:Option Code}{o:Nat}(h:zZ c=some o)(k:List Item):Ends o k ((c.map Item.code).toList++k):=by
 cases c with
 |none=>cases h;rfl
 |some c=>
  cases c<;>first|(cases h;done)|skip
  · cases h;exact⟨[],rfl,trivial⟩
  · cases h;exact⟨k,rfl⟩
end
end
end Sw
namespace Sw
noncomputable section
open Go Go.RowKit
section
variable {P:Program}{ng:Nat}{e:Env}{B0:Nat}{w0:World}{b:Frame}{nt:Nat}{g:Gm}{nx:Nat}{a:Act}{w:World}{rec:Rec}{rn:Option Nat}{hp:Ht}{ks:List Item}{fs:List Frame}
def Ew(e:Env)(rec:Rec)(fv:Value)(to:Tm)(ds mark:List Deferred)(l:Nat)(h:Ht)(n:Nat)(cs:List Nat):R:=
 Bo e rec fv [.func (.yield l) #[] #[]] h n cs (fun _ hp nx cs=>match hp.get l with
  |some (.loop r)=>(match r.state with
   |.busy=>.gm 0
   |_=>(match zZ r.pending with
    |some o=>.ok (o,⟨to,mark++ds,hp.set l (some (.loop {r with state:=.exhausted})),nx,cs⟩)
    |none=>.gm 0))
  |_=>.gm 0)
theorem FZ(ok:mE P ng e)(mL:rW P ng B0 w0 e)(ih:ot P ng B0 w0 rec){f:Operand}{params:Array Tmp}{assign body:Code}{to:Tm}{ds mark yX:List Deferred}{h:Ht}{ai:World}{g1:Gm}{l rl:Nat}{ag:Nat}
 (hg:kT g1 ng) (ay:rL g nt to a.tmps) (hd:mV g1 ds a.defers) (hm:mV g1 mark yX) (an:fQ g ((aaj f).run to) (a.eval f)) (H1:gu B0 w0 g1 h.get ag ai) (aa:Ext g nx w g1 ag ai) (hl:g1.gb l=some (rl,0))
 (al:(Instr.enterLoop b.fn a.tmps params assign body b.roundOf).run P w=.ok (rl,yX) ai):
 uS P B0 w0 b nt g nx (.rangeFunc f params assign body) a w ks fs fun cs=>Ew e rec ((aaj f).run to) to ds mark l h ag cs:=by
 have ab:gX g1 [.func (.yield l) #[] #[]] (#[.func (.yield rl) #[] #[]]:Array Value).toList:=gX.cons (.Al hl) (gX.nil g1)
 refine(HI (c:=Ev b a rl yX ks) (fs:=fs) ok mL ih H1 hg (an.mono aa.ext.le) ab _).mono fun f' hf=>?_
 rcases hf with hf|⟨v,fe,fg,hf,aB,hs,v',au,g2,aA,aj,aC,I,hc,st⟩
 · exact .inl hf
 · have J:=I.ext.le.1 _ _ hl
   cases hr:fe.get l with
   |none=>exact .inl fun cs=>⟨0,by rw[hf,hr]⟩
   |some ob=>
    cases ob<;>first|(refine .inl ?_;intro cs;refine⟨0,?_⟩;rw[hf,hr];done)|skip
    rename_i r
    obtain⟨ah,_,ao,ak,ad⟩:=aj.Et hr J
    have ae:r.state≠.busy->∀o,zZ r.pending=some o->(∀cs,f' cs=.ok (o,(⟨to,mark++ds,fe.set l (some (.loop {r with state:=.exhausted})),fg,[]⟩:St).at cs))->
     zA f'\/∃o ar,(∀cs,f' cs=.ok (o,ar.at cs))/\jC P B0 w0 b nt g nx (.rangeFunc f params assign body) a w o ar ks fs:=by
     intro j o R hf
     refine .inr ⟨o,_,hf,?_⟩
     have aw:=aj.I4 hr J ak (ad.JS .exhausted)
     have av:Ext g2 fg au g2 fg (au.putObj rl (.loop {ah with state:=.exhausted})):=Ext.putObj J _
     have ax:=ay.mono (aa.ext.le.1|>fun _=>(Gm.le_trans aa.ext.le I.ext.le))
     refine⟨⟨a.tmps,yX++a.defers⟩,_,g2,⟨aw,ax,?_⟩,(aa.trans I).trans av,?_⟩
     · have U:=hm.mono I.ext.le
       have aq:=hd.mono I.ext.le
       refine⟨by simp[U.1,aq.1],fun i d d' e C=>?_⟩
       have e:(mark++ds)[i]?=some d:=e
       have C:(yX++a.defers)[i]?=some d':=C
       rw[List.getElem?_append]at e C
       by_cases hi:i<mark.length
       · rw[if_pos hi]at e;rw[if_pos (U.1▸hi)]at C;exact U.2 i d d' e C
       · rw[if_neg hi]at e;rw[if_neg (U.1▸hi)]at C;rw[<-U.1]at C;exact aq.2 _ d d' e C
     · refine⟨(ah.pending.map Item.code).toList++ks,?_,?_⟩
       · rw[<-ad.2.1];exact PR R ks
       · have af:ah.state≠.busy:=by rw[<-ad.1];exact j
         have s1:=Steps.one (L5 (k:=ks) (cs:=fs) al hs hc)
         have s2:=st
         have e1:(Ev b a rl yX ks).finish v'=At b ⟨a.tmps,yX++a.defers⟩ (.endRangeFunc rl::ks):=rfl
         rw[e1]at s2
         have az:=Steps.one (HM (P:=P) (b:=b) (a:=⟨a.tmps,yX++a.defers⟩) (k:=ks) (cs:=fs) ao af)
         exact(s1.trans s2).trans az
    cases j:r.state with
    |busy=>exact .inl fun cs=>⟨0,by rw[hf,hr];simp[j]⟩
    |_=>
     cases R:zZ r.pending with
     |none=>exact .inl fun cs=>⟨0,by rw[hf,hr];simp[j,R]⟩
     |some o=>exact ae (by rw[j];intro k;cases k) o R fun cs=>by rw[hf,hr];simp[j,R,St.at]
theorem VB(e:Env)(rec:Rec)(f:Operand)(params:Array Tmp)(assign body:Code)(fn:FuncId)(nt:Nat)(rn:Option Nat)(s:St):uW (.rangeFunc f params assign body) e rec ⟨fn,nt,rn⟩ s=(match (match rn with
 |none=>some (s.nx,s.nx+1,s.hp.set s.nx (some (.deferred (some []))),[(⟨.collected s.nx,#[]⟩:Deferred)])
 |some l=>(match s.hp.get l with
  |some (.loop r)=>some (r.defers,s.nx,s.hp,[])
  |_=>none))with
 |some (j,l,h,mark)=>Ew e rec ((aaj f).run s.to) s.to s.ds mark l (h.set l (some (.loop ⟨.ready,none,fn,s.to,nt,params.toList,assign,body,j⟩))) (l+1) s.cs
 |none=>.gm 0):=by cases rn<;>rfl
theorem PS(ok:mE P ng e)(mL:rW P ng B0 w0 e)(ih:ot P ng B0 w0 rec)(hn:nt<=512){f:Operand}{params:Array Tmp}{assign body:Code}(ah:rU g nt (.rangeFunc f params assign body)){s:St}(S:vg B0 w0 g nt s a w)
 (hg:kT g ng) (j:wY g b rn):
 uS P B0 w0 b nt g s.nx (.rangeFunc f params assign body) a w ks fs fun cs=>uW (.rangeFunc f params assign body) e rec ⟨b.fn,nt,rn⟩ (s.at cs):=by
 obtain⟨rF,o,hc⟩:=ah
 unfold codeOk at hc
 rw[Bool.and_eq_true,Bool.and_eq_true,Bool.and_eq_true]at hc
 obtain⟨c1,c2,ab,c4⟩:=hc
 have R:=GG S.act.1 o c1
 have h0:(fun cs=>uW (.rangeFunc f params assign body) e rec ⟨b.fn,nt,rn⟩ (s.at cs))=fun cs=>_:=funext fun cs=>VB e rec f params assign body b.fn nt rn (s.at cs)
 rw[h0]
 cases rn with
 |none=>
  obtain⟨H1,I,m1⟩:=L4 S.heap
  obtain⟨U,C,m2⟩:=L0 (f:=b.fn) H1 (S.act.1.mono I.ext.le) hn (n9:=assign) (body:=body) (ps:=params) ⟨rF,o.mono I.ext.le,ab⟩ ⟨rF,o.mono I.ext.le,c4⟩ c2 m1
  have j:b.roundOf=none:=j
  have E:=I.trans C
  show uS P B0 w0 b nt g s.nx (.rangeFunc f params assign body) a w ks fs fun cs=>Ew e rec ((aaj f).run s.to) s.to s.ds [⟨.collected s.nx,#[]⟩] (s.nx+1) ((s.hp.set s.nx (some (.deferred (some [])))).set (s.nx+1) (some (.loop ⟨.ready,none,b.fn,s.to,nt,params.toList,assign,body,s.nx⟩))) (s.nx+1+1) cs
  refine FZ ok mL ih (yX:=[⟨.collected w.heap.size,#[]⟩]) (hg.mono E.ext.le) S.act.1 (S.act.2.mono E.ext.le) ?_ R U E m2 ?_
  · have J:BI ((g.add s.nx (w.heap.size,0) none).add (s.nx+1) ((w.alloc (.deferred (some []))).heap.size,0) none) ⟨.collected s.nx,#[]⟩ ⟨.collected w.heap.size,#[]⟩:=.Gk (C.ext.le.1 _ _ m1)
    refine⟨rfl,fun i d d' e ad=>?_⟩
    cases i with
    |zero=>simp at e ad;subst e;subst ad;exact J
    |succ i=>simp at e
  · rw[j];rfl
 |some ai=>
  obtain⟨al,j,ag⟩:=j
  cases hr:s.hp.get ai with
  |none=>exact .dead fun cs=>⟨0,by simp[St.at,hr]⟩
  |some ob=>
   cases ob<;>first|(refine .dead ?_;intro cs;refine⟨0,?_⟩;simp[St.at,hr];done)|skip
   rename_i r
   obtain⟨ak,_,hw,an,L⟩:=S.heap.Et hr ag
   have ae:g.gb r.defers=some (ak.defers,0):=L.2.2.2.2.2.2.2.1
   obtain⟨U,C,m2⟩:=L0 (f:=b.fn) S.heap S.act.1 hn (n9:=assign) (body:=body) (ps:=params) ⟨rF,o,ab⟩ ⟨rF,o,c4⟩ c2 ae
   have aa:(fun cs=>(match (match (some ai:Option Nat)with
    |none=>some ((s.at cs).nx,(s.at cs).nx+1,(s.at cs).hp.set (s.at cs).nx (some (.deferred (some []))),[(⟨.collected (s.at cs).nx,#[]⟩:Deferred)])
    |some l=>(match (s.at cs).hp.get l with
     |some (.loop r)=>some (r.defers,(s.at cs).nx,(s.at cs).hp,[])
     |_=>none))with
     |some (aj,l,h,mark)=>Ew e rec ((aaj f).run (s.at cs).to) (s.at cs).to (s.at cs).ds mark l (h.set l (some (.loop ⟨.ready,none,b.fn,(s.at cs).to,nt,params.toList,assign,body,aj⟩))) (l+1) (s.at cs).cs
     |none=>.gm 0))=fun cs=>Ew e rec ((aaj f).run s.to) s.to s.ds [] s.nx (s.hp.set s.nx (some (.loop ⟨.ready,none,b.fn,s.to,nt,params.toList,assign,body,r.defers⟩))) (s.nx+1) cs:=by
    funext cs;simp[St.at,hr]
   rw[aa]
   refine FZ ok mL ih (yX:=[]) (hg.mono C.ext.le) S.act.1 (S.act.2.mono C.ext.le) ⟨rfl,fun i d d' e=>by simp at e⟩ R U C m2 ?_
   rw[j]
   unfold Instr.enterLoop
   simp only
   have af:=run_getLoop (P:=P) hw
   rw[fw af]
   rfl
end
end
end Sw
namespace Sw
noncomputable section
open Go Go.RowKit
theorem beq_eq{a b:Nat}(h:Nat.beq a b=true):a=b:=Nat.eq_of_beq_eq_true h
theorem s7{f:Value->Value->Bool}(hf:∀a b,f a b=true->a=b):∀x y:List Value,ub f x y=true->x=y
 |[],[],_=>rfl
 |a::x,b::y,h=>by
  simp only[ub,Bool.and_eq_true]at h
  rw[hf a b h.1,s7 hf x y h.2]
 |[],_::_,h=>by cases h
 |_::_,[],h=>by cases h
theorem Bq:∀(n:Nat) (a b:Value),kY n a b=true->a=b:=by
 intro n
 induction n with
 |zero=>
  intro a b h
  unfold kY at h
  split at h<;>first|(cases h;done)|rfl|skip
  · rename_i a b;cases a<;>cases b<;>first|rfl|cases h
  · rw[Bool.and_eq_true]at h;rw[ve h.1,lH.1 h.2]
  · rw[wI]at h;exact congrArg Value.string (AI (by simpa using h))
  · rw[Bool.and_eq_true]at h;rw[beq_eq h.1,beq_eq h.2]
  · rw[Bool.and_eq_true]at h;rw[beq_eq h.1,beq_eq h.2]
  · rw[Bool.and_eq_true,Bool.and_eq_true,Bool.and_eq_true]at h;rw[beq_eq h.1,beq_eq h.2.1,beq_eq h.2.2.1,beq_eq h.2.2.2]
  · rw[beq_eq h]
  all_goals (rename_i h0;exact absurd h0 (by simp))
 |succ n ih=>
  intro a b h
  unfold kY at h
  split at h<;>first|(cases h;done)|rfl|skip
  · rename_i a b;cases a<;>cases b<;>first|rfl|cases h
  · rw[Bool.and_eq_true]at h;rw[ve h.1,lH.1 h.2]
  · rw[wI]at h;exact congrArg Value.string (AI (by simpa using h))
  · rw[Bool.and_eq_true]at h;rw[beq_eq h.1,beq_eq h.2]
  · rw[Bool.and_eq_true]at h;rw[beq_eq h.1,beq_eq h.2]
  · rw[Bool.and_eq_true,Bool.and_eq_true,Bool.and_eq_true]at h;rw[beq_eq h.1,beq_eq h.2.1,beq_eq h.2.2.1,beq_eq h.2.2.2]
  · rw[beq_eq h]
  · rename_i hm
    cases hm
    rw[Bool.and_eq_true,Bool.and_eq_true]at h
    rw[beq_eq h.1,Array.toList_inj.1 (s7 ih _ _ h.2.1),Array.toList_inj.1 (s7 ih _ _ h.2.2)]
  · rename_i hm
    cases hm
    rw[Bool.and_eq_true,Bool.and_eq_true]at h
    rw[beq_eq h.1,Array.toList_inj.1 (s7 ih _ _ h.2.1),Array.toList_inj.1 (s7 ih _ _ h.2.2)]
  · rename_i hm
    cases hm
    rw[Bool.and_eq_true]at h;rw[beq_eq h.1,ih _ _ h.2]
  · rename_i hm
    cases hm
    rw[Array.toList_inj.1 (s7 ih _ _ h)]
  · rename_i hm
    cases hm
    rw[Array.toList_inj.1 (s7 ih _ _ h)]
def qR(run:K1->K2->R):Prop:=(∀j o,∃m,run j o=.gm m)\/∃v,∀j o,run j o=j v
theorem qR.opt(o:Option Value):qR fun j _=>kF o j:=by
 cases o with
 |none=>exact .inl fun _ _=>⟨0,rfl⟩
 |some v=>exact .inr ⟨v,fun _ _=>rfl⟩
theorem qR.fail:qR fun _ _=>.gm 0:=.inl fun _ _=>⟨0,rfl⟩
theorem qR.val(v:Value):qR fun j _=>j v:=.inr ⟨v,fun _ _=>rfl⟩
theorem JY{op:Op}(h:pY op=0)(hc:∀c,op≠.call c)(T:Ty)(hp:Hp)(n:Nat)(to:Tm):qR ((xh op).run T hp n to):=by
 cases op<;>first
  |(simp[pY]at h;done)
  |exact absurd rfl (hc _)
  |exact qR.val _
  |exact qR.opt _
  |exact qR.fail
theorem GJ{c:Call}(h:pY (.call c)=0):∃b,c.callee=.builtin b/\∀(T:Ty) (hp:Hp) (n:Nat) (ts:List TypeId) (l:List Value),qR (bi b T hp n ts l):=by
 simp only[pY]at h
 split at h<;>first|(cases h;done)|skip
 all_goals (rename_i hc;refine⟨_,hc,fun T hp n ts l=>?_⟩)
 · cases ts<;>cases l<;>first|exact qR.fail|exact qR.opt _
 · cases ts<;>cases l<;>first|exact qR.fail|exact qR.opt _
 · exact qR.opt _
 · exact qR.opt _
def HN(n:Nat)(run:K1->K2->R):Prop:=(∀o j,∃m,run o j=.gm m)\/∃v cs,wz v=some n/\∀o j,run o j=j (v,[(n,some (.cells cs gl.plain))],1)
theorem JZ{op:Op}(h:pY op=1)(T:Ty)(n:Nat)(to:Tm):∀hp:Hp,HN n ((xh op).run T hp n to):=by
 cases op<;>first|(simp[pY]at h;done)|skip
 · rename_i el
   intro hp
   show HN n fun C j=>(match T.zero el with|some z=>j (eNew n z.cells.toList)|none=>.gm 0)
   cases T.zero el with
   |none=>exact .inl fun _ _=>⟨0,rfl⟩
   |some z=>exact .inr ⟨_,_,rfl,fun _ _=>rfl⟩
 · intro hp
   exact .inr ⟨_,_,rfl,fun _ _=>rfl⟩
 · rename_i t len ps
   intro hp
   show HN n fun C j=>qy (qH T t len (tu (yU ps.toList) to) n) j
   cases he:qH T t len (tu (yU ps.toList) to) n with
   |none=>exact .inl fun _ _=>⟨0,rfl⟩
   |some f=>
    unfold qH at he
    split at he
    · split at he
      · rename_i s z _ _
        cases hb:(Nat.ble (len*s) 16777216&&Nat.beq z.cells.toList.length s)with
        |false=>rw[hb]at he;cases he
        |true=>
         rw[hb]at he
         obtain⟨c,_,rfl⟩:=Option.map_eq_some_iff.1 he
         exact .inr ⟨_,_,rfl,fun _ _=>rfl⟩
      · cases he
    · cases he
 · rename_i t l c
   intro hp
   show HN n fun C j=>qy (vP T t ((aaj l).run to) ((aaj c).run to) n) j
   cases he:vP T t ((aaj l).run to) ((aaj c).run to) n with
   |none=>exact .inl fun _ _=>⟨0,rfl⟩
   |some f=>
    unfold vP at he
    split at he
    · split at he
      · split at he
        · rename_i U I J o _ _ _ _ inf pa _ z R
          cases hb:(Nat.ble I o&&(Nat.ble (o*inf.bytes) 1099511627776&&Nat.blt o 2147483648))with
          |false=>rw[hb]at he;cases he
          |true=>
           rw[hb]at he
           cases he
           exact .inr ⟨_,_,rfl,fun _ _=>rfl⟩
        · cases he
      · cases he
    · cases he
 · exfalso;simp only[pY]at h;split at h<;>cases h
theorem Rb{op:Op}(h:pY op=1)(T:Ty)(n:Nat)(to:Tm)(hp fe:Hp):(xh op).run T hp n to=(xh op).run T fe n to:=by
 cases op<;>first|(simp[pY]at h;done)|rfl
variable {fl:Bool}
theorem C4{op:Op}(h:kA fl op=1):pY op=1/\(fl&&pz op)=false:=by
 unfold kA at h
 cases hb:(fl&&pz op)with
 |true=>rw[hb]at h;cases h
 |false=>rw[hb]at h;exact⟨h,rfl⟩
theorem BS{op:Op}(h:kA fl op=0):(fl&&pz op)=true\/(pY op=0/\(fl&&pz op)=false):=by
 unfold kA at h
 cases hb:(fl&&pz op)with
 |true=>exact .inl rfl
 |false=>rw[hb]at h;exact .inr ⟨h,rfl⟩
theorem PT{op:Op}(h:kA fl op=2):pY op=2/\(fl&&pz op)=false:=by
 unfold kA at h
 cases hb:(fl&&pz op)with
 |true=>rw[hb]at h;cases h
 |false=>rw[hb]at h;exact⟨h,rfl⟩
theorem BT{op:Op}(h:(fl&&pz op)=true)(T:Ty)(hp:Hp)(n:Nat)(to:Tm):(∀j,∃m,(Bp op).run T hp n to j=.gm m)\/
 ∃v,(∀j,(Bp op).run T hp n to j=j v)/\∀j o,(xh op).run T hp n to j o=o (v,[],0):=by
 rw[Bool.and_eq_true]at h
 replace h:=h.2
 cases op<;>first|(cases h;done)|skip
 rename_i s d x
 have e1:∀j,(Bp (.convert s d x)).run T hp n to j=U7 (t_ T hp s d ((aaj x).run to) n) j:=fun j=>rfl
 have e2:∀j o,(xh (.convert s d x)).run T hp n to j o=qy (t_ T hp s d ((aaj x).run to) n) o:=fun j o=>rfl
 rcases hE:t_ T hp s d ((aaj x).run to) n with _|⟨v,_|_,_|_⟩
 · exact .inl fun j=>⟨0,by rw[e1,hE];rfl⟩
 · exact .inr ⟨v,fun j=>by rw[e1,hE];rfl,fun j o=>by rw[e2,hE];rfl⟩
 all_goals exact .inl fun j=>⟨0,by rw[e1,hE];rfl⟩
end
end Sw
namespace Sw
noncomputable section
open Go Go.RowKit
section
variable {fl:Bool}{e:Env}{rec:Rec}{fm:Fm}{to:Tm}{ds:List Deferred}{hp:Ht}{nx:Nat}
theorem HO{op:Op}(hc:pY op≠2)(hn:∀c,op≠.call c)(dst:Option Nat):qa op dst=⟨fun e _ _ to ds hp nx cs k=>(xh op).run e.T hp.get nx to (fun v=>k ⟨(ka dst).run to v,ds,hp,nx,cs⟩) (tw (ka dst).run e.low to ds hp nx cs k)⟩:=by
 cases op<;>first|rfl|exact absurd rfl (hn _)|(exact absurd rfl hc)
theorem C5{op:Op}(hn:∀c,op≠.call c):yv op=⟨fun T hp n to j=>(xh op).run T hp n to j (fun _=>.gm 0)⟩:=by
 cases op<;>first|rfl|exact absurd rfl (hn _)
theorem L6(op:Op):(∃c,op=.call c)\/∀c,op≠.call c:=by
 cases op<;>first|exact .inl ⟨_,rfl⟩|exact .inr fun c h=>by cases h
theorem Tn{op:Op}(h:pY op=0)(dst:Option Nat)(e:Env)(rec:Rec)(fm:Fm)(to:Tm)(ds:List Deferred)(hp:Ht)(nx:Nat):
 (∀cs k,∃m,(qa op dst).run e rec fm to ds hp nx cs k=.gm m)\/
 ∃v,(∀cs k,(qa op dst).run e rec fm to ds hp nx cs k=k ⟨(ka dst).run to v,ds,hp,nx,cs⟩)/\∀j,(yv op).run e.T hp.get nx to j=j v:=by
 rcases L6 op with⟨c,rfl⟩|hn
 · obtain⟨b,hb,hg⟩:=GJ h
   have h1:∀cs k,(qa (.call c) dst).run e rec fm to ds hp nx cs k=bi b e.T hp.get nx c.argTypes.toList (runs (sP c.args.toList) to) (fun v=>k ⟨(ka dst).run to v,ds,hp,nx,cs⟩) (tw (ka dst).run e.low to ds hp nx cs k):=by
    intro cs k;simp only[qa,hb];rfl
   have h2:∀j,(yv (.call c)).run e.T hp.get nx to j=bi b e.T hp.get nx c.argTypes.toList (runs (sP c.args.toList) to) j (fun _=>.gm 0):=by
    intro j;simp only[yv,hb]
   rcases hg e.T hp.get nx c.argTypes.toList (runs (sP c.args.toList) to)with g|⟨v,g⟩
   · exact .inl fun cs k=>by rw[h1];exact g _ _
   · exact .inr ⟨v,fun cs k=>by rw[h1,g],fun j=>by rw[h2,g]⟩
 · have h1:=HO (by rw[h];decide) hn dst
   have h2:=C5 hn
   rw[h1,h2]
   rcases JY h hn e.T hp.get nx to with g|⟨v,g⟩
   · exact .inl fun cs k=>g _ _
   · exact .inr ⟨v,fun cs k=>by simp only[g],fun j=>by simp only[g]⟩
theorem Rc{op:Op}(h:pY op=1)(dst:Option Nat)(e:Env)(rec:Rec)(fm:Fm)(to:Tm)(ds:List Deferred)(hp:Ht)(nx:Nat):
 (∀cs k,∃m,(qa op dst).run e rec fm to ds hp nx cs k=.gm m)\/
 ∃v cells,wz v=some nx/\(∀cs k,(qa op dst).run e rec fm to ds hp nx cs k=k ⟨(ka dst).run to v,ds,hp.set nx (some (.cells cells gl.plain)),nx+1,cs⟩):=by
 have hn:∀c,op≠.call c:=fun c hc=>by subst hc;simp only[pY]at h;split at h<;>cases h
 have h1:=HO (by rw[h];decide) hn dst
 rw[h1]
 rcases JZ h e.T nx to hp.get with g|⟨v,cells,j,g⟩
 · exact .inl fun cs k=>g _ _
 · cases hb:Nat.ble e.low nx with
   |false=>exact .inl fun cs k=>⟨0,by simp only[g,tw,zz,hb,cond_false]⟩
   |true=>exact .inr ⟨v,cells,j,fun cs k=>by simp only[g,tw,zz,hb,cond_true]⟩
def uc(fl:Bool)(op:Op)(dst:Option Nat):Cl:=bif fl&&pz op then Ej op dst else qa op dst
theorem Re{op:Op}(h:kA fl op=0)(dst:Option Nat)(e:Env)(rec:Rec)(fm:Fm)(to:Tm)(ds:List Deferred)(hp:Ht)(nx:Nat):
 (∀cs k,∃m,(uc fl op dst).run e rec fm to ds hp nx cs k=.gm m)\/
 ∃v,(∀cs k,(uc fl op dst).run e rec fm to ds hp nx cs k=k ⟨(ka dst).run to v,ds,hp,nx,cs⟩)/\∀j,(uR fl op).run e.T hp.get nx to j=j v:=by
 rcases BS h with hb|⟨h0,hb⟩
 · have e1:uc fl op dst=Ej op dst:=by unfold uc;rw[hb];rfl
   have e2:uR fl op=Bp op:=by unfold uR;rw[hb];rfl
   rw[e1,e2]
   rcases BT hb e.T hp.get nx to with g|⟨v,g,_⟩
   · exact .inl fun cs k=>g _
   · exact .inr ⟨v,fun cs k=>g _,g⟩
 · have e1:uc fl op dst=qa op dst:=by unfold uc;rw[hb];rfl
   have e2:uR fl op=yv op:=by unfold uR;rw[hb];rfl
   rw[e1,e2]
   exact Tn h0 dst e rec fm to ds hp nx
theorem PU{op:Op}(h:kA fl op=1)(dst:Option Nat)(e:Env)(rec:Rec)(fm:Fm)(to:Tm)(ds:List Deferred)(hp:Ht)(nx:Nat):
 (∀cs k,∃m,(uc fl op dst).run e rec fm to ds hp nx cs k=.gm m)\/
 ∃v cells,wz v=some nx/\(∀cs k,(uc fl op dst).run e rec fm to ds hp nx cs k=k ⟨(ka dst).run to v,ds,hp.set nx (some (.cells cells gl.plain)),nx+1,cs⟩):=by
 obtain⟨h1,hb⟩:=C4 h
 have e1:uc fl op dst=qa op dst:=by unfold uc;rw[hb];rfl
 rw[e1]
 exact Rc h1 dst e rec fm to ds hp nx
def gw(all:List Oper)(o:Oper)(to:Tm):Option Bool:=match o.guard with
 |none=>some true
 |some (j,w)=>match kn all j with
  |some g=>some (mQ w (g.run to))
  |none=>none
theorem Rf(all:List Oper)(o:Oper)(e:Env)(rec:Rec)(fm:Fm)(to:Tm)(ds:List Deferred)(hp:Ht)(nx:Nat)(cs:List Nat)(k:St->R):
 (iH all o).run e rec fm to ds hp nx cs k=(match gw all o to with
   |some true=>(qa o.op o.dst).run e rec fm to ds hp nx cs k
   |some false=>k ⟨(ka o.dst).run to undef,ds,hp,nx,cs⟩
   |none=>.gm 0):=by
 obtain⟨dst,op,ty,pos,after,guard⟩:=o
 cases guard with
 |none=>rfl
 |some C=>
  obtain⟨j,w⟩:=C
  simp only[gw,iH]
  cases kn all j with
  |none=>rfl
  |some g=>
   simp only
   cases mQ w (g.run to)<;>rfl
theorem vV(all:List Oper)(o:Oper)(e:Env)(rec:Rec)(fm:Fm)(to:Tm)(ds:List Deferred)(hp:Ht)(nx:Nat)(cs:List Nat)(k:St->R):
 (sT fl all o).run e rec fm to ds hp nx cs k=(match gw all o to with
   |some true=>(uc fl o.op o.dst).run e rec fm to ds hp nx cs k
   |some false=>k ⟨(ka o.dst).run to undef,ds,hp,nx,cs⟩
   |none=>.gm 0):=by
 cases hb:(fl&&pz o.op)with
 |false=>
  have e1:sT fl all o=iH all o:=by unfold sT;rw[hb];rfl
  have e2:uc fl o.op o.dst=qa o.op o.dst:=by unfold uc;rw[hb];rfl
  rw[e1,e2];exact Rf all o e rec fm to ds hp nx cs k
 |true=>
  have e1:sT fl all o=Gx all o:=by unfold sT;rw[hb];rfl
  have e2:uc fl o.op o.dst=Ej o.op o.dst:=by unfold uc;rw[hb];rfl
  rw[e1,e2]
  clear hb e1 e2
  obtain⟨dst,op,ty,pos,after,guard⟩:=o
  cases guard with
  |none=>rfl
  |some C=>
   obtain⟨j,w⟩:=C
   simp only[gw,Gx]
   cases kn all j with
   |none=>rfl
   |some g=>
    simp only
    cases mQ w (g.run to)<;>rfl
theorem ON{o:Oper}(h:kA fl o.op≠2):kA fl o.op=0\/kA fl o.op=1:=by
 cases hb:(fl&&pz o.op)with
 |true=>exact .inl (by unfold kA;rw[hb];rfl)
 |false=>
  have e:kA fl o.op=pY o.op:=by unfold kA;rw[hb];rfl
  rw[e]at h⊢
  have:pY o.op=0\/pY o.op=1\/pY o.op=2:=by
   cases j:o.op<;>simp[pY]
   split<;>simp
  rcases this with h1|h1|h1
  · exact .inl h1
  · exact .inr h1
  · exact absurd h1 h
structure Rg(cls:Nat)(dst:Option Nat)(s s1:St):Prop where
 ds:s1.ds=s.ds
 step:∃v,s1.to=(ka dst).run s.to v/\((s1.hp=s.hp/\s1.nx=s.nx/\(cls=1->wz v=none))\/(cls=1/\wz v=some s.nx/\s1.nx=s.nx+1/\∃cells,s1.hp=s.hp.set s.nx (some (.cells cells gl.plain))))
theorem VC(all:List Oper){o:Oper}(h:kA fl o.op≠2)(e:Env)(rec:Rec)(fm:Fm)(s:St):
 (∀cs k,∃m,(sT fl all o).run e rec fm s.to s.ds s.hp s.nx cs k=.gm m)\/
 ∃s1,Rg (kA fl o.op) o.dst s s1/\∀cs k,(sT fl all o).run e rec fm s.to s.ds s.hp s.nx cs k=k (s1.at cs):=by
 cases hg:gw all o s.to with
 |none=>exact .inl fun cs k=>⟨0,by rw[vV,hg]⟩
 |some wn=>
  cases wn with
  |false=>
   refine .inr ⟨⟨(ka o.dst).run s.to undef,s.ds,s.hp,s.nx,[]⟩,⟨rfl,undef,rfl,.inl ⟨rfl,rfl,fun _=>rfl⟩⟩,fun cs k=>?_⟩
   rw[vV,hg];rfl
  |true=>
   have j:kA fl o.op=0\/kA fl o.op=1:=ON h
   rcases j with hc|hc
   · rcases Re hc o.dst e rec fm s.to s.ds s.hp s.nx with g|⟨v,g,_⟩
     · exact .inl fun cs k=>by rw[vV,hg];exact g cs k
     · refine .inr ⟨⟨(ka o.dst).run s.to v,s.ds,s.hp,s.nx,[]⟩,⟨rfl,v,rfl,.inl ⟨rfl,rfl,fun k=>by rw[hc]at k;cases k⟩⟩,fun cs k=>?_⟩
       rw[vV,hg];exact g cs k
   · rcases PU hc o.dst e rec fm s.to s.ds s.hp s.nx with g|⟨v,cells,C,g⟩
     · exact .inl fun cs k=>by rw[vV,hg];exact g cs k
     · refine .inr ⟨⟨(ka o.dst).run s.to v,s.ds,s.hp.set s.nx (some (.cells cells gl.plain)),s.nx+1,[]⟩,⟨rfl,v,rfl,.inr ⟨hc,C,rfl,cells,rfl⟩⟩,fun cs k=>?_⟩
       rw[vV,hg];exact g cs k
end
end
end Sw
namespace Sw
noncomputable section
open Go Go.RowKit
variable {fl:Bool}
def U8(fl:Bool)(o:Oper)(T:Ty)(hp:Ht)(n:Nat)(to:Tm):Prop:=∃v,(∀j,(uR fl o.op).run T hp.get n to j=j v)/\∀d,o.dst=some d->to.get d=v
def U9(o:Oper)(T:Ty)(hp:Ht)(to:Tm):Prop:=∃d m cells,o.dst=some d/\wz (to.get d)=some m/\hp.get m=some (.cells cells gl.plain)/\
 ∀C j,(xh o.op).run T hp.get m to C j=j (to.get d,[(m,some (.cells cells gl.plain))],1)
def Good(fl:Bool)(all:List Oper)(o:Oper)(T:Ty)(hp:Ht)(n:Nat)(to:Tm):Prop:=
 (gw all o to=some false/\∀d,o.dst=some d->to.get d=undef)\/(gw all o to=some true/\((kA fl o.op=0/\U8 fl o T hp n to)\/(kA fl o.op=1/\U9 o T hp to)))
theorem PV{op:Op}(h:pY op=0)(T:Ty)(hp:Hp)(n:Nat)(to:Tm):(∀j,∃m,(yv op).run T hp n to j=.gm m)\/∃v,∀j,(yv op).run T hp n to j=j v:=by
 rcases L6 op with⟨c,rfl⟩|hn
 · obtain⟨b,hb,hg⟩:=GJ h
   have h2:∀j,(yv (.call c)).run T hp n to j=bi b T hp n c.argTypes.toList (runs (sP c.args.toList) to) j (fun _=>.gm 0):=by
    intro j;simp only[yv,hb]
   rcases hg T hp n c.argTypes.toList (runs (sP c.args.toList) to)with g|⟨v,g⟩
   · exact .inl fun j=>by rw[h2];exact g _ _
   · exact .inr ⟨v,fun j=>by rw[h2,g]⟩
 · rw[C5 hn]
   rcases JY h hn T hp n to with g|⟨v,g⟩
   · exact .inl fun j=>g _ _
   · exact .inr ⟨v,fun j=>by simp only[g]⟩
theorem PW{op:Op}(h:kA fl op=0)(T:Ty)(hp:Hp)(n:Nat)(to:Tm):(∀j,∃m,(uR fl op).run T hp n to j=.gm m)\/∃v,∀j,(uR fl op).run T hp n to j=j v:=by
 rcases BS h with hb|⟨h0,hb⟩
 · have e2:uR fl op=Bp op:=by unfold uR;rw[hb];rfl
   rw[e2]
   rcases BT hb T hp n to with g|⟨v,g,_⟩
   · exact .inl g
   · exact .inr ⟨v,g⟩
 · have e2:uR fl op=yv op:=by unfold uR;rw[hb];rfl
   rw[e2];exact PV h0 T hp n to
theorem Rh{m:gl}(h:Cj m=true):m=gl.plain:=by
 obtain⟨ro,mu,base,unit⟩:=m
 simp only[Cj,Bool.and_eq_true]at h
 obtain⟨h1,h2,h3,h4⟩:=h
 cases ro<;>cases mu<;>first|(cases h1;done)|(cases h2;done)|skip
 rw[beq_eq h3,beq_eq h4];rfl
theorem C6(op:Op)(d:Option Nat)(T:Ty)(hp:Ht)(n:Nat)(to:Tm)(k:R):
 (Te fl op d).run T hp n to k=(uR fl op).run T hp.get n to (fun v=>match d with|some d=>(bif kY 8 v (to.get d)then k else .gm 0)|none=>k):=by
 cases d<;>rfl
theorem yz(op:Op)(d:Nat)(T:Ty)(hp:Ht)(n:Nat)(to:Tm)(k:R):
 (Tf op (some d)).run T hp n to k=(match wz (to.get d)with
   |some m=>(xh op).run T hp.get m to (fun _=>.gm 0) (fun f=>match f with
    |(v,jA,_)=>match jA,hp.get m with
     |[(_,some (.cells cs _))],some (.cells lv j)=>bif kY 8 v (to.get d)&&(ub (kY 8) cs lv&&Cj j)then k else .gm 0
     |_,_=>.gm 0)
   |none=>.gm 0):=rfl
theorem PX(o:Oper)(hc:kA fl o.op=0\/kA fl o.op=1)(T:Ty)(hp:Ht)(n:Nat)(to:Tm):
 (∀k,∃m,(wW fl o).run T hp n to k=.gm m)\/((∀k,(wW fl o).run T hp n to k=k)/\((kA fl o.op=0/\U8 fl o T hp n to)\/(kA fl o.op=1/\U9 o T hp to))):=by
 rcases hc with hc|hc
 · have e:wW fl o=Te fl o.op o.dst:=by unfold wW;rw[hc];rfl
   rw[e]
   rcases PW hc T hp.get n to with g|⟨v,g⟩
   · exact .inl fun k=>by rw[C6];exact g _
   · cases hd:o.dst with
     |none=>exact .inr ⟨fun k=>by rw[C6,g],.inl ⟨hc,v,g,fun d h=>by rw[hd]at h;cases h⟩⟩
     |some d=>
      cases I:kY 8 v (to.get d)with
      |false=>exact .inl fun k=>⟨0,by rw[C6,g];simp only[I,cond_false]⟩
      |true=>exact .inr ⟨fun k=>by rw[C6,g];simp only[I,cond_true],.inl ⟨hc,v,g,fun d' h=>by rw[hd]at h;cases h;exact(Bq 8 _ _ I).symm⟩⟩
 · have e:wW fl o=Tf o.op o.dst:=by unfold wW;rw[hc];rfl
   rw[e]
   cases hd:o.dst with
   |none=>exact .inl fun k=>⟨0,rfl⟩
   |some d=>
    cases hm:wz (to.get d)with
    |none=>exact .inl fun k=>⟨0,by rw[yz,hm]⟩
    |some m=>
     rcases JZ (C4 hc).1 T m to hp.get with g|⟨v,cells,I,g⟩
     · exact .inl fun k=>by rw[yz,hm];exact g _ _
     · cases C:hp.get m with
       |none=>exact .inl fun k=>⟨0,by rw[yz,hm];simp only[g,C]⟩
       |some ob=>
        cases ob<;>first|(refine .inl ?_;intro k;refine⟨0,?_⟩;rw[yz,hm];simp only[g,C];done)|skip
        rename_i lv J
        cases j:(kY 8 v (to.get d)&&(ub (kY 8) cells lv&&Cj J))with
        |false=>exact .inl fun k=>⟨0,by rw[yz,hm];simp only[g,C,j,cond_false]⟩
        |true=>
         refine .inr ⟨fun k=>by rw[yz,hm];simp only[g,C,j,cond_true],.inr ⟨hc,d,m,cells,hd,hm,?_,?_⟩⟩
         · rw[Bool.and_eq_true,Bool.and_eq_true]at j
           rw[C,s7 (Bq 8) _ _ j.2.1,Rh j.2.2]
         · rw[Bool.and_eq_true,Bool.and_eq_true]at j
           rw[<-Bq 8 _ _ j.1];exact g
theorem Cm(all:List Oper)(o:Oper)(T:Ty)(hp:Ht)(n:Nat)(to:Tm)(k:R):
 (Gy fl all o).run T hp n to k=(match gw all o to with
   |some true=>(wW fl o).run T hp n to k
   |some false=>(bif Ao o.dst to then k else .gm 0)
   |none=>.gm 0):=by
 unfold Gy gw
 cases o.guard with
 |none=>rfl
 |some C=>
  obtain⟨j,w⟩:=C
  simp only
  cases kn all j with
  |none=>rfl
  |some g=>
   simp only
   cases mQ w (g.run to)<;>rfl
theorem To(all:List Oper)(o:Oper)(hc:kA fl o.op=0\/kA fl o.op=1)(T:Ty)(hp:Ht)(n:Nat)(to:Tm):
 (∀k,∃m,(Gy fl all o).run T hp n to k=.gm m)\/((∀k,(Gy fl all o).run T hp n to k=k)/\Good fl all o T hp n to):=by
 cases hg:gw all o to with
 |none=>exact .inl fun k=>⟨0,by rw[Cm,hg]⟩
 |some wn=>
  cases wn with
  |false=>
   cases hu:Ao o.dst to with
   |false=>exact .inl fun k=>⟨0,by rw[Cm,hg];simp only[hu,cond_false]⟩
   |true=>
    refine .inr ⟨fun k=>by rw[Cm,hg];simp only[hu,cond_true],.inl ⟨hg,fun d hd=>?_⟩⟩
    rw[hd]at hu
    exact(Bq 8 _ _ hu).symm
  |true=>
   rcases PX o hc T hp n to with g|⟨g1,g2⟩
   · exact .inl fun k=>by rw[Cm,hg];exact g k
   · exact .inr ⟨fun k=>by rw[Cm,hg];exact g1 k,.inr ⟨hg,g2⟩⟩
end
end Sw
namespace Sw
noncomputable section
open Go Go.RowKit
section
variable {P:Program}{ng:Nat}{e:Env}{B0:Nat}{w0:World}{b:Frame}{g:Gm}{nx mA:Nat}{a:Act}{w:World}{to:Tm}{hp:Ht}{ops:Array Oper}{i:Nat}{o:Oper}
theorem Ext.low{g':Gm}{w':World}{fg:Nat}(h:Ext g nx w g' fg w')(k:mA<=nx):Ext g mA w g' fg w':=
 ⟨⟨h.ext.le,Nat.le_trans k h.ext.num,fun b hb=>(h.ext.new b hb).imp id (Nat.le_trans k)⟩,h.kept,h.held⟩
theorem Ext.Ri{g1 g2:Gm}{n I n2:Nat}{j o:World}(h:Ext g n w g1 I j)(k:Ext g1 n j g2 n2 o):Ext g n w g2 n2 o:=
 ⟨⟨Gm.le_trans h.ext.le k.ext.le,k.ext.num,fun b hb=>(k.ext.new b hb).elim (fun q=>h.ext.new b q) .inr⟩,h.kept.trans h.held k.kept,fun b rb ro e=>by
   rcases k.held b rb ro e with⟨C,J,q⟩|q
   · exact h.held C rb J q
   · exact .inr (Nat.le_trans h.kept.1 q)⟩
theorem kP.value{Q:pR->Prop}{run:K1->K2->R}{v:Value}(h:∀j I,kP Q (fun i:List Nat=>run (j i) (I i)) j I)(J:∀j,run j (fun _=>.gm 0)=j v):Q (v,[],0):=by
 classical
 let C:St:=⟨Tm.undef,[],.nil,0,[]⟩
 have:=h (fun _ u=>if u=v then .ok (0,C)else .gm 0) (fun _ _=>.gm 0)
 have e0:run (fun u=>if u=v then .ok (0,C)else .gm 0) (fun _=>.gm 0)=.ok (0,C):=by rw[J];simp
 rcases this with q|⟨u,o,U⟩|⟨f,o,_⟩
 · obtain⟨m,q⟩:=q [];simp only[e0]at q;cases q
 · have q:=o []
   simp only[e0]at q
   by_cases hu:u=v
   · subst hu;exact U
   · rw[if_neg hu]at q;cases q
 · have q:=o [];simp only[e0]at q;cases q
theorem kP.effect{Q:pR->Prop}{run:K1->K2->R}{f:pR}(h:∀o j,kP Q (fun i:List Nat=>run (o i) (j i)) o j)(hf:∀o j,run o j=j f):Q f:=by
 classical
 let I:St:=⟨Tm.undef,[],.nil,0,[]⟩
 have:=h (fun _ _=>.gm 0) (fun _ u=>if u=f then .ok (0,I)else .gm 0)
 have e0:run (fun _=>.gm 0) (fun u=>if u=f then .ok (0,I)else .gm 0)=.ok (0,I):=by rw[hf];simp
 rcases this with q|⟨u,C,J⟩|⟨u,C,J⟩
 · obtain⟨m,q⟩:=q [];simp only[e0]at q;cases q
 · have q:=C [];simp only[e0]at q;cases q
 · have q:=C []
   simp only[e0]at q
   by_cases hu:u=f
   · subst hu;exact J
   · rw[if_neg hu]at q;cases q
def Tp(fl:Bool)(P:Program)(B0:Nat)(w0:World)(b:Frame)(g:Gm)(mA:Nat)(hp:Ht)(nx:Nat)(to:Tm)(ops:Array Oper)(i:Nat)(o:Oper)(a:Act)(w:World):Prop:=
 ∃v' w' g',gu B0 w0 g' hp.get nx w'/\(∀d,o.dst=some d->fQ g' (to.get d) v')/\Ext g mA w g' nx w'/\
  (∀m,g'.gb m≠none->g.gb m≠none\/(kA fl o.op=1/\∃d,o.dst=some d/\wz (to.get d)=some m))/\
  ∀rest k cs,Steps P (lone (At b a (.inRegion ops (i::rest)::k)) cs w) (lone (At b (a.put o.dst v') (.inRegion ops rest::k)) cs w')
theorem GK(ok:mE P ng e){hp:Hp}(H:gu B0 w0 g hp nx w)(I:uX g to a.eval o.op.operands.toList)(n:Nat)(C:List Nat->K1)(j:List Nat->K2):
 kP (nF P B0 w0 g hp nx n w ((execOp a.eval o).run P w)) (fun i=>(xh o.op).run e.T hp n to (C i) (j i)) C j:=JP ok.T ok.cl H I C j
theorem X8{u v:Value}(h:∀j:K1,j u=j v):u=v:=by
 have:=h fun x=>.ok (0,⟨Tm.undef,[⟨.collected 0,#[x]⟩],.nil,0,[]⟩)
 simpa using this
theorem Rj{fl:Bool}(ok:mE P ng e)(H:gu B0 w0 g hp.get nx w)(ao:ops[i]?=some o)(ai:uX g to a.eval o.op.operands.toList)(aB:AM g ops to a o)(af:mA<=nx)
 (oF:Good fl ops.toList o e.T hp nx to) (hm:kA fl o.op=1->∀d m,o.dst=some d->wz (to.get d)=some m->g.gb m=none/\mA<=m/\m<nx):
 Tp fl P B0 w0 b g mA hp nx to ops i o a w:=by
 have ab:∀wn,gw ops.toList o to=some wn->Region.wanted o (yielded ops a.tmps)=wn:=by
  intro wn h
  cases hg:o.guard with
  |none=>
   simp only[gw,hg]at h
   cases h
   simp[Region.wanted,hg]
  |some aD=>
   obtain⟨j,w'⟩:=aD
   simp only[gw,hg]at h
   cases hj:ops[j]? with
   |none=>
    have:kn ops.toList j=none:=by simp[kn,qc,hj]
    rw[this]at h;cases h
   |some aE=>
    cases hd:aE.dst with
    |none=>
     have:kn ops.toList j=none:=by simp[kn,qc,hj,hd,BP]
     rw[this]at h;cases h
    |some d=>
     have:kn ops.toList j=some (aaj (.tmp d)):=by simp[kn,qc,hj,hd,BP]
     rw[this]at h
     have ay:=HK aB hg hj hd
     rw[ay]
     simp only[Option.some.injEq]at h
     exact h
 rcases oF with⟨g1,g2⟩|⟨g1,g2⟩
 · have hw:=ab _ g1
   refine⟨undef,w,g,H,fun d hd=>by rw[g2 d hd];exact fQ.undef g,Ext.low (Ext.refl _ _ _) af,fun m hm=>.inl hm,fun rest k cs=>.one (DD ao hw)⟩
 · have hw:=ab _ g1
   have an:qA o.op=true:=by
    cases J:o.op<;>first|rfl|skip
    exfalso
    rw[J]at g2
    have aC:∀c,kA fl (Op.defer c)=2:=fun _=>by unfold kA;cases fl<;>rfl
    rcases g2 with⟨q,_⟩|⟨q,_⟩<;>(rw[aC]at q;cases q)
   rcases g2 with⟨hc,v,ad,hd⟩|⟨hc,d,m,cells,hd,ah,U,aq⟩
   · have Q:nF P B0 w0 g hp.get nx nx w ((execOp a.eval o).run P w) (v,[],0):=by
      rcases BS hc with aa|⟨hc,aa⟩
      · have e2:uR fl o.op=Bp o.op:=by unfold uR;rw[aa];rfl
        rw[e2]at ad
        refine kP.effect (run:=fun C I=>(xh o.op).run e.T hp.get nx to C I) (fun C I=>GK ok H ai nx C I) (fun C I=>?_)
        rcases BT aa e.T hp.get nx to with g|⟨u,g,g'⟩
        · obtain⟨m,hm⟩:=g fun v=>.ok (0,⟨Tm.undef,[],.nil,0,[]⟩)
          rw[ad]at hm;cases hm
        · have:u=v:=X8 (fun C=>(g C).symm.trans (ad C))
          rw[g',this]
      have e2:uR fl o.op=yv o.op:=by unfold uR;rw[aa];rfl
      rw[e2]at ad
      rcases L6 o.op with⟨c,J⟩|av
      · obtain⟨ar,hb,hg⟩:=GJ (by rw[J]at hc;exact hc)
        have ak:gX g (runs (sP c.args.toList) to) (c.args.map a.eval).toList:=by
         rw[Array.toList_map]
         rw[J]at ai
         exact yx c.args.toList fun x hx=>ai x (by simp only[Op.operands,Call.operands];cases c.callee<;>simp[hx])
        have e1:(execOp a.eval o).run P w=(Go.builtin ar c.argTypes.toList.toArray o.type (c.args.map fun|.const _=>true|_=>false) (c.args.map a.eval).toList.toArray).run P w:=by
         simp only[execOp,J,resolve,hb];rfl
        rw[e1]
        refine kP.value (run:=fun C I=>bi ar e.T hp.get nx c.argTypes.toList (runs (sP c.args.toList) to) C I) (fun C I=>LU ok.T H ak o.type _ C I) (fun C=>?_)
        have:=ad C
        rw[J]at this
        simp only[yv,hb]at this
        exact this
      · refine kP.value (run:=fun C I=>(xh o.op).run e.T hp.get nx to C I) (fun C I=>GK ok H ai nx C I) (fun C=>?_)
        have:=ad C
        rw[C5 av]at this
        exact this
     obtain⟨g',v',w',E⟩:=Q nx (Nat.le_refl _) (Nat.le_refl _) (fun j hj=>by cases hj)
     have ag:∀b',g'.gb b'≠none->g.gb b'≠none:=fun b' hb=>by
      rcases E.new b' hb with h|h
      · exact h
      · have h2:b'<nx+0:=h.2
        omega
     refine⟨v',w',g',E.rel,fun d' h=>by rw[hd d' h];exact E.val,⟨⟨E.le,af,fun b' hb=>.inl (ag b' hb)⟩,E.keeps.kept E.size,E.held⟩,fun aj ae=>.inl (ag aj ae),fun rest k cs=>?_⟩
     exact .one (Eo ao hw (.inr an) E.run)
   · obtain⟨az,aF,aG⟩:=hm hc d m hd ah
     have aw:∀ms,hp.get m≠some (.group ms):=fun ms h=>by rw[U]at h;cases h
     have aA:=H.kill m aw
     have Q:nF P B0 w0 g (Hp.set hp.get m none) nx m w ((execOp a.eval o).run P w) (to.get d,[(m,some (.cells cells gl.plain))],1):=
      kP.effect (run:=fun C I=>(xh o.op).run e.T (Hp.set hp.get m none) m to C I) (fun C I=>GK ok aA ai m C I) (fun C I=>by
       rw[Rb (C4 hc).1 e.T m to (Hp.set hp.get m none) hp.get];exact aq C I)
     have al:g.room m=none:=by
      cases hr:g.room m with
      |none=>rfl
      |some x=>exact absurd az (H.room m x hr)
     obtain⟨g',v',w',E⟩:=Q nx (Nat.le_refl _) (by show m+1<=nx;omega) (fun j hj=>by
      have hj:j<1:=hj
      have:j=0:=by omega
      subst this
      exact⟨az,al,Hp.jH _ _ _⟩)
     have au:(Hp.set hp.get m none).tI [(m,some (.cells cells gl.plain))]=hp.get:=by
      funext x
      show Hp.set (Hp.set hp.get m none) m (some (.cells cells gl.plain)) x=_
      by_cases hx:x=m
      · subst hx;rw[Hp.jH,U]
      · rw[Hp.gP _ _ hx,Hp.gP _ _ hx]
     have R:=E.rel
     simp only at R
     rw[au]at R
     have hk:Kept g w w':=⟨E.size,fun rb jz ax=>E.keeps rb jz fun b' _ ro _=>ax b' ro⟩
     refine⟨v',w',g',R,fun d' h=>by rw[hd]at h;cases h;exact E.val,⟨⟨E.le,af,fun b' hb=>?_⟩,hk,E.held⟩,fun aj ae=>?_,fun rest k cs=>?_⟩
     · rcases E.new b' hb with h|h
       · exact .inl h
       · exact .inr (by omega)
     · rcases E.new aj ae with h|h
       · exact .inl h
       · have:aj=m:=by have h1:=h.1;have h2:aj<m+1:=h.2;omega
         subst this
         exact .inr ⟨hc,d,hd,ah⟩
     · exact .one (Eo ao hw (.inr an) E.run)
end
end
end Sw
namespace Sw
noncomputable section
open Go Go.RowKit
theorem Ar(s i x:Nat):has (put s i) x=(has s x||decide (i=x)):=by
 unfold has put
 have:Nat.testBit (Nat.lor s (2^i)) x=(Nat.testBit s x||Nat.testBit (2^i) x):=Nat.testBit_or ..
 rw[this,Nat.testBit_two_pow]
theorem Ex(s i:Nat):has (put s i) i=true:=by rw[Ar];simp
theorem HP{s i x:Nat}(h:i≠x):has (put s i) x=has s x:=by rw[Ar];simp[h]
theorem sB{s i x:Nat}(h:has s x=true):has (put s i) x=true:=by rw[Ar,h];rfl
theorem AN(x:Nat):has 0 x=false:=by simp[has]
theorem Fq{a b x:Nat}(h:sub a b=true)(hx:has a x=true):has b x=true:=by
 have h:=beq_eq h
 have:Nat.testBit (Nat.land a b) x=(Nat.testBit a x&&Nat.testBit b x):=Nat.testBit_and ..
 rw[h]at this
 unfold has at*
 rw[hx]at this
 simpa using this.symm
theorem Rk{a b:Nat}(h:∀x,has a x=true->has b x=true):sub a b=true:=by
 have:Nat.land a b=a:=by
  apply Nat.eq_of_testBit_eq
  intro x
  have e:Nat.testBit (Nat.land a b) x=(Nat.testBit a x&&Nat.testBit b x):=Nat.testBit_and ..
  rw[e]
  cases hx:Nat.testBit a x with
  |false=>rfl
  |true=>have:=h x hx;unfold has at this;rw[this];rfl
 unfold sub;rw[this];exact Nat.beq_refl a
theorem Ey{md:Region.Mode}{x:Nat}:∀{es:List Edge},has (Fg md es) x=true↔∃e∈es,Region.binds md e=true/\e.on=x
 |[]=>by simp[Fg,AN]
 |e::es=>by
  simp only[Fg]
  cases hb:Region.binds md e with
  |false=>simp[Ey (es:=es),hb]
  |true=>
   simp only[cond_true,Ar,Bool.or_eq_true,decide_eq_true_eq,Ey (es:=es),List.mem_cons]
   constructor
   · rintro(⟨j,h1,h2⟩|h)
     · exact⟨j,.inr h1,h2⟩
     · exact⟨e,.inl rfl,hb,h⟩
   · rintro ⟨j,rfl|h1,h2,h3⟩
     · exact .inr h3
     · exact .inl ⟨j,h1,h2,h3⟩
theorem I8{bm:List Nat}{x:Nat}:∀{es:List Edge},has (DW bm es) x=true->∃e∈es,Region.binds .any e=true/\(x=e.on\/has (xC e.on bm) x=true)
 |[],h=>by simp[DW,AN]at h
 |e::es,h=>by
  simp only[DW]at h
  cases hb:Region.binds .any e with
  |false=>
   rw[hb]at h
   obtain⟨j,h1,h2⟩:=I8 (es:=es) h
   exact⟨j,List.mem_cons_of_mem _ h1,h2⟩
  |true=>
   rw[hb]at h
   have:Nat.testBit (Nat.lor (xC e.on bm) (put (DW bm es) e.on)) x=(Nat.testBit (xC e.on bm) x||Nat.testBit (put (DW bm es) e.on) x):=Nat.testBit_or ..
   have h:Nat.testBit (Nat.lor (xC e.on bm) (put (DW bm es) e.on)) x=true:=h
   rw[this,Bool.or_eq_true]at h
   rcases h with h|h
   · exact⟨e,List.mem_cons_self ..,hb,.inr h⟩
   · have h:has (put (DW bm es) e.on) x=true:=h
     rw[Ar,Bool.or_eq_true]at h
     rcases h with h|h
     · obtain⟨j,h1,h2⟩:=I8 (es:=es) h
       exact⟨j,List.mem_cons_of_mem _ h1,h2⟩
     · exact⟨e,List.mem_cons_self ..,hb,.inl (by simpa using(of_decide_eq_true h).symm)⟩
def o9(all:List Oper)(i:Nat):List Edge:=match m_ i all with
 |some o=>o.after.toList
 |none=>[]
theorem xL{md:Region.Mode}{all:List Oper}{i x:Nat}:has (maskAt md all i) x=true↔∃e∈o9 all i,Region.binds md e=true/\e.on=x:=by
 unfold maskAt o9
 cases m_ i all with
 |none=>simp[AN]
 |some o=>exact Ey
theorem rO{n:Nat}{p:Nat->Bool}(h:(List.range n).all p=true){i:Nat}(hi:i<n):p i=true:=List.all_eq_true.1 h i (List.mem_range.2 hi)
variable {fl:Bool}
structure qS(fl:Bool)(all:List Oper)(bm:List Nat):Prop where
 W4:∀i k,i<all.length->k<all.length->i≠k->∀d,r6 all i=some d->r6 all k≠some d
 looks:∀k,k<all.length->∀t,t∈looksAt all k->∀i,i<all.length->r6 all i=some t->qv fl all i=2\/has (xC k bm) i=true
 bm:∀i,i<all.length->∀x,has (xC i bm) x=true->∃e∈o9 all i,Region.binds .any e=true/\(x=e.on\/has (xC e.on bm) x=true)
 back:∀i,i<all.length->∀e∈o9 all i,Region.binds .any e=true->e.on<i
theorem Rl{all:List Oper}{pl:S7}(h:Hl fl all pl=true):
 qS fl all pl.bm/\ux .text all (List.range all.length) 0=true/\ux .gc all pl.WB 0=true/\u_ fl all pl.bm pl.rT 0 none=true:=by
 unfold Hl at h
 simp only[Bool.and_eq_true]at h
 obtain⟨h1,h2,h3,h4,I,J,R⟩:=h
 refine⟨⟨?_,?_,?_,?_⟩,I,J,R⟩
 · intro i k hi hk jG d hd C
   have:=rO h1 hi
   rw[hd]at this
   have:=rO this hk
   rw[C]at this
   simp only[Bool.or_eq_true]at this
   rcases this with h|h
   · exact jG (beq_eq h)
   · rw[Nat.beq_refl]at h;cases h
 · intro k hk t U i hi hd
   have:=List.all_eq_true.1 (rO h2 hk) t U
   have:=rO this hi
   rw[hd]at this
   simp only[Bool.or_eq_true]at this
   rcases this with h|h|h
   · rw[Nat.beq_refl]at h;cases h
   · exact .inl (beq_eq h)
   · exact .inr h
 · intro i hi x hx
   have:=rO h3 hi
   unfold o9
   cases j:m_ i all with
   |none=>
    rw[qc]at j
    simp at j;omega
   |some o=>
    rw[j]at this
    exact I8 (Fq this hx)
 · intro i hi e he hb
   have:=rO h4 hi
   have hx:has (maskAt .any all i) e.on=true:=xL.2 ⟨e,he,hb,rfl⟩
   have:=Fq this hx
   unfold has at this
   rw[Nat.testBit_two_pow_sub_one]at this
   exact of_decide_eq_true this
theorem J1{md:Region.Mode}{e:Edge}(h:Region.binds .any e=true):Region.binds md e=true:=by
 unfold Region.binds at*
 split at h<;>first|(cases h;done)|(cases md<;>simp_all)
theorem PY{md:Region.Mode}{all:List Oper}{LX:Nat->Prop}:∀(is:List Nat) (L:Nat),ux md all is L=true->(∀i,has L i=true->LX i)->
 (∀i,i<all.length->LX i)\/∃i,i<all.length/\¬LX i/\∀e∈o9 all i,Region.binds md e=true->LX e.on:=by
 classical
 intro is
 induction is with
 |nil=>
  intro L h j
  exact .inl fun i hi=>j i (rO h hi)
 |cons i is ih=>
  intro L h j
  simp only[ux,Bool.and_eq_true]at h
  obtain⟨h0,h1,h2⟩:=h
  have hi:i<all.length:=Nat.le_of_ble_eq_true h0
  by_cases hl:LX i
  · refine ih (put L i) h2 fun k hk=>?_
    rw[Ar,Bool.or_eq_true]at hk
    rcases hk with hk|hk
    · exact j k hk
    · have:=of_decide_eq_true hk;subst this;exact hl
  · exact .inr ⟨i,hi,hl,fun e he hb=>j _ (Fq h1 (xL.2 ⟨e,he,hb,rfl⟩))⟩
end
end Sw
