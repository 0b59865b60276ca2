/- A part of the proof that the law returns true for every input that its row speaks of. No condition is added. -/
import Derived.Test.YtginbleelmnlpaaGreatDoorSwAC
namespace Sw
noncomputable section
open Go Go.RowKit
def calleeOf (P : Program) : Next → Option Frame
  | .enter f args => some (Frame.enter P f args .normal)
  | .round l f tmps assign body => some (Frame.round l f tmps assign body .normal)
  | _ => none
def NextLands (P : Program) (B0 : Nat) (w0 : World) (g : Gm) (nx : Nat) (nxt : Next) (w : World) (v : Value) (hp' : Ht) (nx' : Nat) : Prop :=
  ∃ v' w' g' fr0, HRel B0 w0 g' hp'.get nx' w' ∧ VRel g' v v' ∧ Ext g nx w g' nx' w' ∧ calleeOf P nxt = some fr0 ∧ ∀ c cs, Steps P (lone fr0 (c :: cs) w) (lone (c.finish v') cs w')
def NextSays (P : Program) (B0 : Nat) (w0 : World) (g : Gm) (nx : Nat) (s : Sem Next) (w : World) (run : List Nat → KC → R) : Prop :=
  ∀ k : KC, Plays (fun cs => run cs k) fun f' => Dead f' ∨ ∃ v hp' nx', (∀ cs, f' cs = k v hp' nx' cs) ∧ ∃ nxt, s.run P w = .ok nxt w ∧ NextLands P B0 w0 g nx nxt w v hp' nx'
section
variable {P : Program} {ng : Nat} {e : Env} {B0 : Nat} {w0 : World} {b : Frame} {nt : Nat} {g : Gm} {nx : Nat} {a : Act} {w : World} {to : Tm} {hp : Ht} {rec : Rec}
theorem NextSays.fail {s : Sem Next} {run : List Nat → KC → R} (h : ∀ cs k, run cs k = .need 0) : NextSays P B0 w0 g nx s w run := fun k => .dead fun cs => ⟨0, h cs k⟩
theorem NextSays.enter {f : FuncId} {args : Array Value} {s : Sem Next} {run : List Nat → KC → R} (h : CallSays P B0 w0 .normal g nx f args w run) (hs : s.run P w = .ok (.enter f args) w) : NextSays P B0 w0 g nx s w run := by
  intro k
  refine (h k).mono fun f' h => ?_
  rcases h with h | ⟨v, hp', nx', h, v', w', g', H, V, E, st⟩
  · exact .inl h
  · refine .inr ⟨v, hp', nx', h, _, hs, v', w', g', _, H, V, E, rfl, fun c cs => ?_⟩
    obtain ⟨fr, s1, m1, d1, k1, _, fn, q1, r1⟩ := st (c :: cs)
    exact s1.trans (.one (step_leave_returned ⟨m1, d1, k1, fn, q1, r1⟩))
theorem setParams_rel {g : Gm} {nt : Nat} (hn : nt ≤ 512) : ∀ (ps : List Tmp) (asg as' : List Value) (t t1 : Tm) (tmps : Array Value), TRel g nt t tmps → LRel g asg as' → ps.all (Nat.blt · nt) = true → setParams ps asg t = some t1 →
    as'.length = ps.length ∧ TRel g nt t1 ((ps.zip as').foldl (fun tmps (x : Tmp × Value) => tmps.setIfInBounds x.1 x.2) tmps)
  | [], [], as', t, t1, tmps, ht, hl, _, h => by
    cases h
    have := hl.1
    cases as' with
    | nil => exact ⟨rfl, ht⟩
    | cons => cases this
  | [], _ :: _, _, _, _, _, _, _, _, h => by cases h
  | _ :: _, [], _, _, _, _, _, _, _, h => by cases h
  | p :: ps, v :: asg, as', t, t1, tmps, ht, hl, hp, h => by
    cases as' with
    | nil => cases hl.1
    | cons v' as' =>
      rw [List.all_cons, Bool.and_eq_true] at hp
      simp only [setParams] at h
      have h1 : TRel g nt ((dstC (some p)).run t v) (tmps.setIfInBounds p v') := by
        have := TRel.put (a := ⟨tmps, []⟩) ht hn (d := some p) hp.1 hl.head
        exact this
      obtain ⟨k1, k2⟩ := setParams_rel hn ps asg as' _ t1 _ h1 hl.tail hp.2 h
      exact ⟨by simp [k1], k2⟩
theorem HRel.loopAt (H : HRel B0 w0 g hp.get nx w) {l : Nat} {r : ALoop Tm} (h : hp.get l = some (.loop r)) {rl ro : Nat} (hb : g.blk l = some (rl, ro)) :
    ∃ r', ro = 0 ∧ w.heap[rl]? = some (.loop r') ∧ B0 ≤ rl ∧ LoopRel g r r' := by
  obtain ⟨robj, a2, a3⟩ := (H.live _ _ h).2 _ _ hb
  cases robj <;> first | exact a3.elim | skip
  obtain ⟨rfl, k1, k2⟩ := a3
  exact ⟨_, rfl, a2, k1, k2⟩
theorem run_getLoop {rl : Nat} {r : Loop} (h : w.heap[rl]? = some (.loop r)) : (Instr.getLoop rl).run P w = .ok r w := by
  unfold Instr.getLoop
  rw [rBind (run_getObj h (fun _ _ _ h => by cases h))]; rfl
theorem loop_nc {r : Loop} : ∀ c e f, Obj.loop r ≠ .cells c e f := fun _ _ _ h => by cases h
theorem HRel.setLoop (H : HRel B0 w0 g hp.get nx w) {l rl : Nat} {r r1 : ALoop Tm} {r' : Loop} (h : hp.get l = some (.loop r)) (hb : g.blk l = some (rl, 0)) (hB : B0 ≤ rl) (hr : LoopRel g r1 r') :
    HRel B0 w0 g (hp.set l (some (.loop r1))).get nx (w.putObj rl (.loop r')) := by
  rw [Tr.get_set]
  exact H.setObj h hb (fun _ _ h => by cases h) (fun _ _ h => by cases h) rfl (.loop r') hB ⟨rfl, hB, hr⟩
theorem st_beginRound {rl : Nat} {r : Loop} {k : List Item} {cs : List Frame} (hr : b.roundOf = some rl) (h : w.heap[rl]? = some (.loop r)) (hs : r.state = .ready) :
    step P (lone (At b a (.beginRound :: k)) cs w) = .next (lone (At b a k) cs (w.putObj rl (.loop { r with state := .busy }))) := by
  have hrun : (Instr.beginRound rl).run P w = .ok () (w.putObj rl (.loop { r with state := .busy })) := by
    unfold Instr.beginRound
    rw [rBind (run_getLoop h), rBind (run_setObj _ h loop_nc), hs]; rfl
  refine step_lone_go ?_
  simp [stepG, stepG.exec, At, hr, stepG.apply, hrun, Frame.finish]
theorem run_endRound {rl : Nat} {r : Loop} (j : Option Code) (h : w.heap[rl]? = some (.loop r)) :
    (Instr.endRound rl j).run P w = .ok (.bool j.isNone) (w.putObj rl (.loop { r with state := if j.isNone then .ready else .done, pending := j })) := by
  unfold Instr.endRound
  rw [rBind (run_getLoop h), rBind (run_setObj _ h loop_nc)]; rfl
theorem exitTo_noBlock {id : Nat} : ∀ k, noBlock id k → exitTo id k = none
  | [], _ => rfl
  | x :: k, h => by
    cases x <;> first | exact exitTo_noBlock k h | skip
    rename_i i
    obtain ⟨h1, h2⟩ := h
    show (if i == id then some k else exitTo id k) = _
    rw [if_neg (by simpa using h1)]
    exact exitTo_noBlock k h2
theorem st_endRound {rl : Nat} {r : Loop} {o : Nat} {todo : List Item} {c : Frame} {cs : List Frame} (hr : b.roundOf = some rl) (hk : b.kind = .normal) (h : w.heap[rl]? = some (.loop r)) (he : Ends o [] todo) :
    step P (lone (At b a todo) (c :: cs) w) = .next (lone (c.finish (.bool (Nat.beq o 0))) cs (w.putObj rl (.loop { r with state := (bif Nat.beq o 0 then .ready else .done), pending := jumpOf o }))) := by
  match o, he with
  | 0, he =>
    have he : todo = [] := he
    subst he
    refine step_lone_go ?_
    have := run_endRound (P := P) none h
    simp [stepG, stepG.exec, At, hr, this, doReturn, hk, jumpOf]
  | 1, he =>
    obtain ⟨k1, rfl⟩ := he
    refine step_lone_go ?_
    have := run_endRound (P := P) (some .ret) h
    simp [stepG, stepG.exec, At, hr, this, doReturn, hk, jumpOf]
    exact ⟨rfl, rfl⟩
  | i + 2, he =>
    obtain ⟨k1, rfl, hn⟩ := he
    refine step_lone_go ?_
    have := run_endRound (P := P) (some (.exit i)) h
    have hx := exitTo_noBlock k1 hn
    simp [stepG, stepG.exec, At, hr, this, doReturn, hk, jumpOf, hx]
    exact ⟨rfl, rfl⟩
end
end
end Sw

namespace Sw
noncomputable section
open Go Go.RowKit
section
variable {P : Program} {ng : Nat} {e : Env} {B0 : Nat} {w0 : World} {b : Frame} {nt : Nat} {g : Gm} {nx : Nat} {a : Act} {w : World} {to : Tm} {hp : Ht} {rec : Rec}
theorem LoopRel.turn {r : ALoop Tm} {r' : Loop} (h : LoopRel g r r') (s : LoopState) (p : Option Code) : LoopRel g { r with state := s, pending := p } { r' with state := s, pending := p } := by
  obtain ⟨_, _, c⟩ := h
  exact ⟨rfl, rfl, c⟩
theorem LoopRel.turnState {r : ALoop Tm} {r' : Loop} (h : LoopRel g r r') (s : LoopState) : LoopRel g { r with state := s } { r' with state := s } := by
  obtain ⟨_, p, c⟩ := h
  exact ⟨rfl, p, c⟩
theorem run_yield {rl : Nat} {r : Loop} {asg : Array Value} (h : w.heap[rl]? = some (.loop r)) (hs : asg.size = r.params.size) :
    (Instr.yield rl asg).run P w = .ok (.round rl r.fn ((r.params.zip asg).foldl (fun tmps (x : Tmp × Value) => tmps.setIfInBounds x.1 x.2) r.tmps) r.assign r.body) w := by
  unfold Instr.yield
  rw [rBind (run_getLoop h)]
  simp [hs]
theorem roundF_says (ih : RecSays P ng B0 w0 rec) (hg : GlobOk g ng) (H : HRel B0 w0 g hp.get nx w) {l rl : Nat} (hl : g.blk l = some (rl, 0)) {asg : List Value} {as' : Array Value} (ha : LRel g asg as'.toList) :
    NextSays P B0 w0 g nx (Instr.yield rl as') w fun cs k => roundF e rec l asg hp nx cs k := by
  have fail : ∀ {s : Sem Next}, (∀ cs k, roundF e rec l asg hp nx cs k = .need 0) → NextSays P B0 w0 g nx s w fun cs k => roundF e rec l asg hp nx cs k := fun h => .fail h
  cases hr : hp.get l with
  | none => exact fail fun cs k => by simp only [roundF, hr]
  | some ob =>
    cases ob <;> first | (refine fail ?_; intro cs k; simp only [roundF, hr]; done) | skip
    rename_i r
    obtain ⟨r', _, hw, hB, L⟩ := H.loopAt hr hl
    cases hb : Nat.ble e.low l with
    | false => exact fail fun cs k => by simp only [roundF, hr, hb, cond_false]
    | true =>
      cases hs : setParams r.params asg r.tmps with
      | none => exact fail fun cs k => by simp only [roundF, hr, hb, cond_true, hs]
      | some t =>
        have L' := L
        obtain ⟨l1, l2, l3, l4, l5, l6, l7, l8, l9, l10, l11, l12⟩ := L'
        have lf : r.fn = r'.fn := l3
        obtain ⟨q1, q2⟩ := setParams_rel l9 r.params asg as'.toList r.tmps t r'.tmps l4 ha l12 hs
        intro k
        let tmps' := (r'.params.zip as').foldl (fun tmps (x : Tmp × Value) => tmps.setIfInBounds x.1 x.2) r'.tmps
        have hsz : as'.size = r'.params.size := by simpa [l5] using q1
        have q2 : TRel g r.nt t tmps' := by
          have e : tmps' = (r.params.zip as'.toList).foldl (fun tmps (x : Tmp × Value) => tmps.setIfInBounds x.1 x.2) r'.tmps := by
            simp only [tmps', ← Array.foldl_toList, Array.toList_zip, l5]
          rw [e]; exact q2
        let b0 : Frame := Frame.round rl r'.fn tmps' r'.assign r'.body .normal
        let a0 : Act := ⟨tmps', []⟩
        have S0 : SRel B0 w0 g r.nt ⟨t, [], hp, nx, []⟩ a0 w := ⟨H, q2, ⟨rfl, fun i d d' h => by simp at h⟩⟩
        have says := ih ⟨r.fn, r.nt, some l⟩ r.assign ⟨t, [], hp, nx, []⟩ b0 a0 w g lf.symm ⟨rl, rfl, hl⟩ hg l9 l10 S0
        refine Plays.map (f2 := fun cs => roundF e rec l asg hp nx cs k) says (fun p m h => ?_) fun pre h => ?_
        · have h : rec ⟨r.fn, r.nt, some l⟩ r.assign ⟨t, [], hp, nx, p⟩ = .need m := h
          simp [roundF, hr, hb, hs, h]
        · rcases h with h | ⟨o, s1, h, La⟩
          · refine .dead fun cs => ?_
            obtain ⟨m, h⟩ := h cs
            have h : rec ⟨r.fn, r.nt, some l⟩ r.assign ⟨t, [], hp, nx, pre ++ cs⟩ = .need m := h
            exact ⟨m, by simp [roundF, hr, hb, hs, h]⟩
          · have h : ∀ cs, rec ⟨r.fn, r.nt, some l⟩ r.assign ⟨t, [], hp, nx, pre ++ cs⟩ = .ok (o, s1.at cs) := h
            cases o with
            | succ o => exact .dead fun cs => ⟨0, by simp [roundF, hr, hb, hs, h, St.at]; rfl⟩
            | zero =>
            obtain ⟨a1, w1, g1, S1, E1, st1⟩ := La
            have hl1 := E1.ext.le.1 _ _ hl
            cases hr1 : s1.hp.get l with
            | none => exact .dead fun cs => ⟨0, by simp [roundF, hr, hb, hs, h, St.at, hr1]⟩
            | some ob =>
              cases ob <;> first | (refine .dead ?_; intro cs; refine ⟨0, ?_⟩; simp [roundF, hr, hb, hs, h, St.at, hr1]; done) | skip
              rename_i r1
              obtain ⟨r1', _, hw1, hB1, L1⟩ := S1.heap.loopAt hr1 hl1
              cases hst : r1.state <;> first | (refine .dead ?_; intro cs; refine ⟨0, ?_⟩; simp [roundF, hr, hb, hs, h, St.at, hr1, hst]; done) | skip
              have hst' : r1'.state = .ready := by rw [← L1.1, hst]
              have H2 := S1.heap.setLoop hr1 hl1 hB1 (L1.turnState .busy)
              have E2 : Ext g1 s1.nx w1 g1 s1.nx (w1.putObj rl (.loop { r1' with state := .busy })) := Ext.putObj hl1 _
              have S2 : SRel B0 w0 g1 r.nt ⟨s1.to, s1.ds, s1.hp.set l (some (.loop { r1 with state := .busy })), s1.nx, []⟩ a1 (w1.putObj rl (.loop { r1' with state := .busy })) := ⟨H2, S1.act⟩
              have says2 := ih ⟨r.fn, r.nt, some l⟩ r.body _ b0 a1 _ g1 lf.symm ⟨rl, rfl, hl1⟩ (hg.mono E1.ext.le) l9 (l11.mono E1.ext.le) S2
              have h3 : (fun rest => roundF e rec l asg hp nx (pre ++ rest) k) = fun cs => (match rec ⟨r.fn, r.nt, some l⟩ r.body ⟨s1.to, s1.ds, s1.hp.set l (some (.loop { r1 with state := .busy })), s1.nx, cs⟩ with
                | .ok (o2, ⟨_, ds, hp, nx, cs⟩) => (match hp.get l, ds with
                  | some (.loop r2), [] => k (.bool (Nat.beq o2 0)) (hp.set l (some (.loop { r2 with state := (bif Nat.beq o2 0 then .ready else .done), pending := jumpOf o2 }))) nx cs
                  | _, _ => .need 0)
                | .need m => .need m) := by
                funext cs
                simp [roundF, hr, hb, hs, h, St.at, hr1, hst] <;> rfl
              rw [h3]
              refine Plays.map says2 (fun p m h => ?_) fun pre2 h => ?_
              · have h : rec ⟨r.fn, r.nt, some l⟩ r.body ⟨s1.to, s1.ds, s1.hp.set l (some (.loop { r1 with state := .busy })), s1.nx, p⟩ = .need m := h
                simp only [h]
              · refine .here ?_
                rcases h with h | ⟨o2, s3, h, Lb⟩
                · refine .inl fun cs => ?_
                  obtain ⟨m, h⟩ := h cs
                  have h : rec ⟨r.fn, r.nt, some l⟩ r.body ⟨s1.to, s1.ds, s1.hp.set l (some (.loop { r1 with state := .busy })), s1.nx, pre2 ++ cs⟩ = .need m := h
                  exact ⟨m, by simp only [h]⟩
                · have h : ∀ cs, rec ⟨r.fn, r.nt, some l⟩ r.body ⟨s1.to, s1.ds, s1.hp.set l (some (.loop { r1 with state := .busy })), s1.nx, pre2 ++ cs⟩ = .ok (o2, s3.at cs) := h
                  obtain ⟨a3, w3, g3, S3, E3, st3⟩ := Lb
                  have E3 : Ext g1 s1.nx (w1.putObj rl (.loop { r1' with state := .busy })) g3 s3.nx w3 := E3
                  have hl3 := E3.ext.le.1 _ _ hl1
                  cases hr3 : s3.hp.get l with
                  | none => exact .inl fun cs => ⟨0, by simp only [h, St.at, hr3]⟩
                  | some ob =>
                    cases ob <;> first | (refine .inl ?_; intro cs; refine ⟨0, ?_⟩; simp only [h, St.at, hr3]; done) | skip
                    rename_i r3
                    obtain ⟨r3', _, hw3, hB3, L3⟩ := S3.heap.loopAt hr3 hl3
                    cases hds : s3.ds with
                    | cons => exact .inl fun cs => ⟨0, by simp only [h, St.at, hr3, hds]⟩
                    | nil =>
                      refine .inr ⟨.bool (Nat.beq o2 0), s3.hp.set l (some (.loop { r3 with state := (bif Nat.beq o2 0 then .ready else .done), pending := jumpOf o2 })), s3.nx, fun cs => by simp only [h, St.at, hr3, hds], _, run_yield hw hsz, ?_⟩
                      have H4 := S3.heap.setLoop hr3 hl3 hB3 (L3.turn (bif Nat.beq o2 0 then .ready else .done) (jumpOf o2))
                      refine ⟨.bool (Nat.beq o2 0), _, g3, b0, H4, .bool _, (E1.trans (E2.trans E3)).trans (Ext.putObj hl3 _), rfl, fun c cs => ?_⟩
                      obtain ⟨todo1, en1, t1⟩ := st1 [.beginRound, .code r'.body] (c :: cs)
                      have en1 : todo1 = [.beginRound, .code r'.body] := en1
                      subst en1
                      obtain ⟨todo3, en3, t3⟩ := st3 [] (c :: cs)
                      have t1 : Steps P (lone b0 (c :: cs) w) (lone (At b0 a1 [.beginRound, .code r'.body]) (c :: cs) w1) := by rw [l6] at t1; exact t1
                      rw [l7] at t3
                      exact (t1.trans (.one (st_beginRound rfl hw1 hst'))).trans (t3.trans (.one (st_endRound rfl rfl hw3 en3)))
end
end
end Sw

namespace Sw
noncomputable section
open Go Go.RowKit
section
variable {P : Program} {ng : Nat} {e : Env} {B0 : Nat} {w0 : World} {b : Frame} {nt : Nat} {g : Gm} {nx : Nat} {a : Act} {w : World} {to : Tm} {ds : List Deferred} {hp : Ht} {rec : Rec} {ops : Array Oper} {i : Nat} {o : Oper}
theorem enterable (ok : EnvOk P ng e) (kok : KOk P ng B0 w0 e) {f : FuncId} (h : e.K f ≠ none ∨ e.F f ≠ none) (args : Array Value) : (callFunc f args).run P w = .ok (.enter f args) w := by
  cases hk : e.K f with
  | some kk =>
    obtain ⟨⟨fn, c, h1, h2, h3⟩, _⟩ := kok f kk hk
    exact run_callFunc h1 h2 h3 args
  | none =>
    cases hf : e.F f with
    | some fi =>
      obtain ⟨fn, f1, f2, f3, f4, f5, _⟩ := ok.F f fi hf
      exact run_callFunc f1 f2 f5 args
    | none => rcases h with h | h <;> exact absurd (by assumption) h
theorem enterF_next (ok : EnvOk P ng e) (kok : KOk P ng B0 w0 e) (ih : RecSays P ng B0 w0 rec) (H : HRel B0 w0 g hp.get nx w) (hg : GlobOk g ng) {f : FuncId} {l : List Value} {args : Array Value} (hl : LRel g l args.toList) {s : Sem Next}
    (hs : s.run P w = (callFunc f args).run P w) : NextSays P B0 w0 g nx s w fun cs k => enterF e rec f l hp nx cs k := by
  by_cases h : e.K f ≠ none ∨ e.F f ≠ none
  · exact NextSays.enter (enterF_says ok kok ih H hg hl) (hs.trans (enterable ok kok h args))
  · have h1 : e.K f = none := by cases hk : e.K f with | none => rfl | some => exact absurd (.inl (by rw [hk]; simp)) h
    have h2 : e.F f = none := by cases hk : e.F f with | none => rfl | some => exact absurd (.inr (by rw [hk]; simp)) h
    exact .fail fun cs k => by simp only [enterF, enterN, h1, h2]
def callSem (f : Value) (args : Array Value) : Sem Next := do let d ← Deferred.ofValue f args; invoke d.target d.args
theorem callV_next (ok : EnvOk P ng e) (kok : KOk P ng B0 w0 e) (ih : RecSays P ng B0 w0 rec) (H : HRel B0 w0 g hp.get nx w) (hg : GlobOk g ng) {f f' : Value} (hf : VRel g f f') {l : List Value} {args : Array Value} (hl : LRel g l args.toList) :
    NextSays P B0 w0 g nx (callSem f' args) w fun cs k => callV e rec f l hp nx cs k := by
  cases hf with
  | @func f x x' y y' hx hy kx ky =>
    refine enterF_next ok kok ih H hg (f := f) (l := x.toList ++ l ++ y.toList) (args := x' ++ args ++ y') ?_ rfl
    rw [Array.toList_append, Array.toList_append]
    exact ((ARel.toList ⟨hx, kx⟩).append hl).append (ARel.toList ⟨hy, ky⟩)
  | @yieldFn l0 rl h =>
    have := roundF_says (e := e) ih hg H h hl
    have e1 : callSem (.func (.yield rl) #[] #[]) args = Instr.yield rl args := by
      show Instr.yield rl (#[] ++ args) = _
      simp
    rw [e1]; exact this
  | _ => exact .fail fun cs k => rfl
theorem callM_next (ok : EnvOk P ng e) (kok : KOk P ng B0 w0 e) (ih : RecSays P ng B0 w0 rec) (H : HRel B0 w0 g hp.get nx w) (hg : GlobOk g ng) {r r' : Value} (hr : VRel g r r') (name : String) {l : List Value} {args : Array Value} (hl : LRel g l args.toList) :
    NextSays P B0 w0 g nx (invoke (.fn (.method name) #[]) (#[r'] ++ args)) w fun cs k => callM e rec r name l hp nx cs k := by
  cases hr with
  | @iface t v v' hv =>
    cases hm : e.M t name with
    | none => exact .fail fun cs k => by simp only [callM, hm]
    | some f =>
      have h0 : (fun cs (k : KC) => callM e rec (.iface t v) name l hp nx cs k) = fun cs k => enterF e rec f (v :: l) hp nx cs k := by funext cs k; simp only [callM, hm]
      rw [h0]
      refine enterF_next ok kok ih H hg (f := f) (l := v :: l) (args := #[v'] ++ args) ?_ ?_
      · rw [Array.toList_append]; exact LRel.cons hv hl
      · have e1 : (#[Value.iface t v'] ++ args)[0]? = some (.iface t v') := by rw [Array.getElem?_append_left (by simp)]; rfl
        have e2 : (#[Value.iface t v'] ++ args).extract 1 (#[Value.iface t v'] ++ args).size = args := by
          apply Array.toList_inj.1; simp
        have h1 : (method (P.types.size + Made.depth) t v' name).run P w = .ok (f, v') w := ok.M t name f hm v' w
        unfold invoke
        simp only [e1, e2]
        unfold callMethod
        have h2 : (program : Sem Program).run P w = .ok P w := rfl
        simp only
        rw [rBind h2, rBind h1]
  | _ => exact .fail fun cs k => rfl
theorem st_opEnter {nxt : Next} {fr0 : Frame} {k : List Item} {cs : List Frame} {rest : List Nat} (ho : ops[i]? = some o) (hw : Region.wanted o (yielded ops a.tmps) = true) (hr : b.roundOf = none ∨ notDefer o.op = true)
    (h : (execOp a.eval o).run P w = .ok nxt w) (hc : calleeOf P nxt = some fr0) :
    step P (lone (At b a (.inRegion ops (i :: rest) :: k)) cs w) = .next (lone fr0 (At b a (.inRegion ops (i :: rest) :: k) :: cs) w) := by
  refine step_lone_go ?_
  rw [sg_op ho hw hr]
  cases nxt <;> first | (cases hc; done) | skip
  · cases hc; simp [stepG.apply, h, At]
  · cases hc; simp [stepG.apply, h, At]
theorem NextSays.op (hd : DLRel g ds a.defers) (ho : ops[i]? = some o) (hw : Region.wanted o (yielded ops a.tmps) = true) (hr : b.roundOf = none ∨ notDefer o.op = true) {s : Sem Next} (hs : (execOp a.eval o).run P w = s.run P w)
    {run : List Nat → KC → R} (h : NextSays P B0 w0 g nx s w run) :
    OpSays P B0 w0 b g to nx ops i o.dst a w fun cs k => run cs (fun v hp nx cs => k ⟨(dstC o.dst).run to v, ds, hp, nx, cs⟩) := by
  intro k
  refine (h (fun v hp nx cs => k ⟨(dstC o.dst).run to v, ds, hp, nx, cs⟩)).mono fun f' h => ?_
  rcases h with h | ⟨v, hp', nx', h, nxt, h1, v', w', g', fr0, H', V', E', hc, st⟩
  · exact .inl h
  · refine .inr ⟨v, ds, hp', nx', h, v', a.defers, w', g', H', V', hd.mono E'.ext.le, E', fun rest k cs => ?_⟩
    have hfin := At.finish b a ops i rest k v'
    rw [ho] at hfin
    have hfin : (At b a (.inRegion ops (i :: rest) :: k)).finish v' = At b (a.put o.dst v') (.inRegion ops rest :: k) := hfin
    have := (Steps.one (st_opEnter (k := k) (cs := cs) (rest := rest) ho hw hr (hs.trans h1) hc)).trans (st _ _)
    rw [hfin] at this
    exact this
theorem call_op (ok : EnvOk P ng e) (kok : KOk P ng B0 w0 e) (ih : RecSays P ng B0 w0 rec) (H : HRel B0 w0 g hp.get nx w) (hg : GlobOk g ng) (hd : DLRel g ds a.defers) (ho : ops[i]? = some o) (hw : Region.wanted o (yielded ops a.tmps) = true)
    {c : Call} (hop : o.op = .call c) (hρ : ORels g to a.eval o.op.operands.toList) (fm : Fm) :
    OpSays P B0 w0 b g to nx ops i o.dst a w fun cs k => (clOp o.op o.dst).run e rec fm to ds hp nx cs k := by
  have hr : b.roundOf = none ∨ notDefer o.op = true := .inr (by rw [hop]; rfl)
  rw [hop] at hρ
  have hargs : LRel g (runs (opds c.args.toList) to) (c.args.map a.eval).toList := by
    rw [Array.toList_map]
    exact opds_rel c.args.toList fun x hx => hρ x (by simp only [Op.operands, Call.operands]; cases c.callee <;> simp [hx])
  rw [hop]
  cases hc : c.callee with
  | value f =>
    have hf : VRel g ((opd f).run to) (a.eval f) := hρ f (by simp [Op.operands, Call.operands, hc])
    have h0 : (fun (cs : List Nat) (k : St → R) => (clOp (.call c) o.dst).run e rec fm to ds hp nx cs k) = fun cs k => callV e rec ((opd f).run to) (runs (opds c.args.toList) to) hp nx cs (fun v hp nx cs => k ⟨(dstC o.dst).run to v, ds, hp, nx, cs⟩) := by
      funext cs k; simp only [clOp, hc]; rfl
    rw [h0]
    refine NextSays.op hd ho hw hr (s := callSem (a.eval f) (c.args.map a.eval)) ?_ (callV_next ok kok ih H hg hf hargs)
    simp only [execOp, hop, resolve, hc]; rfl
  | invoke r m =>
    have hf : VRel g ((opd r).run to) (a.eval r) := hρ r (by simp [Op.operands, Call.operands, hc])
    have h0 : (fun (cs : List Nat) (k : St → R) => (clOp (.call c) o.dst).run e rec fm to ds hp nx cs k) = fun cs k => callM e rec ((opd r).run to) m (runs (opds c.args.toList) to) hp nx cs (fun v hp nx cs => k ⟨(dstC o.dst).run to v, ds, hp, nx, cs⟩) := by
      funext cs k; simp only [clOp, hc]; rfl
    rw [h0]
    refine NextSays.op hd ho hw hr (s := invoke (.fn (.method m) #[]) (#[a.eval r] ++ c.args.map a.eval)) ?_ (callM_next ok kok ih H hg hf m hargs)
    simp only [execOp, hop, resolve, hc]; rfl
  | builtin bn =>
    have h0 : (fun (cs : List Nat) (k : St → R) => (clOp (.call c) o.dst).run e rec fm to ds hp nx cs k) = fun cs k => bi bn e.T hp.get nx c.argTypes.toList (runs (opds c.args.toList) to) (fun v => k ⟨(dstC o.dst).run to v, ds, hp, nx, cs⟩) (keOf (dstC o.dst).run e.low to ds hp nx cs k) := by
      funext cs k; simp only [clOp, hc]; rfl
    rw [h0]
    refine Goes.says (run := fun kv ke => bi bn e.T hp.get nx c.argTypes.toList (runs (opds c.args.toList) to) kv ke) H hd ho hw hr (fun kv ke => ?_)
    have := bi_sound (n := nx) ok.T H (b := bn) (ts := c.argTypes.toList) hargs o.type (c.args.map fun | .const _ => true | _ => false) kv ke
    have e1 : (execOp a.eval o).run P w = (Go.builtin bn c.argTypes.toList.toArray o.type (c.args.map fun | .const _ => true | _ => false) (c.args.map a.eval).toList.toArray).run P w := by
      simp only [execOp, hop, resolve, hc]; rfl
    rw [e1]; exact this
end
end
end Sw

namespace Sw
noncomputable section
open Go Go.RowKit
section
variable {P : Program} {ng : Nat} {e : Env} {B0 : Nat} {w0 : World} {b : Frame} {nt : Nat} {g : Gm} {nx : Nat} {a : Act} {w : World} {to : Tm} {ds : List Deferred} {hp : Ht} {rec : Rec} {ops : Array Oper} {i : Nat} {o : Oper} {rn : Option Nat}
theorem OpSays.fail {dst : Option Tmp} {run : List Nat → (St → R) → R} (h : ∀ cs k, run cs k = .need 0) : OpSays P B0 w0 b g to nx ops i dst a w run := fun k => .dead fun cs => ⟨0, h cs k⟩
theorem st_opDefer {d : Deferred} {k : List Item} {cs : List Frame} {rest : List Nat} (ho : ops[i]? = some o) (hw : Region.wanted o (yielded ops a.tmps) = true) (hr : b.roundOf = none)
    (h : (execOp a.eval o).run P w = .ok (.defer d) w) :
    step P (lone (At b a (.inRegion ops (i :: rest) :: k)) cs w) = .next (lone (At b ({ a with defers := d :: a.defers }.put o.dst undef) (.inRegion ops rest :: k)) cs w) := by
  refine step_lone_go ?_
  rw [sg_op ho hw (.inl hr)]
  have hfin := At.finish b { a with defers := d :: a.defers } ops i rest k undef
  rw [ho] at hfin
  have hfin : (At b { a with defers := d :: a.defers } (.inRegion ops (i :: rest) :: k)).finish undef = At b ({ a with defers := d :: a.defers }.put o.dst undef) (.inRegion ops rest :: k) := hfin
  rw [← hfin]
  simp [stepG.apply, h, At]
theorem defer_op (hg : RndOk g b rn) (H : HRel B0 w0 g hp.get nx w) (hd : DLRel g ds a.defers) (ho : ops[i]? = some o) (hw : Region.wanted o (yielded ops a.tmps) = true)
    {c : Call} (hop : o.op = .defer c) (hρ : ORels g to a.eval o.op.operands.toList) (f : FuncId) (nt : Nat) :
    OpSays P B0 w0 b g to nx ops i o.dst a w fun cs k => (clOp o.op o.dst).run e rec ⟨f, nt, rn⟩ to ds hp nx cs k := by
  rw [hop] at hρ
  rw [hop]
  have h0 : (fun (cs : List Nat) (k : St → R) => (clOp (.defer c) o.dst).run e rec ⟨f, nt, rn⟩ to ds hp nx cs k) = fun cs k => (match evDefer c ⟨f, nt, rn⟩ to with
    | some x => k ⟨(dstC o.dst).run to undef, x :: ds, hp, nx, cs⟩
    | none => .need 0) := by funext cs k; rfl
  rw [h0]
  cases rn with
  | some l => exact .fail fun cs k => by simp [evDefer]
  | none =>
  have hg : b.roundOf = none := hg
  cases hc : c.callee with
  | invoke => exact .fail fun cs k => by simp [evDefer, hc]
  | builtin => exact .fail fun cs k => by simp [evDefer, hc]
  | value fv =>
    have hargs : LRel g (runs (opds c.args.toList) to) (c.args.map a.eval).toList := by
      rw [Array.toList_map]
      exact opds_rel c.args.toList fun x hx => hρ x (by simp only [Op.operands, Call.operands]; cases c.callee <;> simp [hx])
    have hf : VRel g ((opd fv).run to) (a.eval fv) := hρ fv (by simp [Op.operands, Call.operands, hc])
    generalize hv : (opd fv).run to = v at hf
    generalize hv' : a.eval fv = v' at hf
    cases hf with
    | @func ff x x' y y' hx hy kx ky =>
      intro k
      refine .here (.inr ⟨undef, ⟨.fn (.func ff) y, (x.toList ++ runs (opds c.args.toList) to).toArray⟩ :: ds, hp, nx, fun cs => by simp [evDefer, hc, hv], undef, ⟨.fn (.func ff) y', x' ++ c.args.map a.eval⟩ :: a.defers, w, g, H, VRel.undef g, ?_, Ext.refl _ _ _, fun rest k cs => ?_⟩)
      · have hd1 : DRel g ⟨.fn (.func ff) y, (x.toList ++ runs (opds c.args.toList) to).toArray⟩ ⟨.fn (.func ff) y', x' ++ c.args.map a.eval⟩ := by
          refine .fn ⟨hy, ky⟩ ?_
          have := (LRel.append (ARel.toList ⟨hx, kx⟩) hargs).toArray
          have e : (x'.toList ++ (c.args.map a.eval).toList).toArray = x' ++ c.args.map a.eval := by apply Array.toList_inj.1; simp
          rw [e] at this; exact this
        refine ⟨by simp [hd.1], fun j d d' e e' => ?_⟩
        cases j with
        | zero => simp at e e'; subst e; subst e'; exact hd1
        | succ j => simp at e e'; exact hd.2 j d d' e e'
      · refine .one (st_opDefer ho hw hg ?_)
        simp only [execOp, hop, resolve, hc, hv']; rfl
    | _ => exact .fail fun cs k => by simp [evDefer, hc, hv]
end
end
end Sw

namespace Sw
noncomputable section
open Go Go.RowKit
theorem ERel.cons_inv {g : Gm} {e : MapEntry} {x y : List MapEntry} (h : ERel g (e :: x) y) : ∃ e' x', y = e' :: x' ∧ (VRel g e.key e'.key ∧ VRel g e.val e'.val ∧ e.born = e'.born) ∧ ERel g x x' := by
  cases y with
  | nil => cases h.1
  | cons e' x' => exact ⟨e', x', rfl, h.2 0 e e' rfl rfl, by have := h.1; simpa using this, fun i u u' a b => h.2 (i + 1) u u' (by simpa using a) (by simpa using b)⟩
theorem ERel.nil_inv {g : Gm} {y : List MapEntry} (h : ERel g [] y) : y = [] := by have := h.1; cases y <;> first | rfl | cases this
theorem ERel.append {g : Gm} {x x' y y' : List MapEntry} (h : ERel g x x') (k : ERel g y y') : ERel g (x ++ y) (x' ++ y') := by
  induction x generalizing x' with
  | nil => cases h.nil_inv; exact k
  | cons e x ih =>
    obtain ⟨e', x1, rfl, h1, h2⟩ := h.cons_inv
    exact ERel.cons h1 (ih h2)
theorem hasN_contains (n : Nat) : ∀ l : List Nat, hasN n l = l.contains n
  | [] => rfl
  | x :: xs => by
    simp only [hasN, List.contains_cons, hasN_contains n xs]
    congr 1
    cases h : Nat.beq x n with
    | true => have := Nat.eq_of_beq_eq_true h; subst this; simp
    | false =>
      have : ¬ n = x := fun e => by subst e; simp at h
      simp [this]
theorem leftE_rel {g : Gm} (seen : List Nat) (since : Nat) (old : Bool) : ∀ (es es' : List MapEntry), ERel g es es' →
    ERel g (leftE seen since old es) ((es'.filter fun e => !seen.contains e.born).filter fun e => if old then decide (e.born < since) else decide (since ≤ e.born))
  | [], es', h => by cases h.nil_inv; exact ERel.nil
  | e :: es, es', h => by
    obtain ⟨e', x1, rfl, h1, h2⟩ := h.cons_inv
    have ih := leftE_rel seen since old es x1 h2
    simp only [leftE, hasN_contains, h1.2.2]
    cases hc : seen.contains e'.born with
    | true =>
      have : ¬ e'.born ∉ seen := by simpa using hc
      simp only [cond_true]
      rw [List.filter_cons_of_neg (by simpa using hc)]
      exact ih
    | false =>
      simp only [cond_false]
      rw [List.filter_cons_of_pos (by simpa using hc)]
      have hb : (bif Nat.blt e'.born since then old else !old) = (if old then decide (e'.born < since) else decide (since ≤ e'.born)) := by
        cases hlt : Nat.blt e'.born since with
        | true =>
          have : e'.born < since := Nat.le_of_ble_eq_true hlt
          cases old <;> simp <;> omega
        | false =>
          have : ¬ e'.born < since := fun k => by
            have h2 : Nat.blt e'.born since = true := Nat.ble_eq_true_of_le k
            rw [h2] at hlt; cases hlt
          cases old <;> simp <;> omega
      rw [hb]
      cases hq : (if old then decide (e'.born < since) else decide (since ≤ e'.born)) with
      | true => rw [List.filter_cons_of_pos (p := fun e : MapEntry => if old then decide (e.born < since) else decide (since ≤ e.born)) hq]; exact ERel.cons h1 ih
      | false => rw [List.filter_cons_of_neg (p := fun e : MapEntry => if old then decide (e.born < since) else decide (since ≤ e.born)) (fun k => by rw [hq] at k; cases k)]; exact ih
theorem allNew_rel {g : Gm} (last : Nat) : ∀ (es es' : List MapEntry), ERel g es es' → allNew last es = es'.all fun e => decide (last ≤ e.born)
  | [], es', h => by cases h.nil_inv; rfl
  | e :: es, es', h => by
    obtain ⟨e', x1, rfl, h1, h2⟩ := h.cons_inv
    simp only [allNew, List.all_cons, h1.2.2, allNew_rel last es x1 h2]
    congr 1
    cases hb : Nat.ble last e'.born with
    | true => simp [Nat.le_of_ble_eq_true hb]
    | false =>
      have : ¬ last ≤ e'.born := fun k => by have := Nat.ble_eq_true_of_le k; rw [hb] at this; cases this
      simp [this]
def CRel (g : Gm) (x x' : List (Option MapEntry)) : Prop :=
  x.length = x'.length ∧ ∀ (i : Nat) (e e' : Option MapEntry), x[i]? = some e → x'[i]? = some e' → match e, e' with
    | none, none => True
    | some e, some e' => VRel g e.key e'.key ∧ VRel g e.val e'.val ∧ e.born = e'.born
    | _, _ => False
theorem CRel.of_some {g : Gm} {x x' : List MapEntry} (h : ERel g x x') : CRel g (x.map some) (x'.map some) :=
  ⟨by simp [h.1], fun i e e' a b => by
    rw [List.getElem?_map, Option.map_eq_some_iff] at a b
    obtain ⟨u, a1, rfl⟩ := a
    obtain ⟨u', b1, rfl⟩ := b
    exact h.2 i u u' a1 b1⟩
theorem CRel.cons_none {g : Gm} {x x' : List (Option MapEntry)} (h : CRel g x x') : CRel g (none :: x) (none :: x') :=
  ⟨by simp [h.1], fun i e e' a b => by
    cases i with
    | zero => simp at a b; subst a; subst b; trivial
    | succ i => simp at a b; exact h.2 i e e' a b⟩
section
variable {P : Program} {ng : Nat} {e : Env} {B0 : Nat} {w0 : World} {b : Frame} {nt : Nat} {g : Gm} {nx : Nat} {a : Act} {w : World} {to : Tm} {ds : List Deferred} {hp : Ht} {rec : Rec} {ops : Array Oper} {i : Nat} {o : Oper}
def cands (es : Array MapEntry) (seen : Array Nat) (since : Nat) : Array (Option MapEntry) :=
  let left := es.filter fun e => !seen.contains e.born
  let old := left.filter (·.born < since)
  let new := left.filter (·.born ≥ since)
  (if old.isEmpty then #[none] else #[]) ++ (old ++ new).map some
theorem cands_rel {es : List MapEntry} {es' : Array MapEntry} {seen' : Array Nat} {since last clock : Nat} {l : List (Option MapEntry)} {cl : Nat} {hp : Hp} {m : Nat} (h : ERel g es es'.toList) (hm : hp m = some (.map es clock)) (hn : nexts hp m since seen'.toList last = some (l, cl)) :
    cl = clock ∧ CRel g l (cands es' seen' since).toList ∧ (!seen'.isEmpty && !es'.isEmpty && es'.all (fun e => decide (e.born ≥ last))) = false := by
  unfold nexts at hn
  rw [hm] at hn
  simp only at hn
  have h1 := leftE_rel seen'.toList since true es es'.toList h
  have h2 := leftE_rel seen'.toList since false es es'.toList h
  have e1 : ((es'.filter fun e => !seen'.contains e.born).filter (·.born < since)).toList = (es'.toList.filter fun e => !seen'.toList.contains e.born).filter fun e => if true then decide (e.born < since) else decide (since ≤ e.born) := by simp
  have e2 : ((es'.filter fun e => !seen'.contains e.born).filter (·.born ≥ since)).toList = (es'.toList.filter fun e => !seen'.toList.contains e.born).filter fun e => if false then decide (e.born < since) else decide (since ≤ e.born) := by simp
  rw [← e1] at h1
  rw [← e2] at h2
  have hcond : (!seen'.toList.isEmpty && (!es.isEmpty && allNew last es)) = (!seen'.isEmpty && !es'.isEmpty && es'.all (fun e => decide (e.born ≥ last))) := by
    rw [allNew_rel last es es'.toList h]
    have : es.isEmpty = es'.isEmpty := by
      have := h.1
      rw [← Array.isEmpty_toList]
      cases es <;> cases hx : es'.toList <;> simp_all
    rw [this, Bool.and_assoc]
    simp
  rw [hcond] at hn
  cases hq : (!seen'.isEmpty && !es'.isEmpty && es'.all (fun e => decide (e.born ≥ last))) with
  | true => rw [hq] at hn; cases hn
  | false =>
    rw [hq] at hn
    simp only [cond_false] at hn
    split at hn
    · rename_i ho
      cases hn
      refine ⟨rfl, ?_, rfl⟩
      rw [ho] at h1
      have h0 := h1.nil_inv
      have : ((es'.filter fun e => !seen'.contains e.born).filter (·.born < since)).isEmpty = true := by rw [← Array.isEmpty_toList, h0]; rfl
      unfold cands
      simp only [this, if_true, Array.toList_append, Array.toList_map, h0, List.nil_append]
      exact CRel.cons_none (CRel.of_some h2)
    · rename_i l0 ho
      cases hn
      refine ⟨rfl, ?_, rfl⟩
      have : ((es'.filter fun e => !seen'.contains e.born).filter (·.born < since)).isEmpty = false := by
        rw [← Array.isEmpty_toList]
        have := h1.1
        cases hx : leftE seen'.toList since true es with
        | nil => exact absurd hx (by intro hx; exact ho hx)
        | cons y ys =>
          rw [hx] at this
          cases hz : ((es'.filter fun e => !seen'.contains e.born).filter (·.born < since)).toList with
          | nil => rw [hz] at this; cases this
          | cons => rfl
      unfold cands
      simp only [this, Bool.false_eq_true, if_false, Array.toList_append, Array.toList_map, List.nil_append]
      exact CRel.of_some (h1.append h2)
end
end
end Sw

namespace Sw
noncomputable section
open Go Go.RowKit
section
variable {P : Program} {ng : Nat} {e : Env} {B0 : Nat} {w0 : World} {b : Frame} {nt : Nat} {g : Gm} {nx : Nat} {a : Act} {w : World} {to : Tm} {ds : List Deferred} {hp : Ht} {rec : Rec} {ops : Array Oper} {i : Nat} {o : Oper}
theorem iter_nc {m : Option Nat} {s st : Nat} {seen : Array Nat} : ∀ c e f, Obj.mapIter m s seen st ≠ .cells c e f := fun _ _ _ h => by cases h
theorem map_nc {es : Array MapEntry} {c : Nat} : ∀ k e f, Obj.map es c ≠ .cells k e f := fun _ _ _ h => by cases h
theorem run_choose_map (n : Nat) : ∃ c w1, (choose (.mapNext n)).run P w = .ok c w1 ∧ (0 < n → c < n) ∧ (w1 = w ∨ w1 = w.drew) := by
  by_cases h : n ≤ 1
  · refine ⟨0, w, ?_, fun k => k, .inl rfl⟩
    simp [choose, Sem.run, Question.forced, h]
  · refine ⟨w.tape w.drawn (.mapNext n) % n, w.drew, ?_, fun k => Nat.mod_lt _ k, .inr rfl⟩
    simp [choose, Sem.run, Question.forced, h, Question.cut]
theorem run_next_none {rr : Nat} {s st : Nat} {seen : Array Nat} (h : w.heap[rr]? = some (.mapIter none s seen st)) (ty : TypeId) :
    (Instr.next (.pointer (some ⟨rr, 0, none⟩)) false ty).run P w = .ok (.tuple #[.bool false]) w := by
  unfold Instr.next
  simp only
  rw [rBind (run_getObj h iter_nc)]; rfl
theorem run_next_map {rr m : Nat} {since last clock : Nat} {seen : Array Nat} {es : Array MapEntry} (h : w.heap[rr]? = some (.mapIter (some m) since seen last)) (hm : w.heap[m]? = some (.map es clock)) (ty : TypeId)
    (hq : (!seen.isEmpty && !es.isEmpty && es.all (fun e => decide (e.born ≥ last))) = false) {c : Nat} {w1 : World} (hc : (choose (.mapNext (cands es seen since).size)).run P w = .ok c w1) (hw : w1.heap = w.heap)
    {x : Option MapEntry} (hx : (cands es seen since)[c]? = some x) :
    (Instr.next (.pointer (some ⟨rr, 0, none⟩)) false ty).run P w = (match x with
      | some e => .ok (.tuple #[.bool true, e.key, e.val]) (w1.putObj rr (.mapIter (some m) since (seen.push e.born) clock))
      | none => .ok (.tuple #[.bool false]) w1) := by
  unfold Instr.next
  simp only
  rw [rBind (run_getObj h iter_nc)]
  simp only
  rw [rBind (run_getObj hm map_nc)]
  simp only
  rw [if_neg (by rw [hq]; simp)]
  have hc' : (choose (.mapNext (cands es seen since).size)).run P w = .ok c w1 := hc
  unfold cands at hc' hx
  simp only at hc' hx
  rw [rBind hc', hx]
  cases x with
  | none => rfl
  | some e =>
    simp only
    have h' : w1.heap[rr]? = some (.mapIter (some m) since seen last) := by rw [hw]; exact h
    rw [rBind (run_setObj _ h' iter_nc)]; rfl
theorem nthE_get : ∀ (c : Nat) (l : List (Option MapEntry)), nthE c l = l[c]?
  | _, [] => by simp [nthE]
  | 0, x :: xs => by simp [nthE]
  | c + 1, x :: xs => by simp [nthE, nthE_get c xs]
theorem OpStep.sem (hd : DLRel g ds a.defers) (ho : ops[i]? = some o) (hw : Region.wanted o (yielded ops a.tmps) = true) (hr : b.roundOf = none ∨ notDefer o.op = true) {s : Sem Value} (he : execOp a.eval o = (do pure (.value (← s)))) {v v' : Value} {w' : World} {g' : Gm} {hp' : Ht} {nx' : Nat}
    (hs : s.run P w = .ok v' w') (H : HRel B0 w0 g' hp'.get nx' w') (hv : VRel g' v v') (E : Ext g nx w g' nx' w') : OpStep P B0 w0 b g nx ops i o.dst a w v ds hp' nx' :=
  ⟨v', a.defers, w', g', H, hv, hd.mono E.ext.le, E, fun rest k cs => .one (st_opV ho hw hr (by rw [he, asV_v]; exact hs))⟩
theorem Ext.drew {w1 : World} (h : w1 = w ∨ w1 = w.drew) : Ext g nx w g nx w1 := by
  rcases h with rfl | rfl
  · exact Ext.refl _ _ _
  · exact ⟨GExt.refl _ _, ⟨Nat.le_refl _, fun _ _ _ => rfl⟩, Held.refl _ _⟩
theorem next_op (H : HRel B0 w0 g hp.get nx w) (hd : DLRel g ds a.defers) (ho : ops[i]? = some o) (hw : Region.wanted o (yielded ops a.tmps) = true)
    {it : Operand} (hop : o.op = .next it false) (hρ : ORels g to a.eval o.op.operands.toList) (fm : Fm) :
    OpSays P B0 w0 b g to nx ops i o.dst a w fun cs k => (clOp o.op o.dst).run e rec fm to ds hp nx cs k := by
  have hr : b.roundOf = none ∨ notDefer o.op = true := .inr (by rw [hop]; rfl)
  rw [hop] at hρ
  have he : execOp a.eval o = (do pure (.value (← Instr.next (a.eval it) false o.type))) := by simp only [execOp, hop]
  have hv : VRel g ((opd it).run to) (a.eval it) := hρ it (by simp [Op.operands])
  rw [hop]
  have h0 : (fun (cs : List Nat) (k : St → R) => (clOp (.next it false) o.dst).run e rec fm to ds hp nx cs k) = fun cs k => nextF e.low ((opd it).run to) hp nx cs (fun v hp nx cs => k ⟨(dstC o.dst).run to v, ds, hp, nx, cs⟩) := by funext cs k; rfl
  rw [h0]
  generalize hx : (opd it).run to = x at hv
  generalize hx' : a.eval it = x' at hv he
  cases hv with
  | @ptr r off rr ro hg =>
    cases off with
    | succ => exact .fail fun cs k => by simp [nextF]
    | zero =>
    cases hr0 : hp.get r with
    | none => exact .fail fun cs k => by simp [nextF, hr0]
    | some ob =>
      cases ob <;> first | (refine OpSays.fail ?_; intro cs k; simp [nextF, hr0]; done) | skip
      rename_i m since seen last
      cases m with
      | none =>
        obtain ⟨m', seen', rfl, h2, hB, h4, h5⟩ := H.iterAt hr0 hg
        cases m' with
        | some => exact h5.elim
        | none =>
          intro k
          refine .here (.inr ⟨.tuple #[.bool false], ds, hp, nx, fun cs => by simp [nextF, hr0], ?_⟩)
          refine OpStep.sem hd ho hw hr he (run_next_none h2 _) H ?_ (Ext.refl _ _ _)
          exact (LRel.cons (.bool false) (LRel.nil g)).toArray |> fun h => .tuple h.1 h.2
      | some m =>
        cases hb : Nat.ble e.low r with
        | false => exact .fail fun cs k => by simp [nextF, hr0, hb]
        | true =>
        cases hn : nexts hp.get m since seen last with
        | none => exact .fail fun cs k => by simp [nextF, hr0, hb, hn]
        | some lc =>
          obtain ⟨l, clock⟩ := lc
          obtain ⟨m', seen', rfl, h2, hB, rfl, h5⟩ := H.iterAt hr0 hg
          cases m' with
          | none => exact h5.elim
          | some m' =>
          have h5 : g.blk m = some (m', 0) := h5
          cases hm : hp.get m with
          | none => exact .fail fun cs k => by simp [nexts, hm] at hn
          | some om =>
            cases om <;> first | (exfalso; simp [nexts, hm] at hn; done) | skip
            rename_i es c0
            obtain ⟨es', _, k2, k3, k4⟩ := H.mapAt hm h5
            obtain ⟨rfl, hC, hq⟩ := cands_rel k4 hm hn
            obtain ⟨c, w1, hc, hlt, hw1⟩ := run_choose_map (P := P) (w := w) (cands es' seen' since).size
            have hheap : w1.heap = w.heap := by rcases hw1 with rfl | rfl <;> rfl
            have E1 : Ext g nx w g nx w1 := Ext.drew hw1
            have H1 : HRel B0 w0 g hp.get nx w1 := by rcases hw1 with rfl | rfl; exact H; exact H.of_heap rfl rfl rfl rfl
            intro k
            have hlen : l.length = (cands es' seen' since).size := by rw [hC.1]; simp
            have key : ∀ x, l[c]? = some x → ∀ f' : List Nat → R, (∀ cs, f' cs = (match x with
                | some x => k ⟨(dstC o.dst).run to (.tuple #[.bool true, x.key, x.val]), ds, hp.set r (some (.mapIter (some m) since (seen'.toList ++ [x.born]) clock)), nx, cs⟩
                | none => k ⟨(dstC o.dst).run to (.tuple #[.bool false]), ds, hp, nx, cs⟩)) →
                Dead f' ∨ ∃ v ds' hp' nx', (∀ cs, f' cs = k ⟨(dstC o.dst).run to v, ds', hp', nx', cs⟩) ∧ OpStep P B0 w0 b g nx ops i o.dst a w v ds' hp' nx' := by
              intro x hx f' hf
              have hxc : ∃ x', (cands es' seen' since)[c]? = some x' := by
                have : c < (cands es' seen' since).size := by rw [← hlen]; exact (List.getElem?_eq_some_iff.1 hx).1
                exact ⟨_, Array.getElem?_eq_getElem this⟩
              obtain ⟨x', hx'⟩ := hxc
              have hrel := hC.2 c x x' hx (by simpa using hx')
              have hrun := run_next_map h2 k2 o.type hq hc hheap hx'
              cases x with
              | none =>
                cases x' with
                | some => exact hrel.elim
                | none =>
                  refine .inr ⟨.tuple #[.bool false], ds, hp, nx, hf, ?_⟩
                  refine OpStep.sem hd ho hw hr he hrun H1 ?_ E1
                  exact (LRel.cons (.bool false) (LRel.nil g)).toArray |> fun h => .tuple h.1 h.2
              | some en =>
                cases x' with
                | none => exact hrel.elim
                | some en' =>
                  obtain ⟨q1, q2, q3⟩ := hrel
                  refine .inr ⟨.tuple #[.bool true, en.key, en.val], ds, hp.set r (some (.mapIter (some m) since (seen'.toList ++ [en.born]) clock)), nx, hf, ?_⟩
                  have h2' : w1.heap[rr]? = some (.mapIter (some m') since seen' last) := by rw [hheap]; exact h2
                  have H2 := H1.setObj hr0 hg (o' := .mapIter (some m) since (seen'.toList ++ [en.born]) clock) (fun _ _ h => by cases h) (fun _ _ h => by cases h) rfl (.mapIter (some m') since (seen'.push en'.born) clock) hB
                    ⟨rfl, hB, rfl, by rw [q3]; simp, rfl, h5⟩
                  rw [← Tr.get_set] at H2
                  refine OpStep.sem hd ho hw hr he hrun H2 ?_ (E1.trans (Ext.putObj hg _))
                  exact (LRel.cons (.bool true) (LRel.cons q1 (LRel.cons q2 (LRel.nil g)))).toArray |> fun h => .tuple h.1 h.2
            by_cases h1 : ∃ x, l = [x]
            · obtain ⟨x, rfl⟩ := h1
              have hc0 : c = 0 := by have := hlt (by rw [← hlen]; simp); rw [← hlen] at this; simp at this; exact this
              refine .here (key x (by rw [hc0]; rfl) _ fun cs => ?_)
              cases x <;> simp [nextF, hr0, hb, hn]
            · by_cases h0 : l = []
              · subst h0
                refine .dead fun cs => ?_
                cases cs with
                | nil => exact ⟨0, by simp [nextF, hr0, hb, hn]⟩
                | cons c cs => exact ⟨0, by simp [nextF, hr0, hb, hn, nthE]⟩
              · have hlt := hlt (by rw [← hlen]; exact List.length_pos_iff.2 h0)
                rw [← hlen] at hlt
                have hl : ∀ cs, nextF e.low (.pointer (some ⟨r, 0, none⟩)) hp nx cs (fun v hp nx cs => k ⟨(dstC o.dst).run to v, ds, hp, nx, cs⟩) = (match cs with
                    | [] => .need l.length
                    | c :: cs => match nthE c l with
                      | some x => (match x with
                        | some x => k ⟨(dstC o.dst).run to (.tuple #[.bool true, x.key, x.val]), ds, hp.set r (some (.mapIter (some m) since (seen'.toList ++ [x.born]) clock)), nx, cs⟩
                        | none => k ⟨(dstC o.dst).run to (.tuple #[.bool false]), ds, hp, nx, cs⟩)
                      | none => .need 0) := by
                  intro cs
                  match l, h0, h1, hn with
                  | [], h0, _, _ => exact absurd rfl h0
                  | [x], _, h1, _ => exact absurd ⟨x, rfl⟩ h1
                  | x :: y :: l, _, _, hn =>
                    cases cs with
                    | nil => simp [nextF, hr0, hb, hn]
                    | cons c cs =>
                      cases hz : nthE c (x :: y :: l) with
                      | none => simp [nextF, hr0, hb, hn, hz]
                      | some z => cases z <;> simp [nextF, hr0, hb, hn, hz]
                refine ⟨[c], fun p c' q e => ?_, ?_⟩
                · cases p with
                  | nil =>
                    simp at e
                    obtain ⟨rfl, _⟩ := e
                    exact ⟨l.length, hl [], hlt⟩
                  | cons y ys => simp at e
                · refine key l[c] (List.getElem?_eq_getElem hlt) _ fun cs => ?_
                  have hz : nthE c l = some l[c] := by rw [nthE_get]; exact List.getElem?_eq_getElem hlt
                  have := hl (c :: cs)
                  simp only [hz] at this
                  exact this
  | _ => exact .fail fun cs k => rfl
end
end
end Sw

namespace Sw
noncomputable section
open Go Go.RowKit
section
variable {P : Program} {ng : Nat} {e : Env} {B0 : Nat} {w0 : World} {b : Frame} {nt : Nat} {g : Gm} {nx : Nat} {a : Act} {w : World} {to : Tm} {ds : List Deferred} {hp : Ht} {rec : Rec} {ops : Array Oper} {i : Nat} {o : Oper} {rn : Option Nat}
structure Ready (P : Program) (ng : Nat) (e : Env) (B0 : Nat) (w0 : World) (rec : Rec) (b : Frame) (g : Gm) (hp : Ht) (nx : Nat) (w : World) (ds : List Deferred) (a : Act) (rn : Option Nat) : Prop where
  ok : EnvOk P ng e
  kok : KOk P ng B0 w0 e
  ih : RecSays P ng B0 w0 rec
  H : HRel B0 w0 g hp.get nx w
  hg : GlobOk g ng
  hd : DLRel g ds a.defers
  rn : RndOk g b rn
theorem plain_op (R : Ready P ng e B0 w0 rec b g hp nx w ds a rn) (ho : ops[i]? = some o) (hw : Region.wanted o (yielded ops a.tmps) = true) (hr : notDefer o.op = true)
    (hρ : ORels g to a.eval o.op.operands.toList) :
    OpSays P B0 w0 b g to nx ops i o.dst a w fun cs k => (opC o.op).run e.T hp.get nx to (fun v => k ⟨(dstC o.dst).run to v, ds, hp, nx, cs⟩) (keOf (dstC o.dst).run e.low to ds hp nx cs k) :=
  Goes.says (run := fun kv ke => (opC o.op).run e.T hp.get nx to kv ke) R.H R.hd ho hw (.inr hr) (fun kv ke => opC_sound R.ok.T R.ok.cl R.H hρ kv ke)
theorem clOp_says (R : Ready P ng e B0 w0 rec b g hp nx w ds a rn) (ho : ops[i]? = some o) (hw : Region.wanted o (yielded ops a.tmps) = true)
    (hρ : ORels g to a.eval o.op.operands.toList) (f : FuncId) (nt : Nat) :
    OpSays P B0 w0 b g to nx ops i o.dst a w fun cs k => (clOp o.op o.dst).run e rec ⟨f, nt, rn⟩ to ds hp nx cs k := by
  cases hop : o.op with
  | call c => have := call_op (b := b) R.ok R.kok R.ih R.H R.hg R.hd ho hw hop hρ ⟨f, nt, rn⟩; rw [hop] at this; exact this
  | defer c => have := defer_op (P := P) (rec := rec) (e := e) R.rn R.H R.hd ho hw hop hρ f nt; rw [hop] at this; exact this
  | next it s =>
    cases s with
    | false => have := next_op (P := P) (b := b) (rec := rec) (e := e) R.H R.hd ho hw hop hρ ⟨f, nt, rn⟩; rw [hop] at this; exact this
    | true => have := plain_op R ho hw (by rw [hop]; rfl) hρ; rw [hop] at this; exact this
  | _ => have := plain_op R ho hw (by rw [hop]; rfl) hρ; rw [hop] at this; exact this
theorem nthO_get : ∀ (c : Nat) (l : List Oper), nthO c l = l[c]?
  | _, [] => by simp [nthO]
  | 0, x :: xs => by simp [nthO]
  | c + 1, x :: xs => by simp [nthO, nthO_get c xs]
def GuardRel (g : Gm) (ops : Array Oper) (to : Tm) (a : Act) (o : Oper) : Prop :=
  ∀ j wn, o.guard = some (j, wn) → ∀ oj d, ops[j]? = some oj → oj.dst = some d → VRel g (to.get d) (a.tmps.getD d undef) ∧ d < a.tmps.size
theorem wanted_rel {g : Gm} (hG : GuardRel g ops to a o) {j : Nat} {wn : Bool} (hg : o.guard = some (j, wn)) {oj : Oper} {d : Tmp} (hj : ops[j]? = some oj) (hd : oj.dst = some d) :
    Region.wanted o (yielded ops a.tmps) = wantedE wn (to.get d) := by
  obtain ⟨h1, h2⟩ := hG j wn hg oj d hj hd
  have h3 : a.tmps[d]? = some (a.tmps.getD d undef) := by simp [Array.getD, h2]
  simp only [Region.wanted, hg, yielded, hj, hd, Option.bind_some, h3]
  generalize a.tmps.getD d undef = v' at h1
  generalize to.get d = v at h1
  cases h1 <;> first | rfl | skip
  rename_i bb
  cases bb <;> cases wn <;> rfl
theorem unwanted_says (R : Ready P ng e B0 w0 rec b g hp nx w ds a rn) (ho : ops[i]? = some o) (hw : Region.wanted o (yielded ops a.tmps) = false) :
    OpSays P B0 w0 b g to nx ops i o.dst a w fun cs k => k ⟨(dstC o.dst).run to undef, ds, hp, nx, cs⟩ :=
  fun k => .here (.inr ⟨undef, ds, hp, nx, fun cs => rfl, undef, a.defers, w, g, R.H, VRel.undef g, R.hd, Ext.refl _ _ _, fun rest k cs => .one (st_opUnwanted ho hw)⟩)
theorem compOp_says (R : Ready P ng e B0 w0 rec b g hp nx w ds a rn) (ho : ops[i]? = some o) (hρ : ORels g to a.eval o.op.operands.toList) (hG : GuardRel g ops to a o) (f : FuncId) (nt : Nat) :
    OpSays P B0 w0 b g to nx ops i o.dst a w fun cs k => (compOp ops.toList o).run e rec ⟨f, nt, rn⟩ to ds hp nx cs k := by
  cases hg : o.guard with
  | none =>
    have hw : Region.wanted o (yielded ops a.tmps) = true := by simp [Region.wanted, hg]
    have h0 : compOp ops.toList o = clOp o.op o.dst := by
      obtain ⟨dst, op, ty, pos, after, guard⟩ := o
      cases hg; rfl
    rw [h0]
    exact clOp_says R ho hw hρ f nt
  | some jw =>
    obtain ⟨j, wn⟩ := jw
    have h0 : compOp ops.toList o = (match guardC ops.toList j with
      | some g => ⟨fun e rec fm to ds hp nx cs k => Bool.casesOn (wantedE wn (g.run to)) (k ⟨(dstC o.dst).run to undef, ds, hp, nx, cs⟩) ((clOp o.op o.dst).run e rec fm to ds hp nx cs k)⟩
      | none => ⟨fun _ _ _ _ _ _ _ _ _ => .need 0⟩) := by
      obtain ⟨dst, op, ty, pos, after, guard⟩ := o
      cases hg; rfl
    rw [h0]
    cases hj : ops[j]? with
    | none =>
      have : guardC ops.toList j = none := by simp [guardC, nthO_get, hj]
      rw [this]
      exact .fail fun cs k => rfl
    | some oj =>
      cases hd : oj.dst with
      | none =>
        have : guardC ops.toList j = none := by simp [guardC, nthO_get, hj, hd, optC]
        rw [this]
        exact .fail fun cs k => rfl
      | some d =>
        have : guardC ops.toList j = some (opd (.tmp d)) := by simp [guardC, nthO_get, hj, hd, optC]
        rw [this]
        have hwr := wanted_rel hG hg hj hd
        show OpSays P B0 w0 b g to nx ops i o.dst a w fun cs k => (Bool.casesOn (wantedE wn (to.get d)) (k ⟨(dstC o.dst).run to undef, ds, hp, nx, cs⟩) ((clOp o.op o.dst).run e rec ⟨f, nt, rn⟩ to ds hp nx cs k) : Res (Nat × St))
        cases hq : wantedE wn (to.get d) with
        | false => exact unwanted_says R ho (hwr.trans hq)
        | true => exact clOp_says R ho (hwr.trans hq) hρ f nt
end
end
end Sw

namespace Sw
noncomputable section
open Go Go.RowKit
def RegLands (P : Program) (B0 : Nat) (w0 : World) (b : Frame) (nt : Nat) (g : Gm) (nx : Nat) (ops : Array Oper) (l : List Nat) (a : Act) (w : World) (s' : St) : Prop :=
  ∃ a' w' g', SRel B0 w0 g' nt s' a' w' ∧ Ext g nx w g' s'.nx w' ∧ ∀ k cs, Steps P (lone (At b a (.inRegion ops l :: k)) cs w) (lone (At b a' (.inRegion ops [] :: k)) cs w')
def RegSays (P : Program) (B0 : Nat) (w0 : World) (b : Frame) (nt : Nat) (g : Gm) (nx : Nat) (ops : Array Oper) (l : List Nat) (a : Act) (w : World) (r : List Nat → R) : Prop :=
  Plays r fun r' => Dead r' ∨ ∃ s', (∀ cs, r' cs = .ok (0, s'.at cs)) ∧ RegLands P B0 w0 b nt g nx ops l a w s'
section
variable {P : Program} {ng : Nat} {e : Env} {B0 : Nat} {w0 : World} {b : Frame} {nt : Nat} {g : Gm} {nx : Nat} {a : Act} {w : World} {rec : Rec} {ops : Array Oper} {rn : Option Nat}
theorem RndOk.mono {g g' : Gm} (h : g.le g') {rn : Option Nat} (k : RndOk g b rn) : RndOk g' b rn := by
  cases rn with
  | none => exact k
  | some l => obtain ⟨rl, h1, h2⟩ := k; exact ⟨rl, h1, h.1 _ _ h2⟩
theorem guardRel_of {to : Tm} {o : Oper} (ht : TRel g nt to a.tmps) (hok : ops.toList.all (operOk ng nt) = true) : GuardRel g ops to a o := by
  intro j wn _ oj d hj hd
  have hm : oj ∈ ops.toList := by obtain ⟨hi, rfl⟩ := Array.getElem?_eq_some_iff.1 hj; simp
  have := List.all_eq_true.1 hok oj hm
  unfold operOk at this
  rw [Bool.and_eq_true] at this
  have h2 := this.2
  rw [hd] at h2
  have hlt : @LT.lt Nat _ d nt := Nat.le_of_ble_eq_true h2
  exact ⟨ht.2 d hlt, by rw [ht.1]; exact hlt⟩
theorem RegLands.step {i : Nat} {rest : List Nat} {o : Oper} {s : St} {to : Tm} {v : Value} {ds' : List Deferred} {hp' : Ht} {nx' : Nat} (hn : nt ≤ 512) (ht : TRel g nt to a.tmps) (hd : dstOk nt o.dst = true)
    (h : OpStep P B0 w0 b g nx ops i o.dst a w v ds' hp' nx')
    (k : ∀ a1 w1 g1, Ext g nx w g1 nx' w1 → SRel B0 w0 g1 nt ⟨(dstC o.dst).run to v, ds', hp', nx', []⟩ a1 w1 → RegLands P B0 w0 b nt g1 nx' ops rest a1 w1 s) : RegLands P B0 w0 b nt g nx ops (i :: rest) a w s := by
  obtain ⟨v', dfs', w1, g1, H1, V1, D1, E1, st1⟩ := h
  have T1 : TRel g1 nt ((dstC o.dst).run to v) ({ a with defers := dfs' }.put o.dst v').tmps :=
    TRel.put (a := { a with defers := dfs' }) (ht.mono E1.ext.le) hn hd V1
  have D1 : DLRel g1 ds' ({ a with defers := dfs' }.put o.dst v').defers := by rw [put_defers]; exact D1
  obtain ⟨a2, w2, g2, S2, E2, st2⟩ := k _ w1 g1 E1 ⟨H1, T1, D1⟩
  exact ⟨a2, w2, g2, S2, E1.trans E2, fun k cs => (st1 rest k cs).trans (st2 k cs)⟩
theorem text_says (ok : EnvOk P ng e) (kok : KOk P ng B0 w0 e) (ih : RecSays P ng B0 w0 rec) (hn : nt ≤ 512) {ng' : Nat} (hok : ops.toList.all (operOk ng' nt) = true) (f : FuncId) :
    ∀ (n i : Nat) (s : St) (a : Act) (w : World) (g : Gm), i + n = ops.size → SRel B0 w0 g nt s a w → GlobOk g ng → GlobOk g ng' → RndOk g b rn →
      RegSays P B0 w0 b nt g s.nx ops (List.range' i n) a w fun cs => evOps (compOps ops.toList (ops.toList.drop i)) e rec ⟨f, nt, rn⟩ (s.at cs)
  | 0, i, s, a, w, g, hi, S, _, _, _ => by
    have : ops.toList.drop i = [] := by simp; omega
    rw [this]
    exact .here (.inr ⟨s, fun cs => rfl, a, w, g, S, Ext.refl _ _ _, fun k cs => .refl ..⟩)
  | n + 1, i, s, a, w, g, hi, S, hg, hg', hrn => by
    have hlt : i < ops.size := by omega
    have hdrop : ops.toList.drop i = ops[i] :: ops.toList.drop (i + 1) := by
      rw [List.drop_eq_getElem_cons (by simpa using hlt)]; simp
    have ho : ops[i]? = some ops[i] := Array.getElem?_eq_getElem hlt
    have hoo := List.all_eq_true.1 hok ops[i] (by simp)
    unfold operOk at hoo
    rw [Bool.and_eq_true] at hoo
    rw [hdrop]
    have hrun : (fun cs => evOps (compOps ops.toList (ops[i] :: ops.toList.drop (i + 1))) e rec ⟨f, nt, rn⟩ (s.at cs)) = fun cs => (compOp ops.toList ops[i]).run e rec ⟨f, nt, rn⟩ s.to s.ds s.hp s.nx cs fun s => evOps (compOps ops.toList (ops.toList.drop (i + 1))) e rec ⟨f, nt, rn⟩ s := by
      funext cs; rfl
    rw [hrun]
    have says := compOp_says (to := s.to) (i := i) (ops := ops) (rn := rn) (R := ⟨ok, kok, ih, S.heap, hg, S.act.2, hrn⟩) ho (opnds_rel S.act.1 hg' hoo.1) (guardRel_of S.act.1 hok) f nt
    refine (says _).bind fun f' h => ?_
    rcases h with h | ⟨v, ds', hp', nx', h, st⟩
    · exact .dead h
    · have st' := st
      obtain ⟨v', dfs', w1, g1, H1, V1, D1, E1, st1⟩ := st'
      have T1 : TRel g1 nt ((dstC ops[i].dst).run s.to v) ({ a with defers := dfs' }.put ops[i].dst v').tmps :=
        TRel.put (a := { a with defers := dfs' }) (S.act.1.mono E1.ext.le) hn hoo.2 V1
      have D1 : DLRel g1 ds' ({ a with defers := dfs' }.put ops[i].dst v').defers := by rw [put_defers]; exact D1
      have S1 : SRel B0 w0 g1 nt ⟨(dstC ops[i].dst).run s.to v, ds', hp', nx', []⟩ ({ a with defers := dfs' }.put ops[i].dst v') w1 := ⟨H1, T1, D1⟩
      have hrun : f' = fun cs => evOps (compOps ops.toList (ops.toList.drop (i + 1))) e rec ⟨f, nt, rn⟩ ((⟨(dstC ops[i].dst).run s.to v, ds', hp', nx', []⟩ : St).at cs) := funext h
      rw [hrun]
      refine (text_says ok kok ih hn hok f n (i + 1) _ _ w1 g1 (by omega) S1 (hg.mono E1.ext.le) (hg'.mono E1.ext.le) (hrn.mono E1.ext.le)).mono fun f'' h => ?_
      rcases h with h | ⟨s2, h, a2, w2, g2, S2, E2, st2⟩
      · exact .inl h
      · refine .inr ⟨s2, h, a2, w2, g2, S2, E1.trans E2, fun k cs => ?_⟩
        rw [List.range'_succ]
        exact (st1 _ k cs).trans (st2 k cs)
theorem region_text (ok : EnvOk P ng e) (kok : KOk P ng B0 w0 e) (ih : RecSays P ng B0 w0 rec) (hn : nt ≤ 512) {ng' : Nat} (hok : ops.toList.all (operOk ng' nt) = true) (f : FuncId) (id : Nat) {s : St} (S : SRel B0 w0 g nt s a w) (hg : GlobOk g ng) (hg' : GlobOk g ng') (hrn : RndOk g b rn) :
    Says P B0 w0 b nt g s.nx (.region id ops false) a w fun cs => evOps (compOps ops.toList ops.toList) e rec ⟨f, nt, rn⟩ (s.at cs) := by
  have h := text_says ok kok ih hn hok f ops.size 0 s a w g (by omega) S hg hg' hrn
  rw [List.drop_zero] at h
  refine h.mono fun f' h => ?_
  rcases h with h | ⟨s', h, a', w', g', S', E', st⟩
  · exact .inl h
  · refine .inr ⟨0, s', h, a', w', g', S', E', fun k cs => ⟨k, rfl, ?_⟩⟩
    have := (Steps.one (st_region (P := P) (b := b) (a := a) (w := w) (k := k) (cs := cs) (id := id) (ops := ops))).trans (by rw [List.range_eq_range']; exact st k cs)
    exact this.trans (.one st_regionEnd)
end
end
end Sw

namespace Sw
noncomputable section
open Go Go.RowKit
section
variable {P : Program} {ng : Nat} {e : Env} {B0 : Nat} {w0 : World} {b : Frame} {nt : Nat} {g : Gm} {nx : Nat} {a : Act} {w : World} {rec : Rec} {rn : Option Nat} {hp : Ht}
theorem new_loop (H : HRel B0 w0 g hp.get nx w) {to : Tm} {tmps : Array Value} (ht : TRel g nt to tmps) (hn : nt ≤ 512) {f : FuncId} {ps : Array Tmp} {asg body : Code} (ha : CodeOk g nt asg) (hb : CodeOk g nt body) (hps : ps.toList.all (Nat.blt · nt) = true) {df df' : Nat} (hdf : g.blk df = some (df', 0)) :
    HRel B0 w0 (g.add nx (w.heap.size, 0) none) (hp.set nx (some (.loop ⟨.ready, none, f, to, nt, ps.toList, asg, body, df⟩))).get (nx + 1) (w.alloc (.loop { state := .ready, pending := none, fn := f, tmps := tmps, params := ps, assign := asg, body := body, defers := df' })) ∧
    Ext g nx w (g.add nx (w.heap.size, 0) none) (nx + 1) (w.alloc (.loop { state := .ready, pending := none, fn := f, tmps := tmps, params := ps, assign := asg, body := body, defers := df' })) ∧
    (g.add nx (w.heap.size, 0) none).blk nx = some (w.heap.size, 0) := by
  have F := H.fresh (Nat.le_refl nx)
  have hle := Gm.le_add F.blk (w.heap.size, 0) none
  refine ⟨?_, Ext.alloc (Nat.le_refl _) (by omega) F.blk _ _, Gm.add_blk _ _ _ _⟩
  rw [Tr.get_set]
  refine H.alloc F.blk F.room F.hp (Nat.le_succ _) (Nat.lt_succ_self _) _ _ none rfl ⟨rfl, H.base, rfl, rfl, rfl, ht.mono hle, rfl, rfl, rfl, hle.1 _ _ hdf, hn, ha.mono hle, hb.mono hle, hps⟩ (fun _ _ _ h => by cases h)
theorem new_deferred (H : HRel B0 w0 g hp.get nx w) :
    HRel B0 w0 (g.add nx (w.heap.size, 0) none) (hp.set nx (some (.deferred (some [])))).get (nx + 1) (w.alloc (.deferred (some []))) ∧ Ext g nx w (g.add nx (w.heap.size, 0) none) (nx + 1) (w.alloc (.deferred (some []))) ∧
    (g.add nx (w.heap.size, 0) none).blk nx = some (w.heap.size, 0) := by
  have F := H.fresh (Nat.le_refl nx)
  refine ⟨?_, Ext.alloc (Nat.le_refl _) (by omega) F.blk _ _, Gm.add_blk _ _ _ _⟩
  rw [Tr.get_set]
  exact H.alloc F.blk F.room F.hp (Nat.le_succ _) (Nat.lt_succ_self _) _ _ none rfl ⟨rfl, H.base, rfl, fun i d d' h => by simp at h⟩ (fun _ _ _ h => by cases h)
def atLoop (b : Frame) (a : Act) (l : Nat) (mark : List Deferred) (k : List Item) : Frame := { At b a (.inRangeFunc l :: k) with defers := mark ++ a.defers }
theorem callSem_resolve (a : Act) (f : Operand) (l : Nat) (x : TypeId) (ρ : Operand → Value) (hρ : ρ f = a.eval f) (hc : ∀ v, ρ (.const v) = v) :
    (do let d ← resolve ρ ({ callee := .value f, args := #[.const (.func (.yield l) #[] #[])], argTypes := #[] } : Call) x; invoke d.target d.args : Sem Next) = callSem (a.eval f) #[.func (.yield l) #[] #[]] := by
  simp only [resolve, callSem, hρ, List.map_toArray, List.map_cons, List.map_nil, hc]
theorem st_rangeFunc {f : Operand} {params : Array Tmp} {assign body : Code} {k : List Item} {cs : List Frame} {l : Nat} {mark : List Deferred} {w1 : World} {nxt : Next} {fr0 : Frame}
    (h : (Instr.enterLoop b.fn a.tmps params assign body b.roundOf).run P w = .ok (l, mark) w1) (hs : (callSem (a.eval f) #[.func (.yield l) #[] #[]]).run P w1 = .ok nxt w1) (hc : calleeOf P nxt = some fr0) :
    step P (lone (At b a (.code (.rangeFunc f params assign body) :: k)) cs w) = .next (lone fr0 (atLoop b a l mark k :: cs) w1) := by
  refine step_lone_go ?_
  have e1 : (Frame.eval { At b a (.inRangeFunc l :: k) with defers := mark ++ a.defers } f) = a.eval f := by cases f <;> rfl
  have hr := callSem_resolve a f l 0 (Frame.eval { At b a (.inRangeFunc l :: k) with defers := mark ++ a.defers }) e1 (fun _ => rfl)
  have hs2 : (do let d ← resolve (Frame.eval { At b a (.inRangeFunc l :: k) with defers := mark ++ a.defers }) ({ callee := .value f, args := #[.const (.func (.yield l) #[] #[])], argTypes := #[] } : Call) 0; invoke d.target d.args : Sem Next).run P w1 = .ok nxt w1 := by rw [hr]; exact hs
  simp only [At] at hs2
  have hs3 := hs2
  rw [Sem.run_bind] at hs3
  cases nxt <;> first | (cases hc; done) | skip
  · cases hc
    simp [stepG, stepG.exec, At, h, stepG.apply, atLoop]
    simp [hs3]
  · cases hc
    simp [stepG, stepG.exec, At, h, stepG.apply, atLoop]
    simp [hs3]
theorem st_endRangeFunc {l : Nat} {r : Loop} {k : List Item} {cs : List Frame} (h : w.heap[l]? = some (.loop r)) (hs : r.state ≠ .busy) :
    step P (lone (At b a (.endRangeFunc l :: k)) cs w) = .next (lone (At b a ((r.pending.map Item.code).toList ++ k)) cs (w.putObj l (.loop { r with state := .exhausted }))) := by
  have hrun : (Instr.endLoop l).run P w = .ok r.pending (w.putObj l (.loop { r with state := .exhausted })) := by
    unfold Instr.endLoop
    rw [rBind (run_getLoop h)]
    have : (r.state == LoopState.busy) = false := by simpa using hs
    simp only [this]
    rw [if_neg (by simp), rBind (run_setObj _ h loop_nc)]; rfl
  refine step_lone_go ?_
  simp [stepG, stepG.exec, At, hrun]
theorem outOf_ends {c : Option Code} {o : Nat} (h : outOf c = some o) (k : List Item) : Ends o k ((c.map Item.code).toList ++ k) := by
  cases c with
  | none => cases h; rfl
  | some c =>
    cases c <;> first | (cases h; done) | skip
    · cases h; exact ⟨[], rfl, trivial⟩
    · cases h; exact ⟨k, rfl⟩
end
end
end Sw

namespace Sw
noncomputable section
open Go Go.RowKit
section
variable {P : Program} {ng : Nat} {e : Env} {B0 : Nat} {w0 : World} {b : Frame} {nt : Nat} {g : Gm} {nx : Nat} {a : Act} {w : World} {rec : Rec} {rn : Option Nat} {hp : Ht}
def rangeE (e : Env) (rec : Rec) (fv : Value) (to : Tm) (ds mark : List Deferred) (l : Nat) (h : Ht) (n : Nat) (cs : List Nat) : R :=
  callV e rec fv [.func (.yield l) #[] #[]] h n cs (fun _ hp nx cs => match hp.get l with
          | some (.loop r) => (match r.state with
            | .busy => .need 0
            | _ => (match outOf r.pending with
              | some o => .ok (o, ⟨to, mark ++ ds, hp.set l (some (.loop { r with state := .exhausted })), nx, cs⟩)
              | none => .need 0))
          | _ => .need 0)
theorem rangeE_says (ok : EnvOk P ng e) (kok : KOk P ng B0 w0 e) (ih : RecSays P ng B0 w0 rec) {f : Operand} {params : Array Tmp} {assign body : Code} {to : Tm} {ds mark mark' : List Deferred} {h : Ht} {w1 : World} {g1 : Gm} {l rl : Nat} {n1 : Nat}
    (hg : GlobOk g1 ng) (ht : TRel g nt to a.tmps) (hd : DLRel g1 ds a.defers) (hm : DLRel g1 mark mark') (hfv : VRel g ((opd f).run to) (a.eval f)) (H1 : HRel B0 w0 g1 h.get n1 w1) (E1 : Ext g nx w g1 n1 w1) (hl : g1.blk l = some (rl, 0))
    (hen : (Instr.enterLoop b.fn a.tmps params assign body b.roundOf).run P w = .ok (rl, mark') w1) :
    Says P B0 w0 b nt g nx (.rangeFunc f params assign body) a w fun cs => rangeE e rec ((opd f).run to) to ds mark l h n1 cs := by
  have hargs : LRel g1 [.func (.yield l) #[] #[]] (#[.func (.yield rl) #[] #[]] : Array Value).toList := LRel.cons (.yieldFn hl) (LRel.nil g1)
  refine (callV_next ok kok ih H1 hg (hfv.mono E1.ext.le) hargs _).mono fun f' hf => ?_
  rcases hf with hf | ⟨v, hp', nx', hf, nxt, hs, v', w2, g2, fr0, H2, V2, E2, hc, st⟩
  · exact .inl hf
  · have hl2 := E2.ext.le.1 _ _ hl
    cases hr : hp'.get l with
    | none => exact .inl fun cs => ⟨0, by rw [hf, hr]⟩
    | some ob =>
      cases ob <;> first | (refine .inl ?_; intro cs; refine ⟨0, ?_⟩; rw [hf, hr]; done) | skip
      rename_i r
      obtain ⟨r', _, hw2, hB2, L2⟩ := H2.loopAt hr hl2
      have goOn : r.state ≠ .busy → ∀ o, outOf r.pending = some o → (∀ cs, f' cs = .ok (o, (⟨to, mark ++ ds, hp'.set l (some (.loop { r with state := .exhausted })), nx', []⟩ : St).at cs)) →
          Dead f' ∨ ∃ o s', (∀ cs, f' cs = .ok (o, s'.at cs)) ∧ Lands P B0 w0 b nt g nx (.rangeFunc f params assign body) a w o s' := by
        intro hst o ho hf
        refine .inr ⟨o, _, hf, ?_⟩
        have H3 := H2.setLoop hr hl2 hB2 (L2.turnState .exhausted)
        have E3 : Ext g2 nx' w2 g2 nx' (w2.putObj rl (.loop { r' with state := .exhausted })) := Ext.putObj hl2 _
        have T3 := ht.mono (E1.ext.le.1 |> fun _ => (Gm.le_trans E1.ext.le E2.ext.le))
        refine ⟨⟨a.tmps, mark' ++ a.defers⟩, _, g2, ⟨H3, T3, ?_⟩, (E1.trans E2).trans E3, fun k cs => ?_⟩
        · have k1 := hm.mono E2.ext.le
          have k2 := hd.mono E2.ext.le
          refine ⟨by simp [k1.1, k2.1], fun i d d' e e' => ?_⟩
          have e : (mark ++ ds)[i]? = some d := e
          have e' : (mark' ++ a.defers)[i]? = some d' := e'
          rw [List.getElem?_append] at e e'
          by_cases hi : i < mark.length
          · rw [if_pos hi] at e; rw [if_pos (k1.1 ▸ hi)] at e'; exact k1.2 i d d' e e'
          · rw [if_neg hi] at e; rw [if_neg (k1.1 ▸ hi)] at e'; rw [← k1.1] at e'; exact k2.2 _ d d' e e'
        · refine ⟨(r'.pending.map Item.code).toList ++ k, ?_, ?_⟩
          · rw [← L2.2.1]; exact outOf_ends ho k
          · have hst' : r'.state ≠ .busy := by rw [← L2.1]; exact hst
            have s1 := Steps.one (st_rangeFunc (k := k) (cs := cs) hen hs hc)
            have s2 := st (atLoop b a rl mark' k) cs
            have e1 : (atLoop b a rl mark' k).finish v' = At b ⟨a.tmps, mark' ++ a.defers⟩ (.endRangeFunc rl :: k) := rfl
            rw [e1] at s2
            have s3 := Steps.one (st_endRangeFunc (P := P) (b := b) (a := ⟨a.tmps, mark' ++ a.defers⟩) (k := k) (cs := cs) hw2 hst')
            exact (s1.trans s2).trans s3
      cases hst : r.state with
      | busy => exact .inl fun cs => ⟨0, by rw [hf, hr]; simp [hst]⟩
      | _ =>
        cases ho : outOf r.pending with
        | none => exact .inl fun cs => ⟨0, by rw [hf, hr]; simp [hst, ho]⟩
        | some o => exact goOn (by rw [hst]; intro k; cases k) o ho fun cs => by rw [hf, hr]; simp [hst, ho, St.at]
theorem evRange (e : Env) (rec : Rec) (f : Operand) (params : Array Tmp) (assign body : Code) (fn : FuncId) (nt : Nat) (rn : Option Nat) (s : St) : evF (.rangeFunc f params assign body) e rec ⟨fn, nt, rn⟩ s = (match (match rn with
        | none => some (s.nx, s.nx + 1, s.hp.set s.nx (some (.deferred (some []))), [(⟨.collected s.nx, #[]⟩ : Deferred)])
        | some l => (match s.hp.get l with
          | some (.loop r) => some (r.defers, s.nx, s.hp, [])
          | _ => none)) with
      | some (df, l, h, mark) => rangeE e rec ((opd f).run s.to) s.to s.ds mark l (h.set l (some (.loop ⟨.ready, none, fn, s.to, nt, params.toList, assign, body, df⟩))) (l + 1) s.cs
      | none => .need 0) := by cases rn <;> rfl
theorem range_says (ok : EnvOk P ng e) (kok : KOk P ng B0 w0 e) (ih : RecSays P ng B0 w0 rec) (hn : nt ≤ 512) {f : Operand} {params : Array Tmp} {assign body : Code} (hok : CodeOk g nt (.rangeFunc f params assign body)) {s : St} (S : SRel B0 w0 g nt s a w)
    (hg : GlobOk g ng) (hrn : RndOk g b rn) :
    Says P B0 w0 b nt g s.nx (.rangeFunc f params assign body) a w fun cs => evF (.rangeFunc f params assign body) e rec ⟨b.fn, nt, rn⟩ (s.at cs) := by
  obtain ⟨ng', hg', hc⟩ := hok
  unfold codeOk at hc
  rw [Bool.and_eq_true, Bool.and_eq_true, Bool.and_eq_true] at hc
  obtain ⟨c1, c2, c3, c4⟩ := hc
  have hfv := opnd_rel S.act.1 hg' c1
  have h0 : (fun cs => evF (.rangeFunc f params assign body) e rec ⟨b.fn, nt, rn⟩ (s.at cs)) = fun cs => _ := funext fun cs => evRange e rec f params assign body b.fn nt rn (s.at cs)
  rw [h0]
  cases rn with
  | none =>
    obtain ⟨H1, E1, m1⟩ := new_deferred S.heap
    obtain ⟨H2, E2, m2⟩ := new_loop (f := b.fn) H1 (S.act.1.mono E1.ext.le) hn (asg := assign) (body := body) (ps := params) ⟨ng', hg'.mono E1.ext.le, c3⟩ ⟨ng', hg'.mono E1.ext.le, c4⟩ c2 m1
    have hrn : b.roundOf = none := hrn
    have E := E1.trans E2
    show Says P B0 w0 b nt g s.nx (.rangeFunc f params assign body) a w fun cs => rangeE e rec ((opd f).run s.to) s.to s.ds [⟨.collected s.nx, #[]⟩] (s.nx + 1) ((s.hp.set s.nx (some (.deferred (some [])))).set (s.nx + 1) (some (.loop ⟨.ready, none, b.fn, s.to, nt, params.toList, assign, body, s.nx⟩))) (s.nx + 1 + 1) cs
    refine rangeE_says ok kok ih (mark' := [⟨.collected w.heap.size, #[]⟩]) (hg.mono E.ext.le) S.act.1 (S.act.2.mono E.ext.le) ?_ hfv H2 E m2 ?_
    · have hcoll : DRel ((g.add s.nx (w.heap.size, 0) none).add (s.nx + 1) ((w.alloc (.deferred (some []))).heap.size, 0) none) ⟨.collected s.nx, #[]⟩ ⟨.collected w.heap.size, #[]⟩ := .coll (E2.ext.le.1 _ _ m1)
      refine ⟨rfl, fun i d d' e e' => ?_⟩
      cases i with
      | zero => simp at e e'; subst e; subst e'; exact hcoll
      | succ i => simp at e
    · rw [hrn]; rfl
  | some l0 =>
    obtain ⟨rl0, hrn, hl0⟩ := hrn
    cases hr : s.hp.get l0 with
    | none => exact .dead fun cs => ⟨0, by simp [St.at, hr]⟩
    | some ob =>
      cases ob <;> first | (refine .dead ?_; intro cs; refine ⟨0, ?_⟩; simp [St.at, hr]; done) | skip
      rename_i r
      obtain ⟨r', _, hw, hB, L⟩ := S.heap.loopAt hr hl0
      have hdf : g.blk r.defers = some (r'.defers, 0) := L.2.2.2.2.2.2.2.1
      obtain ⟨H2, E2, m2⟩ := new_loop (f := b.fn) S.heap S.act.1 hn (asg := assign) (body := body) (ps := params) ⟨ng', hg', c3⟩ ⟨ng', hg', c4⟩ c2 hdf
      have hrun : (fun cs => (match (match (some l0 : Option Nat) with
        | none => some ((s.at cs).nx, (s.at cs).nx + 1, (s.at cs).hp.set (s.at cs).nx (some (.deferred (some []))), [(⟨.collected (s.at cs).nx, #[]⟩ : Deferred)])
        | some l => (match (s.at cs).hp.get l with
          | some (.loop r) => some (r.defers, (s.at cs).nx, (s.at cs).hp, [])
          | _ => none)) with
          | some (df, l, h, mark) => rangeE e rec ((opd f).run (s.at cs).to) (s.at cs).to (s.at cs).ds mark l (h.set l (some (.loop ⟨.ready, none, b.fn, (s.at cs).to, nt, params.toList, assign, body, df⟩))) (l + 1) (s.at cs).cs
          | none => .need 0)) = fun cs => rangeE e rec ((opd f).run s.to) s.to s.ds [] s.nx (s.hp.set s.nx (some (.loop ⟨.ready, none, b.fn, s.to, nt, params.toList, assign, body, r.defers⟩))) (s.nx + 1) cs := by
        funext cs; simp [St.at, hr]
      rw [hrun]
      refine rangeE_says ok kok ih (mark' := []) (hg.mono E2.ext.le) S.act.1 (S.act.2.mono E2.ext.le) ⟨rfl, fun i d d' e => by simp at e⟩ hfv H2 E2 m2 ?_
      rw [hrn]
      unfold Instr.enterLoop
      simp only
      have hgl := run_getLoop (P := P) hw
      rw [rBind hgl]
      rfl
end
end
end Sw

namespace Sw
noncomputable section
open Go Go.RowKit
theorem beq_eq {a b : Nat} (h : Nat.beq a b = true) : a = b := Nat.eq_of_beq_eq_true h
theorem vEqs_sound {f : Value → Value → Bool} (hf : ∀ a b, f a b = true → a = b) : ∀ x y : List Value, vEqs f x y = true → x = y
  | [], [], _ => rfl
  | a :: x, b :: y, h => by
    simp only [vEqs, Bool.and_eq_true] at h
    rw [hf a b h.1, vEqs_sound hf x y h.2]
  | [], _ :: _, h => by cases h
  | _ :: _, [], h => by cases h
theorem vEq_sound : ∀ (n : Nat) (a b : Value), vEq n a b = true → a = b := by
  intro n
  induction n with
  | zero =>
    intro a b h
    unfold vEq at h
    split at h <;> first | (cases h; done) | rfl | skip
    · rename_i a b; cases a <;> cases b <;> first | rfl | cases h
    · rw [Bool.and_eq_true] at h; rw [sameK_iff h.1, eqI_iff.1 h.2]
    · rw [eqB_eq] at h; exact congrArg Value.string (strs_inj (by simpa using h))
    · rw [Bool.and_eq_true] at h; rw [beq_eq h.1, beq_eq h.2]
    · rw [Bool.and_eq_true] at h; rw [beq_eq h.1, beq_eq h.2]
    · rw [Bool.and_eq_true, Bool.and_eq_true, Bool.and_eq_true] at h; rw [beq_eq h.1, beq_eq h.2.1, beq_eq h.2.2.1, beq_eq h.2.2.2]
    · rw [beq_eq h]
    all_goals (rename_i h0; exact absurd h0 (by simp))
  | succ n ih =>
    intro a b h
    unfold vEq at h
    split at h <;> first | (cases h; done) | rfl | skip
    · rename_i a b; cases a <;> cases b <;> first | rfl | cases h
    · rw [Bool.and_eq_true] at h; rw [sameK_iff h.1, eqI_iff.1 h.2]
    · rw [eqB_eq] at h; exact congrArg Value.string (strs_inj (by simpa using h))
    · rw [Bool.and_eq_true] at h; rw [beq_eq h.1, beq_eq h.2]
    · rw [Bool.and_eq_true] at h; rw [beq_eq h.1, beq_eq h.2]
    · rw [Bool.and_eq_true, Bool.and_eq_true, Bool.and_eq_true] at h; rw [beq_eq h.1, beq_eq h.2.1, beq_eq h.2.2.1, beq_eq h.2.2.2]
    · rw [beq_eq h]
    · rename_i hm
      cases hm
      rw [Bool.and_eq_true, Bool.and_eq_true] at h
      rw [beq_eq h.1, Array.toList_inj.1 (vEqs_sound ih _ _ h.2.1), Array.toList_inj.1 (vEqs_sound ih _ _ h.2.2)]
    · rename_i hm
      cases hm
      rw [Bool.and_eq_true] at h; rw [beq_eq h.1, ih _ _ h.2]
    · rename_i hm
      cases hm
      rw [Array.toList_inj.1 (vEqs_sound ih _ _ h)]
    · rename_i hm
      cases hm
      rw [Array.toList_inj.1 (vEqs_sound ih _ _ h)]
def GivesV (run : K1 → K2 → R) : Prop := (∀ kv ke, ∃ m, run kv ke = .need m) ∨ ∃ v, ∀ kv ke, run kv ke = kv v
theorem GivesV.opt (o : Option Value) : GivesV fun kv _ => optV o kv := by
  cases o with
  | none => exact .inl fun _ _ => ⟨0, rfl⟩
  | some v => exact .inr ⟨v, fun _ _ => rfl⟩
theorem GivesV.fail : GivesV fun _ _ => .need 0 := .inl fun _ _ => ⟨0, rfl⟩
theorem GivesV.val (v : Value) : GivesV fun kv _ => kv v := .inr ⟨v, fun _ _ => rfl⟩
theorem opC_gives {op : Op} (h : opCls op = 0) (hc : ∀ c, op ≠ .call c) (T : Ty) (hp : Hp) (n : Nat) (to : Tm) : GivesV ((opC op).run T hp n to) := by
  cases op <;> first
    | (simp [opCls] at h; done)
    | exact absurd rfl (hc _)
    | exact GivesV.val _
    | exact GivesV.opt _
    | exact GivesV.fail
theorem bi_gives {c : Call} (h : opCls (.call c) = 0) : ∃ b, c.callee = .builtin b ∧ ∀ (T : Ty) (hp : Hp) (n : Nat) (ts : List TypeId) (l : List Value), GivesV (bi b T hp n ts l) := by
  simp only [opCls] at h
  split at h <;> first | (cases h; done) | skip
  all_goals (rename_i hc; refine ⟨_, hc, fun T hp n ts l => ?_⟩)
  · cases ts <;> cases l <;> first | exact GivesV.fail | exact GivesV.opt _
  · cases ts <;> cases l <;> first | exact GivesV.fail | exact GivesV.opt _
  · exact GivesV.opt _
  · exact GivesV.opt _
def GivesA (n : Nat) (run : K1 → K2 → R) : Prop := (∀ kv ke, ∃ m, run kv ke = .need m) ∨ ∃ v cs, numV v = some n ∧ ∀ kv ke, run kv ke = ke (v, [(n, some (.cells cs CMeta.plain))], 1)
theorem opC_makes {op : Op} (h : opCls op = 1) (T : Ty) (n : Nat) (to : Tm) : ∀ hp : Hp, GivesA n ((opC op).run T hp n to) := by
  cases op <;> first | (simp [opCls] at h; done) | skip
  · rename_i el
    intro hp
    show GivesA n fun kv ke => (match T.zero el with | some z => ke (eNew n z.cells.toList) | none => .need 0)
    cases T.zero el with
    | none => exact .inl fun _ _ => ⟨0, rfl⟩
    | some z => exact .inr ⟨_, _, rfl, fun _ _ => rfl⟩
  · intro hp
    exact .inr ⟨_, _, rfl, fun _ _ => rfl⟩
  · rename_i t len ps
    intro hp
    show GivesA n fun kv ke => optE (eBuildSlice T t len (runParts (partC ps.toList) to) n) ke
    cases he : eBuildSlice T t len (runParts (partC ps.toList) to) n with
    | none => exact .inl fun _ _ => ⟨0, rfl⟩
    | some f =>
      unfold eBuildSlice at he
      split at he
      · split at he
        · rename_i s z _ _
          cases hb : (Nat.ble (len * s) 16777216 && Nat.beq z.cells.toList.length s) with
          | false => rw [hb] at he; cases he
          | true =>
            rw [hb] at he
            obtain ⟨c, _, rfl⟩ := Option.map_eq_some_iff.1 he
            exact .inr ⟨_, _, rfl, fun _ _ => rfl⟩
        · cases he
      · cases he
  · rename_i t l c
    intro hp
    show GivesA n fun kv ke => optE (eMakeSlice T t ((opd l).run to) ((opd c).run to) n) ke
    cases he : eMakeSlice T t ((opd l).run to) ((opd c).run to) n with
    | none => exact .inl fun _ _ => ⟨0, rfl⟩
    | some f =>
      unfold eMakeSlice at he
      split at he
      · split at he
        · split at he
          · rename_i kk ll kk2 cc _ _ _ _ inf hinf _ z hz
            cases hb : (Nat.ble ll cc && (Nat.ble (cc * inf.bytes) 1099511627776 && Nat.blt cc 2147483648)) with
            | false => rw [hb] at he; cases he
            | true =>
              rw [hb] at he
              cases he
              exact .inr ⟨_, _, rfl, fun _ _ => rfl⟩
          · cases he
        · cases he
      · cases he
  · exfalso; simp only [opCls] at h; split at h <;> cases h
theorem opC_blind {op : Op} (h : opCls op = 1) (T : Ty) (n : Nat) (to : Tm) (hp hp' : Hp) : (opC op).run T hp n to = (opC op).run T hp' n to := by
  cases op <;> first | (simp [opCls] at h; done) | rfl
end
end Sw

namespace Sw
noncomputable section
open Go Go.RowKit
section
variable {e : Env} {rec : Rec} {fm : Fm} {to : Tm} {ds : List Deferred} {hp : Ht} {nx : Nat}
theorem clOp_plain {op : Op} (hc : opCls op ≠ 2) (hn : ∀ c, op ≠ .call c) (dst : Option Nat) : clOp op dst = ⟨fun e _ _ to ds hp nx cs k => (opC op).run e.T hp.get nx to (fun v => k ⟨(dstC dst).run to v, ds, hp, nx, cs⟩) (keOf (dstC dst).run e.low to ds hp nx cs k)⟩ := by
  cases op <;> first | rfl | exact absurd rfl (hn _) | (exact absurd rfl hc)
theorem valC_plain {op : Op} (hn : ∀ c, op ≠ .call c) : valC op = ⟨fun T hp n to kv => (opC op).run T hp n to kv (fun _ => .need 0)⟩ := by
  cases op <;> first | rfl | exact absurd rfl (hn _)
theorem isCall (op : Op) : (∃ c, op = .call c) ∨ ∀ c, op ≠ .call c := by
  cases op <;> first | exact .inl ⟨_, rfl⟩ | exact .inr fun c h => by cases h
theorem clOp_val {op : Op} (h : opCls op = 0) (dst : Option Nat) (e : Env) (rec : Rec) (fm : Fm) (to : Tm) (ds : List Deferred) (hp : Ht) (nx : Nat) :
    (∀ cs k, ∃ m, (clOp op dst).run e rec fm to ds hp nx cs k = .need m) ∨
    ∃ v, (∀ cs k, (clOp op dst).run e rec fm to ds hp nx cs k = k ⟨(dstC dst).run to v, ds, hp, nx, cs⟩) ∧ ∀ kv, (valC op).run e.T hp.get nx to kv = kv v := by
  rcases isCall op with ⟨c, rfl⟩ | hn
  · obtain ⟨b, hb, hg⟩ := bi_gives h
    have h1 : ∀ cs k, (clOp (.call c) dst).run e rec fm to ds hp nx cs k = bi b e.T hp.get nx c.argTypes.toList (runs (opds c.args.toList) to) (fun v => k ⟨(dstC dst).run to v, ds, hp, nx, cs⟩) (keOf (dstC dst).run e.low to ds hp nx cs k) := by
      intro cs k; simp only [clOp, hb]; rfl
    have h2 : ∀ kv, (valC (.call c)).run e.T hp.get nx to kv = bi b e.T hp.get nx c.argTypes.toList (runs (opds c.args.toList) to) kv (fun _ => .need 0) := by
      intro kv; simp only [valC, hb]
    rcases hg e.T hp.get nx c.argTypes.toList (runs (opds c.args.toList) to) with g | ⟨v, g⟩
    · exact .inl fun cs k => by rw [h1]; exact g _ _
    · exact .inr ⟨v, fun cs k => by rw [h1, g], fun kv => by rw [h2, g]⟩
  · have h1 := clOp_plain (by rw [h]; decide) hn dst
    have h2 := valC_plain hn
    rw [h1, h2]
    rcases opC_gives h hn e.T hp.get nx to with g | ⟨v, g⟩
    · exact .inl fun cs k => g _ _
    · exact .inr ⟨v, fun cs k => by simp only [g], fun kv => by simp only [g]⟩
theorem clOp_make {op : Op} (h : opCls op = 1) (dst : Option Nat) (e : Env) (rec : Rec) (fm : Fm) (to : Tm) (ds : List Deferred) (hp : Ht) (nx : Nat) :
    (∀ cs k, ∃ m, (clOp op dst).run e rec fm to ds hp nx cs k = .need m) ∨
    ∃ v cells, numV v = some nx ∧ (∀ cs k, (clOp op dst).run e rec fm to ds hp nx cs k = k ⟨(dstC dst).run to v, ds, hp.set nx (some (.cells cells CMeta.plain)), nx + 1, cs⟩) := by
  have hn : ∀ c, op ≠ .call c := fun c hc => by subst hc; simp only [opCls] at h; split at h <;> cases h
  have h1 := clOp_plain (by rw [h]; decide) hn dst
  rw [h1]
  rcases opC_makes h e.T nx to hp.get with g | ⟨v, cells, hv, g⟩
  · exact .inl fun cs k => g _ _
  · cases hb : Nat.ble e.low nx with
    | false => exact .inl fun cs k => ⟨0, by simp only [g, keOf, updT, hb, cond_false]⟩
    | true => exact .inr ⟨v, cells, hv, fun cs k => by simp only [g, keOf, updT, hb, cond_true]⟩
def gw (all : List Oper) (o : Oper) (to : Tm) : Option Bool := match o.guard with
  | none => some true
  | some (j, w) => match guardC all j with
    | some g => some (wantedE w (g.run to))
    | none => none
theorem compOp_gw (all : List Oper) (o : Oper) (e : Env) (rec : Rec) (fm : Fm) (to : Tm) (ds : List Deferred) (hp : Ht) (nx : Nat) (cs : List Nat) (k : St → R) :
    (compOp all o).run e rec fm to ds hp nx cs k = (match gw all o to with
      | some true => (clOp o.op o.dst).run e rec fm to ds hp nx cs k
      | some false => k ⟨(dstC o.dst).run to undef, ds, hp, nx, cs⟩
      | none => .need 0) := by
  obtain ⟨dst, op, ty, pos, after, guard⟩ := o
  cases guard with
  | none => rfl
  | some jw =>
    obtain ⟨j, w⟩ := jw
    simp only [gw, compOp]
    cases guardC all j with
    | none => rfl
    | some g =>
      simp only
      cases wantedE w (g.run to) <;> rfl
structure NeStep (cls : Nat) (dst : Option Nat) (s s1 : St) : Prop where
  ds : s1.ds = s.ds
  step : ∃ v, s1.to = (dstC dst).run s.to v ∧ ((s1.hp = s.hp ∧ s1.nx = s.nx ∧ (cls = 1 → numV v = none)) ∨ (cls = 1 ∧ numV v = some s.nx ∧ s1.nx = s.nx + 1 ∧ ∃ cells, s1.hp = s.hp.set s.nx (some (.cells cells CMeta.plain))))
theorem ne_step (all : List Oper) {o : Oper} (h : opCls o.op ≠ 2) (e : Env) (rec : Rec) (fm : Fm) (s : St) :
    (∀ cs k, ∃ m, (compOp all o).run e rec fm s.to s.ds s.hp s.nx cs k = .need m) ∨
    ∃ s1, NeStep (opCls o.op) o.dst s s1 ∧ ∀ cs k, (compOp all o).run e rec fm s.to s.ds s.hp s.nx cs k = k (s1.at cs) := by
  cases hg : gw all o s.to with
  | none => exact .inl fun cs k => ⟨0, by rw [compOp_gw, hg]⟩
  | some wn =>
    cases wn with
    | false =>
      refine .inr ⟨⟨(dstC o.dst).run s.to undef, s.ds, s.hp, s.nx, []⟩, ⟨rfl, undef, rfl, .inl ⟨rfl, rfl, fun _ => rfl⟩⟩, fun cs k => ?_⟩
      rw [compOp_gw, hg]; rfl
    | true =>
      have hcls : opCls o.op = 0 ∨ opCls o.op = 1 := by
        have : opCls o.op = 0 ∨ opCls o.op = 1 ∨ opCls o.op = 2 := by
          cases hop : o.op <;> simp [opCls]
          split <;> simp
        rcases this with h1 | h1 | h1
        · exact .inl h1
        · exact .inr h1
        · exact absurd h1 h
      rcases hcls with hc | hc
      · rcases clOp_val hc o.dst e rec fm s.to s.ds s.hp s.nx with g | ⟨v, g, _⟩
        · exact .inl fun cs k => by rw [compOp_gw, hg]; exact g cs k
        · refine .inr ⟨⟨(dstC o.dst).run s.to v, s.ds, s.hp, s.nx, []⟩, ⟨rfl, v, rfl, .inl ⟨rfl, rfl, fun k => by rw [hc] at k; cases k⟩⟩, fun cs k => ?_⟩
          rw [compOp_gw, hg]; exact g cs k
      · rcases clOp_make hc o.dst e rec fm s.to s.ds s.hp s.nx with g | ⟨v, cells, hv, g⟩
        · exact .inl fun cs k => by rw [compOp_gw, hg]; exact g cs k
        · refine .inr ⟨⟨(dstC o.dst).run s.to v, s.ds, s.hp.set s.nx (some (.cells cells CMeta.plain)), s.nx + 1, []⟩, ⟨rfl, v, rfl, .inr ⟨hc, hv, rfl, cells, rfl⟩⟩, fun cs k => ?_⟩
          rw [compOp_gw, hg]; exact g cs k
end
end
end Sw

namespace Sw
noncomputable section
open Go Go.RowKit
def GoodV (o : Oper) (T : Ty) (hp : Ht) (n : Nat) (to : Tm) : Prop := ∃ v, (∀ kv, (valC o.op).run T hp.get n to kv = kv v) ∧ ∀ d, o.dst = some d → to.get d = v
def GoodA (o : Oper) (T : Ty) (hp : Ht) (to : Tm) : Prop := ∃ d m cells, o.dst = some d ∧ numV (to.get d) = some m ∧ hp.get m = some (.cells cells CMeta.plain) ∧
  ∀ kv ke, (opC o.op).run T hp.get m to kv ke = ke (to.get d, [(m, some (.cells cells CMeta.plain))], 1)
def Good (all : List Oper) (o : Oper) (T : Ty) (hp : Ht) (n : Nat) (to : Tm) : Prop :=
  (gw all o to = some false ∧ ∀ d, o.dst = some d → to.get d = undef) ∨ (gw all o to = some true ∧ ((opCls o.op = 0 ∧ GoodV o T hp n to) ∨ (opCls o.op = 1 ∧ GoodA o T hp to)))
theorem valC_gives {op : Op} (h : opCls op = 0) (T : Ty) (hp : Hp) (n : Nat) (to : Tm) : (∀ kv, ∃ m, (valC op).run T hp n to kv = .need m) ∨ ∃ v, ∀ kv, (valC op).run T hp n to kv = kv v := by
  rcases isCall op with ⟨c, rfl⟩ | hn
  · obtain ⟨b, hb, hg⟩ := bi_gives h
    have h2 : ∀ kv, (valC (.call c)).run T hp n to kv = bi b T hp n c.argTypes.toList (runs (opds c.args.toList) to) kv (fun _ => .need 0) := by
      intro kv; simp only [valC, hb]
    rcases hg T hp n c.argTypes.toList (runs (opds c.args.toList) to) with g | ⟨v, g⟩
    · exact .inl fun kv => by rw [h2]; exact g _ _
    · exact .inr ⟨v, fun kv => by rw [h2, g]⟩
  · rw [valC_plain hn]
    rcases opC_gives h hn T hp n to with g | ⟨v, g⟩
    · exact .inl fun kv => g _ _
    · exact .inr ⟨v, fun kv => by simp only [g]⟩
theorem plainM_eq {m : CMeta} (h : plainM m = true) : m = CMeta.plain := by
  obtain ⟨ro, grp, base, unit⟩ := m
  simp only [plainM, Bool.and_eq_true] at h
  obtain ⟨h1, h2, h3, h4⟩ := h
  cases ro <;> cases grp <;> first | (cases h1; done) | (cases h2; done) | skip
  rw [beq_eq h3, beq_eq h4]; rfl
theorem chkV_run (op : Op) (d : Option Nat) (T : Ty) (hp : Ht) (n : Nat) (to : Tm) (k : R) :
    (chkV op d).run T hp n to k = (valC op).run T hp.get n to (fun v => match d with | some d => (bif vEq 8 v (to.get d) then k else .need 0) | none => k) := by
  cases d <;> rfl
theorem chkA_run (op : Op) (d : Nat) (T : Ty) (hp : Ht) (n : Nat) (to : Tm) (k : R) :
    (chkA op (some d)).run T hp n to k = (match numV (to.get d) with
      | some m => (opC op).run T hp.get m to (fun _ => .need 0) (fun f => match f with
        | (v, ups, _) => match ups, hp.get m with
          | [(_, some (.cells cs _))], some (.cells cs' m') => bif vEq 8 v (to.get d) && (vEqs (vEq 8) cs cs' && plainM m') then k else .need 0
          | _, _ => .need 0)
      | none => .need 0) := rfl
theorem chkOp_dich (o : Oper) (hc : opCls o.op = 0 ∨ opCls o.op = 1) (T : Ty) (hp : Ht) (n : Nat) (to : Tm) :
    (∀ k, ∃ m, (chkOp o).run T hp n to k = .need m) ∨ ((∀ k, (chkOp o).run T hp n to k = k) ∧ ((opCls o.op = 0 ∧ GoodV o T hp n to) ∨ (opCls o.op = 1 ∧ GoodA o T hp to))) := by
  rcases hc with hc | hc
  · have e : chkOp o = chkV o.op o.dst := by unfold chkOp; rw [hc]; rfl
    rw [e]
    rcases valC_gives hc T hp.get n to with g | ⟨v, g⟩
    · exact .inl fun k => by rw [chkV_run]; exact g _
    · cases hd : o.dst with
      | none => exact .inr ⟨fun k => by rw [chkV_run, g], .inl ⟨hc, v, g, fun d h => by rw [hd] at h; cases h⟩⟩
      | some d =>
        cases hv : vEq 8 v (to.get d) with
        | false => exact .inl fun k => ⟨0, by rw [chkV_run, g]; simp only [hv, cond_false]⟩
        | true => exact .inr ⟨fun k => by rw [chkV_run, g]; simp only [hv, cond_true], .inl ⟨hc, v, g, fun d' h => by rw [hd] at h; cases h; exact (vEq_sound 8 _ _ hv).symm⟩⟩
  · have e : chkOp o = chkA o.op o.dst := by unfold chkOp; rw [hc]; rfl
    rw [e]
    cases hd : o.dst with
    | none => exact .inl fun k => ⟨0, rfl⟩
    | some d =>
      cases hm : numV (to.get d) with
      | none => exact .inl fun k => ⟨0, by rw [chkA_run, hm]⟩
      | some m =>
        rcases opC_makes hc T m to hp.get with g | ⟨v, cells, hv, g⟩
        · exact .inl fun k => by rw [chkA_run, hm]; exact g _ _
        · cases hh : hp.get m with
          | none => exact .inl fun k => ⟨0, by rw [chkA_run, hm]; simp only [g, hh]⟩
          | some ob =>
            cases ob <;> first | (refine .inl ?_; intro k; refine ⟨0, ?_⟩; rw [chkA_run, hm]; simp only [g, hh]; done) | skip
            rename_i cs' m'
            cases hq : (vEq 8 v (to.get d) && (vEqs (vEq 8) cells cs' && plainM m')) with
            | false => exact .inl fun k => ⟨0, by rw [chkA_run, hm]; simp only [g, hh, hq, cond_false]⟩
            | true =>
              refine .inr ⟨fun k => by rw [chkA_run, hm]; simp only [g, hh, hq, cond_true], .inr ⟨hc, d, m, cells, hd, hm, ?_, ?_⟩⟩
              · rw [Bool.and_eq_true, Bool.and_eq_true] at hq
                rw [hh, vEqs_sound (vEq_sound 8) _ _ hq.2.1, plainM_eq hq.2.2]
              · rw [Bool.and_eq_true, Bool.and_eq_true] at hq
                rw [← vEq_sound 8 _ _ hq.1]; exact g
theorem chkG_gw (all : List Oper) (o : Oper) (T : Ty) (hp : Ht) (n : Nat) (to : Tm) (k : R) :
    (chkG all o).run T hp n to k = (match gw all o to with
      | some true => (chkOp o).run T hp n to k
      | some false => (bif undefAt o.dst to then k else .need 0)
      | none => .need 0) := by
  unfold chkG gw
  cases o.guard with
  | none => rfl
  | some jw =>
    obtain ⟨j, w⟩ := jw
    simp only
    cases guardC all j with
    | none => rfl
    | some g =>
      simp only
      cases wantedE w (g.run to) <;> rfl
theorem chk_dich (all : List Oper) (o : Oper) (hc : opCls o.op = 0 ∨ opCls o.op = 1) (T : Ty) (hp : Ht) (n : Nat) (to : Tm) :
    (∀ k, ∃ m, (chkG all o).run T hp n to k = .need m) ∨ ((∀ k, (chkG all o).run T hp n to k = k) ∧ Good all o T hp n to) := by
  cases hg : gw all o to with
  | none => exact .inl fun k => ⟨0, by rw [chkG_gw, hg]⟩
  | some wn =>
    cases wn with
    | false =>
      cases hu : undefAt o.dst to with
      | false => exact .inl fun k => ⟨0, by rw [chkG_gw, hg]; simp only [hu, cond_false]⟩
      | true =>
        refine .inr ⟨fun k => by rw [chkG_gw, hg]; simp only [hu, cond_true], .inl ⟨hg, fun d hd => ?_⟩⟩
        rw [hd] at hu
        exact (vEq_sound 8 _ _ hu).symm
    | true =>
      rcases chkOp_dich o hc T hp n to with g | ⟨g1, g2⟩
      · exact .inl fun k => by rw [chkG_gw, hg]; exact g k
      · exact .inr ⟨fun k => by rw [chkG_gw, hg]; exact g1 k, .inr ⟨hg, g2⟩⟩
end
end Sw

namespace Sw
noncomputable section
open Go Go.RowKit
section
variable {P : Program} {ng : Nat} {e : Env} {B0 : Nat} {w0 : World} {b : Frame} {g : Gm} {nx nx0 : Nat} {a : Act} {w : World} {to : Tm} {hp : Ht} {ops : Array Oper} {i : Nat} {o : Oper}
theorem Ext.low {g' : Gm} {w' : World} {nx' : Nat} (h : Ext g nx w g' nx' w') (k : nx0 ≤ nx) : Ext g nx0 w g' nx' w' :=
  ⟨⟨h.ext.le, Nat.le_trans k h.ext.num, fun b hb => (h.ext.new b hb).imp id (Nat.le_trans k)⟩, h.kept, h.held⟩
theorem Ext.trans0 {g1 g2 : Gm} {n n1 n2 : Nat} {w1 w2 : World} (h : Ext g n w g1 n1 w1) (k : Ext g1 n w1 g2 n2 w2) : Ext g n w g2 n2 w2 :=
  ⟨⟨Gm.le_trans h.ext.le k.ext.le, k.ext.num, fun b hb => (k.ext.new b hb).elim (fun q => h.ext.new b q) .inr⟩, h.kept.trans h.held k.kept, fun b rb ro e => by
    rcases k.held b rb ro e with ⟨b0, r0, q⟩ | q
    · exact h.held b0 rb r0 q
    · exact .inr (Nat.le_trans h.kept.1 q)⟩
theorem Goes.value {Q : Eff → Prop} {run : K1 → K2 → R} {v : Value} (h : ∀ kv ke, Goes Q (fun i : List Nat => run (kv i) (ke i)) kv ke) (hv : ∀ kv, run kv (fun _ => .need 0) = kv v) : Q (v, [], 0) := by
  classical
  let s0 : St := ⟨Tm.undef, [], .nil, 0, []⟩
  have := h (fun _ u => if u = v then .ok (0, s0) else .need 0) (fun _ _ => .need 0)
  have e0 : run (fun u => if u = v then .ok (0, s0) else .need 0) (fun _ => .need 0) = .ok (0, s0) := by rw [hv]; simp
  rcases this with q | ⟨u, q1, q2⟩ | ⟨f, q1, _⟩
  · obtain ⟨m, q⟩ := q []; simp only [e0] at q; cases q
  · have q := q1 []
    simp only [e0] at q
    by_cases hu : u = v
    · subst hu; exact q2
    · rw [if_neg hu] at q; cases q
  · have q := q1 []; simp only [e0] at q; cases q
theorem Goes.effect {Q : Eff → Prop} {run : K1 → K2 → R} {f : Eff} (h : ∀ kv ke, Goes Q (fun i : List Nat => run (kv i) (ke i)) kv ke) (hf : ∀ kv ke, run kv ke = ke f) : Q f := by
  classical
  let s0 : St := ⟨Tm.undef, [], .nil, 0, []⟩
  have := h (fun _ _ => .need 0) (fun _ u => if u = f then .ok (0, s0) else .need 0)
  have e0 : run (fun _ => .need 0) (fun u => if u = f then .ok (0, s0) else .need 0) = .ok (0, s0) := by rw [hf]; simp
  rcases this with q | ⟨u, q1, q2⟩ | ⟨u, q1, q2⟩
  · obtain ⟨m, q⟩ := q []; simp only [e0] at q; cases q
  · have q := q1 []; simp only [e0] at q; cases q
  · have q := q1 []
    simp only [e0] at q
    by_cases hu : u = f
    · subst hu; exact q2
    · rw [if_neg hu] at q; cases q
def PendStep (P : Program) (B0 : Nat) (w0 : World) (b : Frame) (g : Gm) (nx0 : Nat) (hp : Ht) (nx : Nat) (to : Tm) (ops : Array Oper) (i : Nat) (o : Oper) (a : Act) (w : World) : Prop :=
  ∃ v' w' g', HRel B0 w0 g' hp.get nx w' ∧ (∀ d, o.dst = some d → VRel g' (to.get d) v') ∧ Ext g nx0 w g' nx w' ∧
    (∀ m, g'.blk m ≠ none → g.blk m ≠ none ∨ (opCls o.op = 1 ∧ ∃ d, o.dst = some d ∧ numV (to.get d) = some m)) ∧
    ∀ rest k cs, Steps P (lone (At b a (.inRegion ops (i :: rest) :: k)) cs w) (lone (At b (a.put o.dst v') (.inRegion ops rest :: k)) cs w')
theorem opC_goes (ok : EnvOk P ng e) {hp : Hp} (H : HRel B0 w0 g hp nx w) (hρ : ORels g to a.eval o.op.operands.toList) (n : Nat) (kv : List Nat → K1) (ke : List Nat → K2) :
    Goes (OpS P B0 w0 g hp nx n w ((execOp a.eval o).run P w)) (fun i => (opC o.op).run e.T hp n to (kv i) (ke i)) kv ke := opC_sound ok.T ok.cl H hρ kv ke
theorem pend_step (ok : EnvOk P ng e) (H : HRel B0 w0 g hp.get nx w) (ho : ops[i]? = some o) (hρ : ORels g to a.eval o.op.operands.toList) (hG : GuardRel g ops to a o) (hn0 : nx0 ≤ nx)
    (good : Good ops.toList o e.T hp nx to) (hm : opCls o.op = 1 → ∀ d m, o.dst = some d → numV (to.get d) = some m → g.blk m = none ∧ nx0 ≤ m ∧ m < nx) :
    PendStep P B0 w0 b g nx0 hp nx to ops i o a w := by
  have hwant : ∀ wn, gw ops.toList o to = some wn → Region.wanted o (yielded ops a.tmps) = wn := by
    intro wn h
    cases hg : o.guard with
    | none =>
      simp only [gw, hg] at h
      cases h
      simp [Region.wanted, hg]
    | some jw =>
      obtain ⟨j, w'⟩ := jw
      simp only [gw, hg] at h
      cases hj : ops[j]? with
      | none =>
        have : guardC ops.toList j = none := by simp [guardC, nthO_get, hj]
        rw [this] at h; cases h
      | some oj =>
        cases hd : oj.dst with
        | none =>
          have : guardC ops.toList j = none := by simp [guardC, nthO_get, hj, hd, optC]
          rw [this] at h; cases h
        | some d =>
          have : guardC ops.toList j = some (opd (.tmp d)) := by simp [guardC, nthO_get, hj, hd, optC]
          rw [this] at h
          have hwr := wanted_rel hG hg hj hd
          rw [hwr]
          simp only [Option.some.injEq] at h
          exact h
  rcases good with ⟨g1, g2⟩ | ⟨g1, g2⟩
  · have hw := hwant _ g1
    refine ⟨undef, w, g, H, fun d hd => by rw [g2 d hd]; exact VRel.undef g, Ext.low (Ext.refl _ _ _) hn0, fun m hm => .inl hm, fun rest k cs => .one (st_opUnwanted ho hw)⟩
  · have hw := hwant _ g1
    have hnd : notDefer o.op = true := by
      cases hop : o.op <;> first | rfl | skip
      exfalso
      rw [hop] at g2
      rcases g2 with ⟨q, _⟩ | ⟨q, _⟩ <;> cases q
    rcases g2 with ⟨hc, v, hv, hd⟩ | ⟨hc, d, m, cells, hd, hnum, hcell, hrun⟩
    · have Q : OpS P B0 w0 g hp.get nx nx w ((execOp a.eval o).run P w) (v, [], 0) := by
        rcases isCall o.op with ⟨c, hop⟩ | hnc
        · obtain ⟨bn, hb, hg⟩ := bi_gives (by rw [hop] at hc; exact hc)
          have hargs : LRel g (runs (opds c.args.toList) to) (c.args.map a.eval).toList := by
            rw [Array.toList_map]
            rw [hop] at hρ
            exact opds_rel c.args.toList fun x hx => hρ x (by simp only [Op.operands, Call.operands]; cases c.callee <;> simp [hx])
          have e1 : (execOp a.eval o).run P w = (Go.builtin bn c.argTypes.toList.toArray o.type (c.args.map fun | .const _ => true | _ => false) (c.args.map a.eval).toList.toArray).run P w := by
            simp only [execOp, hop, resolve, hb]; rfl
          rw [e1]
          refine Goes.value (run := fun kv ke => bi bn e.T hp.get nx c.argTypes.toList (runs (opds c.args.toList) to) kv ke) (fun kv ke => bi_sound ok.T H hargs o.type _ kv ke) (fun kv => ?_)
          have := hv kv
          rw [hop] at this
          simp only [valC, hb] at this
          exact this
        · refine Goes.value (run := fun kv ke => (opC o.op).run e.T hp.get nx to kv ke) (fun kv ke => opC_goes ok H hρ nx kv ke) (fun kv => ?_)
          have := hv kv
          rw [valC_plain hnc] at this
          exact this
      obtain ⟨g', v', w', E⟩ := Q nx (Nat.le_refl _) (Nat.le_refl _) (fun j hj => by cases hj)
      have hnew : ∀ b', g'.blk b' ≠ none → g.blk b' ≠ none := fun b' hb => by
        rcases E.new b' hb with h | h
        · exact h
        · have h2 : b' < nx + 0 := h.2
          omega
      refine ⟨v', w', g', E.rel, fun d' h => by rw [hd d' h]; exact E.val, ⟨⟨E.le, hn0, fun b' hb => .inl (hnew b' hb)⟩, E.keeps.kept E.size, E.held⟩, fun m' hm' => .inl (hnew m' hm'), fun rest k cs => ?_⟩
      exact .one (st_opV ho hw (.inr hnd) E.run)
    · obtain ⟨u1, u2, u3⟩ := hm hc d m hd hnum
      have hng : ∀ ms, hp.get m ≠ some (.group ms) := fun ms h => by rw [hcell] at h; cases h
      have H0 := H.kill m hng
      have Q : OpS P B0 w0 g (Hp.set hp.get m none) nx m w ((execOp a.eval o).run P w) (to.get d, [(m, some (.cells cells CMeta.plain))], 1) :=
        Goes.effect (run := fun kv ke => (opC o.op).run e.T (Hp.set hp.get m none) m to kv ke) (fun kv ke => opC_goes ok H0 hρ m kv ke) (fun kv ke => by
          rw [opC_blind hc e.T m to (Hp.set hp.get m none) hp.get]; exact hrun kv ke)
      have hroom : g.room m = none := by
        cases hr : g.room m with
        | none => rfl
        | some x => exact absurd u1 (H.room m x hr)
      obtain ⟨g', v', w', E⟩ := Q nx (Nat.le_refl _) (by show m + 1 ≤ nx; omega) (fun j hj => by
        have hj : j < 1 := hj
        have : j = 0 := by omega
        subst this
        exact ⟨u1, hroom, Hp.set_same _ _ _⟩)
      have hhp : (Hp.set hp.get m none).upd [(m, some (.cells cells CMeta.plain))] = hp.get := by
        funext x
        show Hp.set (Hp.set hp.get m none) m (some (.cells cells CMeta.plain)) x = _
        by_cases hx : x = m
        · subst hx; rw [Hp.set_same, hcell]
        · rw [Hp.set_other _ _ hx, Hp.set_other _ _ hx]
      have hrel := E.rel
      simp only at hrel
      rw [hhp] at hrel
      have hk : Kept g w w' := ⟨E.size, fun rb hlt hno => E.keeps rb hlt fun b' _ ro _ => hno b' ro⟩
      refine ⟨v', w', g', hrel, fun d' h => by rw [hd] at h; cases h; exact E.val, ⟨⟨E.le, hn0, fun b' hb => ?_⟩, hk, E.held⟩, fun m' hm' => ?_, fun rest k cs => ?_⟩
      · rcases E.new b' hb with h | h
        · exact .inl h
        · exact .inr (by omega)
      · rcases E.new m' hm' with h | h
        · exact .inl h
        · have : m' = m := by have h1 := h.1; have h2 : m' < m + 1 := h.2; omega
          subst this
          exact .inr ⟨hc, d, hd, hnum⟩
      · exact .one (st_opV ho hw (.inr hnd) E.run)
end
end
end Sw

namespace Sw
noncomputable section
open Go Go.RowKit
theorem has_put (s i x : Nat) : has (put s i) x = (has s x || decide (i = x)) := by
  unfold has put
  have : Nat.testBit (Nat.lor s (2 ^ i)) x = (Nat.testBit s x || Nat.testBit (2 ^ i) x) := Nat.testBit_or ..
  rw [this, Nat.testBit_two_pow]
theorem has_put_self (s i : Nat) : has (put s i) i = true := by rw [has_put]; simp
theorem has_put_ne {s i x : Nat} (h : i ≠ x) : has (put s i) x = has s x := by rw [has_put]; simp [h]
theorem has_put_mono {s i x : Nat} (h : has s x = true) : has (put s i) x = true := by rw [has_put, h]; rfl
theorem has_zero (x : Nat) : has 0 x = false := by simp [has]
theorem sub_has {a b x : Nat} (h : sub a b = true) (hx : has a x = true) : has b x = true := by
  have h := beq_eq h
  have : Nat.testBit (Nat.land a b) x = (Nat.testBit a x && Nat.testBit b x) := Nat.testBit_and ..
  rw [h] at this
  unfold has at *
  rw [hx] at this
  simpa using this.symm
theorem sub_of {a b : Nat} (h : ∀ x, has a x = true → has b x = true) : sub a b = true := by
  have : Nat.land a b = a := by
    apply Nat.eq_of_testBit_eq
    intro x
    have e : Nat.testBit (Nat.land a b) x = (Nat.testBit a x && Nat.testBit b x) := Nat.testBit_and ..
    rw [e]
    cases hx : Nat.testBit a x with
    | false => rfl
    | true => have := h x hx; unfold has at this; rw [this]; rfl
  unfold sub; rw [this]; exact Nat.beq_refl a
theorem eMask_has {md : Region.Mode} {x : Nat} : ∀ {es : List Edge}, has (eMask md es) x = true ↔ ∃ e ∈ es, Region.binds md e = true ∧ e.on = x
  | [] => by simp [eMask, has_zero]
  | e :: es => by
    simp only [eMask]
    cases hb : Region.binds md e with
    | false => simp [eMask_has (es := es), hb]
    | true =>
      simp only [cond_true, has_put, Bool.or_eq_true, decide_eq_true_eq, eMask_has (es := es), List.mem_cons]
      constructor
      · rintro (⟨e', h1, h2⟩ | h)
        · exact ⟨e', .inr h1, h2⟩
        · exact ⟨e, .inl rfl, hb, h⟩
      · rintro ⟨e', rfl | h1, h2, h3⟩
        · exact .inr h3
        · exact .inl ⟨e', h1, h2, h3⟩
theorem bUp_has {bm : List Nat} {x : Nat} : ∀ {es : List Edge}, has (bUp bm es) x = true → ∃ e ∈ es, Region.binds .any e = true ∧ (x = e.on ∨ has (nthN e.on bm) x = true)
  | [], h => by simp [bUp, has_zero] at h
  | e :: es, h => by
    simp only [bUp] at h
    cases hb : Region.binds .any e with
    | false =>
      rw [hb] at h
      obtain ⟨e', h1, h2⟩ := bUp_has (es := es) h
      exact ⟨e', List.mem_cons_of_mem _ h1, h2⟩
    | true =>
      rw [hb] at h
      have : Nat.testBit (Nat.lor (nthN e.on bm) (put (bUp bm es) e.on)) x = (Nat.testBit (nthN e.on bm) x || Nat.testBit (put (bUp bm es) e.on) x) := Nat.testBit_or ..
      have h : Nat.testBit (Nat.lor (nthN e.on bm) (put (bUp bm es) e.on)) x = true := h
      rw [this, Bool.or_eq_true] at h
      rcases h with h | h
      · exact ⟨e, List.mem_cons_self .., hb, .inr h⟩
      · have h : has (put (bUp bm es) e.on) x = true := h
        rw [has_put, Bool.or_eq_true] at h
        rcases h with h | h
        · obtain ⟨e', h1, h2⟩ := bUp_has (es := es) h
          exact ⟨e', List.mem_cons_of_mem _ h1, h2⟩
        · exact ⟨e, List.mem_cons_self .., hb, .inl (by simpa using (of_decide_eq_true h).symm)⟩
def edgesAt (all : List Oper) (i : Nat) : List Edge := match nthO i all with
  | some o => o.after.toList
  | none => []
theorem maskAt_has {md : Region.Mode} {all : List Oper} {i x : Nat} : has (maskAt md all i) x = true ↔ ∃ e ∈ edgesAt all i, Region.binds md e = true ∧ e.on = x := by
  unfold maskAt edgesAt
  cases nthO i all with
  | none => simp [has_zero]
  | some o => exact eMask_has
theorem allRange {n : Nat} {p : Nat → Bool} (h : (List.range n).all p = true) {i : Nat} (hi : i < n) : p i = true := List.all_eq_true.1 h i (List.mem_range.2 hi)
structure PlanFacts (all : List Oper) (bm : List Nat) : Prop where
  dsts : ∀ i k, i < all.length → k < all.length → i ≠ k → ∀ d, dstAt all i = some d → dstAt all k ≠ some d
  looks : ∀ k, k < all.length → ∀ t, t ∈ looksAt all k → ∀ i, i < all.length → dstAt all i = some t → clsAt all i = 2 ∨ has (nthN k bm) i = true
  bm : ∀ i, i < all.length → ∀ x, has (nthN i bm) x = true → ∃ e ∈ edgesAt all i, Region.binds .any e = true ∧ (x = e.on ∨ has (nthN e.on bm) x = true)
  back : ∀ i, i < all.length → ∀ e ∈ edgesAt all i, Region.binds .any e = true → e.on < i
theorem planFacts {all : List Oper} {pl : Plan} (h : planOk all pl = true) :
    PlanFacts all pl.bm ∧ topoOk .text all (List.range all.length) 0 = true ∧ topoOk .gc all pl.gord 0 = true ∧ stagesOk all pl.bm pl.stages 0 none = true := by
  unfold planOk at h
  simp only [Bool.and_eq_true] at h
  obtain ⟨h1, h2, h3, h4, h5, h6, h7⟩ := h
  refine ⟨⟨?_, ?_, ?_, ?_⟩, h5, h6, h7⟩
  · intro i k hi hk hne d hd hd'
    have := allRange h1 hi
    rw [hd] at this
    have := allRange this hk
    rw [hd'] at this
    simp only [Bool.or_eq_true] at this
    rcases this with h | h
    · exact hne (beq_eq h)
    · rw [Nat.beq_refl] at h; cases h
  · intro k hk t ht i hi hd
    have := List.all_eq_true.1 (allRange h2 hk) t ht
    have := allRange this hi
    rw [hd] at this
    simp only [Bool.or_eq_true] at this
    rcases this with h | h | h
    · rw [Nat.beq_refl] at h; cases h
    · exact .inl (beq_eq h)
    · exact .inr h
  · intro i hi x hx
    have := allRange h3 hi
    unfold edgesAt
    cases ho : nthO i all with
    | none =>
      rw [nthO_get] at ho
      simp at ho; omega
    | some o =>
      rw [ho] at this
      exact bUp_has (sub_has this hx)
  · intro i hi e he hb
    have := allRange h4 hi
    have hx : has (maskAt .any all i) e.on = true := maskAt_has.2 ⟨e, he, hb, rfl⟩
    have := sub_has this hx
    unfold has at this
    rw [Nat.testBit_two_pow_sub_one] at this
    exact of_decide_eq_true this
theorem binds_any {md : Region.Mode} {e : Edge} (h : Region.binds .any e = true) : Region.binds md e = true := by
  unfold Region.binds at *
  split at h <;> first | (cases h; done) | (cases md <;> simp_all)
theorem topo_ready {md : Region.Mode} {all : List Oper} {lst : Nat → Prop} : ∀ (is : List Nat) (L : Nat), topoOk md all is L = true → (∀ i, has L i = true → lst i) →
    (∀ i, i < all.length → lst i) ∨ ∃ i, i < all.length ∧ ¬ lst i ∧ ∀ e ∈ edgesAt all i, Region.binds md e = true → lst e.on := by
  classical
  intro is
  induction is with
  | nil =>
    intro L h hL
    exact .inl fun i hi => hL i (allRange h hi)
  | cons i is ih =>
    intro L h hL
    simp only [topoOk, Bool.and_eq_true] at h
    obtain ⟨h0, h1, h2⟩ := h
    have hi : i < all.length := Nat.le_of_ble_eq_true h0
    by_cases hl : lst i
    · refine ih (put L i) h2 fun k hk => ?_
      rw [has_put, Bool.or_eq_true] at hk
      rcases hk with hk | hk
      · exact hL k hk
      · have := of_decide_eq_true hk; subst this; exact hl
    · exact .inr ⟨i, hi, hl, fun e he hb => hL _ (sub_has h1 (maskAt_has.2 ⟨e, he, hb, rfl⟩))⟩
end
end Sw

namespace Sw
noncomputable section
open Go Go.RowKit
def Lst (listed : Array Bool) (i : Nat) : Prop := listed[i]? = some true
def Pnd (all : List Oper) (L : Nat) (listed : Array Bool) (i : Nat) : Prop := i < all.length ∧ has L i = true ∧ ¬ Lst listed i
structure DInv (B0 : Nat) (w0 : World) (nt nx0 : Nat) (all : List Oper) (L : Nat) (listed : Array Bool) (s : St) (a : Act) (w : World) (g : Gm) : Prop where
  sub : ∀ i, Lst listed i → has L i = true
  pend : ∀ i, Pnd all L listed i → clsAt all i ≠ 2
  closed : ∀ i, Lst listed i → ∀ ed ∈ edgesAt all i, Region.binds .any ed = true → Lst listed ed.on
  heap : HRel B0 w0 g s.hp.get s.nx w
  ds : DLRel g s.ds a.defers
  tsz : a.tmps.size = nt
  tmps : ∀ x, x < nt → (∀ i, Pnd all L listed i → dstAt all i ≠ some x) → VRel g (s.to.get x) (a.tmps.getD x undef)
  low : nx0 ≤ s.nx
  blk : ∀ i, Pnd all L listed i → clsAt all i = 1 → ∀ d m, dstAt all i = some d → numV (s.to.get d) = some m →
    g.blk m = none ∧ nx0 ≤ m ∧ m < s.nx ∧ ∀ k, Pnd all L listed k → clsAt all k = 1 → k ≠ i → ∀ d', dstAt all k = some d' → numV (s.to.get d') ≠ some m
structure DOk (ng nt : Nat) (all : List Oper) : Prop where
  small : nt ≤ 512
  ops : all.all (operOk ng nt) = true
section
variable {B0 : Nat} {w0 : World} {nt nx0 ng : Nat} {all : List Oper} {L : Nat} {listed : Array Bool} {s : St} {a : Act} {w : World} {g : Gm} {bm : List Nat}
theorem nthO_mem {i : Nat} {o : Oper} (h : nthO i all = some o) : o ∈ all := by
  rw [nthO_get] at h
  obtain ⟨hi, rfl⟩ := List.getElem?_eq_some_iff.1 h
  simp
theorem nthO_lt {i : Nat} {o : Oper} (h : nthO i all = some o) : i < all.length := by
  rw [nthO_get] at h
  exact (List.getElem?_eq_some_iff.1 h).1
theorem nthO_some {i : Nat} (h : i < all.length) : ∃ o, nthO i all = some o := by
  rw [nthO_get]; exact ⟨all[i], List.getElem?_eq_getElem h⟩
theorem DOk.dst (ok : DOk ng nt all) {i d : Nat} (h : dstAt all i = some d) : d < nt := by
  unfold dstAt at h
  split at h
  · rename_i o ho
    have := List.all_eq_true.1 ok.ops o (nthO_mem ho)
    unfold operOk at this
    rw [Bool.and_eq_true] at this
    have h2 := this.2
    rw [h] at h2
    exact Nat.le_of_ble_eq_true h2
  · cases h
theorem Tm.get_put {to : Tm} {v : Value} {dst : Option Nat} {x : Nat} (hd : ∀ d, dst = some d → d < 512) (hx : x < 512) (h : dst ≠ some x) : ((dstC dst).run to v).get x = to.get x := by
  cases dst with
  | none => rfl
  | some d =>
    rw [dstC_run, Tm.get_set _ _ (hd d rfl) hx, if_neg (fun k => h (by rw [k]))]
theorem Tm.get_put_self {to : Tm} {v : Value} {d : Nat} (hd : d < 512) : ((dstC (some d)).run to v).get d = v := by
  rw [dstC_run, Tm.get_set _ _ hd hd, if_pos rfl]
theorem bm_listed (pf : PlanFacts all bm) (closed : ∀ i, Lst listed i → ∀ ed ∈ edgesAt all i, Region.binds .any ed = true → Lst listed ed.on) :
    ∀ k, k < all.length → (∀ ed ∈ edgesAt all k, Region.binds .any ed = true → Lst listed ed.on) → ∀ i, has (nthN k bm) i = true → Lst listed i := by
  intro k
  induction k using Nat.strongRecOn with
  | _ k ih =>
    intro hk he i hi
    obtain ⟨ed, h1, h2, h3⟩ := pf.bm k hk i hi
    have hl := he ed h1 h2
    have hlt := pf.back k hk ed h1 h2
    rcases h3 with rfl | h3
    · exact hl
    · exact ih ed.on hlt (by omega) (closed _ hl) i h3
theorem HRel.addDead {hp : Hp} {nx : Nat} (H : HRel B0 w0 g hp nx w) (cells : List Value) : HRel B0 w0 g (hp.set nx (some (.cells cells CMeta.plain))) (nx + 1) w := by
  have F := H.fresh (Nat.le_refl nx)
  have h0 : ∀ b o, hp.set nx (some (.cells cells CMeta.plain)) b = some o → b ≠ nx → hp b = some o := fun b o e hb => by rw [Hp.set_other _ _ hb] at e; exact e
  have hblk : ∀ {b : Nat} {x : Nat × Nat}, g.blk b = some x → b ≠ nx := fun h hb => by subst hb; rw [F.blk] at h; cases h
  refine ⟨H.below, H.base, fun b rb ro e => ⟨by have := (H.dom b rb ro e).1; omega, (H.dom b rb ro e).2⟩, fun b o e => ?_, fun b ms e => ?_, fun b cs m gr e k => ?_, fun b1 b2 o1 o2 rb r1 r2 hne e1 e2 k1 k2 => ?_, H.room⟩
  · by_cases hb : b = nx
    · subst hb; exact ⟨by omega, fun rb ro k => by rw [F.blk] at k; cases k⟩
    · obtain ⟨p, q⟩ := H.live b o (h0 b o e hb)
      exact ⟨by omega, q⟩
  · by_cases hb : b = nx
    · subst hb; exact F.blk
    · exact H.grpfree b ms (h0 b _ e hb)
  · by_cases hb : b = nx
    · subst hb; rw [Hp.set_same] at e; cases e; cases k
    · obtain ⟨ms, a1, a2⟩ := H.mem b cs m gr (h0 b _ e hb) k
      refine ⟨ms, ?_, a2⟩
      rw [Hp.set_other _ _ (by rintro rfl; rw [F.hp] at a1; cases a1)]
      exact a1
  · exact H.sep b1 b2 o1 o2 rb r1 r2 hne (h0 b1 o1 e1 (hblk k1)) (h0 b2 o2 e2 (hblk k2)) k1 k2
theorem DInv.ne (D : DInv B0 w0 nt nx0 all L listed s a w g) (ok : DOk ng nt all) (pf : PlanFacts all bm) {i : Nat} {o : Oper} (ho : nthO i all = some o) (hc : opCls o.op ≠ 2) (hL : has L i = false) {s1 : St}
    (N : NeStep (opCls o.op) o.dst s s1) : DInv B0 w0 nt nx0 all (put L i) listed s1 a w g := by
  have hi := nthO_lt ho
  have hcls : clsAt all i = opCls o.op := by simp [clsAt, ho]
  have hdst : dstAt all i = o.dst := by simp [dstAt, ho]
  have hlst : ¬ Lst listed i := fun h => by rw [D.sub i h] at hL; cases hL
  have hpnd : ∀ k, Pnd all (put L i) listed k → k = i ∨ (k ≠ i ∧ Pnd all L listed k) := fun k hk => by
    by_cases h : k = i
    · exact .inl h
    · obtain ⟨h1, h2, h3⟩ := hk
      rw [has_put_ne (fun e => h e.symm)] at h2
      exact .inr ⟨h, h1, h2, h3⟩
  have hpi : Pnd all (put L i) listed i := ⟨hi, has_put_self _ _, hlst⟩
  have hpmono : ∀ k, Pnd all L listed k → Pnd all (put L i) listed k := fun k hk => ⟨hk.1, has_put_mono hk.2.1, hk.2.2⟩
  obtain ⟨v, hto, hstep⟩ := N.step
  have hd512 : ∀ d, o.dst = some d → d < 512 := fun d hd => Nat.lt_of_lt_of_le (ok.dst (hdst.trans hd)) ok.small
  have hget : ∀ x, x < 512 → o.dst ≠ some x → s1.to.get x = s.to.get x := fun x hx h => by rw [hto]; exact Tm.get_put hd512 hx h
  have hgetk : ∀ k d, k < all.length → k ≠ i → dstAt all k = some d → s1.to.get d = s.to.get d := fun k d hk hne hd =>
    hget d (Nat.lt_of_lt_of_le (ok.dst hd) ok.small) (by rw [← hdst]; exact pf.dsts k i hk hi hne d hd)
  have hnx : s.nx ≤ s1.nx := by rcases hstep with ⟨_, h, _⟩ | ⟨_, _, h, _⟩ <;> omega
  refine ⟨fun k hk => has_put_mono (D.sub k hk), fun k hk => ?_, D.closed, ?_, by rw [N.ds]; exact D.ds, D.tsz, fun x hx hk => ?_, Nat.le_trans D.low hnx, fun k hk hck d m hd hm => ?_⟩
  · rcases hpnd k hk with rfl | ⟨_, h⟩
    · rw [hcls]; exact hc
    · exact D.pend k h
  · rcases hstep with ⟨h1, h2, _⟩ | ⟨_, _, h2, cells, h1⟩
    · rw [h1, h2]; exact D.heap
    · rw [h1, h2, Tr.get_set]; exact D.heap.addDead cells
  · have h1 : o.dst ≠ some x := by rw [← hdst]; exact hk i hpi
    rw [hget x (Nat.lt_of_lt_of_le hx ok.small) h1]
    exact D.tmps x hx fun k hk' => hk k (hpmono k hk')
  · rcases hpnd k hk with rfl | ⟨hne, hk'⟩
    ·
      rw [hcls] at hck
      rw [hdst] at hd
      have hv : s1.to.get d = v := by rw [hto, hd]; exact Tm.get_put_self (hd512 d hd)
      rw [hv] at hm
      rcases hstep with ⟨_, _, h3⟩ | ⟨_, h4, h2, _⟩
      · rw [h3 hck] at hm; cases hm
      · rw [h4] at hm; cases hm
        refine ⟨(D.heap.fresh (Nat.le_refl _)).blk, D.low, by omega, fun k' hk' hck' hne' d' hd' hm' => ?_⟩
        rcases hpnd k' hk' with rfl | ⟨_, hk''⟩
        · exact hne' rfl
        · rw [hgetk k' d' hk''.1 hne' hd'] at hm'
          have := (D.blk k' hk'' hck' d' _ hd' hm').2.2.1
          omega
    · rw [hgetk k d hk'.1 hne hd] at hm
      obtain ⟨q1, q2, q3, q4⟩ := D.blk k hk' hck d m hd hm
      refine ⟨q1, q2, by omega, fun k2 hk2 hck2 hne2 d2 hd2 hm2 => ?_⟩
      rcases hpnd k2 hk2 with rfl | ⟨hne3, hk3⟩
      · rw [hcls] at hck2
        rw [hdst] at hd2
        have hv : s1.to.get d2 = v := by rw [hto, hd2]; exact Tm.get_put_self (hd512 d2 hd2)
        rw [hv] at hm2
        rcases hstep with ⟨_, _, h3⟩ | ⟨_, h4, _, _⟩
        · rw [h3 hck2] at hm2; cases hm2
        · rw [h4] at hm2; cases hm2; omega
      · rw [hgetk k2 d2 hk3.1 hne3 hd2] at hm2
        exact q4 k2 hk3 hck2 hne2 d2 hd2 hm2
end
end
end Sw

namespace Sw
noncomputable section
open Go Go.RowKit
section
variable {B0 : Nat} {w0 : World} {nt nx0 ng : Nat} {all : List Oper} {L : Nat} {listed : Array Bool} {s : St} {a : Act} {w : World} {g : Gm} {bm : List Nat} {e : Env} {rec : Rec} {fm : Fm}
theorem clsAt_o {i : Nat} {o : Oper} (h : nthO i all = some o) : clsAt all i = opCls o.op := by simp [clsAt, h]
theorem dstAt_o {i : Nat} {o : Oper} (h : nthO i all = some o) : dstAt all i = o.dst := by simp [dstAt, h]
theorem opCls01 {o : Oper} (h : opCls o.op ≠ 2) : opCls o.op = 0 ∨ opCls o.op = 1 := by
  have : opCls o.op = 0 ∨ opCls o.op = 1 ∨ opCls o.op = 2 := by
    cases hop : o.op <;> simp [opCls]
    split <;> simp
  rcases this with h1 | h1 | h1
  · exact .inl h1
  · exact .inr h1
  · exact absurd h1 h
theorem evNe_inv (ok : DOk ng nt all) (pf : PlanFacts all bm) : ∀ (ne : List Nat) (L L1 : Nat) (s : St), DInv B0 w0 nt nx0 all L listed s a w g → neOk all ne L = some L1 →
    (∀ i, has L i = true → has L1 i = true) ∧
    ((∀ cs k, ∃ m, evNe (ne.map (compAt all)) e rec fm (s.at cs) k = .need m) ∨
      ∃ s1, DInv B0 w0 nt nx0 all L1 listed s1 a w g ∧ ∀ cs k, evNe (ne.map (compAt all)) e rec fm (s.at cs) k = k (s1.at cs))
  | [], L, L1, s, D, h => by
    cases h
    exact ⟨fun _ h => h, .inr ⟨s, D, fun cs k => rfl⟩⟩
  | i :: ne, L, L1, s, D, h => by
    simp only [neOk] at h
    cases hb : (Nat.blt i all.length && (!(Nat.beq (clsAt all i) 2) && !(has L i))) with
    | false => rw [hb] at h; cases h
    | true =>
      rw [hb] at h
      simp only [cond_true] at h
      simp only [Bool.and_eq_true, Bool.not_eq_true'] at hb
      obtain ⟨b1, b2, b3⟩ := hb
      obtain ⟨o, ho⟩ := nthO_some (all := all) (Nat.le_of_ble_eq_true b1)
      have hc : opCls o.op ≠ 2 := fun k => by rw [clsAt_o ho, k, Nat.beq_refl] at b2; cases b2
      have hcomp : compAt all i = compOp all o := by simp [compAt, ho]
      have hrun : ∀ cs k, evNe ((i :: ne).map (compAt all)) e rec fm (s.at cs) k = (compOp all o).run e rec fm s.to s.ds s.hp s.nx cs (fun s => evNe (ne.map (compAt all)) e rec fm s k) := by
        intro cs k
        simp only [List.map_cons, evNe, hcomp]; rfl
      rcases ne_step all hc e rec fm s with g1 | ⟨s1, N, g1⟩
      · refine ⟨fun k hk => ?_, .inl fun cs k => by rw [hrun]; exact g1 _ _⟩
        have : ∀ (ne : List Nat) (L L1 : Nat), neOk all ne L = some L1 → ∀ i, has L i = true → has L1 i = true := by
          intro ne
          induction ne with
          | nil => intro L L1 h i hi; cases h; exact hi
          | cons j ne ih =>
            intro L L1 h i hi
            simp only [neOk] at h
            cases hb : (Nat.blt j all.length && (!(Nat.beq (clsAt all j) 2) && !(has L j))) with
            | false => rw [hb] at h; cases h
            | true => rw [hb] at h; exact ih _ _ h i (has_put_mono hi)
        exact this ne _ _ h k (has_put_mono hk)
      · have D1 := D.ne ok pf ho hc b3 N
        obtain ⟨q1, q2⟩ := evNe_inv ok pf ne (put L i) L1 s1 D1 h
        refine ⟨fun k hk => q1 k (has_put_mono hk), ?_⟩
        rcases q2 with q2 | ⟨s2, D2, q2⟩
        · exact .inl fun cs k => by rw [hrun, g1]; exact q2 cs k
        · exact .inr ⟨s2, D2, fun cs k => by rw [hrun, g1]; exact q2 cs k⟩
theorem evChk_dich : ∀ (chk : List Nat) (s : St), (∀ i ∈ chk, clsAt all i ≠ 2) →
    (∀ cs k, ∃ m, evChk (chk.map (chkAt all)) e (s.at cs) k = .need m) ∨
      ((∀ cs k, evChk (chk.map (chkAt all)) e (s.at cs) k = k) ∧ ∀ i ∈ chk, ∀ o, nthO i all = some o → Good all o e.T s.hp s.nx s.to)
  | [], s, _ => .inr ⟨fun cs k => rfl, fun i hi => by cases hi⟩
  | i :: chk, s, hc => by
    have hrun : ∀ cs k, evChk ((i :: chk).map (chkAt all)) e (s.at cs) k = (chkAt all i).run e.T s.hp s.nx s.to (evChk (chk.map (chkAt all)) e (s.at cs) k) := fun cs k => rfl
    cases ho : nthO i all with
    | none =>
      have : chkAt all i = ⟨fun _ _ _ _ _ => .need 0⟩ := by simp [chkAt, ho]
      exact .inl fun cs k => ⟨0, by rw [hrun, this]⟩
    | some o =>
      have : chkAt all i = chkG all o := by simp [chkAt, ho]
      have hci := hc i (List.mem_cons_self ..)
      rw [clsAt_o ho] at hci
      rcases chk_dich all o (opCls01 hci) e.T s.hp s.nx s.to with g1 | ⟨g1, g2⟩
      · exact .inl fun cs k => by rw [hrun, this]; exact g1 _
      · rcases evChk_dich chk s (fun k hk => hc k (List.mem_cons_of_mem _ hk)) with q1 | ⟨q1, q2⟩
        · exact .inl fun cs k => by rw [hrun, this, g1]; exact q1 cs k
        · refine .inr ⟨fun cs k => by rw [hrun, this, g1]; exact q1 cs k, fun k hk o' ho' => ?_⟩
          rcases List.mem_cons.1 hk with rfl | hk
          · rw [ho] at ho'; cases ho'; exact g2
          · exact q2 k hk o' ho'
theorem listHas_mem {i : Nat} : ∀ {l : List Nat}, listHas i l = true → i ∈ l
  | [], h => by cases h
  | x :: l, h => by
    simp only [listHas, Bool.or_eq_true] at h
    rcases h with h | h
    · rw [beq_eq h]; exact List.mem_cons_self ..
    · exact List.mem_cons_of_mem _ (listHas_mem h)
structure StageEnd (all : List Oper) (bm : List Nat) (L : Nat) (eff : Option Nat) (rest : List Stage) : Prop where
  ready : ∀ i, i < all.length → has L i = true ∨ eff = some i ∨ sub (maskAt .any all i) L = false
  last : eff = none → ∀ i, i < all.length → has L i = true
  next : ∀ y, eff = some y → y < all.length ∧ clsAt all y = 2 ∧ has L y = false ∧ stagesOk all bm rest (put L y) (some y) = true
def tailE (all : List Oper) (e : Env) (rec : Rec) (fm : Fm) (eff : Option Nat) (rest : List Stage) (s : St) : R := match eff with
  | none => .ok (0, s)
  | some y => (compAt all y).run e rec fm s.to s.ds s.hp s.nx s.cs (fun st2 => evStages (stC all rest) e rec fm st2)
theorem chk_cls (st : Stage) (h : (st.chk.all fun i => !(Nat.beq (clsAt all i) 2)) = true) : ∀ i ∈ st.chk, clsAt all i ≠ 2 := fun i hi k => by
  have := List.all_eq_true.1 h i hi
  rw [k] at this; cases this
theorem stage_inv (ok : DOk ng nt all) (pf : PlanFacts all bm) {st : Stage} {rest : List Stage} {x : Option Nat} (D : DInv B0 w0 nt nx0 all L listed s a w g) (h : stagesOk all bm (st :: rest) L x = true)
    (hx : ∀ y, x = some y → y < all.length ∧ Lst listed y) :
    (∀ cs, ∃ m, evStages (stC all (st :: rest)) e rec fm (s.at cs) = .need m) ∨
    ∃ s1 L1, DInv B0 w0 nt nx0 all L1 listed s1 a w g ∧ StageEnd all bm L1 st.eff rest ∧ (∀ i, Pnd all L1 listed i → ∀ o, nthO i all = some o → Good all o e.T s1.hp s1.nx s1.to) ∧
      ∀ cs, evStages (stC all (st :: rest)) e rec fm (s.at cs) = tailE all e rec fm st.eff rest (s1.at cs) := by
  simp only [stagesOk] at h
  cases hne : neOk all st.ne L with
  | none => rw [hne] at h; cases h
  | some L1 =>
    rw [hne] at h
    simp only [Bool.and_eq_true] at h
    obtain ⟨h0, h1, h2, h3⟩ := h
    have hcc := chk_cls st h0
    have hrun : ∀ cs, evStages (stC all (st :: rest)) e rec fm (s.at cs) = evNe (st.ne.map (compAt all)) e rec fm (s.at cs) (fun st1 => evChk (st.chk.map (chkAt all)) e st1 (tailE all e rec fm st.eff rest st1)) := by
      intro cs
      simp only [stC, evStages]
      congr 1
      funext st1
      congr 1
      cases st.eff <;> rfl
    obtain ⟨_, q⟩ := evNe_inv (e := e) (rec := rec) (fm := fm) ok pf st.ne L L1 s D hne
    rcases q with q | ⟨s1, D1, q⟩
    · exact .inl fun cs => by rw [hrun]; exact q cs _
    · rcases evChk_dich (all := all) (e := e) st.chk s1 hcc with r | ⟨r1, r2⟩
      · exact .inl fun cs => by rw [hrun, q]; exact r cs _
      · refine .inr ⟨s1, L1, D1, ⟨fun i hi => ?_, fun he => ?_, fun y he => ?_⟩, fun i hi o ho => ?_, fun cs => by rw [hrun, q, r1]⟩
        · have := allRange h2 hi
          simp only [Bool.or_eq_true, Bool.not_eq_true'] at this
          rcases this with k | k | k
          · exact .inl k
          · refine .inr (.inl ?_)
            cases he : st.eff with
            | none => rw [he] at k; cases k
            | some y => rw [he] at k; rw [beq_eq k]
          · exact .inr (.inr k)
        · rw [he] at h3
          simp only at h3
          split at h3
          · exact fun i hi => allRange h3 hi
          · cases h3
        · rw [he] at h3
          simp only [Bool.and_eq_true, Bool.not_eq_true'] at h3
          obtain ⟨⟨k1, k2, k3⟩, k4⟩ := h3
          exact ⟨Nat.le_of_ble_eq_true k1, beq_eq k2, k3, k4⟩
        · have := allRange h1 hi.1
          simp only [Bool.or_eq_true, Bool.not_eq_true', Bool.and_eq_true] at this
          rcases this with (k | k) | k | ⟨_, k⟩
          · exact absurd (beq_eq k) (D1.pend i hi)
          · rw [hi.2.1] at k; cases k
          · exact r2 i (listHas_mem k) o ho
          · cases hxx : x with
            | none => rw [hxx] at k; cases k
            | some y =>
              rw [hxx] at k
              obtain ⟨y1, y2⟩ := hx y hxx
              exact absurd (bm_listed pf D.closed y y1 (D.closed y y2) i k) hi.2.2
end
end
end Sw

namespace Sw
noncomputable section
open Go Go.RowKit
section
variable {P : Program} {ng ng' : Nat} {B0 : Nat} {w0 : World} {nt nx0 : Nat} {ops : Array Oper} {L : Nat} {listed : Array Bool} {s : St} {a : Act} {w : World} {g : Gm} {bm : List Nat} {e : Env} {rec : Rec} {b : Frame} {rn : Option Nat}
theorem lst_set {i k : Nat} (hi : i < listed.size) : Lst (listed.setIfInBounds i true) k ↔ k = i ∨ Lst listed k := by
  unfold Lst
  by_cases h : k = i
  · subst h
    simp [hi]
  · rw [Array.getElem?_setIfInBounds_ne (fun e => h e.symm)]
    simp [h]
theorem ready_looks {all : List Oper} (D : DInv B0 w0 nt nx0 all L listed s a w g) (ok : DOk ng' nt all) (pf : PlanFacts all bm) {i : Nat} {o : Oper} (ho : nthO i all = some o)
    (hr : ∀ ed ∈ edgesAt all i, Region.binds .any ed = true → Lst listed ed.on) {t : Nat} (ht : t ∈ looks all o) (hlt : t < nt) : VRel g (s.to.get t) (a.tmps.getD t undef) := by
  have hi := nthO_lt ho
  refine D.tmps t hlt fun k hk hd => ?_
  have : t ∈ looksAt all i := by simp only [looksAt, ho]; exact ht
  rcases pf.looks i hi t this k hk.1 hd with h | h
  · exact D.pend k hk h
  · exact hk.2.2 (bm_listed pf D.closed i hi hr k h)
theorem ready_ops {all : List Oper} (D : DInv B0 w0 nt nx0 all L listed s a w g) (ok : DOk ng' nt all) (pf : PlanFacts all bm) (hg : GlobOk g ng') {i : Nat} {o : Oper} (ho : nthO i all = some o)
    (hr : ∀ ed ∈ edgesAt all i, Region.binds .any ed = true → Lst listed ed.on) : ORels g s.to a.eval o.op.operands.toList := by
  have hoo := List.all_eq_true.1 ok.ops o (nthO_mem ho)
  unfold operOk at hoo
  rw [Bool.and_eq_true] at hoo
  intro x hx
  have hxo := List.all_eq_true.1 hoo.1 x hx
  cases x with
  | tmp t =>
    have hlt : t < nt := Nat.le_of_ble_eq_true hxo
    refine ready_looks D ok pf ho hr (t := t) ?_ hlt
    unfold looks
    refine List.mem_append.2 (.inr ?_)
    exact List.mem_filterMap.2 ⟨.tmp t, hx, rfl⟩
  | const v => exact VRel.of_plain g 4 v hxo
  | global j => exact VRel.ptr (off := 0) (hg j (Nat.le_of_ble_eq_true hxo))
  | func f => exact .func rfl rfl (fun i v v' e => by simp at e) (fun i v v' e => by simp at e)
theorem ready_guard (D : DInv B0 w0 nt nx0 ops.toList L listed s a w g) (ok : DOk ng' nt ops.toList) (pf : PlanFacts ops.toList bm) {i : Nat} {o : Oper} (ho : nthO i ops.toList = some o)
    (hr : ∀ ed ∈ edgesAt ops.toList i, Region.binds .any ed = true → Lst listed ed.on) : GuardRel g ops s.to a o := by
  intro j wn hgd oj d hj hd
  have hdj : dstAt ops.toList j = some d := by
    have : nthO j ops.toList = some oj := by rw [nthO_get]; simpa using hj
    rw [dstAt_o this, hd]
  have hlt := ok.dst hdj
  refine ⟨ready_looks D ok pf ho hr (t := d) ?_ hlt, by rw [D.tsz]; exact hlt⟩
  unfold looks
  rw [hgd]
  simp only [hdj]
  exact List.mem_append.2 (.inl (List.mem_singleton.2 rfl))
theorem DInv.pendStep {all : List Oper} (D : DInv B0 w0 nt nx0 all L listed s a w g) (ok : DOk ng' nt all) (pf : PlanFacts all bm) {i : Nat} {o : Oper} (ho : nthO i all = some o) (hp : Pnd all L listed i) (hsz : i < listed.size)
    (hr : ∀ ed ∈ edgesAt all i, Region.binds .any ed = true → Lst listed ed.on) {v' : Value} {w' : World} {g' : Gm} (H : HRel B0 w0 g' s.hp.get s.nx w') (hv : ∀ d, o.dst = some d → VRel g' (s.to.get d) v') (E : Ext g nx0 w g' s.nx w')
    (hnew : ∀ m, g'.blk m ≠ none → g.blk m ≠ none ∨ (opCls o.op = 1 ∧ ∃ d, o.dst = some d ∧ numV (s.to.get d) = some m)) :
    DInv B0 w0 nt nx0 all L (listed.setIfInBounds i true) s (a.put o.dst v') w' g' := by
  have hpnd : ∀ k, Pnd all L (listed.setIfInBounds i true) k → k ≠ i ∧ Pnd all L listed k := fun k hk => by
    have h3 := hk.2.2
    rw [lst_set hsz] at h3
    exact ⟨fun h => h3 (.inl h), hk.1, hk.2.1, fun h => h3 (.inr h)⟩
  refine ⟨fun k hk => ?_, fun k hk => D.pend k (hpnd k hk).2, fun k hk ed he hb => ?_, H, by rw [put_defers]; exact D.ds.mono E.ext.le, ?_, fun x hx hk => ?_, D.low, fun k hk hck d m hd hm => ?_⟩
  · rcases (lst_set hsz).1 hk with rfl | hk
    · exact hp.2.1
    · exact D.sub k hk
  · rw [lst_set hsz]
    rcases (lst_set hsz).1 hk with rfl | hk
    · exact .inr (hr ed he hb)
    · exact .inr (D.closed k hk ed he hb)
  · cases hd : o.dst with
    | none => simp only [Act.put]; exact D.tsz
    | some d => simp only [Act.put, Array.size_setIfInBounds]; exact D.tsz
  · by_cases hxd : o.dst = some x
    · have h1 := hv x hxd
      have : (a.put o.dst v').tmps.getD x undef = v' := by
        have : x < a.tmps.size := by rw [D.tsz]; exact hx
        rw [hxd]
        simp [Act.put, Array.getD, this]
      rw [this]; exact h1
    · have : (a.put o.dst v').tmps.getD x undef = a.tmps.getD x undef := by
        cases hd : o.dst with
        | none => rfl
        | some d =>
          have hne : d ≠ x := fun h => hxd (by rw [hd, h])
          simp only [Act.put, Array.getD_eq_getD_getElem?]
          rw [Array.getElem?_setIfInBounds_ne hne]
      rw [this]
      refine (D.tmps x hx fun k hk' hd => ?_).mono E.ext.le
      by_cases hki : k = i
      · subst hki; rw [dstAt_o ho] at hd; exact hxd hd
      · refine hk k ⟨hk'.1, hk'.2.1, fun h => ?_⟩ hd
        rcases (lst_set hsz).1 h with h | h
        · exact hki h
        · exact hk'.2.2 h
  · obtain ⟨hne, hk'⟩ := hpnd k hk
    obtain ⟨q1, q2, q3, q4⟩ := D.blk k hk' hck d m hd hm
    refine ⟨?_, q2, q3, fun k2 hk2 hck2 hne2 d2 hd2 => q4 k2 (hpnd k2 hk2).2 hck2 hne2 d2 hd2⟩
    cases hg : g'.blk m with
    | none => rfl
    | some x =>
      rcases hnew m (by rw [hg]; simp) with h | ⟨hc, d', hd', hm'⟩
      · exact absurd q1 h
      · exact absurd hm' (q4 i hp (by rw [clsAt_o ho]; exact hc) (fun h => hne h.symm) d' (by rw [dstAt_o ho]; exact hd'))
theorem DInv.effStep {all : List Oper} (D : DInv B0 w0 nt nx0 all L listed s a w g) (ok : DOk ng' nt all) (pf : PlanFacts all bm) {i : Nat} {o : Oper} (ho : nthO i all = some o) (hL : has L i = false) (hsz : i < listed.size)
    (hr : ∀ ed ∈ edgesAt all i, Region.binds .any ed = true → Lst listed ed.on) {v v' : Value} {ds' dfs' : List Deferred} {hp' : Ht} {nx' : Nat} {w' : World} {g' : Gm} (H : HRel B0 w0 g' hp'.get nx' w') (hv : VRel g' v v') (hd : DLRel g' ds' dfs') (E : Ext g s.nx w g' nx' w') :
    DInv B0 w0 nt nx0 all (put L i) (listed.setIfInBounds i true) ⟨(dstC o.dst).run s.to v, ds', hp', nx', []⟩ ({ a with defers := dfs' }.put o.dst v') w' g' := by
  have hpnd : ∀ k, Pnd all (put L i) (listed.setIfInBounds i true) k → k ≠ i ∧ Pnd all L listed k := fun k hk => by
    have h3 := hk.2.2
    rw [lst_set hsz] at h3
    have hne : k ≠ i := fun h => h3 (.inl h)
    exact ⟨hne, hk.1, by have := hk.2.1; rwa [has_put_ne (fun e => hne e.symm)] at this, fun h => h3 (.inr h)⟩
  have hi := nthO_lt ho
  have hd512 : ∀ d, o.dst = some d → d < 512 := fun d hd => Nat.lt_of_lt_of_le (ok.dst ((dstAt_o ho).trans hd)) ok.small
  have hget : ∀ x, x < 512 → o.dst ≠ some x → ((dstC o.dst).run s.to v).get x = s.to.get x := fun x hx h => Tm.get_put hd512 hx h
  have hgetk : ∀ k d, k < all.length → k ≠ i → dstAt all k = some d → ((dstC o.dst).run s.to v).get d = s.to.get d := fun k d hk hne hd =>
    hget d (Nat.lt_of_lt_of_le (ok.dst hd) ok.small) (by rw [← dstAt_o ho]; exact pf.dsts k i hk hi hne d hd)
  refine ⟨fun k hk => ?_, fun k hk => D.pend k (hpnd k hk).2, fun k hk ed he hb => ?_, H, by rw [put_defers]; exact hd, ?_, fun x hx hk => ?_, Nat.le_trans D.low E.ext.num, fun k hk hck d m hd hm => ?_⟩
  · rcases (lst_set hsz).1 hk with rfl | hk
    · exact has_put_self _ _
    · exact has_put_mono (D.sub k hk)
  · rw [lst_set hsz]
    rcases (lst_set hsz).1 hk with rfl | hk
    · exact .inr (hr ed he hb)
    · exact .inr (D.closed k hk ed he hb)
  · cases hd : o.dst with
    | none => simp only [Act.put]; exact D.tsz
    | some d => simp only [Act.put, Array.size_setIfInBounds]; exact D.tsz
  · by_cases hxd : o.dst = some x
    · have h0 : ((dstC o.dst).run s.to v).get x = v := by rw [hxd]; exact Tm.get_put_self (hd512 x hxd)
      have h1 : ({ a with defers := dfs' }.put o.dst v').tmps.getD x undef = v' := by
        have : x < a.tmps.size := by rw [D.tsz]; exact hx
        rw [hxd]
        simp [Act.put, Array.getD, this]
      show VRel g' (((dstC o.dst).run s.to v).get x) _
      rw [h0, h1]; exact hv
    · have h1 : ({ a with defers := dfs' }.put o.dst v').tmps.getD x undef = a.tmps.getD x undef := by
        cases hd : o.dst with
        | none => rfl
        | some d =>
          have hne : d ≠ x := fun h => hxd (by rw [hd, h])
          simp only [Act.put, Array.getD_eq_getD_getElem?]
          rw [Array.getElem?_setIfInBounds_ne hne]
      show VRel g' (((dstC o.dst).run s.to v).get x) _
      rw [hget x (Nat.lt_of_lt_of_le hx ok.small) hxd, h1]
      refine (D.tmps x hx fun k hk' hd => ?_).mono E.ext.le
      have hki : k ≠ i := fun h => by subst h; rw [hk'.2.1] at hL; cases hL
      refine hk k ⟨hk'.1, has_put_mono hk'.2.1, fun h => ?_⟩ hd
      rcases (lst_set hsz).1 h with h | h
      · exact hki h
      · exact hk'.2.2 h
  · obtain ⟨hne, hk'⟩ := hpnd k hk
    have hm : numV (((dstC o.dst).run s.to v).get d) = some m := hm
    rw [hgetk k d hk'.1 hne hd] at hm
    obtain ⟨q1, q2, q3, q4⟩ := D.blk k hk' hck d m hd hm
    refine ⟨?_, q2, Nat.lt_of_lt_of_le q3 E.ext.num, fun k2 hk2 hck2 hne2 d2 hd2 hm2 => ?_⟩
    · cases hg : g'.blk m with
      | none => rfl
      | some x =>
        rcases E.ext.new m (by rw [hg]; simp) with h | h
        · exact absurd q1 h
        · omega
    · obtain ⟨hne3, hk3⟩ := hpnd k2 hk2
      have hm2 : numV (((dstC o.dst).run s.to v).get d2) = some m := hm2
      rw [hgetk k2 d2 hk3.1 hne3 hd2] at hm2
      exact q4 k2 hk3 hck2 hne2 d2 hd2 hm2
end
end
end Sw
