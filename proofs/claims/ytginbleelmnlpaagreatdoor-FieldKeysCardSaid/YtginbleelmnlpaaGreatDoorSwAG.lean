/- A part of the proof that the law returns true for every input that its row speaks of. No condition is added. -/
import Derived.Test.YtginbleelmnlpaaGreatDoorSwAF
namespace Sw
noncomputable section
open Go Go.Proofs Go.RowKit
set_option maxRecDepth 100000
set_option maxHeartbeats 1600000
inductive RForm where
  | cond (c : RCond)
  | step (s : RStep)
instance : Inhabited RForm := ⟨.cond default⟩
def fv : RForm → Value
  | .cond c => .iface 325 (.agg (encCond c).toArray)
  | .step s => .iface 215 (.agg (encStep s).toArray)
def encForm (x : RForm) : List Value := [fv x]
def RFormOk (hp : Ht) (nx : Nat) : RForm → Prop
  | .cond c => RCondOk hp nx c
  | .step s => RStepOk hp nx s
theorem RFormOk.mono {hp hp' : Ht} {nx nx' : Nat} {x : RForm} (h : RFormOk hp nx x) (he : HE nx hp hp') (hn : nx ≤ nx') : RFormOk hp' nx' x := by
  cases x with
  | cond c => exact RCondOk.mono h he hn
  | step s => exact RStepOk.mono h he hn
theorem fv_one (x : RForm) : one (fv x) = true := by cases x <;> rfl
def fsz : RForm → Nat
  | .cond c => sizeOf c
  | .step s => sizeOf s
def VForm : RForm → Prop
  | .cond c => VCond c
  | .step s => VStep s
def partsF : RForm → List RForm
  | .cond c => c.fParts.l.map .cond
  | .step s => s.fThen.l.map .step ++ s.fElse.l.map .step
theorem partsF_ok {hp : Ht} {nx : Nat} {f : RForm} (h : RFormOk hp nx f) : ∀ x ∈ partsF f, RFormOk hp nx x := by
  intro x hx
  cases f with
  | cond c =>
    obtain ⟨y, hy, rfl⟩ := List.mem_map.1 hx
    exact (RCondOk.fParts h).2 y hy
  | step s =>
    rcases List.mem_append.1 hx with hx | hx
    · obtain ⟨y, hy, rfl⟩ := List.mem_map.1 hx
      exact (RStepOk.fThen h).2 y hy
    · obtain ⟨y, hy, rfl⟩ := List.mem_map.1 hx
      exact (RStepOk.fElse h).2 y hy
theorem partsF_lt {f x : RForm} (hx : x ∈ partsF f) : fsz x < fsz f := by
  cases f with
  | cond c =>
    obtain ⟨y, hy, rfl⟩ := List.mem_map.1 hx
    exact RCond.part_lt hy
  | step s =>
    rcases List.mem_append.1 hx with hx | hx
    · obtain ⟨y, hy, rfl⟩ := List.mem_map.1 hx
      exact RStep.then_lt hy
    · obtain ⟨y, hy, rfl⟩ := List.mem_map.1 hx
      exact RStep.else_lt hy
theorem partsF_len {hp : Ht} {nx : Nat} {f : RForm} (h : RFormOk hp nx f) : (partsF f).length ≤ 2932031007403 := by
  cases f with
  | cond c => have := RCondOk.len h; simp only [partsF, List.length_map]; omega
  | step s => have := RStepOk.len h; simp only [partsF, List.length_map, List.length_append]; omega
theorem T_agg102 : ex.T.agg 102 = some false := by kernel_rfl
theorem T_agg104 : ex.T.agg 104 = some true := by kernel_rfl
theorem T_agg3 : ex.T.agg 3 = some false := by kernel_rfl
theorem T_size104 : ex.T.size 104 = some 4 := by kernel_rfl
theorem T_und102 : ex.T.und 102 = some (.slice 104) := by kernel_rfl
theorem zero_wf (c : RCond) (hp : Ht) (nx : Nat) (hc : RCondOk hp nx c) : WF ex 42 [.agg (encCond c).toArray] hp nx (Stays nx hp (BoolIs (CondZero c))) := by
 refine WF.body (fi := ⟨Tryz.f42.body.getD .skip, 22, [.tmp 2]⟩) (by kernel_rfl) (by kernel_rfl) (by kernel_rfl) rfl ?_
 have hE := HE.refl nx hp
 refine sr ?_
 refine WO.cons (WC.box (.agg (encCond c).toArray) (encCond c) rfl (by kernel_rfl) rfl ?_)
 obtain ⟨hp2, hx3, he4, hb5⟩ := boxed hp (nx) (encCond c)
 rw [hx3]; clear hx3
 have hE6 := hE.trans he4 (Nat.le_refl nx)
 have le7 := Nat.le_trans (Nat.le_refl nx) (Nat.le_succ (nx))
 refine ov 2 (.bool false) ?_
 refine WO.nil ?_
 refine sr ?_
 refine ov 3 (.pointer (some ⟨nx, 0 + 0, none⟩)) ?_
 refine WO.cons (WC.load1 nx (0 + 0) (.int .i64 (c.fKind)) (by kernel_rfl) T_agg3 hb5 rfl ?_)
 obtain ⟨c8, e8, p8⟩ := @nb (eqI (c.fKind) (0)) ((c.fKind) = (0)) (eqI_iff)
 refine ov 5 (.bool c8) ?_ (fun _ _ _ => by subst e8; kernel_rfl)
 refine ov 6 (.bool c8) ?_
 refine og 6 (c8) (.pointer (some ⟨nx, 0 + 1, none⟩)) (.bool c8) (by cases c8 <;> rfl) (fun h => by obtain rfl := h; exact fun _ _ _ => by kernel_rfl) ?_
 refine ogc 6 (c8) (.int .i64 (c.fVar)) (.bool c8) (by cases c8 <;> rfl) (fun h => by obtain rfl := h; exact WC.load1 nx (0 + 1) (.int .i64 (c.fVar)) (by kernel_rfl) T_agg3 hb5 rfl rfl) ?_
 obtain ⟨c9, e9, p9⟩ := @nb (eqI (c.fVar) (0)) ((c.fVar) = (0)) (eqI_iff)
 refine og 6 (c8) (.bool c9) (.bool c8) (by cases c8 <;> rfl) (fun h => by obtain rfl := h; exact fun _ _ _ => by subst e9; kernel_rfl) ?_
 obtain ⟨c10, e10, p10⟩ := @nb ((c8 && c9)) (((c.fKind) = (0)) ∧ ((c.fVar) = (0))) (by rw [Bool.and_eq_true, p8, p9])
 refine WO.cons (WC.opt (v := .bool c10) 10 (ePick (.bool c8) ((bif c8 then .bool c9 else undef)) (.bool false)) (fun _ _ _ => by kernel_rfl) (by rw [e10]; exact ePick_and (fun h => by obtain rfl : c8 = true := h; rfl)) ?_)
 refine ov 11 (.bool c10) ?_
 refine og 11 (c10) (.pointer (some ⟨nx, 0 + 2, none⟩)) (.bool c10) (by cases c10 <;> rfl) (fun h => by obtain rfl := h; exact fun _ _ _ => by kernel_rfl) ?_
 refine ogc 11 (c10) (.int .i64 (c.fN)) (.bool c10) (by cases c10 <;> rfl) (fun h => by obtain rfl := h; exact WC.load1 nx (0 + 2) (.int .i64 (c.fN)) (by kernel_rfl) T_agg3 hb5 rfl rfl) ?_
 obtain ⟨c11, e11, p11⟩ := @nb (eqI (c.fN) (0)) ((c.fN) = (0)) (eqI_iff)
 refine og 11 (c10) (.bool c11) (.bool c10) (by cases c10 <;> rfl) (fun h => by obtain rfl := h; exact fun _ _ _ => by subst e11; kernel_rfl) ?_
 obtain ⟨c12, e12, p12⟩ := @nb ((c10 && c11)) ((((c.fKind) = (0)) ∧ ((c.fVar) = (0))) ∧ ((c.fN) = (0))) (by rw [Bool.and_eq_true, p10, p11])
 refine WO.cons (WC.opt (v := .bool c12) 15 (ePick (.bool c10) ((bif c10 then .bool c11 else undef)) (.bool false)) (fun _ _ _ => by kernel_rfl) (by rw [e12]; exact ePick_and (fun h => by obtain rfl : c10 = true := h; rfl)) ?_)
 refine ov 16 (.bool c12) ?_
 refine og 16 (c12) (.pointer (some ⟨nx, 0 + 3, none⟩)) (.bool c12) (by cases c12 <;> rfl) (fun h => by obtain rfl := h; exact fun _ _ _ => by kernel_rfl) ?_
 obtain ⟨a13, c14, hv15⟩ := hc.fParts.1.shape
 have hsm15 := hc.fParts.1.2.2
 refine ogc 16 (c12) (.slice a13 (c.fParts.l.length) c14) (.bool c12) (by cases c12 <;> rfl) (fun h => by obtain rfl := h; exact WC.load1 nx (0 + 3) (.slice a13 (c.fParts.l.length) c14) (by kernel_rfl) T_agg102 hb5 (by rw [← hv15]; rfl) rfl) ?_
 refine og 16 (c12) (.int .i64 (.ofNat (c.fParts.l.length))) (.bool c12) (by cases c12 <;> rfl) (fun h => by obtain rfl := h; exact fun _ _ _ => by kernel_rfl) ?_
 obtain ⟨c16, e16, p16⟩ := @nb (eqI (.ofNat (c.fParts.l.length)) (0)) (((c.fParts.l.length : Nat) : Int) = (0)) (eqI_iff)
 refine og 16 (c12) (.bool c16) (.bool c12) (by cases c12 <;> rfl) (fun h => by obtain rfl := h; exact fun _ _ _ => by subst e16; kernel_rfl) ?_
 obtain ⟨c17, e17, p17⟩ := @nb ((c12 && c16)) (((((c.fKind) = (0)) ∧ ((c.fVar) = (0))) ∧ ((c.fN) = (0))) ∧ (((c.fParts.l.length : Nat) : Int) = (0))) (by rw [Bool.and_eq_true, p12, p16])
 refine WO.cons (WC.opt (v := .bool c17) 21 (ePick (.bool c12) ((bif c12 then .bool c16 else undef)) (.bool false)) (fun _ _ _ => by kernel_rfl) (by rw [e17]; exact ePick_and (fun h => by obtain rfl : c12 = true := h; rfl)) ?_)
 refine ov 2 (.bool c17) ?_
 refine WO.nil ?_
 refine WP.ret ⟨rfl, rfl, [.bool c17], by kernel_rfl, ?_⟩
 refine ⟨⟨c17, rfl, ?_⟩, le7, hE6⟩
 exact p17.trans ⟨fun ⟨⟨⟨a, b⟩, c⟩, d⟩ => ⟨a, b, c, List.eq_nil_of_length_eq_zero (by omega)⟩, fun ⟨a, b, c, d⟩ => ⟨⟨⟨a, b⟩, c⟩, by rw [d]; rfl⟩⟩
theorem conditions_step (k : Nat) (ih : ∀ (c : RCond) (d : Int) (hp : Ht) (nx : Nat), sizeOf c < k → RCondOk hp nx c → WF ex 43 [.agg (encCond c).toArray, .int .i64 d] hp nx (Stays nx hp AnyI)) (c : RCond) (d : Int) (hp : Ht) (nx : Nat) (hk : sizeOf c < k + 1) (hc : RCondOk hp nx c) : WF ex 43 [.agg (encCond c).toArray, .int .i64 (d)] hp nx (Stays nx hp AnyI) := by
 refine WF.body (fi := ⟨Tryz.f43.body.getD .skip, 31, [.tmp 4]⟩) (by kernel_rfl) (by kernel_rfl) (by kernel_rfl) rfl ?_
 have hE := HE.refl nx hp
 refine sr ?_
 refine WO.cons (WC.box (.agg (encCond c).toArray) (encCond c) rfl (by kernel_rfl) rfl ?_)
 obtain ⟨hp2, hx3, he4, hb5⟩ := boxed hp (nx) (encCond c)
 rw [hx3]; clear hx3
 have hE6 := hE.trans he4 (Nat.le_refl nx)
 have le7 := Nat.le_trans (Nat.le_refl nx) (Nat.le_succ (nx))
 refine ov 4 (.int .i64 (0)) ?_
 refine WO.nil ?_
 refine WP.seq ?_
 refine sr ?_
 refine ov 7 (.int .i64 (d)) ?_
 obtain ⟨c8, e8, p8⟩ := @nb (ltI (16) (d)) ((16) < (d)) (ltI_iff)
 refine ov 8 (.bool c8) ?_ (fun _ _ _ => by subst e8; kernel_rfl)
 refine WO.nil ?_
 refine WP.cond c8 (by kernel_rfl) (fun h9 => ?_) (fun h9 => ?_)
 ·
  have q10 := (p8).1 h9
  refine sr ?_
  refine ov 4 (.int .i64 (1000)) ?_
  refine WO.nil ?_
  refine WP.ret ⟨rfl, rfl, [.int .i64 (1000)], by kernel_rfl, ?_⟩
  exact ⟨⟨_, rfl⟩, le7, hE6⟩
 ·
  have q10 := nq p8 h9
  refine WP.skip ?_
  refine sr ?_
  refine ov 5 (.int .i64 (1)) ?_
  refine WO.nil ?_
  refine WP.seq ?_
  refine sr ?_
  refine ov 6 (.int .i64 (0)) ?_
  refine WO.nil ?_
  refine WP.block ?_
  have hj12 : ∀ t : Tm, ((((t.set 1 (t.get 1)).set 2 (t.get 2)).set 5 (t.get 5)).set 6 (t.get 6)) = t := fun t => by kernel_rfl
  refine WP.loop (fun m s => ∃ (iL11 : Nat) (n5 : Int), iL11 + m = c.fParts.l.length ∧ s.to.get 1 = .int .i64 (d) ∧ s.to.get 2 = .pointer (some ⟨nx, 0, none⟩) ∧ s.to.get 5 = .int .i64 (n5) ∧ s.to.get 6 = .int .i64 (.ofNat iL11) ∧ s.ds = [] ∧ s.cs = [] ∧ nx + 1 ≤ s.nx ∧ HE (nx + 1) hp2 s.hp) ?_ (c.fParts.l.length) ?_
  ·
   rintro mL11 ⟨toL11, dsL11, hp13, nx14, csL11⟩ ⟨iL11, n5, him15, gL11_1, gL11_2, gL11_5, gL11_6, hdsL11, hcsL11, hn16, he17⟩
   simp only at gL11_1 gL11_2 gL11_5 gL11_6 hdsL11 hcsL11 hn16 he17
   subst hdsL11 hcsL11
   rw [← hj12 toL11, gL11_1, gL11_2, gL11_5, gL11_6]
   clear gL11_1 gL11_2 gL11_5 gL11_6
   have hE18 := hE6.trans he17 le7
   have hb19 := he17.get hb5 (Nat.lt_succ_self (nx))
   have le21 := Nat.le_trans le7 hn16
   refine WP.seq ?_
   refine sr ?_
   refine ov 9 (.int .i64 (.ofNat iL11)) ?_
   refine ov 10 (.pointer (some ⟨nx, 0 + 3, none⟩)) ?_
   obtain ⟨a22, c23, hv24⟩ := hc.fParts.1.shape
   have hsm24 := hc.fParts.1.2.2
   refine WO.cons (WC.load1 nx (0 + 3) (.slice a22 (c.fParts.l.length) c23) (by kernel_rfl) T_agg102 hb19 (by rw [← hv24]; rfl) ?_)
   refine ov 12 (.int .i64 (.ofNat (c.fParts.l.length))) ?_
   obtain ⟨c25, e25, p25⟩ := @nb (ltI (.ofNat iL11) (.ofNat (c.fParts.l.length))) (((iL11 : Nat) : Int) < ((c.fParts.l.length : Nat) : Int)) (ltI_iff)
   refine ov 13 (.bool c25) ?_ (fun _ _ _ => by subst e25; kernel_rfl)
   refine ov 14 (.bool c25) ?_
   refine og 14 (c25) (.int .i64 (n5)) (.bool c25) (by cases c25 <;> rfl) (fun h => by obtain rfl := h; exact fun _ _ _ => by kernel_rfl) ?_
   obtain ⟨c26, e26, p26⟩ := @nb (leI (n5) (256)) ((n5) ≤ (256)) (leI_iff)
   refine og 14 (c25) (.bool c26) (.bool c25) (by cases c25 <;> rfl) (fun h => by obtain rfl := h; exact fun _ _ _ => by subst e26; kernel_rfl) ?_
   obtain ⟨c27, e27, p27⟩ := @nb ((c25 && c26)) ((((iL11 : Nat) : Int) < ((c.fParts.l.length : Nat) : Int)) ∧ ((n5) ≤ (256))) (by rw [Bool.and_eq_true, p25, p26])
   refine WO.cons (WC.opt (v := .bool c27) 17 (ePick (.bool c25) ((bif c25 then .bool c26 else undef)) (.bool false)) (fun _ _ _ => by kernel_rfl) (by rw [e27]; exact ePick_and (fun h => by obtain rfl : c25 = true := h; rfl)) ?_)
   refine WO.nil ?_
   refine WP.cond c27 (by kernel_rfl) (fun h28 => ?_) (fun h28 => ?_)
   ·
    have q29 := (p27).1 h28
    refine WP.skip ?_
    refine WP.seq ?_
    refine WP.block ?_
    refine WP.region ?_
    refine ov 20 (.int .i64 (n5)) ?_
    refine ov 21 (.pointer (some ⟨nx, 0 + 3, none⟩)) ?_
    refine WO.cons (WC.load1 nx (0 + 3) (.slice a22 (c.fParts.l.length) c23) (by kernel_rfl) T_agg102 hb19 (by rw [← hv24]; rfl) ?_)
    refine ov 23 (.int .i64 (.ofNat iL11)) ?_
    have hlt30 : iL11 < c.fParts.l.length := by omega
    refine WO.cons (WC.ix (k := .i64) a22 (c.fParts.l.length) c23 (iL11) 4 (by kernel_rfl) (by kernel_rfl) T_und102 T_size104 ((hc.fParts.1.mono hE18 le21).blkA hv24 (zl hlt30)) (hlt30) ?_)
    obtain ⟨x31, hx32⟩ : ∃ el_, c.fParts.l[iL11]? = some el_ := ⟨_, List.getElem?_eq_getElem (hlt30)⟩
    refine WO.cons (WC.loadSE (blk a22) (0 + (iL11) * 4) (encCond x31) (by kernel_rfl) T_agg104 T_size104 ((hc.fParts.1.mono hE18 le21).blkB hv24 (zl hlt30)) (flat_at0 (hc.fParts.1.mono hE18 le21).1 hx32) ?_)
    refine ov 26 (.int .i64 (d)) ?_
    refine ov 27 (.int .i64 (wrapE .i64 ((d) + (1)))) ?_
    refine WO.cons (WC.call 28 43 ([.agg (encCond x31).toArray, .int .i64 (wrapE .i64 ((d) + (1)))]) (fun _ _ _ => by kernel_rfl) ((ih x31 (wrapE .i64 ((d) + (1))) hp13 (nx14) (by have := RCond.part_lt (List.mem_of_getElem? hx32); omega) ((hc.fParts.2 x31 (List.mem_of_getElem? hx32)).mono hE18 le21)).mono ?_))
    rintro _ hp33 nx34 ⟨⟨z37, rfl⟩, hn35, he36⟩
    have hr41 := he17.trans he36 hn16
    have rl42 := Nat.le_trans hn16 hn35
    refine ov 29 (.int .i64 (wrapE .i64 ((n5) + (z37)))) ?_
    refine ov 5 (.int .i64 (wrapE .i64 ((n5) + (z37)))) ?_
    refine WO.nil ?_
    refine WP.region ?_
    refine ov 18 (.int .i64 (.ofNat iL11)) ?_
    refine ov 19 (.int .i64 (.ofNat (iL11 + 1))) ?_ (fun _ _ _ => by rw [← wrapAdd (show iL11 + 1 < 9223372036854775808 by omega)]; kernel_rfl)
    refine ov 6 (.int .i64 (.ofNat (iL11 + 1))) ?_
    refine WO.nil ?_
    refine ⟨c.fParts.l.length - (iL11 + 1), by omega, iL11 + 1, wrapE .i64 ((n5) + (z37)), by omega, by kernel_rfl, by kernel_rfl, by kernel_rfl, by kernel_rfl, rfl, rfl, ?_, ?_⟩
    · exact rl42
    · exact hr41
   ·
    have q29 := nq p27 h28
    refine WP.exit ?_
    refine sr ?_
    refine ov 30 (.int .i64 (n5)) ?_
    refine ov 4 (.int .i64 (n5)) ?_
    refine WO.nil ?_
    refine WP.ret ⟨rfl, rfl, [.int .i64 (n5)], by kernel_rfl, ?_⟩
    exact ⟨⟨_, rfl⟩, le21, hE18⟩
  ·
   exact ⟨0, 1, by omega, by kernel_rfl, by kernel_rfl, by kernel_rfl, by kernel_rfl, rfl, rfl, Nat.le_refl _, HE.refl _ _⟩
theorem conditions_wf (c : RCond) (d : Int) (hp : Ht) (nx : Nat) (hc : RCondOk hp nx c) : WF ex 43 [.agg (encCond c).toArray, .int .i64 (d)] hp nx (Stays nx hp AnyI) := by
 have h : ∀ (k : Nat) (c : RCond) (d : Int) (hp : Ht) (nx : Nat), sizeOf c < k → RCondOk hp nx c → WF ex 43 [.agg (encCond c).toArray, .int .i64 d] hp nx (Stays nx hp AnyI) := by
  intro k
  induction k with
  | zero => intro _ _ _ _ h; exact absurd h (Nat.not_lt_zero _)
  | succ k ih => intro c d hp nx hk hc; exact conditions_step k ih c d hp nx hk hc
 exact h _ c d hp nx (Nat.lt_succ_self _) hc
end
end Sw

namespace Sw
noncomputable section
open Go Go.Proofs Go.RowKit
set_option maxRecDepth 100000
set_option maxHeartbeats 1600000
theorem T_agg24 : ex.T.agg 24 = some false := by kernel_rfl
theorem T_size106 : ex.T.size 106 = some 8 := by kernel_rfl
theorem T_und24 : ex.T.und 24 = some (.slice 106) := by kernel_rfl
theorem size_step (k : Nat) (ih : ∀ j, j < k → ∀ (l : SV RStep) (d : Int) (hp : Ht) (nx : Nat), (∀ s ∈ l.l, sizeOf s < j) → SlOk encStep 8 (fun hp nx y => RStepOk hp nx y) hp nx l → WF ex 18 [l.v, .int .i64 d] hp nx (Stays nx hp (fun v => ∃ a b : Int, v = .tuple ⟨[.int .i64 a, .int .i64 b]⟩))) (l : SV RStep) (d : Int) (hp : Ht) (nx : Nat) (hk : ∀ s ∈ l.l, sizeOf s < k) (hl : SlOk encStep 8 (fun hp nx y => RStepOk hp nx y) hp nx l) : WF ex 18 [l.v, .int .i64 (d)] hp nx (Stays nx hp (fun v => ∃ a b : Int, v = .tuple ⟨[.int .i64 a, .int .i64 b]⟩)) := by
 obtain ⟨a1, c2, hv3⟩ := hl.1.shape
 have hsm3 := hl.1.2.2
 rw [hv3]
 refine WF.body (fi := ⟨Tryz.f18.body.getD .skip, 84, [.tmp 4, .tmp 5]⟩) (by kernel_rfl) (by kernel_rfl) (by kernel_rfl) rfl ?_
 have hE := HE.refl nx hp
 refine sr ?_
 refine ov 4 (.int .i64 (0)) ?_
 refine ov 5 (.int .i64 (0)) ?_
 refine WO.nil ?_
 refine WP.seq ?_
 refine sr ?_
 refine ov 13 (.slice a1 (l.l.length) c2) ?_
 refine ov 14 (.int .i64 (.ofNat (l.l.length))) ?_
 obtain ⟨c4, e4, p4⟩ := @nb (ltI (0) (.ofNat (l.l.length))) ((0) < ((l.l.length : Nat) : Int)) (ltI_iff)
 refine ov 15 (.bool c4) ?_ (fun _ _ _ => by subst e4; kernel_rfl)
 refine ov 16 (.bool c4) ?_
 refine og 16 (c4) (.int .i64 (d)) (.bool c4) (by cases c4 <;> rfl) (fun h => by obtain rfl := h; exact fun _ _ _ => by kernel_rfl) ?_
 obtain ⟨c5, e5, p5⟩ := @nb (ltI (16) (d)) ((16) < (d)) (ltI_iff)
 refine og 16 (c4) (.bool c5) (.bool c4) (by cases c4 <;> rfl) (fun h => by obtain rfl := h; exact fun _ _ _ => by subst e5; kernel_rfl) ?_
 obtain ⟨c6, e6, p6⟩ := @nb ((c4 && c5)) (((0) < ((l.l.length : Nat) : Int)) ∧ ((16) < (d))) (by rw [Bool.and_eq_true, p4, p5])
 refine WO.cons (WC.opt (v := .bool c6) 19 (ePick (.bool c4) ((bif c4 then .bool c5 else undef)) (.bool false)) (fun _ _ _ => by kernel_rfl) (by rw [e6]; exact ePick_and (fun h => by obtain rfl : c4 = true := h; rfl)) ?_)
 refine WO.nil ?_
 refine WP.cond c6 (by kernel_rfl) (fun h7 => ?_) (fun h7 => ?_)
 ·
  have q8 := (p6).1 h7
  refine sr ?_
  refine ov 4 (.int .i64 (1000)) ?_
  refine ov 5 (.int .i64 (1000)) ?_
  refine WO.nil ?_
  refine WP.ret ⟨rfl, rfl, [.int .i64 (1000), .int .i64 (1000)], by kernel_rfl, ?_⟩
  exact ⟨⟨_, _, rfl⟩, (Nat.le_refl nx), hE⟩
 ·
  have q8 := nq p6 h7
  refine WP.skip ?_
  refine sr ?_
  refine ov 6 (.int .i64 (0)) ?_
  refine WO.nil ?_
  refine sr ?_
  refine ov 7 (.int .i64 (0)) ?_
  refine WO.nil ?_
  refine WP.seq ?_
  refine sr ?_
  refine ov 8 (.int .i64 (0)) ?_
  refine WO.nil ?_
  refine WP.block ?_
  have hj10 : ∀ t : Tm, (((((t.set 0 (t.get 0)).set 1 (t.get 1)).set 6 (t.get 6)).set 7 (t.get 7)).set 8 (t.get 8)) = t := fun t => by kernel_rfl
  refine WP.loop (fun m s => ∃ (iL9 : Nat) (n6 : Int) (n7 : Int), iL9 + m = l.l.length ∧ s.to.get 0 = .slice a1 (l.l.length) c2 ∧ s.to.get 1 = .int .i64 (d) ∧ s.to.get 6 = .int .i64 (n6) ∧ s.to.get 7 = .int .i64 (n7) ∧ s.to.get 8 = .int .i64 (.ofNat iL9) ∧ s.ds = [] ∧ s.cs = [] ∧ nx ≤ s.nx ∧ HE (nx) hp s.hp) ?_ (l.l.length) ?_
  ·
   rintro mL9 ⟨toL9, dsL9, hp11, nx12, csL9⟩ ⟨iL9, n6, n7, him13, gL9_0, gL9_1, gL9_6, gL9_7, gL9_8, hdsL9, hcsL9, hn14, he15⟩
   simp only at gL9_0 gL9_1 gL9_6 gL9_7 gL9_8 hdsL9 hcsL9 hn14 he15
   subst hdsL9 hcsL9
   rw [← hj10 toL9, gL9_0, gL9_1, gL9_6, gL9_7, gL9_8]
   clear gL9_0 gL9_1 gL9_6 gL9_7 gL9_8
   have hE16 := hE.trans he15 (Nat.le_refl nx)
   have le17 := Nat.le_trans (Nat.le_refl nx) hn14
   refine WP.seq ?_
   refine sr ?_
   refine ov 20 (.int .i64 (.ofNat iL9)) ?_
   refine ov 21 (.slice a1 (l.l.length) c2) ?_
   refine ov 22 (.int .i64 (.ofNat (l.l.length))) ?_
   obtain ⟨c18, e18, p18⟩ := @nb (ltI (.ofNat iL9) (.ofNat (l.l.length))) (((iL9 : Nat) : Int) < ((l.l.length : Nat) : Int)) (ltI_iff)
   refine ov 23 (.bool c18) ?_ (fun _ _ _ => by subst e18; kernel_rfl)
   refine ov 24 (.bool c18) ?_
   refine og 24 (c18) (.int .i64 (n6)) (.bool c18) (by cases c18 <;> rfl) (fun h => by obtain rfl := h; exact fun _ _ _ => by kernel_rfl) ?_
   obtain ⟨c19, e19, p19⟩ := @nb (leI (n6) (64)) ((n6) ≤ (64)) (leI_iff)
   refine og 24 (c18) (.bool c19) (.bool c18) (by cases c18 <;> rfl) (fun h => by obtain rfl := h; exact fun _ _ _ => by subst e19; kernel_rfl) ?_
   obtain ⟨c20, e20, p20⟩ := @nb ((c18 && c19)) ((((iL9 : Nat) : Int) < ((l.l.length : Nat) : Int)) ∧ ((n6) ≤ (64))) (by rw [Bool.and_eq_true, p18, p19])
   refine WO.cons (WC.opt (v := .bool c20) 27 (ePick (.bool c18) ((bif c18 then .bool c19 else undef)) (.bool false)) (fun _ _ _ => by kernel_rfl) (by rw [e20]; exact ePick_and (fun h => by obtain rfl : c18 = true := h; rfl)) ?_)
   refine ov 28 (.bool c20) ?_
   refine og 28 (c20) (.int .i64 (n7)) (.bool c20) (by cases c20 <;> rfl) (fun h => by obtain rfl := h; exact fun _ _ _ => by kernel_rfl) ?_
   obtain ⟨c21, e21, p21⟩ := @nb (leI (n7) (256)) ((n7) ≤ (256)) (leI_iff)
   refine og 28 (c20) (.bool c21) (.bool c20) (by cases c20 <;> rfl) (fun h => by obtain rfl := h; exact fun _ _ _ => by subst e21; kernel_rfl) ?_
   obtain ⟨c22, e22, p22⟩ := @nb ((c20 && c21)) (((((iL9 : Nat) : Int) < ((l.l.length : Nat) : Int)) ∧ ((n6) ≤ (64))) ∧ ((n7) ≤ (256))) (by rw [Bool.and_eq_true, p20, p21])
   refine WO.cons (WC.opt (v := .bool c22) 31 (ePick (.bool c20) ((bif c20 then .bool c21 else undef)) (.bool false)) (fun _ _ _ => by kernel_rfl) (by rw [e22]; exact ePick_and (fun h => by obtain rfl : c20 = true := h; rfl)) ?_)
   refine WO.nil ?_
   refine WP.cond c22 (by kernel_rfl) (fun h23 => ?_) (fun h23 => ?_)
   ·
    have q24 := (p22).1 h23
    refine WP.skip ?_
    refine WP.seq ?_
    refine WP.block ?_
    refine sr ?_
    refine ov 35 (.slice a1 (l.l.length) c2) ?_
    refine ov 36 (.int .i64 (.ofNat iL9)) ?_
    have hlt25 : iL9 < l.l.length := by omega
    refine WO.cons (WC.ix (k := .i64) a1 (l.l.length) c2 (iL9) 8 (by kernel_rfl) (by kernel_rfl) T_und24 T_size106 ((hl.1.mono hE16 le17).blkA hv3 (zl hlt25)) (hlt25) ?_)
    refine ov 38 (.pointer (some ⟨(blk a1), 0 + (iL9) * 8 + 6, none⟩)) ?_
    obtain ⟨x26, hx27⟩ : ∃ el_, l.l[iL9]? = some el_ := ⟨_, List.getElem?_eq_getElem (hlt25)⟩
    obtain ⟨a28, c29, hv30⟩ := (hl.2 x26 (List.mem_of_getElem? hx27)).fThen.1.shape
    have hsm30 := (hl.2 x26 (List.mem_of_getElem? hx27)).fThen.1.2.2
    refine WO.cons (WC.load1E (blk a1) (0 + (iL9) * 8 + 6) (.slice a28 (x26.fThen.l.length) c29) (by kernel_rfl) T_agg24 ((hl.1.mono hE16 le17).blkB hv3 (zl hlt25)) (flat_at (hl.1.mono hE16 le17).1 hx27 (by decide) (by rw [← hv30]; rfl)) ?_)
    refine ov 40 (.int .i64 (d)) ?_
    refine ov 41 (.int .i64 (wrapE .i64 ((d) + (1)))) ?_
    refine WO.cons (WC.call 42 18 ([x26.fThen.v, .int .i64 (wrapE .i64 ((d) + (1)))]) (fun _ _ _ => by (try rw [hv30]); kernel_rfl) ((ih _ (hk _ (List.mem_of_getElem? hx27)) x26.fThen (wrapE .i64 ((d) + (1))) hp11 (nx12) (fun s hs => RStep.then_lt hs) ((hl.2 x26 (List.mem_of_getElem? hx27)).fThen.mono (fun _ h => h.mono) hE16 le17)).mono ?_))
    rintro _ hp31 nx32 ⟨⟨a35, b36, rfl⟩, hn33, he34⟩
    have hE37 := hE16.trans he34 le17
    have hr38 := he15.trans he34 hn14
    have rl39 := Nat.le_trans hn14 hn33
    have le40 := Nat.le_trans le17 hn33
    refine ov 34 (.tuple ⟨[.int .i64 (a35), .int .i64 (b36)]⟩) ?_
    refine ov 43 (.int .i64 (a35)) ?_
    refine ov 44 (.int .i64 (b36)) ?_
    refine ov 9 (.int .i64 (a35)) ?_
    refine ov 10 (.int .i64 (b36)) ?_
    refine WO.nil ?_
    refine sr ?_
    refine ov 46 (.slice a1 (l.l.length) c2) ?_
    refine ov 47 (.int .i64 (.ofNat iL9)) ?_
    have hlt41 : iL9 < l.l.length := by omega
    refine WO.cons (WC.ix (k := .i64) a1 (l.l.length) c2 (iL9) 8 (by kernel_rfl) (by kernel_rfl) T_und24 T_size106 ((hl.1.mono hE37 le40).blkA hv3 (zl hlt41)) (hlt41) ?_)
    refine ov 49 (.pointer (some ⟨(blk a1), 0 + (iL9) * 8 + 7, none⟩)) ?_
    obtain ⟨a42, c43, hv44⟩ := (hl.2 x26 (List.mem_of_getElem? hx27)).fElse.1.shape
    have hsm44 := (hl.2 x26 (List.mem_of_getElem? hx27)).fElse.1.2.2
    refine WO.cons (WC.load1E (blk a1) (0 + (iL9) * 8 + 7) (.slice a42 (x26.fElse.l.length) c43) (by kernel_rfl) T_agg24 ((hl.1.mono hE37 le40).blkB hv3 (zl hlt41)) (flat_at (hl.1.mono hE37 le40).1 hx27 (by decide) (by rw [← hv44]; rfl)) ?_)
    refine ov 51 (.int .i64 (d)) ?_
    refine ov 52 (.int .i64 (wrapE .i64 ((d) + (1)))) ?_
    refine WO.cons (WC.call 53 18 ([x26.fElse.v, .int .i64 (wrapE .i64 ((d) + (1)))]) (fun _ _ _ => by (try rw [hv44]); kernel_rfl) ((ih _ (hk _ (List.mem_of_getElem? hx27)) x26.fElse (wrapE .i64 ((d) + (1))) hp31 (nx32) (fun s hs => RStep.else_lt hs) ((hl.2 x26 (List.mem_of_getElem? hx27)).fElse.mono (fun _ h => h.mono) hE37 le40)).mono ?_))
    rintro _ hp45 nx46 ⟨⟨a49, b50, rfl⟩, hn47, he48⟩
    have hE51 := hE37.trans he48 le40
    have hr52 := hr38.trans he48 rl39
    have rl53 := Nat.le_trans rl39 hn47
    have le54 := Nat.le_trans le40 hn47
    refine ov 45 (.tuple ⟨[.int .i64 (a49), .int .i64 (b50)]⟩) ?_
    refine ov 54 (.int .i64 (a49)) ?_
    refine ov 55 (.int .i64 (b50)) ?_
    refine ov 11 (.int .i64 (a49)) ?_
    refine ov 12 (.int .i64 (b50)) ?_
    refine WO.nil ?_
    refine sr ?_
    refine ov 56 (.int .i64 (n6)) ?_
    refine ov 57 (.int .i64 (wrapE .i64 ((n6) + (1)))) ?_
    refine ov 58 (.int .i64 (a35)) ?_
    refine ov 59 (.int .i64 (wrapE .i64 ((wrapE .i64 ((n6) + (1))) + (a35)))) ?_
    refine ov 60 (.int .i64 (a49)) ?_
    refine ov 61 (.int .i64 (wrapE .i64 ((wrapE .i64 ((wrapE .i64 ((n6) + (1))) + (a35))) + (a49)))) ?_
    refine ov 6 (.int .i64 (wrapE .i64 ((wrapE .i64 ((wrapE .i64 ((n6) + (1))) + (a35))) + (a49)))) ?_
    refine WO.nil ?_
    refine sr ?_
    refine ov 62 (.int .i64 (n7)) ?_
    refine ov 63 (.int .i64 (b36)) ?_
    refine ov 64 (.int .i64 (wrapE .i64 ((n7) + (b36)))) ?_
    refine ov 65 (.int .i64 (b50)) ?_
    refine ov 66 (.int .i64 (wrapE .i64 ((wrapE .i64 ((n7) + (b36))) + (b50)))) ?_
    refine ov 7 (.int .i64 (wrapE .i64 ((wrapE .i64 ((n7) + (b36))) + (b50)))) ?_
    refine WO.nil ?_
    refine sr ?_
    refine ov 67 (.slice a1 (l.l.length) c2) ?_
    refine ov 68 (.int .i64 (.ofNat iL9)) ?_
    have hlt55 : iL9 < l.l.length := by omega
    refine WO.cons (WC.ix (k := .i64) a1 (l.l.length) c2 (iL9) 8 (by kernel_rfl) (by kernel_rfl) T_und24 T_size106 ((hl.1.mono hE51 le54).blkA hv3 (zl hlt55)) (hlt55) ?_)
    refine ov 70 (.pointer (some ⟨(blk a1), 0 + (iL9) * 8 + 2, none⟩)) ?_
    refine WO.cons (WC.loadSE (blk a1) (0 + (iL9) * 8 + 2) (encCond x26.fCond) (by kernel_rfl) T_agg104 T_size104 ((hl.1.mono hE51 le54).blkB hv3 (zl hlt55)) (flat_sub (hl.1.mono hE51 le54).1 hx27 (by decide) rfl) ?_)
    refine WO.cons (WC.call 72 42 ([.agg (encCond x26.fCond).toArray]) (fun _ _ _ => by kernel_rfl) ((zero_wf x26.fCond hp45 (nx46) ((hl.2 x26 (List.mem_of_getElem? hx27)).fCond.mono hE51 le54)).mono ?_))
    rintro _ hp56 nx57 ⟨⟨c60, rfl, p60⟩, hn58, he59⟩
    have hE61 := hE51.trans he59 le54
    have hr62 := hr52.trans he59 rl53
    have rl63 := Nat.le_trans rl53 hn58
    have le64 := Nat.le_trans le54 hn58
    obtain ⟨c65, e65, p65⟩ := @nb (!c60) (¬ (CondZero x26.fCond)) (by rw [Bool.not_eq_true', ← Bool.not_eq_true, p60])
    refine ov 73 (.bool c65) ?_ (fun _ _ _ => by subst e65; kernel_rfl)
    refine WO.nil ?_
    refine WP.cond c65 (by kernel_rfl) (fun h66 => ?_) (fun h66 => ?_)
    ·
     have q67 := (p65).1 h66
     refine WP.region ?_
     refine ov 74 (.int .i64 (wrapE .i64 ((wrapE .i64 ((n7) + (b36))) + (b50)))) ?_
     refine ov 75 (.slice a1 (l.l.length) c2) ?_
     refine ov 76 (.int .i64 (.ofNat iL9)) ?_
     have hlt68 : iL9 < l.l.length := by omega
     refine WO.cons (WC.ix (k := .i64) a1 (l.l.length) c2 (iL9) 8 (by kernel_rfl) (by kernel_rfl) T_und24 T_size106 ((hl.1.mono hE61 le64).blkA hv3 (zl hlt68)) (hlt68) ?_)
     refine ov 78 (.pointer (some ⟨(blk a1), 0 + (iL9) * 8 + 2, none⟩)) ?_
     refine WO.cons (WC.loadSE (blk a1) (0 + (iL9) * 8 + 2) (encCond x26.fCond) (by kernel_rfl) T_agg104 T_size104 ((hl.1.mono hE61 le64).blkB hv3 (zl hlt68)) (flat_sub (hl.1.mono hE61 le64).1 hx27 (by decide) rfl) ?_)
     refine WO.cons (WC.call 80 43 ([.agg (encCond x26.fCond).toArray, .int .i64 (0)]) (fun _ _ _ => by kernel_rfl) ((conditions_wf x26.fCond (0) hp56 (nx57) ((hl.2 x26 (List.mem_of_getElem? hx27)).fCond.mono hE61 le64)).mono ?_))
     rintro _ hp69 nx70 ⟨⟨z73, rfl⟩, hn71, he72⟩
     have hr75 := hr62.trans he72 rl63
     have rl76 := Nat.le_trans rl63 hn71
     refine ov 81 (.int .i64 (wrapE .i64 ((wrapE .i64 ((wrapE .i64 ((n7) + (b36))) + (b50))) + (z73)))) ?_
     refine ov 7 (.int .i64 (wrapE .i64 ((wrapE .i64 ((wrapE .i64 ((n7) + (b36))) + (b50))) + (z73)))) ?_
     refine WO.nil ?_
     refine WP.region ?_
     refine ov 32 (.int .i64 (.ofNat iL9)) ?_
     refine ov 33 (.int .i64 (.ofNat (iL9 + 1))) ?_ (fun _ _ _ => by rw [← wrapAdd (show iL9 + 1 < 9223372036854775808 by omega)]; kernel_rfl)
     refine ov 8 (.int .i64 (.ofNat (iL9 + 1))) ?_
     refine WO.nil ?_
     refine ⟨l.l.length - (iL9 + 1), by omega, iL9 + 1, wrapE .i64 ((wrapE .i64 ((wrapE .i64 ((n6) + (1))) + (a35))) + (a49)), wrapE .i64 ((wrapE .i64 ((wrapE .i64 ((n7) + (b36))) + (b50))) + (z73)), by omega, by kernel_rfl, by kernel_rfl, by kernel_rfl, by kernel_rfl, by kernel_rfl, rfl, rfl, ?_, ?_⟩
     · exact rl76
     · exact hr75
    ·
     have q67 := nq p65 h66
     refine WP.skip ?_
     refine WP.region ?_
     refine ov 32 (.int .i64 (.ofNat iL9)) ?_
     refine ov 33 (.int .i64 (.ofNat (iL9 + 1))) ?_ (fun _ _ _ => by rw [← wrapAdd (show iL9 + 1 < 9223372036854775808 by omega)]; kernel_rfl)
     refine ov 8 (.int .i64 (.ofNat (iL9 + 1))) ?_
     refine WO.nil ?_
     refine ⟨l.l.length - (iL9 + 1), by omega, iL9 + 1, wrapE .i64 ((wrapE .i64 ((wrapE .i64 ((n6) + (1))) + (a35))) + (a49)), wrapE .i64 ((wrapE .i64 ((n7) + (b36))) + (b50)), by omega, by kernel_rfl, by kernel_rfl, by kernel_rfl, by kernel_rfl, by kernel_rfl, rfl, rfl, ?_, ?_⟩
     · exact rl63
     · exact hr62
   ·
    have q24 := nq p22 h23
    refine WP.exit ?_
    refine sr ?_
    refine ov 82 (.int .i64 (n6)) ?_
    refine ov 83 (.int .i64 (n7)) ?_
    refine ov 4 (.int .i64 (n6)) ?_
    refine ov 5 (.int .i64 (n7)) ?_
    refine WO.nil ?_
    refine WP.ret ⟨rfl, rfl, [.int .i64 (n6), .int .i64 (n7)], by kernel_rfl, ?_⟩
    exact ⟨⟨_, _, rfl⟩, le17, hE16⟩
  ·
   exact ⟨0, 0, 0, by omega, by kernel_rfl, by kernel_rfl, by kernel_rfl, by kernel_rfl, by kernel_rfl, rfl, rfl, Nat.le_refl _, HE.refl _ _⟩
theorem mem_bound (l : List RStep) : ∀ s ∈ l, sizeOf s < sizeOf l := fun _ h => List.sizeOf_lt_of_mem h
theorem size_wf (l : SV RStep) (d : Int) (hp : Ht) (nx : Nat) (hl : SlOk encStep 8 (fun hp nx y => RStepOk hp nx y) hp nx l) : WF ex 18 [l.v, .int .i64 (d)] hp nx (Stays nx hp (fun v => ∃ a b : Int, v = .tuple ⟨[.int .i64 a, .int .i64 b]⟩)) := by
 have h : ∀ (k : Nat), ∀ (l : SV RStep) (d : Int) (hp : Ht) (nx : Nat), (∀ s ∈ l.l, sizeOf s < k) → SlOk encStep 8 (fun hp nx y => RStepOk hp nx y) hp nx l → WF ex 18 [l.v, .int .i64 d] hp nx (Stays nx hp (fun v => ∃ a b : Int, v = .tuple ⟨[.int .i64 a, .int .i64 b]⟩)) := by
  intro k
  induction k using Nat.strongRecOn with
  | _ k ih => intro l d hp nx hk hl; exact size_step k ih l d hp nx hk hl
 exact h _ l d hp nx (mem_bound _) hl
theorem few07_wf (l : SV RStep) (hp : Ht) (nx : Nat) (hl : SlOk encStep 8 (fun hp nx y => RStepOk hp nx y) hp nx l) : WF ex 5 [l.v] hp nx (Stays nx hp AnyB) := by
 obtain ⟨a1, c2, hv3⟩ := hl.1.shape
 have hsm3 := hl.1.2.2
 rw [hv3]
 refine WF.body (fi := ⟨Tryz.f5.body.getD .skip, 21, [.tmp 2]⟩) (by kernel_rfl) (by kernel_rfl) (by kernel_rfl) rfl ?_
 have hE := HE.refl nx hp
 refine sr ?_
 refine ov 2 (.bool false) ?_
 refine WO.nil ?_
 refine sr ?_
 refine ov 6 (.slice a1 (l.l.length) c2) ?_
 refine WO.cons (WC.call 7 18 ([l.v, .int .i64 (0)]) (fun _ _ _ => by (try rw [hv3]); kernel_rfl) ((size_wf l (0) hp (nx) (hl.mono (fun _ h => h.mono) hE (Nat.le_refl nx))).mono ?_))
 rintro _ hp4 nx5 ⟨⟨a8, b9, rfl⟩, hn6, he7⟩
 have hE10 := hE.trans he7 (Nat.le_refl nx)
 have le11 := Nat.le_trans (Nat.le_refl nx) hn6
 refine ov 5 (.tuple ⟨[.int .i64 (a8), .int .i64 (b9)]⟩) ?_
 refine ov 8 (.int .i64 (a8)) ?_
 refine ov 9 (.int .i64 (b9)) ?_
 refine ov 3 (.int .i64 (a8)) ?_
 refine ov 4 (.int .i64 (b9)) ?_
 refine WO.nil ?_
 refine sr ?_
 refine ov 10 (.slice a1 (l.l.length) c2) ?_
 refine ov 11 (.int .i64 (.ofNat (l.l.length))) ?_
 obtain ⟨c12, e12, p12⟩ := @nb (leI (.ofNat (l.l.length)) (20)) (((l.l.length : Nat) : Int) ≤ (20)) (leI_iff)
 refine ov 12 (.bool c12) ?_ (fun _ _ _ => by subst e12; kernel_rfl)
 refine ov 13 (.bool c12) ?_
 refine og 13 (c12) (.int .i64 (a8)) (.bool c12) (by cases c12 <;> rfl) (fun h => by obtain rfl := h; exact fun _ _ _ => by kernel_rfl) ?_
 obtain ⟨c13, e13, p13⟩ := @nb (leI (a8) (80)) ((a8) ≤ (80)) (leI_iff)
 refine og 13 (c12) (.bool c13) (.bool c12) (by cases c12 <;> rfl) (fun h => by obtain rfl := h; exact fun _ _ _ => by subst e13; kernel_rfl) ?_
 obtain ⟨c14, e14, p14⟩ := @nb ((c12 && c13)) ((((l.l.length : Nat) : Int) ≤ (20)) ∧ ((a8) ≤ (80))) (by rw [Bool.and_eq_true, p12, p13])
 refine WO.cons (WC.opt (v := .bool c14) 16 (ePick (.bool c12) ((bif c12 then .bool c13 else undef)) (.bool false)) (fun _ _ _ => by kernel_rfl) (by rw [e14]; exact ePick_and (fun h => by obtain rfl : c12 = true := h; rfl)) ?_)
 refine ov 17 (.bool c14) ?_
 refine og 17 (c14) (.int .i64 (b9)) (.bool c14) (by cases c14 <;> rfl) (fun h => by obtain rfl := h; exact fun _ _ _ => by kernel_rfl) ?_
 obtain ⟨c15, e15, p15⟩ := @nb (leI (b9) (300)) ((b9) ≤ (300)) (leI_iff)
 refine og 17 (c14) (.bool c15) (.bool c14) (by cases c14 <;> rfl) (fun h => by obtain rfl := h; exact fun _ _ _ => by subst e15; kernel_rfl) ?_
 obtain ⟨c16, e16, p16⟩ := @nb ((c14 && c15)) (((((l.l.length : Nat) : Int) ≤ (20)) ∧ ((a8) ≤ (80))) ∧ ((b9) ≤ (300))) (by rw [Bool.and_eq_true, p14, p15])
 refine WO.cons (WC.opt (v := .bool c16) 20 (ePick (.bool c14) ((bif c14 then .bool c15 else undef)) (.bool false)) (fun _ _ _ => by kernel_rfl) (by rw [e16]; exact ePick_and (fun h => by obtain rfl : c14 = true := h; rfl)) ?_)
 refine ov 2 (.bool c16) ?_
 refine WO.nil ?_
 refine WP.ret ⟨rfl, rfl, [.bool c16], by kernel_rfl, ?_⟩
 exact ⟨⟨_, rfl, fun _ => trivial⟩, le11, hE10⟩
end
end Sw

namespace Sw
noncomputable section
open Go Go.Proofs Go.RowKit
set_option maxRecDepth 100000
set_option maxHeartbeats 1600000
theorem infoForm : ∃ i, ex.T.info 212 = some i ∧ i.bytes = 16 := by
  cases h : ex.T.info 212 with
  | none => exact absurd (show (ex.T.info 212).isSome = true by kernel_rfl) (by rw [h]; decide)
  | some i =>
    refine ⟨i, rfl, ?_⟩
    have : ((ex.T.info 212).map fun i => i.bytes) = some 16 := by kernel_rfl
    rw [h] at this
    exact Option.some.inj this
theorem formFlat (l : List RForm) : ∀ y ∈ l, (encForm y).length = 1 := fun _ _ => rfl
theorem forms_one : ∀ (l : List RForm), (l.flatMap encForm).all one = true
  | [] => rfl
  | x :: l => by
    rw [List.flatMap_cons, List.all_append, forms_one l]
    simp only [encForm, List.all_cons, List.all_nil, fv_one, Bool.and_true]
def FormsAre (L : List RForm) (hp : Ht) (nx : Nat) (v : Value) (hp' : Ht) (nx' : Nat) : Prop := ∃ J : SV RForm, v = J.v ∧ J.l = L ∧ GroA encForm 1 nx hp' nx' J ∧ nx ≤ nx' ∧ HE nx hp hp'
theorem T_agg106 : ex.T.agg 106 = some true := by kernel_rfl
theorem T_size212 : ex.T.size 212 = some 1 := by kernel_rfl
theorem T_size3 : ex.T.size 3 = some 1 := by kernel_rfl
theorem T_und151 : ex.T.und 151 = some (.slice 212) := by kernel_rfl
theorem T_und29 : ex.T.und 29 = some (.slice 3) := by kernel_rfl
theorem T_zero104 : ex.T.zero 104 = some (.agg ⟨[.int .i64 (0), .int .i64 (0), .int .i64 (0), .slice none (0) 0]⟩) := by kernel_rfl
theorem T_zero106 : ex.T.zero 106 = some (.agg ⟨[.int .i64 (0), .int .i64 (0), .int .i64 (0), .int .i64 (0), .int .i64 (0), .slice none (0) 0, .slice none (0) 0, .slice none (0) 0]⟩) := by kernel_rfl
theorem T_zero212 : ex.T.zero 212 = some (.nilIface) := by kernel_rfl
theorem within1_wf (lo hi n : Int) (blo bhi : Nat) (hp : Ht) (nx : Nat) (hlo : hp.get blo = some (.cells [.int .i64 lo] CMeta.plain)) (llo : blo < nx) (hhi : hp.get bhi = some (.cells [.int .i64 hi] CMeta.plain)) (lhi : bhi < nx) : WF ex 93 [.int .i64 (n), .pointer (some ⟨blo, 0, none⟩), .pointer (some ⟨bhi, 0, none⟩)] hp nx (Stays nx hp (BoolIs (n < lo ∨ hi < n))) := by
 refine WF.body (fi := ⟨Tryz.f93.body.getD .skip, 13, [.tmp 4]⟩) (by kernel_rfl) (by kernel_rfl) (by kernel_rfl) rfl ?_
 have hE := HE.refl nx hp
 refine sr ?_
 refine ov 4 (.bool false) ?_
 refine WO.nil ?_
 refine sr ?_
 refine ov 5 (.int .i64 (n)) ?_
 refine WO.cons (WC.load1 blo (0) (.int .i64 (lo)) (by kernel_rfl) T_agg3 hlo rfl ?_)
 obtain ⟨c1, e1, p1⟩ := @nb (ltI (n) (lo)) ((n) < (lo)) (ltI_iff)
 refine ov 7 (.bool c1) ?_ (fun _ _ _ => by subst e1; kernel_rfl)
 refine ov 8 (.bool c1) ?_
 refine og 8 (!c1) (.int .i64 (n)) (.bool c1) (by cases c1 <;> rfl) (fun h => by obtain rfl := bF h; exact fun _ _ _ => by kernel_rfl) ?_
 refine ogc 8 (!c1) (.int .i64 (hi)) (.bool c1) (by cases c1 <;> rfl) (fun h => by obtain rfl := bF h; exact WC.load1 bhi (0) (.int .i64 (hi)) (by kernel_rfl) T_agg3 hhi rfl rfl) ?_
 obtain ⟨c2, e2, p2⟩ := @nb (ltI (hi) (n)) ((hi) < (n)) (ltI_iff)
 refine og 8 (!c1) (.bool c2) (.bool c1) (by cases c1 <;> rfl) (fun h => by obtain rfl := bF h; exact fun _ _ _ => by subst e2; kernel_rfl) ?_
 obtain ⟨c3, e3, p3⟩ := @nb ((c1 || c2)) (((n) < (lo)) ∨ ((hi) < (n))) (by rw [Bool.or_eq_true, p1, p2])
 refine WO.cons (WC.opt (v := .bool c3) 12 (ePick (.bool c1) (.bool true) ((bif !c1 then .bool c2 else undef))) (fun _ _ _ => by kernel_rfl) (by rw [e3]; exact ePick_or (fun h => by obtain rfl : c1 = false := h; rfl)) ?_)
 refine ov 4 (.bool c3) ?_
 refine WO.nil ?_
 refine WP.ret ⟨rfl, rfl, [.bool c3], by kernel_rfl, ?_⟩
 refine ⟨⟨c3, rfl, ?_⟩, (Nat.le_refl nx), hE⟩
 exact p3
theorem indexFunc_int {A : Int → Prop} (K : SV Int) (f : FuncId) (b : Array Value) (hp : Ht) (nx : Nat) (hK : SOk encI 1 hp nx K) (hf : ∀ (i : Nat) (x : Int), K.l[i]? = some x → ∀ (hp' : Ht) (nx' : Nat), nx ≤ nx' → HE nx hp hp' → WF ex f ((.int .i64 (x)) :: b.toList) hp' nx' (Stays nx' hp' (BoolIs (A x)))) : WF ex 166 [K.v, .func (.func f) #[] b] hp nx (Stays nx hp (IdxIs K.l A)) := by
 obtain ⟨a1, c2, hv3⟩ := hK.shape
 have hsm3 := hK.2.2
 rw [hv3]
 refine WF.body (fi := ⟨Tryz.f166.body.getD .skip, 19, [.tmp 4]⟩) (by kernel_rfl) (by kernel_rfl) (by kernel_rfl) rfl ?_
 have hE := HE.refl nx hp
 refine sr ?_
 refine ov 4 (.int .i64 (0)) ?_
 refine WO.nil ?_
 refine WP.seq ?_
 refine sr ?_
 refine ov 6 (.slice a1 (K.l.length) c2) ?_
 refine ov 7 (.int .i64 (.ofNat (K.l.length))) ?_
 refine ov 8 (.int .i64 (0)) ?_
 refine WO.nil ?_
 refine WP.block ?_
 have hj5 : ∀ t : Tm, ((((t.set 0 (t.get 0)).set 1 (t.get 1)).set 7 (t.get 7)).set 8 (t.get 8)) = t := fun t => by kernel_rfl
 refine WP.loop (fun m s => ∃ (iL4 : Nat), iL4 + m = K.l.length ∧ s.to.get 0 = .slice a1 (K.l.length) c2 ∧ s.to.get 1 = .func (.func f) #[] b ∧ s.to.get 7 = .int .i64 (.ofNat (K.l.length)) ∧ s.to.get 8 = .int .i64 (.ofNat iL4) ∧ s.ds = [] ∧ s.cs = [] ∧ nx ≤ s.nx ∧ HE (nx) hp s.hp ∧ (∀ (j : Nat) (y : Int), j < iL4 → K.l[j]? = some y → ¬ A y)) ?_ (K.l.length) ?_
 ·
  rintro mL4 ⟨toL4, dsL4, hp6, nx7, csL4⟩ ⟨iL4, him8, gL4_0, gL4_1, gL4_7, gL4_8, hdsL4, hcsL4, hn9, he10, hinv⟩
  simp only at gL4_0 gL4_1 gL4_7 gL4_8 hdsL4 hcsL4 hn9 he10
  subst hdsL4 hcsL4
  rw [← hj5 toL4, gL4_0, gL4_1, gL4_7, gL4_8]
  clear gL4_0 gL4_1 gL4_7 gL4_8
  have hE11 := hE.trans he10 (Nat.le_refl nx)
  have le12 := Nat.le_trans (Nat.le_refl nx) hn9
  refine sr ?_
  obtain ⟨c13, e13, p13⟩ := @nb (ltI (.ofNat iL4) (.ofNat (K.l.length))) (((iL4 : Nat) : Int) < ((K.l.length : Nat) : Int)) (ltI_iff)
  refine ov 9 (.bool c13) ?_ (fun _ _ _ => by subst e13; kernel_rfl)
  refine WO.nil ?_
  refine WP.seq ?_
  refine WP.cond c13 (by kernel_rfl) (fun h14 => ?_) (fun h14 => ?_)
  ·
   have q15 := (p13).1 h14
   refine WP.skip ?_
   refine WP.seq ?_
   refine WP.block ?_
   refine sr ?_
   refine ov 10 (.int .i64 (.ofNat iL4)) ?_
   refine ov 5 (.int .i64 (.ofNat iL4)) ?_
   refine WO.nil ?_
   refine sr ?_
   refine ov 11 (.func (.func f) #[] b) ?_
   refine ov 12 (.slice a1 (K.l.length) c2) ?_
   refine ov 13 (.int .i64 (.ofNat iL4)) ?_
   have hlt16 : iL4 < K.l.length := by omega
   refine WO.cons (WC.ix (k := .i64) a1 (K.l.length) c2 (iL4) 1 (by kernel_rfl) (by kernel_rfl) T_und29 T_size3 ((hK.mono hE11 le12).blkA hv3 (zl hlt16)) (hlt16) ?_)
   obtain ⟨x17, hx18⟩ : ∃ el_, K.l[iL4]? = some el_ := ⟨_, List.getElem?_eq_getElem (hlt16)⟩
   refine WO.cons (WC.load1E (blk a1) (0 + (iL4) * 1) (.int .i64 (x17)) (by kernel_rfl) T_agg3 ((hK.mono hE11 le12).blkB hv3 (zl hlt16)) (flat_at1 (hK.mono hE11 le12).1 hx18 rfl) ?_)
   refine WO.cons (WC.call 16 f ((.int .i64 (x17)) :: b.toList) (fun _ _ _ => by kernel_rfl) ((hf iL4 x17 hx18 hp6 (nx7) le12 hE11).mono ?_))
   rintro _ hp19 nx20 ⟨⟨c23, rfl, p23⟩, hn21, he22⟩
   have hE24 := hE11.trans he22 le12
   have hr25 := he10.trans he22 hn9
   have rl26 := Nat.le_trans hn9 hn21
   have le27 := Nat.le_trans le12 hn21
   refine WO.nil ?_
   refine WP.cond c23 (by kernel_rfl) (fun h28 => ?_) (fun h28 => ?_)
   ·
    have q29 := (p23).1 h28
    refine sr ?_
    refine ov 17 (.int .i64 (.ofNat iL4)) ?_
    refine ov 4 (.int .i64 (.ofNat iL4)) ?_
    refine WO.nil ?_
    refine WP.ret ⟨rfl, rfl, [.int .i64 (.ofNat iL4)], by kernel_rfl, ?_⟩
    exact ⟨.inr ⟨iL4, x17, rfl, hx18, q29, hinv⟩, le27, hE24⟩
   ·
    have q29 : ¬ (A x17) := fun k => by rw [(p23).2 k] at h28; cases h28
    refine WP.skip ?_
    refine WP.region ?_
    refine ov 18 (.int .i64 (.ofNat (iL4 + 1))) ?_ (fun _ _ _ => by rw [← wrapAdd (show iL4 + 1 < 9223372036854775808 by omega)]; kernel_rfl)
    refine ov 8 (.int .i64 (.ofNat (iL4 + 1))) ?_
    refine WO.nil ?_
    refine ⟨K.l.length - (iL4 + 1), by omega, iL4 + 1, by omega, by kernel_rfl, by kernel_rfl, by kernel_rfl, by kernel_rfl, rfl, rfl, ?_, ?_, ?_⟩
    · exact rl26
    · exact hr25
    · intro j y hj hy; rcases Nat.lt_succ_iff_lt_or_eq.1 hj with hj | rfl; exact hinv j y hj hy; rw [hx18] at hy; cases hy; exact q29
  ·
   have q15 := nq p13 h14
   refine WP.exit ?_
   refine sr ?_
   refine ov 4 (.int .i64 (-1)) ?_
   refine WO.nil ?_
   refine WP.ret ⟨rfl, rfl, [.int .i64 (-1)], by kernel_rfl, ?_⟩
   refine ⟨.inl ⟨rfl, fun y hy => ?_⟩, le12, hE11⟩
   obtain ⟨j, hj⟩ := List.getElem?_of_mem hy
   exact hinv j y (by have := (List.getElem?_eq_some_iff.1 hj).1; omega) hj
 ·
  exact ⟨0, by omega, by kernel_rfl, by kernel_rfl, by kernel_rfl, by kernel_rfl, rfl, rfl, Nat.le_refl _, HE.refl _ _, (fun j y h => absurd h (Nat.not_lt_zero _))⟩
theorem containsFunc_int {A : Int → Prop} (K : SV Int) (f : FuncId) (b : Array Value) (hp : Ht) (nx : Nat) (hK : SOk encI 1 hp nx K) (hf : ∀ (i : Nat) (x : Int), K.l[i]? = some x → ∀ (hp' : Ht) (nx' : Nat), nx ≤ nx' → HE nx hp hp' → WF ex f ((.int .i64 (x)) :: b.toList) hp' nx' (Stays nx' hp' (BoolIs (A x)))) : WF ex 86 [K.v, .func (.func f) #[] b] hp nx (Stays nx hp (BoolIs (∃ x ∈ K.l, A x))) := by
 obtain ⟨a1, c2, hv3⟩ := hK.shape
 have hsm3 := hK.2.2
 rw [hv3]
 refine WF.body (fi := ⟨Tryz.f86.body.getD .skip, 9, [.tmp 4]⟩) (by kernel_rfl) (by kernel_rfl) (by kernel_rfl) rfl ?_
 have hE := HE.refl nx hp
 refine sr ?_
 refine ov 4 (.bool false) ?_
 refine WO.nil ?_
 refine sr ?_
 refine ov 5 (.slice a1 (K.l.length) c2) ?_
 refine ov 6 (.func (.func f) #[] b) ?_
 refine WO.cons (WC.call 7 166 ([K.v, .func (.func f) #[] b]) (fun _ _ _ => by (try rw [hv3]); kernel_rfl) ((indexFunc_int K f b hp (nx) hK hf).mono ?_))
 rintro vz8 hp4 nx5 ⟨hz0, hn6, he7⟩
 obtain ⟨z8, rfl, hz9⟩ : ∃ z : Int, vz8 = .int .i64 z ∧ (0 ≤ z ↔ ∃ x ∈ K.l, A x) := IdxIs.sign hz0
 have hE10 := hE.trans he7 (Nat.le_refl nx)
 have le11 := Nat.le_trans (Nat.le_refl nx) hn6
 obtain ⟨c12, e12, p12⟩ := @nb (leI (0) (z8)) ((0) ≤ (z8)) (leI_iff)
 refine ov 8 (.bool c12) ?_ (fun _ _ _ => by subst e12; kernel_rfl)
 refine ov 4 (.bool c12) ?_
 refine WO.nil ?_
 refine WP.ret ⟨rfl, rfl, [.bool c12], by kernel_rfl, ?_⟩
 exact ⟨⟨c12, rfl, p12.trans hz9⟩, le11, hE10⟩
theorem within_wf (lo hi : Int) (K : SV Int) (hp : Ht) (nx : Nat) (hK : SOk encI 1 hp nx K) : WF ex 46 [.int .i64 (lo), .int .i64 (hi), K.v] hp nx (Stays nx hp (BoolIs (∀ x ∈ K.l, lo ≤ x ∧ x ≤ hi))) := by
 obtain ⟨a1, c2, hv3⟩ := hK.shape
 have hsm3 := hK.2.2
 rw [hv3]
 refine WF.body (fi := ⟨Tryz.f46.body.getD .skip, 11, [.tmp 6]⟩) (by kernel_rfl) (by kernel_rfl) (by kernel_rfl) rfl ?_
 have hE := HE.refl nx hp
 refine sr ?_
 refine WO.cons (WC.box (.int .i64 (lo)) [.int .i64 (lo)] rfl (by kernel_rfl) rfl ?_)
 obtain ⟨hp5, hx6, he7, hb8⟩ := boxed hp (nx) [.int .i64 (lo)]
 rw [hx6]; clear hx6
 have hE9 := hE.trans he7 (Nat.le_refl nx)
 have le10 := Nat.le_trans (Nat.le_refl nx) (Nat.le_succ (nx))
 refine WO.cons (WC.box (.int .i64 (hi)) [.int .i64 (hi)] rfl (by kernel_rfl) rfl ?_)
 obtain ⟨hp12, hx13, he14, hb15⟩ := boxed hp5 (nx + 1) [.int .i64 (hi)]
 rw [hx13]; clear hx13
 have hE16 := hE9.trans he14 le10
 have hb17 := he14.get hb8 (Nat.lt_succ_self (nx))
 have lt18 := Nat.lt_of_lt_of_le (Nat.lt_succ_self (nx)) (Nat.le_succ (nx + 1))
 have le19 := Nat.le_trans le10 (Nat.le_succ (nx + 1))
 refine ov 6 (.bool false) ?_
 refine WO.nil ?_
 refine sr ?_
 refine ov 7 (.slice a1 (K.l.length) c2) ?_
 refine ov 8 (.func (.func 93) #[] #[.pointer (some ⟨nx, 0, none⟩), .pointer (some ⟨(nx + 1), 0, none⟩)]) ?_
 refine WO.cons (WC.call 9 86 ([K.v, .func (.func 93) #[] #[.pointer (some ⟨nx, 0, none⟩), .pointer (some ⟨(nx + 1), 0, none⟩)]]) (fun _ _ _ => by (try rw [hv3]); kernel_rfl) ((containsFunc_int (A := fun n => n < (lo) ∨ (hi) < n) K 93 #[.pointer (some ⟨nx, 0, none⟩), .pointer (some ⟨(nx + 1), 0, none⟩)] hp12 (nx + 1 + 1) (hK.mono hE16 le19) (fun i x hx hp' nx' hn he => within1_wf (lo) (hi) x nx (nx + 1) hp' nx' (he.get hb17 lt18) (Nat.lt_of_lt_of_le lt18 hn) (he.get hb15 (Nat.lt_succ_self (nx + 1))) (Nat.lt_of_lt_of_le (Nat.lt_succ_self (nx + 1)) hn))).mono ?_))
 rintro _ hp20 nx21 ⟨⟨c24, rfl, p24⟩, hn22, he23⟩
 have hE25 := hE16.trans he23 le19
 have le30 := Nat.le_trans le19 hn22
 obtain ⟨c31, e31, p31⟩ := @nb (!c24) (¬ (∃ x ∈ K.l, (fun n => n < (lo) ∨ (hi) < n) x)) (by rw [Bool.not_eq_true', ← Bool.not_eq_true, p24])
 refine ov 10 (.bool c31) ?_ (fun _ _ _ => by subst e31; kernel_rfl)
 refine ov 6 (.bool c31) ?_
 refine WO.nil ?_
 refine WP.ret ⟨rfl, rfl, [.bool c31], by kernel_rfl, ?_⟩
 refine ⟨⟨c31, rfl, ?_⟩, le30, hE25⟩
 exact p31.trans ⟨fun h x hx => by constructor <;> (apply Int.not_lt.1; intro k; exact h ⟨x, hx, by omega⟩), fun h ⟨x, hx, k⟩ => by have := h x hx; omega⟩
theorem env_wf (v : REnv) (hp : Ht) (nx : Nat) : WF ex 20 [.agg (encEnv v).toArray] hp nx (Stays nx hp AnyI) := by
 refine WF.body (fi := ⟨Tryz.f20.body.getD .skip, 22, [.tmp 2]⟩) (by kernel_rfl) (by kernel_rfl) (by kernel_rfl) rfl ?_
 have hE := HE.refl nx hp
 refine sr ?_
 refine WO.cons (WC.box (.agg (encEnv v).toArray) (encEnv v) rfl (by kernel_rfl) rfl ?_)
 obtain ⟨hp2, hx3, he4, hb5⟩ := boxed hp (nx) (encEnv v)
 rw [hx3]; clear hx3
 have hE6 := hE.trans he4 (Nat.le_refl nx)
 have le7 := Nat.le_trans (Nat.le_refl nx) (Nat.le_succ (nx))
 refine ov 2 (.int .i64 (0)) ?_
 refine WO.nil ?_
 refine WP.seq ?_
 refine sr ?_
 refine ov 3 (.pointer (some ⟨nx, 0 + 0, none⟩)) ?_
 refine WO.cons (WC.load1 nx (0 + 0) (.int .i64 (v.fDistance)) (by kernel_rfl) T_agg3 hb5 rfl ?_)
 refine WO.cons (WC.buildSlice [.int .i64 (v.fDistance)] rfl (by kernel_rfl) ?_)
 obtain ⟨hp8, hx9, he10, hb11⟩ := boxed hp2 (nx + 1) [.int .i64 (v.fDistance)]
 rw [hx9]; clear hx9
 have hE12 := hE6.trans he10 le7
 have hb13 := he10.get hb5 (Nat.lt_succ_self (nx))
 have lt14 := Nat.lt_of_lt_of_le (Nat.lt_succ_self (nx)) (Nat.le_succ (nx + 1))
 have le15 := Nat.le_trans le7 (Nat.le_succ (nx + 1))
 refine WO.cons (WC.call 6 46 ([.int .i64 (0), .int .i64 (7), (⟨.slice (some ⟨(nx + 1), 0, none⟩) 1 1, [v.fDistance]⟩ : SV Int).v]) (fun _ _ _ => by kernel_rfl) ((within_wf (0) (7) (⟨.slice (some ⟨(nx + 1), 0, none⟩) 1 1, [v.fDistance]⟩ : SV Int) hp8 (nx + 1 + 1) (SOk.ofBox (enc := encI) (by simp [encI]) hb11 rfl (by decide) (by omega) (by simp) : SOk encI 1 hp8 (nx + 1 + 1) (⟨.slice (some ⟨(nx + 1), 0, none⟩) 1 1, [v.fDistance]⟩ : SV Int))).mono ?_))
 rintro _ hp17 nx18 ⟨⟨c21, rfl, p21⟩, hn19, he20⟩
 have hE22 := hE12.trans he20 le15
 have hb23 := he20.get hb13 lt14
 have lt24 := Nat.lt_of_lt_of_le lt14 hn19
 have le27 := Nat.le_trans le15 hn19
 obtain ⟨c28, e28, p28⟩ := @nb (!c21) (¬ (∀ x ∈ (⟨.slice (some ⟨(nx + 1), 0, none⟩) 1 1, [v.fDistance]⟩ : SV Int).l, (0) ≤ x ∧ x ≤ (7))) (by rw [Bool.not_eq_true', ← Bool.not_eq_true, p21])
 refine ov 7 (.bool c28) ?_ (fun _ _ _ => by subst e28; kernel_rfl)
 refine ov 8 (.bool c28) ?_
 refine og 8 (!c28) (.pointer (some ⟨nx, 0 + 1, none⟩)) (.bool c28) (by cases c28 <;> rfl) (fun h => by obtain rfl := bF h; exact fun _ _ _ => by kernel_rfl) ?_
 refine ogc 8 (!c28) (.int .i64 (v.fField)) (.bool c28) (by cases c28 <;> rfl) (fun h => by obtain rfl := bF h; exact WC.load1 nx (0 + 1) (.int .i64 (v.fField)) (by kernel_rfl) T_agg3 hb23 rfl rfl) ?_
 cases c28 with
 | true =>
  have q29 := (p28).1 rfl
  refine WO.cons (WC.gskip (x := .bool true) (g := opd (.tmp 8)) rfl (by kernel_rfl) rfl ?_)
  refine WO.cons (WC.gskip (x := .bool true) (g := opd (.tmp 8)) rfl (by kernel_rfl) rfl ?_)
  refine WO.cons (WC.gskip (x := .bool true) (g := opd (.tmp 8)) rfl (by kernel_rfl) rfl ?_)
  refine ov 14 (.bool true) ?_
  refine ov 15 (.bool true) ?_
  refine WO.cons (WC.gskip (x := .bool true) (g := opd (.tmp 15)) rfl (by kernel_rfl) rfl ?_)
  refine WO.cons (WC.gskip (x := .bool true) (g := opd (.tmp 15)) rfl (by kernel_rfl) rfl ?_)
  refine WO.cons (WC.gskip (x := .bool true) (g := opd (.tmp 15)) rfl (by kernel_rfl) rfl ?_)
  refine WO.cons (WC.gskip (x := .bool true) (g := opd (.tmp 15)) rfl (by kernel_rfl) rfl ?_)
  refine WO.cons (WC.gskip (x := .bool true) (g := opd (.tmp 15)) rfl (by kernel_rfl) rfl ?_)
  refine ov 21 (.bool true) ?_
  refine WO.nil ?_
  refine WP.cond true (by kernel_rfl) (fun h30 => ?_) (fun h30 => by cases h30)
  refine sr ?_
  refine ov 2 (.int .i64 (1)) ?_
  refine WO.nil ?_
  refine WP.ret ⟨rfl, rfl, [.int .i64 (1)], by kernel_rfl, ?_⟩
  exact ⟨⟨_, rfl⟩, le27, hE22⟩
 | false =>
  have q31 : ¬ (¬ (∀ x ∈ (⟨.slice (some ⟨(nx + 1), 0, none⟩) 1 1, [v.fDistance]⟩ : SV Int).l, (0) ≤ x ∧ x ≤ (7))) := nf p28
  refine WO.cons (WC.gmet (x := .bool false) (g := opd (.tmp 8)) rfl (by kernel_rfl) rfl (WC.buildSlice [.int .i64 (v.fField)] rfl (by kernel_rfl) ?_))
  obtain ⟨hp32, hx33, he34, hb35⟩ := boxed hp17 (nx18) [.int .i64 (v.fField)]
  rw [hx33]; clear hx33
  have hE36 := hE22.trans he34 le27
  have hb37 := he34.get hb23 lt24
  have lt38 := Nat.lt_of_lt_of_le lt24 (Nat.le_succ (nx18))
  have le41 := Nat.le_trans le27 (Nat.le_succ (nx18))
  refine WO.cons (WC.gmet (x := .bool false) (g := opd (.tmp 8)) rfl (by kernel_rfl) rfl (WC.call 12 46 ([.int .i64 (0), .int .i64 (4000), (⟨.slice (some ⟨nx18, 0, none⟩) 1 1, [v.fField]⟩ : SV Int).v]) (fun _ _ _ => by kernel_rfl) ((within_wf (0) (4000) (⟨.slice (some ⟨nx18, 0, none⟩) 1 1, [v.fField]⟩ : SV Int) hp32 (nx18 + 1) (SOk.ofBox (enc := encI) (by simp [encI]) hb35 rfl (by decide) (by omega) (by simp) : SOk encI 1 hp32 (nx18 + 1) (⟨.slice (some ⟨nx18, 0, none⟩) 1 1, [v.fField]⟩ : SV Int))).mono ?_)))
  rintro _ hp43 nx44 ⟨⟨c47, rfl, p47⟩, hn45, he46⟩
  have hE48 := hE36.trans he46 le41
  have hb49 := he46.get hb37 lt38
  have le55 := Nat.le_trans le41 hn45
  obtain ⟨c56, e56, p56⟩ := @nb (!c47) (¬ (∀ x ∈ (⟨.slice (some ⟨nx18, 0, none⟩) 1 1, [v.fField]⟩ : SV Int).l, (0) ≤ x ∧ x ≤ (4000))) (by rw [Bool.not_eq_true', ← Bool.not_eq_true, p47])
  refine WO.cons (WC.gmet (x := .bool false) (g := opd (.tmp 8)) rfl (by kernel_rfl) rfl (WC.val 13 (.bool c56) (fun _ _ _ => by subst e56; kernel_rfl) ?_))
  refine ov 14 (.bool c56) ?_
  refine ov 15 (.bool c56) ?_
  refine og 15 (!c56) (.pointer (some ⟨nx, 0 + 2, none⟩)) (.bool c56) (by cases c56 <;> rfl) (fun h => by obtain rfl := bF h; exact fun _ _ _ => by kernel_rfl) ?_
  refine ogc 15 (!c56) (.int .i64 (v.fShort)) (.bool c56) (by cases c56 <;> rfl) (fun h => by obtain rfl := bF h; exact WC.load1 nx (0 + 2) (.int .i64 (v.fShort)) (by kernel_rfl) T_agg3 hb49 rfl rfl) ?_
  cases c56 with
  | true =>
   have q57 := (p56).1 rfl
   refine WO.cons (WC.gskip (x := .bool true) (g := opd (.tmp 15)) rfl (by kernel_rfl) rfl ?_)
   refine WO.cons (WC.gskip (x := .bool true) (g := opd (.tmp 15)) rfl (by kernel_rfl) rfl ?_)
   refine WO.cons (WC.gskip (x := .bool true) (g := opd (.tmp 15)) rfl (by kernel_rfl) rfl ?_)
   refine ov 21 (.bool true) ?_
   refine WO.nil ?_
   refine WP.cond true (by kernel_rfl) (fun h58 => ?_) (fun h58 => by cases h58)
   refine sr ?_
   refine ov 2 (.int .i64 (1)) ?_
   refine WO.nil ?_
   refine WP.ret ⟨rfl, rfl, [.int .i64 (1)], by kernel_rfl, ?_⟩
   exact ⟨⟨_, rfl⟩, le55, hE48⟩
  | false =>
   have q59 : ¬ (¬ (∀ x ∈ (⟨.slice (some ⟨nx18, 0, none⟩) 1 1, [v.fField]⟩ : SV Int).l, (0) ≤ x ∧ x ≤ (4000))) := nf p56
   refine WO.cons (WC.gmet (x := .bool false) (g := opd (.tmp 15)) rfl (by kernel_rfl) rfl (WC.buildSlice [.int .i64 (v.fShort)] rfl (by kernel_rfl) ?_))
   obtain ⟨hp60, hx61, he62, hb63⟩ := boxed hp43 (nx44) [.int .i64 (v.fShort)]
   rw [hx61]; clear hx61
   have hE64 := hE48.trans he62 le55
   have le71 := Nat.le_trans le55 (Nat.le_succ (nx44))
   refine WO.cons (WC.gmet (x := .bool false) (g := opd (.tmp 15)) rfl (by kernel_rfl) rfl (WC.call 19 46 ([.int .i64 (0), .int .i64 (1), (⟨.slice (some ⟨nx44, 0, none⟩) 1 1, [v.fShort]⟩ : SV Int).v]) (fun _ _ _ => by kernel_rfl) ((within_wf (0) (1) (⟨.slice (some ⟨nx44, 0, none⟩) 1 1, [v.fShort]⟩ : SV Int) hp60 (nx44 + 1) (SOk.ofBox (enc := encI) (by simp [encI]) hb63 rfl (by decide) (by omega) (by simp) : SOk encI 1 hp60 (nx44 + 1) (⟨.slice (some ⟨nx44, 0, none⟩) 1 1, [v.fShort]⟩ : SV Int))).mono ?_)))
   rintro _ hp73 nx74 ⟨⟨c77, rfl, p77⟩, hn75, he76⟩
   have hE78 := hE64.trans he76 le71
   have le87 := Nat.le_trans le71 hn75
   obtain ⟨c88, e88, p88⟩ := @nb (!c77) (¬ (∀ x ∈ (⟨.slice (some ⟨nx44, 0, none⟩) 1 1, [v.fShort]⟩ : SV Int).l, (0) ≤ x ∧ x ≤ (1))) (by rw [Bool.not_eq_true', ← Bool.not_eq_true, p77])
   refine WO.cons (WC.gmet (x := .bool false) (g := opd (.tmp 15)) rfl (by kernel_rfl) rfl (WC.val 20 (.bool c88) (fun _ _ _ => by subst e88; kernel_rfl) ?_))
   refine ov 21 (.bool c88) ?_
   refine WO.nil ?_
   refine WP.cond c88 (by kernel_rfl) (fun h89 => ?_) (fun h89 => ?_)
   ·
    have q90 := (p88).1 h89
    refine sr ?_
    refine ov 2 (.int .i64 (1)) ?_
    refine WO.nil ?_
    refine WP.ret ⟨rfl, rfl, [.int .i64 (1)], by kernel_rfl, ?_⟩
    exact ⟨⟨_, rfl⟩, le87, hE78⟩
   ·
    have q90 := nq p88 h89
    refine WP.skip ?_
    refine sr ?_
    refine ov 2 (.int .i64 (0)) ?_
    refine WO.nil ?_
    refine WP.ret ⟨rfl, rfl, [.int .i64 (0)], by kernel_rfl, ?_⟩
    exact ⟨⟨_, rfl⟩, le87, hE78⟩
theorem isZero_wf (c : RCond) (hp : Ht) (nx : Nat) (hc : RCondOk hp nx c) : WF ex 167 [.agg (encCond c).toArray] hp nx (Stays nx hp (BoolIs (CondZero c))) := by
 refine WF.body (fi := ⟨Tryz.f167.body.getD .skip, 26, [.tmp 2]⟩) (by kernel_rfl) (by kernel_rfl) (by kernel_rfl) rfl ?_
 have hE := HE.refl nx hp
 refine sr ?_
 refine WO.cons (WC.box (.agg (encCond c).toArray) (encCond c) rfl (by kernel_rfl) rfl ?_)
 obtain ⟨hp2, hx3, he4, hb5⟩ := boxed hp (nx) (encCond c)
 rw [hx3]; clear hx3
 have hE6 := hE.trans he4 (Nat.le_refl nx)
 have le7 := Nat.le_trans (Nat.le_refl nx) (Nat.le_succ (nx))
 refine ov 2 (.bool false) ?_
 refine WO.nil ?_
 refine sr ?_
 refine ov 3 (.pointer (some ⟨nx, 0 + 0, none⟩)) ?_
 refine ov 4 (.pointer (some ⟨nx, 0 + 0 + 0, none⟩)) ?_
 refine WO.cons (WC.load1 nx (0 + 0 + 0) (.int .i64 (c.fKind)) (by kernel_rfl) T_agg3 hb5 rfl ?_)
 obtain ⟨c8, e8, p8⟩ := @nb (eqI (c.fKind) (0)) ((c.fKind) = (0)) (eqI_iff)
 refine ov 6 (.bool c8) ?_ (fun _ _ _ => by subst e8; kernel_rfl)
 refine ov 7 (.bool c8) ?_
 refine og 7 (c8) (.pointer (some ⟨nx, 0 + 0, none⟩)) (.bool c8) (by cases c8 <;> rfl) (fun h => by obtain rfl := h; exact fun _ _ _ => by kernel_rfl) ?_
 refine og 7 (c8) (.pointer (some ⟨nx, 0 + 0 + 1, none⟩)) (.bool c8) (by cases c8 <;> rfl) (fun h => by obtain rfl := h; exact fun _ _ _ => by kernel_rfl) ?_
 refine ogc 7 (c8) (.int .i64 (c.fVar)) (.bool c8) (by cases c8 <;> rfl) (fun h => by obtain rfl := h; exact WC.load1 nx (0 + 0 + 1) (.int .i64 (c.fVar)) (by kernel_rfl) T_agg3 hb5 rfl rfl) ?_
 obtain ⟨c9, e9, p9⟩ := @nb (eqI (c.fVar) (0)) ((c.fVar) = (0)) (eqI_iff)
 refine og 7 (c8) (.bool c9) (.bool c8) (by cases c8 <;> rfl) (fun h => by obtain rfl := h; exact fun _ _ _ => by subst e9; kernel_rfl) ?_
 obtain ⟨c10, e10, p10⟩ := @nb ((c8 && c9)) (((c.fKind) = (0)) ∧ ((c.fVar) = (0))) (by rw [Bool.and_eq_true, p8, p9])
 refine WO.cons (WC.opt (v := .bool c10) 12 (ePick (.bool c8) ((bif c8 then .bool c9 else undef)) (.bool false)) (fun _ _ _ => by kernel_rfl) (by rw [e10]; exact ePick_and (fun h => by obtain rfl : c8 = true := h; rfl)) ?_)
 refine ov 13 (.bool c10) ?_
 refine og 13 (c10) (.pointer (some ⟨nx, 0 + 0, none⟩)) (.bool c10) (by cases c10 <;> rfl) (fun h => by obtain rfl := h; exact fun _ _ _ => by kernel_rfl) ?_
 refine og 13 (c10) (.pointer (some ⟨nx, 0 + 0 + 2, none⟩)) (.bool c10) (by cases c10 <;> rfl) (fun h => by obtain rfl := h; exact fun _ _ _ => by kernel_rfl) ?_
 refine ogc 13 (c10) (.int .i64 (c.fN)) (.bool c10) (by cases c10 <;> rfl) (fun h => by obtain rfl := h; exact WC.load1 nx (0 + 0 + 2) (.int .i64 (c.fN)) (by kernel_rfl) T_agg3 hb5 rfl rfl) ?_
 obtain ⟨c11, e11, p11⟩ := @nb (eqI (c.fN) (0)) ((c.fN) = (0)) (eqI_iff)
 refine og 13 (c10) (.bool c11) (.bool c10) (by cases c10 <;> rfl) (fun h => by obtain rfl := h; exact fun _ _ _ => by subst e11; kernel_rfl) ?_
 obtain ⟨c12, e12, p12⟩ := @nb ((c10 && c11)) ((((c.fKind) = (0)) ∧ ((c.fVar) = (0))) ∧ ((c.fN) = (0))) (by rw [Bool.and_eq_true, p10, p11])
 refine WO.cons (WC.opt (v := .bool c12) 18 (ePick (.bool c10) ((bif c10 then .bool c11 else undef)) (.bool false)) (fun _ _ _ => by kernel_rfl) (by rw [e12]; exact ePick_and (fun h => by obtain rfl : c10 = true := h; rfl)) ?_)
 refine ov 19 (.bool c12) ?_
 refine og 19 (c12) (.pointer (some ⟨nx, 0 + 0, none⟩)) (.bool c12) (by cases c12 <;> rfl) (fun h => by obtain rfl := h; exact fun _ _ _ => by kernel_rfl) ?_
 refine og 19 (c12) (.pointer (some ⟨nx, 0 + 0 + 3, none⟩)) (.bool c12) (by cases c12 <;> rfl) (fun h => by obtain rfl := h; exact fun _ _ _ => by kernel_rfl) ?_
 obtain ⟨a13, c14, hv15⟩ := hc.fParts.1.shape
 have hsm15 := hc.fParts.1.2.2
 refine ogc 19 (c12) (.slice a13 (c.fParts.l.length) c14) (.bool c12) (by cases c12 <;> rfl) (fun h => by obtain rfl := h; exact WC.load1 nx (0 + 0 + 3) (.slice a13 (c.fParts.l.length) c14) (by kernel_rfl) T_agg102 hb5 (by rw [← hv15]; rfl) rfl) ?_
 refine og 19 (c12) (.int .i64 (.ofNat (c.fParts.l.length))) (.bool c12) (by cases c12 <;> rfl) (fun h => by obtain rfl := h; exact fun _ _ _ => by kernel_rfl) ?_
 obtain ⟨c16, e16, p16⟩ := @nb (eqI (.ofNat (c.fParts.l.length)) (0)) (((c.fParts.l.length : Nat) : Int) = (0)) (eqI_iff)
 refine og 19 (c12) (.bool c16) (.bool c12) (by cases c12 <;> rfl) (fun h => by obtain rfl := h; exact fun _ _ _ => by subst e16; kernel_rfl) ?_
 obtain ⟨c17, e17, p17⟩ := @nb ((c12 && c16)) (((((c.fKind) = (0)) ∧ ((c.fVar) = (0))) ∧ ((c.fN) = (0))) ∧ (((c.fParts.l.length : Nat) : Int) = (0))) (by rw [Bool.and_eq_true, p12, p16])
 refine WO.cons (WC.opt (v := .bool c17) 25 (ePick (.bool c12) ((bif c12 then .bool c16 else undef)) (.bool false)) (fun _ _ _ => by kernel_rfl) (by rw [e17]; exact ePick_and (fun h => by obtain rfl : c12 = true := h; rfl)) ?_)
 refine ov 2 (.bool c17) ?_
 refine WO.nil ?_
 refine WP.ret ⟨rfl, rfl, [.bool c17], by kernel_rfl, ?_⟩
 refine ⟨⟨c17, rfl, ?_⟩, le7, hE6⟩
 exact p17.trans ⟨fun ⟨⟨⟨a, b⟩, c⟩, d⟩ => ⟨a, b, c, List.eq_nil_of_length_eq_zero (by omega)⟩, fun ⟨a, b, c, d⟩ => ⟨⟨⟨a, b⟩, c⟩, by rw [d]; rfl⟩⟩
theorem conds_wf (l : SV RCond) (hp : Ht) (nx : Nat) (hl : SlOk encCond 4 (fun hp nx y => RCondOk hp nx y) hp nx l) (hlen : l.l.length ≤ 2932031007403) : WF ex 330 [l.v] hp nx (FormsAre (l.l.map .cond) hp nx) := by
 obtain ⟨a1, c2, hv3⟩ := hl.1.shape
 have hsm3 := hl.1.2.2
 rw [hv3]
 refine WF.body (fi := ⟨Tryz.f330.body.getD .skip, 19, [.tmp 2]⟩) (by kernel_rfl) (by kernel_rfl) (by kernel_rfl) rfl ?_
 have hE := HE.refl nx hp
 refine sr ?_
 refine ov 2 (.slice none (0) 0) ?_
 refine WO.nil ?_
 refine WP.seq ?_
 refine sr ?_
 refine ov 5 (.slice a1 (l.l.length) c2) ?_
 refine ov 6 (.int .i64 (.ofNat (l.l.length))) ?_
 refine ov 7 (.int .i64 (0)) ?_
 refine WO.nil ?_
 refine WP.block ?_
 have hj5 : ∀ t : Tm, ((((t.set 2 (t.get 2)).set 5 (t.get 5)).set 6 (t.get 6)).set 7 (t.get 7)) = t := fun t => by kernel_rfl
 refine WP.loop (fun m s => ∃ (iL4 : Nat) (J : SV RForm), iL4 + m = l.l.length ∧ s.to.get 2 = J.v ∧ s.to.get 5 = .slice a1 (l.l.length) c2 ∧ s.to.get 6 = .int .i64 (.ofNat (l.l.length)) ∧ s.to.get 7 = .int .i64 (.ofNat iL4) ∧ s.ds = [] ∧ s.cs = [] ∧ nx ≤ s.nx ∧ HE nx hp s.hp ∧ (GroA encForm 1 (nx) s.hp s.nx J) ∧ (J.l = (l.l.take iL4).map .cond) ∧ (J.l.length = iL4)) ?_ (l.l.length) ?_
 ·
  rintro mL4 ⟨toL4, dsL4, hp6, nx7, csL4⟩ ⟨iL4, J, him8, gL4_2, gL4_5, gL4_6, gL4_7, hdsL4, hcsL4, hn9, he10, hG, hJl, hJn⟩
  simp only at gL4_2 gL4_5 gL4_6 gL4_7 hdsL4 hcsL4 hn9 he10 hG
  subst hdsL4 hcsL4
  rw [← hj5 toL4, gL4_2, gL4_5, gL4_6, gL4_7]
  clear gL4_2 gL4_5 gL4_6 gL4_7
  have le11 := Nat.le_trans (Nat.le_refl nx) hn9
  have hr12 := HE.refl (nx7) hp6
  have rl13 := Nat.le_refl (nx7)
  refine sr ?_
  obtain ⟨c14, e14, p14⟩ := @nb (ltI (.ofNat iL4) (.ofNat (l.l.length))) (((iL4 : Nat) : Int) < ((l.l.length : Nat) : Int)) (ltI_iff)
  refine ov 8 (.bool c14) ?_ (fun _ _ _ => by subst e14; kernel_rfl)
  refine WO.nil ?_
  refine WP.seq ?_
  refine WP.cond c14 (by kernel_rfl) (fun h15 => ?_) (fun h15 => ?_)
  ·
   have q16 := (p14).1 h15
   refine WP.skip ?_
   refine WP.seq ?_
   refine WP.block ?_
   refine sr ?_
   have hlt17 : iL4 < l.l.length := by omega
   refine WO.cons (WC.ix (k := .i64) a1 (l.l.length) c2 (iL4) 4 (by kernel_rfl) (by kernel_rfl) T_und102 T_size104 ((hl.1.mono he10 le11).blkA hv3 (zl hlt17)) (hlt17) ?_)
   obtain ⟨x18, hx19⟩ : ∃ el_, l.l[iL4]? = some el_ := ⟨_, List.getElem?_eq_getElem (hlt17)⟩
   refine WO.cons (WC.loadSE (blk a1) (0 + (iL4) * 4) (encCond x18) (by kernel_rfl) T_agg104 T_size104 ((hl.1.mono he10 le11).blkB hv3 (zl hlt17)) (flat_at0 (hl.1.mono he10 le11).1 hx19) ?_)
   refine WO.cons (WC.alloc _ [.int .i64 (0), .int .i64 (0), .int .i64 (0), .slice none (0) 0] rfl T_zero104 rfl ?_)
   obtain ⟨hp21, hx22, he23, hb24⟩ := boxed hp6 (nx7) [.int .i64 (0), .int .i64 (0), .int .i64 (0), .slice none (0) 0]
   rw [hx22]; clear hx22
   have hE25 := he10.trans he23 le11
   have hr26 := hr12.trans he23 rl13
   have rl27 := Nat.le_trans rl13 (Nat.le_succ (nx7))
   have rl28 := Nat.le_trans hn9 (Nat.le_succ (nx7))
   have le29 := Nat.le_trans le11 (Nat.le_succ (nx7))
   refine WO.cons (WC.store1 nx7 (0) (.agg (encCond x18).toArray) [.int .i64 (0), .int .i64 (0), .int .i64 (0), .slice none (0) 0] (encCond x18) (encCond x18) 4 rfl (by kernel_rfl) (by kernel_rfl) T_size104 rfl (Bool.and_eq_true_iff.2 ⟨rfl, encCond_one _ (hl.2 x18 (List.mem_of_getElem? hx19))⟩) hb24 rfl rfl rfl ?_)
   obtain ⟨hp30, hx31, he32, hb33, ho34⟩ := stored hp21 nx7 (.cells (encCond x18) CMeta.plain)
   rw [hx31]; clear hx31
   have hE35 := hE25.trans he32 (by omega)
   have hr36 := hr26.trans he32 (by omega)
   refine WO.nil ?_
   refine WP.region ?_
   refine ov 11 (J.v) ?_
   refine WO.cons (WC.loadS nx7 (0) (encCond x18) (by kernel_rfl) T_agg104 T_size104 hb33 rfl ?_)
   refine ov 13 (.agg (encCond x18).toArray) ?_
   refine ov 14 (.iface 325 (.agg (encCond x18).toArray)) ?_
   refine WO.cons (WC.buildSlice [.iface 325 (.agg (encCond x18).toArray)] rfl (by kernel_rfl) ?_)
   obtain ⟨hp37, hx38, he39, hb40⟩ := boxed hp30 (nx7 + 1) [.iface 325 (.agg (encCond x18).toArray)]
   rw [hx38]; clear hx38
   have hE41 := hE35.trans he39 le29
   have hr44 := hr36.trans he39 rl27
   have rl45 := Nat.le_trans rl27 (Nat.le_succ (nx7 + 1))
   have rl46 := Nat.le_trans rl28 (Nat.le_succ (nx7 + 1))
   obtain ⟨inf49, hinf50, hby51⟩ := infoForm
   refine WO.cons (WC.append1L (enc := encForm) (J := J) (RForm.cond x18) rfl (by kernel_rfl) (by kernel_rfl) (hG.mono hr44 rl45) (formFlat _) hb40 rfl T_und151 T_size212 T_zero212 hinf50 rfl rfl (by decide) (by rw [hby51]; omega) (by omega) (by omega) (by omega) rfl ?_)
   rintro J52 hp53 nx54 hl55 hn56 he57 hG58
   have hE59 := hE41.trans he57 (by omega)
   have rl61 := Nat.le_trans rl46 hn56
   have hr62 := HE.refl (nx54) hp53
   have rl63 := Nat.le_refl (nx54)
   refine ov 2 (J52.v) ?_
   refine WO.nil ?_
   refine WP.region ?_
   refine ov 17 (.int .i64 (.ofNat (iL4 + 1))) ?_ (fun _ _ _ => by rw [← wrapAdd (show iL4 + 1 < 9223372036854775808 by omega)]; kernel_rfl)
   refine ov 7 (.int .i64 (.ofNat (iL4 + 1))) ?_
   refine WO.nil ?_
   refine ⟨l.l.length - (iL4 + 1), by omega, iL4 + 1, J52, by omega, by kernel_rfl, by kernel_rfl, by kernel_rfl, by kernel_rfl, rfl, rfl, ?_, ?_, ?_, ?_, ?_⟩
   · exact rl61
   · exact hE59
   · exact hG58.mono hr62 rl63
   · rw [hl55, hJl, List.take_add_one, hx19]; simp
   · rw [hl55, List.length_append, hJn]; rfl
  ·
   have q16 := nq p14 h15
   refine WP.exit ?_
   refine sr ?_
   refine ov 18 (J.v) ?_
   refine ov 2 (J.v) ?_
   refine WO.nil ?_
   refine WP.ret ⟨rfl, rfl, [J.v], by kernel_rfl, ?_⟩
   have hi : iL4 = l.l.length := by omega
   exact ⟨J, rfl, by rw [hJl, hi, List.take_length], hG, le11, he10⟩
 ·
  exact ⟨0, ⟨.slice none 0 0, []⟩, by omega, by kernel_rfl, by kernel_rfl, by kernel_rfl, by kernel_rfl, rfl, rfl, Nat.le_refl _, hE, GroA.nil, (by simp), rfl⟩
theorem steps_wf (l : SV RStep) (hp : Ht) (nx : Nat) (hl : SlOk encStep 8 (fun hp nx y => RStepOk hp nx y) hp nx l) (hlen : l.l.length ≤ 2932031007403) : WF ex 45 [l.v] hp nx (FormsAre (l.l.map .step) hp nx) := by
 obtain ⟨a1, c2, hv3⟩ := hl.1.shape
 have hsm3 := hl.1.2.2
 rw [hv3]
 refine WF.body (fi := ⟨Tryz.f45.body.getD .skip, 19, [.tmp 2]⟩) (by kernel_rfl) (by kernel_rfl) (by kernel_rfl) rfl ?_
 have hE := HE.refl nx hp
 refine sr ?_
 refine ov 2 (.slice none (0) 0) ?_
 refine WO.nil ?_
 refine WP.seq ?_
 refine sr ?_
 refine ov 5 (.slice a1 (l.l.length) c2) ?_
 refine ov 6 (.int .i64 (.ofNat (l.l.length))) ?_
 refine ov 7 (.int .i64 (0)) ?_
 refine WO.nil ?_
 refine WP.block ?_
 have hj5 : ∀ t : Tm, ((((t.set 2 (t.get 2)).set 5 (t.get 5)).set 6 (t.get 6)).set 7 (t.get 7)) = t := fun t => by kernel_rfl
 refine WP.loop (fun m s => ∃ (iL4 : Nat) (J : SV RForm), iL4 + m = l.l.length ∧ s.to.get 2 = J.v ∧ s.to.get 5 = .slice a1 (l.l.length) c2 ∧ s.to.get 6 = .int .i64 (.ofNat (l.l.length)) ∧ s.to.get 7 = .int .i64 (.ofNat iL4) ∧ s.ds = [] ∧ s.cs = [] ∧ nx ≤ s.nx ∧ HE nx hp s.hp ∧ (GroA encForm 1 (nx) s.hp s.nx J) ∧ (J.l = (l.l.take iL4).map .step) ∧ (J.l.length = iL4)) ?_ (l.l.length) ?_
 ·
  rintro mL4 ⟨toL4, dsL4, hp6, nx7, csL4⟩ ⟨iL4, J, him8, gL4_2, gL4_5, gL4_6, gL4_7, hdsL4, hcsL4, hn9, he10, hG, hJl, hJn⟩
  simp only at gL4_2 gL4_5 gL4_6 gL4_7 hdsL4 hcsL4 hn9 he10 hG
  subst hdsL4 hcsL4
  rw [← hj5 toL4, gL4_2, gL4_5, gL4_6, gL4_7]
  clear gL4_2 gL4_5 gL4_6 gL4_7
  have le11 := Nat.le_trans (Nat.le_refl nx) hn9
  have hr12 := HE.refl (nx7) hp6
  have rl13 := Nat.le_refl (nx7)
  refine sr ?_
  obtain ⟨c14, e14, p14⟩ := @nb (ltI (.ofNat iL4) (.ofNat (l.l.length))) (((iL4 : Nat) : Int) < ((l.l.length : Nat) : Int)) (ltI_iff)
  refine ov 8 (.bool c14) ?_ (fun _ _ _ => by subst e14; kernel_rfl)
  refine WO.nil ?_
  refine WP.seq ?_
  refine WP.cond c14 (by kernel_rfl) (fun h15 => ?_) (fun h15 => ?_)
  ·
   have q16 := (p14).1 h15
   refine WP.skip ?_
   refine WP.seq ?_
   refine WP.block ?_
   refine sr ?_
   have hlt17 : iL4 < l.l.length := by omega
   refine WO.cons (WC.ix (k := .i64) a1 (l.l.length) c2 (iL4) 8 (by kernel_rfl) (by kernel_rfl) T_und24 T_size106 ((hl.1.mono he10 le11).blkA hv3 (zl hlt17)) (hlt17) ?_)
   obtain ⟨x18, hx19⟩ : ∃ el_, l.l[iL4]? = some el_ := ⟨_, List.getElem?_eq_getElem (hlt17)⟩
   refine WO.cons (WC.loadSE (blk a1) (0 + (iL4) * 8) (encStep x18) (by kernel_rfl) T_agg106 T_size106 ((hl.1.mono he10 le11).blkB hv3 (zl hlt17)) (flat_at0 (hl.1.mono he10 le11).1 hx19) ?_)
   refine WO.cons (WC.alloc _ [.int .i64 (0), .int .i64 (0), .int .i64 (0), .int .i64 (0), .int .i64 (0), .slice none (0) 0, .slice none (0) 0, .slice none (0) 0] rfl T_zero106 rfl ?_)
   obtain ⟨hp21, hx22, he23, hb24⟩ := boxed hp6 (nx7) [.int .i64 (0), .int .i64 (0), .int .i64 (0), .int .i64 (0), .int .i64 (0), .slice none (0) 0, .slice none (0) 0, .slice none (0) 0]
   rw [hx22]; clear hx22
   have hE25 := he10.trans he23 le11
   have hr26 := hr12.trans he23 rl13
   have rl27 := Nat.le_trans rl13 (Nat.le_succ (nx7))
   have rl28 := Nat.le_trans hn9 (Nat.le_succ (nx7))
   have le29 := Nat.le_trans le11 (Nat.le_succ (nx7))
   refine WO.cons (WC.store1 nx7 (0) (.agg (encStep x18).toArray) [.int .i64 (0), .int .i64 (0), .int .i64 (0), .int .i64 (0), .int .i64 (0), .slice none (0) 0, .slice none (0) 0, .slice none (0) 0] (encStep x18) (encStep x18) 8 rfl (by kernel_rfl) (by kernel_rfl) T_size106 rfl (Bool.and_eq_true_iff.2 ⟨rfl, encStep_one _ (hl.2 x18 (List.mem_of_getElem? hx19))⟩) hb24 rfl rfl rfl ?_)
   obtain ⟨hp30, hx31, he32, hb33, ho34⟩ := stored hp21 nx7 (.cells (encStep x18) CMeta.plain)
   rw [hx31]; clear hx31
   have hE35 := hE25.trans he32 (by omega)
   have hr36 := hr26.trans he32 (by omega)
   refine WO.nil ?_
   refine WP.region ?_
   refine ov 11 (J.v) ?_
   refine WO.cons (WC.loadS nx7 (0) (encStep x18) (by kernel_rfl) T_agg106 T_size106 hb33 rfl ?_)
   refine ov 13 (.agg (encStep x18).toArray) ?_
   refine ov 14 (.iface 215 (.agg (encStep x18).toArray)) ?_
   refine WO.cons (WC.buildSlice [.iface 215 (.agg (encStep x18).toArray)] rfl (by kernel_rfl) ?_)
   obtain ⟨hp37, hx38, he39, hb40⟩ := boxed hp30 (nx7 + 1) [.iface 215 (.agg (encStep x18).toArray)]
   rw [hx38]; clear hx38
   have hE41 := hE35.trans he39 le29
   have hr44 := hr36.trans he39 rl27
   have rl45 := Nat.le_trans rl27 (Nat.le_succ (nx7 + 1))
   have rl46 := Nat.le_trans rl28 (Nat.le_succ (nx7 + 1))
   obtain ⟨inf49, hinf50, hby51⟩ := infoForm
   refine WO.cons (WC.append1L (enc := encForm) (J := J) (RForm.step x18) rfl (by kernel_rfl) (by kernel_rfl) (hG.mono hr44 rl45) (formFlat _) hb40 rfl T_und151 T_size212 T_zero212 hinf50 rfl rfl (by decide) (by rw [hby51]; omega) (by omega) (by omega) (by omega) rfl ?_)
   rintro J52 hp53 nx54 hl55 hn56 he57 hG58
   have hE59 := hE41.trans he57 (by omega)
   have rl61 := Nat.le_trans rl46 hn56
   have hr62 := HE.refl (nx54) hp53
   have rl63 := Nat.le_refl (nx54)
   refine ov 2 (J52.v) ?_
   refine WO.nil ?_
   refine WP.region ?_
   refine ov 17 (.int .i64 (.ofNat (iL4 + 1))) ?_ (fun _ _ _ => by rw [← wrapAdd (show iL4 + 1 < 9223372036854775808 by omega)]; kernel_rfl)
   refine ov 7 (.int .i64 (.ofNat (iL4 + 1))) ?_
   refine WO.nil ?_
   refine ⟨l.l.length - (iL4 + 1), by omega, iL4 + 1, J52, by omega, by kernel_rfl, by kernel_rfl, by kernel_rfl, by kernel_rfl, rfl, rfl, ?_, ?_, ?_, ?_, ?_⟩
   · exact rl61
   · exact hE59
   · exact hG58.mono hr62 rl63
   · rw [hl55, hJl, List.take_add_one, hx19]; simp
   · rw [hl55, List.length_append, hJn]; rfl
  ·
   have q16 := nq p14 h15
   refine WP.exit ?_
   refine sr ?_
   refine ov 18 (J.v) ?_
   refine ov 2 (J.v) ?_
   refine WO.nil ?_
   refine WP.ret ⟨rfl, rfl, [J.v], by kernel_rfl, ?_⟩
   have hi : iL4 = l.l.length := by omega
   exact ⟨J, rfl, by rw [hJl, hi, List.take_length], hG, le11, he10⟩
 ·
  exact ⟨0, ⟨.slice none 0 0, []⟩, by omega, by kernel_rfl, by kernel_rfl, by kernel_rfl, by kernel_rfl, rfl, rfl, Nat.le_refl _, hE, GroA.nil, (by simp), rfl⟩
theorem condParts_wf (c : RCond) (hp : Ht) (nx : Nat) (hc : RCondOk hp nx c) : WF ex 252 [.agg (encCond c).toArray] hp nx (FormsAre (partsF (.cond c)) hp nx) := by
 refine WF.body (fi := ⟨Tryz.f252.body.getD .skip, 7, [.tmp 2]⟩) (by kernel_rfl) (by kernel_rfl) (by kernel_rfl) rfl ?_
 have hE := HE.refl nx hp
 refine sr ?_
 refine WO.cons (WC.box (.agg (encCond c).toArray) (encCond c) rfl (by kernel_rfl) rfl ?_)
 obtain ⟨hp2, hx3, he4, hb5⟩ := boxed hp (nx) (encCond c)
 rw [hx3]; clear hx3
 have hE6 := hE.trans he4 (Nat.le_refl nx)
 have le7 := Nat.le_trans (Nat.le_refl nx) (Nat.le_succ (nx))
 refine ov 2 (.slice none (0) 0) ?_
 refine WO.nil ?_
 refine sr ?_
 refine ov 3 (.pointer (some ⟨nx, 0 + 0, none⟩)) ?_
 refine ov 4 (.pointer (some ⟨nx, 0 + 0 + 3, none⟩)) ?_
 obtain ⟨a8, c9, hv10⟩ := hc.fParts.1.shape
 have hsm10 := hc.fParts.1.2.2
 refine WO.cons (WC.load1 nx (0 + 0 + 3) (.slice a8 (c.fParts.l.length) c9) (by kernel_rfl) T_agg102 hb5 (by rw [← hv10]; rfl) ?_)
 refine WO.cons (WC.call 6 330 ([c.fParts.v]) (fun _ _ _ => by (try rw [hv10]); kernel_rfl) ((conds_wf c.fParts hp2 (nx + 1) (hc.fParts.mono (fun _ h => h.mono) hE6 le7) (by have := hc.len; omega)).mono ?_))
 rintro _ hp11 nx12 ⟨J15, rfl, hl16, hG17, hn13, he14⟩
 have hE18 := hE6.trans he14 le7
 have le21 := Nat.le_trans le7 hn13
 refine ov 2 (J15.v) ?_
 refine WO.nil ?_
 refine WP.ret ⟨rfl, rfl, [J15.v], by kernel_rfl, ?_⟩
 exact ⟨J15, rfl, hl16, hG17.low (by omega), le21, hE18⟩
theorem stepParts_wf (s : RStep) (hp : Ht) (nx : Nat) (hs : RStepOk hp nx s) : WF ex 253 [.agg (encStep s).toArray] hp nx (FormsAre (partsF (.step s)) hp nx) := by
 refine WF.body (fi := ⟨Tryz.f253.body.getD .skip, 12, [.tmp 2]⟩) (by kernel_rfl) (by kernel_rfl) (by kernel_rfl) rfl ?_
 have hE := HE.refl nx hp
 refine sr ?_
 refine WO.cons (WC.box (.agg (encStep s).toArray) (encStep s) rfl (by kernel_rfl) rfl ?_)
 obtain ⟨hp2, hx3, he4, hb5⟩ := boxed hp (nx) (encStep s)
 rw [hx3]; clear hx3
 have hE6 := hE.trans he4 (Nat.le_refl nx)
 have le7 := Nat.le_trans (Nat.le_refl nx) (Nat.le_succ (nx))
 refine ov 2 (.slice none (0) 0) ?_
 refine WO.nil ?_
 refine WP.seq ?_
 refine WP.drawS [⟨[0, 1, 2, 4, 5, 6], [0, 1, 2, 4, 5, 6], some 3⟩, ⟨[], [4, 5, 6], some 7⟩, ⟨[], [], some 8⟩, ⟨[], [], some 9⟩, ⟨[], [], none⟩] (by kernel_rfl) _ rfl ?_
 refine WD.eff ?_
 refine nv 3 (.pointer (some ⟨nx, 0 + 0, none⟩)) ?_
 refine nv 4 (.pointer (some ⟨nx, 0 + 0 + 6, none⟩)) ?_
 obtain ⟨a8, c9, hv10⟩ := hs.fThen.1.shape
 have hsm10 := hs.fThen.1.2.2
 refine WN.consAt rfl (WC.load1 nx (0 + 0 + 6) (.slice a8 (s.fThen.l.length) c9) (by kernel_rfl) T_agg24 hb5 (by rw [← hv10]; rfl) ?_)
 refine nv 7 (.pointer (some ⟨nx, 0 + 0, none⟩)) ?_
 refine nv 8 (.pointer (some ⟨nx, 0 + 0 + 7, none⟩)) ?_
 obtain ⟨a11, c12, hv13⟩ := hs.fElse.1.shape
 have hsm13 := hs.fElse.1.2.2
 refine WN.consAt rfl (WC.load1 nx (0 + 0 + 7) (.slice a11 (s.fElse.l.length) c12) (by kernel_rfl) T_agg24 hb5 (by rw [← hv13]; rfl) ?_)
 refine WN.nil ⟨?_, ?_⟩
 ·
  refine cv (.pointer (some ⟨nx, 0 + 0, none⟩)) (vEq_ptr ..) ?_
  refine cv (.pointer (some ⟨nx, 0 + 0 + 6, none⟩)) (vEq_ptr ..) ?_
  refine co (.slice a8 (s.fThen.l.length) c9) (eLoad ex.T hp2.get 24 (.pointer (some ⟨nx, 0 + 0 + 6, none⟩))) (eLoad_one T_agg24 hb5 (by rw [← hv10]; rfl)) (hv10 ▸ hs.fThen.1.eqSelf 8) ?_
  refine cv (.pointer (some ⟨nx, 0 + 0, none⟩)) (vEq_ptr ..) ?_
  refine cv (.pointer (some ⟨nx, 0 + 0 + 7, none⟩)) (vEq_ptr ..) ?_
  refine co (.slice a11 (s.fElse.l.length) c12) (eLoad ex.T hp2.get 24 (.pointer (some ⟨nx, 0 + 0 + 7, none⟩))) (eLoad_one T_agg24 hb5 (by rw [← hv13]; rfl)) (hv13 ▸ hs.fElse.1.eqSelf 8) ?_
  exact Chks.nil
 refine WC.at rfl (WC.call 6 45 ([s.fThen.v]) (fun _ _ _ => by (try rw [hv10]); kernel_rfl) ((steps_wf s.fThen hp2 (nx + 1) (hs.fThen.mono (fun _ h => h.mono) hE6 le7) (by have := hs.len; omega)).mono ?_))
 rintro _ hp14 nx15 ⟨J18, rfl, hl19, hG20, hn16, he17⟩
 have hE21 := hE6.trans he17 le7
 have hb22 := he17.get hb5 (Nat.lt_succ_self (nx))
 have le24 := Nat.le_trans le7 hn16
 refine WD.eff ?_
 refine WN.nil ⟨?_, ?_⟩
 ·
  refine cv (.pointer (some ⟨nx, 0 + 0, none⟩)) (vEq_ptr ..) ?_
  refine cv (.pointer (some ⟨nx, 0 + 0 + 7, none⟩)) (vEq_ptr ..) ?_
  refine co (.slice a11 (s.fElse.l.length) c12) (eLoad ex.T hp14.get 24 (.pointer (some ⟨nx, 0 + 0 + 7, none⟩))) (eLoad_one T_agg24 hb22 (by rw [← hv13]; rfl)) (hv13 ▸ hs.fElse.1.eqSelf 8) ?_
  exact Chks.nil
 refine WC.at rfl (WC.call 10 45 ([s.fElse.v]) (fun _ _ _ => by (try rw [hv13]); kernel_rfl) ((steps_wf s.fElse hp14 (nx15) (hs.fElse.mono (fun _ h => h.mono) hE21 le24) (by have := hs.len; omega)).mono ?_))
 rintro _ hp25 nx26 ⟨J29, rfl, hl30, hG31, hn27, he28⟩
 have hE32 := hE21.trans he28 le24
 have le35 := Nat.le_trans le24 hn27
 have hG36 := hG20.mono he28 hn27
 refine WD.eff ?_
 refine WN.nil ⟨?_, ?_⟩
 ·
  exact Chks.nil
 obtain ⟨inf37, hinf38, hby39⟩ := infoForm
 have hlen1 : J18.l.length = s.fThen.l.length := by rw [hl19, List.length_map]
 have hlen2 : J29.l.length = s.fElse.l.length := by rw [hl30, List.length_map]
 have hln := hs.len
 have ok47 := hG31.ok (formFlat _) (by omega)
 obtain ⟨a48, c49, hv50⟩ := ok47.shape
 refine WC.at rfl (WC.appendL (enc := encForm) (J := J18) (w := .slice a48 J29.l.length c49) J29.l rfl (by kernel_rfl) (by rw [← hv50]; kernel_rfl) (hG36.low (by omega) : GroA encForm 1 nx _ _ _) (formFlat _) T_und151 T_size212 T_zero212 hinf38 (by simp only [appN, T_und151]) (ok47.src hv50) rfl (formFlat _) (forms_one _) (by decide) (by rw [hby39]; omega) (by omega) (by omega) (by omega) rfl ?_)
 rintro J40 hp41 nx42 hl43 hn44 he45 hG46
 have hE52 := hE32.trans he45 (by omega)
 have le53 := Nat.le_trans le35 hn44
 refine WD.eff ?_
 refine WN.nil ⟨?_, ?_⟩
 ·
  exact Chks.nil
 refine WC.at rfl (WC.val 2 (J40.v) (fun _ _ _ => by kernel_rfl) ?_)
 refine WD.last ?_
 refine WN.nil ⟨?_, ?_⟩
 ·
  exact Chks.nil
 refine WP.ret ⟨rfl, rfl, [J40.v], by kernel_rfl, ?_⟩
 exact ⟨J40, rfl, (by rw [hl43, hl19, hl30]; rfl), hG46.low (by omega), le53, hE52⟩
end
end Sw

namespace Sw
noncomputable section
open Go Go.Proofs Go.RowKit
set_option maxRecDepth 100000
set_option maxHeartbeats 1600000
theorem all1 {x lo hi : Int} : (∀ y ∈ [x], lo ≤ y ∧ y ≤ hi) ↔ lo ≤ x ∧ x ≤ hi := by simp
theorem nex {α : Type} {l : List α} {P : α → Prop} : (¬ ∃ x ∈ l, ¬ P x) ↔ ∀ x ∈ l, P x :=
  ⟨fun h x hx => Classical.not_not.1 fun k => h ⟨x, hx, k⟩, fun h ⟨x, hx, k⟩ => k (h x hx)⟩
theorem nil0 {α : Type} {l : List α} : ((l.length : Nat) : Int) = 0 ↔ l = [] := by rw [← List.length_eq_zero_iff]; omega
section
variable {c : RCond} {s : RStep}
theorem VCond.iff1 (k : c.fKind = 1) : VCond c ↔ (1 ≤ c.fVar ∧ c.fVar ≤ 3) ∧ (0 ≤ c.fN ∧ c.fN ≤ 10000) ∧ c.fParts.l = [] :=
  ⟨fun h => by
    cases h with
    | leaf _ v n p => exact ⟨v, n, p⟩
    | neg k2 => omega
    | many k2 => omega, fun ⟨v, n, p⟩ => .leaf k v n p⟩
theorem VCond.iff4 (k : c.fKind = 4) : VCond c ↔ (c.fVar = 0 ∧ c.fN = 0 ∧ c.fParts.l.length = 1) ∧ ∀ x ∈ c.fParts.l, VCond x :=
  ⟨fun h => by
    cases h with
    | leaf k2 => omega
    | neg _ v n p h => exact ⟨⟨v, n, p⟩, h⟩
    | many k2 => omega, fun ⟨⟨v, n, p⟩, h⟩ => .neg k v n p h⟩
theorem VCond.iff2 (k : c.fKind = 2 ∨ c.fKind = 3) : VCond c ↔ (c.fVar = 0 ∧ c.fN = 0 ∧ 0 < c.fParts.l.length ∧ c.fParts.l.length ≤ 16) ∧ ∀ x ∈ c.fParts.l, VCond x :=
  ⟨fun h => by
    cases h with
    | leaf k2 => omega
    | neg k2 => omega
    | many _ v n p h => exact ⟨⟨v, n, p⟩, h⟩, fun ⟨⟨v, n, p⟩, h⟩ => .many k v n p h⟩
theorem VCond.iff0 (h1 : ¬ c.fKind = 1) (h2 : ¬ c.fKind = 2) (h3 : ¬ c.fKind = 3) (h4 : ¬ c.fKind = 4) : ¬ VCond c := fun h => by
  cases h with
  | leaf k => exact h1 k
  | neg k => exact h4 k
  | many k => omega
theorem condParts_all : (∀ x ∈ partsF (.cond c), VForm x) ↔ ∀ x ∈ c.fParts.l, VCond x := by simp [partsF, VForm]
theorem VStep.iff1 (k : s.fKind = 1) : VStep s ↔ (1 ≤ s.fBy ∧ s.fBy ≤ 5) ∧ CondZero s.fCond ∧ partsF (.step s) = [] :=
  ⟨fun h => by
    cases h with
    | one _ b c t e => exact ⟨b, c, by simp [partsF, t, e]⟩
    | ife k2 => omega, fun ⟨b, c, p⟩ => by
    simp [partsF] at p
    exact .one k b c p.1 p.2⟩
theorem VStep.iff2 (k : s.fKind = 2) : VStep s ↔ s.fBy = 0 ∧ VCond s.fCond ∧ 0 < s.fThen.l.length ∧ ∀ x ∈ partsF (.step s), VForm x :=
  ⟨fun h => by
    cases h with
    | one k2 => omega
    | ife _ b c t0 t e =>
      refine ⟨b, c, List.length_pos_iff.2 t0, fun x hx => ?_⟩
      rcases List.mem_append.1 hx with hx | hx
      · obtain ⟨y, hy, rfl⟩ := List.mem_map.1 hx; exact t y hy
      · obtain ⟨y, hy, rfl⟩ := List.mem_map.1 hx; exact e y hy,
  fun ⟨b, c, t0, h⟩ => .ife k b c (List.length_pos_iff.1 t0) (fun x hx => h (.step x) (List.mem_append_left _ (List.mem_map.2 ⟨x, hx, rfl⟩))) (fun x hx => h (.step x) (List.mem_append_right _ (List.mem_map.2 ⟨x, hx, rfl⟩)))⟩
theorem VStep.iff0 (h1 : ¬ s.fKind = 1) (h2 : ¬ s.fKind = 2) : ¬ VStep s := fun h => by
  cases h with
  | one k => exact h1 k
  | ife k => exact h2 k
end
theorem T_agg212 : ex.T.agg 212 = some false := by kernel_rfl
theorem T_agg215 : ex.T.agg 215 = some true := by kernel_rfl
theorem T_agg325 : ex.T.agg 325 = some true := by kernel_rfl
theorem T_size215 : ex.T.size 215 = some 8 := by kernel_rfl
theorem T_size325 : ex.T.size 325 = some 4 := by kernel_rfl
theorem T_zero215 : ex.T.zero 215 = some (.agg ⟨[.int .i64 (0), .int .i64 (0), .int .i64 (0), .int .i64 (0), .int .i64 (0), .slice none (0) 0, .slice none (0) 0, .slice none (0) 0]⟩) := by kernel_rfl
theorem T_zero325 : ex.T.zero 325 = some (.agg ⟨[.int .i64 (0), .int .i64 (0), .int .i64 (0), .slice none (0) 0]⟩) := by kernel_rfl
theorem indexFunc_form {A : RForm → Prop} (K : SV RForm) (f : FuncId) (b : Array Value) (hp : Ht) (nx : Nat) (hK : SlOk encForm 1 (fun hp nx y => RFormOk hp nx y) hp nx K) (hf : ∀ (i : Nat) (x : RForm), K.l[i]? = some x → ∀ (hp' : Ht) (nx' : Nat), nx ≤ nx' → HE nx hp hp' → WF ex f ((fv x) :: b.toList) hp' nx' (Stays nx' hp' (BoolIs (A x)))) : WF ex 168 [K.v, .func (.func f) #[] b] hp nx (Stays nx hp (IdxIs K.l A)) := by
 obtain ⟨a1, c2, hv3⟩ := hK.1.shape
 have hsm3 := hK.1.2.2
 rw [hv3]
 refine WF.body (fi := ⟨Tryz.f168.body.getD .skip, 19, [.tmp 4]⟩) (by kernel_rfl) (by kernel_rfl) (by kernel_rfl) rfl ?_
 have hE := HE.refl nx hp
 refine sr ?_
 refine ov 4 (.int .i64 (0)) ?_
 refine WO.nil ?_
 refine WP.seq ?_
 refine sr ?_
 refine ov 6 (.slice a1 (K.l.length) c2) ?_
 refine ov 7 (.int .i64 (.ofNat (K.l.length))) ?_
 refine ov 8 (.int .i64 (0)) ?_
 refine WO.nil ?_
 refine WP.block ?_
 have hj5 : ∀ t : Tm, ((((t.set 0 (t.get 0)).set 1 (t.get 1)).set 7 (t.get 7)).set 8 (t.get 8)) = t := fun t => by kernel_rfl
 refine WP.loop (fun m s => ∃ (iL4 : Nat), iL4 + m = K.l.length ∧ s.to.get 0 = .slice a1 (K.l.length) c2 ∧ s.to.get 1 = .func (.func f) #[] b ∧ s.to.get 7 = .int .i64 (.ofNat (K.l.length)) ∧ s.to.get 8 = .int .i64 (.ofNat iL4) ∧ s.ds = [] ∧ s.cs = [] ∧ nx ≤ s.nx ∧ HE (nx) hp s.hp ∧ (∀ (j : Nat) (y : RForm), j < iL4 → K.l[j]? = some y → ¬ A y)) ?_ (K.l.length) ?_
 ·
  rintro mL4 ⟨toL4, dsL4, hp6, nx7, csL4⟩ ⟨iL4, him8, gL4_0, gL4_1, gL4_7, gL4_8, hdsL4, hcsL4, hn9, he10, hinv⟩
  simp only at gL4_0 gL4_1 gL4_7 gL4_8 hdsL4 hcsL4 hn9 he10
  subst hdsL4 hcsL4
  rw [← hj5 toL4, gL4_0, gL4_1, gL4_7, gL4_8]
  clear gL4_0 gL4_1 gL4_7 gL4_8
  have hE11 := hE.trans he10 (Nat.le_refl nx)
  have le12 := Nat.le_trans (Nat.le_refl nx) hn9
  refine sr ?_
  obtain ⟨c13, e13, p13⟩ := @nb (ltI (.ofNat iL4) (.ofNat (K.l.length))) (((iL4 : Nat) : Int) < ((K.l.length : Nat) : Int)) (ltI_iff)
  refine ov 9 (.bool c13) ?_ (fun _ _ _ => by subst e13; kernel_rfl)
  refine WO.nil ?_
  refine WP.seq ?_
  refine WP.cond c13 (by kernel_rfl) (fun h14 => ?_) (fun h14 => ?_)
  ·
   have q15 := (p13).1 h14
   refine WP.skip ?_
   refine WP.seq ?_
   refine WP.block ?_
   refine sr ?_
   refine ov 10 (.int .i64 (.ofNat iL4)) ?_
   refine ov 5 (.int .i64 (.ofNat iL4)) ?_
   refine WO.nil ?_
   refine sr ?_
   refine ov 11 (.func (.func f) #[] b) ?_
   refine ov 12 (.slice a1 (K.l.length) c2) ?_
   refine ov 13 (.int .i64 (.ofNat iL4)) ?_
   have hlt16 : iL4 < K.l.length := by omega
   refine WO.cons (WC.ix (k := .i64) a1 (K.l.length) c2 (iL4) 1 (by kernel_rfl) (by kernel_rfl) T_und151 T_size212 ((hK.1.mono hE11 le12).blkA hv3 (zl hlt16)) (hlt16) ?_)
   obtain ⟨x17, hx18⟩ : ∃ el_, K.l[iL4]? = some el_ := ⟨_, List.getElem?_eq_getElem (hlt16)⟩
   refine WO.cons (WC.load1E (blk a1) (0 + (iL4) * 1) (fv x17) (by kernel_rfl) T_agg212 ((hK.1.mono hE11 le12).blkB hv3 (zl hlt16)) (flat_at1 (hK.1.mono hE11 le12).1 hx18 rfl) ?_)
   refine WO.cons (WC.call 16 f ((fv x17) :: b.toList) (fun _ _ _ => by kernel_rfl) ((hf iL4 x17 hx18 hp6 (nx7) le12 hE11).mono ?_))
   rintro _ hp19 nx20 ⟨⟨c23, rfl, p23⟩, hn21, he22⟩
   have hE24 := hE11.trans he22 le12
   have hr25 := he10.trans he22 hn9
   have rl26 := Nat.le_trans hn9 hn21
   have le27 := Nat.le_trans le12 hn21
   refine WO.nil ?_
   refine WP.cond c23 (by kernel_rfl) (fun h28 => ?_) (fun h28 => ?_)
   ·
    have q29 := (p23).1 h28
    refine sr ?_
    refine ov 17 (.int .i64 (.ofNat iL4)) ?_
    refine ov 4 (.int .i64 (.ofNat iL4)) ?_
    refine WO.nil ?_
    refine WP.ret ⟨rfl, rfl, [.int .i64 (.ofNat iL4)], by kernel_rfl, ?_⟩
    exact ⟨.inr ⟨iL4, x17, rfl, hx18, q29, hinv⟩, le27, hE24⟩
   ·
    have q29 : ¬ (A x17) := fun k => by rw [(p23).2 k] at h28; cases h28
    refine WP.skip ?_
    refine WP.region ?_
    refine ov 18 (.int .i64 (.ofNat (iL4 + 1))) ?_ (fun _ _ _ => by rw [← wrapAdd (show iL4 + 1 < 9223372036854775808 by omega)]; kernel_rfl)
    refine ov 8 (.int .i64 (.ofNat (iL4 + 1))) ?_
    refine WO.nil ?_
    refine ⟨K.l.length - (iL4 + 1), by omega, iL4 + 1, by omega, by kernel_rfl, by kernel_rfl, by kernel_rfl, by kernel_rfl, rfl, rfl, ?_, ?_, ?_⟩
    · exact rl26
    · exact hr25
    · intro j y hj hy; rcases Nat.lt_succ_iff_lt_or_eq.1 hj with hj | rfl; exact hinv j y hj hy; rw [hx18] at hy; cases hy; exact q29
  ·
   have q15 := nq p13 h14
   refine WP.exit ?_
   refine sr ?_
   refine ov 4 (.int .i64 (-1)) ?_
   refine WO.nil ?_
   refine WP.ret ⟨rfl, rfl, [.int .i64 (-1)], by kernel_rfl, ?_⟩
   refine ⟨.inl ⟨rfl, fun y hy => ?_⟩, le12, hE11⟩
   obtain ⟨j, hj⟩ := List.getElem?_of_mem hy
   exact hinv j y (by have := (List.getElem?_eq_some_iff.1 hj).1; omega) hj
 ·
  exact ⟨0, by omega, by kernel_rfl, by kernel_rfl, by kernel_rfl, by kernel_rfl, rfl, rfl, Nat.le_refl _, HE.refl _ _, (fun j y h => absurd h (Nat.not_lt_zero _))⟩
theorem containsFunc_form {A : RForm → Prop} (K : SV RForm) (f : FuncId) (b : Array Value) (hp : Ht) (nx : Nat) (hK : SlOk encForm 1 (fun hp nx y => RFormOk hp nx y) hp nx K) (hf : ∀ (i : Nat) (x : RForm), K.l[i]? = some x → ∀ (hp' : Ht) (nx' : Nat), nx ≤ nx' → HE nx hp hp' → WF ex f ((fv x) :: b.toList) hp' nx' (Stays nx' hp' (BoolIs (A x)))) : WF ex 91 [K.v, .func (.func f) #[] b] hp nx (Stays nx hp (BoolIs (∃ x ∈ K.l, A x))) := by
 obtain ⟨a1, c2, hv3⟩ := hK.1.shape
 have hsm3 := hK.1.2.2
 rw [hv3]
 refine WF.body (fi := ⟨Tryz.f91.body.getD .skip, 9, [.tmp 4]⟩) (by kernel_rfl) (by kernel_rfl) (by kernel_rfl) rfl ?_
 have hE := HE.refl nx hp
 refine sr ?_
 refine ov 4 (.bool false) ?_
 refine WO.nil ?_
 refine sr ?_
 refine ov 5 (.slice a1 (K.l.length) c2) ?_
 refine ov 6 (.func (.func f) #[] b) ?_
 refine WO.cons (WC.call 7 168 ([K.v, .func (.func f) #[] b]) (fun _ _ _ => by (try rw [hv3]); kernel_rfl) ((indexFunc_form K f b hp (nx) hK hf).mono ?_))
 rintro vz8 hp4 nx5 ⟨hz0, hn6, he7⟩
 obtain ⟨z8, rfl, hz9⟩ : ∃ z : Int, vz8 = .int .i64 z ∧ (0 ≤ z ↔ ∃ x ∈ K.l, A x) := IdxIs.sign hz0
 have hE10 := hE.trans he7 (Nat.le_refl nx)
 have le11 := Nat.le_trans (Nat.le_refl nx) hn6
 obtain ⟨c12, e12, p12⟩ := @nb (leI (0) (z8)) ((0) ≤ (z8)) (leI_iff)
 refine ov 8 (.bool c12) ?_ (fun _ _ _ => by subst e12; kernel_rfl)
 refine ov 4 (.bool c12) ?_
 refine WO.nil ?_
 refine WP.ret ⟨rfl, rfl, [.bool c12], by kernel_rfl, ?_⟩
 exact ⟨⟨c12, rfl, p12.trans hz9⟩, le11, hE10⟩
theorem invalid_wf (f : RForm) (hp : Ht) (nx : Nat) (hf : RFormOk hp nx f) (hval : WF ex 169 [fv f] hp nx (Stays nx hp (BoolIs (VForm f)))) : WF ex 92 [fv f] hp nx (Stays nx hp (BoolIs (¬ VForm f))) := by
 refine WF.body (fi := ⟨Tryz.f92.body.getD .skip, 6, [.tmp 2]⟩) (by kernel_rfl) (by kernel_rfl) (by kernel_rfl) rfl ?_
 have hE := HE.refl nx hp
 refine sr ?_
 refine ov 2 (.bool false) ?_
 refine WO.nil ?_
 refine sr ?_
 refine ov 3 (fv f) ?_
 refine WO.cons (WC.call 4 169 ([fv f]) (fun _ _ _ => by kernel_rfl) ((hval).mono ?_))
 rintro _ hp1 nx2 ⟨⟨c5, rfl, p5⟩, hn3, he4⟩
 have hE6 := hE.trans he4 (Nat.le_refl nx)
 have le7 := Nat.le_trans (Nat.le_refl nx) hn3
 obtain ⟨c8, e8, p8⟩ := @nb (!c5) (¬ (VForm f)) (by rw [Bool.not_eq_true', ← Bool.not_eq_true, p5])
 refine ov 5 (.bool c8) ?_ (fun _ _ _ => by subst e8; kernel_rfl)
 refine ov 2 (.bool c8) ?_
 refine WO.nil ?_
 refine WP.ret ⟨rfl, rfl, [.bool c8], by kernel_rfl, ?_⟩
 refine ⟨⟨c8, rfl, ?_⟩, le7, hE6⟩
 exact p8
theorem validC_step (k : Nat) (ih : ∀ (f : RForm) (hp : Ht) (nx : Nat), fsz f < k → RFormOk hp nx f → WF ex 169 [fv f] hp nx (Stays nx hp (BoolIs (VForm f)))) (c : RCond) (hp : Ht) (nx : Nat) (hk : sizeOf c < k + 1) (hc : RCondOk hp nx c) : WF ex 169 [.iface 325 (.agg (encCond c).toArray)] hp nx (Stays nx hp (BoolIs (VForm (.cond c)))) := by
 refine WF.body (fi := ⟨Tryz.f169.body.getD .skip, 131, [.tmp 2]⟩) (by kernel_rfl) (by kernel_rfl) (by kernel_rfl) rfl ?_
 have hE := HE.refl nx hp
 refine sr ?_
 refine ov 2 (.bool false) ?_
 refine WO.nil ?_
 refine WP.seq ?_
 refine sr ?_
 refine ov 7 (.iface 325 (.agg (encCond c).toArray)) ?_
 refine WO.nil ?_
 refine WP.block ?_
 refine sr ?_
 refine ov 8 (.tuple ⟨[.agg (encCond c).toArray, .bool true]⟩) ?_
 refine ov 9 (.bool true) ?_
 refine ov 10 (.agg (encCond c).toArray) ?_
 refine WO.nil ?_
 refine WP.cond true (by kernel_rfl) (fun h1 => ?_) (fun h1 => by cases h1)
 refine sr ?_
 refine WO.cons (WC.alloc _ [.int .i64 (0), .int .i64 (0), .int .i64 (0), .slice none (0) 0] rfl T_zero325 rfl ?_)
 obtain ⟨hp3, hx4, he5, hb6⟩ := boxed hp (nx) [.int .i64 (0), .int .i64 (0), .int .i64 (0), .slice none (0) 0]
 rw [hx4]; clear hx4
 have hE7 := hE.trans he5 (Nat.le_refl nx)
 have le8 := Nat.le_trans (Nat.le_refl nx) (Nat.le_succ (nx))
 refine WO.cons (WC.store1 nx (0) (.agg (encCond c).toArray) [.int .i64 (0), .int .i64 (0), .int .i64 (0), .slice none (0) 0] (encCond c) (encCond c) 4 rfl (by kernel_rfl) (by kernel_rfl) T_size325 rfl (Bool.and_eq_true_iff.2 ⟨rfl, encCond_one _ hc⟩) hb6 rfl rfl rfl ?_)
 obtain ⟨hp9, hx10, he11, hb12, ho13⟩ := stored hp3 nx (.cells (encCond c) CMeta.plain)
 rw [hx10]; clear hx10
 have hE14 := hE7.trans he11 (by omega)
 refine WO.nil ?_
 refine sr ?_
 refine ov 11 (.pointer (some ⟨nx, 0 + 0, none⟩)) ?_
 refine ov 12 (.pointer (some ⟨nx, 0 + 0 + 1, none⟩)) ?_
 refine WO.cons (WC.load1 nx (0 + 0 + 1) (.int .i64 (c.fVar)) (by kernel_rfl) T_agg3 hb12 rfl ?_)
 obtain ⟨c15, e15, p15⟩ := @nb (eqI (c.fVar) (0)) ((c.fVar) = (0)) (eqI_iff)
 refine ov 14 (.bool c15) ?_ (fun _ _ _ => by subst e15; kernel_rfl)
 refine ov 15 (.bool c15) ?_
 refine og 15 (c15) (.pointer (some ⟨nx, 0 + 0, none⟩)) (.bool c15) (by cases c15 <;> rfl) (fun h => by obtain rfl := h; exact fun _ _ _ => by kernel_rfl) ?_
 refine og 15 (c15) (.pointer (some ⟨nx, 0 + 0 + 2, none⟩)) (.bool c15) (by cases c15 <;> rfl) (fun h => by obtain rfl := h; exact fun _ _ _ => by kernel_rfl) ?_
 refine ogc 15 (c15) (.int .i64 (c.fN)) (.bool c15) (by cases c15 <;> rfl) (fun h => by obtain rfl := h; exact WC.load1 nx (0 + 0 + 2) (.int .i64 (c.fN)) (by kernel_rfl) T_agg3 hb12 rfl rfl) ?_
 obtain ⟨c16, e16, p16⟩ := @nb (eqI (c.fN) (0)) ((c.fN) = (0)) (eqI_iff)
 refine og 15 (c15) (.bool c16) (.bool c15) (by cases c15 <;> rfl) (fun h => by obtain rfl := h; exact fun _ _ _ => by subst e16; kernel_rfl) ?_
 obtain ⟨c17, e17, p17⟩ := @nb ((c15 && c16)) (((c.fVar) = (0)) ∧ ((c.fN) = (0))) (by rw [Bool.and_eq_true, p15, p16])
 refine WO.cons (WC.opt (v := .bool c17) 20 (ePick (.bool c15) ((bif c15 then .bool c16 else undef)) (.bool false)) (fun _ _ _ => by kernel_rfl) (by rw [e17]; exact ePick_and (fun h => by obtain rfl : c15 = true := h; rfl)) ?_)
 refine ov 4 (.bool c17) ?_
 refine WO.nil ?_
 refine WP.seq ?_
 refine sr ?_
 refine ov 21 (.pointer (some ⟨nx, 0 + 0, none⟩)) ?_
 refine ov 22 (.pointer (some ⟨nx, 0 + 0 + 0, none⟩)) ?_
 refine WO.cons (WC.load1 nx (0 + 0 + 0) (.int .i64 (c.fKind)) (by kernel_rfl) T_agg3 hb12 rfl ?_)
 refine WO.nil ?_
 refine WP.block ?_
 refine sr ?_
 obtain ⟨c18, e18, p18⟩ := @nb (eqI (c.fKind) (1)) ((c.fKind) = (1)) (eqI_iff)
 refine ov 25 (.bool c18) ?_ (fun _ _ _ => by subst e18; kernel_rfl)
 refine ov 24 (.bool c18) ?_
 refine WO.nil ?_
 refine WP.cond c18 (by kernel_rfl) (fun h19 => ?_) (fun h19 => ?_)
 ·
  have q20 := (p18).1 h19
  refine sr ?_
  refine ov 26 (.pointer (some ⟨nx, 0 + 0, none⟩)) ?_
  refine ov 27 (.pointer (some ⟨nx, 0 + 0 + 1, none⟩)) ?_
  refine WO.cons (WC.load1 nx (0 + 0 + 1) (.int .i64 (c.fVar)) (by kernel_rfl) T_agg3 hb12 rfl ?_)
  refine WO.cons (WC.buildSlice [.int .i64 (c.fVar)] rfl (by kernel_rfl) ?_)
  obtain ⟨hp21, hx22, he23, hb24⟩ := boxed hp9 (nx + 1) [.int .i64 (c.fVar)]
  rw [hx22]; clear hx22
  have hE25 := hE14.trans he23 le8
  have hb26 := he23.get hb12 (Nat.lt_succ_self (nx))
  have lt27 := Nat.lt_of_lt_of_le (Nat.lt_succ_self (nx)) (Nat.le_succ (nx + 1))
  have le28 := Nat.le_trans le8 (Nat.le_succ (nx + 1))
  refine WO.cons (WC.call 30 46 ([.int .i64 (1), .int .i64 (3), (⟨.slice (some ⟨(nx + 1), 0, none⟩) 1 1, [c.fVar]⟩ : SV Int).v]) (fun _ _ _ => by kernel_rfl) ((within_wf (1) (3) (⟨.slice (some ⟨(nx + 1), 0, none⟩) 1 1, [c.fVar]⟩ : SV Int) hp21 (nx + 1 + 1) (SOk.ofBox (enc := encI) (by simp [encI]) hb24 rfl (by decide) (by omega) (by simp) : SOk encI 1 hp21 (nx + 1 + 1) (⟨.slice (some ⟨(nx + 1), 0, none⟩) 1 1, [c.fVar]⟩ : SV Int))).mono ?_))
  rintro _ hp30 nx31 ⟨⟨c34, rfl, p34⟩, hn32, he33⟩
  have hE35 := hE25.trans he33 le28
  have hb36 := he33.get hb26 lt27
  have lt37 := Nat.lt_of_lt_of_le lt27 hn32
  have le40 := Nat.le_trans le28 hn32
  refine ov 31 (.bool c34) ?_
  refine og 31 (c34) (.pointer (some ⟨nx, 0 + 0, none⟩)) (.bool c34) (by cases c34 <;> rfl) (fun h => by obtain rfl := h; exact fun _ _ _ => by kernel_rfl) ?_
  refine og 31 (c34) (.pointer (some ⟨nx, 0 + 0 + 2, none⟩)) (.bool c34) (by cases c34 <;> rfl) (fun h => by obtain rfl := h; exact fun _ _ _ => by kernel_rfl) ?_
  refine ogc 31 (c34) (.int .i64 (c.fN)) (.bool c34) (by cases c34 <;> rfl) (fun h => by obtain rfl := h; exact WC.load1 nx (0 + 0 + 2) (.int .i64 (c.fN)) (by kernel_rfl) T_agg3 hb36 rfl rfl) ?_
  cases c34 with
  | true =>
   have q41 := (p34).1 rfl
   refine WO.cons (WC.gmet (x := .bool true) (g := opd (.tmp 31)) rfl (by kernel_rfl) rfl (WC.buildSlice [.int .i64 (c.fN)] rfl (by kernel_rfl) ?_))
   obtain ⟨hp42, hx43, he44, hb45⟩ := boxed hp30 (nx31) [.int .i64 (c.fN)]
   rw [hx43]; clear hx43
   have hE46 := hE35.trans he44 le40
   have hb47 := he44.get hb36 lt37
   have lt48 := Nat.lt_of_lt_of_le lt37 (Nat.le_succ (nx31))
   have le51 := Nat.le_trans le40 (Nat.le_succ (nx31))
   refine WO.cons (WC.gmet (x := .bool true) (g := opd (.tmp 31)) rfl (by kernel_rfl) rfl (WC.call 36 46 ([.int .i64 (0), .int .i64 (10000), (⟨.slice (some ⟨nx31, 0, none⟩) 1 1, [c.fN]⟩ : SV Int).v]) (fun _ _ _ => by kernel_rfl) ((within_wf (0) (10000) (⟨.slice (some ⟨nx31, 0, none⟩) 1 1, [c.fN]⟩ : SV Int) hp42 (nx31 + 1) (SOk.ofBox (enc := encI) (by simp [encI]) hb45 rfl (by decide) (by omega) (by simp) : SOk encI 1 hp42 (nx31 + 1) (⟨.slice (some ⟨nx31, 0, none⟩) 1 1, [c.fN]⟩ : SV Int))).mono ?_)))
   rintro _ hp53 nx54 ⟨⟨c57, rfl, p57⟩, hn55, he56⟩
   have hE58 := hE46.trans he56 le51
   have hb59 := he56.get hb47 lt48
   have le65 := Nat.le_trans le51 hn55
   refine ov 37 (.bool c57) ?_
   refine ov 38 (.bool c57) ?_
   refine og 38 (c57) (.pointer (some ⟨nx, 0 + 0, none⟩)) (.bool c57) (by cases c57 <;> rfl) (fun h => by obtain rfl := h; exact fun _ _ _ => by kernel_rfl) ?_
   refine og 38 (c57) (.pointer (some ⟨nx, 0 + 0 + 3, none⟩)) (.bool c57) (by cases c57 <;> rfl) (fun h => by obtain rfl := h; exact fun _ _ _ => by kernel_rfl) ?_
   obtain ⟨a66, c67, hv68⟩ := hc.fParts.1.shape
   have hsm68 := hc.fParts.1.2.2
   refine ogc 38 (c57) (.slice a66 (c.fParts.l.length) c67) (.bool c57) (by cases c57 <;> rfl) (fun h => by obtain rfl := h; exact WC.load1 nx (0 + 0 + 3) (.slice a66 (c.fParts.l.length) c67) (by kernel_rfl) T_agg102 hb59 (by rw [← hv68]; rfl) rfl) ?_
   refine og 38 (c57) (.int .i64 (.ofNat (c.fParts.l.length))) (.bool c57) (by cases c57 <;> rfl) (fun h => by obtain rfl := h; exact fun _ _ _ => by kernel_rfl) ?_
   obtain ⟨c69, e69, p69⟩ := @nb (eqI (.ofNat (c.fParts.l.length)) (0)) (((c.fParts.l.length : Nat) : Int) = (0)) (eqI_iff)
   refine og 38 (c57) (.bool c69) (.bool c57) (by cases c57 <;> rfl) (fun h => by obtain rfl := h; exact fun _ _ _ => by subst e69; kernel_rfl) ?_
   obtain ⟨c70, e70, p70⟩ := @nb ((c57 && c69)) ((∀ x ∈ (⟨.slice (some ⟨nx31, 0, none⟩) 1 1, [c.fN]⟩ : SV Int).l, (0) ≤ x ∧ x ≤ (10000)) ∧ (((c.fParts.l.length : Nat) : Int) = (0))) (by rw [Bool.and_eq_true, p57, p69])
   refine WO.cons (WC.opt (v := .bool c70) 44 (ePick (.bool c57) ((bif c57 then .bool c69 else undef)) (.bool false)) (fun _ _ _ => by kernel_rfl) (by rw [e70]; exact ePick_and (fun h => by obtain rfl : c57 = true := h; rfl)) ?_)
   refine ov 2 (.bool c70) ?_
   refine WO.nil ?_
   refine WP.ret ⟨rfl, rfl, [.bool c70], by kernel_rfl, ?_⟩
   refine ⟨⟨c70, rfl, ?_⟩, le65, hE58⟩
   show _ ↔ VCond c
   rw [VCond.iff1 q20]
   exact (p70).trans ⟨fun h => ⟨all1.1 q41, all1.1 h.1, nil0.1 h.2⟩, fun h => ⟨all1.2 h.2.1, nil0.2 h.2.2⟩⟩
  | false =>
   have q71 : ¬ (∀ x ∈ (⟨.slice (some ⟨(nx + 1), 0, none⟩) 1 1, [c.fVar]⟩ : SV Int).l, (1) ≤ x ∧ x ≤ (3)) := nf p34
   refine WO.cons (WC.gskip (x := .bool false) (g := opd (.tmp 31)) rfl (by kernel_rfl) rfl ?_)
   refine WO.cons (WC.gskip (x := .bool false) (g := opd (.tmp 31)) rfl (by kernel_rfl) rfl ?_)
   refine ov 37 (.bool false) ?_
   refine ov 38 (.bool false) ?_
   refine WO.cons (WC.gskip (x := .bool false) (g := opd (.tmp 38)) rfl (by kernel_rfl) rfl ?_)
   refine WO.cons (WC.gskip (x := .bool false) (g := opd (.tmp 38)) rfl (by kernel_rfl) rfl ?_)
   refine WO.cons (WC.gskip (x := .bool false) (g := opd (.tmp 38)) rfl (by kernel_rfl) rfl ?_)
   refine WO.cons (WC.gskip (x := .bool false) (g := opd (.tmp 38)) rfl (by kernel_rfl) rfl ?_)
   refine WO.cons (WC.gskip (x := .bool false) (g := opd (.tmp 38)) rfl (by kernel_rfl) rfl ?_)
   refine ov 44 (.bool false) ?_
   refine ov 2 (.bool false) ?_
   refine WO.nil ?_
   refine WP.ret ⟨rfl, rfl, [.bool false], by kernel_rfl, ?_⟩
   refine ⟨⟨false, rfl, ?_⟩, le40, hE35⟩
   show _ ↔ VCond c
   rw [VCond.iff1 q20]
   exact ⟨fun h => (by cases h), fun h => absurd (all1.2 h.1) q71⟩
 ·
  have q20 := nq p18 h19
  refine sr ?_
  obtain ⟨c72, e72, p72⟩ := @nb (eqI (c.fKind) (4)) ((c.fKind) = (4)) (eqI_iff)
  refine ov 46 (.bool c72) ?_ (fun _ _ _ => by subst e72; kernel_rfl)
  refine ov 45 (.bool c72) ?_
  refine WO.nil ?_
  refine WP.cond c72 (by kernel_rfl) (fun h73 => ?_) (fun h73 => ?_)
  ·
   have q74 := (p72).1 h73
   refine WP.region ?_
   refine ov 47 (.bool c17) ?_
   refine ov 48 (.bool c17) ?_
   refine og 48 (c17) (.pointer (some ⟨nx, 0 + 0, none⟩)) (.bool c17) (by cases c17 <;> rfl) (fun h => by obtain rfl := h; exact fun _ _ _ => by kernel_rfl) ?_
   refine og 48 (c17) (.pointer (some ⟨nx, 0 + 0 + 3, none⟩)) (.bool c17) (by cases c17 <;> rfl) (fun h => by obtain rfl := h; exact fun _ _ _ => by kernel_rfl) ?_
   obtain ⟨a75, c76, hv77⟩ := hc.fParts.1.shape
   have hsm77 := hc.fParts.1.2.2
   refine ogc 48 (c17) (.slice a75 (c.fParts.l.length) c76) (.bool c17) (by cases c17 <;> rfl) (fun h => by obtain rfl := h; exact WC.load1 nx (0 + 0 + 3) (.slice a75 (c.fParts.l.length) c76) (by kernel_rfl) T_agg102 hb12 (by rw [← hv77]; rfl) rfl) ?_
   refine og 48 (c17) (.int .i64 (.ofNat (c.fParts.l.length))) (.bool c17) (by cases c17 <;> rfl) (fun h => by obtain rfl := h; exact fun _ _ _ => by kernel_rfl) ?_
   obtain ⟨c78, e78, p78⟩ := @nb (eqI (.ofNat (c.fParts.l.length)) (1)) (((c.fParts.l.length : Nat) : Int) = (1)) (eqI_iff)
   refine og 48 (c17) (.bool c78) (.bool c17) (by cases c17 <;> rfl) (fun h => by obtain rfl := h; exact fun _ _ _ => by subst e78; kernel_rfl) ?_
   obtain ⟨c79, e79, p79⟩ := @nb ((c17 && c78)) ((((c.fVar) = (0)) ∧ ((c.fN) = (0))) ∧ (((c.fParts.l.length : Nat) : Int) = (1))) (by rw [Bool.and_eq_true, p17, p78])
   refine WO.cons (WC.opt (v := .bool c79) 54 (ePick (.bool c17) ((bif c17 then .bool c78 else undef)) (.bool false)) (fun _ _ _ => by kernel_rfl) (by rw [e79]; exact ePick_and (fun h => by obtain rfl : c17 = true := h; rfl)) ?_)
   refine ov 4 (.bool c79) ?_
   refine WO.nil ?_
   refine sr ?_
   refine ov 73 (.bool c79) ?_
   refine ov 74 (.bool c79) ?_
   refine ogc 74 (c79) (.agg (encCond c).toArray) (.bool c79) (by cases c79 <;> rfl) (fun h => by obtain rfl := h; exact WC.loadS nx (0) (encCond c) (by kernel_rfl) T_agg325 T_size325 hb12 rfl rfl) ?_
   cases c79 with
   | true =>
    have q80 := (p79).1 rfl
    refine WO.cons (WC.gmet (x := .bool true) (g := opd (.tmp 74)) rfl (by kernel_rfl) rfl (WC.call 76 252 ([.agg (encCond c).toArray]) (fun _ _ _ => by kernel_rfl) ((condParts_wf c hp9 (nx + 1) (hc.mono hE14 le8)).mono ?_)))
    rintro _ hp81 nx82 ⟨J85, rfl, hl86, hG87, hn83, he84⟩
    have hE88 := hE14.trans he84 le8
    have le91 := Nat.le_trans le8 hn83
    have hJok92 : SlOk encForm 1 (fun hp nx y => RFormOk hp nx y) hp81 (nx82) J85 := ⟨hG87.ok (formFlat _) (by rw [hl86]; have := partsF_len (f := .cond c) ((hc.mono hE88 le91)); omega), fun x hx => partsF_ok (f := .cond c) ((hc.mono hE88 le91)) x (hl86 ▸ hx)⟩
    have hr93 := HE.refl (nx82) hp81
    have rl94 := Nat.le_refl (nx82)
    refine WO.cons (WC.gmet (x := .bool true) (g := opd (.tmp 74)) rfl (by kernel_rfl) rfl (WC.call 77 91 ([J85.v, .func (.func 92) #[] #[]]) (fun _ _ _ => by kernel_rfl) ((containsFunc_form (A := fun x => ¬ VForm x) J85 92 #[] hp81 (nx82) (hJok92.mono (fun _ h => h.mono) hr93 rl94) (fun i x hx hp' nx' hn he => invalid_wf x hp' nx' (((hJok92.mono (fun _ h => h.mono) hr93 rl94).2 x (List.mem_of_getElem? hx)).mono he hn) (ih x hp' nx' (by have := partsF_lt (f := .cond c) (hl86 ▸ List.mem_of_getElem? hx); have hk := hk; simp only [fsz] at this ⊢; omega) (((hJok92.mono (fun _ h => h.mono) hr93 rl94).2 x (List.mem_of_getElem? hx)).mono he hn)))).mono ?_)))
    rintro _ hp95 nx96 ⟨⟨c99, rfl, p99⟩, hn97, he98⟩
    have hE100 := hE88.trans he98 le91
    have le105 := Nat.le_trans le91 hn97
    obtain ⟨c106, e106, p106⟩ := @nb (!c99) (¬ (∃ x ∈ J85.l, (fun x => ¬ VForm x) x)) (by rw [Bool.not_eq_true', ← Bool.not_eq_true, p99])
    refine WO.cons (WC.gmet (x := .bool true) (g := opd (.tmp 74)) rfl (by kernel_rfl) rfl (WC.val 78 (.bool c106) (fun _ _ _ => by subst e106; kernel_rfl) ?_))
    refine ov 79 (.bool c106) ?_
    refine ov 2 (.bool c106) ?_
    refine WO.nil ?_
    refine WP.ret ⟨rfl, rfl, [.bool c106], by kernel_rfl, ?_⟩
    refine ⟨⟨c106, rfl, ?_⟩, le105, hE100⟩
    show _ ↔ VCond c
    rw [VCond.iff4 q74]
    exact (p106).trans (nex.trans ((hl86 ▸ condParts_all).trans ⟨fun h => ⟨⟨q80.1.1, q80.1.2, by have := q80.2; omega⟩, h⟩, fun h => h.2⟩))
   | false =>
    have q107 : ¬ ((((c.fVar) = (0)) ∧ ((c.fN) = (0))) ∧ (((c.fParts.l.length : Nat) : Int) = (1))) := nf p79
    refine WO.cons (WC.gskip (x := .bool false) (g := opd (.tmp 74)) rfl (by kernel_rfl) rfl ?_)
    refine WO.cons (WC.gskip (x := .bool false) (g := opd (.tmp 74)) rfl (by kernel_rfl) rfl ?_)
    refine WO.cons (WC.gskip (x := .bool false) (g := opd (.tmp 74)) rfl (by kernel_rfl) rfl ?_)
    refine ov 79 (.bool false) ?_
    refine ov 2 (.bool false) ?_
    refine WO.nil ?_
    refine WP.ret ⟨rfl, rfl, [.bool false], by kernel_rfl, ?_⟩
    refine ⟨⟨false, rfl, ?_⟩, le8, hE14⟩
    show _ ↔ VCond c
    rw [VCond.iff4 q74]
    exact ⟨fun h => (by cases h), fun h => absurd h.1 (fun k => q107 ⟨⟨k.1, k.2.1⟩, by rw [k.2.2]; rfl⟩)⟩
  ·
   have q74 := nq p72 h73
   refine WP.seq ?_
   refine sr ?_
   obtain ⟨c108, e108, p108⟩ := @nb (eqI (c.fKind) (2)) ((c.fKind) = (2)) (eqI_iff)
   refine ov 56 (.bool c108) ?_ (fun _ _ _ => by subst e108; kernel_rfl)
   refine ov 55 (.bool c108) ?_
   refine WO.nil ?_
   refine WP.cond c108 (by kernel_rfl) (fun h109 => ?_) (fun h109 => ?_)
   ·
    have q110 := (p108).1 h109
    refine WP.skip ?_
    refine WP.cond c108 (by kernel_rfl) (fun h111 => ?_) (fun h111 => absurd (h109.symm.trans h111) (by decide))
    refine WP.region ?_
    refine ov 58 (.bool c17) ?_
    refine ov 59 (.bool c17) ?_
    refine og 59 (c17) (.pointer (some ⟨nx, 0 + 0, none⟩)) (.bool c17) (by cases c17 <;> rfl) (fun h => by obtain rfl := h; exact fun _ _ _ => by kernel_rfl) ?_
    refine og 59 (c17) (.pointer (some ⟨nx, 0 + 0 + 3, none⟩)) (.bool c17) (by cases c17 <;> rfl) (fun h => by obtain rfl := h; exact fun _ _ _ => by kernel_rfl) ?_
    obtain ⟨a112, c113, hv114⟩ := hc.fParts.1.shape
    have hsm114 := hc.fParts.1.2.2
    refine ogc 59 (c17) (.slice a112 (c.fParts.l.length) c113) (.bool c17) (by cases c17 <;> rfl) (fun h => by obtain rfl := h; exact WC.load1 nx (0 + 0 + 3) (.slice a112 (c.fParts.l.length) c113) (by kernel_rfl) T_agg102 hb12 (by rw [← hv114]; rfl) rfl) ?_
    refine og 59 (c17) (.int .i64 (.ofNat (c.fParts.l.length))) (.bool c17) (by cases c17 <;> rfl) (fun h => by obtain rfl := h; exact fun _ _ _ => by kernel_rfl) ?_
    obtain ⟨c115, e115, p115⟩ := @nb (ltI (0) (.ofNat (c.fParts.l.length))) ((0) < ((c.fParts.l.length : Nat) : Int)) (ltI_iff)
    refine og 59 (c17) (.bool c115) (.bool c17) (by cases c17 <;> rfl) (fun h => by obtain rfl := h; exact fun _ _ _ => by subst e115; kernel_rfl) ?_
    obtain ⟨c116, e116, p116⟩ := @nb ((c17 && c115)) ((((c.fVar) = (0)) ∧ ((c.fN) = (0))) ∧ ((0) < ((c.fParts.l.length : Nat) : Int))) (by rw [Bool.and_eq_true, p17, p115])
    refine WO.cons (WC.opt (v := .bool c116) 65 (ePick (.bool c17) ((bif c17 then .bool c115 else undef)) (.bool false)) (fun _ _ _ => by kernel_rfl) (by rw [e116]; exact ePick_and (fun h => by obtain rfl : c17 = true := h; rfl)) ?_)
    refine ov 66 (.bool c116) ?_
    refine og 66 (c116) (.pointer (some ⟨nx, 0 + 0, none⟩)) (.bool c116) (by cases c116 <;> rfl) (fun h => by obtain rfl := h; exact fun _ _ _ => by kernel_rfl) ?_
    refine og 66 (c116) (.pointer (some ⟨nx, 0 + 0 + 3, none⟩)) (.bool c116) (by cases c116 <;> rfl) (fun h => by obtain rfl := h; exact fun _ _ _ => by kernel_rfl) ?_
    refine ogc 66 (c116) (.slice a112 (c.fParts.l.length) c113) (.bool c116) (by cases c116 <;> rfl) (fun h => by obtain rfl := h; exact WC.load1 nx (0 + 0 + 3) (.slice a112 (c.fParts.l.length) c113) (by kernel_rfl) T_agg102 hb12 (by rw [← hv114]; rfl) rfl) ?_
    refine og 66 (c116) (.int .i64 (.ofNat (c.fParts.l.length))) (.bool c116) (by cases c116 <;> rfl) (fun h => by obtain rfl := h; exact fun _ _ _ => by kernel_rfl) ?_
    obtain ⟨c117, e117, p117⟩ := @nb (leI (.ofNat (c.fParts.l.length)) (16)) (((c.fParts.l.length : Nat) : Int) ≤ (16)) (leI_iff)
    refine og 66 (c116) (.bool c117) (.bool c116) (by cases c116 <;> rfl) (fun h => by obtain rfl := h; exact fun _ _ _ => by subst e117; kernel_rfl) ?_
    obtain ⟨c118, e118, p118⟩ := @nb ((c116 && c117)) (((((c.fVar) = (0)) ∧ ((c.fN) = (0))) ∧ ((0) < ((c.fParts.l.length : Nat) : Int))) ∧ (((c.fParts.l.length : Nat) : Int) ≤ (16))) (by rw [Bool.and_eq_true, p116, p117])
    refine WO.cons (WC.opt (v := .bool c118) 72 (ePick (.bool c116) ((bif c116 then .bool c117 else undef)) (.bool false)) (fun _ _ _ => by kernel_rfl) (by rw [e118]; exact ePick_and (fun h => by obtain rfl : c116 = true := h; rfl)) ?_)
    refine ov 4 (.bool c118) ?_
    refine WO.nil ?_
    refine sr ?_
    refine ov 73 (.bool c118) ?_
    refine ov 74 (.bool c118) ?_
    refine ogc 74 (c118) (.agg (encCond c).toArray) (.bool c118) (by cases c118 <;> rfl) (fun h => by obtain rfl := h; exact WC.loadS nx (0) (encCond c) (by kernel_rfl) T_agg325 T_size325 hb12 rfl rfl) ?_
    cases c118 with
    | true =>
     have q119 := (p118).1 rfl
     refine WO.cons (WC.gmet (x := .bool true) (g := opd (.tmp 74)) rfl (by kernel_rfl) rfl (WC.call 76 252 ([.agg (encCond c).toArray]) (fun _ _ _ => by kernel_rfl) ((condParts_wf c hp9 (nx + 1) (hc.mono hE14 le8)).mono ?_)))
     rintro _ hp120 nx121 ⟨J124, rfl, hl125, hG126, hn122, he123⟩
     have hE127 := hE14.trans he123 le8
     have le130 := Nat.le_trans le8 hn122
     have hJok131 : SlOk encForm 1 (fun hp nx y => RFormOk hp nx y) hp120 (nx121) J124 := ⟨hG126.ok (formFlat _) (by rw [hl125]; have := partsF_len (f := .cond c) ((hc.mono hE127 le130)); omega), fun x hx => partsF_ok (f := .cond c) ((hc.mono hE127 le130)) x (hl125 ▸ hx)⟩
     have hr132 := HE.refl (nx121) hp120
     have rl133 := Nat.le_refl (nx121)
     refine WO.cons (WC.gmet (x := .bool true) (g := opd (.tmp 74)) rfl (by kernel_rfl) rfl (WC.call 77 91 ([J124.v, .func (.func 92) #[] #[]]) (fun _ _ _ => by kernel_rfl) ((containsFunc_form (A := fun x => ¬ VForm x) J124 92 #[] hp120 (nx121) (hJok131.mono (fun _ h => h.mono) hr132 rl133) (fun i x hx hp' nx' hn he => invalid_wf x hp' nx' (((hJok131.mono (fun _ h => h.mono) hr132 rl133).2 x (List.mem_of_getElem? hx)).mono he hn) (ih x hp' nx' (by have := partsF_lt (f := .cond c) (hl125 ▸ List.mem_of_getElem? hx); have hk := hk; simp only [fsz] at this ⊢; omega) (((hJok131.mono (fun _ h => h.mono) hr132 rl133).2 x (List.mem_of_getElem? hx)).mono he hn)))).mono ?_)))
     rintro _ hp134 nx135 ⟨⟨c138, rfl, p138⟩, hn136, he137⟩
     have hE139 := hE127.trans he137 le130
     have le144 := Nat.le_trans le130 hn136
     obtain ⟨c145, e145, p145⟩ := @nb (!c138) (¬ (∃ x ∈ J124.l, (fun x => ¬ VForm x) x)) (by rw [Bool.not_eq_true', ← Bool.not_eq_true, p138])
     refine WO.cons (WC.gmet (x := .bool true) (g := opd (.tmp 74)) rfl (by kernel_rfl) rfl (WC.val 78 (.bool c145) (fun _ _ _ => by subst e145; kernel_rfl) ?_))
     refine ov 79 (.bool c145) ?_
     refine ov 2 (.bool c145) ?_
     refine WO.nil ?_
     refine WP.ret ⟨rfl, rfl, [.bool c145], by kernel_rfl, ?_⟩
     refine ⟨⟨c145, rfl, ?_⟩, le144, hE139⟩
     show _ ↔ VCond c
     rw [VCond.iff2 (.inl q110)]
     exact (p145).trans (nex.trans ((hl125 ▸ condParts_all).trans ⟨fun h => ⟨⟨q119.1.1.1, q119.1.1.2, by have := q119.1.2; omega, by have := q119.2; omega⟩, h⟩, fun h => h.2⟩))
    | false =>
     have q146 : ¬ (((((c.fVar) = (0)) ∧ ((c.fN) = (0))) ∧ ((0) < ((c.fParts.l.length : Nat) : Int))) ∧ (((c.fParts.l.length : Nat) : Int) ≤ (16))) := nf p118
     refine WO.cons (WC.gskip (x := .bool false) (g := opd (.tmp 74)) rfl (by kernel_rfl) rfl ?_)
     refine WO.cons (WC.gskip (x := .bool false) (g := opd (.tmp 74)) rfl (by kernel_rfl) rfl ?_)
     refine WO.cons (WC.gskip (x := .bool false) (g := opd (.tmp 74)) rfl (by kernel_rfl) rfl ?_)
     refine ov 79 (.bool false) ?_
     refine ov 2 (.bool false) ?_
     refine WO.nil ?_
     refine WP.ret ⟨rfl, rfl, [.bool false], by kernel_rfl, ?_⟩
     refine ⟨⟨false, rfl, ?_⟩, le8, hE14⟩
     show _ ↔ VCond c
     rw [VCond.iff2 (.inl q110)]
     exact ⟨fun h => (by cases h), fun h => absurd h.1 (fun k => q146 ⟨⟨⟨k.1, k.2.1⟩, by have := k.2.2.1; omega⟩, by have := k.2.2.2; omega⟩)⟩
   ·
    have q110 := nq p108 h109
    refine WP.region ?_
    obtain ⟨c147, e147, p147⟩ := @nb (eqI (c.fKind) (3)) ((c.fKind) = (3)) (eqI_iff)
    refine ov 57 (.bool c147) ?_ (fun _ _ _ => by subst e147; kernel_rfl)
    refine ov 55 (.bool c147) ?_
    refine WO.nil ?_
    refine WP.cond c147 (by kernel_rfl) (fun h148 => ?_) (fun h148 => ?_)
    ·
     have q149 := (p147).1 h148
     refine WP.region ?_
     refine ov 58 (.bool c17) ?_
     refine ov 59 (.bool c17) ?_
     refine og 59 (c17) (.pointer (some ⟨nx, 0 + 0, none⟩)) (.bool c17) (by cases c17 <;> rfl) (fun h => by obtain rfl := h; exact fun _ _ _ => by kernel_rfl) ?_
     refine og 59 (c17) (.pointer (some ⟨nx, 0 + 0 + 3, none⟩)) (.bool c17) (by cases c17 <;> rfl) (fun h => by obtain rfl := h; exact fun _ _ _ => by kernel_rfl) ?_
     obtain ⟨a150, c151, hv152⟩ := hc.fParts.1.shape
     have hsm152 := hc.fParts.1.2.2
     refine ogc 59 (c17) (.slice a150 (c.fParts.l.length) c151) (.bool c17) (by cases c17 <;> rfl) (fun h => by obtain rfl := h; exact WC.load1 nx (0 + 0 + 3) (.slice a150 (c.fParts.l.length) c151) (by kernel_rfl) T_agg102 hb12 (by rw [← hv152]; rfl) rfl) ?_
     refine og 59 (c17) (.int .i64 (.ofNat (c.fParts.l.length))) (.bool c17) (by cases c17 <;> rfl) (fun h => by obtain rfl := h; exact fun _ _ _ => by kernel_rfl) ?_
     obtain ⟨c153, e153, p153⟩ := @nb (ltI (0) (.ofNat (c.fParts.l.length))) ((0) < ((c.fParts.l.length : Nat) : Int)) (ltI_iff)
     refine og 59 (c17) (.bool c153) (.bool c17) (by cases c17 <;> rfl) (fun h => by obtain rfl := h; exact fun _ _ _ => by subst e153; kernel_rfl) ?_
     obtain ⟨c154, e154, p154⟩ := @nb ((c17 && c153)) ((((c.fVar) = (0)) ∧ ((c.fN) = (0))) ∧ ((0) < ((c.fParts.l.length : Nat) : Int))) (by rw [Bool.and_eq_true, p17, p153])
     refine WO.cons (WC.opt (v := .bool c154) 65 (ePick (.bool c17) ((bif c17 then .bool c153 else undef)) (.bool false)) (fun _ _ _ => by kernel_rfl) (by rw [e154]; exact ePick_and (fun h => by obtain rfl : c17 = true := h; rfl)) ?_)
     refine ov 66 (.bool c154) ?_
     refine og 66 (c154) (.pointer (some ⟨nx, 0 + 0, none⟩)) (.bool c154) (by cases c154 <;> rfl) (fun h => by obtain rfl := h; exact fun _ _ _ => by kernel_rfl) ?_
     refine og 66 (c154) (.pointer (some ⟨nx, 0 + 0 + 3, none⟩)) (.bool c154) (by cases c154 <;> rfl) (fun h => by obtain rfl := h; exact fun _ _ _ => by kernel_rfl) ?_
     refine ogc 66 (c154) (.slice a150 (c.fParts.l.length) c151) (.bool c154) (by cases c154 <;> rfl) (fun h => by obtain rfl := h; exact WC.load1 nx (0 + 0 + 3) (.slice a150 (c.fParts.l.length) c151) (by kernel_rfl) T_agg102 hb12 (by rw [← hv152]; rfl) rfl) ?_
     refine og 66 (c154) (.int .i64 (.ofNat (c.fParts.l.length))) (.bool c154) (by cases c154 <;> rfl) (fun h => by obtain rfl := h; exact fun _ _ _ => by kernel_rfl) ?_
     obtain ⟨c155, e155, p155⟩ := @nb (leI (.ofNat (c.fParts.l.length)) (16)) (((c.fParts.l.length : Nat) : Int) ≤ (16)) (leI_iff)
     refine og 66 (c154) (.bool c155) (.bool c154) (by cases c154 <;> rfl) (fun h => by obtain rfl := h; exact fun _ _ _ => by subst e155; kernel_rfl) ?_
     obtain ⟨c156, e156, p156⟩ := @nb ((c154 && c155)) (((((c.fVar) = (0)) ∧ ((c.fN) = (0))) ∧ ((0) < ((c.fParts.l.length : Nat) : Int))) ∧ (((c.fParts.l.length : Nat) : Int) ≤ (16))) (by rw [Bool.and_eq_true, p154, p155])
     refine WO.cons (WC.opt (v := .bool c156) 72 (ePick (.bool c154) ((bif c154 then .bool c155 else undef)) (.bool false)) (fun _ _ _ => by kernel_rfl) (by rw [e156]; exact ePick_and (fun h => by obtain rfl : c154 = true := h; rfl)) ?_)
     refine ov 4 (.bool c156) ?_
     refine WO.nil ?_
     refine sr ?_
     refine ov 73 (.bool c156) ?_
     refine ov 74 (.bool c156) ?_
     refine ogc 74 (c156) (.agg (encCond c).toArray) (.bool c156) (by cases c156 <;> rfl) (fun h => by obtain rfl := h; exact WC.loadS nx (0) (encCond c) (by kernel_rfl) T_agg325 T_size325 hb12 rfl rfl) ?_
     cases c156 with
     | true =>
      have q157 := (p156).1 rfl
      refine WO.cons (WC.gmet (x := .bool true) (g := opd (.tmp 74)) rfl (by kernel_rfl) rfl (WC.call 76 252 ([.agg (encCond c).toArray]) (fun _ _ _ => by kernel_rfl) ((condParts_wf c hp9 (nx + 1) (hc.mono hE14 le8)).mono ?_)))
      rintro _ hp158 nx159 ⟨J162, rfl, hl163, hG164, hn160, he161⟩
      have hE165 := hE14.trans he161 le8
      have le168 := Nat.le_trans le8 hn160
      have hJok169 : SlOk encForm 1 (fun hp nx y => RFormOk hp nx y) hp158 (nx159) J162 := ⟨hG164.ok (formFlat _) (by rw [hl163]; have := partsF_len (f := .cond c) ((hc.mono hE165 le168)); omega), fun x hx => partsF_ok (f := .cond c) ((hc.mono hE165 le168)) x (hl163 ▸ hx)⟩
      have hr170 := HE.refl (nx159) hp158
      have rl171 := Nat.le_refl (nx159)
      refine WO.cons (WC.gmet (x := .bool true) (g := opd (.tmp 74)) rfl (by kernel_rfl) rfl (WC.call 77 91 ([J162.v, .func (.func 92) #[] #[]]) (fun _ _ _ => by kernel_rfl) ((containsFunc_form (A := fun x => ¬ VForm x) J162 92 #[] hp158 (nx159) (hJok169.mono (fun _ h => h.mono) hr170 rl171) (fun i x hx hp' nx' hn he => invalid_wf x hp' nx' (((hJok169.mono (fun _ h => h.mono) hr170 rl171).2 x (List.mem_of_getElem? hx)).mono he hn) (ih x hp' nx' (by have := partsF_lt (f := .cond c) (hl163 ▸ List.mem_of_getElem? hx); have hk := hk; simp only [fsz] at this ⊢; omega) (((hJok169.mono (fun _ h => h.mono) hr170 rl171).2 x (List.mem_of_getElem? hx)).mono he hn)))).mono ?_)))
      rintro _ hp172 nx173 ⟨⟨c176, rfl, p176⟩, hn174, he175⟩
      have hE177 := hE165.trans he175 le168
      have le182 := Nat.le_trans le168 hn174
      obtain ⟨c183, e183, p183⟩ := @nb (!c176) (¬ (∃ x ∈ J162.l, (fun x => ¬ VForm x) x)) (by rw [Bool.not_eq_true', ← Bool.not_eq_true, p176])
      refine WO.cons (WC.gmet (x := .bool true) (g := opd (.tmp 74)) rfl (by kernel_rfl) rfl (WC.val 78 (.bool c183) (fun _ _ _ => by subst e183; kernel_rfl) ?_))
      refine ov 79 (.bool c183) ?_
      refine ov 2 (.bool c183) ?_
      refine WO.nil ?_
      refine WP.ret ⟨rfl, rfl, [.bool c183], by kernel_rfl, ?_⟩
      refine ⟨⟨c183, rfl, ?_⟩, le182, hE177⟩
      show _ ↔ VCond c
      rw [VCond.iff2 (.inr q149)]
      exact (p183).trans (nex.trans ((hl163 ▸ condParts_all).trans ⟨fun h => ⟨⟨q157.1.1.1, q157.1.1.2, by have := q157.1.2; omega, by have := q157.2; omega⟩, h⟩, fun h => h.2⟩))
     | false =>
      have q184 : ¬ (((((c.fVar) = (0)) ∧ ((c.fN) = (0))) ∧ ((0) < ((c.fParts.l.length : Nat) : Int))) ∧ (((c.fParts.l.length : Nat) : Int) ≤ (16))) := nf p156
      refine WO.cons (WC.gskip (x := .bool false) (g := opd (.tmp 74)) rfl (by kernel_rfl) rfl ?_)
      refine WO.cons (WC.gskip (x := .bool false) (g := opd (.tmp 74)) rfl (by kernel_rfl) rfl ?_)
      refine WO.cons (WC.gskip (x := .bool false) (g := opd (.tmp 74)) rfl (by kernel_rfl) rfl ?_)
      refine ov 79 (.bool false) ?_
      refine ov 2 (.bool false) ?_
      refine WO.nil ?_
      refine WP.ret ⟨rfl, rfl, [.bool false], by kernel_rfl, ?_⟩
      refine ⟨⟨false, rfl, ?_⟩, le8, hE14⟩
      show _ ↔ VCond c
      rw [VCond.iff2 (.inr q149)]
      exact ⟨fun h => (by cases h), fun h => absurd h.1 (fun k => q184 ⟨⟨⟨k.1, k.2.1⟩, by have := k.2.2.1; omega⟩, by have := k.2.2.2; omega⟩)⟩
    ·
     have q149 := nq p147 h148
     refine sr ?_
     refine ov 2 (.bool false) ?_
     refine WO.nil ?_
     refine WP.ret ⟨rfl, rfl, [.bool false], by kernel_rfl, ?_⟩
     refine ⟨⟨false, rfl, ?_⟩, le8, hE14⟩
     show _ ↔ VCond c
     exact ⟨fun h => (by cases h), fun h => absurd h (VCond.iff0 q20 q110 q149 q74)⟩
theorem validS_step (k : Nat) (ih : ∀ (f : RForm) (hp : Ht) (nx : Nat), fsz f < k → RFormOk hp nx f → WF ex 169 [fv f] hp nx (Stays nx hp (BoolIs (VForm f)))) (s : RStep) (hp : Ht) (nx : Nat) (hk : sizeOf s < k + 1) (hs : RStepOk hp nx s) : WF ex 169 [.iface 215 (.agg (encStep s).toArray)] hp nx (Stays nx hp (BoolIs (VForm (.step s)))) := by
 refine WF.body (fi := ⟨Tryz.f169.body.getD .skip, 131, [.tmp 2]⟩) (by kernel_rfl) (by kernel_rfl) (by kernel_rfl) rfl ?_
 have hE := HE.refl nx hp
 refine sr ?_
 refine ov 2 (.bool false) ?_
 refine WO.nil ?_
 refine WP.seq ?_
 refine sr ?_
 refine ov 7 (.iface 215 (.agg (encStep s).toArray)) ?_
 refine WO.nil ?_
 refine WP.block ?_
 refine sr ?_
 refine ov 8 (.tuple ⟨[.agg ⟨[.int .i64 (0), .int .i64 (0), .int .i64 (0), .slice none (0) 0]⟩, .bool false]⟩) ?_
 refine ov 9 (.bool false) ?_
 refine ov 10 (.agg ⟨[.int .i64 (0), .int .i64 (0), .int .i64 (0), .slice none (0) 0]⟩) ?_
 refine WO.nil ?_
 refine WP.cond false (by kernel_rfl) (fun h1 => by cases h1) (fun h1 => ?_)
 refine sr ?_
 refine ov 80 (.tuple ⟨[.agg (encStep s).toArray, .bool true]⟩) ?_
 refine ov 81 (.bool true) ?_
 refine ov 82 (.agg (encStep s).toArray) ?_
 refine WO.nil ?_
 refine WP.cond true (by kernel_rfl) (fun h2 => ?_) (fun h2 => by cases h2)
 refine sr ?_
 refine WO.cons (WC.alloc _ [.int .i64 (0), .int .i64 (0), .int .i64 (0), .int .i64 (0), .int .i64 (0), .slice none (0) 0, .slice none (0) 0, .slice none (0) 0] rfl T_zero215 rfl ?_)
 obtain ⟨hp4, hx5, he6, hb7⟩ := boxed hp (nx) [.int .i64 (0), .int .i64 (0), .int .i64 (0), .int .i64 (0), .int .i64 (0), .slice none (0) 0, .slice none (0) 0, .slice none (0) 0]
 rw [hx5]; clear hx5
 have hE8 := hE.trans he6 (Nat.le_refl nx)
 have le9 := Nat.le_trans (Nat.le_refl nx) (Nat.le_succ (nx))
 refine WO.cons (WC.store1 nx (0) (.agg (encStep s).toArray) [.int .i64 (0), .int .i64 (0), .int .i64 (0), .int .i64 (0), .int .i64 (0), .slice none (0) 0, .slice none (0) 0, .slice none (0) 0] (encStep s) (encStep s) 8 rfl (by kernel_rfl) (by kernel_rfl) T_size215 rfl (Bool.and_eq_true_iff.2 ⟨rfl, encStep_one _ hs⟩) hb7 rfl rfl rfl ?_)
 obtain ⟨hp10, hx11, he12, hb13, ho14⟩ := stored hp4 nx (.cells (encStep s) CMeta.plain)
 rw [hx11]; clear hx11
 have hE15 := hE8.trans he12 (by omega)
 refine WO.nil ?_
 refine sr ?_
 refine ov 83 (.pointer (some ⟨nx, 0 + 0, none⟩)) ?_
 refine ov 84 (.pointer (some ⟨nx, 0 + 0 + 2, none⟩)) ?_
 refine WO.cons (WC.loadS nx (0 + 0 + 2) (encCond s.fCond) (by kernel_rfl) T_agg104 T_size104 hb13 rfl ?_)
 refine ov 86 (.agg (encCond s.fCond).toArray) ?_
 refine WO.cons (WC.alloc _ [.int .i64 (0), .int .i64 (0), .int .i64 (0), .slice none (0) 0] rfl T_zero325 rfl ?_)
 obtain ⟨hp17, hx18, he19, hb20⟩ := boxed hp10 (nx + 1) [.int .i64 (0), .int .i64 (0), .int .i64 (0), .slice none (0) 0]
 rw [hx18]; clear hx18
 have hE21 := hE15.trans he19 le9
 have hb22 := he19.get hb13 (Nat.lt_succ_self (nx))
 have lt23 := Nat.lt_of_lt_of_le (Nat.lt_succ_self (nx)) (Nat.le_succ (nx + 1))
 have le24 := Nat.le_trans le9 (Nat.le_succ (nx + 1))
 refine WO.cons (WC.store1 (nx + 1) (0) (.agg (encCond s.fCond).toArray) [.int .i64 (0), .int .i64 (0), .int .i64 (0), .slice none (0) 0] (encCond s.fCond) (encCond s.fCond) 4 rfl (by kernel_rfl) (by kernel_rfl) T_size325 rfl (Bool.and_eq_true_iff.2 ⟨rfl, encCond_one _ hs.fCond⟩) hb20 rfl rfl rfl ?_)
 obtain ⟨hp25, hx26, he27, hb28, ho29⟩ := stored hp17 (nx + 1) (.cells (encCond s.fCond) CMeta.plain)
 rw [hx26]; clear hx26
 have hE30 := hE21.trans he27 (by omega)
 have hb31 := (ho29 nx (by omega)).trans hb22
 refine WO.nil ?_
 refine sr ?_
 refine ov 87 (.pointer (some ⟨nx, 0 + 0, none⟩)) ?_
 refine ov 88 (.pointer (some ⟨nx, 0 + 0 + 0, none⟩)) ?_
 refine WO.cons (WC.load1 nx (0 + 0 + 0) (.int .i64 (s.fKind)) (by kernel_rfl) T_agg3 hb31 rfl ?_)
 refine WO.nil ?_
 refine WP.block ?_
 refine sr ?_
 obtain ⟨c32, e32, p32⟩ := @nb (eqI (s.fKind) (1)) ((s.fKind) = (1)) (eqI_iff)
 refine ov 91 (.bool c32) ?_ (fun _ _ _ => by subst e32; kernel_rfl)
 refine ov 90 (.bool c32) ?_
 refine WO.nil ?_
 refine WP.cond c32 (by kernel_rfl) (fun h33 => ?_) (fun h33 => ?_)
 ·
  have q34 := (p32).1 h33
  refine sr ?_
  refine ov 92 (.pointer (some ⟨nx, 0 + 0, none⟩)) ?_
  refine ov 93 (.pointer (some ⟨nx, 0 + 0 + 1, none⟩)) ?_
  refine WO.cons (WC.load1 nx (0 + 0 + 1) (.int .i64 (s.fBy)) (by kernel_rfl) T_agg3 hb31 rfl ?_)
  refine WO.cons (WC.buildSlice [.int .i64 (s.fBy)] rfl (by kernel_rfl) ?_)
  obtain ⟨hp35, hx36, he37, hb38⟩ := boxed hp25 (nx + 1 + 1) [.int .i64 (s.fBy)]
  rw [hx36]; clear hx36
  have hE39 := hE30.trans he37 le24
  have hb40 := he37.get hb31 lt23
  have lt41 := Nat.lt_of_lt_of_le lt23 (Nat.le_succ (nx + 1 + 1))
  have hb42 := he37.get hb28 (Nat.lt_succ_self (nx + 1))
  have lt43 := Nat.lt_of_lt_of_le (Nat.lt_succ_self (nx + 1)) (Nat.le_succ (nx + 1 + 1))
  have le44 := Nat.le_trans le24 (Nat.le_succ (nx + 1 + 1))
  refine WO.cons (WC.call 96 46 ([.int .i64 (1), .int .i64 (5), (⟨.slice (some ⟨(nx + 1 + 1), 0, none⟩) 1 1, [s.fBy]⟩ : SV Int).v]) (fun _ _ _ => by kernel_rfl) ((within_wf (1) (5) (⟨.slice (some ⟨(nx + 1 + 1), 0, none⟩) 1 1, [s.fBy]⟩ : SV Int) hp35 (nx + 1 + 1 + 1) (SOk.ofBox (enc := encI) (by simp [encI]) hb38 rfl (by decide) (by omega) (by simp) : SOk encI 1 hp35 (nx + 1 + 1 + 1) (⟨.slice (some ⟨(nx + 1 + 1), 0, none⟩) 1 1, [s.fBy]⟩ : SV Int))).mono ?_))
  rintro _ hp46 nx47 ⟨⟨c50, rfl, p50⟩, hn48, he49⟩
  have hE51 := hE39.trans he49 le44
  have hb52 := he49.get hb40 lt41
  have lt53 := Nat.lt_of_lt_of_le lt41 hn48
  have hb54 := he49.get hb42 lt43
  have le58 := Nat.le_trans le44 hn48
  refine ov 97 (.bool c50) ?_
  refine ogc 97 (c50) (.agg (encCond s.fCond).toArray) (.bool c50) (by cases c50 <;> rfl) (fun h => by obtain rfl := h; exact WC.loadS (nx + 1) (0) (encCond s.fCond) (by kernel_rfl) T_agg325 T_size325 hb54 rfl rfl) ?_
  cases c50 with
  | true =>
   have q59 := (p50).1 rfl
   refine WO.cons (WC.gmet (x := .bool true) (g := opd (.tmp 97)) rfl (by kernel_rfl) rfl (WC.call 99 167 ([.agg (encCond s.fCond).toArray]) (fun _ _ _ => by kernel_rfl) ((isZero_wf s.fCond hp46 (nx47) (hs.fCond.mono hE51 le58)).mono ?_)))
   rintro _ hp60 nx61 ⟨⟨c64, rfl, p64⟩, hn62, he63⟩
   have hE65 := hE51.trans he63 le58
   have hb66 := he63.get hb52 lt53
   have le72 := Nat.le_trans le58 hn62
   refine ov 100 (.bool c64) ?_
   refine ov 101 (.bool c64) ?_
   refine ogc 101 (c64) (.agg (encStep s).toArray) (.bool c64) (by cases c64 <;> rfl) (fun h => by obtain rfl := h; exact WC.loadS nx (0) (encStep s) (by kernel_rfl) T_agg215 T_size215 hb66 rfl rfl) ?_
   cases c64 with
   | true =>
    have q73 := (p64).1 rfl
    refine WO.cons (WC.gmet (x := .bool true) (g := opd (.tmp 101)) rfl (by kernel_rfl) rfl (WC.call 103 253 ([.agg (encStep s).toArray]) (fun _ _ _ => by kernel_rfl) ((stepParts_wf s hp60 (nx61) (hs.mono hE65 le72)).mono ?_)))
    rintro _ hp74 nx75 ⟨J78, rfl, hl79, hG80, hn76, he77⟩
    have hE81 := hE65.trans he77 le72
    have le88 := Nat.le_trans le72 hn76
    have hJok89 : SlOk encForm 1 (fun hp nx y => RFormOk hp nx y) hp74 (nx75) J78 := ⟨hG80.ok (formFlat _) (by rw [hl79]; have := partsF_len (f := .step s) ((hs.mono hE81 le88)); omega), fun x hx => partsF_ok (f := .step s) ((hs.mono hE81 le88)) x (hl79 ▸ hx)⟩
    obtain ⟨a92, c93, hv94⟩ := hJok89.1.shape
    have hsm94 := hJok89.1.2.2
    refine WO.cons (WC.gmet (x := .bool true) (g := opd (.tmp 101)) rfl (by kernel_rfl) rfl (WC.val 104 (.int .i64 (.ofNat (J78.l.length))) (fun _ _ _ => by rw [hv94]; kernel_rfl) ?_))
    obtain ⟨c95, e95, p95⟩ := @nb (eqI (.ofNat (J78.l.length)) (0)) (((J78.l.length : Nat) : Int) = (0)) (eqI_iff)
    refine WO.cons (WC.gmet (x := .bool true) (g := opd (.tmp 101)) rfl (by kernel_rfl) rfl (WC.val 105 (.bool c95) (fun _ _ _ => by subst e95; kernel_rfl) ?_))
    refine ov 106 (.bool c95) ?_
    refine ov 2 (.bool c95) ?_
    refine WO.nil ?_
    refine WP.ret ⟨rfl, rfl, [.bool c95], by kernel_rfl, ?_⟩
    refine ⟨⟨c95, rfl, ?_⟩, le88, hE81⟩
    show _ ↔ VStep s
    rw [VStep.iff1 q34]
    exact (p95).trans ((nil0.trans (by rw [hl79])).trans ⟨fun h => ⟨all1.1 q59, q73, h⟩, fun h => h.2.2⟩)
   | false =>
    have q96 : ¬ (CondZero s.fCond) := nf p64
    refine WO.cons (WC.gskip (x := .bool false) (g := opd (.tmp 101)) rfl (by kernel_rfl) rfl ?_)
    refine WO.cons (WC.gskip (x := .bool false) (g := opd (.tmp 101)) rfl (by kernel_rfl) rfl ?_)
    refine WO.cons (WC.gskip (x := .bool false) (g := opd (.tmp 101)) rfl (by kernel_rfl) rfl ?_)
    refine ov 106 (.bool false) ?_
    refine ov 2 (.bool false) ?_
    refine WO.nil ?_
    refine WP.ret ⟨rfl, rfl, [.bool false], by kernel_rfl, ?_⟩
    refine ⟨⟨false, rfl, ?_⟩, le72, hE65⟩
    show _ ↔ VStep s
    rw [VStep.iff1 q34]
    exact ⟨fun h => (by cases h), fun h => absurd h.2.1 q96⟩
  | false =>
   have q97 : ¬ (∀ x ∈ (⟨.slice (some ⟨(nx + 1 + 1), 0, none⟩) 1 1, [s.fBy]⟩ : SV Int).l, (1) ≤ x ∧ x ≤ (5)) := nf p50
   refine WO.cons (WC.gskip (x := .bool false) (g := opd (.tmp 97)) rfl (by kernel_rfl) rfl ?_)
   refine ov 100 (.bool false) ?_
   refine ov 101 (.bool false) ?_
   refine WO.cons (WC.gskip (x := .bool false) (g := opd (.tmp 101)) rfl (by kernel_rfl) rfl ?_)
   refine WO.cons (WC.gskip (x := .bool false) (g := opd (.tmp 101)) rfl (by kernel_rfl) rfl ?_)
   refine WO.cons (WC.gskip (x := .bool false) (g := opd (.tmp 101)) rfl (by kernel_rfl) rfl ?_)
   refine WO.cons (WC.gskip (x := .bool false) (g := opd (.tmp 101)) rfl (by kernel_rfl) rfl ?_)
   refine ov 106 (.bool false) ?_
   refine ov 2 (.bool false) ?_
   refine WO.nil ?_
   refine WP.ret ⟨rfl, rfl, [.bool false], by kernel_rfl, ?_⟩
   refine ⟨⟨false, rfl, ?_⟩, le58, hE51⟩
   show _ ↔ VStep s
   rw [VStep.iff1 q34]
   exact ⟨fun h => (by cases h), fun h => absurd (all1.2 h.1) q97⟩
 ·
  have q34 := nq p32 h33
  refine sr ?_
  obtain ⟨c98, e98, p98⟩ := @nb (eqI (s.fKind) (2)) ((s.fKind) = (2)) (eqI_iff)
  refine ov 108 (.bool c98) ?_ (fun _ _ _ => by subst e98; kernel_rfl)
  refine ov 107 (.bool c98) ?_
  refine WO.nil ?_
  refine WP.cond c98 (by kernel_rfl) (fun h99 => ?_) (fun h99 => ?_)
  ·
   have q100 := (p98).1 h99
   refine sr ?_
   refine ov 109 (.pointer (some ⟨nx, 0 + 0, none⟩)) ?_
   refine ov 110 (.pointer (some ⟨nx, 0 + 0 + 1, none⟩)) ?_
   refine WO.cons (WC.load1 nx (0 + 0 + 1) (.int .i64 (s.fBy)) (by kernel_rfl) T_agg3 hb31 rfl ?_)
   obtain ⟨c101, e101, p101⟩ := @nb (eqI (s.fBy) (0)) ((s.fBy) = (0)) (eqI_iff)
   refine ov 112 (.bool c101) ?_ (fun _ _ _ => by subst e101; kernel_rfl)
   refine ov 113 (.bool c101) ?_
   refine ogc 113 (c101) (.agg (encCond s.fCond).toArray) (.bool c101) (by cases c101 <;> rfl) (fun h => by obtain rfl := h; exact WC.loadS (nx + 1) (0) (encCond s.fCond) (by kernel_rfl) T_agg325 T_size325 hb28 rfl rfl) ?_
   refine og 113 (c101) (.iface 325 (.agg (encCond s.fCond).toArray)) (.bool c101) (by cases c101 <;> rfl) (fun h => by obtain rfl := h; exact fun _ _ _ => by kernel_rfl) ?_
   cases c101 with
   | true =>
    have q102 := (p101).1 rfl
    refine WO.cons (WC.gmet (x := .bool true) (g := opd (.tmp 113)) rfl (by kernel_rfl) rfl (WC.call 116 169 ([.iface 325 (.agg (encCond s.fCond).toArray)]) (fun _ _ _ => by kernel_rfl) ((ih (RForm.cond s.fCond) hp25 (nx + 1 + 1) (by have := RStep.cond_lt s; simp only [fsz]; omega) (hs.fCond.mono hE30 le24)).mono ?_)))
    rintro _ hp103 nx104 ⟨⟨c107, rfl, p107⟩, hn105, he106⟩
    have hE108 := hE30.trans he106 le24
    have hb109 := he106.get hb31 lt23
    have le113 := Nat.le_trans le24 hn105
    refine ov 117 (.bool c107) ?_
    refine ov 118 (.bool c107) ?_
    refine og 118 (c107) (.pointer (some ⟨nx, 0 + 0, none⟩)) (.bool c107) (by cases c107 <;> rfl) (fun h => by obtain rfl := h; exact fun _ _ _ => by kernel_rfl) ?_
    refine og 118 (c107) (.pointer (some ⟨nx, 0 + 0 + 6, none⟩)) (.bool c107) (by cases c107 <;> rfl) (fun h => by obtain rfl := h; exact fun _ _ _ => by kernel_rfl) ?_
    obtain ⟨a114, c115, hv116⟩ := hs.fThen.1.shape
    have hsm116 := hs.fThen.1.2.2
    refine ogc 118 (c107) (.slice a114 (s.fThen.l.length) c115) (.bool c107) (by cases c107 <;> rfl) (fun h => by obtain rfl := h; exact WC.load1 nx (0 + 0 + 6) (.slice a114 (s.fThen.l.length) c115) (by kernel_rfl) T_agg24 hb109 (by rw [← hv116]; rfl) rfl) ?_
    refine og 118 (c107) (.int .i64 (.ofNat (s.fThen.l.length))) (.bool c107) (by cases c107 <;> rfl) (fun h => by obtain rfl := h; exact fun _ _ _ => by kernel_rfl) ?_
    obtain ⟨c117, e117, p117⟩ := @nb (ltI (0) (.ofNat (s.fThen.l.length))) ((0) < ((s.fThen.l.length : Nat) : Int)) (ltI_iff)
    refine og 118 (c107) (.bool c117) (.bool c107) (by cases c107 <;> rfl) (fun h => by obtain rfl := h; exact fun _ _ _ => by subst e117; kernel_rfl) ?_
    obtain ⟨c118, e118, p118⟩ := @nb ((c107 && c117)) ((VForm (RForm.cond s.fCond)) ∧ ((0) < ((s.fThen.l.length : Nat) : Int))) (by rw [Bool.and_eq_true, p107, p117])
    refine WO.cons (WC.opt (v := .bool c118) 124 (ePick (.bool c107) ((bif c107 then .bool c117 else undef)) (.bool false)) (fun _ _ _ => by kernel_rfl) (by rw [e118]; exact ePick_and (fun h => by obtain rfl : c107 = true := h; rfl)) ?_)
    refine ov 125 (.bool c118) ?_
    refine ogc 125 (c118) (.agg (encStep s).toArray) (.bool c118) (by cases c118 <;> rfl) (fun h => by obtain rfl := h; exact WC.loadS nx (0) (encStep s) (by kernel_rfl) T_agg215 T_size215 hb109 rfl rfl) ?_
    cases c118 with
    | true =>
     have q119 := (p118).1 rfl
     refine WO.cons (WC.gmet (x := .bool true) (g := opd (.tmp 125)) rfl (by kernel_rfl) rfl (WC.call 127 253 ([.agg (encStep s).toArray]) (fun _ _ _ => by kernel_rfl) ((stepParts_wf s hp103 (nx104) (hs.mono hE108 le113)).mono ?_)))
     rintro _ hp120 nx121 ⟨J124, rfl, hl125, hG126, hn122, he123⟩
     have hE127 := hE108.trans he123 le113
     have le132 := Nat.le_trans le113 hn122
     have hJok133 : SlOk encForm 1 (fun hp nx y => RFormOk hp nx y) hp120 (nx121) J124 := ⟨hG126.ok (formFlat _) (by rw [hl125]; have := partsF_len (f := .step s) ((hs.mono hE127 le132)); omega), fun x hx => partsF_ok (f := .step s) ((hs.mono hE127 le132)) x (hl125 ▸ hx)⟩
     have hr134 := HE.refl (nx121) hp120
     have rl135 := Nat.le_refl (nx121)
     refine WO.cons (WC.gmet (x := .bool true) (g := opd (.tmp 125)) rfl (by kernel_rfl) rfl (WC.call 128 91 ([J124.v, .func (.func 92) #[] #[]]) (fun _ _ _ => by kernel_rfl) ((containsFunc_form (A := fun x => ¬ VForm x) J124 92 #[] hp120 (nx121) (hJok133.mono (fun _ h => h.mono) hr134 rl135) (fun i x hx hp' nx' hn he => invalid_wf x hp' nx' (((hJok133.mono (fun _ h => h.mono) hr134 rl135).2 x (List.mem_of_getElem? hx)).mono he hn) (ih x hp' nx' (by have := partsF_lt (f := .step s) (hl125 ▸ List.mem_of_getElem? hx); have hk := hk; simp only [fsz] at this ⊢; omega) (((hJok133.mono (fun _ h => h.mono) hr134 rl135).2 x (List.mem_of_getElem? hx)).mono he hn)))).mono ?_)))
     rintro _ hp136 nx137 ⟨⟨c140, rfl, p140⟩, hn138, he139⟩
     have hE141 := hE127.trans he139 le132
     have le148 := Nat.le_trans le132 hn138
     obtain ⟨c149, e149, p149⟩ := @nb (!c140) (¬ (∃ x ∈ J124.l, (fun x => ¬ VForm x) x)) (by rw [Bool.not_eq_true', ← Bool.not_eq_true, p140])
     refine WO.cons (WC.gmet (x := .bool true) (g := opd (.tmp 125)) rfl (by kernel_rfl) rfl (WC.val 129 (.bool c149) (fun _ _ _ => by subst e149; kernel_rfl) ?_))
     refine ov 130 (.bool c149) ?_
     refine ov 2 (.bool c149) ?_
     refine WO.nil ?_
     refine WP.ret ⟨rfl, rfl, [.bool c149], by kernel_rfl, ?_⟩
     refine ⟨⟨c149, rfl, ?_⟩, le148, hE141⟩
     show _ ↔ VStep s
     rw [VStep.iff2 q100]
     exact (p149).trans (nex.trans ⟨fun h => ⟨q102, q119.1, by have := q119.2; omega, hl125 ▸ h⟩, fun h => hl125 ▸ h.2.2.2⟩)
    | false =>
     have q150 : ¬ ((VForm (RForm.cond s.fCond)) ∧ ((0) < ((s.fThen.l.length : Nat) : Int))) := nf p118
     refine WO.cons (WC.gskip (x := .bool false) (g := opd (.tmp 125)) rfl (by kernel_rfl) rfl ?_)
     refine WO.cons (WC.gskip (x := .bool false) (g := opd (.tmp 125)) rfl (by kernel_rfl) rfl ?_)
     refine WO.cons (WC.gskip (x := .bool false) (g := opd (.tmp 125)) rfl (by kernel_rfl) rfl ?_)
     refine ov 130 (.bool false) ?_
     refine ov 2 (.bool false) ?_
     refine WO.nil ?_
     refine WP.ret ⟨rfl, rfl, [.bool false], by kernel_rfl, ?_⟩
     refine ⟨⟨false, rfl, ?_⟩, le113, hE108⟩
     show _ ↔ VStep s
     rw [VStep.iff2 q100]
     exact ⟨fun h => (by cases h), fun h => (q150 ⟨h.2.1, by have := h.2.2.1; omega⟩).elim⟩
   | false =>
    have q151 : ¬ ((s.fBy) = (0)) := nf p101
    refine WO.cons (WC.gskip (x := .bool false) (g := opd (.tmp 113)) rfl (by kernel_rfl) rfl ?_)
    refine ov 117 (.bool false) ?_
    refine ov 118 (.bool false) ?_
    refine WO.cons (WC.gskip (x := .bool false) (g := opd (.tmp 118)) rfl (by kernel_rfl) rfl ?_)
    refine WO.cons (WC.gskip (x := .bool false) (g := opd (.tmp 118)) rfl (by kernel_rfl) rfl ?_)
    refine WO.cons (WC.gskip (x := .bool false) (g := opd (.tmp 118)) rfl (by kernel_rfl) rfl ?_)
    refine WO.cons (WC.gskip (x := .bool false) (g := opd (.tmp 118)) rfl (by kernel_rfl) rfl ?_)
    refine WO.cons (WC.gskip (x := .bool false) (g := opd (.tmp 118)) rfl (by kernel_rfl) rfl ?_)
    refine ov 124 (.bool false) ?_
    refine ov 125 (.bool false) ?_
    refine WO.cons (WC.gskip (x := .bool false) (g := opd (.tmp 125)) rfl (by kernel_rfl) rfl ?_)
    refine WO.cons (WC.gskip (x := .bool false) (g := opd (.tmp 125)) rfl (by kernel_rfl) rfl ?_)
    refine WO.cons (WC.gskip (x := .bool false) (g := opd (.tmp 125)) rfl (by kernel_rfl) rfl ?_)
    refine WO.cons (WC.gskip (x := .bool false) (g := opd (.tmp 125)) rfl (by kernel_rfl) rfl ?_)
    refine ov 130 (.bool false) ?_
    refine ov 2 (.bool false) ?_
    refine WO.nil ?_
    refine WP.ret ⟨rfl, rfl, [.bool false], by kernel_rfl, ?_⟩
    refine ⟨⟨false, rfl, ?_⟩, le24, hE30⟩
    show _ ↔ VStep s
    rw [VStep.iff2 q100]
    exact ⟨fun h => (by cases h), fun h => absurd h.1 q151⟩
  ·
   have q100 := nq p98 h99
   refine WP.skip ?_
   refine sr ?_
   refine ov 2 (.bool false) ?_
   refine WO.nil ?_
   refine WP.ret ⟨rfl, rfl, [.bool false], by kernel_rfl, ?_⟩
   refine ⟨⟨false, rfl, ?_⟩, le24, hE30⟩
   show _ ↔ VStep s
   exact ⟨fun h => (by cases h), fun h => absurd h (VStep.iff0 q34 q100)⟩
theorem valid_wf (f : RForm) (hp : Ht) (nx : Nat) (hf : RFormOk hp nx f) : WF ex 169 [fv f] hp nx (Stays nx hp (BoolIs (VForm f))) := by
 have h : ∀ (k : Nat), ∀ (f : RForm) (hp : Ht) (nx : Nat), fsz f < k → RFormOk hp nx f → WF ex 169 [fv f] hp nx (Stays nx hp (BoolIs (VForm f))) := by
  intro k
  induction k with
  | zero => intro _ _ _ h; exact absurd h (Nat.not_lt_zero _)
  | succ k ih =>
   intro f hp nx hk hf
   cases f with
   | cond c => exact validC_step k ih c hp nx hk hf
   | step s => exact validS_step k ih s hp nx hk hf
 exact h _ f hp nx (Nat.lt_succ_self _) hf
end
end Sw
