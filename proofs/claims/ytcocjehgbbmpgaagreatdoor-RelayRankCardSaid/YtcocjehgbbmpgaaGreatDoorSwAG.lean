/- A part of the proof that the law returns true for every input that its row speaks of. No condition is added. -/
import Derived.Test.YtcocjehgbbmpgaaGreatDoorSwAF
namespace Sw
noncomputable section
open Go Go.Proofs Go.RowKit
set_option maxRecDepth 100000
set_option maxHeartbeats 1600000
def AllOk (W : SV (SV RSpan)) : Prop := ∀ y ∈ W.l, ∀ s ∈ y.l, SpanOk s
theorem encSpan_eqV (x y : RSpan) : eqV ex.T 12 95 (.agg (encSpan x).toArray) (.agg (encSpan y).toArray) = (bif (eqI x.fLo y.fLo) then (bif (eqI x.fHi y.fHi) then (some true) else (some false)) else (some false)) := by kernel_rfl
theorem encSpan_eqb (x y : RSpan) : ((eqI x.fLo y.fLo) && (eqI x.fHi y.fHi)) = true ↔ x = y := by
  constructor
  · intro h; cases x; cases y; simp only [Bool.and_eq_true, eqI_iff, beq_iff_eq, strEq_iff] at h; obtain h := h; simp_all
  · rintro rfl; simp only [Bool.and_eq_true, eqI_iff, beq_iff_eq, strEq_iff, and_self]
theorem encSpan_eqW (x y : RSpan) : eqV ex.T 12 95 (.agg (encSpan x).toArray) (.agg (encSpan y).toArray) = some ((eqI x.fLo y.fLo) && (eqI x.fHi y.fHi)) := by
  rw [encSpan_eqV]
  (cases (eqI x.fLo y.fLo)) <;> (cases (eqI x.fHi y.fHi)) <;> rfl
theorem encSpan_eql (xo yo : Operand) (x y : RSpan) {c : Bool} (e : c = @decide (x = y) (Classical.propDecidable _)) : eBin ex.T .eql 95 xo yo (.agg (encSpan x).toArray) (.agg (encSpan y).toArray) = some (.bool c) := by
  have h1 : eBin ex.T .eql 95 xo yo (.agg (encSpan x).toArray) (.agg (encSpan y).toArray) = (eqV ex.T 12 95 (.agg (encSpan x).toArray) (.agg (encSpan y).toArray)).map .bool := by kernel_rfl
  have h2 : ((eqI x.fLo y.fLo) && (eqI x.fHi y.fHi)) = c := by rw [e, Bool.eq_iff_iff, encSpan_eqb]; exact (@decide_eq_true_iff _ (Classical.propDecidable _)).symm
  rw [h1, encSpan_eqW, h2]; rfl
theorem encSpan_neq (xo yo : Operand) (x y : RSpan) {c : Bool} (e : c = @decide (x ≠ y) (Classical.propDecidable _)) : eBin ex.T .neq 95 xo yo (.agg (encSpan x).toArray) (.agg (encSpan y).toArray) = some (.bool c) := by
  have h1 : eBin ex.T .neq 95 xo yo (.agg (encSpan x).toArray) (.agg (encSpan y).toArray) = (eqV ex.T 12 95 (.agg (encSpan x).toArray) (.agg (encSpan y).toArray)).map fun b => .bool (!b) := by kernel_rfl
  have h2 : (!((eqI x.fLo y.fLo) && (eqI x.fHi y.fHi))) = c := by rw [e, Bool.eq_iff_iff, Bool.not_eq_true', ← Bool.not_eq_true, encSpan_eqb]; exact (@decide_eq_true_iff _ (Classical.propDecidable _)).symm
  rw [h1, encSpan_eqW]; show some (Value.bool (!((eqI x.fLo y.fLo) && (eqI x.fHi y.fHi)))) = _; rw [h2]
theorem T_agg32 : ex.T.agg 32 = some false := by kernel_rfl
theorem T_size32 : ex.T.size 32 = some 1 := by kernel_rfl
theorem T_und90 : ex.T.und 90 = some (.slice 32) := by kernel_rfl
theorem T_zero95 : ex.T.zero 95 = some (.agg ⟨[.int .i64 (0), .int .i64 (0)]⟩) := by kernel_rfl
theorem spanCheckL_wf (W : SV (SV RSpan)) (hp : Ht) (nx : Nat) (hW : SlOk encSl 1 (fun hp nx y => SOk encSpan 2 hp nx y) hp nx W) : WF ex 39 [W.v] hp nx (Stays nx hp (IntImp (AllOk W))) := by
 obtain ⟨a1, c2, hv3⟩ := hW.1.shape
 have hsm3 := hW.1.2.2
 rw [hv3]
 refine WF.body (fi := ⟨Tryz.f39.body.getD .skip, 17, [.tmp 2]⟩) (by kernel_rfl) (by kernel_rfl) (by kernel_rfl) rfl ?_
 have hE := HE.refl nx hp
 refine sr ?_
 refine ov 2 (.int .i64 (0)) ?_
 refine WO.nil ?_
 refine WP.seq ?_
 refine sr ?_
 refine ov 5 (.slice a1 (W.l.length) c2) ?_
 refine ov 6 (.int .i64 (.ofNat (W.l.length))) ?_
 refine ov 7 (.int .i64 (0)) ?_
 refine WO.nil ?_
 refine WP.block ?_
 have hj5 : ∀ t : Tm, (((t.set 5 (t.get 5)).set 6 (t.get 6)).set 7 (t.get 7)) = t := fun t => by kernel_rfl
 refine WP.loop (fun m s => ∃ (iL4 : Nat), iL4 + m = W.l.length ∧ s.to.get 5 = .slice a1 (W.l.length) c2 ∧ s.to.get 6 = .int .i64 (.ofNat (W.l.length)) ∧ s.to.get 7 = .int .i64 (.ofNat iL4) ∧ s.ds = [] ∧ s.cs = [] ∧ nx ≤ s.nx ∧ HE (nx) hp s.hp ∧ (∀ (j : Nat) (y : SV RSpan), j < iL4 → W.l[j]? = some y → ∀ s ∈ y.l, SpanOk s)) ?_ (W.l.length) ?_
 ·
  rintro mL4 ⟨toL4, dsL4, hp6, nx7, csL4⟩ ⟨iL4, him8, gL4_5, gL4_6, gL4_7, hdsL4, hcsL4, hn9, he10, hall⟩
  simp only at gL4_5 gL4_6 gL4_7 hdsL4 hcsL4 hn9 he10
  subst hdsL4 hcsL4
  rw [← hj5 toL4, gL4_5, gL4_6, gL4_7]
  clear gL4_5 gL4_6 gL4_7
  have hE11 := hE.trans he10 (Nat.le_refl nx)
  have le12 := Nat.le_trans (Nat.le_refl nx) hn9
  refine sr ?_
  obtain ⟨c13, e13, p13⟩ := @nb (ltI (.ofNat iL4) (.ofNat (W.l.length))) (((iL4 : Nat) : Int) < ((W.l.length : Nat) : Int)) (ltI_iff)
  refine ov 8 (.bool c13) ?_ (fun _ _ _ => by subst e13; kernel_rfl)
  refine WO.nil ?_
  refine WP.seq ?_
  refine WP.cond c13 (by kernel_rfl) (fun h14 => ?_) (fun h14 => ?_)
  ·
   have q15 := (p13).1 h14
   refine WP.skip ?_
   refine WP.seq ?_
   refine WP.block ?_
   refine sr ?_
   have hlt16 : iL4 < W.l.length := by omega
   refine WO.cons (WC.ix (k := .i64) a1 (W.l.length) c2 (iL4) 1 (by kernel_rfl) (by kernel_rfl) T_und90 T_size32 ((hW.1.mono hE11 le12).blkA hv3 (zl hlt16)) (hlt16) ?_)
   obtain ⟨x17, hx18⟩ : ∃ el_, W.l[iL4]? = some el_ := ⟨_, List.getElem?_eq_getElem (hlt16)⟩
   obtain ⟨a19, c20, hv21⟩ := (hW.2 x17 (List.mem_of_getElem? hx18)).shape
   have hsm21 := (hW.2 x17 (List.mem_of_getElem? hx18)).2.2
   refine WO.cons (WC.load1E (blk a1) (0 + (iL4) * 1) (.slice a19 (x17.l.length) c20) (by kernel_rfl) T_agg32 ((hW.1.mono hE11 le12).blkB hv3 (zl hlt16)) (flat_at1 (hW.1.mono hE11 le12).1 hx18 (by rw [← hv21]; rfl)) ?_)
   refine ov 4 (.slice a19 (x17.l.length) c20) ?_
   refine WO.nil ?_
   refine WP.seq ?_
   refine sr ?_
   refine ov 11 (.slice a19 (x17.l.length) c20) ?_
   refine ov 12 (.int .i64 (.ofNat (x17.l.length))) ?_
   obtain ⟨c22, e22, p22⟩ := @nb (ltI (4096) (.ofNat (x17.l.length))) ((4096) < ((x17.l.length : Nat) : Int)) (ltI_iff)
   refine ov 13 (.bool c22) ?_ (fun _ _ _ => by subst e22; kernel_rfl)
   refine WO.nil ?_
   refine WP.cond c22 (by kernel_rfl) (fun h23 => ?_) (fun h23 => ?_)
   ·
    have q24 := (p22).1 h23
    refine sr ?_
    refine ov 2 (.int .i64 (2)) ?_
    refine WO.nil ?_
    refine WP.ret ⟨rfl, rfl, [.int .i64 (2)], by kernel_rfl, ?_⟩
    exact ⟨⟨2, rfl, fun h => absurd h (by decide)⟩, le12, hE11⟩
   ·
    have q24 := nq p22 h23
    refine WP.skip ?_
    refine sr ?_
    refine ov 14 (.slice a19 (x17.l.length) c20) ?_
    refine WO.cons (WC.call 15 85 ([x17.v, .func (.func 86) #[] #[]]) (fun _ _ _ => by (try rw [hv21]); kernel_rfl) ((containsFunc_span (A := fun s => ¬ SpanOk s) x17 86 #[] hp6 (nx7) ((hW.2 x17 (List.mem_of_getElem? hx18)).mono hE11 le12) (fun i x hx hp' nx' hn he => spanCheck1_wf x hp' nx')).mono ?_))
    rintro _ hp25 nx26 ⟨⟨c29, rfl, p29⟩, hn27, he28⟩
    have hE30 := hE11.trans he28 le12
    have hr31 := he10.trans he28 hn9
    have rl32 := Nat.le_trans hn9 hn27
    have le33 := Nat.le_trans le12 hn27
    refine WO.nil ?_
    refine WP.cond c29 (by kernel_rfl) (fun h34 => ?_) (fun h34 => ?_)
    ·
     have q35 := (p29).1 h34
     refine sr ?_
     refine ov 2 (.int .i64 (10)) ?_
     refine WO.nil ?_
     refine WP.ret ⟨rfl, rfl, [.int .i64 (10)], by kernel_rfl, ?_⟩
     exact ⟨⟨10, rfl, fun h => absurd h (by decide)⟩, le33, hE30⟩
    ·
     have q35 : ¬ (∃ x ∈ x17.l, (fun s => ¬ SpanOk s) x) := fun k => by rw [(p29).2 k] at h34; cases h34
     refine WP.skip ?_
     refine WP.region ?_
     refine ov 16 (.int .i64 (.ofNat (iL4 + 1))) ?_ (fun _ _ _ => by rw [← wrapAdd (show iL4 + 1 < 9223372036854775808 by omega)]; kernel_rfl)
     refine ov 7 (.int .i64 (.ofNat (iL4 + 1))) ?_
     refine WO.nil ?_
     refine ⟨W.l.length - (iL4 + 1), by omega, iL4 + 1, by omega, by kernel_rfl, by kernel_rfl, by kernel_rfl, rfl, rfl, ?_, ?_, ?_⟩
     · exact rl32
     · exact hr31
     · intro j y hj hy s hs
       rcases Nat.lt_succ_iff_lt_or_eq.1 hj with hj | rfl
       · exact hall j y hj hy s hs
       · rw [hx18] at hy; cases hy
         exact Classical.not_not.1 fun k => q35 ⟨s, hs, k⟩
  ·
   have q15 := nq p13 h14
   refine WP.exit ?_
   refine sr ?_
   refine ov 2 (.int .i64 (0)) ?_
   refine WO.nil ?_
   refine WP.ret ⟨rfl, rfl, [.int .i64 (0)], by kernel_rfl, ?_⟩
   refine ⟨⟨0, rfl, fun _ y hy s hs => ?_⟩, le12, hE11⟩
   obtain ⟨j, hj⟩ := List.getElem?_of_mem hy
   exact hall j y (by have := (List.getElem?_eq_some_iff.1 hj).1; omega) hj s hs
 ·
  exact ⟨0, by omega, by kernel_rfl, by kernel_rfl, by kernel_rfl, rfl, rfl, Nat.le_refl _, HE.refl _ _, (fun _ _ h => absurd h (Nat.not_lt_zero _))⟩
theorem tidy1_wf (a b : RSpan) (hp : Ht) (nx : Nat) : WF ex 89 [.agg (encSpan a).toArray, .agg (encSpan b).toArray] hp nx (Stays nx hp AnyI) := by
 refine WF.body (fi := ⟨Tryz.f89.body.getD .skip, 17, [.tmp 4]⟩) (by kernel_rfl) (by kernel_rfl) (by kernel_rfl) rfl ?_
 have hE := HE.refl nx hp
 refine sr ?_
 refine WO.cons (WC.box (.agg (encSpan a).toArray) (encSpan a) rfl (by kernel_rfl) rfl ?_)
 obtain ⟨hp2, hx3, he4, hb5⟩ := boxed hp (nx) (encSpan a)
 rw [hx3]; clear hx3
 have hE6 := hE.trans he4 (Nat.le_refl nx)
 have le7 := Nat.le_trans (Nat.le_refl nx) (Nat.le_succ (nx))
 refine WO.cons (WC.box (.agg (encSpan b).toArray) (encSpan b) rfl (by kernel_rfl) rfl ?_)
 obtain ⟨hp9, hx10, he11, hb12⟩ := boxed hp2 (nx + 1) (encSpan b)
 rw [hx10]; clear hx10
 have hE13 := hE6.trans he11 le7
 have hb14 := he11.get hb5 (Nat.lt_succ_self (nx))
 have lt15 := Nat.lt_of_lt_of_le (Nat.lt_succ_self (nx)) (Nat.le_succ (nx + 1))
 have le16 := Nat.le_trans le7 (Nat.le_succ (nx + 1))
 refine ov 4 (.int .i64 (0)) ?_
 refine WO.nil ?_
 refine WP.seq ?_
 refine WP.drawS [⟨[0, 1, 2, 3, 5, 6, 7, 8], [0, 1, 2, 3, 5, 6, 7, 8], some 4⟩, ⟨[], [5, 6, 7, 8], some 9⟩, ⟨[10], [10], some 11⟩, ⟨[], [], some 12⟩, ⟨[], [], none⟩] (by kernel_rfl) _ rfl ?_
 refine WD.eff ?_
 refine nv 5 (.pointer (some ⟨nx, 0 + 0, none⟩)) ?_
 refine WN.consAt rfl (WC.load1 nx (0 + 0) (.int .i64 (a.fLo)) (by kernel_rfl) T_agg3 hb14 rfl ?_)
 refine nv 7 (.pointer (some ⟨(nx + 1), 0 + 0, none⟩)) ?_
 refine WN.consAt rfl (WC.load1 (nx + 1) (0 + 0) (.int .i64 (b.fLo)) (by kernel_rfl) T_agg3 hb12 rfl ?_)
 refine nv 10 (.pointer (some ⟨nx, 0 + 1, none⟩)) ?_
 refine WN.consAt rfl (WC.load1 nx (0 + 1) (.int .i64 (a.fHi)) (by kernel_rfl) T_agg3 hb14 rfl ?_)
 refine nv 12 (.pointer (some ⟨(nx + 1), 0 + 1, none⟩)) ?_
 refine WN.consAt rfl (WC.load1 (nx + 1) (0 + 1) (.int .i64 (b.fHi)) (by kernel_rfl) T_agg3 hb12 rfl ?_)
 refine WN.nil ⟨?_, ?_⟩
 ·
  refine cv (.pointer (some ⟨nx, 0 + 0, none⟩)) (vEq_ptr ..) ?_
  refine co (.int .i64 (a.fLo)) (eLoad ex.T hp9.get 3 (.pointer (some ⟨nx, 0 + 0, none⟩))) (eLoad_one T_agg3 hb14 rfl) (vEq_int ..) ?_
  refine cv (.pointer (some ⟨(nx + 1), 0 + 0, none⟩)) (vEq_ptr ..) ?_
  refine co (.int .i64 (b.fLo)) (eLoad ex.T hp9.get 3 (.pointer (some ⟨(nx + 1), 0 + 0, none⟩))) (eLoad_one T_agg3 hb12 rfl) (vEq_int ..) ?_
  refine cv (.pointer (some ⟨nx, 0 + 1, none⟩)) (vEq_ptr ..) ?_
  refine co (.int .i64 (a.fHi)) (eLoad ex.T hp9.get 3 (.pointer (some ⟨nx, 0 + 1, none⟩))) (eLoad_one T_agg3 hb14 rfl) (vEq_int ..) ?_
  refine cv (.pointer (some ⟨(nx + 1), 0 + 1, none⟩)) (vEq_ptr ..) ?_
  refine co (.int .i64 (b.fHi)) (eLoad ex.T hp9.get 3 (.pointer (some ⟨(nx + 1), 0 + 1, none⟩))) (eLoad_one T_agg3 hb12 rfl) (vEq_int ..) ?_
  exact Chks.nil
 refine WC.at rfl (WC.call 9 63 ([.int .i64 (a.fLo), .int .i64 (b.fLo)]) (fun _ _ _ => by kernel_rfl) ((compare_wf (a.fLo) (b.fLo) hp9 (nx + 1 + 1)).mono ?_))
 rintro _ hp17 nx18 ⟨⟨z21, rfl⟩, hn19, he20⟩
 have hE22 := hE13.trans he20 le16
 have hb23 := he20.get hb14 lt15
 have hb25 := he20.get hb12 (Nat.lt_succ_self (nx + 1))
 have le27 := Nat.le_trans le16 hn19
 refine WD.eff ?_
 refine WN.nil ⟨?_, ?_⟩
 ·
  refine cv (.pointer (some ⟨nx, 0 + 1, none⟩)) (vEq_ptr ..) ?_
  refine co (.int .i64 (a.fHi)) (eLoad ex.T hp17.get 3 (.pointer (some ⟨nx, 0 + 1, none⟩))) (eLoad_one T_agg3 hb23 rfl) (vEq_int ..) ?_
  refine cv (.pointer (some ⟨(nx + 1), 0 + 1, none⟩)) (vEq_ptr ..) ?_
  refine co (.int .i64 (b.fHi)) (eLoad ex.T hp17.get 3 (.pointer (some ⟨(nx + 1), 0 + 1, none⟩))) (eLoad_one T_agg3 hb25 rfl) (vEq_int ..) ?_
  exact Chks.nil
 refine WC.at rfl (WC.call 14 63 ([.int .i64 (a.fHi), .int .i64 (b.fHi)]) (fun _ _ _ => by kernel_rfl) ((compare_wf (a.fHi) (b.fHi) hp17 (nx18)).mono ?_))
 rintro _ hp28 nx29 ⟨⟨z32, rfl⟩, hn30, he31⟩
 have hE33 := hE22.trans he31 le27
 have le38 := Nat.le_trans le27 hn30
 refine WD.eff ?_
 refine WN.consAt rfl (WC.buildSlice [.int .i64 (z21), .int .i64 (z32)] rfl (by kernel_rfl) ?_)
 obtain ⟨hp39, hx40, he41, hb42⟩ := boxed hp28 (nx29) [.int .i64 (z21), .int .i64 (z32)]
 rw [hx40]; clear hx40
 have hE43 := hE33.trans he41 le38
 have le48 := Nat.le_trans le38 (Nat.le_succ (nx29))
 refine WN.nil ⟨?_, ?_⟩
 ·
  refine Chks.new nx29 (.slice (some ⟨nx29, 0, none⟩) (2) 2) [.int .i64 (z21), .int .i64 (z32)] (fun _ => by kernel_rfl) hb42 (vEq_sl ..) (by simp [vEqs, vEq_int, vEq_bool]) ?_
  exact Chks.nil
 refine WC.at rfl (WC.call 16 62 ([.slice (some ⟨nx29, 0, none⟩) (2) 2]) (fun _ _ _ => by kernel_rfl) ((or_wf (⟨.slice (some ⟨nx29, 0, none⟩) 2 2, [z21, z32]⟩ : SV Int) hp39 (nx29 + 1) (SOk.ofBox (enc := encI) (by simp [encI]) hb42 rfl (by decide) (by omega) (by simp) : SOk encI 1 hp39 (nx29 + 1) (⟨.slice (some ⟨nx29, 0, none⟩) 2 2, [z21, z32]⟩ : SV Int))).mono ?_))
 rintro _ hp50 nx51 ⟨⟨z54, rfl⟩, hn52, he53⟩
 have hE55 := hE43.trans he53 le48
 have le62 := Nat.le_trans le48 hn52
 refine WD.eff ?_
 refine WN.nil ⟨?_, ?_⟩
 ·
  exact Chks.nil
 refine WC.at rfl (WC.val 4 (.int .i64 (z54)) (fun _ _ _ => by kernel_rfl) ?_)
 refine WD.last ?_
 refine WN.nil ⟨?_, ?_⟩
 ·
  exact Chks.nil
 refine WP.ret ⟨rfl, rfl, [.int .i64 (z54)], by kernel_rfl, ?_⟩
 exact ⟨⟨_, rfl⟩, le62, hE55⟩
theorem tidy2_wf (a b : RSpan) (hp : Ht) (nx : Nat) : WF ex 90 [.agg (encSpan a).toArray, .agg (encSpan b).toArray] hp nx (Stays nx hp (BoolIs (a = b ∨ b.fLo ≤ wrapE .i64 (a.fHi + 1)))) := by
 refine WF.body (fi := ⟨Tryz.f90.body.getD .skip, 16, [.tmp 4]⟩) (by kernel_rfl) (by kernel_rfl) (by kernel_rfl) rfl ?_
 have hE := HE.refl nx hp
 refine sr ?_
 refine WO.cons (WC.box (.agg (encSpan a).toArray) (encSpan a) rfl (by kernel_rfl) rfl ?_)
 obtain ⟨hp2, hx3, he4, hb5⟩ := boxed hp (nx) (encSpan a)
 rw [hx3]; clear hx3
 have hE6 := hE.trans he4 (Nat.le_refl nx)
 have le7 := Nat.le_trans (Nat.le_refl nx) (Nat.le_succ (nx))
 refine WO.cons (WC.box (.agg (encSpan b).toArray) (encSpan b) rfl (by kernel_rfl) rfl ?_)
 obtain ⟨hp9, hx10, he11, hb12⟩ := boxed hp2 (nx + 1) (encSpan b)
 rw [hx10]; clear hx10
 have hE13 := hE6.trans he11 le7
 have hb14 := he11.get hb5 (Nat.lt_succ_self (nx))
 have le16 := Nat.le_trans le7 (Nat.le_succ (nx + 1))
 refine ov 4 (.bool false) ?_
 refine WO.nil ?_
 refine sr ?_
 refine WO.cons (WC.loadS nx (0) (encSpan a) (by kernel_rfl) T_agg95 T_size95 hb14 rfl ?_)
 refine WO.cons (WC.loadS (nx + 1) (0) (encSpan b) (by kernel_rfl) T_agg95 T_size95 hb12 rfl ?_)
 obtain ⟨c17, e17, p17⟩ := @nb (@decide (a = b) (Classical.propDecidable _)) (a = b) (@decide_eq_true_iff _ (Classical.propDecidable _))
 refine WO.cons (WC.opt (v := .bool c17) 7 (eBin ex.T .eql 95 (.tmp 5) (.tmp 6) (.agg (encSpan a).toArray) (.agg (encSpan b).toArray)) (fun _ _ _ => by kernel_rfl) (encSpan_eql _ _ a b e17) ?_)
 refine ov 8 (.bool c17) ?_
 refine og 8 (!c17) (.pointer (some ⟨(nx + 1), 0 + 0, none⟩)) (.bool c17) (by cases c17 <;> rfl) (fun h => by obtain rfl := bF h; exact fun _ _ _ => by kernel_rfl) ?_
 refine ogc 8 (!c17) (.int .i64 (b.fLo)) (.bool c17) (by cases c17 <;> rfl) (fun h => by obtain rfl := bF h; exact WC.load1 (nx + 1) (0 + 0) (.int .i64 (b.fLo)) (by kernel_rfl) T_agg3 hb12 rfl rfl) ?_
 refine og 8 (!c17) (.pointer (some ⟨nx, 0 + 1, none⟩)) (.bool c17) (by cases c17 <;> rfl) (fun h => by obtain rfl := bF h; exact fun _ _ _ => by kernel_rfl) ?_
 refine ogc 8 (!c17) (.int .i64 (a.fHi)) (.bool c17) (by cases c17 <;> rfl) (fun h => by obtain rfl := bF h; exact WC.load1 nx (0 + 1) (.int .i64 (a.fHi)) (by kernel_rfl) T_agg3 hb14 rfl rfl) ?_
 refine og 8 (!c17) (.int .i64 (wrapE .i64 ((a.fHi) + (1)))) (.bool c17) (by cases c17 <;> rfl) (fun h => by obtain rfl := bF h; exact fun _ _ _ => by kernel_rfl) ?_
 obtain ⟨c18, e18, p18⟩ := @nb (leI (b.fLo) (wrapE .i64 ((a.fHi) + (1)))) ((b.fLo) ≤ (wrapE .i64 ((a.fHi) + (1)))) (leI_iff)
 refine og 8 (!c17) (.bool c18) (.bool c17) (by cases c17 <;> rfl) (fun h => by obtain rfl := bF h; exact fun _ _ _ => by subst e18; kernel_rfl) ?_
 obtain ⟨c19, e19, p19⟩ := @nb ((c17 || c18)) ((a = b) ∨ ((b.fLo) ≤ (wrapE .i64 ((a.fHi) + (1))))) (by rw [Bool.or_eq_true, p17, p18])
 refine WO.cons (WC.opt (v := .bool c19) 15 (ePick (.bool c17) (.bool true) ((bif !c17 then .bool c18 else undef))) (fun _ _ _ => by kernel_rfl) (by rw [e19]; exact ePick_or (fun h => by obtain rfl : c17 = false := h; rfl)) ?_)
 refine ov 4 (.bool c19) ?_
 refine WO.nil ?_
 refine WP.ret ⟨rfl, rfl, [.bool c19], by kernel_rfl, ?_⟩
 refine ⟨⟨c19, rfl, ?_⟩, le16, hE13⟩
 exact p19
theorem tidy3_wf (a b : RSpan) (hp : Ht) (nx : Nat) : WF ex 92 [.agg (encSpan a).toArray, .agg (encSpan b).toArray] hp nx (Stays nx hp (fun v => ∃ z : Int, v = .agg (encSpan ⟨a.fLo, z⟩).toArray)) := by
 refine WF.body (fi := ⟨Tryz.f92.body.getD .skip, 13, [.cell 4 95]⟩) (by kernel_rfl) (by kernel_rfl) (by kernel_rfl) rfl ?_
 have hE := HE.refl nx hp
 refine sr ?_
 refine WO.cons (WC.box (.agg (encSpan a).toArray) (encSpan a) rfl (by kernel_rfl) rfl ?_)
 obtain ⟨hp2, hx3, he4, hb5⟩ := boxed hp (nx) (encSpan a)
 rw [hx3]; clear hx3
 have hE6 := hE.trans he4 (Nat.le_refl nx)
 have le7 := Nat.le_trans (Nat.le_refl nx) (Nat.le_succ (nx))
 refine WO.cons (WC.box (.agg (encSpan b).toArray) (encSpan b) rfl (by kernel_rfl) rfl ?_)
 obtain ⟨hp9, hx10, he11, hb12⟩ := boxed hp2 (nx + 1) (encSpan b)
 rw [hx10]; clear hx10
 have hE13 := hE6.trans he11 le7
 have hb14 := he11.get hb5 (Nat.lt_succ_self (nx))
 have lt15 := Nat.lt_of_lt_of_le (Nat.lt_succ_self (nx)) (Nat.le_succ (nx + 1))
 have le16 := Nat.le_trans le7 (Nat.le_succ (nx + 1))
 refine WO.cons (WC.alloc _ [.int .i64 (0), .int .i64 (0)] rfl T_zero95 rfl ?_)
 obtain ⟨hp18, hx19, he20, hb21⟩ := boxed hp9 (nx + 1 + 1) [.int .i64 (0), .int .i64 (0)]
 rw [hx19]; clear hx19
 have hE22 := hE13.trans he20 le16
 have hb23 := he20.get hb14 lt15
 have hb25 := he20.get hb12 (Nat.lt_succ_self (nx + 1))
 have le27 := Nat.le_trans le16 (Nat.le_succ (nx + 1 + 1))
 refine WO.nil ?_
 refine sr ?_
 refine ov 5 (.pointer (some ⟨nx, 0 + 0, none⟩)) ?_
 refine WO.cons (WC.load1 nx (0 + 0) (.int .i64 (a.fLo)) (by kernel_rfl) T_agg3 hb23 rfl ?_)
 refine ov 7 (.pointer (some ⟨nx, 0 + 1, none⟩)) ?_
 refine WO.cons (WC.load1 nx (0 + 1) (.int .i64 (a.fHi)) (by kernel_rfl) T_agg3 hb23 rfl ?_)
 refine ov 9 (.pointer (some ⟨(nx + 1), 0 + 1, none⟩)) ?_
 refine WO.cons (WC.load1 (nx + 1) (0 + 1) (.int .i64 (b.fHi)) (by kernel_rfl) T_agg3 hb25 rfl ?_)
 refine ov 11 (.int .i64 ((bif ltI (a.fHi) (b.fHi) then (b.fHi) else (a.fHi)))) ?_
 refine ov 12 (.agg ⟨[.int .i64 (a.fLo), .int .i64 ((bif ltI (a.fHi) (b.fHi) then (b.fHi) else (a.fHi)))]⟩) ?_
 refine WO.cons (WC.store1 (nx + 1 + 1) (0) (.agg ⟨[.int .i64 (a.fLo), .int .i64 ((bif ltI (a.fHi) (b.fHi) then (b.fHi) else (a.fHi)))]⟩) [.int .i64 (0), .int .i64 (0)] [.int .i64 (a.fLo), .int .i64 ((bif ltI (a.fHi) (b.fHi) then (b.fHi) else (a.fHi)))] [.int .i64 (a.fLo), .int .i64 ((bif ltI (a.fHi) (b.fHi) then (b.fHi) else (a.fHi)))] 2 rfl (by kernel_rfl) (by kernel_rfl) T_size95 rfl rfl hb21 rfl rfl rfl ?_)
 obtain ⟨hp28, hx29, he30, hb31, ho32⟩ := stored hp18 (nx + 1 + 1) (.cells [.int .i64 (a.fLo), .int .i64 ((bif ltI (a.fHi) (b.fHi) then (b.fHi) else (a.fHi)))] CMeta.plain)
 rw [hx29]; clear hx29
 have hE33 := hE22.trans he30 (by omega)
 refine WO.nil ?_
 refine WP.ret ⟨rfl, rfl, [.agg ⟨[.int .i64 (a.fLo), .int .i64 ((bif ltI (a.fHi) (b.fHi) then (b.fHi) else (a.fHi)))]⟩], (getRes_cell1 (by rw [show (opd (.tmp 4)).run _ = .pointer (some ⟨(nx + 1 + 1), 0, none⟩) from by kernel_rfl]; exact eLoad_agg T_agg95 T_size95 hb31 rfl)), ?_⟩
 exact ⟨⟨(bif ltI (a.fHi) (b.fHi) then (b.fHi) else (a.fHi)), rfl⟩, le27, hE33⟩
theorem isort_wf (L : List RSpan) (N b gr : Nat) (hN : 0 < N) (hNs : N ≤ 1048576) (hL : L.length = N) (f : FuncId) (bf : Array Value) (hp : Ht) (nx : Nat) (hp1 : Ht) (nx1 : Nat) (h1 : nx ≤ nx1) (he1 : HE nx hp hp1) (hA : Arr encSpan 2 nx b gr hp1 nx1 L) (hf : ∀ (x y : RSpan) (hp' : Ht) (nx' : Nat), nx ≤ nx' → HE nx hp hp' → WF ex f ((.agg (encSpan x).toArray) :: (.agg (encSpan y).toArray) :: bf.toList) hp' nx' (Stays nx' hp' AnyI)) (hvq : vEq 8 (.func (.func f) #[] bf) (.func (.func f) #[] bf) = true) : WF ex 338 [.slice (some ⟨b, 0, none⟩) (N) N, .int .i64 (0), .int .i64 (.ofNat N), .func (.func f) #[] bf] hp1 nx1 (fun _ hp' nx' => (∃ L', L'.length = N ∧ Arr encSpan 2 nx b gr hp' nx' L') ∧ nx1 ≤ nx' ∧ HE nx hp hp') := by
 refine WF.body (fi := ⟨Tryz.f338.body.getD .skip, 53, []⟩) (by kernel_rfl) (by kernel_rfl) (by kernel_rfl) rfl ?_
 refine sr ?_
 refine ov 10 (.int .i64 (0)) ?_
 refine ov 11 (.int .i64 (.ofNat (0 + 1))) ?_ (fun _ _ _ => by rw [← wrapAdd (show 0 + 1 < 9223372036854775808 by omega)]; kernel_rfl)
 refine ov 8 (.int .i64 (.ofNat (0 + 1))) ?_
 refine WO.nil ?_
 refine WP.block ?_
 have hj2 : ∀ t : Tm, (((((t.set 0 (t.get 0)).set 1 (t.get 1)).set 2 (t.get 2)).set 3 (t.get 3)).set 8 (t.get 8)) = t := fun t => by kernel_rfl
 refine WP.loop (fun m s => ∃ (iL1 : Nat) (La : List RSpan), iL1 + m = N ∧ s.to.get 0 = .slice (some ⟨b, 0, none⟩) (N) N ∧ s.to.get 1 = .int .i64 (0) ∧ s.to.get 2 = .int .i64 (.ofNat N) ∧ s.to.get 3 = .func (.func f) #[] bf ∧ s.to.get 8 = .int .i64 (.ofNat (iL1 + 1)) ∧ s.ds = [] ∧ s.cs = [] ∧ nx1 ≤ s.nx ∧ HE nx hp s.hp ∧ (La.length = N) ∧ (Arr encSpan 2 nx b gr s.hp s.nx La) ∧ (nx1 ≤ s.nx)) ?_ (N) ?_
 ·
  rintro mL1 ⟨toL1, dsL1, hp3, nx4, csL1⟩ ⟨iL1, La, him5, gL1_0, gL1_1, gL1_2, gL1_3, gL1_8, hdsL1, hcsL1, hn6, he7, hLa, hAa, h1a⟩
  simp only at gL1_0 gL1_1 gL1_2 gL1_3 gL1_8 hdsL1 hcsL1 hn6 he7 hAa h1a
  subst hdsL1 hcsL1
  rw [← hj2 toL1, gL1_0, gL1_1, gL1_2, gL1_3, gL1_8]
  clear gL1_0 gL1_1 gL1_2 gL1_3 gL1_8
  have le8 := Nat.le_trans h1 hn6
  refine WP.seq ?_
  refine sr ?_
  refine ov 12 (.int .i64 (.ofNat (iL1 + 1))) ?_
  refine ov 13 (.int .i64 (.ofNat N)) ?_
  obtain ⟨c9, e9, p9⟩ := @nb (ltI (.ofNat (iL1 + 1)) (.ofNat N)) (((iL1 + 1 : Nat) : Int) < ((N : Nat) : Int)) (ltI_iff)
  refine ov 14 (.bool c9) ?_ (fun _ _ _ => by subst e9; kernel_rfl)
  refine WO.nil ?_
  refine WP.cond c9 (by kernel_rfl) (fun h10 => ?_) (fun h10 => ?_)
  ·
   have q11 := (p9).1 h10
   refine WP.skip ?_
   refine WP.seq ?_
   refine WP.block ?_
   refine sr ?_
   refine ov 17 (.int .i64 (.ofNat (iL1 + 1))) ?_
   refine ov 9 (.int .i64 (.ofNat (iL1 + 1))) ?_
   refine WO.nil ?_
   refine WP.block ?_
   have hj13 : ∀ t : Tm, ((((((t.set 0 (t.get 0)).set 1 (t.get 1)).set 2 (t.get 2)).set 3 (t.get 3)).set 8 (t.get 8)).set 9 (t.get 9)) = t := fun t => by kernel_rfl
   refine WP.loop (fun m s => ∃ (iL12 : Nat) (Lb : List RSpan), iL12 + m = (iL1 + 1) ∧ s.to.get 0 = .slice (some ⟨b, 0, none⟩) (N) N ∧ s.to.get 1 = .int .i64 (0) ∧ s.to.get 2 = .int .i64 (.ofNat N) ∧ s.to.get 3 = .func (.func f) #[] bf ∧ s.to.get 8 = .int .i64 (.ofNat (iL1 + 1)) ∧ s.to.get 9 = .int .i64 (.ofNat (iL1 + 1 - iL12)) ∧ s.ds = [] ∧ s.cs = [] ∧ nx4 ≤ s.nx ∧ HE nx hp s.hp ∧ (Lb.length = N) ∧ (Arr encSpan 2 nx b gr s.hp s.nx Lb) ∧ (nx1 ≤ s.nx)) ?_ ((iL1 + 1)) ?_
   ·
    rintro mL12 ⟨toL12, dsL12, hp14, nx15, csL12⟩ ⟨iL12, Lb, him16, gL12_0, gL12_1, gL12_2, gL12_3, gL12_8, gL12_9, hdsL12, hcsL12, hn17, he18, hLb, hAb, h1b⟩
    simp only at gL12_0 gL12_1 gL12_2 gL12_3 gL12_8 gL12_9 hdsL12 hcsL12 hn17 he18 hAb h1b
    subst hdsL12 hcsL12
    rw [← hj13 toL12, gL12_0, gL12_1, gL12_2, gL12_3, gL12_8, gL12_9]
    clear gL12_0 gL12_1 gL12_2 gL12_3 gL12_8 gL12_9
    have rl19 := Nat.le_trans hn6 hn17
    have le20 := Nat.le_trans le8 hn17
    refine WP.seq ?_
    refine WP.seq ?_
    refine WP.drawS [⟨[0, 1, 2, 3, 4, 5, 6, 7, 8, 9, 10, 11, 12, 13], [0, 1, 2, 3, 4, 5, 6, 7, 8, 9, 10, 11, 12, 13], some 14⟩, ⟨[15, 16], [15, 16], none⟩] (by kernel_rfl) _ rfl ?_
    refine WD.eff ?_
    refine nv 18 (.int .i64 (.ofNat (iL1 + 1 - iL12))) ?_
    refine nv 19 (.int .i64 (0)) ?_
    obtain ⟨c21, e21, p21⟩ := @nb (ltI (0) (.ofNat (iL1 + 1 - iL12))) ((0) < ((iL1 + 1 - iL12 : Nat) : Int)) (ltI_iff)
    refine nv 20 (.bool c21) ?_ (fun _ _ _ => by subst e21; kernel_rfl)
    refine nv 21 (.bool c21) ?_
    refine ng rfl 21 (c21) (.func (.func f) #[] bf) (.bool c21) (by cases c21 <;> rfl) (fun h => by obtain rfl := h; exact fun _ _ _ => by kernel_rfl) ?_
    refine ng rfl 21 (c21) (.slice (some ⟨b, 0, none⟩) (N) N) (.bool c21) (by cases c21 <;> rfl) (fun h => by obtain rfl := h; exact fun _ _ _ => by kernel_rfl) ?_
    refine ng rfl 21 (c21) (.int .i64 (.ofNat (iL1 + 1 - iL12))) (.bool c21) (by cases c21 <;> rfl) (fun h => by obtain rfl := h; exact fun _ _ _ => by kernel_rfl) ?_
    have hlt22 : (c21) = true → iL1 + 1 - iL12 < N := fun h => by obtain rfl : c21 = true := (by simpa using h); have q0 := (p21).1 rfl; omega
    refine ngc rfl 21 (c21) (.pointer (some ⟨(blk (some ⟨b, 0, none⟩)), 0 + (iL1 + 1 - iL12) * 2, none⟩)) (.bool c21) (by cases c21 <;> rfl) (fun h => by obtain rfl := h; have q0 := (p21).1 rfl; exact WC.ix (k := .i64) (some ⟨b, 0, none⟩) (N) N (iL1 + 1 - iL12) 2 (by kernel_rfl) (by kernel_rfl) T_und32 T_size95 ((hAb.okN (N := N) (c := N) (fun _ _ => rfl) hLb (by omega) (by omega)).blkA rfl (zl ((Nat.lt_of_lt_of_eq (hlt22 rfl) hLb.symm)))) ((hlt22 rfl)) rfl) ?_
    obtain ⟨x23, hx24⟩ : ∃ el_, (c21) = true → (⟨.slice (some ⟨b, 0, none⟩) (N) N, Lb⟩ : SV RSpan).l[iL1 + 1 - iL12]? = some el_ := ⟨((⟨.slice (some ⟨b, 0, none⟩) (N) N, Lb⟩ : SV RSpan).l[iL1 + 1 - iL12]?).getD default, fun h => by rw [List.getElem?_eq_getElem (by obtain rfl : c21 = true := (by simpa using h); exact (Nat.lt_of_lt_of_eq (hlt22 rfl) hLb.symm))]; rfl⟩
    have hx24p := fun (a0 : ((0) < ((iL1 + 1 - iL12 : Nat) : Int))) => hx24 (by first | (rw [show c21 = true from (p21).2 a0]; rfl) | rw [show c21 = true from (p21).2 a0])
    refine ngc rfl 21 (c21) (.agg (encSpan x23).toArray) (.bool c21) (by cases c21 <;> rfl) (fun h => by obtain rfl := h; have q0 := (p21).1 rfl; exact WC.loadSE (blk (some ⟨b, 0, none⟩)) (0 + (iL1 + 1 - iL12) * 2) (encSpan x23) (by kernel_rfl) T_agg95 T_size95 ((hAb.okN (N := N) (c := N) (fun _ _ => rfl) hLb (by omega) (by omega)).blkB rfl (zl ((Nat.lt_of_lt_of_eq (hlt22 rfl) hLb.symm)))) (flat_at0 (hAb.okN (N := N) (c := N) (fun _ _ => rfl) hLb (by omega) (by omega)).1 (hx24 rfl)) rfl) ?_
    refine ng rfl 21 (c21) (.slice (some ⟨b, 0, none⟩) (N) N) (.bool c21) (by cases c21 <;> rfl) (fun h => by obtain rfl := h; exact fun _ _ _ => by kernel_rfl) ?_
    refine ng rfl 21 (c21) (.int .i64 (.ofNat (iL1 + 1 - iL12))) (.bool c21) (by cases c21 <;> rfl) (fun h => by obtain rfl := h; exact fun _ _ _ => by kernel_rfl) ?_
    refine ng rfl 21 (c21) (.int .i64 (.ofNat (iL1 + 1 - iL12 - 1))) (.bool c21) (by cases c21 <;> rfl) (fun h => by obtain rfl := h; have q0 := (p21).1 rfl; exact fun _ _ _ => by rw [← wrapSub (show iL1 + 1 - iL12 < 9223372036854775808 by omega) (by omega)]; kernel_rfl) ?_
    have hlt25 : (c21) = true → iL1 + 1 - iL12 - 1 < N := fun h => by obtain rfl : c21 = true := (by simpa using h); have q0 := (p21).1 rfl; omega
    refine ngc rfl 21 (c21) (.pointer (some ⟨(blk (some ⟨b, 0, none⟩)), 0 + (iL1 + 1 - iL12 - 1) * 2, none⟩)) (.bool c21) (by cases c21 <;> rfl) (fun h => by obtain rfl := h; have q0 := (p21).1 rfl; exact WC.ix (k := .i64) (some ⟨b, 0, none⟩) (N) N (iL1 + 1 - iL12 - 1) 2 (by kernel_rfl) (by kernel_rfl) T_und32 T_size95 ((hAb.okN (N := N) (c := N) (fun _ _ => rfl) hLb (by omega) (by omega)).blkA rfl (zl ((Nat.lt_of_lt_of_eq (hlt25 rfl) hLb.symm)))) ((hlt25 rfl)) rfl) ?_
    obtain ⟨x26, hx27⟩ : ∃ el_, (c21) = true → (⟨.slice (some ⟨b, 0, none⟩) (N) N, Lb⟩ : SV RSpan).l[iL1 + 1 - iL12 - 1]? = some el_ := ⟨((⟨.slice (some ⟨b, 0, none⟩) (N) N, Lb⟩ : SV RSpan).l[iL1 + 1 - iL12 - 1]?).getD default, fun h => by rw [List.getElem?_eq_getElem (by obtain rfl : c21 = true := (by simpa using h); exact (Nat.lt_of_lt_of_eq (hlt25 rfl) hLb.symm))]; rfl⟩
    have hx27p := fun (a0 : ((0) < ((iL1 + 1 - iL12 : Nat) : Int))) => hx27 (by first | (rw [show c21 = true from (p21).2 a0]; rfl) | rw [show c21 = true from (p21).2 a0])
    refine ngc rfl 21 (c21) (.agg (encSpan x26).toArray) (.bool c21) (by cases c21 <;> rfl) (fun h => by obtain rfl := h; have q0 := (p21).1 rfl; exact WC.loadSE (blk (some ⟨b, 0, none⟩)) (0 + (iL1 + 1 - iL12 - 1) * 2) (encSpan x26) (by kernel_rfl) T_agg95 T_size95 ((hAb.okN (N := N) (c := N) (fun _ _ => rfl) hLb (by omega) (by omega)).blkB rfl (zl ((Nat.lt_of_lt_of_eq (hlt25 rfl) hLb.symm)))) (flat_at0 (hAb.okN (N := N) (c := N) (fun _ _ => rfl) hLb (by omega) (by omega)).1 (hx27 rfl)) rfl) ?_
    refine WN.nil ⟨?_, ?_⟩
    ·
     refine cv (.int .i64 (.ofNat (iL1 + 1 - iL12))) (vEq_int ..) ?_
     refine cv (.int .i64 (0)) (vEq_int ..) ?_
     refine cv (.bool c21) (vEq_bool 8 c21) ?_ (fun _ => by subst e21; kernel_rfl)
     refine cv (.bool c21) (vEq_bool 8 c21) ?_
     refine cg rfl 21 (c21) (.func (.func f) #[] bf) (.bool c21) (by cases c21 <;> rfl) (fun h => by obtain rfl := h; exact chkV1 (.func (.func f) #[] bf) (fun _ => by kernel_rfl) hvq) ?_
     refine cg rfl 21 (c21) (.slice (some ⟨b, 0, none⟩) (N) N) (.bool c21) (by cases c21 <;> rfl) (fun h => by obtain rfl := h; exact chkV1 (.slice (some ⟨b, 0, none⟩) (N) N) (fun _ => by kernel_rfl) (vEq_sl ..)) ?_
     refine cg rfl 21 (c21) (.int .i64 (.ofNat (iL1 + 1 - iL12))) (.bool c21) (by cases c21 <;> rfl) (fun h => by obtain rfl := h; exact chkV1 (.int .i64 (.ofNat (iL1 + 1 - iL12))) (fun _ => by kernel_rfl) (vEq_int ..)) ?_
     refine cg rfl 21 (c21) (.pointer (some ⟨(blk (some ⟨b, 0, none⟩)), 0 + (iL1 + 1 - iL12) * 2, none⟩)) (.bool c21) (by cases c21 <;> rfl) (fun h => by obtain rfl := h; have q0 := (p21).1 rfl; exact chkO1 (.pointer (some ⟨(blk (some ⟨b, 0, none⟩)), 0 + (iL1 + 1 - iL12) * 2, none⟩)) (eIndexAddr ex.T 32 (.slice (some ⟨b, 0, none⟩) (N) N) (.int .i64 (.ofNat (iL1 + 1 - iL12)))) (fun _ => by kernel_rfl) (eIndexAddr_A (k := .i64) T_und32 T_size95 ((hAb.okN (N := N) (c := N) (fun _ _ => rfl) hLb (by omega) (by omega)).blkA rfl (zl ((Nat.lt_of_lt_of_eq (hlt22 rfl) hLb.symm)))) ((hlt22 rfl))) (vEq_ptr ..)) ?_
     refine cg rfl 21 (c21) (.agg (encSpan x23).toArray) (.bool c21) (by cases c21 <;> rfl) (fun h => by obtain rfl := h; have q0 := (p21).1 rfl; exact chkO1 (.agg (encSpan x23).toArray) (eLoad ex.T hp14.get 95 (.pointer (some ⟨(blk (some ⟨b, 0, none⟩)), 0 + (iL1 + 1 - iL12) * 2, none⟩))) (fun _ => by kernel_rfl) (eLoad_aggE T_agg95 T_size95 ((hAb.okN (N := N) (c := N) (fun _ _ => rfl) hLb (by omega) (by omega)).blkB rfl (zl ((Nat.lt_of_lt_of_eq (hlt22 rfl) hLb.symm)))) (flat_at0 (hAb.okN (N := N) (c := N) (fun _ _ => rfl) hLb (by omega) (by omega)).1 (hx24 rfl))) (encSpan_vEq x23)) ?_
     refine cg rfl 21 (c21) (.slice (some ⟨b, 0, none⟩) (N) N) (.bool c21) (by cases c21 <;> rfl) (fun h => by obtain rfl := h; exact chkV1 (.slice (some ⟨b, 0, none⟩) (N) N) (fun _ => by kernel_rfl) (vEq_sl ..)) ?_
     refine cg rfl 21 (c21) (.int .i64 (.ofNat (iL1 + 1 - iL12))) (.bool c21) (by cases c21 <;> rfl) (fun h => by obtain rfl := h; exact chkV1 (.int .i64 (.ofNat (iL1 + 1 - iL12))) (fun _ => by kernel_rfl) (vEq_int ..)) ?_
     refine cg rfl 21 (c21) (.int .i64 (.ofNat (iL1 + 1 - iL12 - 1))) (.bool c21) (by cases c21 <;> rfl) (fun h => by obtain rfl := h; have q0 := (p21).1 rfl; exact chkV1 (.int .i64 (.ofNat (iL1 + 1 - iL12 - 1))) (fun _ => by rw [← wrapSub (show iL1 + 1 - iL12 < 9223372036854775808 by omega) (by omega)]; kernel_rfl) (vEq_int ..)) ?_
     refine cg rfl 21 (c21) (.pointer (some ⟨(blk (some ⟨b, 0, none⟩)), 0 + (iL1 + 1 - iL12 - 1) * 2, none⟩)) (.bool c21) (by cases c21 <;> rfl) (fun h => by obtain rfl := h; have q0 := (p21).1 rfl; exact chkO1 (.pointer (some ⟨(blk (some ⟨b, 0, none⟩)), 0 + (iL1 + 1 - iL12 - 1) * 2, none⟩)) (eIndexAddr ex.T 32 (.slice (some ⟨b, 0, none⟩) (N) N) (.int .i64 (.ofNat (iL1 + 1 - iL12 - 1)))) (fun _ => by kernel_rfl) (eIndexAddr_A (k := .i64) T_und32 T_size95 ((hAb.okN (N := N) (c := N) (fun _ _ => rfl) hLb (by omega) (by omega)).blkA rfl (zl ((Nat.lt_of_lt_of_eq (hlt25 rfl) hLb.symm)))) ((hlt25 rfl))) (vEq_ptr ..)) ?_
     refine cg rfl 21 (c21) (.agg (encSpan x26).toArray) (.bool c21) (by cases c21 <;> rfl) (fun h => by obtain rfl := h; have q0 := (p21).1 rfl; exact chkO1 (.agg (encSpan x26).toArray) (eLoad ex.T hp14.get 95 (.pointer (some ⟨(blk (some ⟨b, 0, none⟩)), 0 + (iL1 + 1 - iL12 - 1) * 2, none⟩))) (fun _ => by kernel_rfl) (eLoad_aggE T_agg95 T_size95 ((hAb.okN (N := N) (c := N) (fun _ _ => rfl) hLb (by omega) (by omega)).blkB rfl (zl ((Nat.lt_of_lt_of_eq (hlt25 rfl) hLb.symm)))) (flat_at0 (hAb.okN (N := N) (c := N) (fun _ _ => rfl) hLb (by omega) (by omega)).1 (hx27 rfl))) (encSpan_vEq x26)) ?_
     exact Chks.nil
    refine WC.at rfl (WC.gq (c21) (GZ (c21) (nx15) hp14) (.bool c21) (g := opd (.tmp 21)) rfl (by kernel_rfl) (by cases c21 <;> rfl) (fun h => by obtain rfl : c21 = true := (by simpa using h); have q0 := (p21).1 rfl; exact WC.call 32 f ((.agg (encSpan x23).toArray) :: (.agg (encSpan x26).toArray) :: bf.toList) (fun _ _ _ => by kernel_rfl) ((hf x23 x26 hp14 (nx15) le20 he18).mono fun v hp' nx' ⟨⟨c, hv⟩, hn, he⟩ => ⟨_, _, _, rfl, ⟨c, hv⟩, hn, he⟩)) (fun h => GZ.off h) ?_)
    rintro _ hp28 nx29 ⟨⟨z32, rfl⟩, hn30, he31⟩
    have hE33 := he18.trans he31 le20
    have rl34 := Nat.le_trans rl19 hn30
    have rl35 := Nat.le_trans hn17 hn30
    have hG37 := hAb.mono he31 hn30
    refine WD.last ?_
    obtain ⟨c38, e38, p38⟩ := @nb (ltI (z32) (0)) ((z32) < (0)) (ltI_iff)
    refine ng rfl 21 (c21) (.bool c38) (.bool c21) (by cases c21 <;> rfl) (fun h => by obtain rfl := h; exact fun _ _ _ => by subst e38; kernel_rfl) ?_
    obtain ⟨c39, e39, p39⟩ := @nb ((c21 && c38)) (((0) < ((iL1 + 1 - iL12 : Nat) : Int)) ∧ ((z32) < (0))) (by rw [Bool.and_eq_true, p21, p38])
    refine WN.consAt rfl (WC.opt (v := .bool c39) 34 (ePick (.bool c21) ((bif c21 then .bool c38 else undef)) (.bool false)) (fun _ _ _ => by kernel_rfl) (by rw [e39]; exact ePick_and (fun h => by obtain rfl : c21 = true := h; rfl)) ?_)
    refine WN.nil ⟨?_, ?_⟩
    ·
     refine cg rfl 21 (c21) (.bool c38) (.bool c21) (by cases c21 <;> rfl) (fun h => by obtain rfl := h; exact chkV1 (.bool c38) (fun _ => by subst e38; kernel_rfl) (vEq_bool 8 c38)) ?_
     refine co (.bool c39) (ePick (.bool c21) ((bif c21 then .bool c38 else undef)) (.bool false)) ((by rw [e39]; exact ePick_and (fun h => by obtain rfl : c21 = true := h; rfl))) (vEq_bool 8 c39) ?_
     exact Chks.nil
    refine WP.cond c39 (by kernel_rfl) (fun h40 => ?_) (fun h40 => ?_)
    ·
     have q41 := (p39).1 h40
     refine WP.skip ?_
     refine WP.seq ?_
     refine WP.block ?_
     refine WP.drawS [⟨[0, 1, 2, 3, 4, 5, 6, 7, 8, 9, 10, 11, 12, 13, 14], [0, 1, 2, 3, 4, 5, 6, 7, 8, 9, 10, 11, 12, 13, 14], some 15⟩, ⟨[16], [2, 3, 4, 16], some 17⟩, ⟨[], [], none⟩] (by kernel_rfl) _ rfl ?_
     refine WD.eff ?_
     refine nv 37 (.slice (some ⟨b, 0, none⟩) (N) N) ?_
     refine nv 38 (.int .i64 (.ofNat (iL1 + 1 - iL12))) ?_
     refine nv 39 (.slice (some ⟨b, 0, none⟩) (N) N) ?_
     refine nv 40 (.int .i64 (.ofNat (iL1 + 1 - iL12))) ?_
     refine nv 41 (.int .i64 (.ofNat (iL1 + 1 - iL12 - 1))) ?_ (fun _ _ _ => by rw [← wrapSub (show iL1 + 1 - iL12 < 9223372036854775808 by omega) (by omega)]; kernel_rfl)
     refine nv 42 (.slice (some ⟨b, 0, none⟩) (N) N) ?_
     refine nv 43 (.int .i64 (.ofNat (iL1 + 1 - iL12))) ?_
     refine nv 44 (.int .i64 (.ofNat (iL1 + 1 - iL12 - 1))) ?_ (fun _ _ _ => by rw [← wrapSub (show iL1 + 1 - iL12 < 9223372036854775808 by omega) (by omega)]; kernel_rfl)
     have hlt42 : iL1 + 1 - iL12 - 1 < N := by omega
     refine WN.consAt rfl (WC.ix (k := .i64) (some ⟨b, 0, none⟩) (N) N (iL1 + 1 - iL12 - 1) 2 (by kernel_rfl) (by kernel_rfl) T_und32 T_size95 ((hG37.okN (N := N) (c := N) (fun _ _ => rfl) hLb (by omega) (by omega)).blkA rfl (zl ((Nat.lt_of_lt_of_eq hlt42 hLb.symm)))) (hlt42) ?_)
     obtain ⟨x43, hx44⟩ : ∃ el_, (⟨.slice (some ⟨b, 0, none⟩) (N) N, Lb⟩ : SV RSpan).l[iL1 + 1 - iL12 - 1]? = some el_ := ⟨_, List.getElem?_eq_getElem ((Nat.lt_of_lt_of_eq hlt42 hLb.symm))⟩
     refine WN.consAt rfl (WC.loadSE (blk (some ⟨b, 0, none⟩)) (0 + (iL1 + 1 - iL12 - 1) * 2) (encSpan x43) (by kernel_rfl) T_agg95 T_size95 ((hG37.okN (N := N) (c := N) (fun _ _ => rfl) hLb (by omega) (by omega)).blkB rfl (zl ((Nat.lt_of_lt_of_eq hlt42 hLb.symm)))) (flat_at0 (hG37.okN (N := N) (c := N) (fun _ _ => rfl) hLb (by omega) (by omega)).1 hx44) ?_)
     refine nv 47 (.slice (some ⟨b, 0, none⟩) (N) N) ?_
     refine nv 48 (.int .i64 (.ofNat (iL1 + 1 - iL12))) ?_
     have hlt45 : iL1 + 1 - iL12 < N := by omega
     refine WN.consAt rfl (WC.ix (k := .i64) (some ⟨b, 0, none⟩) (N) N (iL1 + 1 - iL12) 2 (by kernel_rfl) (by kernel_rfl) T_und32 T_size95 ((hG37.okN (N := N) (c := N) (fun _ _ => rfl) hLb (by omega) (by omega)).blkA rfl (zl ((Nat.lt_of_lt_of_eq hlt45 hLb.symm)))) (hlt45) ?_)
     obtain ⟨x46, hx47⟩ : ∃ el_, (⟨.slice (some ⟨b, 0, none⟩) (N) N, Lb⟩ : SV RSpan).l[iL1 + 1 - iL12]? = some el_ := ⟨_, List.getElem?_eq_getElem ((Nat.lt_of_lt_of_eq hlt45 hLb.symm))⟩
     refine WN.consAt rfl (WC.loadSE (blk (some ⟨b, 0, none⟩)) (0 + (iL1 + 1 - iL12) * 2) (encSpan x46) (by kernel_rfl) T_agg95 T_size95 ((hG37.okN (N := N) (c := N) (fun _ _ => rfl) hLb (by omega) (by omega)).blkB rfl (zl ((Nat.lt_of_lt_of_eq hlt45 hLb.symm)))) (flat_at0 (hG37.okN (N := N) (c := N) (fun _ _ => rfl) hLb (by omega) (by omega)).1 hx47) ?_)
     have hlt48 : iL1 + 1 - iL12 < N := by omega
     refine WN.consAt rfl (WC.ix (k := .i64) (some ⟨b, 0, none⟩) (N) N (iL1 + 1 - iL12) 2 (by kernel_rfl) (by kernel_rfl) T_und32 T_size95 ((hG37.okN (N := N) (c := N) (fun _ _ => rfl) hLb (by omega) (by omega)).blkA rfl (zl ((Nat.lt_of_lt_of_eq hlt48 hLb.symm)))) (hlt48) ?_)
     refine WN.nil ⟨?_, ?_⟩
     ·
      refine cv (.slice (some ⟨b, 0, none⟩) (N) N) (vEq_sl ..) ?_
      refine cv (.int .i64 (.ofNat (iL1 + 1 - iL12))) (vEq_int ..) ?_
      refine cv (.slice (some ⟨b, 0, none⟩) (N) N) (vEq_sl ..) ?_
      refine cv (.int .i64 (.ofNat (iL1 + 1 - iL12))) (vEq_int ..) ?_
      refine cv (.int .i64 (.ofNat (iL1 + 1 - iL12 - 1))) (vEq_int ..) ?_ (fun _ => by rw [← wrapSub (show iL1 + 1 - iL12 < 9223372036854775808 by omega) (by omega)]; kernel_rfl)
      refine cv (.slice (some ⟨b, 0, none⟩) (N) N) (vEq_sl ..) ?_
      refine cv (.int .i64 (.ofNat (iL1 + 1 - iL12))) (vEq_int ..) ?_
      refine cv (.int .i64 (.ofNat (iL1 + 1 - iL12 - 1))) (vEq_int ..) ?_ (fun _ => by rw [← wrapSub (show iL1 + 1 - iL12 < 9223372036854775808 by omega) (by omega)]; kernel_rfl)
      refine co (.pointer (some ⟨(blk (some ⟨b, 0, none⟩)), 0 + (iL1 + 1 - iL12 - 1) * 2, none⟩)) (eIndexAddr ex.T 32 (.slice (some ⟨b, 0, none⟩) (N) N) (.int .i64 (.ofNat (iL1 + 1 - iL12 - 1)))) (eIndexAddr_A (k := .i64) T_und32 T_size95 ((hG37.okN (N := N) (c := N) (fun _ _ => rfl) hLb (by omega) (by omega)).blkA rfl (zl ((Nat.lt_of_lt_of_eq hlt42 hLb.symm)))) (hlt42)) (vEq_ptr ..) ?_
      refine co (.agg (encSpan x43).toArray) (eLoad ex.T hp28.get 95 (.pointer (some ⟨(blk (some ⟨b, 0, none⟩)), 0 + (iL1 + 1 - iL12 - 1) * 2, none⟩))) (eLoad_aggE T_agg95 T_size95 ((hG37.okN (N := N) (c := N) (fun _ _ => rfl) hLb (by omega) (by omega)).blkB rfl (zl ((Nat.lt_of_lt_of_eq hlt42 hLb.symm)))) (flat_at0 (hG37.okN (N := N) (c := N) (fun _ _ => rfl) hLb (by omega) (by omega)).1 hx44)) (encSpan_vEq x43) ?_
      refine cv (.slice (some ⟨b, 0, none⟩) (N) N) (vEq_sl ..) ?_
      refine cv (.int .i64 (.ofNat (iL1 + 1 - iL12))) (vEq_int ..) ?_
      refine co (.pointer (some ⟨(blk (some ⟨b, 0, none⟩)), 0 + (iL1 + 1 - iL12) * 2, none⟩)) (eIndexAddr ex.T 32 (.slice (some ⟨b, 0, none⟩) (N) N) (.int .i64 (.ofNat (iL1 + 1 - iL12)))) (eIndexAddr_A (k := .i64) T_und32 T_size95 ((hG37.okN (N := N) (c := N) (fun _ _ => rfl) hLb (by omega) (by omega)).blkA rfl (zl ((Nat.lt_of_lt_of_eq hlt45 hLb.symm)))) (hlt45)) (vEq_ptr ..) ?_
      refine co (.agg (encSpan x46).toArray) (eLoad ex.T hp28.get 95 (.pointer (some ⟨(blk (some ⟨b, 0, none⟩)), 0 + (iL1 + 1 - iL12) * 2, none⟩))) (eLoad_aggE T_agg95 T_size95 ((hG37.okN (N := N) (c := N) (fun _ _ => rfl) hLb (by omega) (by omega)).blkB rfl (zl ((Nat.lt_of_lt_of_eq hlt45 hLb.symm)))) (flat_at0 (hG37.okN (N := N) (c := N) (fun _ _ => rfl) hLb (by omega) (by omega)).1 hx47)) (encSpan_vEq x46) ?_
      refine co (.pointer (some ⟨(blk (some ⟨b, 0, none⟩)), 0 + (iL1 + 1 - iL12) * 2, none⟩)) (eIndexAddr ex.T 32 (.slice (some ⟨b, 0, none⟩) (N) N) (.int .i64 (.ofNat (iL1 + 1 - iL12)))) (eIndexAddr_A (k := .i64) T_und32 T_size95 ((hG37.okN (N := N) (c := N) (fun _ _ => rfl) hLb (by omega) (by omega)).blkA rfl (zl ((Nat.lt_of_lt_of_eq hlt48 hLb.symm)))) (hlt48)) (vEq_ptr ..) ?_
      exact Chks.nil
     refine WC.at rfl (WC.storeA (.agg (encSpan x43).toArray) x43 rfl (by kernel_rfl) (by kernel_rfl) hG37 (fun _ _ => rfl) (Nat.lt_of_lt_of_eq hlt48 hLb.symm) T_size95 rfl rfl rfl ?_)
     rintro hp49 hA50 he51
     have hE52 := hE33.trans he51 (by omega)
     obtain ⟨L53, hL53⟩ : ∃ L', L' = Lb.set (iL1 + 1 - iL12) x43 := ⟨_, rfl⟩
     rw [← hL53] at hA50
     have hl54 : L53.length = N := by rw [hL53, List.length_set]; exact hLb
     refine WD.eff ?_
     have hlt55 : iL1 + 1 - iL12 - 1 < N := by omega
     refine WN.consAt rfl (WC.ix (k := .i64) (some ⟨b, 0, none⟩) (N) N (iL1 + 1 - iL12 - 1) 2 (by kernel_rfl) (by kernel_rfl) T_und32 T_size95 ((hA50.okN (N := N) (c := N) (fun _ _ => rfl) hl54 (by omega) (by omega)).blkA rfl (zl ((Nat.lt_of_lt_of_eq hlt55 hl54.symm)))) (hlt55) ?_)
     refine WN.nil ⟨?_, ?_⟩
     ·
      refine cv (.slice (some ⟨b, 0, none⟩) (N) N) (vEq_sl ..) ?_
      refine cv (.int .i64 (.ofNat (iL1 + 1 - iL12))) (vEq_int ..) ?_
      refine cv (.int .i64 (.ofNat (iL1 + 1 - iL12 - 1))) (vEq_int ..) ?_ (fun _ => by rw [← wrapSub (show iL1 + 1 - iL12 < 9223372036854775808 by omega) (by omega)]; kernel_rfl)
      refine co (.pointer (some ⟨(blk (some ⟨b, 0, none⟩)), 0 + (iL1 + 1 - iL12 - 1) * 2, none⟩)) (eIndexAddr ex.T 32 (.slice (some ⟨b, 0, none⟩) (N) N) (.int .i64 (.ofNat (iL1 + 1 - iL12 - 1)))) (eIndexAddr_A (k := .i64) T_und32 T_size95 ((hA50.okN (N := N) (c := N) (fun _ _ => rfl) hl54 (by omega) (by omega)).blkA rfl (zl ((Nat.lt_of_lt_of_eq hlt55 hl54.symm)))) (hlt55)) (vEq_ptr ..) ?_
      exact Chks.nil
     refine WC.at rfl (WC.storeA (.agg (encSpan x46).toArray) x46 rfl (by kernel_rfl) (by kernel_rfl) hA50 (fun _ _ => rfl) (Nat.lt_of_lt_of_eq hlt55 hl54.symm) T_size95 rfl rfl rfl ?_)
     rintro hp56 hA57 he58
     have hE59 := hE52.trans he58 (by omega)
     obtain ⟨L60, hL60⟩ : ∃ L', L' = L53.set (iL1 + 1 - iL12 - 1) x46 := ⟨_, rfl⟩
     rw [← hL60] at hA57
     have hl61 : L60.length = N := by rw [hL60, List.length_set]; exact hl54
     refine WD.last ?_
     refine WN.nil ⟨?_, ?_⟩
     ·
      exact Chks.nil
     refine WP.region ?_
     refine ov 35 (.int .i64 (.ofNat (iL1 + 1 - iL12))) ?_
     refine ov 36 (.int .i64 (.ofNat (iL1 + 1 - iL12 - 1))) ?_ (fun _ _ _ => by rw [← wrapSub (show iL1 + 1 - iL12 < 9223372036854775808 by omega) (by omega)]; kernel_rfl)
     refine ov 9 (.int .i64 (.ofNat (iL1 + 1 - iL12 - 1))) ?_
     refine WO.nil ?_
     refine ⟨(iL1 + 1) - (iL12 + 1), by omega, iL12 + 1, L60, by omega, by kernel_rfl, by kernel_rfl, by kernel_rfl, by kernel_rfl, by kernel_rfl, by kernel_rfl, rfl, rfl, ?_, ?_, ?_, ?_, ?_⟩
     · exact rl35
     · exact hE59
     · exact hl61
     · exact hA57
     · omega
    ·
     have q41 := nq p39 h40
     refine WP.exit ?_
     refine WP.region ?_
     refine ov 15 (.int .i64 (.ofNat (iL1 + 1))) ?_
     refine ov 16 (.int .i64 (.ofNat (iL1 + 1 + 1))) ?_ (fun _ _ _ => by rw [← wrapAdd (show iL1 + 1 + 1 < 9223372036854775808 by omega)]; kernel_rfl)
     refine ov 8 (.int .i64 (.ofNat (iL1 + 1 + 1))) ?_
     refine WO.nil ?_
     refine ⟨N - (iL1 + 1), by omega, iL1 + 1, Lb, by omega, by kernel_rfl, by kernel_rfl, by kernel_rfl, by kernel_rfl, by kernel_rfl, rfl, rfl, ?_, ?_, ?_, ?_, ?_⟩
     · exact rl34
     · exact hE33
     · exact hLb
     · exact hG37
     · omega
   ·
    exact ⟨0, La, by omega, by kernel_rfl, by kernel_rfl, by kernel_rfl, by kernel_rfl, by kernel_rfl, by kernel_rfl, rfl, rfl, Nat.le_refl _, he7, hLa, hAa, (show nx1 ≤ nx4 by omega)⟩
  ·
   have q11 := nq p9 h10
   refine WP.exit ?_
   refine ⟨rfl, rfl, [], by kernel_rfl, ?_⟩
   exact ⟨⟨La, hLa, hAa⟩, (show nx1 ≤ nx4 by omega), he7⟩
 ·
  exact ⟨0, L, by omega, by kernel_rfl, by kernel_rfl, by kernel_rfl, by kernel_rfl, by kernel_rfl, rfl, rfl, Nat.le_refl _, he1, hL, hA, (show nx1 ≤ nx1 by omega)⟩
end
end Sw

namespace Sw
noncomputable section
open Go Go.RowKit
theorem WP.once {e : Env} {fm : Fm} {b : Code} {s : St} {W : Nat → St → Prop} (h : WP e fm b s fun o s1 => match o with
    | 0 => False
    | o + 1 => W (o + 1) s1) : WP e fm (.loop b) s W :=
  .loop (fun m s' => m = 0 ∧ WP e fm b s' fun o s1 => match o with
    | 0 => False
    | o + 1 => W (o + 1) s1) (fun m s' ⟨_, h⟩ => h.mono fun o s1 k => by
      cases o with
      | zero => exact k.elim
      | succ o => exact k) 0 ⟨rfl, h⟩
theorem WP.rangeV {e : Env} {to : Tm} {ds : List Deferred} {hp : Ht} {nx : Nat} {cs0 : List Nat} {fn : FuncId} {nt : Nat} {f : Operand} {params : Array Tmp} {assign body : Code} {W : Nat → St → Prop} (fv : Value) (hf : (opd f).run to = fv)
    (h : WV e fv [.func (.yield (nx + 1)) #[] #[]] ((hp.set nx (some (.deferred (some [])))).set (nx + 1) (some (.loop ⟨.ready, none, fn, to, nt, params.toList, assign, body, nx⟩))) (nx + 1 + 1)
      fun _ hp' nx' => ∃ r o, hp'.get (nx + 1) = some (.loop r) ∧ r.state ≠ .busy ∧ outOf r.pending = some o ∧ W o ⟨to, ⟨.collected nx, #[]⟩ :: ds, hp'.set (nx + 1) (some (.loop { r with state := .exhausted })), nx', cs0⟩) :
    WP e ⟨fn, nt, none⟩ (.rangeFunc f params assign body) ⟨to, ds, hp, nx, cs0⟩ W := by
  subst hf; exact .rangeFunc h
theorem WP.rangeR {e : Env} {to : Tm} {ds : List Deferred} {hp : Ht} {nx : Nat} {cs0 : List Nat} {fn : FuncId} {nt : Nat} {f : Operand} {params : Array Tmp} {assign body : Code} {W : Nat → St → Prop} (fv : Value) (hf : (opd f).run to = fv)
    (h : ∀ r, r = ⟨.ready, none, fn, to, nt, params.toList, assign, body, nx⟩ → WV e fv [.func (.yield (nx + 1)) #[] #[]] ((hp.set nx (some (.deferred (some [])))).set (nx + 1) (some (.loop r))) (nx + 1 + 1)
      fun _ hp' nx' => ∃ r o, hp'.get (nx + 1) = some (.loop r) ∧ r.state ≠ .busy ∧ outOf r.pending = some o ∧ W o ⟨to, ⟨.collected nx, #[]⟩ :: ds, hp'.set (nx + 1) (some (.loop { r with state := .exhausted })), nx', cs0⟩) :
    WP e ⟨fn, nt, none⟩ (.rangeFunc f params assign body) ⟨to, ds, hp, nx, cs0⟩ W := .rangeV fv hf (h _ rfl)
theorem WV.round {e : Env} {hp : Ht} {nx : Nat} {A : Value → Ht → Nat → Prop} {l : Nat} {r : _} {a b : Array Value} {asg : List Value} (t : Tm) (hl : hp.get l = some (.loop r)) (h0 : e.low = 0) (hs : r.state = .ready) (ht : setParams r.params asg r.tmps = some t)
    (h : WP e ⟨r.fn, r.nt, some l⟩ r.assign ⟨t, [], hp, nx, []⟩ fun o s1 => Nat.beq o 0 = true ∧ s1.hp.get l = some (.loop r) ∧ ∀ hpB : Ht, hpB.get l = some (.loop { r with state := .busy }) → (∀ c, c ≠ l → hpB.get c = s1.hp.get c) →
      WP e ⟨r.fn, r.nt, some l⟩ r.body ⟨s1.to, s1.ds, hpB, s1.nx, []⟩ fun o2 s2 => s2.ds = [] ∧ s2.hp.get l = some (.loop { r with state := .busy }) ∧ ∀ hpC : Ht, hpC.get l = some (.loop { r with state := (bif Nat.beq o2 0 then .ready else .done), pending := jumpOf o2 }) → (∀ c, c ≠ l → hpC.get c = s2.hp.get c) → A (.bool (Nat.beq o2 0)) hpC s2.nx) : WV e (.func (.yield l) a b) asg hp nx A := by
  refine WV.yield hl h0 ht (h.mono fun o s1 ⟨k1, k2, k3⟩ => ⟨k1, r, k2, hs, (k3 _ (Tr.get_same ..) (fun c hc => Tr.get_other _ _ hc)).mono fun o2 s2 ⟨q1, q2, q3⟩ => ⟨q1, _, q2, q3 _ (Tr.get_same ..) (fun c hc => Tr.get_other _ _ hc)⟩⟩)
section
variable {α : Type} {enc : α → List Value} {n B b gr : Nat} {hp hp' : Ht} {nx nx' : Nat} {L : List α} {J : SV α}
theorem Arr.above (h : Arr enc n B b gr hp nx L) (he : ∀ c, B ≤ c → hp'.get c = hp.get c) : Arr enc n B b gr hp' nx L := by
  obtain ⟨h1, ⟨ms, h2, h3⟩, h4, h5, h6, h7⟩ := h
  refine ⟨(he _ h5).trans h1, ⟨ms, (he _ h7).trans h2, fun e hm => ?_⟩, h4, h5, h6, h7⟩
  obtain ⟨k1, k2, k3, k4, k5⟩ := h3 e hm
  exact ⟨k1, k2, k3, k4, fun l hl => k5 l (by rw [← he e.blk k2]; exact hl)⟩
theorem GroA.above (h : GroA enc n B hp nx J) (he : ∀ c, B ≤ c → hp'.get c = hp.get c) : GroA enc n B hp' nx J := by
  rcases h with h | ⟨h0, b, gr, h1, h2⟩
  · exact .inl h
  · exact .inr ⟨h0, b, gr, h1, h2.above he⟩
theorem Arr.low {B' : Nat} (h : Arr enc n B b gr hp nx L) (hB : B' ≤ B) : Arr enc n B' b gr hp nx L := by
  obtain ⟨h1, ⟨ms, h2, h3⟩, h4, h5, h6, h7⟩ := h
  exact ⟨h1, ⟨ms, h2, fun e hm => by obtain ⟨k1, k2, k⟩ := h3 e hm; exact ⟨k1, by omega, k⟩⟩, h4, by omega, h6, by omega⟩
theorem GroA.low {B' : Nat} (h : GroA enc n B hp nx J) (hB : B' ≤ B) : GroA enc n B' hp nx J := by
  rcases h with h | ⟨h0, b, gr, h1, h2⟩
  · exact .inl h
  · exact .inr ⟨h0, b, gr, h1, h2.low hB⟩
end
end
end Sw

namespace Sw
noncomputable section
open Go Go.Proofs Go.RowKit
set_option maxRecDepth 100000
set_option maxHeartbeats 1600000
theorem wrapU64 {n : Nat} (h : n < 9223372036854775808) : wrapE .u64 (.ofNat n) = .ofNat n := by
 have h1 : resK .u64 (.ofNat n) = n := Nat.mod_eq_of_lt (show n < 18446744073709551616 by omega)
 have h2 : Nat.ble 18446744073709551616 n = false := by
  cases hb : Nat.ble 18446744073709551616 n with
  | false => rfl
  | true => have := Nat.le_of_ble_eq_true hb; omega
 unfold wrapE
 rw [h1]
 unfold signK
 rw [show halfK .u64 = 18446744073709551616 from rfl, h2]; rfl
theorem bitsLen_wf (n : Nat) (hn : n ≤ 12) (hp : Ht) (nx : Nat) : WF ex 200 [.int .u64 (.ofNat n)] hp nx (Stays nx hp AnyI) := by
 match n, hn with
 | 0, _ => exact ⟨.int .i64 0, hp, nx, ⟨100, fun n hn cs k => by obtain ⟨q, rfl⟩ : ∃ q, n = q + 100 := ⟨n - 100, by omega⟩; kernel_rfl⟩, ⟨_, rfl⟩, Nat.le_refl _, HE.refl _ _⟩
 | 1, _ => exact ⟨.int .i64 1, hp, nx, ⟨100, fun n hn cs k => by obtain ⟨q, rfl⟩ : ∃ q, n = q + 100 := ⟨n - 100, by omega⟩; kernel_rfl⟩, ⟨_, rfl⟩, Nat.le_refl _, HE.refl _ _⟩
 | 2, _ => exact ⟨.int .i64 2, hp, nx, ⟨100, fun n hn cs k => by obtain ⟨q, rfl⟩ : ∃ q, n = q + 100 := ⟨n - 100, by omega⟩; kernel_rfl⟩, ⟨_, rfl⟩, Nat.le_refl _, HE.refl _ _⟩
 | 3, _ => exact ⟨.int .i64 2, hp, nx, ⟨100, fun n hn cs k => by obtain ⟨q, rfl⟩ : ∃ q, n = q + 100 := ⟨n - 100, by omega⟩; kernel_rfl⟩, ⟨_, rfl⟩, Nat.le_refl _, HE.refl _ _⟩
 | 4, _ => exact ⟨.int .i64 3, hp, nx, ⟨100, fun n hn cs k => by obtain ⟨q, rfl⟩ : ∃ q, n = q + 100 := ⟨n - 100, by omega⟩; kernel_rfl⟩, ⟨_, rfl⟩, Nat.le_refl _, HE.refl _ _⟩
 | 5, _ => exact ⟨.int .i64 3, hp, nx, ⟨100, fun n hn cs k => by obtain ⟨q, rfl⟩ : ∃ q, n = q + 100 := ⟨n - 100, by omega⟩; kernel_rfl⟩, ⟨_, rfl⟩, Nat.le_refl _, HE.refl _ _⟩
 | 6, _ => exact ⟨.int .i64 3, hp, nx, ⟨100, fun n hn cs k => by obtain ⟨q, rfl⟩ : ∃ q, n = q + 100 := ⟨n - 100, by omega⟩; kernel_rfl⟩, ⟨_, rfl⟩, Nat.le_refl _, HE.refl _ _⟩
 | 7, _ => exact ⟨.int .i64 3, hp, nx, ⟨100, fun n hn cs k => by obtain ⟨q, rfl⟩ : ∃ q, n = q + 100 := ⟨n - 100, by omega⟩; kernel_rfl⟩, ⟨_, rfl⟩, Nat.le_refl _, HE.refl _ _⟩
 | 8, _ => exact ⟨.int .i64 4, hp, nx, ⟨100, fun n hn cs k => by obtain ⟨q, rfl⟩ : ∃ q, n = q + 100 := ⟨n - 100, by omega⟩; kernel_rfl⟩, ⟨_, rfl⟩, Nat.le_refl _, HE.refl _ _⟩
 | 9, _ => exact ⟨.int .i64 4, hp, nx, ⟨100, fun n hn cs k => by obtain ⟨q, rfl⟩ : ∃ q, n = q + 100 := ⟨n - 100, by omega⟩; kernel_rfl⟩, ⟨_, rfl⟩, Nat.le_refl _, HE.refl _ _⟩
 | 10, _ => exact ⟨.int .i64 4, hp, nx, ⟨100, fun n hn cs k => by obtain ⟨q, rfl⟩ : ∃ q, n = q + 100 := ⟨n - 100, by omega⟩; kernel_rfl⟩, ⟨_, rfl⟩, Nat.le_refl _, HE.refl _ _⟩
 | 11, _ => exact ⟨.int .i64 4, hp, nx, ⟨100, fun n hn cs k => by obtain ⟨q, rfl⟩ : ∃ q, n = q + 100 := ⟨n - 100, by omega⟩; kernel_rfl⟩, ⟨_, rfl⟩, Nat.le_refl _, HE.refl _ _⟩
 | 12, _ => exact ⟨.int .i64 4, hp, nx, ⟨100, fun n hn cs k => by obtain ⟨q, rfl⟩ : ∃ q, n = q + 100 := ⟨n - 100, by omega⟩; kernel_rfl⟩, ⟨_, rfl⟩, Nat.le_refl _, HE.refl _ _⟩
 | n + 13, h => exact absurd h (by omega)
theorem pdq_wf (L : List RSpan) (N b gr : Nat) (hN : 0 < N) (hNs : N ≤ 12) (hL : L.length = N) (f : FuncId) (bf : Array Value) (lim : Int) (hp : Ht) (nx : Nat) (hp1 : Ht) (nx1 : Nat) (h1 : nx ≤ nx1) (he1 : HE nx hp hp1) (hA : Arr encSpan 2 nx b gr hp1 nx1 L) (hf : ∀ (x y : RSpan) (hp' : Ht) (nx' : Nat), nx ≤ nx' → HE nx hp hp' → WF ex f ((.agg (encSpan x).toArray) :: (.agg (encSpan y).toArray) :: bf.toList) hp' nx' (Stays nx' hp' AnyI)) (hvq : vEq 8 (.func (.func f) #[] bf) (.func (.func f) #[] bf) = true) : WF ex 264 [.slice (some ⟨b, 0, none⟩) (N) N, .int .i64 (0), .int .i64 (.ofNat N), .int .i64 (lim), .func (.func f) #[] bf] hp1 nx1 (fun _ hp' nx' => (∃ L', L'.length = N ∧ Arr encSpan 2 nx b gr hp' nx' L') ∧ nx1 ≤ nx' ∧ HE nx hp hp') := by
 refine WF.body (fi := ⟨Tryz.f264.body.getD .skip, 148, []⟩) (by kernel_rfl) (by kernel_rfl) (by kernel_rfl) rfl ?_
 refine sr ?_
 refine ov 10 (.bool true) ?_
 refine WO.nil ?_
 refine sr ?_
 refine ov 11 (.bool true) ?_
 refine WO.nil ?_
 refine WP.block ?_
 refine WP.once ?_
 refine WP.block ?_
 refine sr ?_
 refine ov 21 (.int .i64 (.ofNat N)) ?_
 refine ov 22 (.int .i64 (0)) ?_
 refine ov 23 (.int .i64 (.ofNat (N - 0))) ?_ (fun _ _ _ => by rw [← wrapSub (show N < 9223372036854775808 by omega) (by omega)]; kernel_rfl)
 refine ov 12 (.int .i64 (.ofNat (N - 0))) ?_
 refine WO.nil ?_
 refine WP.seq ?_
 refine sr ?_
 refine ov 24 (.int .i64 (.ofNat (N - 0))) ?_
 obtain ⟨c1, e1, p1⟩ := @nb (leI (.ofNat (N - 0)) (12)) (((N - 0 : Nat) : Int) ≤ (12)) (leI_iff)
 refine ov 25 (.bool c1) ?_ (fun _ _ _ => by subst e1; kernel_rfl)
 refine WO.nil ?_
 refine WP.cond c1 (by kernel_rfl) (fun h2 => ?_) (fun h2 => ?_)
 ·
  have q3 := (p1).1 h2
  refine sr ?_
  refine ov 26 (.slice (some ⟨b, 0, none⟩) (N) N) ?_
  refine ov 27 (.int .i64 (0)) ?_
  refine ov 28 (.int .i64 (.ofNat N)) ?_
  refine ov 29 (.func (.func f) #[] bf) ?_
  refine WO.cons (WC.call 30 338 ([.slice (some ⟨b, 0, none⟩) (N) N, .int .i64 (0), .int .i64 (.ofNat N), .func (.func f) #[] bf]) (fun _ _ _ => by (try rw [rfl]); kernel_rfl) ((isort_wf L N b gr hN (by omega) hL f bf hp nx hp1 (nx1) h1 he1 hA hf hvq).mono ?_))
  rintro _ hp4 nx5 ⟨⟨L8, hl9, hA10⟩, hn6, he7⟩
  have h111 := Nat.le_trans h1 hn6
  refine WO.nil ?_
  refine WP.ret ⟨rfl, rfl, [], by kernel_rfl, ?_⟩
  exact ⟨⟨L8, hl9, hA10⟩, (show nx1 ≤ nx5 by omega), he7⟩
 ·
  have q3 := nq p1 h2
  exact absurd q3 (by omega)
theorem sortFunc_wf (L : List RSpan) (N b gr : Nat) (hN : 0 < N) (hNs : N ≤ 12) (hL : L.length = N) (f : FuncId) (bf : Array Value) (hp : Ht) (nx : Nat) (hp1 : Ht) (nx1 : Nat) (h1 : nx ≤ nx1) (he1 : HE nx hp hp1) (hA : Arr encSpan 2 nx b gr hp1 nx1 L) (hf : ∀ (x y : RSpan) (hp' : Ht) (nx' : Nat), nx ≤ nx' → HE nx hp hp' → WF ex f ((.agg (encSpan x).toArray) :: (.agg (encSpan y).toArray) :: bf.toList) hp' nx' (Stays nx' hp' AnyI)) (hvq : vEq 8 (.func (.func f) #[] bf) (.func (.func f) #[] bf) = true) : WF ex 186 [.slice (some ⟨b, 0, none⟩) (N) N, .func (.func f) #[] bf] hp1 nx1 (fun _ hp' nx' => (∃ L', L'.length = N ∧ Arr encSpan 2 nx b gr hp' nx' L') ∧ nx1 ≤ nx' ∧ HE nx hp hp') := by
 refine WF.body (fi := ⟨Tryz.f186.body.getD .skip, 14, []⟩) (by kernel_rfl) (by kernel_rfl) (by kernel_rfl) rfl ?_
 refine sr ?_
 refine ov 5 (.slice (some ⟨b, 0, none⟩) (N) N) ?_
 refine ov 6 (.int .i64 (.ofNat (N))) ?_
 refine ov 4 (.int .i64 (.ofNat (N))) ?_
 refine WO.nil ?_
 refine WP.region ?_
 refine ov 7 (.slice (some ⟨b, 0, none⟩) (N) N) ?_
 refine ov 8 (.int .i64 (.ofNat (N))) ?_
 refine ov 9 (.int .i64 (.ofNat (N))) ?_
 refine ov 10 (.int .u64 (wrapE .u64 (.ofNat N))) ?_
 rw [wrapU64 (n := N) (by omega)]
 refine WO.cons (WC.call 11 200 ([.int .u64 (.ofNat N)]) (fun _ _ _ => by kernel_rfl) ((bitsLen_wf N (by omega) hp1 (nx1)).mono ?_))
 rintro _ hp1 nx2 ⟨⟨z5, rfl⟩, hn3, he4⟩
 have hE6 := he1.trans he4 h1
 have le7 := Nat.le_trans h1 hn3
 have hG8 := hA.mono he4 hn3
 refine ov 12 (.func (.func f) #[] bf) ?_
 refine WO.cons (WC.call 13 264 ([.slice (some ⟨b, 0, none⟩) (N) N, .int .i64 (0), .int .i64 (.ofNat (N)), .int .i64 (z5), .func (.func f) #[] bf]) (fun _ _ _ => by (try rw [rfl]); kernel_rfl) ((pdq_wf L N b gr hN (by omega) hL f bf (z5) hp nx hp1 (nx2) le7 hE6 hG8 hf hvq).mono ?_))
 rintro _ hp9 nx10 ⟨⟨L13, hl14, hA15⟩, hn11, he12⟩
 have h116 := Nat.le_trans le7 hn11
 refine WO.nil ?_
 refine ⟨rfl, rfl, [], by kernel_rfl, ?_⟩
 exact ⟨⟨L13, hl14, hA15⟩, (show nx1 ≤ nx10 by omega), he12⟩
end
end Sw

namespace Sw
noncomputable section
open Go Go.Proofs Go.RowKit
set_option maxRecDepth 100000
set_option maxHeartbeats 1600000
theorem values_wf (K : SV RSpan) (hp : Ht) (nx : Nat) (hK : SOk encSpan 2 hp nx K) : WF ex 88 [K.v] hp nx (fun v hp' nx' => ∃ bx, v = .func (.func 187) #[] #[.pointer (some ⟨bx, 0, none⟩)] ∧ hp'.get bx = some (.cells [K.v] CMeta.plain) ∧ bx < nx' ∧ nx ≤ nx' ∧ HE nx hp hp') := by
 obtain ⟨a1, c2, hv3⟩ := hK.shape
 have hsm3 := hK.2.2
 rw [hv3]
 refine WF.body (fi := ⟨Tryz.f88.body.getD .skip, 4, [.tmp 2]⟩) (by kernel_rfl) (by kernel_rfl) (by kernel_rfl) rfl ?_
 have hE := HE.refl nx hp
 refine sr ?_
 refine WO.cons (WC.box (.slice a1 (K.l.length) c2) [.slice a1 (K.l.length) c2] rfl (by kernel_rfl) rfl ?_)
 obtain ⟨hp5, hx6, he7, hb8⟩ := boxed hp (nx) [.slice a1 (K.l.length) c2]
 rw [hx6]; clear hx6
 have hE9 := hE.trans he7 (Nat.le_refl nx)
 have le10 := Nat.le_trans (Nat.le_refl nx) (Nat.le_succ (nx))
 refine ov 2 (.nilFunc) ?_
 refine WO.nil ?_
 refine sr ?_
 refine ov 3 (.func (.func 187) #[] #[.pointer (some ⟨nx, 0, none⟩)]) ?_
 refine ov 2 (.func (.func 187) #[] #[.pointer (some ⟨nx, 0, none⟩)]) ?_
 refine WO.nil ?_
 refine WP.ret ⟨rfl, rfl, [.func (.func 187) #[] #[.pointer (some ⟨nx, 0, none⟩)]], by kernel_rfl, ?_⟩
 exact ⟨_, rfl, hb8, (Nat.lt_succ_self (nx)), le10, hE9⟩
theorem valuesF_wf (K : SV RSpan) (y : Value) (bx : Nat) (Inv : Nat → Ht → Nat → Prop) (hp : Ht) (nx : Nat) (hK : SOk encSpan 2 hp nx K) (hbx : hp.get bx = some (.cells [K.v] CMeta.plain)) (hlt : bx < nx) (hp1 : Ht) (nx1 : Nat) (h1 : nx ≤ nx1) (he1 : HE nx hp hp1) (hI : Inv 0 hp1 nx1) (hm : ∀ i a b c d, Inv i a b → HE b a c → b ≤ d → Inv i c d) (hs : ∀ i x, K.l[i]? = some x → ∀ a b, nx1 ≤ b → HE nx hp a → Inv i a b → WV ex y [.agg (encSpan x).toArray] a b (fun v c d => v = .bool true ∧ b ≤ d ∧ HE nx a c ∧ Inv (i + 1) c d)) : WF ex 187 [y, .pointer (some ⟨bx, 0, none⟩)] hp1 nx1 (fun _ c d => Inv K.l.length c d ∧ nx1 ≤ d ∧ HE nx hp c) := by
 refine WF.body (fi := ⟨Tryz.f187.body.getD .skip, 16, []⟩) (by kernel_rfl) (by kernel_rfl) (by kernel_rfl) rfl ?_
 refine sr ?_
 obtain ⟨a1, c2, hv3⟩ := hK.shape
 have hsm3 := hK.2.2
 refine WO.cons (WC.load1 bx (0) (.slice a1 (K.l.length) c2) (by kernel_rfl) T_agg32 (he1.get hbx hlt) (by rw [← hv3]; rfl) ?_)
 refine ov 6 (.int .i64 (.ofNat (K.l.length))) ?_
 refine ov 7 (.int .i64 (0)) ?_
 refine WO.nil ?_
 refine WP.block ?_
 have hj5 : ∀ t : Tm, ((((t.set 0 (t.get 0)).set 5 (t.get 5)).set 6 (t.get 6)).set 7 (t.get 7)) = t := fun t => by kernel_rfl
 refine WP.loop (fun m s => ∃ (iL4 : Nat), iL4 + m = K.l.length ∧ s.to.get 0 = y ∧ s.to.get 5 = .slice a1 (K.l.length) c2 ∧ s.to.get 6 = .int .i64 (.ofNat (K.l.length)) ∧ s.to.get 7 = .int .i64 (.ofNat iL4) ∧ s.ds = [] ∧ s.cs = [] ∧ nx1 ≤ s.nx ∧ HE nx hp s.hp ∧ s.hp.get bx = some (.cells [K.v] CMeta.plain) ∧ (Inv iL4 s.hp s.nx) ∧ (nx1 ≤ s.nx)) ?_ (K.l.length) ?_
 ·
  rintro mL4 ⟨toL4, dsL4, hp6, nx7, csL4⟩ ⟨iL4, him8, gL4_0, gL4_5, gL4_6, gL4_7, hdsL4, hcsL4, hn9, he10, mb11, hI1, h1a⟩
  simp only at gL4_0 gL4_5 gL4_6 gL4_7 hdsL4 hcsL4 hn9 he10 mb11 hI1 h1a
  subst hdsL4 hcsL4
  rw [← hj5 toL4, gL4_0, gL4_5, gL4_6, gL4_7]
  clear gL4_0 gL4_5 gL4_6 gL4_7
  have lt12 := Nat.lt_of_lt_of_le (Nat.lt_of_lt_of_le hlt h1) hn9
  have le13 := Nat.le_trans h1 hn9
  have hr14 := HE.refl (nx7) hp6
  have rl15 := Nat.le_refl (nx7)
  refine sr ?_
  obtain ⟨c16, e16, p16⟩ := @nb (ltI (.ofNat iL4) (.ofNat (K.l.length))) (((iL4 : Nat) : Int) < ((K.l.length : Nat) : Int)) (ltI_iff)
  refine ov 8 (.bool c16) ?_ (fun _ _ _ => by subst e16; kernel_rfl)
  refine WO.nil ?_
  refine WP.seq ?_
  refine WP.cond c16 (by kernel_rfl) (fun h17 => ?_) (fun h17 => ?_)
  ·
   have q18 := (p16).1 h17
   refine WP.skip ?_
   refine WP.seq ?_
   refine WP.block ?_
   refine sr ?_
   have hlt19 : iL4 < K.l.length := by omega
   refine WO.cons (WC.ix (k := .i64) a1 (K.l.length) c2 (iL4) 2 (by kernel_rfl) (by kernel_rfl) T_und32 T_size95 ((hK.mono he10 le13).blkA hv3 (zl hlt19)) (hlt19) ?_)
   obtain ⟨x20, hx21⟩ : ∃ el_, K.l[iL4]? = some el_ := ⟨_, List.getElem?_eq_getElem (hlt19)⟩
   refine WO.cons (WC.loadSE (blk a1) (0 + (iL4) * 2) (encSpan x20) (by kernel_rfl) T_agg95 T_size95 ((hK.mono he10 le13).blkB hv3 (zl hlt19)) (flat_at0 (hK.mono he10 le13).1 hx21) ?_)
   refine WO.cons (WC.alloc _ [.int .i64 (0), .int .i64 (0)] rfl T_zero95 rfl ?_)
   obtain ⟨hp23, hx24, he25, hb26⟩ := boxed hp6 (nx7) [.int .i64 (0), .int .i64 (0)]
   rw [hx24]; clear hx24
   have hE27 := he10.trans he25 le13
   have hb28 := he25.get mb11 lt12
   have hr30 := hr14.trans he25 rl15
   have rl31 := Nat.le_trans rl15 (Nat.le_succ (nx7))
   have rl32 := Nat.le_trans hn9 (Nat.le_succ (nx7))
   refine WO.cons (WC.store1 nx7 (0) (.agg (encSpan x20).toArray) [.int .i64 (0), .int .i64 (0)] (encSpan x20) (encSpan x20) 2 rfl (by kernel_rfl) (by kernel_rfl) T_size95 rfl rfl hb26 rfl rfl rfl ?_)
   obtain ⟨hp34, hx35, he36, hb37, ho38⟩ := stored hp23 nx7 (.cells (encSpan x20) CMeta.plain)
   rw [hx35]; clear hx35
   have hE39 := hE27.trans he36 (by omega)
   have hr40 := hr30.trans he36 (by omega)
   have hb41 := (ho38 bx (by omega)).trans hb28
   refine WO.nil ?_
   refine sr ?_
   refine ov 11 (y) ?_
   refine WO.cons (WC.loadS nx7 (0) (encSpan x20) (by kernel_rfl) T_agg95 T_size95 hb37 rfl ?_)
   refine WO.cons (WC.callv 13 y [.agg (encSpan x20).toArray] (fun _ _ _ => by kernel_rfl) ((hs _ x20 hx21 hp34 (nx7 + 1) (by omega) hE39 (hm _ _ _ _ _ hI1 hr40 rl31)).mono ?_))
   rintro _ hp42 nx43 ⟨rfl, hn44, he45, hI46⟩
   have hE47 := hE39.trans he45 (Nat.le_refl nx)
   have hb49 := he45.get hb41 hlt
   have rl51 := Nat.le_trans rl32 hn44
   refine ov 14 (.bool false) ?_
   refine WO.nil ?_
   refine WP.cond false (by kernel_rfl) (fun h52 => by cases h52) (fun h52 => ?_)
   refine WP.skip ?_
   refine WP.region ?_
   refine ov 15 (.int .i64 (.ofNat (iL4 + 1))) ?_ (fun _ _ _ => by rw [← wrapAdd (show iL4 + 1 < 9223372036854775808 by omega)]; kernel_rfl)
   refine ov 7 (.int .i64 (.ofNat (iL4 + 1))) ?_
   refine WO.nil ?_
   refine ⟨K.l.length - (iL4 + 1), by omega, iL4 + 1, by omega, by kernel_rfl, by kernel_rfl, by kernel_rfl, by kernel_rfl, rfl, rfl, ?_, ?_, ?_, ?_, ?_⟩
   · exact rl51
   · exact hE47
   · exact hb49
   · exact hI46
   · omega
  ·
   have q18 := nq p16 h17
   refine WP.exit ?_
   refine ⟨rfl, rfl, [], by kernel_rfl, ?_⟩
   have hi : iL4 = K.l.length := by omega
   rw [hi] at hI1
   exact ⟨hI1, (show nx1 ≤ nx7 by omega), he10⟩
 ·
  exact ⟨0, by omega, by kernel_rfl, by kernel_rfl, by kernel_rfl, by kernel_rfl, rfl, rfl, Nat.le_refl _, he1, (he1.get hbx hlt), hI, (Nat.le_refl _)⟩
end
end Sw

namespace Sw
noncomputable section
open Go Go.Proofs Go.RowKit
set_option maxRecDepth 100000
set_option maxHeartbeats 1600000
theorem infoSpan : ∃ i, ex.T.info 95 = some i ∧ i.bytes ≤ 1024 := by
  cases h : ex.T.info 95 with
  | none => exact absurd (show (ex.T.info 95).isSome = true by kernel_rfl) (by rw [h]; decide)
  | some i =>
    refine ⟨i, rfl, ?_⟩
    have : ((ex.T.info 95).map fun i => Nat.ble i.bytes 1024) = some true := by kernel_rfl
    rw [h] at this
    exact Nat.le_of_ble_eq_true (Option.some.inj this)
theorem SOk.cells {α : Type} {enc : α → List Value} {n : Nat} {hp : Ht} {nx : Nat} {s : SV α} (h : SOk enc n hp nx s) : s.v.cells.toList = [s.v] := by
  obtain ⟨a, c, e⟩ := h.shape
  rw [e]; rfl
theorem spanFlat (l : List RSpan) : ∀ y ∈ l, (encSpan y).length = 2 := fun _ _ => rfl
def SeqInv (K : List RSpan) (r : ALoop Tm) (nx : Nat) (i : Nat) (a : Ht) (c : Nat) : Prop := ∃ J : SV RSpan, a.get nx = some (.cells [J.v] CMeta.plain) ∧ J.l = K.take i ∧ GroA encSpan 2 (nx + 3) a c J ∧ a.get (nx + 2) = some (.loop r) ∧ a.get (nx + 1) = some (.deferred (some [])) ∧ nx + 3 ≤ c
def SeqOf (K : List RSpan) (f : FuncId) (bf : Array Value) (hp : Ht) (nx : Nat) : Prop := ∀ (y : Value) (Inv : Nat → Ht → Nat → Prop) (hp1 : Ht) (nx1 : Nat), nx ≤ nx1 → HE nx hp hp1 → Inv 0 hp1 nx1 → (∀ i a b c d, Inv i a b → HE b a c → b ≤ d → Inv i c d) →
  (∀ i x, K[i]? = some x → ∀ a b, nx1 ≤ b → HE nx hp a → Inv i a b → WV ex y [.agg (encSpan x).toArray] a b (fun v c d => v = .bool true ∧ b ≤ d ∧ HE nx a c ∧ Inv (i + 1) c d)) → WF ex f (y :: bf.toList) hp1 nx1 (fun _ c d => Inv K.length c d ∧ nx1 ≤ d ∧ HE nx hp c)
theorem appendSeq_wf (K : SV RSpan) (f : FuncId) (bf : Array Value) (hp : Ht) (nx : Nat) (hK : K.l.length ≤ 1048576) (hseq : SeqOf K.l f bf hp nx) : WF ex 263 [.slice none (0) 0, .func (.func f) #[] bf] hp nx (fun v hp' nx' => ∃ J : SV RSpan, v = J.v ∧ J.l = K.l ∧ GroA encSpan 2 nx hp' nx' J ∧ nx ≤ nx' ∧ HE nx hp hp') := by
 refine WF.bodyD (fi := ⟨Tryz.f263.body.getD .skip, 13, [.tmp 4]⟩) (by kernel_rfl) (by kernel_rfl) (by kernel_rfl) rfl rfl ?_
 have hE := HE.refl nx hp
 refine sr ?_
 refine WO.cons (WC.box (.slice none (0) 0) [.slice none (0) 0] rfl (by kernel_rfl) rfl ?_)
 obtain ⟨hp2, hx3, he4, hb5⟩ := boxed hp (nx) [.slice none (0) 0]
 rw [hx3]; clear hx3
 have hE6 := hE.trans he4 (Nat.le_refl nx)
 refine ov 4 (.slice none (0) 0) ?_
 refine WO.nil ?_
 refine WP.seq ?_
 refine sr ?_
 refine ov 6 (.func (.func f) #[] bf) ?_
 refine WO.nil ?_
 refine WP.block ?_
 refine WP.rangeR (.func (.func f) #[] bf) (by kernel_rfl) fun r0 hr0 => ?_
 obtain ⟨hpL, hxL⟩ : ∃ h : Ht, h = (hp2.set (nx + 1) (some (.deferred (some [])))).set (nx + 1 + 1) (some (.loop r0)) := ⟨_, rfl⟩
 rw [← hxL]
 have hdL : hpL.get (nx + 1) = some (.deferred (some [])) := by rw [hxL]; exact (Tr.get_other _ _ (by omega)).trans (Tr.get_same ..)
 have hlL : hpL.get (nx + 2) = some (.loop r0) := by rw [hxL]; exact Tr.get_same ..
 have heL : HE (nx + 1) hp2 hpL := by rw [hxL]; exact (HE.set _ _ (Nat.le_refl _)).trans (HE.set _ _ (Nat.le_succ _)) (Nat.le_refl _)
 have hbL := heL.get hb5 (Nat.lt_succ_self (nx))
 have hEL : HE nx hp hpL := hE6.trans heL (by omega)
 refine (WV.func (f := f) (show WF ex f (.func (.yield (nx + 2)) #[] #[] :: bf.toList) hpL (nx + 3) _ from (hseq (.func (.yield (nx + 2)) #[] #[]) (SeqInv K.l r0 nx) hpL (nx + 3) (by omega) hEL ?_ ?_ ?_))).mono ?_
 · exact ⟨⟨.slice none 0 0, []⟩, hbL, by simp, GroA.nil, hlL, hdL, by omega⟩
 · rintro i a b c d ⟨J, k1, k2, k3, k4, k5, k6⟩ he hle
   exact ⟨J, he.get k1 (by omega), k2, k3.mono he hle, he.get k4 (by omega), he.get k5 (by omega), by omega⟩
 ·
  rintro i x hx a c hc hea ⟨J, k1, k2, k3, k4, k5, k6⟩
  have hil := (List.getElem?_eq_some_iff.1 hx).1
  have hJn : J.l.length = i := by rw [k2, List.length_take]; omega
  refine WV.round (r0.tmps.set 7 (.agg (encSpan x).toArray)) k4 rfl (by rw [hr0]) (by rw [hr0]; rfl) ?_
  subst hr0
  have hr8 := HE.refl (c) a
  have rl9 := Nat.le_refl (c)
  refine WP.region ?_
  refine WO.cons (WC.alloc _ [.int .i64 (0), .int .i64 (0)] rfl T_zero95 rfl ?_)
  obtain ⟨hp11, hx12, he13, hb14⟩ := boxed a (c) [.int .i64 (0), .int .i64 (0)]
  rw [hx12]; clear hx12
  have hE15 := hea.trans he13 (show nx ≤ c by omega)
  have hb16 := he13.get k1 (show nx < c by omega)
  have lt17 := Nat.lt_of_lt_of_le (show nx < c by omega) (Nat.le_succ (c))
  have hb18 := he13.get k4 (show (nx + 2) < c by omega)
  have lt19 := Nat.lt_of_lt_of_le (show (nx + 2) < c by omega) (Nat.le_succ (c))
  have hb20 := he13.get k5 (show (nx + 1) < c by omega)
  have lt21 := Nat.lt_of_lt_of_le (show (nx + 1) < c by omega) (Nat.le_succ (c))
  have hr22 := hr8.trans he13 rl9
  have rl23 := Nat.le_trans rl9 (Nat.le_succ (c))
  have le24 := Nat.le_trans (show nx ≤ c by omega) (Nat.le_succ (c))
  refine WO.cons (WC.store1 c (0) (.agg (encSpan x).toArray) [.int .i64 (0), .int .i64 (0)] (encSpan x) (encSpan x) 2 rfl (by kernel_rfl) (by kernel_rfl) T_size95 rfl rfl hb14 rfl rfl rfl ?_)
  obtain ⟨hp25, hx26, he27, hb28, ho29⟩ := stored hp11 c (.cells (encSpan x) CMeta.plain)
  rw [hx26]; clear hx26
  have hE30 := hE15.trans he27 (by omega)
  have hr31 := hr22.trans he27 (by omega)
  have hb32 := (ho29 nx (by omega)).trans hb16
  have hb33 := (ho29 (nx + 2) (by omega)).trans hb18
  have hb34 := (ho29 (nx + 1) (by omega)).trans hb20
  refine WO.nil ?_
  refine ⟨rfl, hb33, fun hpB hlB hoB => ?_⟩
  have hE35 : HE nx hp hpB := fun q hq => (hoB q (by omega)).trans (hE30 q hq)
  have hb36 := (hoB nx (by omega)).trans hb32
  have hb37 := (hoB (nx + 1) (by omega)).trans hb34
  have hb38 := (hoB c (by omega)).trans hb28
  have hG39 := (k3.mono hr31 rl23).above (hp' := hpB) (fun q hq => hoB q (by omega))
  refine WP.block ?_
  refine WP.region ?_
  refine WO.cons (WC.load1 nx (0) (J.v) (by kernel_rfl) T_agg32 hb36 rfl ?_)
  refine WO.cons (WC.loadS c (0) (encSpan x) (by kernel_rfl) T_agg95 T_size95 hb38 rfl ?_)
  refine WO.cons (WC.buildSlice [.int .i64 (x.fLo), .int .i64 (x.fHi)] rfl (by kernel_rfl) ?_)
  obtain ⟨hp40, hx41, he42, hb43⟩ := boxed hpB (c + 1) [.int .i64 (x.fLo), .int .i64 (x.fHi)]
  rw [hx41]; clear hx41
  have hE44 := hE35.trans he42 le24
  have hb45 := he42.get hb36 lt17
  have hb47 := he42.get hlB lt19
  have hb49 := he42.get hb37 lt21
  have hG54 := hG39.mono he42 (Nat.le_succ (c + 1))
  obtain ⟨inf, hinf, hby⟩ := infoSpan
  refine WO.cons (WC.appendA (enc := encSpan) (J := J) x rfl (by kernel_rfl) (by kernel_rfl) hG54 (spanFlat _) hb43 rfl T_und32 T_size95 T_zero95 hinf rfl rfl hby (by omega) (by omega) rfl ?_)
  rintro J2 hp2 nx2 hJ2l hn2 he2 hG2
  have hE56 := hE44.trans he2 (by omega)
  have hb57 := he2.get hb45 (by omega)
  have hb59 := he2.get hb47 (by omega)
  have hb61 := he2.get hb49 (by omega)
  have hJo2 := hG2.ok (spanFlat _) (by rw [hJ2l, List.length_append]; simp; omega)
  refine WO.cons (WC.store1 nx (0) (J2.v) [J.v] [J2.v] [J2.v] 1 rfl (by kernel_rfl) (by kernel_rfl) T_size32 hJo2.cells (Bool.and_eq_true_iff.2 ⟨rfl, by rw [List.all_cons, hJo2.one]; rfl⟩) hb57 rfl rfl rfl ?_)
  obtain ⟨hp64, hx65, he66, hb67, ho68⟩ := stored hp2 nx (.cells [J2.v] CMeta.plain)
  rw [hx65]; clear hx65
  have hE69 := hE56.trans he66 (by omega)
  have hb70 := (ho68 (nx + 2) (by omega)).trans hb59
  have hb71 := (ho68 (nx + 1) (by omega)).trans hb61
  refine WO.nil ?_
  refine ⟨rfl, hb70, fun hpC hlC hoC => ⟨rfl, (show c ≤ nx2 by omega), fun q hq => (hoC q (by omega)).trans ((hE69 q hq).trans (hea q hq).symm), J2, (hoC nx (by omega)).trans hb67, ?_, hG2.above (fun q hq => (hoC q (by omega)).trans (ho68 q (by omega))), hlC, (hoC (nx + 1) (by omega)).trans hb71, (show nx + 3 ≤ nx2 by omega)⟩⟩
  rw [hJ2l, k2, List.take_add_one, hx]; rfl
 ·
  rintro _ hpE0 nxE ⟨⟨J, k1, k2, k3, k4, k5, k6⟩, hnE, heE⟩
  refine ⟨r0, 0, k4, (fun h => by rw [hr0] at h; cases h), by rw [hr0]; rfl, ?_⟩
  obtain ⟨hpE, hxE⟩ : ∃ h : Ht, h = hpE0.set (nx + 1 + 1) (some (.loop { r0 with state := .exhausted })) := ⟨_, rfl⟩
  rw [← hxE]
  have hoE : ∀ q, q ≠ nx + 2 → hpE.get q = hpE0.get q := fun q hq => by rw [hxE]; exact Tr.get_other _ _ hq
  have hEE : HE nx hp hpE := fun q hq => (hoE q (by omega)).trans (heE q hq)
  have kE := (hoE nx (by omega)).trans k1
  have kD := (hoE (nx + 1) (by omega)).trans k5
  have kG := k3.above (hp' := hpE) (fun q hq => hoE q (by omega))
  refine sr ?_
  refine WO.cons (WC.load1 nx (0) (J.v) (by kernel_rfl) T_agg32 kE rfl ?_)
  refine ov 4 (J.v) ?_
  refine WO.nil ?_
  refine WP.ret ⟨rfl, _, rfl, kD, [J.v], by kernel_rfl, ?_⟩
  obtain ⟨hpF, hxF⟩ : ∃ h : Ht, h = hpE.set (nx + 1) (some (.deferred none)) := ⟨_, rfl⟩
  show (fun v hp' nx' => ∃ J : SV RSpan, v = J.v ∧ J.l = K.l ∧ GroA encSpan 2 nx hp' nx' J ∧ nx ≤ nx' ∧ HE nx hp hp') _ (hpE.set (nx + 1) (some (.deferred none))) nxE
  rw [← hxF]
  have hoF : ∀ q, q ≠ nx + 1 → hpF.get q = hpE.get q := fun q hq => by rw [hxF]; exact Tr.get_other _ _ hq
  exact ⟨J, rfl, by rw [k2, List.take_length], (kG.above (fun q hq => hoF q (by omega))).low (by omega), by omega, fun q hq => (hoF q (by omega)).trans (hEE q hq)⟩
end
end Sw

namespace Sw
noncomputable section
open Go Go.Proofs Go.RowKit
set_option maxRecDepth 100000
set_option maxHeartbeats 1600000
theorem SpSep.snoc {l : List RSpan} {x : RSpan} (h : SpSep l) (hx : ∀ a, l[l.length - 1]? = some a → 0 < l.length → Apart a x) : SpSep (l ++ [x]) := by
  intro i a b ha hb
  rcases Nat.lt_trichotomy (i + 1) l.length with k | k | k
  · rw [List.getElem?_append_left (by omega)] at ha hb
    exact h i a b ha hb
  · rw [List.getElem?_append_left (by omega)] at ha
    rw [List.getElem?_append_right (by omega), k, Nat.sub_self] at hb
    simp at hb; subst hb
    exact hx a (by rw [← k]; exact ha) (by omega)
  · rw [List.getElem?_eq_none (by simp; omega)] at hb; cases hb
theorem SpSep.setLast {l : List RSpan} {y z : RSpan} (h : SpSep l) (hz : l[l.length - 1]? = some z) (hlo : y.fLo = z.fLo) : SpSep (l.set (l.length - 1) y) := by
  intro i a b ha hb
  have hlt := (List.getElem?_eq_some_iff.1 hb).1
  rw [List.length_set] at hlt
  rw [List.getElem?_set_ne (by omega)] at ha
  by_cases k : i + 1 = l.length - 1
  · rw [← k, List.getElem?_set_self (by omega)] at hb
    cases hb
    rw [← k] at hz
    have := h i a z ha hz
    unfold Apart at this ⊢
    rw [hlo]; exact this
  · rw [List.getElem?_set_ne (by omega)] at hb
    exact h i a b ha hb
theorem collect_wf (K : SV RSpan) (f : FuncId) (bf : Array Value) (hp : Ht) (nx : Nat) (hK : K.l.length ≤ 1048576) (hseq : SeqOf K.l f bf hp nx) : WF ex 185 [.func (.func f) #[] bf] hp nx (fun v hp' nx' => ∃ J : SV RSpan, v = J.v ∧ J.l = K.l ∧ GroA encSpan 2 nx hp' nx' J ∧ nx ≤ nx' ∧ HE nx hp hp') := by
 refine WF.body (fi := ⟨Tryz.f185.body.getD .skip, 5, [.tmp 2]⟩) (by kernel_rfl) (by kernel_rfl) (by kernel_rfl) rfl ?_
 have hE := HE.refl nx hp
 refine sr ?_
 refine ov 2 (.slice none (0) 0) ?_
 refine WO.nil ?_
 refine sr ?_
 refine ov 3 (.func (.func f) #[] bf) ?_
 refine WO.cons (WC.call 4 263 ([.slice none 0 0, .func (.func f) #[] bf]) (fun _ _ _ => by kernel_rfl) ((appendSeq_wf K f bf hp (nx) (by omega) hseq).mono ?_))
 rintro _ hp1 nx2 ⟨J, rfl, hJl, hJG, hn3, he4⟩
 have hE5 := hE.trans he4 (Nat.le_refl nx)
 have le6 := Nat.le_trans (Nat.le_refl nx) hn3
 refine ov 2 (J.v) ?_
 refine WO.nil ?_
 refine WP.ret ⟨rfl, rfl, [J.v], by kernel_rfl, ?_⟩
 exact ⟨J, rfl, hJl, hJG, le6, hE5⟩
theorem isort_nil (fc : FuncId) (bc : Array Value) (hp : Ht) (nx : Nat) : WF ex 338 [.slice none (0) 0, .int .i64 (0), .int .i64 (0), .func (.func fc) #[] bc] hp nx (fun _ hp' nx' => nx ≤ nx' ∧ HE nx hp hp') := by
 refine WF.body (fi := ⟨Tryz.f338.body.getD .skip, 53, []⟩) (by kernel_rfl) (by kernel_rfl) (by kernel_rfl) rfl ?_
 have hE := HE.refl nx hp
 refine sr ?_
 refine ov 10 (.int .i64 (0)) ?_
 refine ov 11 (.int .i64 (.ofNat (0 + 1))) ?_ (fun _ _ _ => by rw [← wrapAdd (show 0 + 1 < 9223372036854775808 by omega)]; kernel_rfl)
 refine ov 8 (.int .i64 (.ofNat (0 + 1))) ?_
 refine WO.nil ?_
 refine WP.block ?_
 refine WP.once ?_
 refine WP.seq ?_
 refine sr ?_
 refine ov 12 (.int .i64 (.ofNat (0 + 1))) ?_
 refine ov 13 (.int .i64 (0)) ?_
 obtain ⟨c1, e1, p1⟩ := @nb (ltI (.ofNat (0 + 1)) (0)) (((0 + 1 : Nat) : Int) < (0)) (ltI_iff)
 refine ov 14 (.bool c1) ?_ (fun _ _ _ => by subst e1; kernel_rfl)
 refine WO.nil ?_
 refine WP.cond c1 (by kernel_rfl) (fun h2 => ?_) (fun h2 => ?_)
 ·
  have q3 := (p1).1 h2
  exact absurd q3 (by omega)
 ·
  have q3 := nq p1 h2
  refine WP.exit ?_
  refine ⟨rfl, rfl, [], by kernel_rfl, ?_⟩
  exact ⟨(Nat.le_refl nx), hE⟩
theorem pdq_nil (fc : FuncId) (bc : Array Value) (lim : Int) (hp : Ht) (nx : Nat) : WF ex 264 [.slice none (0) 0, .int .i64 (0), .int .i64 (0), .int .i64 (lim), .func (.func fc) #[] bc] hp nx (fun _ hp' nx' => nx ≤ nx' ∧ HE nx hp hp') := by
 refine WF.body (fi := ⟨Tryz.f264.body.getD .skip, 148, []⟩) (by kernel_rfl) (by kernel_rfl) (by kernel_rfl) rfl ?_
 have hE := HE.refl nx hp
 refine sr ?_
 refine ov 10 (.bool true) ?_
 refine WO.nil ?_
 refine sr ?_
 refine ov 11 (.bool true) ?_
 refine WO.nil ?_
 refine WP.block ?_
 refine WP.once ?_
 refine WP.block ?_
 refine sr ?_
 refine ov 21 (.int .i64 (0)) ?_
 refine ov 22 (.int .i64 (0)) ?_
 refine ov 23 (.int .i64 (.ofNat (0 - 0))) ?_ (fun _ _ _ => by rw [← wrapSub (show 0 < 9223372036854775808 by omega) (by omega)]; kernel_rfl)
 refine ov 12 (.int .i64 (.ofNat (0 - 0))) ?_
 refine WO.nil ?_
 refine WP.seq ?_
 refine sr ?_
 refine ov 24 (.int .i64 (.ofNat (0 - 0))) ?_
 obtain ⟨c1, e1, p1⟩ := @nb (leI (.ofNat (0 - 0)) (12)) (((0 - 0 : Nat) : Int) ≤ (12)) (leI_iff)
 refine ov 25 (.bool c1) ?_ (fun _ _ _ => by subst e1; kernel_rfl)
 refine WO.nil ?_
 refine WP.cond c1 (by kernel_rfl) (fun h2 => ?_) (fun h2 => ?_)
 ·
  have q3 := (p1).1 h2
  refine sr ?_
  refine ov 26 (.slice none (0) 0) ?_
  refine ov 27 (.int .i64 (0)) ?_
  refine ov 28 (.int .i64 (0)) ?_
  refine ov 29 (.func (.func fc) #[] bc) ?_
  refine WO.cons (WC.call 30 338 ([.slice none (0) 0, .int .i64 (0), .int .i64 (0), .func (.func fc) #[] bc]) (fun _ _ _ => by kernel_rfl) ((isort_nil fc bc hp (nx)).mono ?_))
  rintro _ hp4 nx5 ⟨hn6, he7⟩
  have hE8 := hE.trans he7 (Nat.le_refl nx)
  have le9 := Nat.le_trans (Nat.le_refl nx) hn6
  refine WO.nil ?_
  refine WP.ret ⟨rfl, rfl, [], by kernel_rfl, ?_⟩
  exact ⟨le9, hE8⟩
 ·
  have q3 := nq p1 h2
  exact absurd q3 (by omega)
theorem sortFunc_nil (fc : FuncId) (bc : Array Value) (hp : Ht) (nx : Nat) : WF ex 186 [.slice none (0) 0, .func (.func fc) #[] bc] hp nx (fun _ hp' nx' => nx ≤ nx' ∧ HE nx hp hp') := by
 refine WF.body (fi := ⟨Tryz.f186.body.getD .skip, 14, []⟩) (by kernel_rfl) (by kernel_rfl) (by kernel_rfl) rfl ?_
 have hE := HE.refl nx hp
 refine sr ?_
 refine ov 5 (.slice none (0) 0) ?_
 refine ov 6 (.int .i64 (.ofNat (0))) ?_
 refine ov 4 (.int .i64 (.ofNat (0))) ?_
 refine WO.nil ?_
 refine WP.region ?_
 refine ov 7 (.slice none (0) 0) ?_
 refine ov 8 (.int .i64 (.ofNat (0))) ?_
 refine ov 9 (.int .i64 (.ofNat (0))) ?_
 refine ov 10 (.int .u64 (.ofNat 0)) ?_
 refine WO.cons (WC.call 11 200 ([.int .u64 (.ofNat 0)]) (fun _ _ _ => by kernel_rfl) ((bitsLen_wf 0 (by omega) hp (nx)).mono ?_))
 rintro _ hp1 nx2 ⟨⟨z5, rfl⟩, hn3, he4⟩
 have hE6 := hE.trans he4 (Nat.le_refl nx)
 have le7 := Nat.le_trans (Nat.le_refl nx) hn3
 refine ov 12 (.func (.func fc) #[] bc) ?_
 refine WO.cons (WC.call 13 264 ([.slice none (0) 0, .int .i64 (0), .int .i64 (.ofNat (0)), .int .i64 (z5), .func (.func fc) #[] bc]) (fun _ _ _ => by kernel_rfl) ((pdq_nil fc bc (z5) hp1 (nx2)).mono ?_))
 rintro _ hp8 nx9 ⟨hn10, he11⟩
 have hE12 := hE6.trans he11 le7
 have le13 := Nat.le_trans le7 hn10
 refine WO.nil ?_
 refine ⟨rfl, rfl, [], by kernel_rfl, ?_⟩
 exact ⟨le13, hE12⟩
theorem sortedFunc_wf (K : SV RSpan) (f : FuncId) (bf : Array Value) (fc : FuncId) (bc : Array Value) (hp : Ht) (nx : Nat) (hK : K.l.length ≤ 12) (hseq : SeqOf K.l f bf hp nx) (hc : ∀ (x y : RSpan) (hp' : Ht) (nx' : Nat), WF ex fc ((.agg (encSpan x).toArray) :: (.agg (encSpan y).toArray) :: bc.toList) hp' nx' (Stays nx' hp' AnyI)) (hvc : vEq 8 (.func (.func fc) #[] bc) (.func (.func fc) #[] bc) = true) : WF ex 87 [.func (.func f) #[] bf, .func (.func fc) #[] bc] hp nx (fun v hp' nx' => ∃ J : SV RSpan, v = J.v ∧ J.l.length = K.l.length ∧ SOk encSpan 2 hp' nx' J ∧ nx ≤ nx' ∧ HE nx hp hp') := by
 refine WF.body (fi := ⟨Tryz.f87.body.getD .skip, 12, [.tmp 4]⟩) (by kernel_rfl) (by kernel_rfl) (by kernel_rfl) rfl ?_
 have hE := HE.refl nx hp
 refine sr ?_
 refine ov 4 (.slice none (0) 0) ?_
 refine WO.nil ?_
 refine sr ?_
 refine ov 6 (.func (.func f) #[] bf) ?_
 refine WO.cons (WC.call 7 185 ([.func (.func f) #[] bf]) (fun _ _ _ => by kernel_rfl) ((collect_wf K f bf hp (nx) (by omega) hseq).mono ?_))
 rintro _ hp1 nx2 ⟨J, rfl, hJl, hJG, hn3, he4⟩
 have hE5 := hE.trans he4 (Nat.le_refl nx)
 have le6 := Nat.le_trans (Nat.le_refl nx) hn3
 refine ov 5 (J.v) ?_
 refine WO.nil ?_
 refine WP.seq ?_
 rcases hJG with ⟨hJ0, hJv⟩ | ⟨hJ0, bJ, gJ, hJv, hAr⟩
 ·
  rw [hJv]
  refine WP.region ?_
  refine ov 8 (.slice none (0) 0) ?_
  refine ov 9 (.func (.func fc) #[] bc) ?_
  refine WO.cons (WC.call 10 186 ([.slice none 0 0, .func (.func fc) #[] bc]) (fun _ _ _ => by kernel_rfl) ((sortFunc_nil fc bc hp1 (nx2)).mono ?_))
  rintro _ hp7 nx8 ⟨hn9, he10⟩
  have hE11 := hE5.trans he10 le6
  have le12 := Nat.le_trans le6 hn9
  refine WO.nil ?_
  refine sr ?_
  refine ov 11 (.slice none (0) 0) ?_
  refine ov 4 (.slice none (0) 0) ?_
  refine WO.nil ?_
  refine WP.ret ⟨rfl, rfl, [.slice none (0) 0], by kernel_rfl, ?_⟩
  exact ⟨⟨.slice none 0 0, []⟩, rfl, (by rw [← hJl, hJ0]), ⟨fun _ _ => rfl, .inl ⟨rfl, .inl rfl⟩, by simp⟩, le12, hE11⟩
 ·
  rw [hJv]
  refine WP.region ?_
  refine ov 8 (.slice (some ⟨bJ, 0, none⟩) (J.l.length) J.l.length) ?_
  refine ov 9 (.func (.func fc) #[] bc) ?_
  refine WO.cons (WC.call 10 186 ([.slice (some ⟨bJ, 0, none⟩) J.l.length J.l.length, .func (.func fc) #[] bc]) (fun _ _ _ => by kernel_rfl) ((sortFunc_wf J.l J.l.length bJ gJ hJ0 (by rw [hJl]; omega) rfl fc bc hp nx hp1 (nx2) le6 hE5 hAr (fun x y hp' nx' _ _ => hc x y hp' nx') hvc).mono ?_))
  rintro _ hp13 nx14 ⟨⟨L2, hL2, hA2⟩, hn15, he16⟩
  have h117 := Nat.le_trans le6 hn15
  refine WO.nil ?_
  refine sr ?_
  refine ov 11 (.slice (some ⟨bJ, 0, none⟩) (J.l.length) J.l.length) ?_
  refine ov 4 (.slice (some ⟨bJ, 0, none⟩) (J.l.length) J.l.length) ?_
  refine WO.nil ?_
  refine WP.ret ⟨rfl, rfl, [.slice (some ⟨bJ, 0, none⟩) (J.l.length) J.l.length], by kernel_rfl, ?_⟩
  exact ⟨⟨.slice (some ⟨bJ, 0, none⟩) J.l.length J.l.length, L2⟩, rfl, (by show L2.length = _; rw [hL2, hJl]), hA2.okN (fun _ _ => rfl) hL2 hJ0 (by rw [hJl]; omega), h117, he16⟩
end
end Sw

namespace Sw
noncomputable section
open Go Go.Proofs Go.RowKit
set_option maxRecDepth 100000
set_option maxHeartbeats 1600000
theorem join_wf (K : SV RSpan) (hp : Ht) (nx : Nat) (hK : SOk encSpan 2 hp nx K) (hKl : K.l.length ≤ 1048576) : WF ex 91 [K.v, .func (.func 90) #[] #[], .func (.func 92) #[] #[]] hp nx (fun v hp' nx' => ∃ J : SV RSpan, v = J.v ∧ SpSep J.l ∧ J.l.length ≤ K.l.length ∧ SOk encSpan 2 hp' nx' J ∧ nx ≤ nx' ∧ HE nx hp hp') := by
 obtain ⟨a1, c2, hv3⟩ := hK.shape
 have hsm3 := hK.2.2
 rw [hv3]
 refine WF.body (fi := ⟨Tryz.f91.body.getD .skip, 46, [.tmp 6]⟩) (by kernel_rfl) (by kernel_rfl) (by kernel_rfl) rfl ?_
 have hE := HE.refl nx hp
 refine sr ?_
 refine ov 6 (.slice none (0) 0) ?_
 refine WO.nil ?_
 refine WP.seq ?_
 refine sr ?_
 refine ov 10 (.slice a1 (K.l.length) c2) ?_
 refine ov 11 (.int .i64 (.ofNat (K.l.length))) ?_
 refine ov 12 (.int .i64 (0)) ?_
 refine WO.nil ?_
 refine WP.block ?_
 have hj5 : ∀ t : Tm, ((((((t.set 1 (t.get 1)).set 2 (t.get 2)).set 6 (t.get 6)).set 10 (t.get 10)).set 11 (t.get 11)).set 12 (t.get 12)) = t := fun t => by kernel_rfl
 refine WP.loop (fun m s => ∃ (iL4 : Nat) (J : SV RSpan), iL4 + m = K.l.length ∧ s.to.get 1 = .func (.func 90) #[] #[] ∧ s.to.get 2 = .func (.func 92) #[] #[] ∧ s.to.get 6 = J.v ∧ s.to.get 10 = .slice a1 (K.l.length) c2 ∧ s.to.get 11 = .int .i64 (.ofNat (K.l.length)) ∧ s.to.get 12 = .int .i64 (.ofNat iL4) ∧ s.ds = [] ∧ s.cs = [] ∧ nx ≤ s.nx ∧ HE nx hp s.hp ∧ (SpSep J.l) ∧ (J.l.length ≤ iL4) ∧ (GroA encSpan 2 nx s.hp s.nx J)) ?_ (K.l.length) ?_
 ·
  rintro mL4 ⟨toL4, dsL4, hp6, nx7, csL4⟩ ⟨iL4, J, him8, gL4_1, gL4_2, gL4_6, gL4_10, gL4_11, gL4_12, hdsL4, hcsL4, hn9, he10, hsep, hlen, hJG⟩
  simp only at gL4_1 gL4_2 gL4_6 gL4_10 gL4_11 gL4_12 hdsL4 hcsL4 hn9 he10 hJG
  subst hdsL4 hcsL4
  rw [← hj5 toL4, gL4_1, gL4_2, gL4_6, gL4_10, gL4_11, gL4_12]
  clear gL4_1 gL4_2 gL4_6 gL4_10 gL4_11 gL4_12
  have le11 := Nat.le_trans (Nat.le_refl nx) hn9
  have hr12 := HE.refl (nx7) hp6
  have rl13 := Nat.le_refl (nx7)
  refine sr ?_
  obtain ⟨c14, e14, p14⟩ := @nb (ltI (.ofNat iL4) (.ofNat (K.l.length))) (((iL4 : Nat) : Int) < ((K.l.length : Nat) : Int)) (ltI_iff)
  refine ov 13 (.bool c14) ?_ (fun _ _ _ => by subst e14; kernel_rfl)
  refine WO.nil ?_
  refine WP.seq ?_
  refine WP.cond c14 (by kernel_rfl) (fun h15 => ?_) (fun h15 => ?_)
  ·
   have q16 := (p14).1 h15
   refine WP.skip ?_
   refine WP.seq ?_
   refine WP.block ?_
   refine sr ?_
   have hlt17 : iL4 < K.l.length := by omega
   refine WO.cons (WC.ix (k := .i64) a1 (K.l.length) c2 (iL4) 2 (by kernel_rfl) (by kernel_rfl) T_und32 T_size95 ((hK.mono he10 le11).blkA hv3 (zl hlt17)) (hlt17) ?_)
   obtain ⟨x18, hx19⟩ : ∃ el_, K.l[iL4]? = some el_ := ⟨_, List.getElem?_eq_getElem (hlt17)⟩
   refine WO.cons (WC.loadSE (blk a1) (0 + (iL4) * 2) (encSpan x18) (by kernel_rfl) T_agg95 T_size95 ((hK.mono he10 le11).blkB hv3 (zl hlt17)) (flat_at0 (hK.mono he10 le11).1 hx19) ?_)
   refine WO.cons (WC.alloc _ [.int .i64 (0), .int .i64 (0)] rfl T_zero95 rfl ?_)
   obtain ⟨hp21, hx22, he23, hb24⟩ := boxed hp6 (nx7) [.int .i64 (0), .int .i64 (0)]
   rw [hx22]; clear hx22
   have hE25 := he10.trans he23 le11
   have hr26 := hr12.trans he23 rl13
   have rl27 := Nat.le_trans rl13 (Nat.le_succ (nx7))
   have rl28 := Nat.le_trans hn9 (Nat.le_succ (nx7))
   have le29 := Nat.le_trans le11 (Nat.le_succ (nx7))
   refine WO.cons (WC.store1 nx7 (0) (.agg (encSpan x18).toArray) [.int .i64 (0), .int .i64 (0)] (encSpan x18) (encSpan x18) 2 rfl (by kernel_rfl) (by kernel_rfl) T_size95 rfl rfl hb24 rfl rfl rfl ?_)
   obtain ⟨hp30, hx31, he32, hb33, ho34⟩ := stored hp21 nx7 (.cells (encSpan x18) CMeta.plain)
   rw [hx31]; clear hx31
   have hE35 := hE25.trans he32 (by omega)
   have hr36 := hr26.trans he32 (by omega)
   refine WO.nil ?_
   refine WP.seq ?_
   have hJH := hJG.mono hr36 rl27
   rcases id hJH with ⟨hJ0, hJv⟩ | ⟨hJ0, bJ, gJ, hJv, hAr⟩
   ·
    rw [hJv]
    have hJ1 : GroA encSpan 2 nx hp30 (nx7 + 1) ⟨.slice none 0 0, J.l⟩ := .inl ⟨hJ0, rfl⟩
    refine WP.region ?_
    refine ov 16 (.slice none (0) 0) ?_
    refine ov 17 (.int .i64 (.ofNat (0))) ?_
    refine ov 18 (.int .i64 (-1)) ?_
    refine ov 9 (.int .i64 (-1)) ?_
    refine WO.nil ?_
    refine WP.seq ?_
    refine WP.drawS [⟨[0, 1, 2, 3, 4, 5, 6, 7, 8], [0, 1, 2, 3, 4, 5, 6, 7, 8], some 9⟩, ⟨[10], [10], none⟩] (by kernel_rfl) _ rfl ?_
    refine WD.eff ?_
    refine nv 19 (.int .i64 (-1)) ?_
    refine nv 20 (.bool false) ?_
    refine nv 21 (.bool false) ?_
    refine WN.consAt rfl (WC.gskip (x := .bool false) (g := opd (.tmp 21)) rfl (by kernel_rfl) rfl ?_)
    refine WN.consAt rfl (WC.gskip (x := .bool false) (g := opd (.tmp 21)) rfl (by kernel_rfl) rfl ?_)
    refine WN.consAt rfl (WC.gskip (x := .bool false) (g := opd (.tmp 21)) rfl (by kernel_rfl) rfl ?_)
    refine WN.consAt rfl (WC.gskip (x := .bool false) (g := opd (.tmp 21)) rfl (by kernel_rfl) rfl ?_)
    refine WN.consAt rfl (WC.gskip (x := .bool false) (g := opd (.tmp 21)) rfl (by kernel_rfl) rfl ?_)
    refine WN.consAt rfl (WC.gskip (x := .bool false) (g := opd (.tmp 21)) rfl (by kernel_rfl) rfl ?_)
    refine WN.nil ⟨?_, ?_⟩
    ·
     refine cv (.int .i64 (-1)) (vEq_int ..) ?_
     refine cv (.bool false) rfl ?_
     refine cv (.bool false) rfl ?_
     refine cg rfl 21 false (.bool false) (.bool false) rfl (fun h => by cases h) ?_
     refine cg rfl 21 false (.bool false) (.bool false) rfl (fun h => by cases h) ?_
     refine cg rfl 21 false (.bool false) (.bool false) rfl (fun h => by cases h) ?_
     refine cg rfl 21 false (.bool false) (.bool false) rfl (fun h => by cases h) ?_
     refine cg rfl 21 false (.bool false) (.bool false) rfl (fun h => by cases h) ?_
     refine cg rfl 21 false (.bool false) (.bool false) rfl (fun h => by cases h) ?_
     exact Chks.nil
    refine WC.at rfl (WC.gskip (x := .bool false) (g := opd (.tmp 21)) rfl (by kernel_rfl) rfl ?_)
    refine WD.last ?_
    refine nv 29 (.bool false) ?_
    refine WN.nil ⟨?_, ?_⟩
    ·
     refine cv (.bool false) rfl ?_
     exact Chks.nil
    refine WP.cond false (by kernel_rfl) (fun h37 => by cases h37) (fun h37 => ?_)
    refine WP.region ?_
    refine ov 40 (.slice none (0) 0) ?_
    refine WO.cons (WC.loadS nx7 (0) (encSpan x18) (by kernel_rfl) T_agg95 T_size95 hb33 rfl ?_)
    refine WO.cons (WC.buildSlice [.int .i64 (x18.fLo), .int .i64 (x18.fHi)] rfl (by kernel_rfl) ?_)
    obtain ⟨hp38, hx39, he40, hb41⟩ := boxed hp30 (nx7 + 1) [.int .i64 (x18.fLo), .int .i64 (x18.fHi)]
    rw [hx39]; clear hx39
    have hE42 := hE35.trans he40 le29
    have rl47 := Nat.le_trans rl28 (Nat.le_succ (nx7 + 1))
    have hG49 := hJ1.mono he40 (Nat.le_succ (nx7 + 1))
    obtain ⟨inf, hinf, hby⟩ := infoSpan
    refine WO.cons (WC.appendA (enc := encSpan) (J := ⟨.slice none 0 0, J.l⟩) x18 rfl (by kernel_rfl) (by kernel_rfl) hG49 (spanFlat _) hb41 rfl T_und32 T_size95 T_zero95 hinf rfl rfl hby (show J.l.length ≤ 1048576 by omega) (by omega) rfl ?_)
    rintro J2 hp2 nx2 hJ2l hn2 he2 hG2
    have hE51 := hE42.trans he2 (Nat.le_refl nx)
    have rl54 := Nat.le_trans rl47 hn2
    have hs2 : SpSep J2.l := by rw [hJ2l]; exact hsep.snoc (fun a _ h => absurd h (by rw [hJ0]; decide))
    have hl2 : J2.l.length ≤ iL4 + 1 := by rw [hJ2l, List.length_append]; simp; omega
    refine ov 6 (J2.v) ?_
    refine WO.nil ?_
    refine WP.region ?_
    refine ov 44 (.int .i64 (.ofNat (iL4 + 1))) ?_ (fun _ _ _ => by rw [← wrapAdd (show iL4 + 1 < 9223372036854775808 by omega)]; kernel_rfl)
    refine ov 12 (.int .i64 (.ofNat (iL4 + 1))) ?_
    refine WO.nil ?_
    refine ⟨K.l.length - (iL4 + 1), by omega, iL4 + 1, J2, by omega, by kernel_rfl, by kernel_rfl, by kernel_rfl, by kernel_rfl, by kernel_rfl, by kernel_rfl, rfl, rfl, ?_, ?_, ?_, ?_, ?_⟩
    · exact rl54
    · exact hE51
    · exact hs2
    · exact hl2
    · exact hG2
   ·
    rw [hJv]
    have hJ1 : GroA encSpan 2 nx hp30 (nx7 + 1) ⟨.slice (some ⟨bJ, 0, none⟩) J.l.length J.l.length, J.l⟩ := .inr ⟨hJ0, bJ, gJ, rfl, hAr⟩
    refine WP.region ?_
    refine ov 16 (.slice (some ⟨bJ, 0, none⟩) (J.l.length) J.l.length) ?_
    refine ov 17 (.int .i64 (.ofNat (J.l.length))) ?_
    refine ov 18 (.int .i64 (.ofNat (J.l.length - 1))) ?_ (fun _ _ _ => by rw [← wrapSub (show J.l.length < 9223372036854775808 by omega) (by omega)]; kernel_rfl)
    refine ov 9 (.int .i64 (.ofNat (J.l.length - 1))) ?_
    refine WO.nil ?_
    refine WP.seq ?_
    refine WP.drawS [⟨[0, 1, 2, 3, 4, 5, 6, 7, 8], [0, 1, 2, 3, 4, 5, 6, 7, 8], some 9⟩, ⟨[10], [10], none⟩] (by kernel_rfl) _ rfl ?_
    refine WD.eff ?_
    refine nv 19 (.int .i64 (.ofNat (J.l.length - 1))) ?_
    obtain ⟨c55, e55, p55⟩ := @nb (leI (0) (.ofNat (J.l.length - 1))) ((0) ≤ ((J.l.length - 1 : Nat) : Int)) (leI_iff)
    refine nv 20 (.bool c55) ?_ (fun _ _ _ => by subst e55; kernel_rfl)
    refine nv 21 (.bool c55) ?_
    refine ng rfl 21 (c55) (.func (.func 90) #[] #[]) (.bool c55) (by cases c55 <;> rfl) (fun h => by obtain rfl := h; exact fun _ _ _ => by kernel_rfl) ?_
    refine ng rfl 21 (c55) (.slice (some ⟨bJ, 0, none⟩) (J.l.length) J.l.length) (.bool c55) (by cases c55 <;> rfl) (fun h => by obtain rfl := h; exact fun _ _ _ => by kernel_rfl) ?_
    refine ng rfl 21 (c55) (.int .i64 (.ofNat (J.l.length - 1))) (.bool c55) (by cases c55 <;> rfl) (fun h => by obtain rfl := h; exact fun _ _ _ => by kernel_rfl) ?_
    have hlt56 : (c55) = true → J.l.length - 1 < J.l.length := fun h => by obtain rfl : c55 = true := (by simpa using h); have q0 := (p55).1 rfl; omega
    refine ngc rfl 21 (c55) (.pointer (some ⟨(blk (some ⟨bJ, 0, none⟩)), 0 + (J.l.length - 1) * 2, none⟩)) (.bool c55) (by cases c55 <;> rfl) (fun h => by obtain rfl := h; have q0 := (p55).1 rfl; exact WC.ix (k := .i64) (some ⟨bJ, 0, none⟩) (J.l.length) J.l.length (J.l.length - 1) 2 (by kernel_rfl) (by kernel_rfl) T_und32 T_size95 ((hAr.okN (N := J.l.length) (c := J.l.length) (fun _ _ => rfl) rfl (by omega) (by omega)).blkA rfl (zl ((Nat.lt_of_lt_of_eq (hlt56 rfl) rfl.symm)))) ((hlt56 rfl)) rfl) ?_
    obtain ⟨x57, hx58⟩ : ∃ el_, (c55) = true → (⟨.slice (some ⟨bJ, 0, none⟩) (J.l.length) J.l.length, J.l⟩ : SV RSpan).l[J.l.length - 1]? = some el_ := ⟨((⟨.slice (some ⟨bJ, 0, none⟩) (J.l.length) J.l.length, J.l⟩ : SV RSpan).l[J.l.length - 1]?).getD default, fun h => by rw [List.getElem?_eq_getElem (by obtain rfl : c55 = true := (by simpa using h); exact (Nat.lt_of_lt_of_eq (hlt56 rfl) rfl.symm))]; rfl⟩
    have hx58p := fun (a0 : ((0) ≤ ((J.l.length - 1 : Nat) : Int))) => hx58 (by first | (rw [show c55 = true from (p55).2 a0]; rfl) | rw [show c55 = true from (p55).2 a0])
    refine ngc rfl 21 (c55) (.agg (encSpan x57).toArray) (.bool c55) (by cases c55 <;> rfl) (fun h => by obtain rfl := h; have q0 := (p55).1 rfl; exact WC.loadSE (blk (some ⟨bJ, 0, none⟩)) (0 + (J.l.length - 1) * 2) (encSpan x57) (by kernel_rfl) T_agg95 T_size95 ((hAr.okN (N := J.l.length) (c := J.l.length) (fun _ _ => rfl) rfl (by omega) (by omega)).blkB rfl (zl ((Nat.lt_of_lt_of_eq (hlt56 rfl) rfl.symm)))) (flat_at0 (hAr.okN (N := J.l.length) (c := J.l.length) (fun _ _ => rfl) rfl (by omega) (by omega)).1 (hx58 rfl)) rfl) ?_
    refine ngc rfl 21 (c55) (.agg (encSpan x18).toArray) (.bool c55) (by cases c55 <;> rfl) (fun h => by obtain rfl := h; exact WC.loadS nx7 (0) (encSpan x18) (by kernel_rfl) T_agg95 T_size95 hb33 rfl rfl) ?_
    refine WN.nil ⟨?_, ?_⟩
    ·
     refine cv (.int .i64 (.ofNat (J.l.length - 1))) (vEq_int ..) ?_
     refine cv (.bool c55) (vEq_bool 8 c55) ?_ (fun _ => by subst e55; kernel_rfl)
     refine cv (.bool c55) (vEq_bool 8 c55) ?_
     refine cg rfl 21 (c55) (.func (.func 90) #[] #[]) (.bool c55) (by cases c55 <;> rfl) (fun h => by obtain rfl := h; exact chkV1 (.func (.func 90) #[] #[]) (fun _ => by kernel_rfl) (by kernel_rfl)) ?_
     refine cg rfl 21 (c55) (.slice (some ⟨bJ, 0, none⟩) (J.l.length) J.l.length) (.bool c55) (by cases c55 <;> rfl) (fun h => by obtain rfl := h; exact chkV1 (.slice (some ⟨bJ, 0, none⟩) (J.l.length) J.l.length) (fun _ => by kernel_rfl) (vEq_sl ..)) ?_
     refine cg rfl 21 (c55) (.int .i64 (.ofNat (J.l.length - 1))) (.bool c55) (by cases c55 <;> rfl) (fun h => by obtain rfl := h; exact chkV1 (.int .i64 (.ofNat (J.l.length - 1))) (fun _ => by kernel_rfl) (vEq_int ..)) ?_
     refine cg rfl 21 (c55) (.pointer (some ⟨(blk (some ⟨bJ, 0, none⟩)), 0 + (J.l.length - 1) * 2, none⟩)) (.bool c55) (by cases c55 <;> rfl) (fun h => by obtain rfl := h; have q0 := (p55).1 rfl; exact chkO1 (.pointer (some ⟨(blk (some ⟨bJ, 0, none⟩)), 0 + (J.l.length - 1) * 2, none⟩)) (eIndexAddr ex.T 32 (.slice (some ⟨bJ, 0, none⟩) (J.l.length) J.l.length) (.int .i64 (.ofNat (J.l.length - 1)))) (fun _ => by kernel_rfl) (eIndexAddr_A (k := .i64) T_und32 T_size95 ((hAr.okN (N := J.l.length) (c := J.l.length) (fun _ _ => rfl) rfl (by omega) (by omega)).blkA rfl (zl ((Nat.lt_of_lt_of_eq (hlt56 rfl) rfl.symm)))) ((hlt56 rfl))) (vEq_ptr ..)) ?_
     refine cg rfl 21 (c55) (.agg (encSpan x57).toArray) (.bool c55) (by cases c55 <;> rfl) (fun h => by obtain rfl := h; have q0 := (p55).1 rfl; exact chkO1 (.agg (encSpan x57).toArray) (eLoad ex.T hp30.get 95 (.pointer (some ⟨(blk (some ⟨bJ, 0, none⟩)), 0 + (J.l.length - 1) * 2, none⟩))) (fun _ => by kernel_rfl) (eLoad_aggE T_agg95 T_size95 ((hAr.okN (N := J.l.length) (c := J.l.length) (fun _ _ => rfl) rfl (by omega) (by omega)).blkB rfl (zl ((Nat.lt_of_lt_of_eq (hlt56 rfl) rfl.symm)))) (flat_at0 (hAr.okN (N := J.l.length) (c := J.l.length) (fun _ _ => rfl) rfl (by omega) (by omega)).1 (hx58 rfl))) (encSpan_vEq x57)) ?_
     refine cg rfl 21 (c55) (.agg (encSpan x18).toArray) (.bool c55) (by cases c55 <;> rfl) (fun h => by obtain rfl := h; exact chkO1 (.agg (encSpan x18).toArray) (eLoad ex.T hp30.get 95 (.pointer (some ⟨nx7, 0, none⟩))) (fun _ => by kernel_rfl) (eLoad_agg T_agg95 T_size95 hb33 rfl) (encSpan_vEq x18)) ?_
     exact Chks.nil
    refine WC.at rfl (WC.gq (c55) (GB (c55) ((x57 = x18 ∨ x18.fLo ≤ wrapE .i64 (x57.fHi + 1))) (nx7 + 1) hp30) (.bool c55) (g := opd (.tmp 21)) rfl (by kernel_rfl) (by cases c55 <;> rfl) (fun h => by obtain rfl : c55 = true := (by simpa using h); have q0 := (p55).1 rfl; exact WC.call 28 90 ([.agg (encSpan x57).toArray, .agg (encSpan x18).toArray]) (fun _ _ _ => by kernel_rfl) ((tidy2_wf x57 x18 hp30 (nx7 + 1)).mono fun v hp' nx' ⟨⟨c, hv, hc⟩, hn, he⟩ => ⟨_, _, _, rfl, ⟨c, hv, hc⟩, hn, he⟩)) (fun h => GB.off h) ?_)
    rintro _ hp59 nx60 ⟨⟨c63, rfl, p63⟩, hn61, he62⟩
    have hE64 := hE35.trans he62 le29
    have hb65 := he62.get hb33 (Nat.lt_succ_self (nx7))
    have rl69 := Nat.le_trans rl28 hn61
    have le70 := Nat.le_trans le29 hn61
    have hG71 := hJ1.mono he62 hn61
    have hG72 := hAr.mono he62 hn61
    refine WD.last ?_
    obtain ⟨c73, e73, p73⟩ := @nb ((c55 && c63)) (((0) ≤ ((J.l.length - 1 : Nat) : Int)) ∧ ((x57 = x18 ∨ x18.fLo ≤ wrapE .i64 (x57.fHi + 1)))) (by rw [Bool.and_eq_true, p55, p63])
    refine WN.consAt rfl (WC.opt (v := .bool c73) 29 (ePick (.bool c55) ((bif c55 then .bool c63 else undef)) (.bool false)) (fun _ _ _ => by kernel_rfl) (by rw [e73]; exact ePick_and (fun h => by obtain rfl : c55 = true := h; rfl)) ?_)
    refine WN.nil ⟨?_, ?_⟩
    ·
     refine co (.bool c73) (ePick (.bool c55) ((bif c55 then .bool c63 else undef)) (.bool false)) ((by rw [e73]; exact ePick_and (fun h => by obtain rfl : c55 = true := h; rfl))) (vEq_bool 8 c73) ?_
     exact Chks.nil
    refine WP.cond c73 (by kernel_rfl) (fun h74 => ?_) (fun h74 => ?_)
    ·
     have q75 := (p73).1 h74
     refine WP.drawS [⟨[0, 1, 2, 3, 4, 5, 6, 7], [0, 1, 2, 3, 4, 5, 6, 7], some 8⟩, ⟨[9], [0, 1, 9], some 10⟩, ⟨[], [], none⟩] (by kernel_rfl) _ rfl ?_
     refine WD.eff ?_
     refine nv 30 (.slice (some ⟨bJ, 0, none⟩) (J.l.length) J.l.length) ?_
     refine nv 31 (.int .i64 (.ofNat (J.l.length - 1))) ?_
     refine nv 32 (.func (.func 92) #[] #[]) ?_
     refine nv 33 (.slice (some ⟨bJ, 0, none⟩) (J.l.length) J.l.length) ?_
     refine nv 34 (.int .i64 (.ofNat (J.l.length - 1))) ?_
     have hlt76 : J.l.length - 1 < J.l.length := by omega
     refine WN.consAt rfl (WC.ix (k := .i64) (some ⟨bJ, 0, none⟩) (J.l.length) J.l.length (J.l.length - 1) 2 (by kernel_rfl) (by kernel_rfl) T_und32 T_size95 ((hG72.okN (N := J.l.length) (c := J.l.length) (fun _ _ => rfl) rfl (by omega) (by omega)).blkA rfl (zl ((Nat.lt_of_lt_of_eq hlt76 rfl.symm)))) (hlt76) ?_)
     obtain ⟨x77, hx78⟩ : ∃ el_, (⟨.slice (some ⟨bJ, 0, none⟩) (J.l.length) J.l.length, J.l⟩ : SV RSpan).l[J.l.length - 1]? = some el_ := ⟨_, List.getElem?_eq_getElem ((Nat.lt_of_lt_of_eq hlt76 rfl.symm))⟩
     refine WN.consAt rfl (WC.loadSE (blk (some ⟨bJ, 0, none⟩)) (0 + (J.l.length - 1) * 2) (encSpan x77) (by kernel_rfl) T_agg95 T_size95 ((hG72.okN (N := J.l.length) (c := J.l.length) (fun _ _ => rfl) rfl (by omega) (by omega)).blkB rfl (zl ((Nat.lt_of_lt_of_eq hlt76 rfl.symm)))) (flat_at0 (hG72.okN (N := J.l.length) (c := J.l.length) (fun _ _ => rfl) rfl (by omega) (by omega)).1 hx78) ?_)
     refine WN.consAt rfl (WC.loadS nx7 (0) (encSpan x18) (by kernel_rfl) T_agg95 T_size95 hb65 rfl ?_)
     refine WN.nil ⟨?_, ?_⟩
     ·
      refine cv (.slice (some ⟨bJ, 0, none⟩) (J.l.length) J.l.length) (vEq_sl ..) ?_
      refine cv (.int .i64 (.ofNat (J.l.length - 1))) (vEq_int ..) ?_
      refine cv (.func (.func 92) #[] #[]) (by kernel_rfl) ?_
      refine cv (.slice (some ⟨bJ, 0, none⟩) (J.l.length) J.l.length) (vEq_sl ..) ?_
      refine cv (.int .i64 (.ofNat (J.l.length - 1))) (vEq_int ..) ?_
      refine co (.pointer (some ⟨(blk (some ⟨bJ, 0, none⟩)), 0 + (J.l.length - 1) * 2, none⟩)) (eIndexAddr ex.T 32 (.slice (some ⟨bJ, 0, none⟩) (J.l.length) J.l.length) (.int .i64 (.ofNat (J.l.length - 1)))) (eIndexAddr_A (k := .i64) T_und32 T_size95 ((hG72.okN (N := J.l.length) (c := J.l.length) (fun _ _ => rfl) rfl (by omega) (by omega)).blkA rfl (zl ((Nat.lt_of_lt_of_eq hlt76 rfl.symm)))) (hlt76)) (vEq_ptr ..) ?_
      refine co (.agg (encSpan x77).toArray) (eLoad ex.T hp59.get 95 (.pointer (some ⟨(blk (some ⟨bJ, 0, none⟩)), 0 + (J.l.length - 1) * 2, none⟩))) (eLoad_aggE T_agg95 T_size95 ((hG72.okN (N := J.l.length) (c := J.l.length) (fun _ _ => rfl) rfl (by omega) (by omega)).blkB rfl (zl ((Nat.lt_of_lt_of_eq hlt76 rfl.symm)))) (flat_at0 (hG72.okN (N := J.l.length) (c := J.l.length) (fun _ _ => rfl) rfl (by omega) (by omega)).1 hx78)) (encSpan_vEq x77) ?_
      refine co (.agg (encSpan x18).toArray) (eLoad ex.T hp59.get 95 (.pointer (some ⟨nx7, 0, none⟩))) (eLoad_agg T_agg95 T_size95 hb65 rfl) (encSpan_vEq x18) ?_
      exact Chks.nil
     refine WC.at rfl (WC.call 38 92 ([.agg (encSpan x77).toArray, .agg (encSpan x18).toArray]) (fun _ _ _ => by kernel_rfl) ((tidy3_wf x77 x18 hp59 (nx60)).mono ?_))
     rintro _ hp80 nx81 ⟨⟨z79, rfl⟩, hn82, he83⟩
     have hE84 := hE64.trans he83 le70
     have rl89 := Nat.le_trans rl69 hn82
     have hG91 := hG71.mono he83 hn82
     have hG92 := hG72.mono he83 hn82
     refine WD.eff ?_
     have hlt93 : J.l.length - 1 < J.l.length := by omega
     refine WN.consAt rfl (WC.ix (k := .i64) (some ⟨bJ, 0, none⟩) (J.l.length) J.l.length (J.l.length - 1) 2 (by kernel_rfl) (by kernel_rfl) T_und32 T_size95 ((hG92.okN (N := J.l.length) (c := J.l.length) (fun _ _ => rfl) rfl (by omega) (by omega)).blkA rfl (zl ((Nat.lt_of_lt_of_eq hlt93 rfl.symm)))) (hlt93) ?_)
     refine WN.nil ⟨?_, ?_⟩
     ·
      refine cv (.slice (some ⟨bJ, 0, none⟩) (J.l.length) J.l.length) (vEq_sl ..) ?_
      refine cv (.int .i64 (.ofNat (J.l.length - 1))) (vEq_int ..) ?_
      refine co (.pointer (some ⟨(blk (some ⟨bJ, 0, none⟩)), 0 + (J.l.length - 1) * 2, none⟩)) (eIndexAddr ex.T 32 (.slice (some ⟨bJ, 0, none⟩) (J.l.length) J.l.length) (.int .i64 (.ofNat (J.l.length - 1)))) (eIndexAddr_A (k := .i64) T_und32 T_size95 ((hG92.okN (N := J.l.length) (c := J.l.length) (fun _ _ => rfl) rfl (by omega) (by omega)).blkA rfl (zl ((Nat.lt_of_lt_of_eq hlt93 rfl.symm)))) (hlt93)) (vEq_ptr ..) ?_
      exact Chks.nil
     refine WC.at rfl (WC.storeA (.agg (encSpan (⟨x77.fLo, z79⟩ : RSpan)).toArray) (⟨x77.fLo, z79⟩ : RSpan) rfl (by kernel_rfl) (by kernel_rfl) hG92 (fun _ _ => rfl) (Nat.lt_of_lt_of_eq hlt93 rfl.symm) T_size95 rfl rfl rfl ?_)
     rintro hp94 hA95 he96
     have hE97 := hE84.trans he96 (by omega)
     obtain ⟨L99, hL99⟩ : ∃ L', L' = J.l.set (J.l.length - 1) (⟨x77.fLo, z79⟩ : RSpan) := ⟨_, rfl⟩
     rw [← hL99] at hA95
     have hl100 : L99.length = J.l.length := by rw [hL99, List.length_set]
     have hs2 : SpSep L99 := by rw [hL99]; exact hsep.setLast hx78 rfl
     refine WD.last ?_
     refine WN.nil ⟨?_, ?_⟩
     ·
      exact Chks.nil
     refine WP.region ?_
     refine ov 44 (.int .i64 (.ofNat (iL4 + 1))) ?_ (fun _ _ _ => by rw [← wrapAdd (show iL4 + 1 < 9223372036854775808 by omega)]; kernel_rfl)
     refine ov 12 (.int .i64 (.ofNat (iL4 + 1))) ?_
     refine WO.nil ?_
     refine ⟨K.l.length - (iL4 + 1), by omega, iL4 + 1, ⟨.slice (some ⟨bJ, 0, none⟩) J.l.length J.l.length, L99⟩, by omega, by kernel_rfl, by kernel_rfl, by kernel_rfl, by kernel_rfl, by kernel_rfl, by kernel_rfl, rfl, rfl, ?_, ?_, ?_, ?_, ?_⟩
     · exact rl89
     · exact hE97
     · exact hs2
     · exact (show L99.length ≤ _ by omega)
     · exact .inr ⟨(show 0 < L99.length by omega), bJ, gJ, (by show Value.slice _ J.l.length J.l.length = Value.slice _ L99.length L99.length; rw [hl100]), hA95⟩
    ·
     have q75 := nq p73 h74
     refine WP.region ?_
     refine ov 40 (.slice (some ⟨bJ, 0, none⟩) (J.l.length) J.l.length) ?_
     refine WO.cons (WC.loadS nx7 (0) (encSpan x18) (by kernel_rfl) T_agg95 T_size95 hb65 rfl ?_)
     refine WO.cons (WC.buildSlice [.int .i64 (x18.fLo), .int .i64 (x18.fHi)] rfl (by kernel_rfl) ?_)
     obtain ⟨hp101, hx102, he103, hb104⟩ := boxed hp59 (nx60) [.int .i64 (x18.fLo), .int .i64 (x18.fHi)]
     rw [hx102]; clear hx102
     have hE105 := hE64.trans he103 le70
     have rl110 := Nat.le_trans rl69 (Nat.le_succ (nx60))
     have hG112 := hG71.mono he103 (Nat.le_succ (nx60))
     have hG113 := hG72.mono he103 (Nat.le_succ (nx60))
     obtain ⟨inf, hinf, hby⟩ := infoSpan
     refine WO.cons (WC.appendA (enc := encSpan) (J := ⟨.slice (some ⟨bJ, 0, none⟩) J.l.length J.l.length, J.l⟩) x18 rfl (by kernel_rfl) (by kernel_rfl) hG112 (spanFlat _) hb104 rfl T_und32 T_size95 T_zero95 hinf rfl rfl hby (show J.l.length ≤ 1048576 by omega) (by omega) rfl ?_)
     rintro J2 hp2 nx2 hJ2l hn2 he2 hG2
     have hE115 := hE105.trans he2 (Nat.le_refl nx)
     have rl118 := Nat.le_trans rl110 hn2
     have hs2 : SpSep J2.l := by rw [hJ2l]; exact hsep.snoc (fun a ha h => by have hz := (hx58p (by omega)); rw [ha] at hz; cases hz; have h2 := not_or.1 (fun h => q75 ⟨by omega, h⟩); unfold Apart; have := h2.2; omega)
     have hl2 : J2.l.length ≤ iL4 + 1 := by rw [hJ2l, List.length_append]; simp; omega
     refine ov 6 (J2.v) ?_
     refine WO.nil ?_
     refine WP.region ?_
     refine ov 44 (.int .i64 (.ofNat (iL4 + 1))) ?_ (fun _ _ _ => by rw [← wrapAdd (show iL4 + 1 < 9223372036854775808 by omega)]; kernel_rfl)
     refine ov 12 (.int .i64 (.ofNat (iL4 + 1))) ?_
     refine WO.nil ?_
     refine ⟨K.l.length - (iL4 + 1), by omega, iL4 + 1, J2, by omega, by kernel_rfl, by kernel_rfl, by kernel_rfl, by kernel_rfl, by kernel_rfl, by kernel_rfl, rfl, rfl, ?_, ?_, ?_, ?_, ?_⟩
     · exact rl118
     · exact hE115
     · exact hs2
     · exact hl2
     · exact hG2
  ·
   have q16 := nq p14 h15
   refine WP.exit ?_
   refine sr ?_
   refine ov 45 (J.v) ?_
   refine ov 6 (J.v) ?_
   refine WO.nil ?_
   refine WP.ret ⟨rfl, rfl, [J.v], by kernel_rfl, ?_⟩
   exact ⟨J, rfl, hsep, by omega, hJG.ok (spanFlat _) (by omega), le11, he10⟩
 ·
  exact ⟨0, ⟨.slice none 0 0, []⟩, by omega, by kernel_rfl, by kernel_rfl, by kernel_rfl, by kernel_rfl, by kernel_rfl, by kernel_rfl, rfl, rfl, Nat.le_refl _, hE, (fun _ _ _ h => by simp at h), (Nat.le_refl 0), GroA.nil⟩
end
end Sw

namespace Sw
noncomputable section
open Go Go.Proofs Go.RowKit
set_option maxRecDepth 100000
set_option maxHeartbeats 1600000
theorem tidy_wf (K : SV RSpan) (hp : Ht) (nx : Nat) (hK : SOk encSpan 2 hp nx K) (hKl : K.l.length ≤ 12) : WF ex 40 [K.v] hp nx (fun v hp' nx' => ∃ J : SV RSpan, v = J.v ∧ SpSep J.l ∧ J.l.length ≤ K.l.length ∧ SOk encSpan 2 hp' nx' J ∧ nx ≤ nx' ∧ HE nx hp hp') := by
 obtain ⟨a1, c2, hv3⟩ := hK.shape
 have hsm3 := hK.2.2
 rw [hv3]
 refine WF.body (fi := ⟨Tryz.f40.body.getD .skip, 10, [.tmp 2]⟩) (by kernel_rfl) (by kernel_rfl) (by kernel_rfl) rfl ?_
 have hE := HE.refl nx hp
 refine sr ?_
 refine ov 2 (.slice none (0) 0) ?_
 refine WO.nil ?_
 refine sr ?_
 refine ov 4 (.slice a1 (K.l.length) c2) ?_
 refine WO.cons (WC.call 5 88 ([K.v]) (fun _ _ _ => by (try rw [hv3]); kernel_rfl) ((values_wf K hp (nx) (hK.mono hE (Nat.le_refl nx))).mono ?_))
 rintro _ hp4 nx5 ⟨bx, rfl, hbx, hblt, hn6, he7⟩
 have hE8 := hE.trans he7 (Nat.le_refl nx)
 have le9 := Nat.le_trans (Nat.le_refl nx) hn6
 refine WO.cons (WC.call 6 87 ([.func (.func 187) #[] #[.pointer (some ⟨bx, 0, none⟩)], .func (.func 89) #[] #[]]) (fun _ _ _ => by kernel_rfl) ((sortedFunc_wf K 187 #[.pointer (some ⟨bx, 0, none⟩)] 89 #[] hp4 (nx5) (by omega) (fun y Inv hp1 nx1 h1 he1 hI hm hs => valuesF_wf K y bx Inv hp4 (nx5) (hK.mono hE8 le9) hbx hblt hp1 nx1 h1 he1 hI hm hs) (fun x y hp' nx' => tidy1_wf x y hp' nx') (by kernel_rfl)).mono ?_))
 rintro _ hp10 nx11 ⟨J0, rfl, hJ0l, hJ0ok, hn12, he13⟩
 have hE14 := hE8.trans he13 le9
 have le15 := Nat.le_trans le9 hn12
 refine ov 0 (J0.v) ?_
 refine WO.nil ?_
 refine sr ?_
 refine ov 3 (.func (.func 90) #[] #[]) ?_
 refine WO.nil ?_
 refine sr ?_
 refine ov 7 (J0.v) ?_
 refine ov 8 (.func (.func 90) #[] #[]) ?_
 refine WO.cons (WC.call 9 91 ([J0.v, .func (.func 90) #[] #[], .func (.func 92) #[] #[]]) (fun _ _ _ => by kernel_rfl) ((join_wf J0 hp10 (nx11) hJ0ok (by omega)).mono ?_))
 rintro _ hp16 nx17 ⟨J, rfl, hsepJ, hlenJ, hJok, hn18, he19⟩
 have hE20 := hE14.trans he19 le15
 have le21 := Nat.le_trans le15 hn18
 refine ov 2 (J.v) ?_
 refine WO.nil ?_
 refine WP.ret ⟨rfl, rfl, [J.v], by kernel_rfl, ?_⟩
 exact ⟨J, rfl, hsepJ, by omega, hJok, le21, hE20⟩
theorem spanSet_wf (K : SV RSpan) (hp : Ht) (nx : Nat) (hK : SOk encSpan 2 hp nx K) (hKl : K.l.length ≤ 12) : WF ex 16 [K.v] hp nx (fun v hp' nx' => ∃ (J : SV RSpan) (z : Int), v = .tuple ⟨[J.v, .int .i64 z]⟩ ∧ SOk encSpan 2 hp' nx' J ∧ (z = 0 → (∀ s ∈ K.l, SpanOk s) ∧ SpSep J.l) ∧ nx ≤ nx' ∧ HE nx hp hp') := by
 obtain ⟨a1, c2, hv3⟩ := hK.shape
 have hsm3 := hK.2.2
 rw [hv3]
 refine WF.body (fi := ⟨Tryz.f16.body.getD .skip, 12, [.tmp 2, .tmp 3]⟩) (by kernel_rfl) (by kernel_rfl) (by kernel_rfl) rfl ?_
 have hE := HE.refl nx hp
 refine sr ?_
 refine ov 2 (.slice none (0) 0) ?_
 refine ov 3 (.int .i64 (0)) ?_
 refine WO.nil ?_
 refine WP.seq ?_
 refine sr ?_
 refine ov 4 (.slice a1 (K.l.length) c2) ?_
 refine WO.cons (WC.buildSlice [.slice a1 (K.l.length) c2] rfl (by kernel_rfl) ?_)
 obtain ⟨hp4, hx5, he6, hb7⟩ := boxed hp (nx) [.slice a1 (K.l.length) c2]
 rw [hx5]; clear hx5
 have hE8 := hE.trans he6 (Nat.le_refl nx)
 have le9 := Nat.le_trans (Nat.le_refl nx) (Nat.le_succ (nx))
 refine WO.cons (WC.call 6 39 ([(⟨.slice (some ⟨nx, 0, none⟩) 1 1, [K]⟩ : SV (SV RSpan)).v]) (fun _ _ _ => by kernel_rfl) ((spanCheckL_wf (⟨.slice (some ⟨nx, 0, none⟩) 1 1, [K]⟩ : SV (SV RSpan)) hp4 (nx + 1) ⟨(SOk.ofBox (enc := encSl) (by simp [encSl]) hb7 (by show _ = [K.v]; rw [hv3]) (by decide) (by omega) (by simp)), fun y hy => by rw [List.mem_singleton.1 hy]; exact hK.mono hE8 le9⟩).mono ?_))
 rintro _ hp11 nx12 ⟨⟨z15, rfl, hz⟩, hn13, he14⟩
 have hE16 := hE8.trans he14 le9
 have le19 := Nat.le_trans le9 hn13
 refine ov 3 (.int .i64 (z15)) ?_
 refine WO.nil ?_
 refine sr ?_
 refine ov 7 (.int .i64 (z15)) ?_
 obtain ⟨c20, e20, p20⟩ := @nb ((!(eqI (z15) (0)))) ((z15) ≠ (0)) (neI_iff)
 refine ov 8 (.bool c20) ?_ (fun _ _ _ => by subst e20; kernel_rfl)
 refine WO.nil ?_
 refine WP.cond c20 (by kernel_rfl) (fun h21 => ?_) (fun h21 => ?_)
 ·
  have q22 := (p20).1 h21
  refine sr ?_
  refine ov 9 (.int .i64 (z15)) ?_
  refine ov 2 (.slice none (0) 0) ?_
  refine ov 3 (.int .i64 (z15)) ?_
  refine WO.nil ?_
  refine WP.ret ⟨rfl, rfl, [.slice none (0) 0, .int .i64 (z15)], by kernel_rfl, ?_⟩
  exact ⟨⟨.slice none 0 0, []⟩, _, rfl, GroA.nil.ok (B := 0) (fun _ _ => rfl) (by decide), fun h => absurd h q22, le19, hE16⟩
 ·
  have q22 := nq p20 h21
  refine WP.skip ?_
  refine sr ?_
  refine ov 10 (.slice a1 (K.l.length) c2) ?_
  refine WO.cons (WC.call 11 40 ([K.v]) (fun _ _ _ => by (try rw [hv3]); kernel_rfl) ((tidy_wf K hp11 (nx12) (hK.mono hE16 le19) (by omega)).mono ?_))
  rintro _ hp23 nx24 ⟨J, rfl, hsepJ, hlenJ, hJok, hn25, he26⟩
  have hE27 := hE16.trans he26 le19
  have le30 := Nat.le_trans le19 hn25
  refine ov 2 (J.v) ?_
  refine ov 3 (.int .i64 (0)) ?_
  refine WO.nil ?_
  refine WP.ret ⟨rfl, rfl, [J.v, .int .i64 (0)], by kernel_rfl, ?_⟩
  exact ⟨J, 0, rfl, hJok, fun _ => ⟨hz (Classical.not_not.1 q22) K (List.mem_singleton.2 rfl), hsepJ⟩, le30, hE27⟩
end
end Sw

namespace Sw
noncomputable section
open Go Go.Proofs Go.RowKit
set_option maxRecDepth 100000
set_option maxHeartbeats 1600000
def loOf (t : RTotal) : Int := (t.fSums.l[0]?.map (·.fLo)).getD 0
def hiOf (t : RTotal) : Int := (t.fSums.l[t.fSums.l.length - 1]?.map (·.fHi)).getD 0
theorem loOf_eq {t : RTotal} {x : RSpan} (h : t.fSums.l[0]? = some x) : loOf t = x.fLo := by unfold loOf; rw [h]; rfl
theorem hiOf_eq {t : RTotal} {x : RSpan} (h : t.fSums.l[t.fSums.l.length - 1]? = some x) : hiOf t = x.fHi := by unfold hiOf; rw [h]; rfl
theorem equal_wf (K J : SV RSpan) (hp : Ht) (nx : Nat) (hK : SOk encSpan 2 hp nx K) (hJ : SOk encSpan 2 hp nx J) : WF ex 17 [K.v, J.v] hp nx (Stays nx hp (BoolIs (K.l = J.l))) := by
 obtain ⟨a1, c2, hv3⟩ := hK.shape
 have hsm3 := hK.2.2
 rw [hv3]
 obtain ⟨a4, c5, hv6⟩ := hJ.shape
 have hsm6 := hJ.2.2
 rw [hv6]
 refine WF.body (fi := ⟨Tryz.f17.body.getD .skip, 26, [.tmp 4]⟩) (by kernel_rfl) (by kernel_rfl) (by kernel_rfl) rfl ?_
 have hE := HE.refl nx hp
 refine sr ?_
 refine ov 4 (.bool false) ?_
 refine WO.nil ?_
 refine WP.seq ?_
 refine sr ?_
 refine ov 6 (.slice a1 (K.l.length) c2) ?_
 refine ov 7 (.int .i64 (.ofNat (K.l.length))) ?_
 refine ov 8 (.slice a4 (J.l.length) c5) ?_
 refine ov 9 (.int .i64 (.ofNat (J.l.length))) ?_
 obtain ⟨c7, e7, p7⟩ := @nb ((!(eqI (.ofNat (K.l.length)) (.ofNat (J.l.length))))) (((K.l.length : Nat) : Int) ≠ ((J.l.length : Nat) : Int)) (neI_iff)
 refine ov 10 (.bool c7) ?_ (fun _ _ _ => by subst e7; kernel_rfl)
 refine WO.nil ?_
 refine WP.cond c7 (by kernel_rfl) (fun h8 => ?_) (fun h8 => ?_)
 ·
  have q9 := (p7).1 h8
  refine sr ?_
  refine ov 4 (.bool false) ?_
  refine WO.nil ?_
  refine WP.ret ⟨rfl, rfl, [.bool false], by kernel_rfl, ?_⟩
  refine ⟨⟨false, rfl, ⟨fun h => (by cases h), fun hok => False.elim ?_⟩⟩, (Nat.le_refl nx), hE⟩
  exact absurd (congrArg List.length hok) (by omega)
 ·
  have q9 := nq p7 h8
  refine WP.skip ?_
  refine WP.seq ?_
  refine sr ?_
  refine ov 11 (.slice a1 (K.l.length) c2) ?_
  refine ov 12 (.int .i64 (.ofNat (K.l.length))) ?_
  refine ov 13 (.int .i64 (0)) ?_
  refine WO.nil ?_
  refine WP.block ?_
  have hj11 : ∀ t : Tm, ((((t.set 0 (t.get 0)).set 1 (t.get 1)).set 12 (t.get 12)).set 13 (t.get 13)) = t := fun t => by kernel_rfl
  refine WP.loop (fun m s => ∃ (iL10 : Nat), iL10 + m = K.l.length ∧ s.to.get 0 = .slice a1 (K.l.length) c2 ∧ s.to.get 1 = .slice a4 (J.l.length) c5 ∧ s.to.get 12 = .int .i64 (.ofNat (K.l.length)) ∧ s.to.get 13 = .int .i64 (.ofNat iL10) ∧ s.ds = [] ∧ s.cs = [] ∧ nx ≤ s.nx ∧ HE (nx) hp s.hp ∧ (∀ j, j < iL10 → K.l[j]? = J.l[j]?)) ?_ (K.l.length) ?_
  ·
   rintro mL10 ⟨toL10, dsL10, hp12, nx13, csL10⟩ ⟨iL10, him14, gL10_0, gL10_1, gL10_12, gL10_13, hdsL10, hcsL10, hn15, he16, heq⟩
   simp only at gL10_0 gL10_1 gL10_12 gL10_13 hdsL10 hcsL10 hn15 he16
   subst hdsL10 hcsL10
   rw [← hj11 toL10, gL10_0, gL10_1, gL10_12, gL10_13]
   clear gL10_0 gL10_1 gL10_12 gL10_13
   have hE17 := hE.trans he16 (Nat.le_refl nx)
   have le18 := Nat.le_trans (Nat.le_refl nx) hn15
   refine sr ?_
   obtain ⟨c19, e19, p19⟩ := @nb (ltI (.ofNat iL10) (.ofNat (K.l.length))) (((iL10 : Nat) : Int) < ((K.l.length : Nat) : Int)) (ltI_iff)
   refine ov 14 (.bool c19) ?_ (fun _ _ _ => by subst e19; kernel_rfl)
   refine WO.nil ?_
   refine WP.seq ?_
   refine WP.cond c19 (by kernel_rfl) (fun h20 => ?_) (fun h20 => ?_)
   ·
    have q21 := (p19).1 h20
    refine WP.skip ?_
    refine WP.seq ?_
    refine WP.block ?_
    refine sr ?_
    refine ov 15 (.int .i64 (.ofNat iL10)) ?_
    refine ov 5 (.int .i64 (.ofNat iL10)) ?_
    refine WO.nil ?_
    refine WP.seq ?_
    refine WP.drawS [⟨[0, 1, 2, 3, 4, 5, 6, 7, 8], [0, 1, 2, 3, 4, 5, 6, 7, 8], none⟩] (by kernel_rfl) _ rfl ?_
    refine WD.last ?_
    refine nv 16 (.slice a1 (K.l.length) c2) ?_
    refine nv 17 (.int .i64 (.ofNat iL10)) ?_
    have hlt22 : iL10 < K.l.length := by omega
    refine WN.consAt rfl (WC.ix (k := .i64) a1 (K.l.length) c2 (iL10) 2 (by kernel_rfl) (by kernel_rfl) T_und32 T_size95 ((hK.mono hE17 le18).blkA hv3 (zl hlt22)) (hlt22) ?_)
    obtain ⟨x23, hx24⟩ : ∃ el_, K.l[iL10]? = some el_ := ⟨_, List.getElem?_eq_getElem (hlt22)⟩
    refine WN.consAt rfl (WC.loadSE (blk a1) (0 + (iL10) * 2) (encSpan x23) (by kernel_rfl) T_agg95 T_size95 ((hK.mono hE17 le18).blkB hv3 (zl hlt22)) (flat_at0 (hK.mono hE17 le18).1 hx24) ?_)
    refine nv 20 (.slice a4 (J.l.length) c5) ?_
    refine nv 21 (.int .i64 (.ofNat iL10)) ?_
    have hlt25 : iL10 < J.l.length := by omega
    refine WN.consAt rfl (WC.ix (k := .i64) a4 (J.l.length) c5 (iL10) 2 (by kernel_rfl) (by kernel_rfl) T_und32 T_size95 ((hJ.mono hE17 le18).blkA hv6 (zl hlt25)) (hlt25) ?_)
    obtain ⟨x26, hx27⟩ : ∃ el_, J.l[iL10]? = some el_ := ⟨_, List.getElem?_eq_getElem (hlt25)⟩
    refine WN.consAt rfl (WC.loadSE (blk a4) (0 + (iL10) * 2) (encSpan x26) (by kernel_rfl) T_agg95 T_size95 ((hJ.mono hE17 le18).blkB hv6 (zl hlt25)) (flat_at0 (hJ.mono hE17 le18).1 hx27) ?_)
    obtain ⟨c28, e28, p28⟩ := @nb (@decide (x23 ≠ x26) (Classical.propDecidable _)) (x23 ≠ x26) (@decide_eq_true_iff _ (Classical.propDecidable _))
    refine WN.consAt rfl (WC.opt (v := .bool c28) 24 (eBin ex.T .neq 95 (.tmp 19) (.tmp 23) (.agg (encSpan x23).toArray) (.agg (encSpan x26).toArray)) (fun _ _ _ => by kernel_rfl) (encSpan_neq _ _ x23 x26 e28) ?_)
    refine WN.nil ⟨?_, ?_⟩
    ·
     refine cv (.slice a1 (K.l.length) c2) (hv3 ▸ hK.eqSelf 8) ?_
     refine cv (.int .i64 (.ofNat iL10)) (vEq_int ..) ?_
     refine co (.pointer (some ⟨(blk a1), 0 + (iL10) * 2, none⟩)) (eIndexAddr ex.T 32 (.slice a1 (K.l.length) c2) (.int .i64 (.ofNat (iL10)))) (eIndexAddr_A (k := .i64) T_und32 T_size95 ((hK.mono hE17 le18).blkA hv3 (zl hlt22)) (hlt22)) (vEq_ptr ..) ?_
     refine co (.agg (encSpan x23).toArray) (eLoad ex.T hp12.get 95 (.pointer (some ⟨(blk a1), 0 + (iL10) * 2, none⟩))) (eLoad_aggE T_agg95 T_size95 ((hK.mono hE17 le18).blkB hv3 (zl hlt22)) (flat_at0 (hK.mono hE17 le18).1 hx24)) (encSpan_vEq x23) ?_
     refine cv (.slice a4 (J.l.length) c5) (hv6 ▸ hJ.eqSelf 8) ?_
     refine cv (.int .i64 (.ofNat iL10)) (vEq_int ..) ?_
     refine co (.pointer (some ⟨(blk a4), 0 + (iL10) * 2, none⟩)) (eIndexAddr ex.T 32 (.slice a4 (J.l.length) c5) (.int .i64 (.ofNat (iL10)))) (eIndexAddr_A (k := .i64) T_und32 T_size95 ((hJ.mono hE17 le18).blkA hv6 (zl hlt25)) (hlt25)) (vEq_ptr ..) ?_
     refine co (.agg (encSpan x26).toArray) (eLoad ex.T hp12.get 95 (.pointer (some ⟨(blk a4), 0 + (iL10) * 2, none⟩))) (eLoad_aggE T_agg95 T_size95 ((hJ.mono hE17 le18).blkB hv6 (zl hlt25)) (flat_at0 (hJ.mono hE17 le18).1 hx27)) (encSpan_vEq x26) ?_
     refine co (.bool c28) (eBin ex.T .neq 95 (.tmp 19) (.tmp 23) (.agg (encSpan x23).toArray) (.agg (encSpan x26).toArray)) ((encSpan_neq _ _ x23 x26 e28)) (vEq_bool 8 c28) ?_
     exact Chks.nil
    refine WP.cond c28 (by kernel_rfl) (fun h29 => ?_) (fun h29 => ?_)
    ·
     have q30 := (p28).1 h29
     refine sr ?_
     refine ov 4 (.bool false) ?_
     refine WO.nil ?_
     refine WP.ret ⟨rfl, rfl, [.bool false], by kernel_rfl, ?_⟩
     refine ⟨⟨false, rfl, ⟨fun h => (by cases h), fun hok => False.elim ?_⟩⟩, le18, hE17⟩
     rw [hok, hx27] at hx24; cases hx24; exact q30 rfl
    ·
     have q30 := nq p28 h29
     refine WP.skip ?_
     refine WP.region ?_
     refine ov 25 (.int .i64 (.ofNat (iL10 + 1))) ?_ (fun _ _ _ => by rw [← wrapAdd (show iL10 + 1 < 9223372036854775808 by omega)]; kernel_rfl)
     refine ov 13 (.int .i64 (.ofNat (iL10 + 1))) ?_
     refine WO.nil ?_
     refine ⟨K.l.length - (iL10 + 1), by omega, iL10 + 1, by omega, by kernel_rfl, by kernel_rfl, by kernel_rfl, by kernel_rfl, rfl, rfl, ?_, ?_, ?_⟩
     · exact hn15
     · exact he16
     · intro j hj
       rcases Nat.lt_succ_iff_lt_or_eq.1 hj with hj | rfl
       · exact heq j hj
       · rw [hx24, hx27, Classical.not_not.1 q30]
   ·
    have q21 := nq p19 h20
    refine WP.exit ?_
    refine sr ?_
    refine ov 4 (.bool true) ?_
    refine WO.nil ?_
    refine WP.ret ⟨rfl, rfl, [.bool true], by kernel_rfl, ?_⟩
    refine ⟨⟨true, rfl, ⟨fun _ => ?_, fun _ => rfl⟩⟩, le18, hE17⟩
    refine List.ext_getElem? fun j => ?_
    by_cases hj : j < K.l.length
    · exact heq j (by omega)
    · rw [List.getElem?_eq_none (by omega), List.getElem?_eq_none (by omega)]
  ·
   exact ⟨0, by omega, by kernel_rfl, by kernel_rfl, by kernel_rfl, by kernel_rfl, rfl, rfl, Nat.le_refl _, HE.refl _ _, (fun _ h => absurd h (Nat.not_lt_zero _))⟩
theorem least_wf (t : RTotal) (hp : Ht) (nx : Nat) (hT : RTotalOk hp nx t) (h0 : 0 < t.fSums.l.length) : WF ex 18 [.agg (encTotal t).toArray] hp nx (Stays nx hp (fun v => v = .int .i64 (loOf t))) := by
 refine WF.body (fi := ⟨Tryz.f18.body.getD .skip, 8, [.tmp 2]⟩) (by kernel_rfl) (by kernel_rfl) (by kernel_rfl) rfl ?_
 have hE := HE.refl nx hp
 refine sr ?_
 refine WO.cons (WC.box (.agg (encTotal t).toArray) (encTotal t) rfl (by kernel_rfl) rfl ?_)
 obtain ⟨hp2, hx3, he4, hb5⟩ := boxed hp (nx) (encTotal t)
 rw [hx3]; clear hx3
 have hE6 := hE.trans he4 (Nat.le_refl nx)
 have le7 := Nat.le_trans (Nat.le_refl nx) (Nat.le_succ (nx))
 refine ov 2 (.int .i64 (0)) ?_
 refine WO.nil ?_
 refine sr ?_
 refine ov 3 (.pointer (some ⟨nx, 0 + 1, none⟩)) ?_
 obtain ⟨a8, c9, hv10⟩ := hT.fSums.shape
 have hsm10 := hT.fSums.2.2
 refine WO.cons (WC.load1 nx (0 + 1) (.slice a8 (t.fSums.l.length) c9) (by kernel_rfl) T_agg32 hb5 (by rw [← hv10]; rfl) ?_)
 have hlt11 : 0 < t.fSums.l.length := by omega
 refine WO.cons (WC.ix (k := .i64) a8 (t.fSums.l.length) c9 (0) 2 (by kernel_rfl) (by kernel_rfl) T_und32 T_size95 ((hT.fSums.mono hE6 le7).blkA hv10 (zl hlt11)) (hlt11) ?_)
 refine ov 6 (.pointer (some ⟨(blk a8), 0 + (0) * 2 + 0, none⟩)) ?_
 obtain ⟨x12, hx13⟩ : ∃ el_, t.fSums.l[0]? = some el_ := ⟨_, List.getElem?_eq_getElem (hlt11)⟩
 refine WO.cons (WC.load1E (blk a8) (0 + (0) * 2 + 0) (.int .i64 (x12.fLo)) (by kernel_rfl) T_agg3 ((hT.fSums.mono hE6 le7).blkB hv10 (zl hlt11)) (flat_at (hT.fSums.mono hE6 le7).1 hx13 (by decide) rfl) ?_)
 refine ov 2 (.int .i64 (x12.fLo)) ?_
 refine WO.nil ?_
 refine WP.ret ⟨rfl, rfl, [.int .i64 (x12.fLo)], by kernel_rfl, ?_⟩
 exact ⟨(by rw [loOf_eq hx13]; rfl), le7, hE6⟩
theorem greatest_wf (t : RTotal) (hp : Ht) (nx : Nat) (hT : RTotalOk hp nx t) (h0 : 0 < t.fSums.l.length) : WF ex 19 [.agg (encTotal t).toArray] hp nx (Stays nx hp (fun v => v = .int .i64 (hiOf t))) := by
 refine WF.body (fi := ⟨Tryz.f19.body.getD .skip, 12, [.tmp 2]⟩) (by kernel_rfl) (by kernel_rfl) (by kernel_rfl) rfl ?_
 have hE := HE.refl nx hp
 refine sr ?_
 refine WO.cons (WC.box (.agg (encTotal t).toArray) (encTotal t) rfl (by kernel_rfl) rfl ?_)
 obtain ⟨hp2, hx3, he4, hb5⟩ := boxed hp (nx) (encTotal t)
 rw [hx3]; clear hx3
 have hE6 := hE.trans he4 (Nat.le_refl nx)
 have le7 := Nat.le_trans (Nat.le_refl nx) (Nat.le_succ (nx))
 refine ov 2 (.int .i64 (0)) ?_
 refine WO.nil ?_
 refine sr ?_
 refine ov 3 (.pointer (some ⟨nx, 0 + 1, none⟩)) ?_
 obtain ⟨a8, c9, hv10⟩ := hT.fSums.shape
 have hsm10 := hT.fSums.2.2
 refine WO.cons (WC.load1 nx (0 + 1) (.slice a8 (t.fSums.l.length) c9) (by kernel_rfl) T_agg32 hb5 (by rw [← hv10]; rfl) ?_)
 refine ov 5 (.pointer (some ⟨nx, 0 + 1, none⟩)) ?_
 refine WO.cons (WC.load1 nx (0 + 1) (.slice a8 (t.fSums.l.length) c9) (by kernel_rfl) T_agg32 hb5 (by rw [← hv10]; rfl) ?_)
 refine ov 7 (.int .i64 (.ofNat (t.fSums.l.length))) ?_
 refine ov 8 (.int .i64 (.ofNat (t.fSums.l.length - 1))) ?_ (fun _ _ _ => by rw [← wrapSub (show t.fSums.l.length < 9223372036854775808 by omega) (by omega)]; kernel_rfl)
 have hlt11 : t.fSums.l.length - 1 < t.fSums.l.length := by omega
 refine WO.cons (WC.ix (k := .i64) a8 (t.fSums.l.length) c9 (t.fSums.l.length - 1) 2 (by kernel_rfl) (by kernel_rfl) T_und32 T_size95 ((hT.fSums.mono hE6 le7).blkA hv10 (zl hlt11)) (hlt11) ?_)
 refine ov 10 (.pointer (some ⟨(blk a8), 0 + (t.fSums.l.length - 1) * 2 + 1, none⟩)) ?_
 obtain ⟨x12, hx13⟩ : ∃ el_, t.fSums.l[t.fSums.l.length - 1]? = some el_ := ⟨_, List.getElem?_eq_getElem (hlt11)⟩
 refine WO.cons (WC.load1E (blk a8) (0 + (t.fSums.l.length - 1) * 2 + 1) (.int .i64 (x12.fHi)) (by kernel_rfl) T_agg3 ((hT.fSums.mono hE6 le7).blkB hv10 (zl hlt11)) (flat_at (hT.fSums.mono hE6 le7).1 hx13 (by decide) rfl) ?_)
 refine ov 2 (.int .i64 (x12.fHi)) ?_
 refine WO.nil ?_
 refine WP.ret ⟨rfl, rfl, [.int .i64 (x12.fHi)], by kernel_rfl, ?_⟩
 exact ⟨(by rw [hiOf_eq hx13]; rfl), le7, hE6⟩
end
end Sw
