/- A part of the proof that the law returns true for every input that its row speaks of. No condition is added. -/
import Derived.Test.YthnjglgannbccaaGreatDoorSwAH
namespace Sw
noncomputable section
open Go Go.Proofs Go.RowKit
set_option maxRecDepth 100000
set_option maxHeartbeats 1600000
def PossAt (F : RField) (w : Nat) : Prop := ∀ r ∈ F.fRunners.l, ∃ o, r.fWorlds.l[w]? = some o ∧ o.l ≠ []
def Poss (F : RField) : Prop := ∃ w, w ≤ F.fPairs.l.length ∧ PossAt F w
def wsum (r : RRunner) : Nat := (r.fWorlds.l.map (fun o => o.l.length)).sum
structure FewOk (F : RField) : Prop where
  runners : F.fRunners.l.length ≤ 6
  pairs : F.fPairs.l.length ≤ 3
  each : ∀ r ∈ F.fRunners.l, r.fKeys.l.length ≤ 8 ∧ r.fWorlds.l.length ≤ 5 ∧ wsum r ≤ 60
theorem T_agg29 : ex.T.agg 29 = some true := by kernel_rfl
theorem T_size29 : ex.T.size 29 = some 4 := by kernel_rfl
theorem T_zero43 : ex.T.zero 43 = some (.agg ⟨[.int .i64 (0), .slice none (0) 0, .slice none (0) 0]⟩) := by kernel_rfl
theorem in12_wf (x a b : Int) (hp : Ht) (nx : Nat) : WF ex 64 [.int .i64 (x), .int .i64 (a), .int .i64 (b)] hp nx (Stays nx hp (BoolIs (a ≤ x ∧ x ≤ b))) := by
 refine WF.body (fi := ⟨Tryz.f64.body.getD .skip, 15, [.tmp 6]⟩) (by kernel_rfl) (by kernel_rfl) (by kernel_rfl) rfl ?_
 have hE := HE.refl nx hp
 refine sr ?_
 refine ov 6 (.bool false) ?_
 refine WO.nil ?_
 refine sr ?_
 refine ov 7 (.int .i64 (x)) ?_
 refine ov 8 (.int .i64 (a)) ?_
 obtain ⟨c1, e1, p1⟩ := @nb (leI (a) (x)) ((a) ≤ (x)) (leI_iff)
 refine ov 9 (.bool c1) ?_ (fun _ _ _ => by subst e1; kernel_rfl)
 refine ov 10 (.bool c1) ?_
 refine og 10 (c1) (.int .i64 (x)) (.bool c1) (by cases c1 <;> rfl) (fun h => by obtain rfl := h; exact fun _ _ _ => by kernel_rfl) ?_
 refine og 10 (c1) (.int .i64 (b)) (.bool c1) (by cases c1 <;> rfl) (fun h => by obtain rfl := h; exact fun _ _ _ => by kernel_rfl) ?_
 obtain ⟨c2, e2, p2⟩ := @nb (leI (x) (b)) ((x) ≤ (b)) (leI_iff)
 refine og 10 (c1) (.bool c2) (.bool c1) (by cases c1 <;> rfl) (fun h => by obtain rfl := h; exact fun _ _ _ => by subst e2; kernel_rfl) ?_
 obtain ⟨c3, e3, p3⟩ := @nb ((c1 && c2)) (((a) ≤ (x)) ∧ ((x) ≤ (b))) (by rw [Bool.and_eq_true, p1, p2])
 refine WO.cons (WC.opt (v := .bool c3) 14 (ePick (.bool c1) ((bif c1 then .bool c2 else undef)) (.bool false)) (fun _ _ _ => by kernel_rfl) (by rw [e3]; exact ePick_and (fun h => by obtain rfl : c1 = true := h; rfl)) ?_)
 refine ov 6 (.bool c3) ?_
 refine WO.nil ?_
 refine WP.ret ⟨rfl, rfl, [.bool c3], by kernel_rfl, ?_⟩
 refine ⟨⟨c3, rfl, ?_⟩, (Nat.le_refl nx), hE⟩
 exact p3
theorem bib12_wf (x : Int) (hp : Ht) (nx : Nat) : WF ex 33 [.int .i64 (x)] hp nx (Stays nx hp (BoolIs (1 ≤ x ∧ x ≤ 9999))) := by
 refine WF.body (fi := ⟨Tryz.f33.body.getD .skip, 5, [.tmp 2]⟩) (by kernel_rfl) (by kernel_rfl) (by kernel_rfl) rfl ?_
 have hE := HE.refl nx hp
 refine sr ?_
 refine ov 2 (.bool false) ?_
 refine WO.nil ?_
 refine sr ?_
 refine ov 3 (.int .i64 (x)) ?_
 refine WO.cons (WC.call 4 64 ([.int .i64 (x), .int .i64 (1), .int .i64 (9999)]) (fun _ _ _ => by kernel_rfl) ((in12_wf (x) (1) (9999) hp (nx)).mono ?_))
 rintro _ hp1 nx2 ⟨⟨c5, rfl, p5⟩, hn3, he4⟩
 have hE6 := hE.trans he4 (Nat.le_refl nx)
 have le7 := Nat.le_trans (Nat.le_refl nx) hn3
 refine ov 2 (.bool c5) ?_
 refine WO.nil ?_
 refine WP.ret ⟨rfl, rfl, [.bool c5], by kernel_rfl, ?_⟩
 refine ⟨⟨c5, rfl, ?_⟩, le7, hE6⟩
 exact p5
theorem check23_wf (K : RClocks) (x : ROutcome) (hp : Ht) (nx : Nat) (hK : RClocksOk hp nx K) : WF ex 34 [.agg (encClocks K).toArray, .agg (encOutcome x).toArray] hp nx (Stays nx hp (CodeZ (ClocksOk K ∧ OutcomeOk K x))) := by
 refine WF.body (fi := ⟨Tryz.f34.body.getD .skip, 63, [.tmp 4]⟩) (by kernel_rfl) (by kernel_rfl) (by kernel_rfl) rfl ?_
 have hE := HE.refl nx hp
 refine sr ?_
 refine WO.cons (WC.box (.agg (encClocks K).toArray) (encClocks K) rfl (by kernel_rfl) rfl ?_)
 obtain ⟨hp2, hx3, he4, hb5⟩ := boxed hp (nx) (encClocks K)
 rw [hx3]; clear hx3
 have hE6 := hE.trans he4 (Nat.le_refl nx)
 have le7 := Nat.le_trans (Nat.le_refl nx) (Nat.le_succ (nx))
 refine WO.cons (WC.box (.agg (encOutcome x).toArray) (encOutcome x) rfl (by kernel_rfl) rfl ?_)
 obtain ⟨hp9, hx10, he11, hb12⟩ := boxed hp2 (nx + 1) (encOutcome x)
 rw [hx10]; clear hx10
 have hE13 := hE6.trans he11 le7
 have hb14 := he11.get hb5 (Nat.lt_succ_self (nx))
 have lt15 := Nat.lt_of_lt_of_le (Nat.lt_succ_self (nx)) (Nat.le_succ (nx + 1))
 have le16 := Nat.le_trans le7 (Nat.le_succ (nx + 1))
 refine ov 4 (.int .i64 (0)) ?_
 refine WO.nil ?_
 refine sr ?_
 refine WO.cons (WC.loadS nx (0) (encClocks K) (by kernel_rfl) T_agg25 T_size25 hb14 rfl ?_)
 refine WO.cons (WC.call 7 32 ([.agg (encClocks K).toArray]) (fun _ _ _ => by kernel_rfl) ((check16_wf K hp9 (nx + 1 + 1) (hK.mono hE13 le16)).mono ?_))
 rintro _ hp17 nx18 ⟨⟨z21, rfl, hz21, hk21⟩, hn19, he20⟩
 have hE22 := hE13.trans he20 le16
 have hb23 := he20.get hb14 lt15
 have hb25 := he20.get hb12 (Nat.lt_succ_self (nx + 1))
 have le27 := Nat.le_trans le16 hn19
 refine ov 5 (.int .i64 (z21)) ?_
 refine WO.nil ?_
 refine WP.seq ?_
 refine sr ?_
 refine ov 8 (.int .i64 (z21)) ?_
 obtain ⟨c28, e28, p28⟩ := @nb ((!(eqI (z21) (0)))) ((z21) ≠ (0)) (neI_iff)
 refine ov 9 (.bool c28) ?_ (fun _ _ _ => by subst e28; kernel_rfl)
 refine WO.nil ?_
 refine WP.cond c28 (by kernel_rfl) (fun h29 => ?_) (fun h29 => ?_)
 ·
  have q30 := (p28).1 h29
  refine sr ?_
  refine ov 10 (.int .i64 (z21)) ?_
  refine ov 4 (.int .i64 (z21)) ?_
  refine WO.nil ?_
  refine WP.ret ⟨rfl, rfl, [.int .i64 (z21)], by kernel_rfl, ?_⟩
  refine ⟨⟨z21, rfl, ⟨fun h => ?_, fun hok => ?_⟩⟩, le27, hE22⟩
  · exact absurd h q30
  · exact absurd ((hz21).2 hok.1) q30
 ·
  have q30 := nq p28 h29
  refine WP.skip ?_
  refine WP.seq ?_
  refine sr ?_
  refine ov 11 (.pointer (some ⟨(nx + 1), 0 + 0, none⟩)) ?_
  obtain ⟨c31, e31, p31⟩ := @nb (x.fOut) (x.fOut = true) (by first | done | exact Iff.rfl)
  refine WO.cons (WC.load1 (nx + 1) (0 + 0) (.bool c31) (by kernel_rfl) T_agg4 hb25 (by rw [e31]; rfl) ?_)
  refine ov 13 (.bool c31) ?_
  refine og 13 (c31) (.pointer (some ⟨(nx + 1), 0 + 1, none⟩)) (.bool c31) (by cases c31 <;> rfl) (fun h => by obtain rfl := h; exact fun _ _ _ => by kernel_rfl) ?_
  refine ogc 13 (c31) (.int .i64 (x.fSeg)) (.bool c31) (by cases c31 <;> rfl) (fun h => by obtain rfl := h; exact WC.load1 (nx + 1) (0 + 1) (.int .i64 (x.fSeg)) (by kernel_rfl) T_agg3 hb25 rfl rfl) ?_
  obtain ⟨c32, e32, p32⟩ := @nb ((!(eqI (x.fSeg) (-1)))) ((x.fSeg) ≠ (-1)) (neI_iff)
  refine og 13 (c31) (.bool c32) (.bool c31) (by cases c31 <;> rfl) (fun h => by obtain rfl := h; exact fun _ _ _ => by subst e32; kernel_rfl) ?_
  refine og 13 (c31) (.bool c32) (.bool c31) (by cases c31 <;> rfl) (fun h => by obtain rfl := h; exact fun _ _ _ => by kernel_rfl) ?_
  refine og 17 (c31 && !c32) (.pointer (some ⟨(nx + 1), 0 + 2, none⟩)) ((bif c31 then .bool c32 else undef)) (by cases c31 <;> cases c32 <;> rfl) (fun h => by obtain ⟨rfl, rfl⟩ := bTF h; exact fun _ _ _ => by kernel_rfl) ?_
  refine ogc 17 (c31 && !c32) (.int .i64 (x.fLo)) ((bif c31 then .bool c32 else undef)) (by cases c31 <;> cases c32 <;> rfl) (fun h => by obtain ⟨rfl, rfl⟩ := bTF h; exact WC.load1 (nx + 1) (0 + 2) (.int .i64 (x.fLo)) (by kernel_rfl) T_agg3 hb25 rfl rfl) ?_
  obtain ⟨c33, e33, p33⟩ := @nb ((!(eqI (x.fLo) (0)))) ((x.fLo) ≠ (0)) (neI_iff)
  refine og 17 (c31 && !c32) (.bool c33) ((bif c31 then .bool c32 else undef)) (by cases c31 <;> cases c32 <;> rfl) (fun h => by obtain ⟨rfl, rfl⟩ := bTF h; exact fun _ _ _ => by subst e33; kernel_rfl) ?_
  obtain ⟨c34, e34, p34⟩ := @nb ((c32 || c33)) (((x.fSeg) ≠ (-1)) ∨ ((x.fLo) ≠ (0))) (by rw [Bool.or_eq_true, p32, p33])
  refine ogc 13 (c31) (.bool c34) (.bool c31) (by cases c31 <;> rfl) (fun h => by obtain rfl := h; exact WC.opt (v := .bool c34) 21 (ePick (.bool c32) (.bool true) ((bif true && !c32 then .bool c33 else undef))) (fun _ _ _ => by kernel_rfl) (by rw [e34]; exact ePick_or (fun h => by obtain rfl : c32 = false := h; rfl)) rfl) ?_
  refine og 13 (c31) (.bool c34) (.bool c31) (by cases c31 <;> rfl) (fun h => by obtain rfl := h; exact fun _ _ _ => by kernel_rfl) ?_
  refine og 22 (c31 && !c34) (.pointer (some ⟨(nx + 1), 0 + 3, none⟩)) ((bif c31 then .bool c34 else undef)) (by cases c31 <;> cases c34 <;> rfl) (fun h => by obtain ⟨rfl, rfl⟩ := bTF h; exact fun _ _ _ => by kernel_rfl) ?_
  refine ogc 22 (c31 && !c34) (.int .i64 (x.fHi)) ((bif c31 then .bool c34 else undef)) (by cases c31 <;> cases c34 <;> rfl) (fun h => by obtain ⟨rfl, rfl⟩ := bTF h; exact WC.load1 (nx + 1) (0 + 3) (.int .i64 (x.fHi)) (by kernel_rfl) T_agg3 hb25 rfl rfl) ?_
  obtain ⟨c35, e35, p35⟩ := @nb ((!(eqI (x.fHi) (0)))) ((x.fHi) ≠ (0)) (neI_iff)
  refine og 22 (c31 && !c34) (.bool c35) ((bif c31 then .bool c34 else undef)) (by cases c31 <;> cases c34 <;> rfl) (fun h => by obtain ⟨rfl, rfl⟩ := bTF h; exact fun _ _ _ => by subst e35; kernel_rfl) ?_
  obtain ⟨c36, e36, p36⟩ := @nb ((c34 || c35)) ((((x.fSeg) ≠ (-1)) ∨ ((x.fLo) ≠ (0))) ∨ ((x.fHi) ≠ (0))) (by rw [Bool.or_eq_true, p34, p35])
  refine ogc 13 (c31) (.bool c36) (.bool c31) (by cases c31 <;> rfl) (fun h => by obtain rfl := h; exact WC.opt (v := .bool c36) 26 (ePick (.bool c34) (.bool true) ((bif true && !c34 then .bool c35 else undef))) (fun _ _ _ => by kernel_rfl) (by rw [e36]; exact ePick_or (fun h => by obtain rfl : c34 = false := h; rfl)) rfl) ?_
  obtain ⟨c37, e37, p37⟩ := @nb ((c31 && c36)) ((x.fOut = true) ∧ ((((x.fSeg) ≠ (-1)) ∨ ((x.fLo) ≠ (0))) ∨ ((x.fHi) ≠ (0)))) (by rw [Bool.and_eq_true, p31, p36])
  refine WO.cons (WC.opt (v := .bool c37) 27 (ePick (.bool c31) ((bif c31 then .bool c36 else undef)) (.bool false)) (fun _ _ _ => by kernel_rfl) (by rw [e37]; exact ePick_and (fun h => by obtain rfl : c31 = true := h; rfl)) ?_)
  refine ov 28 (.bool c37) ?_
  refine og 28 (!c37) (.pointer (some ⟨(nx + 1), 0 + 0, none⟩)) (.bool c37) (by cases c37 <;> rfl) (fun h => by obtain rfl := bF h; exact fun _ _ _ => by kernel_rfl) ?_
  obtain ⟨c38, e38, p38⟩ := @nb (x.fOut) (x.fOut = true) (by first | done | exact Iff.rfl)
  refine ogc 28 (!c37) (.bool c38) (.bool c37) (by cases c37 <;> rfl) (fun h => by obtain rfl := bF h; exact WC.load1 (nx + 1) (0 + 0) (.bool c38) (by kernel_rfl) T_agg4 hb25 (by rw [e38]; rfl) rfl) ?_
  obtain ⟨c39, e39, p39⟩ := @nb (!c38) (¬ (x.fOut = true)) (by rw [Bool.not_eq_true', ← Bool.not_eq_true, p38])
  refine og 28 (!c37) (.bool c39) (.bool c37) (by cases c37 <;> rfl) (fun h => by obtain rfl := bF h; exact fun _ _ _ => by subst e39; kernel_rfl) ?_
  refine og 28 (!c37) (.bool c39) (.bool c37) (by cases c37 <;> rfl) (fun h => by obtain rfl := bF h; exact fun _ _ _ => by kernel_rfl) ?_
  refine og 32 (!c37 && c39) (.pointer (some ⟨(nx + 1), 0 + 1, none⟩)) ((bif !c37 then .bool c39 else undef)) (by cases c37 <;> cases c39 <;> rfl) (fun h => by obtain ⟨rfl, rfl⟩ := bFT h; exact fun _ _ _ => by kernel_rfl) ?_
  refine ogc 32 (!c37 && c39) (.int .i64 (x.fSeg)) ((bif !c37 then .bool c39 else undef)) (by cases c37 <;> cases c39 <;> rfl) (fun h => by obtain ⟨rfl, rfl⟩ := bFT h; exact WC.load1 (nx + 1) (0 + 1) (.int .i64 (x.fSeg)) (by kernel_rfl) T_agg3 hb25 rfl rfl) ?_
  obtain ⟨c40, e40, p40⟩ := @nb (ltI (x.fSeg) (-1)) ((x.fSeg) < (-1)) (ltI_iff)
  refine og 32 (!c37 && c39) (.bool c40) ((bif !c37 then .bool c39 else undef)) (by cases c37 <;> cases c39 <;> rfl) (fun h => by obtain ⟨rfl, rfl⟩ := bFT h; exact fun _ _ _ => by subst e40; kernel_rfl) ?_
  refine og 32 (!c37 && c39) (.bool c40) ((bif !c37 then .bool c39 else undef)) (by cases c37 <;> cases c39 <;> rfl) (fun h => by obtain ⟨rfl, rfl⟩ := bFT h; exact fun _ _ _ => by kernel_rfl) ?_
  refine og 36 (!c37 && c39 && !c40) (.pointer (some ⟨(nx + 1), 0 + 1, none⟩)) ((bif !c37 && c39 then .bool c40 else undef)) (by cases c37 <;> cases c39 <;> cases c40 <;> rfl) (fun h => by obtain ⟨rfl, rfl, rfl⟩ : c37 = false ∧ c39 = true ∧ c40 = false := (by simpa [and_assoc] using h); exact fun _ _ _ => by kernel_rfl) ?_
  refine ogc 36 (!c37 && c39 && !c40) (.int .i64 (x.fSeg)) ((bif !c37 && c39 then .bool c40 else undef)) (by cases c37 <;> cases c39 <;> cases c40 <;> rfl) (fun h => by obtain ⟨rfl, rfl, rfl⟩ : c37 = false ∧ c39 = true ∧ c40 = false := (by simpa [and_assoc] using h); exact WC.load1 (nx + 1) (0 + 1) (.int .i64 (x.fSeg)) (by kernel_rfl) T_agg3 hb25 rfl rfl) ?_
  refine og 36 (!c37 && c39 && !c40) (.pointer (some ⟨nx, 0 + 0, none⟩)) ((bif !c37 && c39 then .bool c40 else undef)) (by cases c37 <;> cases c39 <;> cases c40 <;> rfl) (fun h => by obtain ⟨rfl, rfl, rfl⟩ : c37 = false ∧ c39 = true ∧ c40 = false := (by simpa [and_assoc] using h); exact fun _ _ _ => by kernel_rfl) ?_
  obtain ⟨a41, c42, hv43⟩ := hK.fSegments.shape
  have hsm43 := hK.fSegments.2.2
  refine ogc 36 (!c37 && c39 && !c40) (.slice a41 (K.fSegments.l.length) c42) ((bif !c37 && c39 then .bool c40 else undef)) (by cases c37 <;> cases c39 <;> cases c40 <;> rfl) (fun h => by obtain ⟨rfl, rfl, rfl⟩ : c37 = false ∧ c39 = true ∧ c40 = false := (by simpa [and_assoc] using h); exact WC.load1 nx (0 + 0) (.slice a41 (K.fSegments.l.length) c42) (by kernel_rfl) T_agg22 hb23 (by rw [← hv43]; rfl) rfl) ?_
  refine og 36 (!c37 && c39 && !c40) (.int .i64 (.ofNat (K.fSegments.l.length))) ((bif !c37 && c39 then .bool c40 else undef)) (by cases c37 <;> cases c39 <;> cases c40 <;> rfl) (fun h => by obtain ⟨rfl, rfl, rfl⟩ : c37 = false ∧ c39 = true ∧ c40 = false := (by simpa [and_assoc] using h); exact fun _ _ _ => by kernel_rfl) ?_
  obtain ⟨c44, e44, p44⟩ := @nb (leI (.ofNat (K.fSegments.l.length)) (x.fSeg)) (((K.fSegments.l.length : Nat) : Int) ≤ (x.fSeg)) (leI_iff)
  refine og 36 (!c37 && c39 && !c40) (.bool c44) ((bif !c37 && c39 then .bool c40 else undef)) (by cases c37 <;> cases c39 <;> cases c40 <;> rfl) (fun h => by obtain ⟨rfl, rfl, rfl⟩ : c37 = false ∧ c39 = true ∧ c40 = false := (by simpa [and_assoc] using h); exact fun _ _ _ => by subst e44; kernel_rfl) ?_
  obtain ⟨c45, e45, p45⟩ := @nb ((c40 || c44)) (((x.fSeg) < (-1)) ∨ (((K.fSegments.l.length : Nat) : Int) ≤ (x.fSeg))) (by rw [Bool.or_eq_true, p40, p44])
  refine ogc 32 (!c37 && c39) (.bool c45) ((bif !c37 then .bool c39 else undef)) (by cases c37 <;> cases c39 <;> rfl) (fun h => by obtain ⟨rfl, rfl⟩ := bFT h; exact WC.opt (v := .bool c45) 43 (ePick (.bool c40) (.bool true) ((bif !false && true && !c40 then .bool c44 else undef))) (fun _ _ _ => by kernel_rfl) (by rw [e45]; exact ePick_or (fun h => by obtain rfl : c40 = false := h; rfl)) rfl) ?_
  refine og 32 (!c37 && c39) (.bool c45) ((bif !c37 then .bool c39 else undef)) (by cases c37 <;> cases c39 <;> rfl) (fun h => by obtain ⟨rfl, rfl⟩ := bFT h; exact fun _ _ _ => by kernel_rfl) ?_
  refine og 44 (!c37 && c39 && !c45) (.pointer (some ⟨(nx + 1), 0 + 2, none⟩)) ((bif !c37 && c39 then .bool c45 else undef)) (by cases c37 <;> cases c39 <;> cases c45 <;> rfl) (fun h => by obtain ⟨rfl, rfl, rfl⟩ : c37 = false ∧ c39 = true ∧ c45 = false := (by simpa [and_assoc] using h); exact fun _ _ _ => by kernel_rfl) ?_
  refine ogc 44 (!c37 && c39 && !c45) (.int .i64 (x.fLo)) ((bif !c37 && c39 then .bool c45 else undef)) (by cases c37 <;> cases c39 <;> cases c45 <;> rfl) (fun h => by obtain ⟨rfl, rfl, rfl⟩ : c37 = false ∧ c39 = true ∧ c45 = false := (by simpa [and_assoc] using h); exact WC.load1 (nx + 1) (0 + 2) (.int .i64 (x.fLo)) (by kernel_rfl) T_agg3 hb25 rfl rfl) ?_
  obtain ⟨c46, e46, p46⟩ := @nb (ltI (x.fLo) (-288230376151711744)) ((x.fLo) < (-288230376151711744)) (ltI_iff)
  refine og 44 (!c37 && c39 && !c45) (.bool c46) ((bif !c37 && c39 then .bool c45 else undef)) (by cases c37 <;> cases c39 <;> cases c45 <;> rfl) (fun h => by obtain ⟨rfl, rfl, rfl⟩ : c37 = false ∧ c39 = true ∧ c45 = false := (by simpa [and_assoc] using h); exact fun _ _ _ => by subst e46; kernel_rfl) ?_
  obtain ⟨c47, e47, p47⟩ := @nb ((c45 || c46)) ((((x.fSeg) < (-1)) ∨ (((K.fSegments.l.length : Nat) : Int) ≤ (x.fSeg))) ∨ ((x.fLo) < (-288230376151711744))) (by rw [Bool.or_eq_true, p45, p46])
  refine ogc 32 (!c37 && c39) (.bool c47) ((bif !c37 then .bool c39 else undef)) (by cases c37 <;> cases c39 <;> rfl) (fun h => by obtain ⟨rfl, rfl⟩ := bFT h; exact WC.opt (v := .bool c47) 48 (ePick (.bool c45) (.bool true) ((bif !false && true && !c45 then .bool c46 else undef))) (fun _ _ _ => by kernel_rfl) (by rw [e47]; exact ePick_or (fun h => by obtain rfl : c45 = false := h; rfl)) rfl) ?_
  refine og 32 (!c37 && c39) (.bool c47) ((bif !c37 then .bool c39 else undef)) (by cases c37 <;> cases c39 <;> rfl) (fun h => by obtain ⟨rfl, rfl⟩ := bFT h; exact fun _ _ _ => by kernel_rfl) ?_
  refine og 49 (!c37 && c39 && !c47) (.pointer (some ⟨(nx + 1), 0 + 2, none⟩)) ((bif !c37 && c39 then .bool c47 else undef)) (by cases c37 <;> cases c39 <;> cases c47 <;> rfl) (fun h => by obtain ⟨rfl, rfl, rfl⟩ : c37 = false ∧ c39 = true ∧ c47 = false := (by simpa [and_assoc] using h); exact fun _ _ _ => by kernel_rfl) ?_
  refine ogc 49 (!c37 && c39 && !c47) (.int .i64 (x.fLo)) ((bif !c37 && c39 then .bool c47 else undef)) (by cases c37 <;> cases c39 <;> cases c47 <;> rfl) (fun h => by obtain ⟨rfl, rfl, rfl⟩ : c37 = false ∧ c39 = true ∧ c47 = false := (by simpa [and_assoc] using h); exact WC.load1 (nx + 1) (0 + 2) (.int .i64 (x.fLo)) (by kernel_rfl) T_agg3 hb25 rfl rfl) ?_
  refine og 49 (!c37 && c39 && !c47) (.pointer (some ⟨(nx + 1), 0 + 3, none⟩)) ((bif !c37 && c39 then .bool c47 else undef)) (by cases c37 <;> cases c39 <;> cases c47 <;> rfl) (fun h => by obtain ⟨rfl, rfl, rfl⟩ : c37 = false ∧ c39 = true ∧ c47 = false := (by simpa [and_assoc] using h); exact fun _ _ _ => by kernel_rfl) ?_
  refine ogc 49 (!c37 && c39 && !c47) (.int .i64 (x.fHi)) ((bif !c37 && c39 then .bool c47 else undef)) (by cases c37 <;> cases c39 <;> cases c47 <;> rfl) (fun h => by obtain ⟨rfl, rfl, rfl⟩ : c37 = false ∧ c39 = true ∧ c47 = false := (by simpa [and_assoc] using h); exact WC.load1 (nx + 1) (0 + 3) (.int .i64 (x.fHi)) (by kernel_rfl) T_agg3 hb25 rfl rfl) ?_
  obtain ⟨c48, e48, p48⟩ := @nb (ltI (x.fHi) (x.fLo)) ((x.fHi) < (x.fLo)) (ltI_iff)
  refine og 49 (!c37 && c39 && !c47) (.bool c48) ((bif !c37 && c39 then .bool c47 else undef)) (by cases c37 <;> cases c39 <;> cases c47 <;> rfl) (fun h => by obtain ⟨rfl, rfl, rfl⟩ : c37 = false ∧ c39 = true ∧ c47 = false := (by simpa [and_assoc] using h); exact fun _ _ _ => by subst e48; kernel_rfl) ?_
  obtain ⟨c49, e49, p49⟩ := @nb ((c47 || c48)) (((((x.fSeg) < (-1)) ∨ (((K.fSegments.l.length : Nat) : Int) ≤ (x.fSeg))) ∨ ((x.fLo) < (-288230376151711744))) ∨ ((x.fHi) < (x.fLo))) (by rw [Bool.or_eq_true, p47, p48])
  refine ogc 32 (!c37 && c39) (.bool c49) ((bif !c37 then .bool c39 else undef)) (by cases c37 <;> cases c39 <;> rfl) (fun h => by obtain ⟨rfl, rfl⟩ := bFT h; exact WC.opt (v := .bool c49) 55 (ePick (.bool c47) (.bool true) ((bif !false && true && !c47 then .bool c48 else undef))) (fun _ _ _ => by kernel_rfl) (by rw [e49]; exact ePick_or (fun h => by obtain rfl : c47 = false := h; rfl)) rfl) ?_
  refine og 32 (!c37 && c39) (.bool c49) ((bif !c37 then .bool c39 else undef)) (by cases c37 <;> cases c39 <;> rfl) (fun h => by obtain ⟨rfl, rfl⟩ := bFT h; exact fun _ _ _ => by kernel_rfl) ?_
  refine og 56 (!c37 && c39 && !c49) (.pointer (some ⟨(nx + 1), 0 + 3, none⟩)) ((bif !c37 && c39 then .bool c49 else undef)) (by cases c37 <;> cases c39 <;> cases c49 <;> rfl) (fun h => by obtain ⟨rfl, rfl, rfl⟩ : c37 = false ∧ c39 = true ∧ c49 = false := (by simpa [and_assoc] using h); exact fun _ _ _ => by kernel_rfl) ?_
  refine ogc 56 (!c37 && c39 && !c49) (.int .i64 (x.fHi)) ((bif !c37 && c39 then .bool c49 else undef)) (by cases c37 <;> cases c39 <;> cases c49 <;> rfl) (fun h => by obtain ⟨rfl, rfl, rfl⟩ : c37 = false ∧ c39 = true ∧ c49 = false := (by simpa [and_assoc] using h); exact WC.load1 (nx + 1) (0 + 3) (.int .i64 (x.fHi)) (by kernel_rfl) T_agg3 hb25 rfl rfl) ?_
  obtain ⟨c50, e50, p50⟩ := @nb (ltI (288230376151711744) (x.fHi)) ((288230376151711744) < (x.fHi)) (ltI_iff)
  refine og 56 (!c37 && c39 && !c49) (.bool c50) ((bif !c37 && c39 then .bool c49 else undef)) (by cases c37 <;> cases c39 <;> cases c49 <;> rfl) (fun h => by obtain ⟨rfl, rfl, rfl⟩ : c37 = false ∧ c39 = true ∧ c49 = false := (by simpa [and_assoc] using h); exact fun _ _ _ => by subst e50; kernel_rfl) ?_
  obtain ⟨c51, e51, p51⟩ := @nb ((c49 || c50)) ((((((x.fSeg) < (-1)) ∨ (((K.fSegments.l.length : Nat) : Int) ≤ (x.fSeg))) ∨ ((x.fLo) < (-288230376151711744))) ∨ ((x.fHi) < (x.fLo))) ∨ ((288230376151711744) < (x.fHi))) (by rw [Bool.or_eq_true, p49, p50])
  refine ogc 32 (!c37 && c39) (.bool c51) ((bif !c37 then .bool c39 else undef)) (by cases c37 <;> cases c39 <;> rfl) (fun h => by obtain ⟨rfl, rfl⟩ := bFT h; exact WC.opt (v := .bool c51) 60 (ePick (.bool c49) (.bool true) ((bif !false && true && !c49 then .bool c50 else undef))) (fun _ _ _ => by kernel_rfl) (by rw [e51]; exact ePick_or (fun h => by obtain rfl : c49 = false := h; rfl)) rfl) ?_
  obtain ⟨c52, e52, p52⟩ := @nb ((c39 && c51)) ((¬ (x.fOut = true)) ∧ ((((((x.fSeg) < (-1)) ∨ (((K.fSegments.l.length : Nat) : Int) ≤ (x.fSeg))) ∨ ((x.fLo) < (-288230376151711744))) ∨ ((x.fHi) < (x.fLo))) ∨ ((288230376151711744) < (x.fHi)))) (by rw [Bool.and_eq_true, p39, p51])
  refine ogc 28 (!c37) (.bool c52) (.bool c37) (by cases c37 <;> rfl) (fun h => by obtain rfl := bF h; exact WC.opt (v := .bool c52) 61 (ePick (.bool c39) ((bif !false && c39 then .bool c51 else undef)) (.bool false)) (fun _ _ _ => by kernel_rfl) (by rw [e52]; exact ePick_and (fun h => by obtain rfl : c39 = true := h; rfl)) rfl) ?_
  obtain ⟨c53, e53, p53⟩ := @nb ((c37 || c52)) (((x.fOut = true) ∧ ((((x.fSeg) ≠ (-1)) ∨ ((x.fLo) ≠ (0))) ∨ ((x.fHi) ≠ (0)))) ∨ ((¬ (x.fOut = true)) ∧ ((((((x.fSeg) < (-1)) ∨ (((K.fSegments.l.length : Nat) : Int) ≤ (x.fSeg))) ∨ ((x.fLo) < (-288230376151711744))) ∨ ((x.fHi) < (x.fLo))) ∨ ((288230376151711744) < (x.fHi))))) (by rw [Bool.or_eq_true, p37, p52])
  refine WO.cons (WC.opt (v := .bool c53) 62 (ePick (.bool c37) (.bool true) ((bif !c37 then .bool c52 else undef))) (fun _ _ _ => by kernel_rfl) (by rw [e53]; exact ePick_or (fun h => by obtain rfl : c37 = false := h; rfl)) ?_)
  refine WO.nil ?_
  refine WP.cond c53 (by kernel_rfl) (fun h54 => ?_) (fun h54 => ?_)
  ·
   have q55 := (p53).1 h54
   refine sr ?_
   refine ov 4 (.int .i64 (230)) ?_
   refine WO.nil ?_
   refine WP.ret ⟨rfl, rfl, [.int .i64 (230)], by kernel_rfl, ?_⟩
   refine ⟨⟨230, rfl, ⟨fun h => absurd h (by decide), fun hok => ?_⟩⟩, le27, hE22⟩
   rcases q55 with ⟨ht, hq⟩ | ⟨hf, hq⟩
   · have h1 := hok.2.1 ht
     rw [h1] at hq; simp at hq
   · have h1 := hok.2.2 (Bool.eq_false_iff.2 hf); omega
  ·
   have q55 := nq p53 h54
   refine WP.skip ?_
   refine sr ?_
   refine ov 4 (.int .i64 (0)) ?_
   refine WO.nil ?_
   refine WP.ret ⟨rfl, rfl, [.int .i64 (0)], by kernel_rfl, ?_⟩
   refine ⟨⟨0, rfl, ⟨fun _ => ?_, fun _ => rfl⟩⟩, le27, hE22⟩
   refine ⟨(hz21).1 (Classical.not_not.1 q30), fun ht => ?_, fun hf => ?_⟩
   · have h1 : ¬ (x.fSeg ≠ -1 ∨ x.fLo ≠ 0 ∨ x.fHi ≠ 0) := fun k => q55 (.inl ⟨ht, by omega⟩)
     cases x; simp only at ht h1; subst ht; simp only [ROutcome.mk.injEq, true_and]; omega
   · have hn : ¬ (x.fOut = true) := by rw [hf]; simp
     have h1 : ¬ (_) := fun k => q55 (.inr ⟨hn, k⟩)
     omega
theorem possAt_wf (F : RField) (w : Nat) (hp : Ht) (nx : Nat) (hF : RFieldOk hp nx F) : WF ex 65 [.agg (encField F).toArray, .int .i64 (.ofNat w)] hp nx (Stays nx hp (BoolIs (PossAt F w))) := by
 refine WF.body (fi := ⟨Tryz.f65.body.getD .skip, 39, [.tmp 4]⟩) (by kernel_rfl) (by kernel_rfl) (by kernel_rfl) rfl ?_
 have hE := HE.refl nx hp
 refine sr ?_
 refine WO.cons (WC.box (.agg (encField F).toArray) (encField F) rfl (by kernel_rfl) rfl ?_)
 obtain ⟨hp2, hx3, he4, hb5⟩ := boxed hp (nx) (encField F)
 rw [hx3]; clear hx3
 have hE6 := hE.trans he4 (Nat.le_refl nx)
 have le7 := Nat.le_trans (Nat.le_refl nx) (Nat.le_succ (nx))
 refine ov 4 (.bool false) ?_
 refine WO.nil ?_
 refine WP.seq ?_
 refine sr ?_
 refine ov 5 (.int .i64 (0)) ?_
 refine WO.nil ?_
 refine WP.block ?_
 have hj9 : ∀ t : Tm, (((t.set 1 (t.get 1)).set 2 (t.get 2)).set 5 (t.get 5)) = t := fun t => by kernel_rfl
 refine WP.loop (fun m s => ∃ (iL8 : Nat), iL8 + m = F.fRunners.l.length ∧ s.to.get 1 = .int .i64 (.ofNat w) ∧ s.to.get 2 = .pointer (some ⟨nx, 0, none⟩) ∧ s.to.get 5 = .int .i64 (.ofNat iL8) ∧ s.ds = [] ∧ s.cs = [] ∧ nx + 1 ≤ s.nx ∧ HE (nx + 1) hp2 s.hp ∧ (∀ (j : Nat) (r : RRunner), j < iL8 → F.fRunners.l[j]? = some r → ∃ o, r.fWorlds.l[w]? = some o ∧ o.l ≠ [])) ?_ (F.fRunners.l.length) ?_
 ·
  rintro mL8 ⟨toL8, dsL8, hp10, nx11, csL8⟩ ⟨iL8, him12, gL8_1, gL8_2, gL8_5, hdsL8, hcsL8, hn13, he14, hpo⟩
  simp only at gL8_1 gL8_2 gL8_5 hdsL8 hcsL8 hn13 he14 hpo
  subst hdsL8 hcsL8
  rw [← hj9 toL8, gL8_1, gL8_2, gL8_5]
  clear gL8_1 gL8_2 gL8_5
  have hE15 := hE6.trans he14 le7
  have hb16 := he14.get hb5 (Nat.lt_succ_self (nx))
  have le18 := Nat.le_trans le7 hn13
  refine WP.seq ?_
  refine sr ?_
  refine ov 6 (.int .i64 (.ofNat iL8)) ?_
  refine ov 7 (.pointer (some ⟨nx, 0 + 3, none⟩)) ?_
  obtain ⟨a19, c20, hv21⟩ := hF.fRunners.1.shape
  have hsm21 := hF.fRunners.1.2.2
  refine WO.cons (WC.load1 nx (0 + 3) (.slice a19 (F.fRunners.l.length) c20) (by kernel_rfl) T_agg27 hb16 (by rw [← hv21]; rfl) ?_)
  refine ov 9 (.int .i64 (.ofNat (F.fRunners.l.length))) ?_
  obtain ⟨c22, e22, p22⟩ := @nb (ltI (.ofNat iL8) (.ofNat (F.fRunners.l.length))) (((iL8 : Nat) : Int) < ((F.fRunners.l.length : Nat) : Int)) (ltI_iff)
  refine ov 10 (.bool c22) ?_ (fun _ _ _ => by subst e22; kernel_rfl)
  refine WO.nil ?_
  refine WP.cond c22 (by kernel_rfl) (fun h23 => ?_) (fun h23 => ?_)
  ·
   have q24 := (p22).1 h23
   refine WP.skip ?_
   refine WP.seq ?_
   refine WP.block ?_
   refine sr ?_
   refine ov 13 (.int .i64 (.ofNat w)) ?_
   obtain ⟨c25, e25, p25⟩ := @nb (ltI (.ofNat w) (0)) (((w : Nat) : Int) < (0)) (ltI_iff)
   refine ov 14 (.bool c25) ?_ (fun _ _ _ => by subst e25; kernel_rfl)
   refine ov 15 (.bool c25) ?_
   refine og 15 (!c25) (.int .i64 (.ofNat w)) (.bool c25) (by cases c25 <;> rfl) (fun h => by obtain rfl := bF h; exact fun _ _ _ => by kernel_rfl) ?_
   refine og 15 (!c25) (.pointer (some ⟨nx, 0 + 3, none⟩)) (.bool c25) (by cases c25 <;> rfl) (fun h => by obtain rfl := bF h; exact fun _ _ _ => by kernel_rfl) ?_
   refine ogc 15 (!c25) (.slice a19 (F.fRunners.l.length) c20) (.bool c25) (by cases c25 <;> rfl) (fun h => by obtain rfl := bF h; exact WC.load1 nx (0 + 3) (.slice a19 (F.fRunners.l.length) c20) (by kernel_rfl) T_agg27 hb16 (by rw [← hv21]; rfl) rfl) ?_
   refine og 15 (!c25) (.int .i64 (.ofNat iL8)) (.bool c25) (by cases c25 <;> rfl) (fun h => by obtain rfl := bF h; exact fun _ _ _ => by kernel_rfl) ?_
   have hlt26 : (!c25) = true → iL8 < F.fRunners.l.length := fun h => by obtain rfl : c25 = false := (by simpa using h); have q0 : ¬ (((w : Nat) : Int) < (0)) := (fun k => absurd ((p25).2 k) (by decide)); omega
   refine ogc 15 (!c25) (.pointer (some ⟨(blk a19), 0 + (iL8) * 3, none⟩)) (.bool c25) (by cases c25 <;> rfl) (fun h => by obtain rfl := bF h; exact WC.ix (k := .i64) a19 (F.fRunners.l.length) c20 (iL8) 3 (by kernel_rfl) (by kernel_rfl) T_und27 T_size43 ((hF.fRunners.1.mono hE15 le18).blkA hv21 (zl ((hlt26 rfl)))) ((hlt26 rfl)) rfl) ?_
   refine og 15 (!c25) (.pointer (some ⟨(blk a19), 0 + (iL8) * 3 + 2, none⟩)) (.bool c25) (by cases c25 <;> rfl) (fun h => by obtain rfl := bF h; exact fun _ _ _ => by kernel_rfl) ?_
   obtain ⟨x27, hx28⟩ : ∃ el_, F.fRunners.l[iL8]? = some el_ := ⟨_, List.getElem?_eq_getElem (by omega)⟩
   obtain ⟨a29, c30, hv31⟩ := (hF.fRunners.2 x27 (List.mem_of_getElem? hx28)).fWorlds.1.shape
   have hsm31 := (hF.fRunners.2 x27 (List.mem_of_getElem? hx28)).fWorlds.1.2.2
   refine ogc 15 (!c25) (.slice a29 (x27.fWorlds.l.length) c30) (.bool c25) (by cases c25 <;> rfl) (fun h => by obtain rfl := bF h; exact WC.load1E (blk a19) (0 + (iL8) * 3 + 2) (.slice a29 (x27.fWorlds.l.length) c30) (by kernel_rfl) T_agg41 ((hF.fRunners.1.mono hE15 le18).blkB hv21 (zl ((hlt26 rfl)))) (flat_at (hF.fRunners.1.mono hE15 le18).1 hx28 (by decide) (by rw [← hv31]; rfl)) rfl) ?_
   refine og 15 (!c25) (.int .i64 (.ofNat (x27.fWorlds.l.length))) (.bool c25) (by cases c25 <;> rfl) (fun h => by obtain rfl := bF h; exact fun _ _ _ => by kernel_rfl) ?_
   obtain ⟨c32, e32, p32⟩ := @nb (leI (.ofNat (x27.fWorlds.l.length)) (.ofNat w)) (((x27.fWorlds.l.length : Nat) : Int) ≤ ((w : Nat) : Int)) (leI_iff)
   refine og 15 (!c25) (.bool c32) (.bool c25) (by cases c25 <;> rfl) (fun h => by obtain rfl := bF h; exact fun _ _ _ => by subst e32; kernel_rfl) ?_
   obtain ⟨c33, e33, p33⟩ := @nb ((c25 || c32)) ((((w : Nat) : Int) < (0)) ∨ (((x27.fWorlds.l.length : Nat) : Int) ≤ ((w : Nat) : Int))) (by rw [Bool.or_eq_true, p25, p32])
   refine WO.cons (WC.opt (v := .bool c33) 25 (ePick (.bool c25) (.bool true) ((bif !c25 then .bool c32 else undef))) (fun _ _ _ => by kernel_rfl) (by rw [e33]; exact ePick_or (fun h => by obtain rfl : c25 = false := h; rfl)) ?_)
   refine ov 26 (.bool c33) ?_
   refine og 26 (!c33) (.pointer (some ⟨nx, 0 + 3, none⟩)) (.bool c33) (by cases c33 <;> rfl) (fun h => by obtain rfl := bF h; exact fun _ _ _ => by kernel_rfl) ?_
   refine ogc 26 (!c33) (.slice a19 (F.fRunners.l.length) c20) (.bool c33) (by cases c33 <;> rfl) (fun h => by obtain rfl := bF h; exact WC.load1 nx (0 + 3) (.slice a19 (F.fRunners.l.length) c20) (by kernel_rfl) T_agg27 hb16 (by rw [← hv21]; rfl) rfl) ?_
   refine og 26 (!c33) (.int .i64 (.ofNat iL8)) (.bool c33) (by cases c33 <;> rfl) (fun h => by obtain rfl := bF h; exact fun _ _ _ => by kernel_rfl) ?_
   have hlt34 : (!c33) = true → iL8 < F.fRunners.l.length := fun h => by obtain rfl : c33 = false := (by simpa using h); have q0 : ¬ ((((w : Nat) : Int) < (0)) ∨ (((x27.fWorlds.l.length : Nat) : Int) ≤ ((w : Nat) : Int))) := (fun k => absurd ((p33).2 k) (by decide)); omega
   refine ogc 26 (!c33) (.pointer (some ⟨(blk a19), 0 + (iL8) * 3, none⟩)) (.bool c33) (by cases c33 <;> rfl) (fun h => by obtain rfl := bF h; exact WC.ix (k := .i64) a19 (F.fRunners.l.length) c20 (iL8) 3 (by kernel_rfl) (by kernel_rfl) T_und27 T_size43 ((hF.fRunners.1.mono hE15 le18).blkA hv21 (zl ((hlt34 rfl)))) ((hlt34 rfl)) rfl) ?_
   refine og 26 (!c33) (.pointer (some ⟨(blk a19), 0 + (iL8) * 3 + 2, none⟩)) (.bool c33) (by cases c33 <;> rfl) (fun h => by obtain rfl := bF h; exact fun _ _ _ => by kernel_rfl) ?_
   refine ogc 26 (!c33) (.slice a29 (x27.fWorlds.l.length) c30) (.bool c33) (by cases c33 <;> rfl) (fun h => by obtain rfl := bF h; exact WC.load1E (blk a19) (0 + (iL8) * 3 + 2) (.slice a29 (x27.fWorlds.l.length) c30) (by kernel_rfl) T_agg41 ((hF.fRunners.1.mono hE15 le18).blkB hv21 (zl ((hlt34 rfl)))) (flat_at (hF.fRunners.1.mono hE15 le18).1 hx28 (by decide) (by rw [← hv31]; rfl)) rfl) ?_
   refine og 26 (!c33) (.int .i64 (.ofNat w)) (.bool c33) (by cases c33 <;> rfl) (fun h => by obtain rfl := bF h; exact fun _ _ _ => by kernel_rfl) ?_
   have hlt35 : (!c33) = true → w < x27.fWorlds.l.length := fun h => by obtain rfl : c33 = false := (by simpa using h); have q0 : ¬ ((((w : Nat) : Int) < (0)) ∨ (((x27.fWorlds.l.length : Nat) : Int) ≤ ((w : Nat) : Int))) := (fun k => absurd ((p33).2 k) (by decide)); omega
   refine ogc 26 (!c33) (.pointer (some ⟨(blk a29), 0 + (w) * 1, none⟩)) (.bool c33) (by cases c33 <;> rfl) (fun h => by obtain rfl := bF h; exact WC.ix (k := .i64) a29 (x27.fWorlds.l.length) c30 (w) 1 (by kernel_rfl) (by kernel_rfl) T_und41 T_size97 (((hF.fRunners.2 x27 (List.mem_of_getElem? hx28)).fWorlds.1.mono hE15 le18).blkA hv31 (zl ((hlt35 rfl)))) ((hlt35 rfl)) rfl) ?_
   obtain ⟨x36, hx37⟩ : ∃ el_, (!c33) = true → x27.fWorlds.l[w]? = some el_ := ⟨(x27.fWorlds.l[w]?).getD default, fun h => by rw [List.getElem?_eq_getElem (by obtain rfl : c33 = false := (by simpa using h); exact (hlt35 rfl))]; rfl⟩
   have hx37p := fun (a0 : ¬ ((((w : Nat) : Int) < (0)) ∨ (((x27.fWorlds.l.length : Nat) : Int) ≤ ((w : Nat) : Int)))) => hx37 (by first | (rw [show c33 = false from Bool.eq_false_iff.2 (fun k => a0 ((p33).1 k))]; rfl) | rw [show c33 = false from Bool.eq_false_iff.2 (fun k => a0 ((p33).1 k))])
   obtain ⟨a38, c39, hv40⟩ : ∃ a c, (!c33) = true → x36.v = .slice a x36.l.length c := by
    cases hb : (!c33) with
    | true => obtain rfl : c33 = false := (by simpa using hb); obtain ⟨a, c, h⟩ := ((hF.fRunners.2 x27 (List.mem_of_getElem? hx28)).fWorlds.2 x36 (List.mem_of_getElem? (hx37 rfl))).shape; exact ⟨a, c, fun _ => h⟩
    | false => exact ⟨none, 0, fun h => by cases h⟩
   refine ogc 26 (!c33) (.slice a38 (x36.l.length) c39) (.bool c33) (by cases c33 <;> rfl) (fun h => by obtain rfl := bF h; exact WC.load1E (blk a29) (0 + (w) * 1) (.slice a38 (x36.l.length) c39) (by kernel_rfl) T_agg97 (((hF.fRunners.2 x27 (List.mem_of_getElem? hx28)).fWorlds.1.mono hE15 le18).blkB hv31 (zl ((hlt35 rfl)))) (flat_at1 ((hF.fRunners.2 x27 (List.mem_of_getElem? hx28)).fWorlds.1.mono hE15 le18).1 (hx37 rfl) (by rw [← (hv40 rfl)]; rfl)) rfl) ?_
   refine og 26 (!c33) (.int .i64 (.ofNat (x36.l.length))) (.bool c33) (by cases c33 <;> rfl) (fun h => by obtain rfl := bF h; exact fun _ _ _ => by kernel_rfl) ?_
   obtain ⟨c41, e41, p41⟩ := @nb (eqI (.ofNat (x36.l.length)) (0)) (((x36.l.length : Nat) : Int) = (0)) (eqI_iff)
   refine og 26 (!c33) (.bool c41) (.bool c33) (by cases c33 <;> rfl) (fun h => by obtain rfl := bF h; exact fun _ _ _ => by subst e41; kernel_rfl) ?_
   obtain ⟨c42, e42, p42⟩ := @nb ((c33 || c41)) (((((w : Nat) : Int) < (0)) ∨ (((x27.fWorlds.l.length : Nat) : Int) ≤ ((w : Nat) : Int))) ∨ (((x36.l.length : Nat) : Int) = (0))) (by rw [Bool.or_eq_true, p33, p41])
   refine WO.cons (WC.opt (v := .bool c42) 38 (ePick (.bool c33) (.bool true) ((bif !c33 then .bool c41 else undef))) (fun _ _ _ => by kernel_rfl) (by rw [e42]; exact ePick_or (fun h => by obtain rfl : c33 = false := h; rfl)) ?_)
   refine WO.nil ?_
   refine WP.cond c42 (by kernel_rfl) (fun h43 => ?_) (fun h43 => ?_)
   ·
    have q44 := (p42).1 h43
    refine sr ?_
    refine ov 4 (.bool false) ?_
    refine WO.nil ?_
    refine WP.ret ⟨rfl, rfl, [.bool false], by kernel_rfl, ?_⟩
    refine ⟨⟨false, rfl, ⟨fun h => (by cases h), fun hok => False.elim ?_⟩⟩, le18, hE15⟩
    obtain ⟨o, h1, h2⟩ := hok _ (List.mem_of_getElem? hx28)
    have hw := (List.getElem?_eq_some_iff.1 h1).1
    rcases q44 with (hq | hq) | hq
    · omega
    · omega
    · have h3 := hx37p (by omega)
      rw [h3] at h1; cases h1
      exact h2 (List.eq_nil_of_length_eq_zero (by omega))
   ·
    have q44 := nq p42 h43
    refine WP.skip ?_
    refine WP.region ?_
    refine ov 11 (.int .i64 (.ofNat iL8)) ?_
    refine ov 12 (.int .i64 (.ofNat (iL8 + 1))) ?_ (fun _ _ _ => by rw [← wrapAdd (show iL8 + 1 < 9223372036854775808 by omega)]; kernel_rfl)
    refine ov 5 (.int .i64 (.ofNat (iL8 + 1))) ?_
    refine WO.nil ?_
    refine ⟨F.fRunners.l.length - (iL8 + 1), by omega, iL8 + 1, by omega, by kernel_rfl, by kernel_rfl, by kernel_rfl, rfl, rfl, ?_, ?_, ?_⟩
    · exact hn13
    · exact he14
    · intro j r' hj hs
      rcases Nat.lt_succ_iff_lt_or_eq.1 hj with hj | rfl
      · exact hpo j r' hj hs
      · rw [hx28] at hs; cases hs
        have h3 := hx37p (fun k => q44 (.inl k))
        refine ⟨_, h3, fun h0 => q44 (.inr ?_)⟩
        rw [h0]; rfl
  ·
   have q24 := nq p22 h23
   refine WP.exit ?_
   refine sr ?_
   refine ov 4 (.bool true) ?_
   refine WO.nil ?_
   refine WP.ret ⟨rfl, rfl, [.bool true], by kernel_rfl, ?_⟩
   refine ⟨⟨true, rfl, ⟨fun _ => ?_, fun _ => rfl⟩⟩, le18, hE15⟩
   intro r hr
   obtain ⟨j, hj⟩ := List.getElem?_of_mem hr
   exact hpo j r (by have := (List.getElem?_eq_some_iff.1 hj).1; omega) hj
 ·
  exact ⟨0, by omega, by kernel_rfl, by kernel_rfl, by kernel_rfl, rfl, rfl, Nat.le_refl _, HE.refl _ _, (fun _ _ h => absurd h (Nat.not_lt_zero _))⟩
theorem possible24_wf (F : RField) (hp : Ht) (nx : Nat) (hF : RFieldOk hp nx F) : WF ex 35 [.agg (encField F).toArray] hp nx (Stays nx hp (BoolIs (Poss F))) := by
 refine WF.body (fi := ⟨Tryz.f35.body.getD .skip, 14, [.tmp 2]⟩) (by kernel_rfl) (by kernel_rfl) (by kernel_rfl) rfl ?_
 have hE := HE.refl nx hp
 refine sr ?_
 refine WO.cons (WC.box (.agg (encField F).toArray) (encField F) rfl (by kernel_rfl) rfl ?_)
 obtain ⟨hp2, hx3, he4, hb5⟩ := boxed hp (nx) (encField F)
 rw [hx3]; clear hx3
 have hE6 := hE.trans he4 (Nat.le_refl nx)
 have le7 := Nat.le_trans (Nat.le_refl nx) (Nat.le_succ (nx))
 refine ov 2 (.bool false) ?_
 refine WO.nil ?_
 refine WP.seq ?_
 refine sr ?_
 refine ov 3 (.int .i64 (0)) ?_
 refine WO.nil ?_
 refine WP.block ?_
 have hj9 : ∀ t : Tm, ((t.set 1 (t.get 1)).set 3 (t.get 3)) = t := fun t => by kernel_rfl
 refine WP.loop (fun m s => ∃ (iL8 : Nat), iL8 + m = (F.fPairs.l.length + 1) ∧ s.to.get 1 = .pointer (some ⟨nx, 0, none⟩) ∧ s.to.get 3 = .int .i64 (.ofNat iL8) ∧ s.ds = [] ∧ s.cs = [] ∧ nx + 1 ≤ s.nx ∧ HE (nx + 1) hp2 s.hp ∧ (∀ j, j < iL8 → ¬ PossAt F j)) ?_ ((F.fPairs.l.length + 1)) ?_
 ·
  rintro mL8 ⟨toL8, dsL8, hp10, nx11, csL8⟩ ⟨iL8, him12, gL8_1, gL8_3, hdsL8, hcsL8, hn13, he14, hno⟩
  simp only at gL8_1 gL8_3 hdsL8 hcsL8 hn13 he14
  subst hdsL8 hcsL8
  rw [← hj9 toL8, gL8_1, gL8_3]
  clear gL8_1 gL8_3
  have hE15 := hE6.trans he14 le7
  have hb16 := he14.get hb5 (Nat.lt_succ_self (nx))
  have le18 := Nat.le_trans le7 hn13
  refine WP.seq ?_
  refine sr ?_
  refine ov 4 (.int .i64 (.ofNat iL8)) ?_
  refine ov 5 (.pointer (some ⟨nx, 0 + 2, none⟩)) ?_
  obtain ⟨a19, c20, hv21⟩ := hF.fPairs.shape
  have hsm21 := hF.fPairs.2.2
  refine WO.cons (WC.load1 nx (0 + 2) (.slice a19 (F.fPairs.l.length) c20) (by kernel_rfl) T_agg26 hb16 (by rw [← hv21]; rfl) ?_)
  refine ov 7 (.int .i64 (.ofNat (F.fPairs.l.length))) ?_
  obtain ⟨c22, e22, p22⟩ := @nb (leI (.ofNat iL8) (.ofNat (F.fPairs.l.length))) (((iL8 : Nat) : Int) ≤ ((F.fPairs.l.length : Nat) : Int)) (leI_iff)
  refine ov 8 (.bool c22) ?_ (fun _ _ _ => by subst e22; kernel_rfl)
  refine WO.nil ?_
  refine WP.cond c22 (by kernel_rfl) (fun h23 => ?_) (fun h23 => ?_)
  ·
   have q24 := (p22).1 h23
   refine WP.skip ?_
   refine WP.seq ?_
   refine WP.block ?_
   refine sr ?_
   refine WO.cons (WC.loadS nx (0) (encField F) (by kernel_rfl) T_agg29 T_size29 hb16 rfl ?_)
   refine ov 12 (.int .i64 (.ofNat iL8)) ?_
   refine WO.cons (WC.call 13 65 ([.agg (encField F).toArray, .int .i64 (.ofNat iL8)]) (fun _ _ _ => by kernel_rfl) ((possAt_wf F (iL8) hp10 (nx11) (hF.mono hE15 le18)).mono ?_))
   rintro _ hp25 nx26 ⟨⟨c29, rfl, p29⟩, hn27, he28⟩
   have hE30 := hE15.trans he28 le18
   have hr33 := he14.trans he28 hn13
   have rl34 := Nat.le_trans hn13 hn27
   have le35 := Nat.le_trans le18 hn27
   refine WO.nil ?_
   refine WP.cond c29 (by kernel_rfl) (fun h36 => ?_) (fun h36 => ?_)
   ·
    have q37 := (p29).1 h36
    refine sr ?_
    refine ov 2 (.bool true) ?_
    refine WO.nil ?_
    refine WP.ret ⟨rfl, rfl, [.bool true], by kernel_rfl, ?_⟩
    refine ⟨⟨true, rfl, ⟨fun _ => ?_, fun _ => rfl⟩⟩, le35, hE30⟩
    exact ⟨iL8, by omega, q37⟩
   ·
    have q37 : ¬ (PossAt F (iL8)) := fun k => by rw [(p29).2 k] at h36; cases h36
    refine WP.skip ?_
    refine WP.region ?_
    refine ov 9 (.int .i64 (.ofNat iL8)) ?_
    refine ov 10 (.int .i64 (.ofNat (iL8 + 1))) ?_ (fun _ _ _ => by rw [← wrapAdd (show iL8 + 1 < 9223372036854775808 by omega)]; kernel_rfl)
    refine ov 3 (.int .i64 (.ofNat (iL8 + 1))) ?_
    refine WO.nil ?_
    refine ⟨(F.fPairs.l.length + 1) - (iL8 + 1), by omega, iL8 + 1, by omega, by kernel_rfl, by kernel_rfl, rfl, rfl, ?_, ?_, ?_⟩
    · exact rl34
    · exact hr33
    · intro j hj
      rcases Nat.lt_succ_iff_lt_or_eq.1 hj with hj | rfl
      · exact hno j hj
      · exact q37
  ·
   have q24 := nq p22 h23
   refine WP.exit ?_
   refine sr ?_
   refine ov 2 (.bool false) ?_
   refine WO.nil ?_
   refine WP.ret ⟨rfl, rfl, [.bool false], by kernel_rfl, ?_⟩
   refine ⟨⟨false, rfl, ⟨fun h => (by cases h), fun hok => False.elim ?_⟩⟩, le18, hE15⟩
   obtain ⟨w, h1, h2⟩ := hok
   exact hno w (by omega) h2
 ·
  exact ⟨0, by omega, by kernel_rfl, by kernel_rfl, rfl, rfl, Nat.le_refl _, HE.refl _ _, (fun _ h => absurd h (Nat.not_lt_zero _))⟩
theorem few16_wf (K : RClocks) (hp : Ht) (nx : Nat) (hK : RClocksOk hp nx K) : WF ex 25 [.agg (encClocks K).toArray] hp nx (Stays nx hp (BoolImp True)) := by
 refine WF.body (fi := ⟨Tryz.f25.body.getD .skip, 28, [.tmp 2]⟩) (by kernel_rfl) (by kernel_rfl) (by kernel_rfl) rfl ?_
 have hE := HE.refl nx hp
 refine sr ?_
 refine WO.cons (WC.box (.agg (encClocks K).toArray) (encClocks K) rfl (by kernel_rfl) rfl ?_)
 obtain ⟨hp2, hx3, he4, hb5⟩ := boxed hp (nx) (encClocks K)
 rw [hx3]; clear hx3
 have hE6 := hE.trans he4 (Nat.le_refl nx)
 have le7 := Nat.le_trans (Nat.le_refl nx) (Nat.le_succ (nx))
 refine ov 2 (.bool false) ?_
 refine WO.nil ?_
 refine WP.seq ?_
 refine sr ?_
 refine ov 4 (.pointer (some ⟨nx, 0 + 0, none⟩)) ?_
 obtain ⟨a8, c9, hv10⟩ := hK.fSegments.shape
 have hsm10 := hK.fSegments.2.2
 refine WO.cons (WC.load1 nx (0 + 0) (.slice a8 (K.fSegments.l.length) c9) (by kernel_rfl) T_agg22 hb5 (by rw [← hv10]; rfl) ?_)
 refine ov 6 (.int .i64 (.ofNat (K.fSegments.l.length))) ?_
 obtain ⟨c11, e11, p11⟩ := @nb (ltI (8) (.ofNat (K.fSegments.l.length))) ((8) < ((K.fSegments.l.length : Nat) : Int)) (ltI_iff)
 refine ov 7 (.bool c11) ?_ (fun _ _ _ => by subst e11; kernel_rfl)
 refine ov 8 (.bool c11) ?_
 refine og 8 (!c11) (.pointer (some ⟨nx, 0 + 1, none⟩)) (.bool c11) (by cases c11 <;> rfl) (fun h => by obtain rfl := bF h; exact fun _ _ _ => by kernel_rfl) ?_
 obtain ⟨a12, c13, hv14⟩ := hK.fFar.1.shape
 have hsm14 := hK.fFar.1.2.2
 refine ogc 8 (!c11) (.slice a12 (K.fFar.l.length) c13) (.bool c11) (by cases c11 <;> rfl) (fun h => by obtain rfl := bF h; exact WC.load1 nx (0 + 1) (.slice a12 (K.fFar.l.length) c13) (by kernel_rfl) T_agg23 hb5 (by rw [← hv14]; rfl) rfl) ?_
 refine og 8 (!c11) (.int .i64 (.ofNat (K.fFar.l.length))) (.bool c11) (by cases c11 <;> rfl) (fun h => by obtain rfl := bF h; exact fun _ _ _ => by kernel_rfl) ?_
 obtain ⟨c15, e15, p15⟩ := @nb (ltI (10) (.ofNat (K.fFar.l.length))) ((10) < ((K.fFar.l.length : Nat) : Int)) (ltI_iff)
 refine og 8 (!c11) (.bool c15) (.bool c11) (by cases c11 <;> rfl) (fun h => by obtain rfl := bF h; exact fun _ _ _ => by subst e15; kernel_rfl) ?_
 obtain ⟨c16, e16, p16⟩ := @nb ((c11 || c15)) (((8) < ((K.fSegments.l.length : Nat) : Int)) ∨ ((10) < ((K.fFar.l.length : Nat) : Int))) (by rw [Bool.or_eq_true, p11, p15])
 refine WO.cons (WC.opt (v := .bool c16) 13 (ePick (.bool c11) (.bool true) ((bif !c11 then .bool c15 else undef))) (fun _ _ _ => by kernel_rfl) (by rw [e16]; exact ePick_or (fun h => by obtain rfl : c11 = false := h; rfl)) ?_)
 refine WO.nil ?_
 refine WP.cond c16 (by kernel_rfl) (fun h17 => ?_) (fun h17 => ?_)
 ·
  have q18 := (p16).1 h17
  refine sr ?_
  refine ov 2 (.bool false) ?_
  refine WO.nil ?_
  refine WP.ret ⟨rfl, rfl, [.bool false], by kernel_rfl, ?_⟩
  refine ⟨⟨false, rfl, fun hc => ?_⟩, le7, hE6⟩
  cases hc
 ·
  have q18 := nq p16 h17
  refine WP.skip ?_
  refine WP.seq ?_
  refine sr ?_
  refine ov 3 (.int .i64 (0)) ?_
  refine WO.nil ?_
  refine WP.block ?_
  have hj20 : ∀ t : Tm, ((t.set 1 (t.get 1)).set 3 (t.get 3)) = t := fun t => by kernel_rfl
  refine WP.loop (fun m s => ∃ (iL19 : Nat), iL19 + m = K.fFar.l.length ∧ s.to.get 1 = .pointer (some ⟨nx, 0, none⟩) ∧ s.to.get 3 = .int .i64 (.ofNat iL19) ∧ s.ds = [] ∧ s.cs = [] ∧ nx + 1 ≤ s.nx ∧ HE (nx + 1) hp2 s.hp) ?_ (K.fFar.l.length) ?_
  ·
   rintro mL19 ⟨toL19, dsL19, hp21, nx22, csL19⟩ ⟨iL19, him23, gL19_1, gL19_3, hdsL19, hcsL19, hn24, he25⟩
   simp only at gL19_1 gL19_3 hdsL19 hcsL19 hn24 he25
   subst hdsL19 hcsL19
   rw [← hj20 toL19, gL19_1, gL19_3]
   clear gL19_1 gL19_3
   have hE26 := hE6.trans he25 le7
   have hb27 := he25.get hb5 (Nat.lt_succ_self (nx))
   have le29 := Nat.le_trans le7 hn24
   refine WP.seq ?_
   refine sr ?_
   refine ov 14 (.int .i64 (.ofNat iL19)) ?_
   refine ov 15 (.pointer (some ⟨nx, 0 + 1, none⟩)) ?_
   refine WO.cons (WC.load1 nx (0 + 1) (.slice a12 (K.fFar.l.length) c13) (by kernel_rfl) T_agg23 hb27 (by rw [← hv14]; rfl) ?_)
   refine ov 17 (.int .i64 (.ofNat (K.fFar.l.length))) ?_
   obtain ⟨c30, e30, p30⟩ := @nb (ltI (.ofNat iL19) (.ofNat (K.fFar.l.length))) (((iL19 : Nat) : Int) < ((K.fFar.l.length : Nat) : Int)) (ltI_iff)
   refine ov 18 (.bool c30) ?_ (fun _ _ _ => by subst e30; kernel_rfl)
   refine WO.nil ?_
   refine WP.cond c30 (by kernel_rfl) (fun h31 => ?_) (fun h31 => ?_)
   ·
    have q32 := (p30).1 h31
    refine WP.skip ?_
    refine WP.seq ?_
    refine WP.block ?_
    refine sr ?_
    refine ov 21 (.pointer (some ⟨nx, 0 + 1, none⟩)) ?_
    refine WO.cons (WC.load1 nx (0 + 1) (.slice a12 (K.fFar.l.length) c13) (by kernel_rfl) T_agg23 hb27 (by rw [← hv14]; rfl) ?_)
    refine ov 23 (.int .i64 (.ofNat iL19)) ?_
    have hlt33 : iL19 < K.fFar.l.length := by omega
    refine WO.cons (WC.ix (k := .i64) a12 (K.fFar.l.length) c13 (iL19) 1 (by kernel_rfl) (by kernel_rfl) T_und23 T_size30 ((hK.fFar.1.mono hE26 le29).blkA hv14 (zl hlt33)) (hlt33) ?_)
    obtain ⟨x34, hx35⟩ : ∃ el_, K.fFar.l[iL19]? = some el_ := ⟨_, List.getElem?_eq_getElem (hlt33)⟩
    obtain ⟨a36, c37, hv38⟩ := (hK.fFar.2 x34 (List.mem_of_getElem? hx35)).shape
    have hsm38 := (hK.fFar.2 x34 (List.mem_of_getElem? hx35)).2.2
    refine WO.cons (WC.load1E (blk a12) (0 + (iL19) * 1) (.slice a36 (x34.l.length) c37) (by kernel_rfl) T_agg30 ((hK.fFar.1.mono hE26 le29).blkB hv14 (zl hlt33)) (flat_at1 (hK.fFar.1.mono hE26 le29).1 hx35 (by rw [← hv38]; rfl)) ?_)
    refine ov 26 (.int .i64 (.ofNat (x34.l.length))) ?_
    obtain ⟨c39, e39, p39⟩ := @nb (ltI (12) (.ofNat (x34.l.length))) ((12) < ((x34.l.length : Nat) : Int)) (ltI_iff)
    refine ov 27 (.bool c39) ?_ (fun _ _ _ => by subst e39; kernel_rfl)
    refine WO.nil ?_
    refine WP.cond c39 (by kernel_rfl) (fun h40 => ?_) (fun h40 => ?_)
    ·
     have q41 := (p39).1 h40
     refine sr ?_
     refine ov 2 (.bool false) ?_
     refine WO.nil ?_
     refine WP.ret ⟨rfl, rfl, [.bool false], by kernel_rfl, ?_⟩
     refine ⟨⟨false, rfl, fun hc => ?_⟩, le29, hE26⟩
     cases hc
    ·
     have q41 := nq p39 h40
     refine WP.skip ?_
     refine WP.region ?_
     refine ov 19 (.int .i64 (.ofNat iL19)) ?_
     refine ov 20 (.int .i64 (.ofNat (iL19 + 1))) ?_ (fun _ _ _ => by rw [← wrapAdd (show iL19 + 1 < 9223372036854775808 by omega)]; kernel_rfl)
     refine ov 3 (.int .i64 (.ofNat (iL19 + 1))) ?_
     refine WO.nil ?_
     refine ⟨K.fFar.l.length - (iL19 + 1), by omega, iL19 + 1, by omega, by kernel_rfl, by kernel_rfl, rfl, rfl, ?_, ?_⟩
     · exact hn24
     · exact he25
   ·
    have q32 := nq p30 h31
    refine WP.exit ?_
    refine sr ?_
    refine ov 2 (.bool true) ?_
    refine WO.nil ?_
    refine WP.ret ⟨rfl, rfl, [.bool true], by kernel_rfl, ?_⟩
    refine ⟨⟨true, rfl, fun hc => ?_⟩, le29, hE26⟩
    trivial
  ·
   exact ⟨0, by omega, by kernel_rfl, by kernel_rfl, rfl, rfl, Nat.le_refl _, HE.refl _ _⟩
theorem few24_wf (F : RField) (hp : Ht) (nx : Nat) (hF : RFieldOk hp nx F) : WF ex 7 [.agg (encField F).toArray] hp nx (Stays nx hp (BoolImp (FewOk F))) := by
 refine WF.body (fi := ⟨Tryz.f7.body.getD .skip, 62, [.tmp 2]⟩) (by kernel_rfl) (by kernel_rfl) (by kernel_rfl) rfl ?_
 have hE := HE.refl nx hp
 refine sr ?_
 refine WO.cons (WC.box (.agg (encField F).toArray) (encField F) rfl (by kernel_rfl) rfl ?_)
 obtain ⟨hp2, hx3, he4, hb5⟩ := boxed hp (nx) (encField F)
 rw [hx3]; clear hx3
 have hE6 := hE.trans he4 (Nat.le_refl nx)
 have le7 := Nat.le_trans (Nat.le_refl nx) (Nat.le_succ (nx))
 refine ov 2 (.bool false) ?_
 refine WO.nil ?_
 refine sr ?_
 refine ov 3 (.int .i64 (0)) ?_
 refine WO.nil ?_
 refine WP.seq ?_
 refine sr ?_
 refine ov 7 (.pointer (some ⟨nx, 0 + 3, none⟩)) ?_
 obtain ⟨a8, c9, hv10⟩ := hF.fRunners.1.shape
 have hsm10 := hF.fRunners.1.2.2
 refine WO.cons (WC.load1 nx (0 + 3) (.slice a8 (F.fRunners.l.length) c9) (by kernel_rfl) T_agg27 hb5 (by rw [← hv10]; rfl) ?_)
 refine ov 9 (.int .i64 (.ofNat (F.fRunners.l.length))) ?_
 obtain ⟨c11, e11, p11⟩ := @nb (ltI (6) (.ofNat (F.fRunners.l.length))) ((6) < ((F.fRunners.l.length : Nat) : Int)) (ltI_iff)
 refine ov 10 (.bool c11) ?_ (fun _ _ _ => by subst e11; kernel_rfl)
 refine ov 11 (.bool c11) ?_
 refine og 11 (!c11) (.pointer (some ⟨nx, 0 + 2, none⟩)) (.bool c11) (by cases c11 <;> rfl) (fun h => by obtain rfl := bF h; exact fun _ _ _ => by kernel_rfl) ?_
 obtain ⟨a12, c13, hv14⟩ := hF.fPairs.shape
 have hsm14 := hF.fPairs.2.2
 refine ogc 11 (!c11) (.slice a12 (F.fPairs.l.length) c13) (.bool c11) (by cases c11 <;> rfl) (fun h => by obtain rfl := bF h; exact WC.load1 nx (0 + 2) (.slice a12 (F.fPairs.l.length) c13) (by kernel_rfl) T_agg26 hb5 (by rw [← hv14]; rfl) rfl) ?_
 refine og 11 (!c11) (.int .i64 (.ofNat (F.fPairs.l.length))) (.bool c11) (by cases c11 <;> rfl) (fun h => by obtain rfl := bF h; exact fun _ _ _ => by kernel_rfl) ?_
 obtain ⟨c15, e15, p15⟩ := @nb (ltI (3) (.ofNat (F.fPairs.l.length))) ((3) < ((F.fPairs.l.length : Nat) : Int)) (ltI_iff)
 refine og 11 (!c11) (.bool c15) (.bool c11) (by cases c11 <;> rfl) (fun h => by obtain rfl := bF h; exact fun _ _ _ => by subst e15; kernel_rfl) ?_
 obtain ⟨c16, e16, p16⟩ := @nb ((c11 || c15)) (((6) < ((F.fRunners.l.length : Nat) : Int)) ∨ ((3) < ((F.fPairs.l.length : Nat) : Int))) (by rw [Bool.or_eq_true, p11, p15])
 refine WO.cons (WC.opt (v := .bool c16) 16 (ePick (.bool c11) (.bool true) ((bif !c11 then .bool c15 else undef))) (fun _ _ _ => by kernel_rfl) (by rw [e16]; exact ePick_or (fun h => by obtain rfl : c11 = false := h; rfl)) ?_)
 refine ov 17 (.bool c16) ?_
 refine og 17 (!c16) (.pointer (some ⟨nx, 0 + 0, none⟩)) (.bool c16) (by cases c16 <;> rfl) (fun h => by obtain rfl := bF h; exact fun _ _ _ => by kernel_rfl) ?_
 refine ogc 17 (!c16) (.agg (encClocks F.fClocks).toArray) (.bool c16) (by cases c16 <;> rfl) (fun h => by obtain rfl := bF h; exact WC.loadS nx (0 + 0) (encClocks F.fClocks) (by kernel_rfl) T_agg25 T_size25 hb5 rfl rfl) ?_
 refine WO.cons (WC.gq (!c16) (GI (!c16) (True) (nx + 1) hp2) (.bool c16) (g := opd (.tmp 17)) rfl (by kernel_rfl) (by cases c16 <;> rfl) (fun h => by obtain rfl : c16 = false := (by simpa using h); have q0 : ¬ (((6) < ((F.fRunners.l.length : Nat) : Int)) ∨ ((3) < ((F.fPairs.l.length : Nat) : Int))) := (fun k => absurd ((p16).2 k) (by decide)); exact WC.call 20 25 ([.agg (encClocks F.fClocks).toArray]) (fun _ _ _ => by kernel_rfl) ((few16_wf F.fClocks hp2 (nx + 1) (hF.fClocks.mono hE6 le7)).mono fun v hp' nx' ⟨⟨c, hv, hc⟩, hn, he⟩ => ⟨_, _, _, rfl, ⟨c, hv, hc⟩, hn, he⟩)) (fun h => GI.off h) ?_)
 rintro _ hp17 nx18 ⟨⟨c21, rfl, p21i⟩, hn19, he20⟩
 have p21 : c21 = true ↔ (c21 = true) := Iff.rfl
 have hE22 := hE6.trans he20 le7
 have hb23 := he20.get hb5 (Nat.lt_succ_self (nx))
 have lt24 := Nat.lt_of_lt_of_le (Nat.lt_succ_self (nx)) hn19
 have le25 := Nat.le_trans le7 hn19
 obtain ⟨c26, e26, p26⟩ := @nb (!c21) (¬ (c21 = true)) (by rw [Bool.not_eq_true', ← Bool.not_eq_true, p21])
 refine og 17 (!c16) (.bool c26) (.bool c16) (by cases c16 <;> rfl) (fun h => by obtain rfl := bF h; exact fun _ _ _ => by subst e26; kernel_rfl) ?_
 obtain ⟨c27, e27, p27⟩ := @nb ((c16 || c26)) ((((6) < ((F.fRunners.l.length : Nat) : Int)) ∨ ((3) < ((F.fPairs.l.length : Nat) : Int))) ∨ (¬ (c21 = true))) (by rw [Bool.or_eq_true, p16, p26])
 refine WO.cons (WC.opt (v := .bool c27) 22 (ePick (.bool c16) (.bool true) ((bif !c16 then .bool c26 else undef))) (fun _ _ _ => by kernel_rfl) (by rw [e27]; exact ePick_or (fun h => by obtain rfl : c16 = false := h; rfl)) ?_)
 refine WO.nil ?_
 refine WP.cond c27 (by kernel_rfl) (fun h28 => ?_) (fun h28 => ?_)
 ·
  have q29 := (p27).1 h28
  refine sr ?_
  refine ov 2 (.bool false) ?_
  refine WO.nil ?_
  refine WP.ret ⟨rfl, rfl, [.bool false], by kernel_rfl, ?_⟩
  refine ⟨⟨false, rfl, fun hc => ?_⟩, le25, hE22⟩
  cases hc
 ·
  have q29 := nq p27 h28
  refine WP.skip ?_
  refine WP.seq ?_
  refine sr ?_
  refine ov 4 (.int .i64 (0)) ?_
  refine WO.nil ?_
  refine WP.block ?_
  have hj31 : ∀ t : Tm, (((t.set 1 (t.get 1)).set 3 (t.get 3)).set 4 (t.get 4)) = t := fun t => by kernel_rfl
  refine WP.loop (fun m s => ∃ (iL30 : Nat) (n1 : Nat), iL30 + m = F.fRunners.l.length ∧ s.to.get 1 = .pointer (some ⟨nx, 0, none⟩) ∧ s.to.get 3 = .int .i64 (.ofNat n1) ∧ s.to.get 4 = .int .i64 (.ofNat iL30) ∧ s.ds = [] ∧ s.cs = [] ∧ nx18 ≤ s.nx ∧ HE (nx18) hp17 s.hp ∧ (n1 ≤ 1407374883553280 * iL30) ∧ (∀ (j : Nat) (r : RRunner), j < iL30 → F.fRunners.l[j]? = some r → r.fKeys.l.length ≤ 8 ∧ r.fWorlds.l.length ≤ 5 ∧ wsum r ≤ n1)) ?_ (F.fRunners.l.length) ?_
  ·
   rintro mL30 ⟨toL30, dsL30, hp32, nx33, csL30⟩ ⟨iL30, n1, him34, gL30_1, gL30_3, gL30_4, hdsL30, hcsL30, hn35, he36, hn1, hfew⟩
   simp only at gL30_1 gL30_3 gL30_4 hdsL30 hcsL30 hn35 he36 hfew
   subst hdsL30 hcsL30
   rw [← hj31 toL30, gL30_1, gL30_3, gL30_4]
   clear gL30_1 gL30_3 gL30_4
   have hE37 := hE22.trans he36 le25
   have hb38 := he36.get hb23 lt24
   have le40 := Nat.le_trans le25 hn35
   refine WP.seq ?_
   refine sr ?_
   refine ov 23 (.int .i64 (.ofNat iL30)) ?_
   refine ov 24 (.pointer (some ⟨nx, 0 + 3, none⟩)) ?_
   refine WO.cons (WC.load1 nx (0 + 3) (.slice a8 (F.fRunners.l.length) c9) (by kernel_rfl) T_agg27 hb38 (by rw [← hv10]; rfl) ?_)
   refine ov 26 (.int .i64 (.ofNat (F.fRunners.l.length))) ?_
   obtain ⟨c41, e41, p41⟩ := @nb (ltI (.ofNat iL30) (.ofNat (F.fRunners.l.length))) (((iL30 : Nat) : Int) < ((F.fRunners.l.length : Nat) : Int)) (ltI_iff)
   refine ov 27 (.bool c41) ?_ (fun _ _ _ => by subst e41; kernel_rfl)
   refine WO.nil ?_
   refine WP.cond c41 (by kernel_rfl) (fun h42 => ?_) (fun h42 => ?_)
   ·
    have q43 := (p41).1 h42
    refine WP.skip ?_
    refine WP.seq ?_
    refine WP.block ?_
    refine sr ?_
    refine ov 30 (.pointer (some ⟨nx, 0 + 3, none⟩)) ?_
    refine WO.cons (WC.load1 nx (0 + 3) (.slice a8 (F.fRunners.l.length) c9) (by kernel_rfl) T_agg27 hb38 (by rw [← hv10]; rfl) ?_)
    refine ov 32 (.int .i64 (.ofNat iL30)) ?_
    have hlt44 : iL30 < F.fRunners.l.length := by omega
    refine WO.cons (WC.ix (k := .i64) a8 (F.fRunners.l.length) c9 (iL30) 3 (by kernel_rfl) (by kernel_rfl) T_und27 T_size43 ((hF.fRunners.1.mono hE37 le40).blkA hv10 (zl hlt44)) (hlt44) ?_)
    obtain ⟨x45, hx46⟩ : ∃ el_, F.fRunners.l[iL30]? = some el_ := ⟨_, List.getElem?_eq_getElem (hlt44)⟩
    refine WO.cons (WC.loadSE (blk a8) (0 + (iL30) * 3) (encRunner x45) (by kernel_rfl) T_agg43 T_size43 ((hF.fRunners.1.mono hE37 le40).blkB hv10 (zl hlt44)) (flat_at0 (hF.fRunners.1.mono hE37 le40).1 hx46) ?_)
    refine WO.cons (WC.alloc _ [.int .i64 (0), .slice none (0) 0, .slice none (0) 0] rfl T_zero43 rfl ?_)
    obtain ⟨hp48, hx49, he50, hb51⟩ := boxed hp32 (nx33) [.int .i64 (0), .slice none (0) 0, .slice none (0) 0]
    rw [hx49]; clear hx49
    have hE52 := hE37.trans he50 le40
    have hr55 := he36.trans he50 hn35
    have rl56 := Nat.le_trans hn35 (Nat.le_succ (nx33))
    have le57 := Nat.le_trans le40 (Nat.le_succ (nx33))
    refine WO.cons (WC.store1 nx33 (0) (.agg (encRunner x45).toArray) [.int .i64 (0), .slice none (0) 0, .slice none (0) 0] (encRunner x45) (encRunner x45) 3 rfl (by kernel_rfl) (by kernel_rfl) T_size43 rfl (Bool.and_eq_true_iff.2 ⟨rfl, encRunner_one _ (hF.fRunners.2 x45 (List.mem_of_getElem? hx46))⟩) hb51 rfl rfl rfl ?_)
    obtain ⟨hp58, hx59, he60, hb61, ho62⟩ := stored hp48 nx33 (.cells (encRunner x45) CMeta.plain)
    rw [hx59]; clear hx59
    have hE63 := hE52.trans he60 (by omega)
    have hr64 := hr55.trans he60 (by omega)
    refine WO.nil ?_
    refine WP.seq ?_
    refine sr ?_
    refine ov 35 (.pointer (some ⟨nx33, 0 + 1, none⟩)) ?_
    obtain ⟨a66, c67, hv68⟩ := (hF.fRunners.2 x45 (List.mem_of_getElem? hx46)).fKeys.shape
    have hsm68 := (hF.fRunners.2 x45 (List.mem_of_getElem? hx46)).fKeys.2.2
    refine WO.cons (WC.load1 nx33 (0 + 1) (.slice a66 (x45.fKeys.l.length) c67) (by kernel_rfl) T_agg30 hb61 (by rw [← hv68]; rfl) ?_)
    refine ov 37 (.int .i64 (.ofNat (x45.fKeys.l.length))) ?_
    obtain ⟨c69, e69, p69⟩ := @nb (ltI (8) (.ofNat (x45.fKeys.l.length))) ((8) < ((x45.fKeys.l.length : Nat) : Int)) (ltI_iff)
    refine ov 38 (.bool c69) ?_ (fun _ _ _ => by subst e69; kernel_rfl)
    refine ov 39 (.bool c69) ?_
    refine og 39 (!c69) (.pointer (some ⟨nx33, 0 + 2, none⟩)) (.bool c69) (by cases c69 <;> rfl) (fun h => by obtain rfl := bF h; exact fun _ _ _ => by kernel_rfl) ?_
    obtain ⟨a70, c71, hv72⟩ := (hF.fRunners.2 x45 (List.mem_of_getElem? hx46)).fWorlds.1.shape
    have hsm72 := (hF.fRunners.2 x45 (List.mem_of_getElem? hx46)).fWorlds.1.2.2
    refine ogc 39 (!c69) (.slice a70 (x45.fWorlds.l.length) c71) (.bool c69) (by cases c69 <;> rfl) (fun h => by obtain rfl := bF h; exact WC.load1 nx33 (0 + 2) (.slice a70 (x45.fWorlds.l.length) c71) (by kernel_rfl) T_agg41 hb61 (by rw [← hv72]; rfl) rfl) ?_
    refine og 39 (!c69) (.int .i64 (.ofNat (x45.fWorlds.l.length))) (.bool c69) (by cases c69 <;> rfl) (fun h => by obtain rfl := bF h; exact fun _ _ _ => by kernel_rfl) ?_
    obtain ⟨c73, e73, p73⟩ := @nb (ltI (5) (.ofNat (x45.fWorlds.l.length))) ((5) < ((x45.fWorlds.l.length : Nat) : Int)) (ltI_iff)
    refine og 39 (!c69) (.bool c73) (.bool c69) (by cases c69 <;> rfl) (fun h => by obtain rfl := bF h; exact fun _ _ _ => by subst e73; kernel_rfl) ?_
    obtain ⟨c74, e74, p74⟩ := @nb ((c69 || c73)) (((8) < ((x45.fKeys.l.length : Nat) : Int)) ∨ ((5) < ((x45.fWorlds.l.length : Nat) : Int))) (by rw [Bool.or_eq_true, p69, p73])
    refine WO.cons (WC.opt (v := .bool c74) 44 (ePick (.bool c69) (.bool true) ((bif !c69 then .bool c73 else undef))) (fun _ _ _ => by kernel_rfl) (by rw [e74]; exact ePick_or (fun h => by obtain rfl : c69 = false := h; rfl)) ?_)
    refine WO.nil ?_
    refine WP.cond c74 (by kernel_rfl) (fun h75 => ?_) (fun h75 => ?_)
    ·
     have q76 := (p74).1 h75
     refine sr ?_
     refine ov 2 (.bool false) ?_
     refine WO.nil ?_
     refine WP.ret ⟨rfl, rfl, [.bool false], by kernel_rfl, ?_⟩
     refine ⟨⟨false, rfl, fun hc => ?_⟩, le57, hE63⟩
     cases hc
    ·
     have q76 := nq p74 h75
     refine WP.skip ?_
     refine sr ?_
     refine ov 6 (.int .i64 (0)) ?_
     refine WO.nil ?_
     refine WP.block ?_
     have hj78 : ∀ t : Tm, (((((t.set 1 (t.get 1)).set 3 (t.get 3)).set 4 (t.get 4)).set 5 (t.get 5)).set 6 (t.get 6)) = t := fun t => by kernel_rfl
     refine WP.loop (fun m s => ∃ (iL77 : Nat) (n2 : Nat), iL77 + m = x45.fWorlds.l.length ∧ s.to.get 1 = .pointer (some ⟨nx, 0, none⟩) ∧ s.to.get 3 = .int .i64 (.ofNat n2) ∧ s.to.get 4 = .int .i64 (.ofNat iL30) ∧ s.to.get 5 = .pointer (some ⟨nx33, 0, none⟩) ∧ s.to.get 6 = .int .i64 (.ofNat iL77) ∧ s.ds = [] ∧ s.cs = [] ∧ nx33 + 1 ≤ s.nx ∧ HE (nx33 + 1) hp58 s.hp ∧ (n2 ≤ 1407374883553280 * iL30 + 281474976710656 * iL77) ∧ (n2 = n1 + ((x45.fWorlds.l.take iL77).map (fun o => o.l.length)).sum)) ?_ (x45.fWorlds.l.length) ?_
     ·
      rintro mL77 ⟨toL77, dsL77, hp79, nx80, csL77⟩ ⟨iL77, n2, him81, gL77_1, gL77_3, gL77_4, gL77_5, gL77_6, hdsL77, hcsL77, hn82, he83, hn2, hsum⟩
      simp only at gL77_1 gL77_3 gL77_4 gL77_5 gL77_6 hdsL77 hcsL77 hn82 he83 hsum
      subst hdsL77 hcsL77
      rw [← hj78 toL77, gL77_1, gL77_3, gL77_4, gL77_5, gL77_6]
      clear gL77_1 gL77_3 gL77_4 gL77_5 gL77_6
      have hE84 := hE63.trans he83 le57
      have hb87 := he83.get hb61 (Nat.lt_succ_self (nx33))
      have hr89 := hr64.trans he83 rl56
      have rl90 := Nat.le_trans rl56 hn82
      have le91 := Nat.le_trans le57 hn82
      refine WP.seq ?_
      refine sr ?_
      refine ov 45 (.int .i64 (.ofNat iL77)) ?_
      refine ov 46 (.pointer (some ⟨nx33, 0 + 2, none⟩)) ?_
      refine WO.cons (WC.load1 nx33 (0 + 2) (.slice a70 (x45.fWorlds.l.length) c71) (by kernel_rfl) T_agg41 hb87 (by rw [← hv72]; rfl) ?_)
      refine ov 48 (.int .i64 (.ofNat (x45.fWorlds.l.length))) ?_
      obtain ⟨c92, e92, p92⟩ := @nb (ltI (.ofNat iL77) (.ofNat (x45.fWorlds.l.length))) (((iL77 : Nat) : Int) < ((x45.fWorlds.l.length : Nat) : Int)) (ltI_iff)
      refine ov 49 (.bool c92) ?_ (fun _ _ _ => by subst e92; kernel_rfl)
      refine WO.nil ?_
      refine WP.cond c92 (by kernel_rfl) (fun h93 => ?_) (fun h93 => ?_)
      ·
       have q94 := (p92).1 h93
       refine WP.skip ?_
       refine WP.seq ?_
       refine WP.block ?_
       refine WP.region ?_
       refine ov 52 (.int .i64 (.ofNat n2)) ?_
       refine ov 53 (.pointer (some ⟨nx33, 0 + 2, none⟩)) ?_
       refine WO.cons (WC.load1 nx33 (0 + 2) (.slice a70 (x45.fWorlds.l.length) c71) (by kernel_rfl) T_agg41 hb87 (by rw [← hv72]; rfl) ?_)
       refine ov 55 (.int .i64 (.ofNat iL77)) ?_
       have hlt95 : iL77 < x45.fWorlds.l.length := by omega
       refine WO.cons (WC.ix (k := .i64) a70 (x45.fWorlds.l.length) c71 (iL77) 1 (by kernel_rfl) (by kernel_rfl) T_und41 T_size97 (((hF.fRunners.2 x45 (List.mem_of_getElem? hx46)).fWorlds.1.mono hE84 le91).blkA hv72 (zl hlt95)) (hlt95) ?_)
       obtain ⟨x96, hx97⟩ : ∃ el_, x45.fWorlds.l[iL77]? = some el_ := ⟨_, List.getElem?_eq_getElem (hlt95)⟩
       obtain ⟨a98, c99, hv100⟩ := ((hF.fRunners.2 x45 (List.mem_of_getElem? hx46)).fWorlds.2 x96 (List.mem_of_getElem? hx97)).shape
       have hsm100 := ((hF.fRunners.2 x45 (List.mem_of_getElem? hx46)).fWorlds.2 x96 (List.mem_of_getElem? hx97)).2.2
       refine WO.cons (WC.load1E (blk a70) (0 + (iL77) * 1) (.slice a98 (x96.l.length) c99) (by kernel_rfl) T_agg97 (((hF.fRunners.2 x45 (List.mem_of_getElem? hx46)).fWorlds.1.mono hE84 le91).blkB hv72 (zl hlt95)) (flat_at1 ((hF.fRunners.2 x45 (List.mem_of_getElem? hx46)).fWorlds.1.mono hE84 le91).1 hx97 (by rw [← hv100]; rfl)) ?_)
       refine ov 58 (.int .i64 (.ofNat (x96.l.length))) ?_
       refine ov 59 (.int .i64 (.ofNat (n2 + x96.l.length))) ?_ (fun _ _ _ => by rw [← wrapAdd (show n2 + x96.l.length < 9223372036854775808 by omega)]; kernel_rfl)
       refine ov 3 (.int .i64 (.ofNat (n2 + x96.l.length))) ?_
       refine WO.nil ?_
       refine WP.region ?_
       refine ov 50 (.int .i64 (.ofNat iL77)) ?_
       refine ov 51 (.int .i64 (.ofNat (iL77 + 1))) ?_ (fun _ _ _ => by rw [← wrapAdd (show iL77 + 1 < 9223372036854775808 by omega)]; kernel_rfl)
       refine ov 6 (.int .i64 (.ofNat (iL77 + 1))) ?_
       refine WO.nil ?_
       refine ⟨x45.fWorlds.l.length - (iL77 + 1), by omega, iL77 + 1, n2 + x96.l.length, by omega, by kernel_rfl, by kernel_rfl, by kernel_rfl, by kernel_rfl, by kernel_rfl, rfl, rfl, ?_, ?_, ?_, ?_⟩
       · exact hn82
       · exact he83
       · omega
       · rw [List.take_add_one, List.map_append, List.sum_append, hx97]
         simp only [Option.toList_some, List.map_cons, List.map_nil, List.sum_cons, List.sum_nil]
         omega
      ·
       have q94 := nq p92 h93
       refine WP.exit ?_
       refine WP.region ?_
       refine ov 28 (.int .i64 (.ofNat iL30)) ?_
       refine ov 29 (.int .i64 (.ofNat (iL30 + 1))) ?_ (fun _ _ _ => by rw [← wrapAdd (show iL30 + 1 < 9223372036854775808 by omega)]; kernel_rfl)
       refine ov 4 (.int .i64 (.ofNat (iL30 + 1))) ?_
       refine WO.nil ?_
       refine ⟨F.fRunners.l.length - (iL30 + 1), by omega, iL30 + 1, n2, by omega, by kernel_rfl, by kernel_rfl, by kernel_rfl, rfl, rfl, ?_, ?_, ?_, ?_⟩
       · exact rl90
       · exact hr89
       · omega
       · intro j r' hj hs
         rcases Nat.lt_succ_iff_lt_or_eq.1 hj with hj | rfl
         · obtain ⟨a, b, c⟩ := hfew j r' hj hs; exact ⟨a, b, by omega⟩
         · rw [hx46] at hs; cases hs
           refine ⟨by omega, by omega, ?_⟩
           have : (x45.fWorlds.l.take iL77).map (fun o => o.l.length) = x45.fWorlds.l.map (fun o => o.l.length) := by rw [List.take_of_length_le (by omega)]
           unfold wsum; rw [← this]; omega
     ·
      exact ⟨0, n1, by omega, by kernel_rfl, by kernel_rfl, by kernel_rfl, by kernel_rfl, by kernel_rfl, rfl, rfl, Nat.le_refl _, HE.refl _ _, (by omega), (by simp)⟩
   ·
    have q43 := nq p41 h42
    refine WP.exit ?_
    refine sr ?_
    refine ov 60 (.int .i64 (.ofNat n1)) ?_
    obtain ⟨c101, e101, p101⟩ := @nb (leI (.ofNat n1) (60)) (((n1 : Nat) : Int) ≤ (60)) (leI_iff)
    refine ov 61 (.bool c101) ?_ (fun _ _ _ => by subst e101; kernel_rfl)
    refine ov 2 (.bool c101) ?_
    refine WO.nil ?_
    refine WP.ret ⟨rfl, rfl, [.bool c101], by kernel_rfl, ?_⟩
    refine ⟨⟨c101, rfl, fun hc => ?_⟩, le40, hE37⟩
    have hq := (p101).1 hc
    refine ⟨by omega, by omega, fun r hr => ?_⟩
    obtain ⟨j, hj⟩ := List.getElem?_of_mem hr
    obtain ⟨a, b, c⟩ := hfew j r (by have := (List.getElem?_eq_some_iff.1 hj).1; omega) hj
    exact ⟨a, b, by omega⟩
  ·
   exact ⟨0, 0, by omega, by kernel_rfl, by kernel_rfl, by kernel_rfl, rfl, rfl, Nat.le_refl _, HE.refl _ _, (Nat.zero_le _), (fun _ _ h => absurd h (Nat.not_lt_zero _))⟩
end
end Sw

namespace Sw
noncomputable section
open Go Go.Proofs Go.RowKit
set_option maxRecDepth 100000
set_option maxHeartbeats 1600000
def FindIs (F : RField) (bib : Int) (z : Int) (c : Bool) : Prop := (z = 0 ∧ c = false ∧ ∀ r ∈ F.fRunners.l, r.fBib ≠ bib) ∨ ∃ (i : Nat) (r : RRunner), z = .ofNat i ∧ c = true ∧ F.fRunners.l[i]? = some r ∧ r.fBib = bib ∧ ∀ (j : Nat) (y : RRunner), j < i → F.fRunners.l[j]? = some y → y.fBib ≠ bib
def FindV (F : RField) (bib : Int) : Value → Prop := fun v => ∃ z c, v = .tuple ⟨[.int .i64 z, .bool c]⟩ ∧ FindIs F bib z c
theorem FindIs.same {F : RField} {bib z z' : Int} {c c' : Bool} (h : FindIs F bib z c) (h' : FindIs F bib z' c') : z = z' ∧ c = c' := by
  rcases h with ⟨rfl, rfl, h⟩ | ⟨i, r, rfl, rfl, h1, h2, h3⟩ <;> rcases h' with ⟨rfl, rfl, k⟩ | ⟨j, s, rfl, rfl, k1, k2, k3⟩
  · exact ⟨rfl, rfl⟩
  · exact absurd k2 (h s (List.mem_of_getElem? k1))
  · exact absurd h2 (k r (List.mem_of_getElem? h1))
  · rcases Nat.lt_trichotomy i j with q | q | q
    · exact absurd h2 (k3 i r q h1)
    · subst q; exact ⟨rfl, rfl⟩
    · exact absurd k2 (h3 j s q k1)
theorem T_zero3 : ex.T.zero 3 = some (.int .i64 (0)) := by kernel_rfl
theorem indexFunc_run {A : RRunner → Prop} (K : SV RRunner) (f : FuncId) (b : Array Value) (hp : Ht) (nx : Nat) (hK : SlOk encRunner 3 (fun hp nx y => RRunnerOk hp nx y) hp nx K) (hf : ∀ (i : Nat) (x : RRunner), K.l[i]? = some x → ∀ (hp' : Ht) (nx' : Nat), nx ≤ nx' → HE nx hp hp' → WF ex f ((.agg (encRunner x).toArray) :: b.toList) hp' nx' (Stays nx' hp' (BoolIs (A x)))) : WF ex 26 [K.v, .func (.func f) #[] b] hp nx (Stays nx hp (IdxIs K.l A)) := by
 obtain ⟨a1, c2, hv3⟩ := hK.1.shape
 have hsm3 := hK.1.2.2
 rw [hv3]
 refine WF.body (fi := ⟨Tryz.f26.body.getD .skip, 19, [.tmp 4]⟩) (by kernel_rfl) (by kernel_rfl) (by kernel_rfl) rfl ?_
 have hE := HE.refl nx hp
 refine sr ?_
 refine ov 4 (.int .i64 (0)) ?_
 refine WO.nil ?_
 refine WP.seq ?_
 refine sr ?_
 refine ov 6 (.slice a1 (K.l.length) c2) ?_
 refine ov 7 (.int .i64 (.ofNat (K.l.length))) ?_
 refine ov 8 (.int .i64 (0)) ?_
 refine WO.nil ?_
 refine WP.block ?_
 have hj5 : ∀ t : Tm, ((((t.set 0 (t.get 0)).set 1 (t.get 1)).set 7 (t.get 7)).set 8 (t.get 8)) = t := fun t => by kernel_rfl
 refine WP.loop (fun m s => ∃ (iL4 : Nat), iL4 + m = K.l.length ∧ s.to.get 0 = .slice a1 (K.l.length) c2 ∧ s.to.get 1 = .func (.func f) #[] b ∧ s.to.get 7 = .int .i64 (.ofNat (K.l.length)) ∧ s.to.get 8 = .int .i64 (.ofNat iL4) ∧ s.ds = [] ∧ s.cs = [] ∧ nx ≤ s.nx ∧ HE (nx) hp s.hp ∧ (∀ (j : Nat) (y : RRunner), j < iL4 → K.l[j]? = some y → ¬ A y)) ?_ (K.l.length) ?_
 ·
  rintro mL4 ⟨toL4, dsL4, hp6, nx7, csL4⟩ ⟨iL4, him8, gL4_0, gL4_1, gL4_7, gL4_8, hdsL4, hcsL4, hn9, he10, hinv⟩
  simp only at gL4_0 gL4_1 gL4_7 gL4_8 hdsL4 hcsL4 hn9 he10
  subst hdsL4 hcsL4
  rw [← hj5 toL4, gL4_0, gL4_1, gL4_7, gL4_8]
  clear gL4_0 gL4_1 gL4_7 gL4_8
  have hE11 := hE.trans he10 (Nat.le_refl nx)
  have le12 := Nat.le_trans (Nat.le_refl nx) hn9
  refine sr ?_
  obtain ⟨c13, e13, p13⟩ := @nb (ltI (.ofNat iL4) (.ofNat (K.l.length))) (((iL4 : Nat) : Int) < ((K.l.length : Nat) : Int)) (ltI_iff)
  refine ov 9 (.bool c13) ?_ (fun _ _ _ => by subst e13; kernel_rfl)
  refine WO.nil ?_
  refine WP.seq ?_
  refine WP.cond c13 (by kernel_rfl) (fun h14 => ?_) (fun h14 => ?_)
  ·
   have q15 := (p13).1 h14
   refine WP.skip ?_
   refine WP.seq ?_
   refine WP.block ?_
   refine sr ?_
   refine ov 10 (.int .i64 (.ofNat iL4)) ?_
   refine ov 5 (.int .i64 (.ofNat iL4)) ?_
   refine WO.nil ?_
   refine sr ?_
   refine ov 11 (.func (.func f) #[] b) ?_
   refine ov 12 (.slice a1 (K.l.length) c2) ?_
   refine ov 13 (.int .i64 (.ofNat iL4)) ?_
   have hlt16 : iL4 < K.l.length := by omega
   refine WO.cons (WC.ix (k := .i64) a1 (K.l.length) c2 (iL4) 3 (by kernel_rfl) (by kernel_rfl) T_und27 T_size43 ((hK.1.mono hE11 le12).blkA hv3 (zl hlt16)) (hlt16) ?_)
   obtain ⟨x17, hx18⟩ : ∃ el_, K.l[iL4]? = some el_ := ⟨_, List.getElem?_eq_getElem (hlt16)⟩
   refine WO.cons (WC.loadSE (blk a1) (0 + (iL4) * 3) (encRunner x17) (by kernel_rfl) T_agg43 T_size43 ((hK.1.mono hE11 le12).blkB hv3 (zl hlt16)) (flat_at0 (hK.1.mono hE11 le12).1 hx18) ?_)
   refine WO.cons (WC.call 16 f ((.agg (encRunner x17).toArray) :: b.toList) (fun _ _ _ => by kernel_rfl) ((hf iL4 x17 hx18 hp6 (nx7) le12 hE11).mono ?_))
   rintro _ hp19 nx20 ⟨⟨c23, rfl, p23⟩, hn21, he22⟩
   have hE24 := hE11.trans he22 le12
   have hr25 := he10.trans he22 hn9
   have rl26 := Nat.le_trans hn9 hn21
   have le27 := Nat.le_trans le12 hn21
   refine WO.nil ?_
   refine WP.cond c23 (by kernel_rfl) (fun h28 => ?_) (fun h28 => ?_)
   ·
    have q29 := (p23).1 h28
    refine sr ?_
    refine ov 17 (.int .i64 (.ofNat iL4)) ?_
    refine ov 4 (.int .i64 (.ofNat iL4)) ?_
    refine WO.nil ?_
    refine WP.ret ⟨rfl, rfl, [.int .i64 (.ofNat iL4)], by kernel_rfl, ?_⟩
    exact ⟨.inr ⟨iL4, x17, rfl, hx18, q29, hinv⟩, le27, hE24⟩
   ·
    have q29 : ¬ (A x17) := fun k => by rw [(p23).2 k] at h28; cases h28
    refine WP.skip ?_
    refine WP.region ?_
    refine ov 18 (.int .i64 (.ofNat (iL4 + 1))) ?_ (fun _ _ _ => by rw [← wrapAdd (show iL4 + 1 < 9223372036854775808 by omega)]; kernel_rfl)
    refine ov 8 (.int .i64 (.ofNat (iL4 + 1))) ?_
    refine WO.nil ?_
    refine ⟨K.l.length - (iL4 + 1), by omega, iL4 + 1, by omega, by kernel_rfl, by kernel_rfl, by kernel_rfl, by kernel_rfl, rfl, rfl, ?_, ?_, ?_⟩
    · exact rl26
    · exact hr25
    · intro j y hj hy; rcases Nat.lt_succ_iff_lt_or_eq.1 hj with hj | rfl; exact hinv j y hj hy; rw [hx18] at hy; cases hy; exact q29
  ·
   have q15 := nq p13 h14
   refine WP.exit ?_
   refine sr ?_
   refine ov 4 (.int .i64 (-1)) ?_
   refine WO.nil ?_
   refine WP.ret ⟨rfl, rfl, [.int .i64 (-1)], by kernel_rfl, ?_⟩
   refine ⟨.inl ⟨rfl, fun y hy => ?_⟩, le12, hE11⟩
   obtain ⟨j, hj⟩ := List.getElem?_of_mem hy
   exact hinv j y (by have := (List.getElem?_eq_some_iff.1 hj).1; omega) hj
 ·
  exact ⟨0, by omega, by kernel_rfl, by kernel_rfl, by kernel_rfl, by kernel_rfl, rfl, rfl, Nat.le_refl _, HE.refl _ _, (fun j y h => absurd h (Nat.not_lt_zero _))⟩
theorem containsFunc_run {A : RRunner → Prop} (K : SV RRunner) (f : FuncId) (b : Array Value) (hp : Ht) (nx : Nat) (hK : SlOk encRunner 3 (fun hp nx y => RRunnerOk hp nx y) hp nx K) (hf : ∀ (i : Nat) (x : RRunner), K.l[i]? = some x → ∀ (hp' : Ht) (nx' : Nat), nx ≤ nx' → HE nx hp hp' → WF ex f ((.agg (encRunner x).toArray) :: b.toList) hp' nx' (Stays nx' hp' (BoolIs (A x)))) : WF ex 60 [K.v, .func (.func f) #[] b] hp nx (Stays nx hp (BoolIs (∃ x ∈ K.l, A x))) := by
 obtain ⟨a1, c2, hv3⟩ := hK.1.shape
 have hsm3 := hK.1.2.2
 rw [hv3]
 refine WF.body (fi := ⟨Tryz.f60.body.getD .skip, 9, [.tmp 4]⟩) (by kernel_rfl) (by kernel_rfl) (by kernel_rfl) rfl ?_
 have hE := HE.refl nx hp
 refine sr ?_
 refine ov 4 (.bool false) ?_
 refine WO.nil ?_
 refine sr ?_
 refine ov 5 (.slice a1 (K.l.length) c2) ?_
 refine ov 6 (.func (.func f) #[] b) ?_
 refine WO.cons (WC.call 7 26 ([K.v, .func (.func f) #[] b]) (fun _ _ _ => by (try rw [hv3]); kernel_rfl) ((indexFunc_run K f b hp (nx) hK hf).mono ?_))
 rintro vz8 hp4 nx5 ⟨hz0, hn6, he7⟩
 obtain ⟨z8, rfl, hz9⟩ : ∃ z : Int, vz8 = .int .i64 z ∧ (0 ≤ z ↔ ∃ x ∈ K.l, A x) := IdxIs.sign hz0
 have hE10 := hE.trans he7 (Nat.le_refl nx)
 have le11 := Nat.le_trans (Nat.le_refl nx) hn6
 obtain ⟨c12, e12, p12⟩ := @nb (leI (0) (z8)) ((0) ≤ (z8)) (leI_iff)
 refine ov 8 (.bool c12) ?_ (fun _ _ _ => by subst e12; kernel_rfl)
 refine ov 4 (.bool c12) ?_
 refine WO.nil ?_
 refine WP.ret ⟨rfl, rfl, [.bool c12], by kernel_rfl, ?_⟩
 exact ⟨⟨c12, rfl, p12.trans hz9⟩, le11, hE10⟩
theorem possible1_wf (x : RRunner) (w b : Nat) (hp : Ht) (nx : Nat) (hx : RRunnerOk hp nx x) (hb : hp.get b = some (.cells [.int .i64 (.ofNat w)] CMeta.plain)) (hlt : b < nx) (hw : w < x.fWorlds.l.length) : WF ex 61 [.agg (encRunner x).toArray, .pointer (some ⟨b, 0, none⟩)] hp nx (Stays nx hp (BoolIs (∃ o, x.fWorlds.l[w]? = some o ∧ o.l = []))) := by
 refine WF.body (fi := ⟨Tryz.f61.body.getD .skip, 11, [.tmp 3]⟩) (by kernel_rfl) (by kernel_rfl) (by kernel_rfl) rfl ?_
 have hE := HE.refl nx hp
 refine sr ?_
 refine WO.cons (WC.box (.agg (encRunner x).toArray) (encRunner x) rfl (by kernel_rfl) rfl ?_)
 obtain ⟨hp2, hx3, he4, hb5⟩ := boxed hp (nx) (encRunner x)
 rw [hx3]; clear hx3
 have hE6 := hE.trans he4 (Nat.le_refl nx)
 have hb7 := he4.get hb hlt
 have le9 := Nat.le_trans (Nat.le_refl nx) (Nat.le_succ (nx))
 refine ov 3 (.bool false) ?_
 refine WO.nil ?_
 refine sr ?_
 refine ov 4 (.pointer (some ⟨nx, 0 + 2, none⟩)) ?_
 obtain ⟨a10, c11, hv12⟩ := hx.fWorlds.1.shape
 have hsm12 := hx.fWorlds.1.2.2
 refine WO.cons (WC.load1 nx (0 + 2) (.slice a10 (x.fWorlds.l.length) c11) (by kernel_rfl) T_agg41 hb5 (by rw [← hv12]; rfl) ?_)
 refine WO.cons (WC.load1 b (0) (.int .i64 (.ofNat w)) (by kernel_rfl) T_agg3 hb7 rfl ?_)
 have hlt13 : w < x.fWorlds.l.length := by omega
 refine WO.cons (WC.ix (k := .i64) a10 (x.fWorlds.l.length) c11 (w) 1 (by kernel_rfl) (by kernel_rfl) T_und41 T_size97 ((hx.fWorlds.1.mono hE6 le9).blkA hv12 (zl hlt13)) (hlt13) ?_)
 obtain ⟨x14, hx15⟩ : ∃ el_, x.fWorlds.l[w]? = some el_ := ⟨_, List.getElem?_eq_getElem (hlt13)⟩
 obtain ⟨a16, c17, hv18⟩ := (hx.fWorlds.2 x14 (List.mem_of_getElem? hx15)).shape
 have hsm18 := (hx.fWorlds.2 x14 (List.mem_of_getElem? hx15)).2.2
 refine WO.cons (WC.load1E (blk a10) (0 + (w) * 1) (.slice a16 (x14.l.length) c17) (by kernel_rfl) T_agg97 ((hx.fWorlds.1.mono hE6 le9).blkB hv12 (zl hlt13)) (flat_at1 (hx.fWorlds.1.mono hE6 le9).1 hx15 (by rw [← hv18]; rfl)) ?_)
 refine ov 9 (.int .i64 (.ofNat (x14.l.length))) ?_
 obtain ⟨c19, e19, p19⟩ := @nb (eqI (.ofNat (x14.l.length)) (0)) (((x14.l.length : Nat) : Int) = (0)) (eqI_iff)
 refine ov 10 (.bool c19) ?_ (fun _ _ _ => by subst e19; kernel_rfl)
 refine ov 3 (.bool c19) ?_
 refine WO.nil ?_
 refine WP.ret ⟨rfl, rfl, [.bool c19], by kernel_rfl, ?_⟩
 refine ⟨⟨c19, rfl, ?_⟩, le9, hE6⟩
 rw [p19]
 constructor
 · intro h; exact ⟨_, hx15, List.eq_nil_of_length_eq_zero (by omega)⟩
 · rintro ⟨o, h1, h2⟩; rw [hx15] at h1; cases h1; rw [h2]; rfl
theorem possibleF_wf (F : RField) (hp : Ht) (nx : Nat) (hF : RFieldOk hp nx F) (hlen : ∀ r ∈ F.fRunners.l, r.fWorlds.l.length = F.fPairs.l.length + 1) : WF ex 31 [.agg (encField F).toArray] hp nx (Stays nx hp (BoolIs (Poss F))) := by
 refine WF.body (fi := ⟨Tryz.f31.body.getD .skip, 17, [.tmp 2]⟩) (by kernel_rfl) (by kernel_rfl) (by kernel_rfl) rfl ?_
 have hE := HE.refl nx hp
 refine sr ?_
 refine WO.cons (WC.box (.agg (encField F).toArray) (encField F) rfl (by kernel_rfl) rfl ?_)
 obtain ⟨hp2, hx3, he4, hb5⟩ := boxed hp (nx) (encField F)
 rw [hx3]; clear hx3
 have hE6 := hE.trans he4 (Nat.le_refl nx)
 have le7 := Nat.le_trans (Nat.le_refl nx) (Nat.le_succ (nx))
 refine ov 2 (.bool false) ?_
 refine WO.nil ?_
 refine WP.seq ?_
 refine sr ?_
 refine ov 4 (.pointer (some ⟨nx, 0 + 2, none⟩)) ?_
 obtain ⟨a8, c9, hv10⟩ := hF.fPairs.shape
 have hsm10 := hF.fPairs.2.2
 refine WO.cons (WC.load1 nx (0 + 2) (.slice a8 (F.fPairs.l.length) c9) (by kernel_rfl) T_agg26 hb5 (by rw [← hv10]; rfl) ?_)
 refine ov 6 (.int .i64 (.ofNat (F.fPairs.l.length))) ?_
 refine ov 7 (.int .i64 (.ofNat (F.fPairs.l.length + 1))) ?_ (fun _ _ _ => by rw [← wrapAdd (show F.fPairs.l.length + 1 < 9223372036854775808 by omega)]; kernel_rfl)
 refine ov 8 (.int .i64 (0)) ?_
 refine WO.nil ?_
 refine WP.block ?_
 have hj12 : ∀ t : Tm, (((t.set 1 (t.get 1)).set 7 (t.get 7)).set 8 (t.get 8)) = t := fun t => by kernel_rfl
 refine WP.loop (fun m s => ∃ (iL11 : Nat), iL11 + m = (F.fPairs.l.length + 1) ∧ s.to.get 1 = .pointer (some ⟨nx, 0, none⟩) ∧ s.to.get 7 = .int .i64 (.ofNat (F.fPairs.l.length + 1)) ∧ s.to.get 8 = .int .i64 (.ofNat iL11) ∧ s.ds = [] ∧ s.cs = [] ∧ nx + 1 ≤ s.nx ∧ HE (nx + 1) hp2 s.hp ∧ (∀ j, j < iL11 → ¬ PossAt F j)) ?_ ((F.fPairs.l.length + 1)) ?_
 ·
  rintro mL11 ⟨toL11, dsL11, hp13, nx14, csL11⟩ ⟨iL11, him15, gL11_1, gL11_7, gL11_8, hdsL11, hcsL11, hn16, he17, hno⟩
  simp only at gL11_1 gL11_7 gL11_8 hdsL11 hcsL11 hn16 he17
  subst hdsL11 hcsL11
  rw [← hj12 toL11, gL11_1, gL11_7, gL11_8]
  clear gL11_1 gL11_7 gL11_8
  have hE18 := hE6.trans he17 le7
  have hb19 := he17.get hb5 (Nat.lt_succ_self (nx))
  have lt20 := Nat.lt_of_lt_of_le (Nat.lt_succ_self (nx)) hn16
  have le21 := Nat.le_trans le7 hn16
  refine sr ?_
  obtain ⟨c22, e22, p22⟩ := @nb (ltI (.ofNat iL11) (.ofNat (F.fPairs.l.length + 1))) (((iL11 : Nat) : Int) < ((F.fPairs.l.length + 1 : Nat) : Int)) (ltI_iff)
  refine ov 9 (.bool c22) ?_ (fun _ _ _ => by subst e22; kernel_rfl)
  refine WO.nil ?_
  refine WP.seq ?_
  refine WP.cond c22 (by kernel_rfl) (fun h23 => ?_) (fun h23 => ?_)
  ·
   have q24 := (p22).1 h23
   refine WP.skip ?_
   refine WP.seq ?_
   refine WP.block ?_
   refine sr ?_
   refine ov 10 (.int .i64 (.ofNat iL11)) ?_
   refine WO.cons (WC.alloc _ [.int .i64 (0)] rfl T_zero3 rfl ?_)
   obtain ⟨hp26, hx27, he28, hb29⟩ := boxed hp13 (nx14) [.int .i64 (0)]
   rw [hx27]; clear hx27
   have hE30 := hE18.trans he28 le21
   have hb31 := he28.get hb19 lt20
   have hr33 := he17.trans he28 hn16
   have rl34 := Nat.le_trans hn16 (Nat.le_succ (nx14))
   have le35 := Nat.le_trans le21 (Nat.le_succ (nx14))
   refine WO.cons (WC.store1 nx14 (0) (.int .i64 (.ofNat iL11)) [.int .i64 (0)] [.int .i64 (.ofNat iL11)] [.int .i64 (.ofNat iL11)] 1 rfl (by kernel_rfl) (by kernel_rfl) T_size3 rfl rfl hb29 rfl rfl rfl ?_)
   obtain ⟨hp36, hx37, he38, hb39, ho40⟩ := stored hp26 nx14 (.cells [.int .i64 (.ofNat iL11)] CMeta.plain)
   rw [hx37]; clear hx37
   have hE41 := hE30.trans he38 (by omega)
   have hr42 := hr33.trans he38 (by omega)
   have hb43 := (ho40 nx (by omega)).trans hb31
   refine WO.nil ?_
   refine sr ?_
   refine ov 11 (.pointer (some ⟨nx, 0 + 3, none⟩)) ?_
   obtain ⟨a44, c45, hv46⟩ := hF.fRunners.1.shape
   have hsm46 := hF.fRunners.1.2.2
   refine WO.cons (WC.load1 nx (0 + 3) (.slice a44 (F.fRunners.l.length) c45) (by kernel_rfl) T_agg27 hb43 (by rw [← hv46]; rfl) ?_)
   refine ov 13 (.func (.func 61) #[] #[.pointer (some ⟨nx14, 0, none⟩)]) ?_
   refine WO.cons (WC.call 14 60 ([F.fRunners.v, .func (.func 61) #[] #[.pointer (some ⟨nx14, 0, none⟩)]]) (fun _ _ _ => by (try rw [hv46]); kernel_rfl) ((containsFunc_run (A := fun x => ∃ o, x.fWorlds.l[iL11]? = some o ∧ o.l = []) F.fRunners 61 #[.pointer (some ⟨nx14, 0, none⟩)] hp36 (nx14 + 1) (hF.fRunners.mono (fun _ h => h.mono) hE41 le35) (fun i x hx hp' nx' hn he => possible1_wf x (iL11) nx14 hp' nx' (((hF.fRunners.2 x (List.mem_of_getElem? hx)).mono hE41 le35).mono he hn) (he.get hb39 (Nat.lt_succ_self (nx14))) (Nat.lt_of_lt_of_le (Nat.lt_succ_self (nx14)) hn) (by have := hlen x (List.mem_of_getElem? hx); omega))).mono ?_))
   rintro _ hp47 nx48 ⟨⟨c51, rfl, p51⟩, hn49, he50⟩
   have hE52 := hE41.trans he50 le35
   have hr57 := hr42.trans he50 rl34
   have rl58 := Nat.le_trans rl34 hn49
   have le59 := Nat.le_trans le35 hn49
   obtain ⟨c60, e60, p60⟩ := @nb (!c51) (¬ (∃ x ∈ F.fRunners.l, (fun x => ∃ o, x.fWorlds.l[iL11]? = some o ∧ o.l = []) x)) (by rw [Bool.not_eq_true', ← Bool.not_eq_true, p51])
   refine ov 15 (.bool c60) ?_ (fun _ _ _ => by subst e60; kernel_rfl)
   refine WO.nil ?_
   refine WP.cond c60 (by kernel_rfl) (fun h61 => ?_) (fun h61 => ?_)
   ·
    have q62 := (p60).1 h61
    refine sr ?_
    refine ov 2 (.bool true) ?_
    refine WO.nil ?_
    refine WP.ret ⟨rfl, rfl, [.bool true], by kernel_rfl, ?_⟩
    refine ⟨⟨true, rfl, ⟨fun _ => ?_, fun _ => rfl⟩⟩, le59, hE52⟩
    refine ⟨iL11, by omega, fun r hr => ?_⟩
    have hl := hlen r hr
    obtain ⟨o, ho⟩ : ∃ o, r.fWorlds.l[iL11]? = some o := ⟨_, List.getElem?_eq_getElem (by omega)⟩
    exact ⟨o, ho, fun h0 => q62 ⟨r, hr, o, ho, h0⟩⟩
   ·
    have q62 := nq p60 h61
    refine WP.skip ?_
    refine WP.region ?_
    refine ov 16 (.int .i64 (.ofNat (iL11 + 1))) ?_ (fun _ _ _ => by rw [← wrapAdd (show iL11 + 1 < 9223372036854775808 by omega)]; kernel_rfl)
    refine ov 8 (.int .i64 (.ofNat (iL11 + 1))) ?_
    refine WO.nil ?_
    refine ⟨(F.fPairs.l.length + 1) - (iL11 + 1), by omega, iL11 + 1, by omega, by kernel_rfl, by kernel_rfl, by kernel_rfl, rfl, rfl, ?_, ?_, ?_⟩
    · exact rl58
    · exact hr57
    · intro j hj
      rcases Nat.lt_succ_iff_lt_or_eq.1 hj with hj | rfl
      · exact hno j hj
      · intro hp'
        obtain ⟨x, hx, o, h1, h2⟩ := Classical.not_not.1 q62
        obtain ⟨o', h3, h4⟩ := hp' x hx
        rw [h1] at h3; cases h3; exact h4 h2
  ·
   have q24 := nq p22 h23
   refine WP.exit ?_
   refine sr ?_
   refine ov 2 (.bool false) ?_
   refine WO.nil ?_
   refine WP.ret ⟨rfl, rfl, [.bool false], by kernel_rfl, ?_⟩
   refine ⟨⟨false, rfl, ⟨fun h => (by cases h), fun hok => False.elim ?_⟩⟩, le21, hE18⟩
   obtain ⟨w, h1, h2⟩ := hok
   exact hno w (by omega) h2
 ·
  exact ⟨0, by omega, by kernel_rfl, by kernel_rfl, by kernel_rfl, rfl, rfl, Nat.le_refl _, HE.refl _ _, (fun _ h => absurd h (Nat.not_lt_zero _))⟩
theorem find1_wf (x : RRunner) (bib : Int) (b : Nat) (hp : Ht) (nx : Nat) (hx : RRunnerOk hp nx x) (hb : hp.get b = some (.cells [.int .i64 bib] CMeta.plain)) (hlt : b < nx) : WF ex 27 [.agg (encRunner x).toArray, .pointer (some ⟨b, 0, none⟩)] hp nx (Stays nx hp (BoolIs (x.fBib = bib))) := by
 refine WF.body (fi := ⟨Tryz.f27.body.getD .skip, 8, [.tmp 3]⟩) (by kernel_rfl) (by kernel_rfl) (by kernel_rfl) rfl ?_
 have hE := HE.refl nx hp
 refine sr ?_
 refine WO.cons (WC.box (.agg (encRunner x).toArray) (encRunner x) rfl (by kernel_rfl) rfl ?_)
 obtain ⟨hp2, hx3, he4, hb5⟩ := boxed hp (nx) (encRunner x)
 rw [hx3]; clear hx3
 have hE6 := hE.trans he4 (Nat.le_refl nx)
 have hb7 := he4.get hb hlt
 have le9 := Nat.le_trans (Nat.le_refl nx) (Nat.le_succ (nx))
 refine ov 3 (.bool false) ?_
 refine WO.nil ?_
 refine sr ?_
 refine ov 4 (.pointer (some ⟨nx, 0 + 0, none⟩)) ?_
 refine WO.cons (WC.load1 nx (0 + 0) (.int .i64 (x.fBib)) (by kernel_rfl) T_agg3 hb5 rfl ?_)
 refine WO.cons (WC.load1 b (0) (.int .i64 (bib)) (by kernel_rfl) T_agg3 hb7 rfl ?_)
 obtain ⟨c10, e10, p10⟩ := @nb (eqI (x.fBib) (bib)) ((x.fBib) = (bib)) (eqI_iff)
 refine ov 7 (.bool c10) ?_ (fun _ _ _ => by subst e10; kernel_rfl)
 refine ov 3 (.bool c10) ?_
 refine WO.nil ?_
 refine WP.ret ⟨rfl, rfl, [.bool c10], by kernel_rfl, ?_⟩
 refine ⟨⟨c10, rfl, ?_⟩, le9, hE6⟩
 exact p10
theorem findF_wf (F : RField) (bib : Int) (hp : Ht) (nx : Nat) (hF : RFieldOk hp nx F) : WF ex 10 [.agg (encField F).toArray, .int .i64 (bib)] hp nx (Stays nx hp (FindV F bib)) := by
 refine WF.body (fi := ⟨Tryz.f10.body.getD .skip, 14, [.tmp 4, .tmp 5]⟩) (by kernel_rfl) (by kernel_rfl) (by kernel_rfl) rfl ?_
 have hE := HE.refl nx hp
 refine sr ?_
 refine WO.cons (WC.box (.agg (encField F).toArray) (encField F) rfl (by kernel_rfl) rfl ?_)
 obtain ⟨hp2, hx3, he4, hb5⟩ := boxed hp (nx) (encField F)
 rw [hx3]; clear hx3
 have hE6 := hE.trans he4 (Nat.le_refl nx)
 have le7 := Nat.le_trans (Nat.le_refl nx) (Nat.le_succ (nx))
 refine WO.cons (WC.box (.int .i64 (bib)) [.int .i64 (bib)] rfl (by kernel_rfl) rfl ?_)
 obtain ⟨hp9, hx10, he11, hb12⟩ := boxed hp2 (nx + 1) [.int .i64 (bib)]
 rw [hx10]; clear hx10
 have hE13 := hE6.trans he11 le7
 have hb14 := he11.get hb5 (Nat.lt_succ_self (nx))
 have le16 := Nat.le_trans le7 (Nat.le_succ (nx + 1))
 refine ov 4 (.int .i64 (0)) ?_
 refine ov 5 (.bool false) ?_
 refine WO.nil ?_
 refine sr ?_
 refine ov 6 (.pointer (some ⟨nx, 0 + 3, none⟩)) ?_
 obtain ⟨a17, c18, hv19⟩ := hF.fRunners.1.shape
 have hsm19 := hF.fRunners.1.2.2
 refine WO.cons (WC.load1 nx (0 + 3) (.slice a17 (F.fRunners.l.length) c18) (by kernel_rfl) T_agg27 hb14 (by rw [← hv19]; rfl) ?_)
 refine ov 8 (.func (.func 27) #[] #[.pointer (some ⟨(nx + 1), 0, none⟩)]) ?_
 refine WO.cons (WC.call 9 26 ([F.fRunners.v, .func (.func 27) #[] #[.pointer (some ⟨(nx + 1), 0, none⟩)]]) (fun _ _ _ => by (try rw [hv19]); kernel_rfl) ((indexFunc_run (A := fun x => x.fBib = (bib)) F.fRunners 27 #[.pointer (some ⟨(nx + 1), 0, none⟩)] hp9 (nx + 1 + 1) (hF.fRunners.mono (fun _ h => h.mono) hE13 le16) (fun i x hx hp' nx' hn he => find1_wf x (bib) (nx + 1) hp' nx' (((hF.fRunners.2 x (List.mem_of_getElem? hx)).mono hE13 le16).mono he hn) (he.get hb12 (Nat.lt_succ_self (nx + 1))) (Nat.lt_of_lt_of_le (Nat.lt_succ_self (nx + 1)) hn))).mono ?_))
 rintro vz24 hp20 nx21 ⟨hz250, hn22, he23⟩
 obtain ⟨z24, rfl, hz25⟩ := IdxIs.num hz250
 have hE26 := hE13.trans he23 le16
 have le31 := Nat.le_trans le16 hn22
 refine ov 4 (.int .i64 (z24)) ?_
 refine WO.nil ?_
 refine sr ?_
 refine ov 10 (.int .i64 (z24)) ?_
 refine ov 11 (.int .i64 ((bif ltI (z24) (0) then (0) else (z24)))) ?_
 refine ov 12 (.int .i64 (z24)) ?_
 obtain ⟨c32, e32, p32⟩ := @nb (leI (0) (z24)) ((0) ≤ (z24)) (leI_iff)
 refine ov 13 (.bool c32) ?_ (fun _ _ _ => by subst e32; kernel_rfl)
 refine ov 4 (.int .i64 ((bif ltI (z24) (0) then (0) else (z24)))) ?_
 refine ov 5 (.bool c32) ?_
 refine WO.nil ?_
 refine WP.ret ⟨rfl, rfl, [.int .i64 ((bif ltI (z24) (0) then (0) else (z24))), .bool c32], by kernel_rfl, ?_⟩
 refine ⟨⟨_, _, rfl, ?_⟩, le31, hE26⟩
 rcases hz25 with ⟨rfl, h⟩ | ⟨i, x, rfl, h1, h2, h3⟩
 · have : c32 = false := Bool.eq_false_iff.2 fun k => by have := (p32).1 k; omega
   exact .inl ⟨rfl, this, h⟩
 · have : c32 = true := (p32).2 (Int.natCast_nonneg i)
   exact .inr ⟨i, x, rfl, this, h1, h2, h3⟩
end
end Sw
