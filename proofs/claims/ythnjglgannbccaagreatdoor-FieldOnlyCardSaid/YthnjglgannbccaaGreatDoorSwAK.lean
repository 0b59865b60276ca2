/- A part of the proof that the law returns true for every input that its row speaks of. No condition is added. -/
import Derived.Test.YthnjglgannbccaaGreatDoorSwAJ
import Derived.Test.YthnjglgannbccaaGreatDoorSwAF
namespace Sw
noncomputable section
open Go Go.Proofs Go.RowKit
set_option maxRecDepth 100000
set_option maxHeartbeats 1600000
theorem fieldCheck_wf (F : RField) (hp : Ht) (nx : Nat) (hF : RFieldOk hp nx F) (hw : ∀ r ∈ F.fRunners.l, wsum r ≤ 60) : WF ex 12 [.agg (encField F).toArray] hp nx (Stays nx hp (CodeIs 240 (FieldChk F))) := by
 refine WF.body (fi := ⟨Tryz.f12.body.getD .skip, 136, [.tmp 2]⟩) (by kernel_rfl) (by kernel_rfl) (by kernel_rfl) rfl ?_
 have hE := HE.refl nx hp
 refine sr ?_
 refine WO.cons (WC.box (.agg (encField F).toArray) (encField F) rfl (by kernel_rfl) rfl ?_)
 obtain ⟨hp2, hx3, he4, hb5⟩ := boxed hp (nx) (encField F)
 rw [hx3]; clear hx3
 have hE6 := hE.trans he4 (Nat.le_refl nx)
 have le7 := Nat.le_trans (Nat.le_refl nx) (Nat.le_succ (nx))
 refine ov 2 (.int .i64 (0)) ?_
 refine WO.nil ?_
 refine WP.seq ?_
 refine sr ?_
 refine ov 11 (.pointer (some ⟨nx, 0 + 0, none⟩)) ?_
 refine WO.cons (WC.loadS nx (0 + 0) (encClocks F.fClocks) (by kernel_rfl) T_agg25 T_size25 hb5 rfl ?_)
 refine WO.cons (WC.call 13 28 ([.agg (encClocks F.fClocks).toArray]) (fun _ _ _ => by kernel_rfl) ((clocksCheck_wf F.fClocks hp2 (nx + 1) (hF.fClocks.mono hE6 le7)).mono ?_))
 rintro _ hp8 nx9 ⟨⟨z12, rfl, hz12, hk12⟩, hn10, he11⟩
 have hE13 := hE6.trans he11 le7
 have hb14 := he11.get hb5 (Nat.lt_succ_self (nx))
 have lt15 := Nat.lt_of_lt_of_le (Nat.lt_succ_self (nx)) hn10
 have le16 := Nat.le_trans le7 hn10
 obtain ⟨c17, e17, p17⟩ := @nb ((!(eqI (z12) (0)))) ((z12) ≠ (0)) (neI_iff)
 refine ov 14 (.bool c17) ?_ (fun _ _ _ => by subst e17; kernel_rfl)
 refine ov 15 (.bool c17) ?_
 refine og 15 (!c17) (.pointer (some ⟨nx, 0 + 2, none⟩)) (.bool c17) (by cases c17 <;> rfl) (fun h => by obtain rfl := bF h; exact fun _ _ _ => by kernel_rfl) ?_
 obtain ⟨a18, c19, hv20⟩ := hF.fPairs.shape
 have hsm20 := hF.fPairs.2.2
 refine ogc 15 (!c17) (.slice a18 (F.fPairs.l.length) c19) (.bool c17) (by cases c17 <;> rfl) (fun h => by obtain rfl := bF h; exact WC.load1 nx (0 + 2) (.slice a18 (F.fPairs.l.length) c19) (by kernel_rfl) T_agg26 hb14 (by rw [← hv20]; rfl) rfl) ?_
 refine og 15 (!c17) (.int .i64 (.ofNat (F.fPairs.l.length))) (.bool c17) (by cases c17 <;> rfl) (fun h => by obtain rfl := bF h; exact fun _ _ _ => by kernel_rfl) ?_
 obtain ⟨c21, e21, p21⟩ := @nb (ltI (16) (.ofNat (F.fPairs.l.length))) ((16) < ((F.fPairs.l.length : Nat) : Int)) (ltI_iff)
 refine og 15 (!c17) (.bool c21) (.bool c17) (by cases c17 <;> rfl) (fun h => by obtain rfl := bF h; exact fun _ _ _ => by subst e21; kernel_rfl) ?_
 obtain ⟨c22, e22, p22⟩ := @nb ((c17 || c21)) (((z12) ≠ (0)) ∨ ((16) < ((F.fPairs.l.length : Nat) : Int))) (by rw [Bool.or_eq_true, p17, p21])
 refine WO.cons (WC.opt (v := .bool c22) 20 (ePick (.bool c17) (.bool true) ((bif !c17 then .bool c21 else undef))) (fun _ _ _ => by kernel_rfl) (by rw [e22]; exact ePick_or (fun h => by obtain rfl : c17 = false := h; rfl)) ?_)
 refine ov 21 (.bool c22) ?_
 refine og 21 (!c22) (.pointer (some ⟨nx, 0 + 3, none⟩)) (.bool c22) (by cases c22 <;> rfl) (fun h => by obtain rfl := bF h; exact fun _ _ _ => by kernel_rfl) ?_
 obtain ⟨a23, c24, hv25⟩ := hF.fRunners.1.shape
 have hsm25 := hF.fRunners.1.2.2
 refine ogc 21 (!c22) (.slice a23 (F.fRunners.l.length) c24) (.bool c22) (by cases c22 <;> rfl) (fun h => by obtain rfl := bF h; exact WC.load1 nx (0 + 3) (.slice a23 (F.fRunners.l.length) c24) (by kernel_rfl) T_agg27 hb14 (by rw [← hv25]; rfl) rfl) ?_
 refine og 21 (!c22) (.int .i64 (.ofNat (F.fRunners.l.length))) (.bool c22) (by cases c22 <;> rfl) (fun h => by obtain rfl := bF h; exact fun _ _ _ => by kernel_rfl) ?_
 obtain ⟨c26, e26, p26⟩ := @nb (ltI (.ofNat (F.fRunners.l.length)) (1)) (((F.fRunners.l.length : Nat) : Int) < (1)) (ltI_iff)
 refine og 21 (!c22) (.bool c26) (.bool c22) (by cases c22 <;> rfl) (fun h => by obtain rfl := bF h; exact fun _ _ _ => by subst e26; kernel_rfl) ?_
 obtain ⟨c27, e27, p27⟩ := @nb ((c22 || c26)) ((((z12) ≠ (0)) ∨ ((16) < ((F.fPairs.l.length : Nat) : Int))) ∨ (((F.fRunners.l.length : Nat) : Int) < (1))) (by rw [Bool.or_eq_true, p22, p26])
 refine WO.cons (WC.opt (v := .bool c27) 26 (ePick (.bool c22) (.bool true) ((bif !c22 then .bool c26 else undef))) (fun _ _ _ => by kernel_rfl) (by rw [e27]; exact ePick_or (fun h => by obtain rfl : c22 = false := h; rfl)) ?_)
 refine ov 27 (.bool c27) ?_
 refine og 27 (!c27) (.pointer (some ⟨nx, 0 + 3, none⟩)) (.bool c27) (by cases c27 <;> rfl) (fun h => by obtain rfl := bF h; exact fun _ _ _ => by kernel_rfl) ?_
 refine ogc 27 (!c27) (.slice a23 (F.fRunners.l.length) c24) (.bool c27) (by cases c27 <;> rfl) (fun h => by obtain rfl := bF h; exact WC.load1 nx (0 + 3) (.slice a23 (F.fRunners.l.length) c24) (by kernel_rfl) T_agg27 hb14 (by rw [← hv25]; rfl) rfl) ?_
 refine og 27 (!c27) (.int .i64 (.ofNat (F.fRunners.l.length))) (.bool c27) (by cases c27 <;> rfl) (fun h => by obtain rfl := bF h; exact fun _ _ _ => by kernel_rfl) ?_
 obtain ⟨c28, e28, p28⟩ := @nb (ltI (4000) (.ofNat (F.fRunners.l.length))) ((4000) < ((F.fRunners.l.length : Nat) : Int)) (ltI_iff)
 refine og 27 (!c27) (.bool c28) (.bool c27) (by cases c27 <;> rfl) (fun h => by obtain rfl := bF h; exact fun _ _ _ => by subst e28; kernel_rfl) ?_
 obtain ⟨c29, e29, p29⟩ := @nb ((c27 || c28)) (((((z12) ≠ (0)) ∨ ((16) < ((F.fPairs.l.length : Nat) : Int))) ∨ (((F.fRunners.l.length : Nat) : Int) < (1))) ∨ ((4000) < ((F.fRunners.l.length : Nat) : Int))) (by rw [Bool.or_eq_true, p27, p28])
 refine WO.cons (WC.opt (v := .bool c29) 32 (ePick (.bool c27) (.bool true) ((bif !c27 then .bool c28 else undef))) (fun _ _ _ => by kernel_rfl) (by rw [e29]; exact ePick_or (fun h => by obtain rfl : c27 = false := h; rfl)) ?_)
 refine WO.nil ?_
 refine WP.cond c29 (by kernel_rfl) (fun h30 => ?_) (fun h30 => ?_)
 ·
  have q31 := (p29).1 h30
  refine sr ?_
  refine ov 2 (.int .i64 (240)) ?_
  refine WO.nil ?_
  refine WP.ret ⟨rfl, rfl, [.int .i64 (240)], by kernel_rfl, ?_⟩
  refine ⟨⟨240, rfl, ⟨fun h => absurd h (by decide), fun hok => ?_⟩, .inr rfl⟩, le16, hE13⟩
  rcases q31 with ((hq | hq) | hq) | hq
  · exact absurd ((hz12).2 hok.clk) hq
  · have := hok.np; omega
  · have := hok.nr; omega
  · have := hok.nr2; omega
 ·
  have q31 := nq p29 h30
  refine WP.skip ?_
  refine sr ?_
  refine WO.cons (WC.alloc _ [.int .i64 (0), .int .i64 (0)] rfl T_zero67 rfl ?_)
  obtain ⟨hp33, hx34, he35, hb36⟩ := boxed hp8 (nx9) [.int .i64 (0), .int .i64 (0)]
  rw [hx34]; clear hx34
  have hE37 := hE13.trans he35 le16
  have hb38 := he35.get hb14 lt15
  have lt39 := Nat.lt_of_lt_of_le lt15 (Nat.le_succ (nx9))
  have le40 := Nat.le_trans le16 (Nat.le_succ (nx9))
  refine WO.nil ?_
  refine WP.seq ?_
  refine sr ?_
  refine ov 33 (.pointer (some ⟨nx, 0 + 2, none⟩)) ?_
  refine WO.cons (WC.load1 nx (0 + 2) (.slice a18 (F.fPairs.l.length) c19) (by kernel_rfl) T_agg26 hb38 (by rw [← hv20]; rfl) ?_)
  refine ov 35 (.int .i64 (.ofNat (F.fPairs.l.length))) ?_
  refine ov 36 (.int .i64 (0)) ?_
  refine WO.nil ?_
  refine WP.block ?_
  have hclk : ClocksOk F.fClocks := (hz12).1 (Classical.not_not.1 fun k => q31 (.inl (.inl (.inl k))))
  have hj42 : ∀ t : Tm, (((((t.set 1 (t.get 1)).set 3 (t.get 3)).set 34 (t.get 34)).set 35 (t.get 35)).set 36 (t.get 36)) = t := fun t => by kernel_rfl
  refine WP.loop (fun m s => ∃ (iL41 : Nat) (lp : RPair), iL41 + m = F.fPairs.l.length ∧ s.to.get 1 = .pointer (some ⟨nx, 0, none⟩) ∧ s.to.get 3 = .pointer (some ⟨nx9, 0, none⟩) ∧ s.to.get 34 = .slice a18 (F.fPairs.l.length) c19 ∧ s.to.get 35 = .int .i64 (.ofNat (F.fPairs.l.length)) ∧ s.to.get 36 = .int .i64 (.ofNat iL41) ∧ s.ds = [] ∧ s.cs = [] ∧ nx9 + 1 ≤ s.nx ∧ HE nx hp s.hp ∧ s.hp.get nx = some (.cells (encField F) CMeta.plain) ∧ s.hp.get nx9 = some (.cells (encPair lp) CMeta.plain) ∧ (∀ (j : Nat) (p : RPair), j < iL41 → F.fPairs.l[j]? = some p → (1 ≤ p.fA ∧ p.fA < p.fB ∧ p.fB ≤ 9999) ∧ (0 < j → ∀ q, F.fPairs.l[j - 1]? = some q → q.fA < p.fA ∨ (q.fA = p.fA ∧ q.fB < p.fB))) ∧ ((iL41 = 0 → lp = ⟨0, 0⟩) ∧ (0 < iL41 → ∀ q, F.fPairs.l[iL41 - 1]? = some q → lp = q))) ?_ (F.fPairs.l.length) ?_
  ·
   rintro mL41 ⟨toL41, dsL41, hp43, nx44, csL41⟩ ⟨iL41, lp, him45, gL41_1, gL41_3, gL41_34, gL41_35, gL41_36, hdsL41, hcsL41, hn46, he47, mb48, mb49, hpair, hlast⟩
   simp only at gL41_1 gL41_3 gL41_34 gL41_35 gL41_36 hdsL41 hcsL41 hn46 he47 mb48 mb49 hpair hlast
   subst hdsL41 hcsL41
   rw [← hj42 toL41, gL41_1, gL41_3, gL41_34, gL41_35, gL41_36]
   clear gL41_1 gL41_3 gL41_34 gL41_35 gL41_36
   have lt50 := Nat.lt_of_lt_of_le lt39 hn46
   have lt51 := Nat.lt_of_lt_of_le (Nat.lt_succ_self (nx9)) hn46
   have le52 := Nat.le_trans le40 hn46
   refine sr ?_
   obtain ⟨c53, e53, p53⟩ := @nb (ltI (.ofNat iL41) (.ofNat (F.fPairs.l.length))) (((iL41 : Nat) : Int) < ((F.fPairs.l.length : Nat) : Int)) (ltI_iff)
   refine ov 37 (.bool c53) ?_ (fun _ _ _ => by subst e53; kernel_rfl)
   refine WO.nil ?_
   refine WP.seq ?_
   refine WP.cond c53 (by kernel_rfl) (fun h54 => ?_) (fun h54 => ?_)
   ·
    have q55 := (p53).1 h54
    refine WP.skip ?_
    refine WP.seq ?_
    refine WP.block ?_
    refine sr ?_
    have hlt56 : iL41 < F.fPairs.l.length := by omega
    refine WO.cons (WC.ix (k := .i64) a18 (F.fPairs.l.length) c19 (iL41) 2 (by kernel_rfl) (by kernel_rfl) T_und26 T_size67 ((hF.fPairs.mono he47 le52).blkA hv20 (zl hlt56)) (hlt56) ?_)
    obtain ⟨x57, hx58⟩ : ∃ el_, F.fPairs.l[iL41]? = some el_ := ⟨_, List.getElem?_eq_getElem (hlt56)⟩
    refine WO.cons (WC.loadSE (blk a18) (0 + (iL41) * 2) (encPair x57) (by kernel_rfl) T_agg67 T_size67 ((hF.fPairs.mono he47 le52).blkB hv20 (zl hlt56)) (flat_at0 (hF.fPairs.mono he47 le52).1 hx58) ?_)
    refine WO.cons (WC.alloc _ [.int .i64 (0), .int .i64 (0)] rfl T_zero67 rfl ?_)
    obtain ⟨hp60, hx61, he62, hb63⟩ := boxed hp43 (nx44) [.int .i64 (0), .int .i64 (0)]
    rw [hx61]; clear hx61
    have hE64 := he47.trans he62 le52
    have hb65 := he62.get mb48 lt50
    have hb67 := he62.get mb49 lt51
    have rl69 := Nat.le_trans hn46 (Nat.le_succ (nx44))
    have le70 := Nat.le_trans le52 (Nat.le_succ (nx44))
    refine WO.cons (WC.store1 nx44 (0) (.agg (encPair x57).toArray) [.int .i64 (0), .int .i64 (0)] (encPair x57) (encPair x57) 2 rfl (by kernel_rfl) (by kernel_rfl) T_size67 rfl rfl hb63 rfl rfl rfl ?_)
    obtain ⟨hp71, hx72, he73, hb74, ho75⟩ := stored hp60 nx44 (.cells (encPair x57) CMeta.plain)
    rw [hx72]; clear hx72
    have hE76 := hE64.trans he73 (by omega)
    have hb77 := (ho75 nx (by omega)).trans hb65
    have hb78 := (ho75 nx9 (by omega)).trans hb67
    refine WO.nil ?_
    refine WP.seq ?_
    refine sr ?_
    refine ov 40 (.pointer (some ⟨nx44, 0 + 0, none⟩)) ?_
    refine WO.cons (WC.load1 nx44 (0 + 0) (.int .i64 (x57.fA)) (by kernel_rfl) T_agg3 hb74 rfl ?_)
    obtain ⟨c79, e79, p79⟩ := @nb (ltI (x57.fA) (1)) ((x57.fA) < (1)) (ltI_iff)
    refine ov 42 (.bool c79) ?_ (fun _ _ _ => by subst e79; kernel_rfl)
    refine ov 43 (.bool c79) ?_
    refine og 43 (!c79) (.pointer (some ⟨nx44, 0 + 0, none⟩)) (.bool c79) (by cases c79 <;> rfl) (fun h => by obtain rfl := bF h; exact fun _ _ _ => by kernel_rfl) ?_
    refine ogc 43 (!c79) (.int .i64 (x57.fA)) (.bool c79) (by cases c79 <;> rfl) (fun h => by obtain rfl := bF h; exact WC.load1 nx44 (0 + 0) (.int .i64 (x57.fA)) (by kernel_rfl) T_agg3 hb74 rfl rfl) ?_
    refine og 43 (!c79) (.pointer (some ⟨nx44, 0 + 1, none⟩)) (.bool c79) (by cases c79 <;> rfl) (fun h => by obtain rfl := bF h; exact fun _ _ _ => by kernel_rfl) ?_
    refine ogc 43 (!c79) (.int .i64 (x57.fB)) (.bool c79) (by cases c79 <;> rfl) (fun h => by obtain rfl := bF h; exact WC.load1 nx44 (0 + 1) (.int .i64 (x57.fB)) (by kernel_rfl) T_agg3 hb74 rfl rfl) ?_
    obtain ⟨c80, e80, p80⟩ := @nb (leI (x57.fB) (x57.fA)) ((x57.fB) ≤ (x57.fA)) (leI_iff)
    refine og 43 (!c79) (.bool c80) (.bool c79) (by cases c79 <;> rfl) (fun h => by obtain rfl := bF h; exact fun _ _ _ => by subst e80; kernel_rfl) ?_
    obtain ⟨c81, e81, p81⟩ := @nb ((c79 || c80)) (((x57.fA) < (1)) ∨ ((x57.fB) ≤ (x57.fA))) (by rw [Bool.or_eq_true, p79, p80])
    refine WO.cons (WC.opt (v := .bool c81) 49 (ePick (.bool c79) (.bool true) ((bif !c79 then .bool c80 else undef))) (fun _ _ _ => by kernel_rfl) (by rw [e81]; exact ePick_or (fun h => by obtain rfl : c79 = false := h; rfl)) ?_)
    refine ov 50 (.bool c81) ?_
    refine og 50 (!c81) (.pointer (some ⟨nx44, 0 + 1, none⟩)) (.bool c81) (by cases c81 <;> rfl) (fun h => by obtain rfl := bF h; exact fun _ _ _ => by kernel_rfl) ?_
    refine ogc 50 (!c81) (.int .i64 (x57.fB)) (.bool c81) (by cases c81 <;> rfl) (fun h => by obtain rfl := bF h; exact WC.load1 nx44 (0 + 1) (.int .i64 (x57.fB)) (by kernel_rfl) T_agg3 hb74 rfl rfl) ?_
    obtain ⟨c82, e82, p82⟩ := @nb (ltI (9999) (x57.fB)) ((9999) < (x57.fB)) (ltI_iff)
    refine og 50 (!c81) (.bool c82) (.bool c81) (by cases c81 <;> rfl) (fun h => by obtain rfl := bF h; exact fun _ _ _ => by subst e82; kernel_rfl) ?_
    obtain ⟨c83, e83, p83⟩ := @nb ((c81 || c82)) ((((x57.fA) < (1)) ∨ ((x57.fB) ≤ (x57.fA))) ∨ ((9999) < (x57.fB))) (by rw [Bool.or_eq_true, p81, p82])
    refine WO.cons (WC.opt (v := .bool c83) 54 (ePick (.bool c81) (.bool true) ((bif !c81 then .bool c82 else undef))) (fun _ _ _ => by kernel_rfl) (by rw [e83]; exact ePick_or (fun h => by obtain rfl : c81 = false := h; rfl)) ?_)
    refine ov 55 (.bool c83) ?_
    refine og 55 (!c83) (.pointer (some ⟨nx44, 0 + 0, none⟩)) (.bool c83) (by cases c83 <;> rfl) (fun h => by obtain rfl := bF h; exact fun _ _ _ => by kernel_rfl) ?_
    refine ogc 55 (!c83) (.int .i64 (x57.fA)) (.bool c83) (by cases c83 <;> rfl) (fun h => by obtain rfl := bF h; exact WC.load1 nx44 (0 + 0) (.int .i64 (x57.fA)) (by kernel_rfl) T_agg3 hb74 rfl rfl) ?_
    refine og 55 (!c83) (.pointer (some ⟨nx9, 0 + 0, none⟩)) (.bool c83) (by cases c83 <;> rfl) (fun h => by obtain rfl := bF h; exact fun _ _ _ => by kernel_rfl) ?_
    refine ogc 55 (!c83) (.int .i64 (lp.fA)) (.bool c83) (by cases c83 <;> rfl) (fun h => by obtain rfl := bF h; exact WC.load1 nx9 (0 + 0) (.int .i64 (lp.fA)) (by kernel_rfl) T_agg3 hb78 rfl rfl) ?_
    obtain ⟨c84, e84, p84⟩ := @nb (ltI (x57.fA) (lp.fA)) ((x57.fA) < (lp.fA)) (ltI_iff)
    refine og 55 (!c83) (.bool c84) (.bool c83) (by cases c83 <;> rfl) (fun h => by obtain rfl := bF h; exact fun _ _ _ => by subst e84; kernel_rfl) ?_
    obtain ⟨c85, e85, p85⟩ := @nb ((c83 || c84)) (((((x57.fA) < (1)) ∨ ((x57.fB) ≤ (x57.fA))) ∨ ((9999) < (x57.fB))) ∨ ((x57.fA) < (lp.fA))) (by rw [Bool.or_eq_true, p83, p84])
    refine WO.cons (WC.opt (v := .bool c85) 61 (ePick (.bool c83) (.bool true) ((bif !c83 then .bool c84 else undef))) (fun _ _ _ => by kernel_rfl) (by rw [e85]; exact ePick_or (fun h => by obtain rfl : c83 = false := h; rfl)) ?_)
    refine ov 62 (.bool c85) ?_
    refine og 62 (!c85) (.pointer (some ⟨nx44, 0 + 0, none⟩)) (.bool c85) (by cases c85 <;> rfl) (fun h => by obtain rfl := bF h; exact fun _ _ _ => by kernel_rfl) ?_
    refine ogc 62 (!c85) (.int .i64 (x57.fA)) (.bool c85) (by cases c85 <;> rfl) (fun h => by obtain rfl := bF h; exact WC.load1 nx44 (0 + 0) (.int .i64 (x57.fA)) (by kernel_rfl) T_agg3 hb74 rfl rfl) ?_
    refine og 62 (!c85) (.pointer (some ⟨nx9, 0 + 0, none⟩)) (.bool c85) (by cases c85 <;> rfl) (fun h => by obtain rfl := bF h; exact fun _ _ _ => by kernel_rfl) ?_
    refine ogc 62 (!c85) (.int .i64 (lp.fA)) (.bool c85) (by cases c85 <;> rfl) (fun h => by obtain rfl := bF h; exact WC.load1 nx9 (0 + 0) (.int .i64 (lp.fA)) (by kernel_rfl) T_agg3 hb78 rfl rfl) ?_
    obtain ⟨c86, e86, p86⟩ := @nb (eqI (x57.fA) (lp.fA)) ((x57.fA) = (lp.fA)) (eqI_iff)
    refine og 62 (!c85) (.bool c86) (.bool c85) (by cases c85 <;> rfl) (fun h => by obtain rfl := bF h; exact fun _ _ _ => by subst e86; kernel_rfl) ?_
    refine og 62 (!c85) (.bool c86) (.bool c85) (by cases c85 <;> rfl) (fun h => by obtain rfl := bF h; exact fun _ _ _ => by kernel_rfl) ?_
    refine og 68 (!c85 && c86) (.pointer (some ⟨nx44, 0 + 1, none⟩)) ((bif !c85 then .bool c86 else undef)) (by cases c85 <;> cases c86 <;> rfl) (fun h => by obtain ⟨rfl, rfl⟩ := bFT h; exact fun _ _ _ => by kernel_rfl) ?_
    refine ogc 68 (!c85 && c86) (.int .i64 (x57.fB)) ((bif !c85 then .bool c86 else undef)) (by cases c85 <;> cases c86 <;> rfl) (fun h => by obtain ⟨rfl, rfl⟩ := bFT h; exact WC.load1 nx44 (0 + 1) (.int .i64 (x57.fB)) (by kernel_rfl) T_agg3 hb74 rfl rfl) ?_
    refine og 68 (!c85 && c86) (.pointer (some ⟨nx9, 0 + 1, none⟩)) ((bif !c85 then .bool c86 else undef)) (by cases c85 <;> cases c86 <;> rfl) (fun h => by obtain ⟨rfl, rfl⟩ := bFT h; exact fun _ _ _ => by kernel_rfl) ?_
    refine ogc 68 (!c85 && c86) (.int .i64 (lp.fB)) ((bif !c85 then .bool c86 else undef)) (by cases c85 <;> cases c86 <;> rfl) (fun h => by obtain ⟨rfl, rfl⟩ := bFT h; exact WC.load1 nx9 (0 + 1) (.int .i64 (lp.fB)) (by kernel_rfl) T_agg3 hb78 rfl rfl) ?_
    obtain ⟨c87, e87, p87⟩ := @nb (leI (x57.fB) (lp.fB)) ((x57.fB) ≤ (lp.fB)) (leI_iff)
    refine og 68 (!c85 && c86) (.bool c87) ((bif !c85 then .bool c86 else undef)) (by cases c85 <;> cases c86 <;> rfl) (fun h => by obtain ⟨rfl, rfl⟩ := bFT h; exact fun _ _ _ => by subst e87; kernel_rfl) ?_
    obtain ⟨c88, e88, p88⟩ := @nb ((c86 && c87)) (((x57.fA) = (lp.fA)) ∧ ((x57.fB) ≤ (lp.fB))) (by rw [Bool.and_eq_true, p86, p87])
    refine ogc 62 (!c85) (.bool c88) (.bool c85) (by cases c85 <;> rfl) (fun h => by obtain rfl := bF h; exact WC.opt (v := .bool c88) 74 (ePick (.bool c86) ((bif !false && c86 then .bool c87 else undef)) (.bool false)) (fun _ _ _ => by kernel_rfl) (by rw [e88]; exact ePick_and (fun h => by obtain rfl : c86 = true := h; rfl)) rfl) ?_
    obtain ⟨c89, e89, p89⟩ := @nb ((c85 || c88)) ((((((x57.fA) < (1)) ∨ ((x57.fB) ≤ (x57.fA))) ∨ ((9999) < (x57.fB))) ∨ ((x57.fA) < (lp.fA))) ∨ (((x57.fA) = (lp.fA)) ∧ ((x57.fB) ≤ (lp.fB)))) (by rw [Bool.or_eq_true, p85, p88])
    refine WO.cons (WC.opt (v := .bool c89) 75 (ePick (.bool c85) (.bool true) ((bif !c85 then .bool c88 else undef))) (fun _ _ _ => by kernel_rfl) (by rw [e89]; exact ePick_or (fun h => by obtain rfl : c85 = false := h; rfl)) ?_)
    refine WO.nil ?_
    refine WP.cond c89 (by kernel_rfl) (fun h90 => ?_) (fun h90 => ?_)
    ·
     have q91 := (p89).1 h90
     refine sr ?_
     refine ov 2 (.int .i64 (240)) ?_
     refine WO.nil ?_
     refine WP.ret ⟨rfl, rfl, [.int .i64 (240)], by kernel_rfl, ?_⟩
     refine ⟨⟨240, rfl, ⟨fun h => absurd h (by decide), fun hok => ?_⟩, .inr rfl⟩, le70, hE76⟩
     obtain ⟨⟨h1, h2, h3⟩, h4⟩ := hok.pair _ _ hx58
     rcases Nat.eq_zero_or_pos iL41 with h0 | h0
     · rw [hlast.1 h0] at q91; simp only at q91; omega
     · obtain ⟨q, hq⟩ : ∃ q, F.fPairs.l[iL41 - 1]? = some q := ⟨_, List.getElem?_eq_getElem (by omega)⟩
       have h5 := h4 h0 _ hq
       rw [hlast.2 h0 _ hq] at q91; omega
    ·
     have q91 := nq p89 h90
     refine WP.skip ?_
     refine WP.region ?_
     refine WO.cons (WC.loadS nx44 (0) (encPair x57) (by kernel_rfl) T_agg67 T_size67 hb74 rfl ?_)
     refine WO.cons (WC.store1 nx9 (0) (.agg (encPair x57).toArray) [.int .i64 (lp.fA), .int .i64 (lp.fB)] (encPair x57) (encPair x57) 2 rfl (by kernel_rfl) (by kernel_rfl) T_size67 rfl rfl hb78 rfl rfl rfl ?_)
     obtain ⟨hp92, hx93, he94, hb95, ho96⟩ := stored hp71 nx9 (.cells (encPair x57) CMeta.plain)
     rw [hx93]; clear hx93
     have hE97 := hE76.trans he94 (by omega)
     have hb98 := (ho96 nx (by omega)).trans hb77
     refine WO.nil ?_
     refine WP.region ?_
     refine ov 77 (.int .i64 (.ofNat (iL41 + 1))) ?_ (fun _ _ _ => by rw [← wrapAdd (show iL41 + 1 < 9223372036854775808 by omega)]; kernel_rfl)
     refine ov 36 (.int .i64 (.ofNat (iL41 + 1))) ?_
     refine WO.nil ?_
     refine ⟨F.fPairs.l.length - (iL41 + 1), by omega, iL41 + 1, x57, by omega, by kernel_rfl, by kernel_rfl, by kernel_rfl, by kernel_rfl, by kernel_rfl, rfl, rfl, ?_, ?_, ?_, ?_, ?_, ?_⟩
     · exact rl69
     · exact hE97
     · exact hb98
     · exact hb95
     · intro j p' hj hs
       rcases Nat.lt_succ_iff_lt_or_eq.1 hj with hj | rfl
       · exact hpair j p' hj hs
       · rw [hx58] at hs; cases hs
         refine ⟨by omega, fun h0 q' hq' => ?_⟩
         have h3 := hlast.2 h0 _ hq'
         rw [h3] at q91; omega
     · refine ⟨fun h => absurd h (Nat.succ_ne_zero _), fun _ q hq => ?_⟩
       rw [Nat.add_sub_cancel, hx58] at hq; cases hq; rfl
   ·
    have q55 := nq p53 h54
    refine WP.exit ?_
    refine sr ?_
    refine ov 6 (.int .i64 (0)) ?_
    refine WO.nil ?_
    refine WP.seq ?_
    refine sr ?_
    refine ov 78 (.pointer (some ⟨nx, 0 + 3, none⟩)) ?_
    refine WO.cons (WC.load1 nx (0 + 3) (.slice a23 (F.fRunners.l.length) c24) (by kernel_rfl) T_agg27 mb48 (by rw [← hv25]; rfl) ?_)
    refine ov 80 (.int .i64 (.ofNat (F.fRunners.l.length))) ?_
    refine ov 81 (.int .i64 (0)) ?_
    refine WO.nil ?_
    refine WP.block ?_
    have hj101 : ∀ t : Tm, (((((t.set 1 (t.get 1)).set 6 (t.get 6)).set 79 (t.get 79)).set 80 (t.get 80)).set 81 (t.get 81)) = t := fun t => by kernel_rfl
    refine WP.loop (fun m s => ∃ (iL100 : Nat) (lb : Int), iL100 + m = F.fRunners.l.length ∧ s.to.get 1 = .pointer (some ⟨nx, 0, none⟩) ∧ s.to.get 6 = .int .i64 (lb) ∧ s.to.get 79 = .slice a23 (F.fRunners.l.length) c24 ∧ s.to.get 80 = .int .i64 (.ofNat (F.fRunners.l.length)) ∧ s.to.get 81 = .int .i64 (.ofNat iL100) ∧ s.ds = [] ∧ s.cs = [] ∧ nx44 ≤ s.nx ∧ HE (nx44) hp43 s.hp ∧ (∀ (j : Nat) (r : RRunner), j < iL100 → F.fRunners.l[j]? = some r → (((1 ≤ r.fBib ∧ r.fBib ≤ 9999) ∧ (0 < j → ∀ q, F.fRunners.l[j - 1]? = some q → q.fBib < r.fBib)) ∧ (∀ q, F.fRunners.l[0]? = some q → r.fKeys.l.length = q.fKeys.l.length) ∧ r.fWorlds.l.length = F.fPairs.l.length + 1) ∧ ∀ o ∈ r.fWorlds.l, ∀ x ∈ o.l, OutcomeOk F.fClocks x) ∧ (0 ≤ lb ∧ (iL100 = 0 → lb = 0) ∧ (0 < iL100 → ∀ q, F.fRunners.l[iL100 - 1]? = some q → lb = q.fBib))) ?_ (F.fRunners.l.length) ?_
    ·
     rintro mL100 ⟨toL100, dsL100, hp102, nx103, csL100⟩ ⟨iL100, lb, him104, gL100_1, gL100_6, gL100_79, gL100_80, gL100_81, hdsL100, hcsL100, hn105, he106, hrun, hlb⟩
     simp only at gL100_1 gL100_6 gL100_79 gL100_80 gL100_81 hdsL100 hcsL100 hn105 he106 hrun hlb
     subst hdsL100 hcsL100
     rw [← hj101 toL100, gL100_1, gL100_6, gL100_79, gL100_80, gL100_81]
     clear gL100_1 gL100_6 gL100_79 gL100_80 gL100_81
     have hE107 := he47.trans he106 le52
     have hb108 := he106.get mb48 lt50
     have lt109 := Nat.lt_of_lt_of_le lt50 hn105
     have le112 := Nat.le_trans le52 hn105
     refine sr ?_
     obtain ⟨c113, e113, p113⟩ := @nb (ltI (.ofNat iL100) (.ofNat (F.fRunners.l.length))) (((iL100 : Nat) : Int) < ((F.fRunners.l.length : Nat) : Int)) (ltI_iff)
     refine ov 82 (.bool c113) ?_ (fun _ _ _ => by subst e113; kernel_rfl)
     refine WO.nil ?_
     refine WP.seq ?_
     refine WP.cond c113 (by kernel_rfl) (fun h114 => ?_) (fun h114 => ?_)
     ·
      have q115 := (p113).1 h114
      refine WP.skip ?_
      refine WP.seq ?_
      refine WP.block ?_
      refine sr ?_
      have hlt116 : iL100 < F.fRunners.l.length := by omega
      refine WO.cons (WC.ix (k := .i64) a23 (F.fRunners.l.length) c24 (iL100) 3 (by kernel_rfl) (by kernel_rfl) T_und27 T_size43 ((hF.fRunners.1.mono hE107 le112).blkA hv25 (zl hlt116)) (hlt116) ?_)
      obtain ⟨x117, hx118⟩ : ∃ el_, F.fRunners.l[iL100]? = some el_ := ⟨_, List.getElem?_eq_getElem (hlt116)⟩
      refine WO.cons (WC.loadSE (blk a23) (0 + (iL100) * 3) (encRunner x117) (by kernel_rfl) T_agg43 T_size43 ((hF.fRunners.1.mono hE107 le112).blkB hv25 (zl hlt116)) (flat_at0 (hF.fRunners.1.mono hE107 le112).1 hx118) ?_)
      refine WO.cons (WC.alloc _ [.int .i64 (0), .slice none (0) 0, .slice none (0) 0] rfl T_zero43 rfl ?_)
      obtain ⟨hp120, hx121, he122, hb123⟩ := boxed hp102 (nx103) [.int .i64 (0), .slice none (0) 0, .slice none (0) 0]
      rw [hx121]; clear hx121
      have hE124 := hE107.trans he122 le112
      have hb125 := he122.get hb108 lt109
      have lt126 := Nat.lt_of_lt_of_le lt109 (Nat.le_succ (nx103))
      have hr129 := he106.trans he122 hn105
      have rl130 := Nat.le_trans hn105 (Nat.le_succ (nx103))
      have le131 := Nat.le_trans le112 (Nat.le_succ (nx103))
      refine WO.cons (WC.store1 nx103 (0) (.agg (encRunner x117).toArray) [.int .i64 (0), .slice none (0) 0, .slice none (0) 0] (encRunner x117) (encRunner x117) 3 rfl (by kernel_rfl) (by kernel_rfl) T_size43 rfl (Bool.and_eq_true_iff.2 ⟨rfl, encRunner_one _ (hF.fRunners.2 x117 (List.mem_of_getElem? hx118))⟩) hb123 rfl rfl rfl ?_)
      obtain ⟨hp132, hx133, he134, hb135, ho136⟩ := stored hp120 nx103 (.cells (encRunner x117) CMeta.plain)
      rw [hx133]; clear hx133
      have hE137 := hE124.trans he134 (by omega)
      have hr138 := hr129.trans he134 (by omega)
      have hb139 := (ho136 nx (by omega)).trans hb125
      refine WO.nil ?_
      refine WP.seq ?_
      refine WP.seq ?_
      refine WP.drawS [⟨[0, 1, 2, 3, 4, 5, 6, 7, 8, 9, 10, 11, 12, 13, 14, 15, 16, 17, 18, 19, 20, 21, 22, 23, 24, 25, 26, 27, 28, 29, 30], [0, 1, 2, 3, 4, 5, 6, 7, 8, 9, 10, 11, 12, 13, 14, 15, 16, 17, 18, 19, 20, 21, 22, 23, 24, 25, 26, 27, 28, 29, 30], none⟩] (by kernel_rfl) _ rfl ?_
      refine WD.last ?_
      refine nv 85 (.pointer (some ⟨nx103, 0 + 0, none⟩)) ?_
      refine WN.consAt rfl (WC.load1 nx103 (0 + 0) (.int .i64 (x117.fBib)) (by kernel_rfl) T_agg3 hb135 rfl ?_)
      refine nv 87 (.int .i64 (lb)) ?_
      obtain ⟨c141, e141, p141⟩ := @nb (leI (x117.fBib) (lb)) ((x117.fBib) ≤ (lb)) (leI_iff)
      refine nv 88 (.bool c141) ?_ (fun _ _ _ => by subst e141; kernel_rfl)
      refine nv 89 (.bool c141) ?_
      refine ng rfl 89 (!c141) (.pointer (some ⟨nx103, 0 + 0, none⟩)) (.bool c141) (by cases c141 <;> rfl) (fun h => by obtain rfl := bF h; exact fun _ _ _ => by kernel_rfl) ?_
      refine ngc rfl 89 (!c141) (.int .i64 (x117.fBib)) (.bool c141) (by cases c141 <;> rfl) (fun h => by obtain rfl := bF h; exact WC.load1 nx103 (0 + 0) (.int .i64 (x117.fBib)) (by kernel_rfl) T_agg3 hb135 rfl rfl) ?_
      obtain ⟨c142, e142, p142⟩ := @nb (ltI (9999) (x117.fBib)) ((9999) < (x117.fBib)) (ltI_iff)
      refine ng rfl 89 (!c141) (.bool c142) (.bool c141) (by cases c141 <;> rfl) (fun h => by obtain rfl := bF h; exact fun _ _ _ => by subst e142; kernel_rfl) ?_
      obtain ⟨c143, e143, p143⟩ := @nb ((c141 || c142)) (((x117.fBib) ≤ (lb)) ∨ ((9999) < (x117.fBib))) (by rw [Bool.or_eq_true, p141, p142])
      refine WN.consAt rfl (WC.opt (v := .bool c143) 93 (ePick (.bool c141) (.bool true) ((bif !c141 then .bool c142 else undef))) (fun _ _ _ => by kernel_rfl) (by rw [e143]; exact ePick_or (fun h => by obtain rfl : c141 = false := h; rfl)) ?_)
      refine nv 94 (.bool c143) ?_
      refine ng rfl 94 (!c143) (.pointer (some ⟨nx103, 0 + 1, none⟩)) (.bool c143) (by cases c143 <;> rfl) (fun h => by obtain rfl := bF h; exact fun _ _ _ => by kernel_rfl) ?_
      obtain ⟨a144, c145, hv146⟩ := (hF.fRunners.2 x117 (List.mem_of_getElem? hx118)).fKeys.shape
      have hsm146 := (hF.fRunners.2 x117 (List.mem_of_getElem? hx118)).fKeys.2.2
      refine ngc rfl 94 (!c143) (.slice a144 (x117.fKeys.l.length) c145) (.bool c143) (by cases c143 <;> rfl) (fun h => by obtain rfl := bF h; exact WC.load1 nx103 (0 + 1) (.slice a144 (x117.fKeys.l.length) c145) (by kernel_rfl) T_agg30 hb135 (by rw [← hv146]; rfl) rfl) ?_
      refine ng rfl 94 (!c143) (.int .i64 (.ofNat (x117.fKeys.l.length))) (.bool c143) (by cases c143 <;> rfl) (fun h => by obtain rfl := bF h; exact fun _ _ _ => by kernel_rfl) ?_
      refine ng rfl 94 (!c143) (.pointer (some ⟨nx, 0 + 3, none⟩)) (.bool c143) (by cases c143 <;> rfl) (fun h => by obtain rfl := bF h; exact fun _ _ _ => by kernel_rfl) ?_
      refine ngc rfl 94 (!c143) (.slice a23 (F.fRunners.l.length) c24) (.bool c143) (by cases c143 <;> rfl) (fun h => by obtain rfl := bF h; exact WC.load1 nx (0 + 3) (.slice a23 (F.fRunners.l.length) c24) (by kernel_rfl) T_agg27 hb139 (by rw [← hv25]; rfl) rfl) ?_
      have hlt147 : (!c143) = true → 0 < F.fRunners.l.length := fun h => by obtain rfl : c143 = false := (by simpa using h); have q0 : ¬ (((x117.fBib) ≤ (lb)) ∨ ((9999) < (x117.fBib))) := (fun k => absurd ((p143).2 k) (by decide)); omega
      refine ngc rfl 94 (!c143) (.pointer (some ⟨(blk a23), 0 + (0) * 3, none⟩)) (.bool c143) (by cases c143 <;> rfl) (fun h => by obtain rfl := bF h; exact WC.ix (k := .i64) a23 (F.fRunners.l.length) c24 (0) 3 (by kernel_rfl) (by kernel_rfl) T_und27 T_size43 ((hF.fRunners.1.mono hE137 le131).blkA hv25 (zl ((hlt147 rfl)))) ((hlt147 rfl)) rfl) ?_
      refine ng rfl 94 (!c143) (.pointer (some ⟨(blk a23), 0 + (0) * 3 + 1, none⟩)) (.bool c143) (by cases c143 <;> rfl) (fun h => by obtain rfl := bF h; exact fun _ _ _ => by kernel_rfl) ?_
      obtain ⟨x148, hx149⟩ : ∃ el_, F.fRunners.l[0]? = some el_ := ⟨_, List.getElem?_eq_getElem (by omega)⟩
      obtain ⟨a150, c151, hv152⟩ := (hF.fRunners.2 x148 (List.mem_of_getElem? hx149)).fKeys.shape
      have hsm152 := (hF.fRunners.2 x148 (List.mem_of_getElem? hx149)).fKeys.2.2
      refine ngc rfl 94 (!c143) (.slice a150 (x148.fKeys.l.length) c151) (.bool c143) (by cases c143 <;> rfl) (fun h => by obtain rfl := bF h; exact WC.load1E (blk a23) (0 + (0) * 3 + 1) (.slice a150 (x148.fKeys.l.length) c151) (by kernel_rfl) T_agg30 ((hF.fRunners.1.mono hE137 le131).blkB hv25 (zl ((hlt147 rfl)))) (flat_at (hF.fRunners.1.mono hE137 le131).1 hx149 (by decide) (by rw [← hv152]; rfl)) rfl) ?_
      refine ng rfl 94 (!c143) (.int .i64 (.ofNat (x148.fKeys.l.length))) (.bool c143) (by cases c143 <;> rfl) (fun h => by obtain rfl := bF h; exact fun _ _ _ => by kernel_rfl) ?_
      obtain ⟨c153, e153, p153⟩ := @nb ((!(eqI (.ofNat (x117.fKeys.l.length)) (.ofNat (x148.fKeys.l.length))))) (((x117.fKeys.l.length : Nat) : Int) ≠ ((x148.fKeys.l.length : Nat) : Int)) (neI_iff)
      refine ng rfl 94 (!c143) (.bool c153) (.bool c143) (by cases c143 <;> rfl) (fun h => by obtain rfl := bF h; exact fun _ _ _ => by subst e153; kernel_rfl) ?_
      obtain ⟨c154, e154, p154⟩ := @nb ((c143 || c153)) ((((x117.fBib) ≤ (lb)) ∨ ((9999) < (x117.fBib))) ∨ (((x117.fKeys.l.length : Nat) : Int) ≠ ((x148.fKeys.l.length : Nat) : Int))) (by rw [Bool.or_eq_true, p143, p153])
      refine WN.consAt rfl (WC.opt (v := .bool c154) 105 (ePick (.bool c143) (.bool true) ((bif !c143 then .bool c153 else undef))) (fun _ _ _ => by kernel_rfl) (by rw [e154]; exact ePick_or (fun h => by obtain rfl : c143 = false := h; rfl)) ?_)
      refine nv 106 (.bool c154) ?_
      refine ng rfl 106 (!c154) (.pointer (some ⟨nx103, 0 + 2, none⟩)) (.bool c154) (by cases c154 <;> rfl) (fun h => by obtain rfl := bF h; exact fun _ _ _ => by kernel_rfl) ?_
      obtain ⟨a155, c156, hv157⟩ := (hF.fRunners.2 x117 (List.mem_of_getElem? hx118)).fWorlds.1.shape
      have hsm157 := (hF.fRunners.2 x117 (List.mem_of_getElem? hx118)).fWorlds.1.2.2
      refine ngc rfl 106 (!c154) (.slice a155 (x117.fWorlds.l.length) c156) (.bool c154) (by cases c154 <;> rfl) (fun h => by obtain rfl := bF h; exact WC.load1 nx103 (0 + 2) (.slice a155 (x117.fWorlds.l.length) c156) (by kernel_rfl) T_agg41 hb135 (by rw [← hv157]; rfl) rfl) ?_
      refine ng rfl 106 (!c154) (.int .i64 (.ofNat (x117.fWorlds.l.length))) (.bool c154) (by cases c154 <;> rfl) (fun h => by obtain rfl := bF h; exact fun _ _ _ => by kernel_rfl) ?_
      refine ng rfl 106 (!c154) (.pointer (some ⟨nx, 0 + 2, none⟩)) (.bool c154) (by cases c154 <;> rfl) (fun h => by obtain rfl := bF h; exact fun _ _ _ => by kernel_rfl) ?_
      refine ngc rfl 106 (!c154) (.slice a18 (F.fPairs.l.length) c19) (.bool c154) (by cases c154 <;> rfl) (fun h => by obtain rfl := bF h; exact WC.load1 nx (0 + 2) (.slice a18 (F.fPairs.l.length) c19) (by kernel_rfl) T_agg26 hb139 (by rw [← hv20]; rfl) rfl) ?_
      refine ng rfl 106 (!c154) (.int .i64 (.ofNat (F.fPairs.l.length))) (.bool c154) (by cases c154 <;> rfl) (fun h => by obtain rfl := bF h; exact fun _ _ _ => by kernel_rfl) ?_
      refine ng rfl 106 (!c154) (.int .i64 (.ofNat (F.fPairs.l.length + 1))) (.bool c154) (by cases c154 <;> rfl) (fun h => by obtain rfl := bF h; have q0 := nf p154; exact fun _ _ _ => by rw [← wrapAdd (show F.fPairs.l.length + 1 < 9223372036854775808 by omega)]; kernel_rfl) ?_
      obtain ⟨c158, e158, p158⟩ := @nb ((!(eqI (.ofNat (x117.fWorlds.l.length)) (.ofNat (F.fPairs.l.length + 1))))) (((x117.fWorlds.l.length : Nat) : Int) ≠ ((F.fPairs.l.length + 1 : Nat) : Int)) (neI_iff)
      refine ng rfl 106 (!c154) (.bool c158) (.bool c154) (by cases c154 <;> rfl) (fun h => by obtain rfl := bF h; exact fun _ _ _ => by subst e158; kernel_rfl) ?_
      obtain ⟨c159, e159, p159⟩ := @nb ((c154 || c158)) (((((x117.fBib) ≤ (lb)) ∨ ((9999) < (x117.fBib))) ∨ (((x117.fKeys.l.length : Nat) : Int) ≠ ((x148.fKeys.l.length : Nat) : Int))) ∨ (((x117.fWorlds.l.length : Nat) : Int) ≠ ((F.fPairs.l.length + 1 : Nat) : Int))) (by rw [Bool.or_eq_true, p154, p158])
      refine WN.consAt rfl (WC.opt (v := .bool c159) 115 (ePick (.bool c154) (.bool true) ((bif !c154 then .bool c158 else undef))) (fun _ _ _ => by kernel_rfl) (by rw [e159]; exact ePick_or (fun h => by obtain rfl : c154 = false := h; rfl)) ?_)
      refine WN.nil ⟨?_, ?_⟩
      ·
       refine cv (.pointer (some ⟨nx103, 0 + 0, none⟩)) (vEq_ptr ..) ?_
       refine co (.int .i64 (x117.fBib)) (eLoad ex.T hp132.get 3 (.pointer (some ⟨nx103, 0 + 0, none⟩))) (eLoad_one T_agg3 hb135 rfl) (vEq_int ..) ?_
       refine cv (.int .i64 (lb)) (vEq_int ..) ?_
       refine cv (.bool c141) (vEq_bool 8 c141) ?_ (fun _ => by subst e141; kernel_rfl)
       refine cv (.bool c141) (vEq_bool 8 c141) ?_
       refine cg rfl 89 (!c141) (.pointer (some ⟨nx103, 0 + 0, none⟩)) (.bool c141) (by cases c141 <;> rfl) (fun h => by obtain rfl := bF h; exact chkV1 (.pointer (some ⟨nx103, 0 + 0, none⟩)) (fun _ => by kernel_rfl) (vEq_ptr ..)) ?_
       refine cg rfl 89 (!c141) (.int .i64 (x117.fBib)) (.bool c141) (by cases c141 <;> rfl) (fun h => by obtain rfl := bF h; exact chkO1 (.int .i64 (x117.fBib)) (eLoad ex.T hp132.get 3 (.pointer (some ⟨nx103, 0 + 0, none⟩))) (fun _ => by kernel_rfl) (eLoad_one T_agg3 hb135 rfl) (vEq_int ..)) ?_
       refine cg rfl 89 (!c141) (.bool c142) (.bool c141) (by cases c141 <;> rfl) (fun h => by obtain rfl := bF h; exact chkV1 (.bool c142) (fun _ => by subst e142; kernel_rfl) (vEq_bool 8 c142)) ?_
       refine co (.bool c143) (ePick (.bool c141) (.bool true) ((bif !c141 then .bool c142 else undef))) ((by rw [e143]; exact ePick_or (fun h => by obtain rfl : c141 = false := h; rfl))) (vEq_bool 8 c143) ?_
       refine cv (.bool c143) (vEq_bool 8 c143) ?_
       refine cg rfl 94 (!c143) (.pointer (some ⟨nx103, 0 + 1, none⟩)) (.bool c143) (by cases c143 <;> rfl) (fun h => by obtain rfl := bF h; exact chkV1 (.pointer (some ⟨nx103, 0 + 1, none⟩)) (fun _ => by kernel_rfl) (vEq_ptr ..)) ?_
       refine cg rfl 94 (!c143) (.slice a144 (x117.fKeys.l.length) c145) (.bool c143) (by cases c143 <;> rfl) (fun h => by obtain rfl := bF h; exact chkO1 (.slice a144 (x117.fKeys.l.length) c145) (eLoad ex.T hp132.get 30 (.pointer (some ⟨nx103, 0 + 1, none⟩))) (fun _ => by kernel_rfl) (eLoad_one T_agg30 hb135 (by rw [← hv146]; rfl)) (hv146 ▸ (hF.fRunners.2 x117 (List.mem_of_getElem? hx118)).fKeys.eqSelf 8)) ?_
       refine cg rfl 94 (!c143) (.int .i64 (.ofNat (x117.fKeys.l.length))) (.bool c143) (by cases c143 <;> rfl) (fun h => by obtain rfl := bF h; exact chkV1 (.int .i64 (.ofNat (x117.fKeys.l.length))) (fun _ => by kernel_rfl) (vEq_int ..)) ?_
       refine cg rfl 94 (!c143) (.pointer (some ⟨nx, 0 + 3, none⟩)) (.bool c143) (by cases c143 <;> rfl) (fun h => by obtain rfl := bF h; exact chkV1 (.pointer (some ⟨nx, 0 + 3, none⟩)) (fun _ => by kernel_rfl) (vEq_ptr ..)) ?_
       refine cg rfl 94 (!c143) (.slice a23 (F.fRunners.l.length) c24) (.bool c143) (by cases c143 <;> rfl) (fun h => by obtain rfl := bF h; exact chkO1 (.slice a23 (F.fRunners.l.length) c24) (eLoad ex.T hp132.get 27 (.pointer (some ⟨nx, 0 + 3, none⟩))) (fun _ => by kernel_rfl) (eLoad_one T_agg27 hb139 (by rw [← hv25]; rfl)) (hv25 ▸ hF.fRunners.1.eqSelf 8)) ?_
       refine cg rfl 94 (!c143) (.pointer (some ⟨(blk a23), 0 + (0) * 3, none⟩)) (.bool c143) (by cases c143 <;> rfl) (fun h => by obtain rfl := bF h; exact chkO1 (.pointer (some ⟨(blk a23), 0 + (0) * 3, none⟩)) (eIndexAddr ex.T 27 (.slice a23 (F.fRunners.l.length) c24) (.int .i64 (.ofNat (0)))) (fun _ => by kernel_rfl) (eIndexAddr_A (k := .i64) T_und27 T_size43 ((hF.fRunners.1.mono hE137 le131).blkA hv25 (zl ((hlt147 rfl)))) ((hlt147 rfl))) (vEq_ptr ..)) ?_
       refine cg rfl 94 (!c143) (.pointer (some ⟨(blk a23), 0 + (0) * 3 + 1, none⟩)) (.bool c143) (by cases c143 <;> rfl) (fun h => by obtain rfl := bF h; exact chkV1 (.pointer (some ⟨(blk a23), 0 + (0) * 3 + 1, none⟩)) (fun _ => by kernel_rfl) (vEq_ptr ..)) ?_
       refine cg rfl 94 (!c143) (.slice a150 (x148.fKeys.l.length) c151) (.bool c143) (by cases c143 <;> rfl) (fun h => by obtain rfl := bF h; exact chkO1 (.slice a150 (x148.fKeys.l.length) c151) (eLoad ex.T hp132.get 30 (.pointer (some ⟨(blk a23), 0 + (0) * 3 + 1, none⟩))) (fun _ => by kernel_rfl) (eLoad_oneE T_agg30 ((hF.fRunners.1.mono hE137 le131).blkB hv25 (zl ((hlt147 rfl)))) (flat_at (hF.fRunners.1.mono hE137 le131).1 hx149 (by decide) (by rw [← hv152]; rfl))) (hv152 ▸ (hF.fRunners.2 x148 (List.mem_of_getElem? hx149)).fKeys.eqSelf 8)) ?_
       refine cg rfl 94 (!c143) (.int .i64 (.ofNat (x148.fKeys.l.length))) (.bool c143) (by cases c143 <;> rfl) (fun h => by obtain rfl := bF h; exact chkV1 (.int .i64 (.ofNat (x148.fKeys.l.length))) (fun _ => by kernel_rfl) (vEq_int ..)) ?_
       refine cg rfl 94 (!c143) (.bool c153) (.bool c143) (by cases c143 <;> rfl) (fun h => by obtain rfl := bF h; exact chkV1 (.bool c153) (fun _ => by subst e153; kernel_rfl) (vEq_bool 8 c153)) ?_
       refine co (.bool c154) (ePick (.bool c143) (.bool true) ((bif !c143 then .bool c153 else undef))) ((by rw [e154]; exact ePick_or (fun h => by obtain rfl : c143 = false := h; rfl))) (vEq_bool 8 c154) ?_
       refine cv (.bool c154) (vEq_bool 8 c154) ?_
       refine cg rfl 106 (!c154) (.pointer (some ⟨nx103, 0 + 2, none⟩)) (.bool c154) (by cases c154 <;> rfl) (fun h => by obtain rfl := bF h; exact chkV1 (.pointer (some ⟨nx103, 0 + 2, none⟩)) (fun _ => by kernel_rfl) (vEq_ptr ..)) ?_
       refine cg rfl 106 (!c154) (.slice a155 (x117.fWorlds.l.length) c156) (.bool c154) (by cases c154 <;> rfl) (fun h => by obtain rfl := bF h; exact chkO1 (.slice a155 (x117.fWorlds.l.length) c156) (eLoad ex.T hp132.get 41 (.pointer (some ⟨nx103, 0 + 2, none⟩))) (fun _ => by kernel_rfl) (eLoad_one T_agg41 hb135 (by rw [← hv157]; rfl)) (hv157 ▸ (hF.fRunners.2 x117 (List.mem_of_getElem? hx118)).fWorlds.1.eqSelf 8)) ?_
       refine cg rfl 106 (!c154) (.int .i64 (.ofNat (x117.fWorlds.l.length))) (.bool c154) (by cases c154 <;> rfl) (fun h => by obtain rfl := bF h; exact chkV1 (.int .i64 (.ofNat (x117.fWorlds.l.length))) (fun _ => by kernel_rfl) (vEq_int ..)) ?_
       refine cg rfl 106 (!c154) (.pointer (some ⟨nx, 0 + 2, none⟩)) (.bool c154) (by cases c154 <;> rfl) (fun h => by obtain rfl := bF h; exact chkV1 (.pointer (some ⟨nx, 0 + 2, none⟩)) (fun _ => by kernel_rfl) (vEq_ptr ..)) ?_
       refine cg rfl 106 (!c154) (.slice a18 (F.fPairs.l.length) c19) (.bool c154) (by cases c154 <;> rfl) (fun h => by obtain rfl := bF h; exact chkO1 (.slice a18 (F.fPairs.l.length) c19) (eLoad ex.T hp132.get 26 (.pointer (some ⟨nx, 0 + 2, none⟩))) (fun _ => by kernel_rfl) (eLoad_one T_agg26 hb139 (by rw [← hv20]; rfl)) (hv20 ▸ hF.fPairs.eqSelf 8)) ?_
       refine cg rfl 106 (!c154) (.int .i64 (.ofNat (F.fPairs.l.length))) (.bool c154) (by cases c154 <;> rfl) (fun h => by obtain rfl := bF h; exact chkV1 (.int .i64 (.ofNat (F.fPairs.l.length))) (fun _ => by kernel_rfl) (vEq_int ..)) ?_
       refine cg rfl 106 (!c154) (.int .i64 (.ofNat (F.fPairs.l.length + 1))) (.bool c154) (by cases c154 <;> rfl) (fun h => by obtain rfl := bF h; have q0 := nf p154; exact chkV1 (.int .i64 (.ofNat (F.fPairs.l.length + 1))) (fun _ => by rw [← wrapAdd (show F.fPairs.l.length + 1 < 9223372036854775808 by omega)]; kernel_rfl) (vEq_int ..)) ?_
       refine cg rfl 106 (!c154) (.bool c158) (.bool c154) (by cases c154 <;> rfl) (fun h => by obtain rfl := bF h; exact chkV1 (.bool c158) (fun _ => by subst e158; kernel_rfl) (vEq_bool 8 c158)) ?_
       refine co (.bool c159) (ePick (.bool c154) (.bool true) ((bif !c154 then .bool c158 else undef))) ((by rw [e159]; exact ePick_or (fun h => by obtain rfl : c154 = false := h; rfl))) (vEq_bool 8 c159) ?_
       exact Chks.nil
      refine WP.cond c159 (by kernel_rfl) (fun h160 => ?_) (fun h160 => ?_)
      ·
       have q161 := (p159).1 h160
       refine sr ?_
       refine ov 2 (.int .i64 (240)) ?_
       refine WO.nil ?_
       refine WP.ret ⟨rfl, rfl, [.int .i64 (240)], by kernel_rfl, ?_⟩
       refine ⟨⟨240, rfl, ⟨fun h => absurd h (by decide), fun hok => ?_⟩, .inr rfl⟩, le131, hE137⟩
       obtain ⟨⟨h1, h2⟩, h3, h4⟩ := hok.run _ _ hx118
       have hh := h3 _ hx149
       rcases Nat.eq_zero_or_pos iL100 with h0 | h0
       · have := hlb.2.1 h0; omega
       · obtain ⟨q, hq⟩ : ∃ q, F.fRunners.l[iL100 - 1]? = some q := ⟨_, List.getElem?_eq_getElem (by omega)⟩
         have h5 := h2 h0 _ hq
         have h6 := hlb.2.2 h0 _ hq
         omega
      ·
       have q161 := nq p159 h160
       refine WP.skip ?_
       refine sr ?_
       refine ov 116 (.pointer (some ⟨nx103, 0 + 0, none⟩)) ?_
       refine WO.cons (WC.load1 nx103 (0 + 0) (.int .i64 (x117.fBib)) (by kernel_rfl) T_agg3 hb135 rfl ?_)
       refine ov 6 (.int .i64 (x117.fBib)) ?_
       refine WO.nil ?_
       refine sr ?_
       refine ov 118 (.pointer (some ⟨nx103, 0 + 2, none⟩)) ?_
       refine WO.cons (WC.load1 nx103 (0 + 2) (.slice a155 (x117.fWorlds.l.length) c156) (by kernel_rfl) T_agg41 hb135 (by rw [← hv157]; rfl) ?_)
       refine WO.cons (WC.call 120 29 ([x117.fWorlds.v]) (fun _ _ _ => by (try rw [hv157]); kernel_rfl) ((concat_wf x117.fWorlds hp132 (nx103 + 1) ((hF.fRunners.2 x117 (List.mem_of_getElem? hx118)).fWorlds.mono (fun _ h => h.mono) hE137 le131) (hw _ (List.mem_of_getElem? hx118))).mono ?_))
       rintro vJ166 hp162 nx163 ⟨⟨J166, rfl, hJl168, hJ167⟩, hn164, he165⟩
       have hE169 := hE137.trans he165 le131
       have hb170 := he165.get hb139 lt126
       have lt171 := Nat.lt_of_lt_of_le lt126 hn164
       have hr176 := hr138.trans he165 rl130
       have rl177 := Nat.le_trans rl130 hn164
       have le178 := Nat.le_trans le131 hn164
       have hr179 := HE.refl (nx163) hp162
       have rl180 := Nat.le_refl (nx163)
       obtain ⟨a181, c182, hv183⟩ := hJ167.shape
       have hsm183 := hJ167.2.2
       rw [hv183]
       refine ov 121 (.int .i64 (.ofNat (J166.l.length))) ?_
       refine ov 122 (.int .i64 (0)) ?_
       refine WO.nil ?_
       refine WP.block ?_
       have hj185 : ∀ t : Tm, ((((((((t.set 1 (t.get 1)).set 6 (t.get 6)).set 79 (t.get 79)).set 80 (t.get 80)).set 81 (t.get 81)).set 120 (t.get 120)).set 121 (t.get 121)).set 122 (t.get 122)) = t := fun t => by kernel_rfl
       refine WP.loop (fun m s => ∃ (iL184 : Nat), iL184 + m = J166.l.length ∧ s.to.get 1 = .pointer (some ⟨nx, 0, none⟩) ∧ s.to.get 6 = .int .i64 (x117.fBib) ∧ s.to.get 79 = .slice a23 (F.fRunners.l.length) c24 ∧ s.to.get 80 = .int .i64 (.ofNat (F.fRunners.l.length)) ∧ s.to.get 81 = .int .i64 (.ofNat iL100) ∧ s.to.get 120 = .slice a181 (J166.l.length) c182 ∧ s.to.get 121 = .int .i64 (.ofNat (J166.l.length)) ∧ s.to.get 122 = .int .i64 (.ofNat iL184) ∧ s.ds = [] ∧ s.cs = [] ∧ nx163 ≤ s.nx ∧ HE (nx163) hp162 s.hp ∧ (∀ (j : Nat) (x : ROutcome), j < iL184 → J166.l[j]? = some x → OutcomeOk F.fClocks x)) ?_ (J166.l.length) ?_
       ·
        rintro mL184 ⟨toL184, dsL184, hp186, nx187, csL184⟩ ⟨iL184, him188, gL184_1, gL184_6, gL184_79, gL184_80, gL184_81, gL184_120, gL184_121, gL184_122, hdsL184, hcsL184, hn189, he190, hout⟩
        simp only at gL184_1 gL184_6 gL184_79 gL184_80 gL184_81 gL184_120 gL184_121 gL184_122 hdsL184 hcsL184 hn189 he190
        subst hdsL184 hcsL184
        rw [← hj185 toL184, gL184_1, gL184_6, gL184_79, gL184_80, gL184_81, gL184_120, gL184_121, gL184_122]
        clear gL184_1 gL184_6 gL184_79 gL184_80 gL184_81 gL184_120 gL184_121 gL184_122
        have hE191 := hE169.trans he190 le178
        have hb192 := he190.get hb170 lt171
        have lt193 := Nat.lt_of_lt_of_le lt171 hn189
        have hr198 := hr176.trans he190 rl177
        have rl199 := Nat.le_trans rl177 hn189
        have hr200 := hr179.trans he190 rl180
        have rl201 := Nat.le_trans rl180 hn189
        have le202 := Nat.le_trans le178 hn189
        refine sr ?_
        obtain ⟨c203, e203, p203⟩ := @nb (ltI (.ofNat iL184) (.ofNat (J166.l.length))) (((iL184 : Nat) : Int) < ((J166.l.length : Nat) : Int)) (ltI_iff)
        refine ov 123 (.bool c203) ?_ (fun _ _ _ => by subst e203; kernel_rfl)
        refine WO.nil ?_
        refine WP.seq ?_
        refine WP.cond c203 (by kernel_rfl) (fun h204 => ?_) (fun h204 => ?_)
        ·
         have q205 := (p203).1 h204
         refine WP.skip ?_
         refine WP.seq ?_
         refine WP.block ?_
         refine sr ?_
         have hlt206 : iL184 < J166.l.length := by omega
         refine WO.cons (WC.ix (k := .i64) a181 (J166.l.length) c182 (iL184) 4 (by kernel_rfl) (by kernel_rfl) T_und97 T_size99 ((hJ167.mono hr200 rl201).blkA hv183 (zl hlt206)) (hlt206) ?_)
         obtain ⟨x207, hx208⟩ : ∃ el_, J166.l[iL184]? = some el_ := ⟨_, List.getElem?_eq_getElem (hlt206)⟩
         refine WO.cons (WC.loadSE (blk a181) (0 + (iL184) * 4) (encOutcome x207) (by kernel_rfl) T_agg99 T_size99 ((hJ167.mono hr200 rl201).blkB hv183 (zl hlt206)) (flat_at0 (hJ167.mono hr200 rl201).1 hx208) ?_)
         refine WO.cons (WC.alloc _ [.bool false, .int .i64 (0), .int .i64 (0), .int .i64 (0)] rfl T_zero99 rfl ?_)
         obtain ⟨hp210, hx211, he212, hb213⟩ := boxed hp186 (nx187) [.bool false, .int .i64 (0), .int .i64 (0), .int .i64 (0)]
         rw [hx211]; clear hx211
         have hE214 := hE191.trans he212 le202
         have hb215 := he212.get hb192 lt193
         have hr225 := he190.trans he212 hn189
         have rl226 := Nat.le_trans hn189 (Nat.le_succ (nx187))
         have le227 := Nat.le_trans le202 (Nat.le_succ (nx187))
         refine WO.cons (WC.store1 nx187 (0) (.agg (encOutcome x207).toArray) [.bool false, .int .i64 (0), .int .i64 (0), .int .i64 (0)] (encOutcome x207) (encOutcome x207) 4 rfl (by kernel_rfl) (by kernel_rfl) T_size99 rfl rfl hb213 rfl rfl rfl ?_)
         obtain ⟨hp228, hx229, he230, hb231, ho232⟩ := stored hp210 nx187 (.cells (encOutcome x207) CMeta.plain)
         rw [hx229]; clear hx229
         have hE233 := hE214.trans he230 (by omega)
         have hr236 := hr225.trans he230 (by omega)
         have hb237 := (ho232 nx (by omega)).trans hb215
         refine WO.nil ?_
         refine sr ?_
         refine ov 126 (.pointer (some ⟨nx, 0 + 0, none⟩)) ?_
         refine WO.cons (WC.loadS nx (0 + 0) (encClocks F.fClocks) (by kernel_rfl) T_agg25 T_size25 hb237 rfl ?_)
         refine WO.cons (WC.loadS nx187 (0) (encOutcome x207) (by kernel_rfl) T_agg99 T_size99 hb231 rfl ?_)
         refine WO.cons (WC.call 129 30 ([.agg (encClocks F.fClocks).toArray, .agg (encOutcome x207).toArray]) (fun _ _ _ => by kernel_rfl) ((outcomeCheck_wf F.fClocks x207 hp228 (nx187 + 1) (hF.fClocks.mono hE233 le227)).mono ?_))
         rintro _ hp240 nx241 ⟨⟨z244, rfl, hz244⟩, hn242, he243⟩
         have hE245 := hE233.trans he243 le227
         have hr258 := hr236.trans he243 rl226
         have rl259 := Nat.le_trans rl226 hn242
         have le260 := Nat.le_trans le227 hn242
         obtain ⟨c261, e261, p261⟩ := @nb ((!(eqI (z244) (0)))) ((z244) ≠ (0)) (neI_iff)
         refine ov 130 (.bool c261) ?_ (fun _ _ _ => by subst e261; kernel_rfl)
         refine WO.nil ?_
         refine WP.cond c261 (by kernel_rfl) (fun h262 => ?_) (fun h262 => ?_)
         ·
          have q263 := (p261).1 h262
          refine sr ?_
          refine ov 2 (.int .i64 (240)) ?_
          refine WO.nil ?_
          refine WP.ret ⟨rfl, rfl, [.int .i64 (240)], by kernel_rfl, ?_⟩
          refine ⟨⟨240, rfl, ⟨fun h => absurd h (by decide), fun hok => ?_⟩, .inr rfl⟩, le260, hE245⟩
          have hm := List.mem_of_getElem? hx208
          rw [hJl168, List.mem_flatMap] at hm
          obtain ⟨o, ho, hxo⟩ := hm
          exact absurd ((hz244).2 ⟨hclk, hok.out _ _ hx118 _ ho _ hxo⟩) q263
         ·
          have q263 := nq p261 h262
          refine WP.skip ?_
          refine WP.region ?_
          refine ov 131 (.int .i64 (.ofNat (iL184 + 1))) ?_ (fun _ _ _ => by rw [← wrapAdd (show iL184 + 1 < 9223372036854775808 by omega)]; kernel_rfl)
          refine ov 122 (.int .i64 (.ofNat (iL184 + 1))) ?_
          refine WO.nil ?_
          refine ⟨J166.l.length - (iL184 + 1), by omega, iL184 + 1, by omega, by kernel_rfl, by kernel_rfl, by kernel_rfl, by kernel_rfl, by kernel_rfl, by kernel_rfl, by kernel_rfl, by kernel_rfl, rfl, rfl, ?_, ?_, ?_⟩
          · exact rl259
          · exact hr258
          · intro j x' hj hs
            rcases Nat.lt_succ_iff_lt_or_eq.1 hj with hj | rfl
            · exact hout j x' hj hs
            · rw [hx208] at hs; cases hs
              exact ((hz244).1 (Classical.not_not.1 q263)).2
        ·
         have q205 := nq p203 h204
         refine WP.exit ?_
         refine WP.region ?_
         refine ov 132 (.int .i64 (.ofNat (iL100 + 1))) ?_ (fun _ _ _ => by rw [← wrapAdd (show iL100 + 1 < 9223372036854775808 by omega)]; kernel_rfl)
         refine ov 81 (.int .i64 (.ofNat (iL100 + 1))) ?_
         refine WO.nil ?_
         refine ⟨F.fRunners.l.length - (iL100 + 1), by omega, iL100 + 1, x117.fBib, by omega, by kernel_rfl, by kernel_rfl, by kernel_rfl, by kernel_rfl, by kernel_rfl, rfl, rfl, ?_, ?_, ?_, ?_⟩
         · exact rl199
         · exact hr198
         · intro j r' hj hs
           rcases Nat.lt_succ_iff_lt_or_eq.1 hj with hj | rfl
           · exact hrun j r' hj hs
           · rw [hx118] at hs; cases hs
             refine ⟨⟨⟨by have := hlb.1; omega, fun h0 q' hq' => ?_⟩, fun z' hz' => ?_, by omega⟩, fun o ho x hx => ?_⟩
             · have h3 := hlb.2.2 h0 _ hq'
               omega
             · rw [hx149] at hz'; cases hz'; omega
             · have hm : x ∈ J166.l := by rw [hJl168, List.mem_flatMap]; exact ⟨o, ho, hx⟩
               obtain ⟨n, hn⟩ := List.getElem?_of_mem hm
               exact hout n x (by have := (List.getElem?_eq_some_iff.1 hn).1; omega) hn
         · refine ⟨by have := hlb.1; omega, fun h => absurd h (Nat.succ_ne_zero _), fun _ q hq => ?_⟩
           rw [Nat.add_sub_cancel, hx118] at hq; cases hq; rfl
       ·
        exact ⟨0, by omega, by kernel_rfl, by kernel_rfl, by kernel_rfl, by kernel_rfl, by kernel_rfl, by kernel_rfl, by kernel_rfl, by kernel_rfl, rfl, rfl, Nat.le_refl _, HE.refl _ _, (fun _ _ h => absurd h (Nat.not_lt_zero _))⟩
     ·
      have q115 := nq p113 h114
      refine WP.exit ?_
      refine WP.seq ?_
      refine sr ?_
      refine WO.cons (WC.loadS nx (0) (encField F) (by kernel_rfl) T_agg29 T_size29 hb108 rfl ?_)
      refine WO.cons (WC.call 134 31 ([.agg (encField F).toArray]) (fun _ _ _ => by kernel_rfl) ((possibleF_wf F hp102 (nx103) (hF.mono hE107 le112) (fun r hr => by obtain ⟨j, hj⟩ := List.getElem?_of_mem hr; exact (hrun j r (by have := (List.getElem?_eq_some_iff.1 hj).1; omega) hj).1.2.2)).mono ?_))
      rintro _ hp264 nx265 ⟨⟨c268, rfl, p268⟩, hn266, he267⟩
      have hE269 := hE107.trans he267 le112
      have le274 := Nat.le_trans le112 hn266
      obtain ⟨c275, e275, p275⟩ := @nb (!c268) (¬ (Poss F)) (by rw [Bool.not_eq_true', ← Bool.not_eq_true, p268])
      refine ov 135 (.bool c275) ?_ (fun _ _ _ => by subst e275; kernel_rfl)
      refine WO.nil ?_
      refine WP.cond c275 (by kernel_rfl) (fun h276 => ?_) (fun h276 => ?_)
      ·
       have q277 := (p275).1 h276
       refine sr ?_
       refine ov 2 (.int .i64 (240)) ?_
       refine WO.nil ?_
       refine WP.ret ⟨rfl, rfl, [.int .i64 (240)], by kernel_rfl, ?_⟩
       refine ⟨⟨240, rfl, ⟨fun h => absurd h (by decide), fun hok => ?_⟩, .inr rfl⟩, le274, hE269⟩
       exact absurd hok.poss q277
      ·
       have q277 := nq p275 h276
       refine WP.skip ?_
       refine sr ?_
       refine ov 2 (.int .i64 (0)) ?_
       refine WO.nil ?_
       refine WP.ret ⟨rfl, rfl, [.int .i64 (0)], by kernel_rfl, ?_⟩
       refine ⟨⟨0, rfl, ⟨fun _ => ?_, fun _ => rfl⟩, .inl rfl⟩, le274, hE269⟩
       refine ⟨hclk, by omega, by omega, by omega, fun j p hp => hpair j p (by have := (List.getElem?_eq_some_iff.1 hp).1; omega) hp, fun j r hr => (hrun j r (by have := (List.getElem?_eq_some_iff.1 hr).1; omega) hr).1, fun j r hr => (hrun j r (by have := (List.getElem?_eq_some_iff.1 hr).1; omega) hr).2, Classical.not_not.1 q277⟩
    ·
     exact ⟨0, 0, by omega, by kernel_rfl, by kernel_rfl, by kernel_rfl, by kernel_rfl, by kernel_rfl, rfl, rfl, Nat.le_refl _, HE.refl _ _, (fun _ _ h => absurd h (Nat.not_lt_zero _)), ⟨Int.le_refl _, fun _ => rfl, fun h => absurd h (Nat.lt_irrefl _)⟩⟩
  ·
   exact ⟨0, (⟨0, 0⟩ : RPair), by omega, by kernel_rfl, by kernel_rfl, by kernel_rfl, by kernel_rfl, by kernel_rfl, rfl, rfl, Nat.le_refl _, hE37, hb38, hb36, (fun _ _ h => absurd h (Nat.not_lt_zero _)), ⟨fun _ => rfl, fun h => absurd h (Nat.lt_irrefl _)⟩⟩
end
end Sw

namespace Sw
noncomputable section
open Go Go.Proofs Go.RowKit
set_option maxRecDepth 100000
set_option maxHeartbeats 1600000
theorem SOk.cells {α : Type} {enc : α → List Value} {n : Nat} {hp : Ht} {nx : Nat} {s : SV α} (h : SOk enc n hp nx s) : s.v.cells.toList = [s.v] := by
  obtain ⟨a, c, e⟩ := h.shape
  rw [e]; rfl
theorem info43 : ∃ i, ex.T.info 43 = some i ∧ i.bytes ≤ 1024 := by
  cases h : ex.T.info 43 with
  | none => exact absurd (show (ex.T.info 43).isSome = true by kernel_rfl) (by rw [h]; decide)
  | some i =>
    refine ⟨i, rfl, ?_⟩
    have : ((ex.T.info 43).map fun i => Nat.ble i.bytes 1024) = some true := by kernel_rfl
    rw [h] at this
    exact Nat.le_of_ble_eq_true (Option.some.inj this)
def SelOk (F : RField) (l : List Int) : Prop := l ≠ [] ∧ ∀ (j : Nat) (z : Int), l[j]? = some z → (0 ≤ z ∧ z < F.fRunners.l.length) ∧ (0 < j → ∀ y, l[j - 1]? = some y → y < z)
def pickR (F : RField) (l : List Int) : List RRunner := l.filterMap fun z => F.fRunners.l[z.toNat]?
def zeroF : RField := ⟨⟨⟨.slice none 0 0, []⟩, ⟨.slice none 0 0, []⟩⟩, ⟨.slice none 0 0, []⟩, ⟨.slice none 0 0, []⟩⟩
theorem zeroF_ok (hp : Ht) (nx : Nat) : RFieldOk hp nx zeroF :=
  ⟨⟨⟨by simp [zeroF], .inl ⟨rfl, .inl rfl⟩, by simp [zeroF]⟩, ⟨⟨by simp [zeroF], .inl ⟨rfl, .inl rfl⟩, by simp [zeroF]⟩, by simp [zeroF]⟩⟩, ⟨by simp [zeroF], .inl ⟨rfl, .inl rfl⟩, by simp [zeroF]⟩, ⟨⟨by simp [zeroF], .inl ⟨rfl, .inl rfl⟩, by simp [zeroF]⟩, by simp [zeroF]⟩⟩
def OnlyIs (F : RField) (l : List Int) (v : Value) (hp : Ht) (nx : Nat) : Prop := ∃ X z, v = .tuple ⟨[.agg (encField X).toArray, .int .i64 z]⟩ ∧ RFieldOk hp nx X ∧
  ((¬ FieldChk F ∧ z = 240 ∧ X = zeroF) ∨ (FieldChk F ∧ ¬ SelOk F l ∧ z = 1 ∧ X = zeroF) ∨ (FieldChk F ∧ SelOk F l ∧ z = 0 ∧ X.fClocks = F.fClocks ∧ X.fPairs = F.fPairs ∧ X.fRunners.l = pickR F l))
theorem T_size27 : ex.T.size 27 = some 1 := by kernel_rfl
theorem T_zero29 : ex.T.zero 29 = some (.agg ⟨[.slice none (0) 0, .slice none (0) 0, .slice none (0) 0, .slice none (0) 0]⟩) := by kernel_rfl
theorem onlyF_wf (F : RField) (K : SV Int) (hp : Ht) (nx : Nat) (hF : RFieldOk hp nx F) (hK : SOk encI 1 hp nx K) (hw : ∀ r ∈ F.fRunners.l, wsum r ≤ 60) (hk : K.l.length ≤ 1000) : WF ex 8 [.agg (encField F).toArray, K.v] hp nx (fun v hp' nx' => OnlyIs F K.l v hp' nx' ∧ nx ≤ nx' ∧ HE nx hp hp') := by
 obtain ⟨a1, c2, hv3⟩ := hK.shape
 have hsm3 := hK.2.2
 rw [hv3]
 refine WF.body (fi := ⟨Tryz.f8.body.getD .skip, 55, [.cell 4 29, .tmp 5]⟩) (by kernel_rfl) (by kernel_rfl) (by kernel_rfl) rfl ?_
 have hE := HE.refl nx hp
 refine sr ?_
 refine WO.cons (WC.box (.agg (encField F).toArray) (encField F) rfl (by kernel_rfl) rfl ?_)
 obtain ⟨hp5, hx6, he7, hb8⟩ := boxed hp (nx) (encField F)
 rw [hx6]; clear hx6
 have hE9 := hE.trans he7 (Nat.le_refl nx)
 have le10 := Nat.le_trans (Nat.le_refl nx) (Nat.le_succ (nx))
 refine WO.cons (WC.alloc _ [.slice none (0) 0, .slice none (0) 0, .slice none (0) 0, .slice none (0) 0] rfl T_zero29 rfl ?_)
 obtain ⟨hp12, hx13, he14, hb15⟩ := boxed hp5 (nx + 1) [.slice none (0) 0, .slice none (0) 0, .slice none (0) 0, .slice none (0) 0]
 rw [hx13]; clear hx13
 have hE16 := hE9.trans he14 le10
 have hb17 := he14.get hb8 (Nat.lt_succ_self (nx))
 have lt18 := Nat.lt_of_lt_of_le (Nat.lt_succ_self (nx)) (Nat.le_succ (nx + 1))
 have le19 := Nat.le_trans le10 (Nat.le_succ (nx + 1))
 refine ov 5 (.int .i64 (0)) ?_
 refine WO.nil ?_
 refine WP.seq ?_
 refine sr ?_
 refine WO.cons (WC.loadS nx (0) (encField F) (by kernel_rfl) T_agg29 T_size29 hb17 rfl ?_)
 refine WO.cons (WC.call 11 12 ([.agg (encField F).toArray]) (fun _ _ _ => by kernel_rfl) ((fieldCheck_wf F hp12 (nx + 1 + 1) (hF.mono hE16 le19) hw).mono ?_))
 rintro _ hp20 nx21 ⟨⟨z24, rfl, hz24, hk24⟩, hn22, he23⟩
 have hE25 := hE16.trans he23 le19
 have hb26 := he23.get hb17 lt18
 have lt27 := Nat.lt_of_lt_of_le lt18 hn22
 have hb28 := he23.get hb15 (Nat.lt_succ_self (nx + 1))
 have lt29 := Nat.lt_of_lt_of_le (Nat.lt_succ_self (nx + 1)) hn22
 have le30 := Nat.le_trans le19 hn22
 refine ov 6 (.int .i64 (z24)) ?_
 refine WO.nil ?_
 refine sr ?_
 refine ov 12 (.int .i64 (z24)) ?_
 obtain ⟨c31, e31, p31⟩ := @nb ((!(eqI (z24) (0)))) ((z24) ≠ (0)) (neI_iff)
 refine ov 13 (.bool c31) ?_ (fun _ _ _ => by subst e31; kernel_rfl)
 refine WO.nil ?_
 refine WP.cond c31 (by kernel_rfl) (fun h32 => ?_) (fun h32 => ?_)
 ·
  have q33 := (p31).1 h32
  refine sr ?_
  refine ov 14 (.agg ⟨[.slice none (0) 0, .slice none (0) 0, .slice none (0) 0, .slice none (0) 0]⟩) ?_
  refine ov 15 (.int .i64 (z24)) ?_
  refine WO.cons (WC.store1 (nx + 1) (0) (.agg ⟨[.slice none (0) 0, .slice none (0) 0, .slice none (0) 0, .slice none (0) 0]⟩) [.slice none (0) 0, .slice none (0) 0, .slice none (0) 0, .slice none (0) 0] [.slice none (0) 0, .slice none (0) 0, .slice none (0) 0, .slice none (0) 0] [.slice none (0) 0, .slice none (0) 0, .slice none (0) 0, .slice none (0) 0] 4 rfl (by kernel_rfl) (by kernel_rfl) T_size29 rfl (Bool.and_eq_true_iff.2 ⟨rfl, Bool.and_eq_true_iff.2 ⟨rfl, Bool.and_eq_true_iff.2 ⟨rfl, Bool.and_eq_true_iff.2 ⟨rfl, Bool.and_eq_true_iff.2 ⟨rfl, rfl⟩⟩⟩⟩⟩) hb28 rfl rfl rfl ?_)
  obtain ⟨hp34, hx35, he36, hb37, ho38⟩ := stored hp20 (nx + 1) (.cells [.slice none (0) 0, .slice none (0) 0, .slice none (0) 0, .slice none (0) 0] CMeta.plain)
  rw [hx35]; clear hx35
  have hE39 := hE25.trans he36 (by omega)
  refine ov 5 (.int .i64 (z24)) ?_
  refine WO.nil ?_
  refine WP.ret ⟨rfl, rfl, [.agg ⟨[.slice none (0) 0, .slice none (0) 0, .slice none (0) 0, .slice none (0) 0]⟩, .int .i64 (z24)], (getRes_cellTmp (by rw [show (opd (.tmp 4)).run _ = .pointer (some ⟨(nx + 1), 0, none⟩) from by kernel_rfl]; exact eLoad_agg T_agg29 T_size29 hb37 rfl) (by kernel_rfl)), ?_⟩
  refine ⟨⟨zeroF, z24, rfl, zeroF_ok _ _, .inl ⟨fun k => q33 ((hz24).2 k), ?_, rfl⟩⟩, le30, hE39⟩
  rcases hk24 with h | h
  · exact absurd h q33
  · exact h
 ·
  have q33 := nq p31 h32
  refine WP.skip ?_
  refine sr ?_
  refine ov 16 (.pointer (some ⟨nx, 0 + 0, none⟩)) ?_
  refine WO.cons (WC.loadS nx (0 + 0) (encClocks F.fClocks) (by kernel_rfl) T_agg25 T_size25 hb26 rfl ?_)
  refine ov 18 (.pointer (some ⟨nx, 0 + 2, none⟩)) ?_
  obtain ⟨a41, c42, hv43⟩ := hF.fPairs.shape
  have hsm43 := hF.fPairs.2.2
  refine WO.cons (WC.load1 nx (0 + 2) (.slice a41 (F.fPairs.l.length) c42) (by kernel_rfl) T_agg26 hb26 (by rw [← hv43]; rfl) ?_)
  refine ov 20 (.agg ⟨[F.fClocks.fSegments.v, F.fClocks.fFar.v, .slice a41 (F.fPairs.l.length) c42, .slice none (0) 0]⟩) ?_
  refine WO.cons (WC.store1 (nx + 1) (0) (.agg ⟨[F.fClocks.fSegments.v, F.fClocks.fFar.v, .slice a41 (F.fPairs.l.length) c42, .slice none (0) 0]⟩) [.slice none (0) 0, .slice none (0) 0, .slice none (0) 0, .slice none (0) 0] [F.fClocks.fSegments.v, F.fClocks.fFar.v, .slice a41 (F.fPairs.l.length) c42, .slice none (0) 0] [F.fClocks.fSegments.v, F.fClocks.fFar.v, .slice a41 (F.fPairs.l.length) c42, .slice none (0) 0] 4 rfl (by kernel_rfl) (by kernel_rfl) T_size29 rfl (Bool.and_eq_true_iff.2 ⟨rfl, Bool.and_eq_true_iff.2 ⟨hF.fClocks.fSegments.one, Bool.and_eq_true_iff.2 ⟨hF.fClocks.fFar.1.one, Bool.and_eq_true_iff.2 ⟨rfl, Bool.and_eq_true_iff.2 ⟨rfl, rfl⟩⟩⟩⟩⟩) hb28 rfl rfl rfl ?_)
  obtain ⟨hp44, hx45, he46, hb47, ho48⟩ := stored hp20 (nx + 1) (.cells [F.fClocks.fSegments.v, F.fClocks.fFar.v, .slice a41 (F.fPairs.l.length) c42, .slice none (0) 0] CMeta.plain)
  rw [hx45]; clear hx45
  have hE49 := hE25.trans he46 (by omega)
  have hb50 := (ho48 nx (by omega)).trans hb26
  refine WO.nil ?_
  refine sr ?_
  refine ov 7 (.int .i64 (-1)) ?_
  refine WO.nil ?_
  refine WP.seq ?_
  refine sr ?_
  refine ov 21 (.slice a1 (K.l.length) c2) ?_
  refine ov 22 (.int .i64 (.ofNat (K.l.length))) ?_
  refine ov 23 (.int .i64 (0)) ?_
  refine WO.nil ?_
  refine WP.block ?_
  have hchk : FieldChk F := (hz24).1 (Classical.not_not.1 q33)
  have hj52 : ∀ t : Tm, (((((((t.set 1 (t.get 1)).set 2 (t.get 2)).set 4 (t.get 4)).set 7 (t.get 7)).set 21 (t.get 21)).set 22 (t.get 22)).set 23 (t.get 23)) = t := fun t => by kernel_rfl
  refine WP.loop (fun m s => ∃ (iL51 : Nat) (J : SV RRunner) (la : Int), iL51 + m = K.l.length ∧ s.to.get 1 = .slice a1 (K.l.length) c2 ∧ s.to.get 2 = .pointer (some ⟨nx, 0, none⟩) ∧ s.to.get 4 = .pointer (some ⟨(nx + 1), 0, none⟩) ∧ s.to.get 7 = .int .i64 (la) ∧ s.to.get 21 = .slice a1 (K.l.length) c2 ∧ s.to.get 22 = .int .i64 (.ofNat (K.l.length)) ∧ s.to.get 23 = .int .i64 (.ofNat iL51) ∧ s.ds = [] ∧ s.cs = [] ∧ nx21 ≤ s.nx ∧ HE nx hp s.hp ∧ s.hp.get nx = some (.cells (encField F) CMeta.plain) ∧ s.hp.get (nx + 1) = some (.cells [F.fClocks.fSegments.v, F.fClocks.fFar.v, .slice a41 (F.fPairs.l.length) c42, J.v] CMeta.plain) ∧ (Gro encRunner 3 (nx21) s.hp s.nx J) ∧ (J.l = pickR F (K.l.take iL51)) ∧ (J.l.length = iL51) ∧ (-1 ≤ la ∧ (iL51 = 0 → la = -1) ∧ (0 < iL51 → ∀ y, K.l[iL51 - 1]? = some y → la = y)) ∧ (∀ (j : Nat) (z : Int), j < iL51 → K.l[j]? = some z → (0 ≤ z ∧ z < F.fRunners.l.length) ∧ (0 < j → ∀ y, K.l[j - 1]? = some y → y < z))) ?_ (K.l.length) ?_
  ·
   rintro mL51 ⟨toL51, dsL51, hp53, nx54, csL51⟩ ⟨iL51, J, la, him55, gL51_1, gL51_2, gL51_4, gL51_7, gL51_21, gL51_22, gL51_23, hdsL51, hcsL51, hn56, he57, mb58, mb59, hG, hJl, hJn, hla, hsel⟩
   simp only at gL51_1 gL51_2 gL51_4 gL51_7 gL51_21 gL51_22 gL51_23 hdsL51 hcsL51 hn56 he57 mb58 mb59 hG hsel
   subst hdsL51 hcsL51
   rw [← hj52 toL51, gL51_1, gL51_2, gL51_4, gL51_7, gL51_21, gL51_22, gL51_23]
   clear gL51_1 gL51_2 gL51_4 gL51_7 gL51_21 gL51_22 gL51_23
   have lt60 := Nat.lt_of_lt_of_le lt27 hn56
   have lt61 := Nat.lt_of_lt_of_le lt29 hn56
   have le62 := Nat.le_trans le30 hn56
   have hJo := hG.ok (fun _ _ => rfl) (by omega)
   have hr63 := HE.refl (nx54) hp53
   have rl64 := Nat.le_refl (nx54)
   refine sr ?_
   obtain ⟨c65, e65, p65⟩ := @nb (ltI (.ofNat iL51) (.ofNat (K.l.length))) (((iL51 : Nat) : Int) < ((K.l.length : Nat) : Int)) (ltI_iff)
   refine ov 24 (.bool c65) ?_ (fun _ _ _ => by subst e65; kernel_rfl)
   refine WO.nil ?_
   refine WP.seq ?_
   refine WP.cond c65 (by kernel_rfl) (fun h66 => ?_) (fun h66 => ?_)
   ·
    have q67 := (p65).1 h66
    refine WP.skip ?_
    refine WP.seq ?_
    refine WP.block ?_
    refine sr ?_
    have hlt68 : iL51 < K.l.length := by omega
    refine WO.cons (WC.ix (k := .i64) a1 (K.l.length) c2 (iL51) 1 (by kernel_rfl) (by kernel_rfl) T_und30 T_size3 ((hK.mono he57 le62).blkA hv3 (zl hlt68)) (hlt68) ?_)
    obtain ⟨x69, hx70⟩ : ∃ el_, K.l[iL51]? = some el_ := ⟨_, List.getElem?_eq_getElem (hlt68)⟩
    refine WO.cons (WC.load1E (blk a1) (0 + (iL51) * 1) (.int .i64 (x69)) (by kernel_rfl) T_agg3 ((hK.mono he57 le62).blkB hv3 (zl hlt68)) (flat_at1 (hK.mono he57 le62).1 hx70 rfl) ?_)
    refine ov 9 (.int .i64 (x69)) ?_
    refine WO.nil ?_
    refine WP.seq ?_
    refine sr ?_
    refine ov 27 (.int .i64 (x69)) ?_
    refine ov 28 (.int .i64 (la)) ?_
    obtain ⟨c71, e71, p71⟩ := @nb (leI (x69) (la)) ((x69) ≤ (la)) (leI_iff)
    refine ov 29 (.bool c71) ?_ (fun _ _ _ => by subst e71; kernel_rfl)
    refine ov 30 (.bool c71) ?_
    refine og 30 (!c71) (.int .i64 (x69)) (.bool c71) (by cases c71 <;> rfl) (fun h => by obtain rfl := bF h; exact fun _ _ _ => by kernel_rfl) ?_
    refine og 30 (!c71) (.pointer (some ⟨nx, 0 + 3, none⟩)) (.bool c71) (by cases c71 <;> rfl) (fun h => by obtain rfl := bF h; exact fun _ _ _ => by kernel_rfl) ?_
    obtain ⟨a72, c73, hv74⟩ := hF.fRunners.1.shape
    have hsm74 := hF.fRunners.1.2.2
    refine ogc 30 (!c71) (.slice a72 (F.fRunners.l.length) c73) (.bool c71) (by cases c71 <;> rfl) (fun h => by obtain rfl := bF h; exact WC.load1 nx (0 + 3) (.slice a72 (F.fRunners.l.length) c73) (by kernel_rfl) T_agg27 mb58 (by rw [← hv74]; rfl) rfl) ?_
    refine og 30 (!c71) (.int .i64 (.ofNat (F.fRunners.l.length))) (.bool c71) (by cases c71 <;> rfl) (fun h => by obtain rfl := bF h; exact fun _ _ _ => by kernel_rfl) ?_
    obtain ⟨c75, e75, p75⟩ := @nb (leI (.ofNat (F.fRunners.l.length)) (x69)) (((F.fRunners.l.length : Nat) : Int) ≤ (x69)) (leI_iff)
    refine og 30 (!c71) (.bool c75) (.bool c71) (by cases c71 <;> rfl) (fun h => by obtain rfl := bF h; exact fun _ _ _ => by subst e75; kernel_rfl) ?_
    obtain ⟨c76, e76, p76⟩ := @nb ((c71 || c75)) (((x69) ≤ (la)) ∨ (((F.fRunners.l.length : Nat) : Int) ≤ (x69))) (by rw [Bool.or_eq_true, p71, p75])
    refine WO.cons (WC.opt (v := .bool c76) 36 (ePick (.bool c71) (.bool true) ((bif !c71 then .bool c75 else undef))) (fun _ _ _ => by kernel_rfl) (by rw [e76]; exact ePick_or (fun h => by obtain rfl : c71 = false := h; rfl)) ?_)
    refine WO.nil ?_
    refine WP.cond c76 (by kernel_rfl) (fun h77 => ?_) (fun h77 => ?_)
    ·
     have q78 := (p76).1 h77
     refine sr ?_
     refine ov 37 (.agg ⟨[.slice none (0) 0, .slice none (0) 0, .slice none (0) 0, .slice none (0) 0]⟩) ?_
     refine WO.cons (WC.store1 (nx + 1) (0) (.agg ⟨[.slice none (0) 0, .slice none (0) 0, .slice none (0) 0, .slice none (0) 0]⟩) [F.fClocks.fSegments.v, F.fClocks.fFar.v, .slice a41 (F.fPairs.l.length) c42, J.v] [.slice none (0) 0, .slice none (0) 0, .slice none (0) 0, .slice none (0) 0] [.slice none (0) 0, .slice none (0) 0, .slice none (0) 0, .slice none (0) 0] 4 rfl (by kernel_rfl) (by kernel_rfl) T_size29 rfl (Bool.and_eq_true_iff.2 ⟨rfl, Bool.and_eq_true_iff.2 ⟨rfl, Bool.and_eq_true_iff.2 ⟨rfl, Bool.and_eq_true_iff.2 ⟨rfl, Bool.and_eq_true_iff.2 ⟨rfl, rfl⟩⟩⟩⟩⟩) mb59 rfl rfl rfl ?_)
     obtain ⟨hp79, hx80, he81, hb82, ho83⟩ := stored hp53 (nx + 1) (.cells [.slice none (0) 0, .slice none (0) 0, .slice none (0) 0, .slice none (0) 0] CMeta.plain)
     rw [hx80]; clear hx80
     have hE84 := he57.trans he81 (by omega)
     refine ov 5 (.int .i64 (1)) ?_
     refine WO.nil ?_
     refine WP.ret ⟨rfl, rfl, [.agg ⟨[.slice none (0) 0, .slice none (0) 0, .slice none (0) 0, .slice none (0) 0]⟩, .int .i64 (1)], (getRes_cellTmp (by rw [show (opd (.tmp 4)).run _ = .pointer (some ⟨(nx + 1), 0, none⟩) from by kernel_rfl]; exact eLoad_agg T_agg29 T_size29 hb82 rfl) (by kernel_rfl)), ?_⟩
     refine ⟨⟨zeroF, 1, rfl, zeroF_ok _ _, .inr (.inl ⟨hchk, fun hok => ?_, rfl, rfl⟩)⟩, le62, hE84⟩
     obtain ⟨h1, h2⟩ := hok.2 _ _ hx70
     rcases Nat.eq_zero_or_pos iL51 with h0 | h0
     · have := hla.2.1 h0; omega
     · obtain ⟨y, hy⟩ : ∃ y, K.l[iL51 - 1]? = some y := ⟨_, List.getElem?_eq_getElem (by omega)⟩
       have h5 := h2 h0 _ hy
       have h6 := hla.2.2 h0 _ hy
       omega
    ·
     have q78 := nq p76 h77
     refine WP.skip ?_
     refine sr ?_
     obtain ⟨wn, hwn, hwl, rfl⟩ : ∃ wn : Nat, wn < F.fRunners.l.length ∧ la < Int.ofNat wn ∧ x69 = .ofNat wn := ⟨x69.toNat, by have := hla.1; omega, by have := hla.1; have h : (x69.toNat : Int) = x69 := Int.toNat_of_nonneg (by omega); show la < ((x69.toNat : Nat) : Int); omega, (Int.toNat_of_nonneg (by have := hla.1; omega)).symm⟩
     refine ov 38 (.int .i64 (.ofNat wn)) ?_
     refine ov 7 (.int .i64 (.ofNat wn)) ?_
     refine WO.nil ?_
     refine WP.drawS [⟨[0, 1, 2, 3, 4, 5, 6, 7], [0, 1, 2, 3, 4, 5, 6, 7], some 8⟩, ⟨[9], [9], some 10⟩, ⟨[], [], none⟩] (by kernel_rfl) _ rfl ?_
     refine WD.eff ?_
     refine nv 39 (.pointer (some ⟨(nx + 1), 0 + 3, none⟩)) ?_
     obtain ⟨a86, c87, hv88⟩ := hJo.shape
     have hsm88 := hJo.2.2
     refine WN.consAt rfl (WC.load1 (nx + 1) (0 + 3) (.slice a86 (J.l.length) c87) (by kernel_rfl) T_agg27 mb59 (by rw [← hv88]; rfl) ?_)
     refine nv 41 (.pointer (some ⟨nx, 0 + 3, none⟩)) ?_
     refine WN.consAt rfl (WC.load1 nx (0 + 3) (.slice a72 (F.fRunners.l.length) c73) (by kernel_rfl) T_agg27 mb58 (by rw [← hv74]; rfl) ?_)
     refine nv 43 (.int .i64 (.ofNat wn)) ?_
     have hlt89 : wn < F.fRunners.l.length := hwn
     refine WN.consAt rfl (WC.ix (k := .i64) a72 (F.fRunners.l.length) c73 (wn) 3 (by kernel_rfl) (by kernel_rfl) T_und27 T_size43 ((hF.fRunners.1.mono he57 le62).blkA hv74 (zl hlt89)) (hlt89) ?_)
     obtain ⟨x90, hx91⟩ : ∃ el_, F.fRunners.l[wn]? = some el_ := ⟨_, List.getElem?_eq_getElem (hlt89)⟩
     refine WN.consAt rfl (WC.loadSE (blk a72) (0 + (wn) * 3) (encRunner x90) (by kernel_rfl) T_agg43 T_size43 ((hF.fRunners.1.mono he57 le62).blkB hv74 (zl hlt89)) (flat_at0 (hF.fRunners.1.mono he57 le62).1 hx91) ?_)
     refine WN.consAt rfl (WC.buildSlice [.int .i64 (x90.fBib), x90.fKeys.v, x90.fWorlds.v] rfl (by kernel_rfl) ?_)
     obtain ⟨hp92, hx93, he94, hb95⟩ := boxed hp53 (nx54) [.int .i64 (x90.fBib), x90.fKeys.v, x90.fWorlds.v]
     rw [hx93]; clear hx93
     have hE96 := he57.trans he94 le62
     have hb97 := he94.get mb58 lt60
     have hb99 := he94.get mb59 lt61
     have hr101 := hr63.trans he94 rl64
     have rl102 := Nat.le_trans rl64 (Nat.le_succ (nx54))
     have rl103 := Nat.le_trans hn56 (Nat.le_succ (nx54))
     have le104 := Nat.le_trans le62 (Nat.le_succ (nx54))
     refine WN.nil ⟨?_, ?_⟩
     ·
      refine cv (.pointer (some ⟨(nx + 1), 0 + 3, none⟩)) (vEq_ptr ..) ?_
      refine co (.slice a86 (J.l.length) c87) (eLoad ex.T hp92.get 27 (.pointer (some ⟨(nx + 1), 0 + 3, none⟩))) (eLoad_one T_agg27 hb99 (by rw [← hv88]; rfl)) (hv88 ▸ hJo.eqSelf 8) ?_
      refine cv (.pointer (some ⟨nx, 0 + 3, none⟩)) (vEq_ptr ..) ?_
      refine co (.slice a72 (F.fRunners.l.length) c73) (eLoad ex.T hp92.get 27 (.pointer (some ⟨nx, 0 + 3, none⟩))) (eLoad_one T_agg27 hb97 (by rw [← hv74]; rfl)) (hv74 ▸ hF.fRunners.1.eqSelf 8) ?_
      refine cv (.int .i64 (.ofNat wn)) (vEq_int ..) ?_
      refine co (.pointer (some ⟨(blk a72), 0 + (wn) * 3, none⟩)) (eIndexAddr ex.T 27 (.slice a72 (F.fRunners.l.length) c73) (.int .i64 (.ofNat (wn)))) (eIndexAddr_A (k := .i64) T_und27 T_size43 ((hF.fRunners.1.mono he57 le62).blkA hv74 (zl hlt89)) (hlt89)) (vEq_ptr ..) ?_
      refine co (.agg (encRunner x90).toArray) (eLoad ex.T hp92.get 43 (.pointer (some ⟨(blk a72), 0 + (wn) * 3, none⟩))) (eLoad_aggE T_agg43 T_size43 ((hF.fRunners.1.mono hE96 le104).blkB hv74 (zl hlt89)) (flat_at0 (hF.fRunners.1.mono hE96 le104).1 hx91)) (encRunner_vEq x90 (hF.fRunners.2 x90 (List.mem_of_getElem? hx91))) ?_
      refine Chks.new nx54 (.slice (some ⟨nx54, 0, none⟩) (1) 1) [.int .i64 (x90.fBib), x90.fKeys.v, x90.fWorlds.v] (fun _ => by kernel_rfl) hb95 (vEq_sl ..) (by simp [vEqs, vEq_int, vEq_bool, (hF.fRunners.2 x90 (List.mem_of_getElem? hx91)).fKeys.eqSelf 8, (hF.fRunners.2 x90 (List.mem_of_getElem? hx91)).fWorlds.1.eqSelf 8]) ?_
      exact Chks.nil
     obtain ⟨inf, hinf, hby⟩ := info43
     refine WC.at rfl (WC.appendG (enc := encRunner) (J := J) x90 rfl (by rw [hv88]; kernel_rfl) (by kernel_rfl) (hG.mono hr101 rl102) hb95 rfl T_und27 T_size43 T_zero43 hinf rfl (encRunner_one x90 (hF.fRunners.2 x90 (List.mem_of_getElem? hx91))) hby (by omega) (by omega) rfl ?_)
     rintro J2 hp2 nx2 hl2 hn2 he2 hG2
     have hE106 := hE96.trans he2 (by omega)
     have hb107 := he2.get hb97 (by omega)
     have hb109 := he2.get hb99 (by omega)
     have rl111 := Nat.le_trans rl103 hn2
     have hJo2 := hG2.ok (fun _ _ => rfl) (by rw [hl2, List.length_append]; simp; omega)
     refine WD.eff ?_
     refine nv 48 (.pointer (some ⟨(nx + 1), 0 + 3, none⟩)) ?_
     refine WN.nil ⟨?_, ?_⟩
     ·
      refine cv (.pointer (some ⟨(nx + 1), 0 + 3, none⟩)) (vEq_ptr ..) ?_
      exact Chks.nil
     refine WC.at rfl (WC.store1 (nx + 1) (0 + 3) (J2.v) [F.fClocks.fSegments.v, F.fClocks.fFar.v, .slice a41 (F.fPairs.l.length) c42, J.v] [F.fClocks.fSegments.v, F.fClocks.fFar.v, .slice a41 (F.fPairs.l.length) c42, J2.v] [J2.v] 1 rfl (by kernel_rfl) (by kernel_rfl) T_size27 hJo2.cells (Bool.and_eq_true_iff.2 ⟨rfl, by rw [List.all_cons, hJo2.one]; rfl⟩) hb109 rfl rfl rfl ?_)
     obtain ⟨hp113, hx114, he115, hb116, ho117⟩ := stored hp2 (nx + 1) (.cells [F.fClocks.fSegments.v, F.fClocks.fFar.v, .slice a41 (F.fPairs.l.length) c42, J2.v] CMeta.plain)
     rw [hx114]; clear hx114
     have hE118 := hE106.trans he115 (by omega)
     have hb119 := (ho117 nx (by omega)).trans hb107
     refine WD.last ?_
     refine WN.nil ⟨?_, ?_⟩
     ·
      exact Chks.nil
     refine WP.region ?_
     refine ov 49 (.int .i64 (.ofNat (iL51 + 1))) ?_ (fun _ _ _ => by rw [← wrapAdd (show iL51 + 1 < 9223372036854775808 by omega)]; kernel_rfl)
     refine ov 23 (.int .i64 (.ofNat (iL51 + 1))) ?_
     refine WO.nil ?_
     refine ⟨K.l.length - (iL51 + 1), by omega, iL51 + 1, J2, .ofNat wn, by omega, by kernel_rfl, by kernel_rfl, by kernel_rfl, by kernel_rfl, by kernel_rfl, by kernel_rfl, by kernel_rfl, rfl, rfl, ?_, ?_, ?_, ?_, ?_, ?_, ?_, ?_, ?_⟩
     · exact rl111
     · exact hE118
     · exact hb119
     · exact hb116
     · exact hG2.same (fun c hc => ho117 c (by omega))
     · rw [hl2, hJl, List.take_add_one, hx70]
       unfold pickR
       rw [List.filterMap_append]
       simp only [Option.toList_some, List.filterMap_cons, List.filterMap_nil]
       rw [show (Int.ofNat wn).toNat = wn from rfl, hx91]
     · rw [hl2, List.length_append, hJn]; rfl
     · refine ⟨by have := Int.natCast_nonneg wn; show -1 ≤ ((wn : Nat) : Int); omega, fun h => absurd h (Nat.succ_ne_zero _), fun _ y hy => ?_⟩
       rw [Nat.add_sub_cancel, hx70] at hy; cases hy; rfl
     · intro j z hj hz
       rcases Nat.lt_succ_iff_lt_or_eq.1 hj with hj | rfl
       · exact hsel j z hj hz
       · rw [hx70] at hz; cases hz
         exact ⟨⟨Int.natCast_nonneg wn, by show ((wn : Nat) : Int) < _; omega⟩, fun h0 y hy => by have h6 := hla.2.2 h0 _ hy; rw [h6] at hwl; exact hwl⟩
   ·
    have q67 := nq p65 h66
    refine WP.exit ?_
    refine WP.seq ?_
    refine sr ?_
    refine ov 50 (.slice a1 (K.l.length) c2) ?_
    refine ov 51 (.int .i64 (.ofNat (K.l.length))) ?_
    obtain ⟨c120, e120, p120⟩ := @nb (eqI (.ofNat (K.l.length)) (0)) (((K.l.length : Nat) : Int) = (0)) (eqI_iff)
    refine ov 52 (.bool c120) ?_ (fun _ _ _ => by subst e120; kernel_rfl)
    refine WO.nil ?_
    refine WP.cond c120 (by kernel_rfl) (fun h121 => ?_) (fun h121 => ?_)
    ·
     have q122 := (p120).1 h121
     refine sr ?_
     refine ov 53 (.agg ⟨[.slice none (0) 0, .slice none (0) 0, .slice none (0) 0, .slice none (0) 0]⟩) ?_
     refine WO.cons (WC.store1 (nx + 1) (0) (.agg ⟨[.slice none (0) 0, .slice none (0) 0, .slice none (0) 0, .slice none (0) 0]⟩) [F.fClocks.fSegments.v, F.fClocks.fFar.v, .slice a41 (F.fPairs.l.length) c42, J.v] [.slice none (0) 0, .slice none (0) 0, .slice none (0) 0, .slice none (0) 0] [.slice none (0) 0, .slice none (0) 0, .slice none (0) 0, .slice none (0) 0] 4 rfl (by kernel_rfl) (by kernel_rfl) T_size29 rfl (Bool.and_eq_true_iff.2 ⟨rfl, Bool.and_eq_true_iff.2 ⟨rfl, Bool.and_eq_true_iff.2 ⟨rfl, Bool.and_eq_true_iff.2 ⟨rfl, Bool.and_eq_true_iff.2 ⟨rfl, rfl⟩⟩⟩⟩⟩) mb59 rfl rfl rfl ?_)
     obtain ⟨hp123, hx124, he125, hb126, ho127⟩ := stored hp53 (nx + 1) (.cells [.slice none (0) 0, .slice none (0) 0, .slice none (0) 0, .slice none (0) 0] CMeta.plain)
     rw [hx124]; clear hx124
     have hE128 := he57.trans he125 (by omega)
     refine ov 5 (.int .i64 (1)) ?_
     refine WO.nil ?_
     refine WP.ret ⟨rfl, rfl, [.agg ⟨[.slice none (0) 0, .slice none (0) 0, .slice none (0) 0, .slice none (0) 0]⟩, .int .i64 (1)], (getRes_cellTmp (by rw [show (opd (.tmp 4)).run _ = .pointer (some ⟨(nx + 1), 0, none⟩) from by kernel_rfl]; exact eLoad_agg T_agg29 T_size29 hb126 rfl) (by kernel_rfl)), ?_⟩
     refine ⟨⟨zeroF, 1, rfl, zeroF_ok _ _, .inr (.inl ⟨hchk, fun hok => hok.1 (List.eq_nil_of_length_eq_zero (by omega)), rfl, rfl⟩)⟩, le62, hE128⟩
    ·
     have q122 := nq p120 h121
     refine WP.skip ?_
     refine sr ?_
     refine WO.cons (WC.loadS (nx + 1) (0) [F.fClocks.fSegments.v, F.fClocks.fFar.v, .slice a41 (F.fPairs.l.length) c42, J.v] (by kernel_rfl) T_agg29 T_size29 mb59 rfl ?_)
     refine WO.cons (WC.store1 (nx + 1) (0) (.agg ⟨[F.fClocks.fSegments.v, F.fClocks.fFar.v, .slice a41 (F.fPairs.l.length) c42, J.v]⟩) [F.fClocks.fSegments.v, F.fClocks.fFar.v, .slice a41 (F.fPairs.l.length) c42, J.v] [F.fClocks.fSegments.v, F.fClocks.fFar.v, .slice a41 (F.fPairs.l.length) c42, J.v] [F.fClocks.fSegments.v, F.fClocks.fFar.v, .slice a41 (F.fPairs.l.length) c42, J.v] 4 rfl (by kernel_rfl) (by kernel_rfl) T_size29 rfl (Bool.and_eq_true_iff.2 ⟨rfl, Bool.and_eq_true_iff.2 ⟨hF.fClocks.fSegments.one, Bool.and_eq_true_iff.2 ⟨hF.fClocks.fFar.1.one, Bool.and_eq_true_iff.2 ⟨rfl, Bool.and_eq_true_iff.2 ⟨hJo.one, rfl⟩⟩⟩⟩⟩) mb59 rfl rfl rfl ?_)
     obtain ⟨hp130, hx131, he132, hb133, ho134⟩ := stored hp53 (nx + 1) (.cells [F.fClocks.fSegments.v, F.fClocks.fFar.v, .slice a41 (F.fPairs.l.length) c42, J.v] CMeta.plain)
     rw [hx131]; clear hx131
     have hE135 := he57.trans he132 (by omega)
     refine ov 5 (.int .i64 (0)) ?_
     refine WO.nil ?_
     refine WP.ret ⟨rfl, rfl, [.agg ⟨[F.fClocks.fSegments.v, F.fClocks.fFar.v, .slice a41 (F.fPairs.l.length) c42, J.v]⟩, .int .i64 (0)], (getRes_cellTmp (by rw [show (opd (.tmp 4)).run _ = .pointer (some ⟨(nx + 1), 0, none⟩) from by kernel_rfl]; exact eLoad_agg T_agg29 T_size29 hb133 rfl) (by kernel_rfl)), ?_⟩
     have hT : K.l.take iL51 = K.l := List.take_of_length_le (by omega)
     rw [hT] at hJl
     have hGz := hG.same (fun c hc => ho134 c (by omega))
     refine ⟨⟨⟨F.fClocks, F.fPairs, J⟩, 0, ?_, ⟨hF.fClocks.mono hE135 le62, hF.fPairs.mono hE135 le62, ⟨hGz.ok (fun _ _ => rfl) (by omega), fun x hx => ?_⟩⟩, .inr (.inr ⟨hchk, ⟨fun h => ?_, fun j z hz => hsel j z (by have := (List.getElem?_eq_some_iff.1 hz).1; omega) hz⟩, rfl, rfl, rfl, hJl⟩)⟩, le62, hE135⟩
     · simp only [encField]; rw [hv43]; rfl
     · rw [hJl, pickR, List.mem_filterMap] at hx
       obtain ⟨z, _, hz⟩ := hx
       exact (hF.fRunners.2 x (List.mem_of_getElem? hz)).mono hE135 le62
     · rw [h] at q122; exact absurd rfl q122
  ·
   exact ⟨0, ⟨.slice none 0 0, []⟩, -1, by omega, by kernel_rfl, by kernel_rfl, by kernel_rfl, by kernel_rfl, by kernel_rfl, by kernel_rfl, by kernel_rfl, rfl, rfl, Nat.le_refl _, hE49, hb50, hb47, Gro.nil, (by simp [pickR]), rfl, ⟨Int.le_refl _, fun _ => rfl, fun h => absurd h (Nat.lt_irrefl _)⟩, (fun _ _ h => absurd h (Nat.not_lt_zero _))⟩
end
end Sw

namespace Sw
noncomputable section
open Go Go.Proofs Go.RowKit
set_option maxRecDepth 100000
set_option maxHeartbeats 1600000
end
end Sw

namespace Sw
noncomputable section
open Go Go.Proofs Go.RowKit
set_option maxRecDepth 100000
set_option maxHeartbeats 1600000
theorem EqL.refl {α : Type} {E : α → α → Prop} (h : ∀ x, E x x) (a : List α) : EqL E a a :=
  ⟨rfl, fun i x y hx hy => by rw [hx] at hy; cases hy; exact h x⟩
theorem eqI1_refl (x : SV Int) : eqI1 x x := EqL.refl (fun _ => rfl) _
theorem eqO1_refl (x : SV ROutcome) : eqO1 x x := EqL.refl (fun _ => rfl) _
theorem eqRun_refl (r : RRunner) : eqRun r r := ⟨⟨rfl, eqI1_refl _⟩, EqL.refl eqO1_refl _⟩
theorem eqClk_refl (r : RClocks) : eqClk r r := ⟨EqL.refl (fun _ => rfl) _, EqL.refl eqI1_refl _⟩
theorem eqField_of {X Y : RField} (h1 : X.fClocks = Y.fClocks) (h2 : X.fPairs = Y.fPairs) (h3 : X.fRunners.l = Y.fRunners.l) : eqField X Y := by
  unfold eqField
  rw [h1, h2, h3]
  exact ⟨⟨eqClk_refl _, EqL.refl (fun _ => rfl) _⟩, EqL.refl eqRun_refl _⟩
def OnlyCase (F : RField) (l : List Int) (X : RField) (z : Int) : Prop := (¬ FieldChk F ∧ z = 240 ∧ X = zeroF) ∨ (FieldChk F ∧ ¬ SelOk F l ∧ z = 1 ∧ X = zeroF) ∨ (FieldChk F ∧ SelOk F l ∧ z = 0 ∧ X.fClocks = F.fClocks ∧ X.fPairs = F.fPairs ∧ X.fRunners.l = pickR F l)
theorem OnlyCase.same {F : RField} {l : List Int} {X Y : RField} {z y : Int} (h : OnlyCase F l X z) (k : OnlyCase F l Y y) : eqField X Y ∧ z = y := by
  rcases h with ⟨a, rfl, rfl⟩ | ⟨a, b, rfl, rfl⟩ | ⟨a, b, rfl, c1, c2, c3⟩ <;> rcases k with ⟨a', rfl, rfl⟩ | ⟨a', b', rfl, rfl⟩ | ⟨a', b', rfl, d1, d2, d3⟩
  · exact ⟨eqField_of rfl rfl rfl, rfl⟩
  · exact absurd a' a
  · exact absurd a' a
  · exact absurd a a'
  · exact ⟨eqField_of rfl rfl rfl, rfl⟩
  · exact absurd b' b
  · exact absurd a a'
  · exact absurd b b'
  · exact ⟨eqField_of (c1.trans d1.symm) (c2.trans d2.symm) (c3.trans d3.symm), rfl⟩
end
end Sw

namespace Sw
noncomputable section
theorem pickR_len {F : RField} : ∀ {l : List Int}, (∀ z ∈ l, ∃ r, F.fRunners.l[z.toNat]? = some r) → (pickR F l).length = l.length
  | [], _ => rfl
  | z :: l, h => by
    obtain ⟨r, hr⟩ := h z (List.mem_cons_self ..)
    have ih := pickR_len (l := l) (fun y hy => h y (List.mem_cons_of_mem _ hy))
    unfold pickR at ih ⊢
    rw [List.filterMap_cons, hr]
    simp only [List.length_cons, ih]
theorem pickR_get {F : RField} : ∀ {l : List Int}, (∀ z ∈ l, ∃ r, F.fRunners.l[z.toNat]? = some r) → ∀ j : Nat, (pickR F l)[j]? = (l[j]?).bind fun z => F.fRunners.l[z.toNat]?
  | [], _, j => by simp [pickR]
  | z :: l, h, j => by
    obtain ⟨r, hr⟩ := h z (List.mem_cons_self ..)
    have ih := pickR_get (l := l) (fun y hy => h y (List.mem_cons_of_mem _ hy))
    unfold pickR at ih ⊢
    rw [List.filterMap_cons, hr]
    cases j with
    | zero => simp [hr]
    | succ j => simpa using ih j
theorem SelOk.has {F : RField} {l : List Int} (h : SelOk F l) : ∀ z ∈ l, ∃ r, F.fRunners.l[z.toNat]? = some r := by
  intro z hz
  obtain ⟨j, hj⟩ := List.getElem?_of_mem hz
  obtain ⟨⟨h0, h1⟩, _⟩ := h.2 j z hj
  exact ⟨_, List.getElem?_eq_getElem (by omega)⟩
theorem SelOk.ge {F : RField} {l : List Int} (h : SelOk F l) : ∀ (j : Nat) (z : Int), l[j]? = some z → (j : Int) ≤ z
  | 0, z, hz => (h.2 0 z hz).1.1
  | j + 1, z, hz => by
    have hlt := (List.getElem?_eq_some_iff.1 hz).1
    obtain ⟨y, hy⟩ : ∃ y, l[j]? = some y := ⟨_, List.getElem?_eq_getElem (by omega)⟩
    have h1 := (h.2 (j + 1) z hz).2 (Nat.succ_pos _) y (by simpa using hy)
    have h2 := h.ge j y hy
    omega
theorem SelOk.len {F : RField} {l : List Int} (h : SelOk F l) : l.length ≤ F.fRunners.l.length := by
  have h0 : l.length ≠ 0 := fun k => h.1 (List.eq_nil_of_length_eq_zero k)
  obtain ⟨z, hz⟩ : ∃ z, l[l.length - 1]? = some z := ⟨_, List.getElem?_eq_getElem (by omega)⟩
  have h1 := h.ge _ z hz
  have h2 := (h.2 _ z hz).1.2
  omega
theorem FieldChk.grow {F : RField} (h : FieldChk F) {a : Nat} {r : RRunner} (ha : F.fRunners.l[a]? = some r) : ∀ (d : Nat) (s : RRunner), F.fRunners.l[a + d + 1]? = some s → r.fBib < s.fBib
  | 0, s, hs => (h.run (a + 1) s hs).1.2 (Nat.succ_pos _) r (by simpa using ha)
  | d + 1, s, hs => by
    have hlt := (List.getElem?_eq_some_iff.1 hs).1
    obtain ⟨q, hq⟩ : ∃ q, F.fRunners.l[a + d + 1]? = some q := ⟨_, List.getElem?_eq_getElem (by omega)⟩
    have h1 := h.grow ha d q hq
    have h2 := (h.run (a + (d + 1) + 1) s hs).1.2 (Nat.succ_pos _) q (by rw [show a + (d + 1) + 1 - 1 = a + d + 1 by omega]; exact hq)
    omega
theorem FieldChk.lt {F : RField} (h : FieldChk F) {a b : Nat} {r s : RRunner} (ha : F.fRunners.l[a]? = some r) (hb : F.fRunners.l[b]? = some s) (hab : a < b) : r.fBib < s.fBib :=
  h.grow ha (b - a - 1) s (by rw [show a + (b - a - 1) + 1 = b by omega]; exact hb)
theorem FieldChk.keys {F : RField} (h : FieldChk F) {a b : Nat} {r s : RRunner} (ha : F.fRunners.l[a]? = some r) (hb : F.fRunners.l[b]? = some s) : r.fKeys.l.length = s.fKeys.l.length := by
  obtain ⟨q, hq⟩ : ∃ q, F.fRunners.l[0]? = some q := ⟨_, List.getElem?_eq_getElem (by have := h.nr; omega)⟩
  rw [(h.run a r ha).2.1 q hq, (h.run b s hb).2.1 q hq]
theorem FieldChk.sub {F X : RField} {l : List Int} (h : FieldChk F) (hs : SelOk F l) (h1 : X.fClocks = F.fClocks) (h2 : X.fPairs = F.fPairs) (h3 : X.fRunners.l = pickR F l) : FieldChk X := by
  have hg : ∀ (j : Nat) (r : RRunner), X.fRunners.l[j]? = some r → ∃ z : Int, l[j]? = some z ∧ 0 ≤ z ∧ F.fRunners.l[z.toNat]? = some r := fun j r hr => by
    rw [h3, pickR_get hs.has, Option.bind_eq_some_iff] at hr
    obtain ⟨z, hz, hr⟩ := hr
    exact ⟨z, hz, (hs.2 j z hz).1.1, hr⟩
  have hl : X.fRunners.l.length = l.length := by rw [h3, pickR_len hs.has]
  have hl0 : l.length ≠ 0 := fun k => hs.1 (List.eq_nil_of_length_eq_zero k)
  refine ⟨h1 ▸ h.clk, h2 ▸ h.np, by omega, by have := hs.len; have := h.nr2; omega, h2 ▸ h.pair, fun j r hr => ?_, fun j r hr => ?_, ?_⟩
  · obtain ⟨z, hz, hz0, hr⟩ := hg j r hr
    refine ⟨⟨(h.run _ r hr).1.1, fun h0 q hq => ?_⟩, fun q hq => ?_, h2 ▸ (h.run _ r hr).2.2⟩
    · obtain ⟨y, hy, hy0, hq⟩ := hg _ q hq
      have := (hs.2 j z hz).2 h0 y hy
      exact h.lt hq hr (by omega)
    · obtain ⟨y, hy, hy0, hq⟩ := hg _ q hq
      exact h.keys hr hq
  · obtain ⟨z, hz, hz0, hr⟩ := hg j r hr
    exact h1 ▸ h.out _ r hr
  · obtain ⟨w, hw, hp⟩ := h.poss
    refine ⟨w, h2 ▸ hw, fun r hr => ?_⟩
    obtain ⟨j, hj⟩ := List.getElem?_of_mem hr
    obtain ⟨z, hz, hz0, hr⟩ := hg j r hj
    exact hp r (List.mem_of_getElem? hr)
theorem FindIs.at {X : RField} (h : FieldChk X) {k : Nat} {r : RRunner} (hr : X.fRunners.l[k]? = some r) {z : Int} {c : Bool} (hf : FindIs X r.fBib z c) : z = .ofNat k ∧ c = true := by
  rcases hf with ⟨_, _, hf⟩ | ⟨i, s, rfl, rfl, h1, h2, _⟩
  · exact absurd rfl (hf r (List.mem_of_getElem? hr))
  · refine ⟨?_, rfl⟩
    rcases Nat.lt_trichotomy i k with q | q | q
    · have := h.lt h1 hr q; omega
    · rw [q]
    · have := h.lt hr h1 q; omega
end
end Sw

namespace Sw
noncomputable section
def Asc (n : Int) (l : List Int) : Prop := ∀ (j : Nat) (z : Int), l[j]? = some z → (0 ≤ z ∧ z < n) ∧ (0 < j → ∀ y, l[j - 1]? = some y → y < z)
theorem Asc.mono {n m : Int} {l : List Int} (h : Asc n l) (hm : n ≤ m) : Asc m l := fun j z hz => ⟨⟨(h j z hz).1.1, by have := (h j z hz).1.2; omega⟩, (h j z hz).2⟩
theorem Asc.snoc {n : Int} {l : List Int} (h : Asc n l) (hn : 0 ≤ n) : Asc (n + 1) (l ++ [n]) := by
  intro j z hz
  rcases Nat.lt_trichotomy j l.length with hj | hj | hj
  · rw [List.getElem?_append_left hj] at hz
    refine ⟨⟨(h j z hz).1.1, by have := (h j z hz).1.2; omega⟩, fun h0 y hy => ?_⟩
    rw [List.getElem?_append_left (by omega)] at hy
    exact (h j z hz).2 h0 y hy
  · subst hj
    rw [List.getElem?_append_right (Nat.le_refl _), Nat.sub_self] at hz
    simp at hz; subst hz
    refine ⟨⟨hn, by omega⟩, fun h0 y hy => ?_⟩
    rw [List.getElem?_append_left (by omega)] at hy
    exact (h _ y hy).1.2
  · rw [List.getElem?_eq_none (by simp; omega)] at hz; cases hz
structure Msk (i : Nat) (W A B : List Int) : Prop where
  w : Asc i W
  a : Asc W.length A
  b : Asc i B
  ab : A.length = B.length
  at_ : ∀ (j : Nat) (a b : Int), A[j]? = some a → B[j]? = some b → W[a.toNat]? = some b
theorem Asc.nil (n : Int) : Asc n [] := fun j z h => by simp at h
theorem Msk.start : Msk 0 [] [] [] := ⟨Asc.nil _, Asc.nil _, Asc.nil _, rfl, fun j a b h => by simp at h⟩
theorem Msk.skip {i : Nat} {W A B : List Int} (h : Msk i W A B) : Msk (i + 1) W A B := ⟨h.w.mono (by omega), h.a, h.b.mono (by omega), h.ab, h.at_⟩
theorem Msk.one {i : Nat} {W A B : List Int} (h : Msk i W A B) : Msk (i + 1) (W ++ [(i : Int)]) A B := by
  refine ⟨?_, h.a.mono (by simp; omega), h.b.mono (by omega), h.ab, fun j a b ha hb => ?_⟩
  · have := h.w.snoc (Int.natCast_nonneg i)
    exact this
  · have h1 := h.at_ j a b ha hb
    rw [List.getElem?_append_left (List.getElem?_eq_some_iff.1 h1).1]; exact h1
theorem Msk.both {i : Nat} {W A B : List Int} (h : Msk i W A B) : Msk (i + 1) (W ++ [(i : Int)]) (A ++ [(W.length : Int)]) (B ++ [(i : Int)]) := by
  refine ⟨?_, ?_, ?_, by simp [h.ab], fun j a b ha hb => ?_⟩
  · exact h.w.snoc (Int.natCast_nonneg i)
  · have := h.a.snoc (Int.natCast_nonneg W.length)
    rw [List.length_append]
    exact this
  · exact h.b.snoc (Int.natCast_nonneg i)
  · rcases Nat.lt_trichotomy j A.length with hj | hj | hj
    · rw [List.getElem?_append_left hj] at ha
      rw [List.getElem?_append_left (by rw [← h.ab]; exact hj)] at hb
      have h1 := h.at_ j a b ha hb
      rw [List.getElem?_append_left (List.getElem?_eq_some_iff.1 h1).1]; exact h1
    · subst hj
      rw [List.getElem?_append_right (Nat.le_refl _), Nat.sub_self] at ha
      rw [h.ab, List.getElem?_append_right (Nat.le_refl _), Nat.sub_self] at hb
      simp at ha hb; subst ha hb
      simp
    · rw [List.getElem?_eq_none (by simp; omega)] at ha; cases ha
theorem Msk.pick {F X : RField} {W A B : List Int} (h : Msk F.fRunners.l.length W A B) (hW : SelOk F W) (h3 : X.fRunners.l = pickR F W) : pickR X A = pickR F B := by
  have hX : X.fRunners.l.length = W.length := by rw [h3, pickR_len hW.has]
  have hb : ∀ z ∈ B, ∃ r, F.fRunners.l[z.toNat]? = some r := fun z hz => by
    obtain ⟨j, hj⟩ := List.getElem?_of_mem hz
    have := (h.b j z hj).1
    exact ⟨_, List.getElem?_eq_getElem (by omega)⟩
  have ha : ∀ z ∈ A, ∃ r, X.fRunners.l[z.toNat]? = some r := fun z hz => by
    obtain ⟨j, hj⟩ := List.getElem?_of_mem hz
    have := (h.a j z hj).1
    exact ⟨_, List.getElem?_eq_getElem (by omega)⟩
  apply List.ext_getElem?
  intro j
  rw [pickR_get ha, pickR_get hb]
  cases h1 : A[j]? with
  | none =>
    have : B[j]? = none := by rw [List.getElem?_eq_none_iff] at h1 ⊢; rw [← h.ab]; exact h1
    rw [this]; rfl
  | some a =>
    obtain ⟨b, h2⟩ : ∃ b, B[j]? = some b := ⟨_, List.getElem?_eq_getElem (by rw [← h.ab]; exact (List.getElem?_eq_some_iff.1 h1).1)⟩
    rw [h2]
    show X.fRunners.l[a.toNat]? = F.fRunners.l[b.toNat]?
    rw [h3, pickR_get hW.has, h.at_ j a b h1 h2]; rfl
theorem Msk.same {F X Y Z : RField} {W A B : List Int} {y z : Int} (h : Msk F.fRunners.l.length W A B) (hF : FieldChk F) (hW : SelOk F W) (h1 : X.fClocks = F.fClocks) (h2 : X.fPairs = F.fPairs) (h3 : X.fRunners.l = pickR F W)
    (hY : OnlyCase X A Y y) (hZ : OnlyCase F B Z z) : eqField Y Z ∧ y = z := by
  have hX := hF.sub hW h1 h2 h3
  have hl : X.fRunners.l.length = W.length := by rw [h3, pickR_len hW.has]
  have hsel : SelOk X A ↔ SelOk F B := by
    constructor
    · exact fun k => ⟨fun e => k.1 (List.eq_nil_of_length_eq_zero (by rw [h.ab, e]; rfl)), h.b⟩
    · exact fun k => ⟨fun e => k.1 (List.eq_nil_of_length_eq_zero (by rw [← h.ab, e]; rfl)), by rw [hl]; exact h.a⟩
  rcases hY with ⟨a, rfl, rfl⟩ | ⟨a, b, rfl, rfl⟩ | ⟨a, b, rfl, c1, c2, c3⟩ <;> rcases hZ with ⟨a', rfl, rfl⟩ | ⟨a', b', rfl, rfl⟩ | ⟨a', b', rfl, d1, d2, d3⟩
  · exact absurd hX a
  · exact absurd hX a
  · exact absurd hX a
  · exact absurd hF a'
  · exact ⟨eqField_of rfl rfl rfl, rfl⟩
  · exact absurd (hsel.2 b') b
  · exact absurd hF a'
  · exact absurd (hsel.1 b) b'
  · exact ⟨eqField_of (by rw [c1, d1, h1]) (by rw [c2, d2, h2]) (by rw [c3, d3]; exact h.pick hW h3), rfl⟩
end
end Sw

namespace Sw
noncomputable section
open Go Go.RowKit
theorem GC.off {b : Bool} {k : Int} {P : Prop} {nx : Nat} {hp : Ht} (h : b = false) (hk : k ≠ 0 := by decide) : GC b k P nx hp undef hp nx := by
 refine ⟨?_, Nat.le_refl _, HE.refl _ _⟩
 by_cases hP : P
 · exact ⟨0, by rw [h]; rfl, ⟨fun _ => hP, fun _ => rfl⟩, .inl rfl⟩
 · exact ⟨k, by rw [h]; rfl, ⟨fun e => absurd e hk, fun e => absurd e hP⟩, .inr rfl⟩
end
end Sw
