/- A part of the proof that the law returns true for every input that its row speaks of. No condition is added. -/
import Derived.Test.YthnjglgannbccaaGreatDoorSwAI
namespace Sw
noncomputable section
open Go Go.Proofs Go.RowKit
set_option maxRecDepth 100000
set_option maxHeartbeats 1600000
structure FieldChk (F : RField) : Prop where
  clk : ClocksOk F.fClocks
  np : F.fPairs.l.length ≤ 16
  nr : 1 ≤ F.fRunners.l.length
  nr2 : F.fRunners.l.length ≤ 4000
  pair : ∀ (j : Nat) (p : RPair), F.fPairs.l[j]? = some p → (1 ≤ p.fA ∧ p.fA < p.fB ∧ p.fB ≤ 9999) ∧ (0 < j → ∀ q, F.fPairs.l[j - 1]? = some q → q.fA < p.fA ∨ (q.fA = p.fA ∧ q.fB < p.fB))
  run : ∀ (j : Nat) (r : RRunner), F.fRunners.l[j]? = some r → ((1 ≤ r.fBib ∧ r.fBib ≤ 9999) ∧ (0 < j → ∀ q, F.fRunners.l[j - 1]? = some q → q.fBib < r.fBib)) ∧ (∀ q, F.fRunners.l[0]? = some q → r.fKeys.l.length = q.fKeys.l.length) ∧ r.fWorlds.l.length = F.fPairs.l.length + 1
  out : ∀ (j : Nat) (r : RRunner), F.fRunners.l[j]? = some r → ∀ o ∈ r.fWorlds.l, ∀ x ∈ o.l, OutcomeOk F.fClocks x
  poss : Poss F
theorem T_zero67 : ex.T.zero 67 = some (.agg ⟨[.int .i64 (0), .int .i64 (0)]⟩) := by kernel_rfl
theorem check24_wf (F : RField) (hp : Ht) (nx : Nat) (hF : RFieldOk hp nx F) : WF ex 13 [.agg (encField F).toArray] hp nx (Stays nx hp (CodeIs 240 (FieldChk F))) := by
 refine WF.body (fi := ⟨Tryz.f13.body.getD .skip, 182, [.tmp 2]⟩) (by kernel_rfl) (by kernel_rfl) (by kernel_rfl) rfl ?_
 have hE := HE.refl nx hp
 refine sr ?_
 refine WO.cons (WC.box (.agg (encField F).toArray) (encField F) rfl (by kernel_rfl) rfl ?_)
 obtain ⟨hp2, hx3, he4, hb5⟩ := boxed hp (nx) (encField F)
 rw [hx3]; clear hx3
 have hE6 := hE.trans he4 (Nat.le_refl nx)
 have le7 := Nat.le_trans (Nat.le_refl nx) (Nat.le_succ (nx))
 refine ov 2 (.int .i64 (0)) ?_
 refine WO.nil ?_
 refine WP.seq ?_
 refine sr ?_
 refine ov 9 (.pointer (some ⟨nx, 0 + 0, none⟩)) ?_
 refine WO.cons (WC.loadS nx (0 + 0) (encClocks F.fClocks) (by kernel_rfl) T_agg25 T_size25 hb5 rfl ?_)
 refine WO.cons (WC.call 11 32 ([.agg (encClocks F.fClocks).toArray]) (fun _ _ _ => by kernel_rfl) ((check16_wf F.fClocks hp2 (nx + 1) (hF.fClocks.mono hE6 le7)).mono ?_))
 rintro _ hp8 nx9 ⟨⟨z12, rfl, hz12, hk12⟩, hn10, he11⟩
 have hE13 := hE6.trans he11 le7
 have hb14 := he11.get hb5 (Nat.lt_succ_self (nx))
 have lt15 := Nat.lt_of_lt_of_le (Nat.lt_succ_self (nx)) hn10
 have le16 := Nat.le_trans le7 hn10
 obtain ⟨c17, e17, p17⟩ := @nb ((!(eqI (z12) (0)))) ((z12) ≠ (0)) (neI_iff)
 refine ov 12 (.bool c17) ?_ (fun _ _ _ => by subst e17; kernel_rfl)
 refine ov 13 (.bool c17) ?_
 refine og 13 (!c17) (.pointer (some ⟨nx, 0 + 2, none⟩)) (.bool c17) (by cases c17 <;> rfl) (fun h => by obtain rfl := bF h; exact fun _ _ _ => by kernel_rfl) ?_
 obtain ⟨a18, c19, hv20⟩ := hF.fPairs.shape
 have hsm20 := hF.fPairs.2.2
 refine ogc 13 (!c17) (.slice a18 (F.fPairs.l.length) c19) (.bool c17) (by cases c17 <;> rfl) (fun h => by obtain rfl := bF h; exact WC.load1 nx (0 + 2) (.slice a18 (F.fPairs.l.length) c19) (by kernel_rfl) T_agg26 hb14 (by rw [← hv20]; rfl) rfl) ?_
 refine og 13 (!c17) (.int .i64 (.ofNat (F.fPairs.l.length))) (.bool c17) (by cases c17 <;> rfl) (fun h => by obtain rfl := bF h; exact fun _ _ _ => by kernel_rfl) ?_
 obtain ⟨c21, e21, p21⟩ := @nb (ltI (16) (.ofNat (F.fPairs.l.length))) ((16) < ((F.fPairs.l.length : Nat) : Int)) (ltI_iff)
 refine og 13 (!c17) (.bool c21) (.bool c17) (by cases c17 <;> rfl) (fun h => by obtain rfl := bF h; exact fun _ _ _ => by subst e21; kernel_rfl) ?_
 obtain ⟨c22, e22, p22⟩ := @nb ((c17 || c21)) (((z12) ≠ (0)) ∨ ((16) < ((F.fPairs.l.length : Nat) : Int))) (by rw [Bool.or_eq_true, p17, p21])
 refine WO.cons (WC.opt (v := .bool c22) 18 (ePick (.bool c17) (.bool true) ((bif !c17 then .bool c21 else undef))) (fun _ _ _ => by kernel_rfl) (by rw [e22]; exact ePick_or (fun h => by obtain rfl : c17 = false := h; rfl)) ?_)
 refine ov 19 (.bool c22) ?_
 refine og 19 (!c22) (.pointer (some ⟨nx, 0 + 3, none⟩)) (.bool c22) (by cases c22 <;> rfl) (fun h => by obtain rfl := bF h; exact fun _ _ _ => by kernel_rfl) ?_
 obtain ⟨a23, c24, hv25⟩ := hF.fRunners.1.shape
 have hsm25 := hF.fRunners.1.2.2
 refine ogc 19 (!c22) (.slice a23 (F.fRunners.l.length) c24) (.bool c22) (by cases c22 <;> rfl) (fun h => by obtain rfl := bF h; exact WC.load1 nx (0 + 3) (.slice a23 (F.fRunners.l.length) c24) (by kernel_rfl) T_agg27 hb14 (by rw [← hv25]; rfl) rfl) ?_
 refine og 19 (!c22) (.int .i64 (.ofNat (F.fRunners.l.length))) (.bool c22) (by cases c22 <;> rfl) (fun h => by obtain rfl := bF h; exact fun _ _ _ => by kernel_rfl) ?_
 obtain ⟨c26, e26, p26⟩ := @nb (ltI (.ofNat (F.fRunners.l.length)) (1)) (((F.fRunners.l.length : Nat) : Int) < (1)) (ltI_iff)
 refine og 19 (!c22) (.bool c26) (.bool c22) (by cases c22 <;> rfl) (fun h => by obtain rfl := bF h; exact fun _ _ _ => by subst e26; kernel_rfl) ?_
 obtain ⟨c27, e27, p27⟩ := @nb ((c22 || c26)) ((((z12) ≠ (0)) ∨ ((16) < ((F.fPairs.l.length : Nat) : Int))) ∨ (((F.fRunners.l.length : Nat) : Int) < (1))) (by rw [Bool.or_eq_true, p22, p26])
 refine WO.cons (WC.opt (v := .bool c27) 24 (ePick (.bool c22) (.bool true) ((bif !c22 then .bool c26 else undef))) (fun _ _ _ => by kernel_rfl) (by rw [e27]; exact ePick_or (fun h => by obtain rfl : c22 = false := h; rfl)) ?_)
 refine ov 25 (.bool c27) ?_
 refine og 25 (!c27) (.pointer (some ⟨nx, 0 + 3, none⟩)) (.bool c27) (by cases c27 <;> rfl) (fun h => by obtain rfl := bF h; exact fun _ _ _ => by kernel_rfl) ?_
 refine ogc 25 (!c27) (.slice a23 (F.fRunners.l.length) c24) (.bool c27) (by cases c27 <;> rfl) (fun h => by obtain rfl := bF h; exact WC.load1 nx (0 + 3) (.slice a23 (F.fRunners.l.length) c24) (by kernel_rfl) T_agg27 hb14 (by rw [← hv25]; rfl) rfl) ?_
 refine og 25 (!c27) (.int .i64 (.ofNat (F.fRunners.l.length))) (.bool c27) (by cases c27 <;> rfl) (fun h => by obtain rfl := bF h; exact fun _ _ _ => by kernel_rfl) ?_
 obtain ⟨c28, e28, p28⟩ := @nb (ltI (4000) (.ofNat (F.fRunners.l.length))) ((4000) < ((F.fRunners.l.length : Nat) : Int)) (ltI_iff)
 refine og 25 (!c27) (.bool c28) (.bool c27) (by cases c27 <;> rfl) (fun h => by obtain rfl := bF h; exact fun _ _ _ => by subst e28; kernel_rfl) ?_
 obtain ⟨c29, e29, p29⟩ := @nb ((c27 || c28)) (((((z12) ≠ (0)) ∨ ((16) < ((F.fPairs.l.length : Nat) : Int))) ∨ (((F.fRunners.l.length : Nat) : Int) < (1))) ∨ ((4000) < ((F.fRunners.l.length : Nat) : Int))) (by rw [Bool.or_eq_true, p27, p28])
 refine WO.cons (WC.opt (v := .bool c29) 30 (ePick (.bool c27) (.bool true) ((bif !c27 then .bool c28 else undef))) (fun _ _ _ => by kernel_rfl) (by rw [e29]; exact ePick_or (fun h => by obtain rfl : c27 = false := h; rfl)) ?_)
 refine WO.nil ?_
 refine WP.cond c29 (by kernel_rfl) (fun h30 => ?_) (fun h30 => ?_)
 ·
  have q31 := (p29).1 h30
  refine sr ?_
  refine ov 2 (.int .i64 (240)) ?_
  refine WO.nil ?_
  refine WP.ret ⟨rfl, rfl, [.int .i64 (240)], by kernel_rfl, ?_⟩
  refine ⟨⟨240, rfl, ⟨fun h => absurd h (by decide), fun hok => ?_⟩, .inr rfl⟩, le16, hE13⟩
  rcases q31 with ((hq | hq) | hq) | hq
  · exact absurd ((hz12).2 hok.clk) hq
  · have := hok.np; omega
  · have := hok.nr; omega
  · have := hok.nr2; omega
 ·
  have q31 := nq p29 h30
  refine WP.skip ?_
  refine WP.seq ?_
  refine sr ?_
  refine ov 3 (.int .i64 (0)) ?_
  refine WO.nil ?_
  refine WP.block ?_
  have hclk : ClocksOk F.fClocks := (hz12).1 (Classical.not_not.1 fun k => q31 (.inl (.inl (.inl k))))
  have hj33 : ∀ t : Tm, ((t.set 1 (t.get 1)).set 3 (t.get 3)) = t := fun t => by kernel_rfl
  refine WP.loop (fun m s => ∃ (iL32 : Nat), iL32 + m = F.fPairs.l.length ∧ s.to.get 1 = .pointer (some ⟨nx, 0, none⟩) ∧ s.to.get 3 = .int .i64 (.ofNat iL32) ∧ s.ds = [] ∧ s.cs = [] ∧ nx9 ≤ s.nx ∧ HE (nx9) hp8 s.hp ∧ (∀ (j : Nat) (p : RPair), j < iL32 → F.fPairs.l[j]? = some p → (1 ≤ p.fA ∧ p.fA < p.fB ∧ p.fB ≤ 9999) ∧ (0 < j → ∀ q, F.fPairs.l[j - 1]? = some q → q.fA < p.fA ∨ (q.fA = p.fA ∧ q.fB < p.fB)))) ?_ (F.fPairs.l.length) ?_
  ·
   rintro mL32 ⟨toL32, dsL32, hp34, nx35, csL32⟩ ⟨iL32, him36, gL32_1, gL32_3, hdsL32, hcsL32, hn37, he38, hpair⟩
   simp only at gL32_1 gL32_3 hdsL32 hcsL32 hn37 he38 hpair
   subst hdsL32 hcsL32
   rw [← hj33 toL32, gL32_1, gL32_3]
   clear gL32_1 gL32_3
   have hE39 := hE13.trans he38 le16
   have hb40 := he38.get hb14 lt15
   have lt41 := Nat.lt_of_lt_of_le lt15 hn37
   have le42 := Nat.le_trans le16 hn37
   refine WP.seq ?_
   refine sr ?_
   refine ov 31 (.int .i64 (.ofNat iL32)) ?_
   refine ov 32 (.pointer (some ⟨nx, 0 + 2, none⟩)) ?_
   refine WO.cons (WC.load1 nx (0 + 2) (.slice a18 (F.fPairs.l.length) c19) (by kernel_rfl) T_agg26 hb40 (by rw [← hv20]; rfl) ?_)
   refine ov 34 (.int .i64 (.ofNat (F.fPairs.l.length))) ?_
   obtain ⟨c43, e43, p43⟩ := @nb (ltI (.ofNat iL32) (.ofNat (F.fPairs.l.length))) (((iL32 : Nat) : Int) < ((F.fPairs.l.length : Nat) : Int)) (ltI_iff)
   refine ov 35 (.bool c43) ?_ (fun _ _ _ => by subst e43; kernel_rfl)
   refine WO.nil ?_
   refine WP.cond c43 (by kernel_rfl) (fun h44 => ?_) (fun h44 => ?_)
   ·
    have q45 := (p43).1 h44
    refine WP.skip ?_
    refine WP.seq ?_
    refine WP.block ?_
    refine sr ?_
    refine ov 38 (.pointer (some ⟨nx, 0 + 2, none⟩)) ?_
    refine WO.cons (WC.load1 nx (0 + 2) (.slice a18 (F.fPairs.l.length) c19) (by kernel_rfl) T_agg26 hb40 (by rw [← hv20]; rfl) ?_)
    refine ov 40 (.int .i64 (.ofNat iL32)) ?_
    have hlt46 : iL32 < F.fPairs.l.length := by omega
    refine WO.cons (WC.ix (k := .i64) a18 (F.fPairs.l.length) c19 (iL32) 2 (by kernel_rfl) (by kernel_rfl) T_und26 T_size67 ((hF.fPairs.mono hE39 le42).blkA hv20 (zl hlt46)) (hlt46) ?_)
    obtain ⟨x47, hx48⟩ : ∃ el_, F.fPairs.l[iL32]? = some el_ := ⟨_, List.getElem?_eq_getElem (hlt46)⟩
    refine WO.cons (WC.loadSE (blk a18) (0 + (iL32) * 2) (encPair x47) (by kernel_rfl) T_agg67 T_size67 ((hF.fPairs.mono hE39 le42).blkB hv20 (zl hlt46)) (flat_at0 (hF.fPairs.mono hE39 le42).1 hx48) ?_)
    refine WO.cons (WC.alloc _ [.int .i64 (0), .int .i64 (0)] rfl T_zero67 rfl ?_)
    obtain ⟨hp50, hx51, he52, hb53⟩ := boxed hp34 (nx35) [.int .i64 (0), .int .i64 (0)]
    rw [hx51]; clear hx51
    have hE54 := hE39.trans he52 le42
    have hb55 := he52.get hb40 lt41
    have hr57 := he38.trans he52 hn37
    have rl58 := Nat.le_trans hn37 (Nat.le_succ (nx35))
    have le59 := Nat.le_trans le42 (Nat.le_succ (nx35))
    refine WO.cons (WC.store1 nx35 (0) (.agg (encPair x47).toArray) [.int .i64 (0), .int .i64 (0)] (encPair x47) (encPair x47) 2 rfl (by kernel_rfl) (by kernel_rfl) T_size67 rfl rfl hb53 rfl rfl rfl ?_)
    obtain ⟨hp60, hx61, he62, hb63, ho64⟩ := stored hp50 nx35 (.cells (encPair x47) CMeta.plain)
    rw [hx61]; clear hx61
    have hE65 := hE54.trans he62 (by omega)
    have hr66 := hr57.trans he62 (by omega)
    have hb67 := (ho64 nx (by omega)).trans hb55
    refine WO.nil ?_
    refine WP.seq ?_
    refine sr ?_
    refine ov 43 (.pointer (some ⟨nx35, 0 + 0, none⟩)) ?_
    refine WO.cons (WC.load1 nx35 (0 + 0) (.int .i64 (x47.fA)) (by kernel_rfl) T_agg3 hb63 rfl ?_)
    obtain ⟨c68, e68, p68⟩ := @nb (ltI (x47.fA) (1)) ((x47.fA) < (1)) (ltI_iff)
    refine ov 45 (.bool c68) ?_ (fun _ _ _ => by subst e68; kernel_rfl)
    refine ov 46 (.bool c68) ?_
    refine og 46 (!c68) (.pointer (some ⟨nx35, 0 + 0, none⟩)) (.bool c68) (by cases c68 <;> rfl) (fun h => by obtain rfl := bF h; exact fun _ _ _ => by kernel_rfl) ?_
    refine ogc 46 (!c68) (.int .i64 (x47.fA)) (.bool c68) (by cases c68 <;> rfl) (fun h => by obtain rfl := bF h; exact WC.load1 nx35 (0 + 0) (.int .i64 (x47.fA)) (by kernel_rfl) T_agg3 hb63 rfl rfl) ?_
    refine og 46 (!c68) (.pointer (some ⟨nx35, 0 + 1, none⟩)) (.bool c68) (by cases c68 <;> rfl) (fun h => by obtain rfl := bF h; exact fun _ _ _ => by kernel_rfl) ?_
    refine ogc 46 (!c68) (.int .i64 (x47.fB)) (.bool c68) (by cases c68 <;> rfl) (fun h => by obtain rfl := bF h; exact WC.load1 nx35 (0 + 1) (.int .i64 (x47.fB)) (by kernel_rfl) T_agg3 hb63 rfl rfl) ?_
    obtain ⟨c69, e69, p69⟩ := @nb (leI (x47.fB) (x47.fA)) ((x47.fB) ≤ (x47.fA)) (leI_iff)
    refine og 46 (!c68) (.bool c69) (.bool c68) (by cases c68 <;> rfl) (fun h => by obtain rfl := bF h; exact fun _ _ _ => by subst e69; kernel_rfl) ?_
    obtain ⟨c70, e70, p70⟩ := @nb ((c68 || c69)) (((x47.fA) < (1)) ∨ ((x47.fB) ≤ (x47.fA))) (by rw [Bool.or_eq_true, p68, p69])
    refine WO.cons (WC.opt (v := .bool c70) 52 (ePick (.bool c68) (.bool true) ((bif !c68 then .bool c69 else undef))) (fun _ _ _ => by kernel_rfl) (by rw [e70]; exact ePick_or (fun h => by obtain rfl : c68 = false := h; rfl)) ?_)
    refine ov 53 (.bool c70) ?_
    refine og 53 (!c70) (.pointer (some ⟨nx35, 0 + 1, none⟩)) (.bool c70) (by cases c70 <;> rfl) (fun h => by obtain rfl := bF h; exact fun _ _ _ => by kernel_rfl) ?_
    refine ogc 53 (!c70) (.int .i64 (x47.fB)) (.bool c70) (by cases c70 <;> rfl) (fun h => by obtain rfl := bF h; exact WC.load1 nx35 (0 + 1) (.int .i64 (x47.fB)) (by kernel_rfl) T_agg3 hb63 rfl rfl) ?_
    obtain ⟨c71, e71, p71⟩ := @nb (ltI (9999) (x47.fB)) ((9999) < (x47.fB)) (ltI_iff)
    refine og 53 (!c70) (.bool c71) (.bool c70) (by cases c70 <;> rfl) (fun h => by obtain rfl := bF h; exact fun _ _ _ => by subst e71; kernel_rfl) ?_
    obtain ⟨c72, e72, p72⟩ := @nb ((c70 || c71)) ((((x47.fA) < (1)) ∨ ((x47.fB) ≤ (x47.fA))) ∨ ((9999) < (x47.fB))) (by rw [Bool.or_eq_true, p70, p71])
    refine WO.cons (WC.opt (v := .bool c72) 57 (ePick (.bool c70) (.bool true) ((bif !c70 then .bool c71 else undef))) (fun _ _ _ => by kernel_rfl) (by rw [e72]; exact ePick_or (fun h => by obtain rfl : c70 = false := h; rfl)) ?_)
    refine WO.nil ?_
    refine WP.cond c72 (by kernel_rfl) (fun h73 => ?_) (fun h73 => ?_)
    ·
     have q74 := (p72).1 h73
     refine sr ?_
     refine ov 2 (.int .i64 (240)) ?_
     refine WO.nil ?_
     refine WP.ret ⟨rfl, rfl, [.int .i64 (240)], by kernel_rfl, ?_⟩
     refine ⟨⟨240, rfl, ⟨fun h => absurd h (by decide), fun hok => ?_⟩, .inr rfl⟩, le59, hE65⟩
     obtain ⟨⟨h1, h2, h3⟩, h4⟩ := hok.pair _ _ hx48; omega
    ·
     have q74 := nq p72 h73
     refine WP.skip ?_
     refine WP.seq ?_
     refine WP.drawS [⟨[0, 1, 2, 3, 4, 5, 6, 7, 8, 9, 10, 11, 12, 13, 14, 15, 16, 17, 18, 19, 20, 21, 22, 23, 24, 25, 26, 27, 28, 29, 30, 31, 32, 33, 34, 35, 36, 37], [0, 1, 2, 3, 4, 5, 6, 7, 8, 9, 10, 11, 12, 13, 14, 15, 16, 17, 18, 19, 20, 21, 22, 23, 24, 25, 26, 27, 28, 29, 30, 31, 32, 33, 34, 35, 36, 37], none⟩] (by kernel_rfl) _ rfl ?_
     refine WD.last ?_
     refine nv 58 (.int .i64 (.ofNat iL32)) ?_
     obtain ⟨c75, e75, p75⟩ := @nb (ltI (0) (.ofNat iL32)) ((0) < ((iL32 : Nat) : Int)) (ltI_iff)
     refine nv 59 (.bool c75) ?_ (fun _ _ _ => by subst e75; kernel_rfl)
     refine nv 60 (.bool c75) ?_
     refine ng rfl 60 (c75) (.pointer (some ⟨nx, 0 + 2, none⟩)) (.bool c75) (by cases c75 <;> rfl) (fun h => by obtain rfl := h; exact fun _ _ _ => by kernel_rfl) ?_
     refine ngc rfl 60 (c75) (.slice a18 (F.fPairs.l.length) c19) (.bool c75) (by cases c75 <;> rfl) (fun h => by obtain rfl := h; exact WC.load1 nx (0 + 2) (.slice a18 (F.fPairs.l.length) c19) (by kernel_rfl) T_agg26 hb67 (by rw [← hv20]; rfl) rfl) ?_
     refine ng rfl 60 (c75) (.int .i64 (.ofNat iL32)) (.bool c75) (by cases c75 <;> rfl) (fun h => by obtain rfl := h; exact fun _ _ _ => by kernel_rfl) ?_
     refine ng rfl 60 (c75) (.int .i64 (.ofNat (iL32 - 1))) (.bool c75) (by cases c75 <;> rfl) (fun h => by obtain rfl := h; have q0 := (p75).1 rfl; exact fun _ _ _ => by rw [← wrapSub (show iL32 < 9223372036854775808 by omega) (by omega)]; kernel_rfl) ?_
     have hlt76 : (c75) = true → iL32 - 1 < F.fPairs.l.length := fun h => by obtain rfl : c75 = true := (by simpa using h); have q0 := (p75).1 rfl; omega
     refine ngc rfl 60 (c75) (.pointer (some ⟨(blk a18), 0 + (iL32 - 1) * 2, none⟩)) (.bool c75) (by cases c75 <;> rfl) (fun h => by obtain rfl := h; exact WC.ix (k := .i64) a18 (F.fPairs.l.length) c19 (iL32 - 1) 2 (by kernel_rfl) (by kernel_rfl) T_und26 T_size67 ((hF.fPairs.mono hE65 le59).blkA hv20 (zl ((hlt76 rfl)))) ((hlt76 rfl)) rfl) ?_
     refine ng rfl 60 (c75) (.pointer (some ⟨(blk a18), 0 + (iL32 - 1) * 2 + 0, none⟩)) (.bool c75) (by cases c75 <;> rfl) (fun h => by obtain rfl := h; exact fun _ _ _ => by kernel_rfl) ?_
     obtain ⟨x77, hx78⟩ : ∃ el_, (c75) = true → F.fPairs.l[iL32 - 1]? = some el_ := ⟨(F.fPairs.l[iL32 - 1]?).getD default, fun h => by rw [List.getElem?_eq_getElem (by obtain rfl : c75 = true := (by simpa using h); exact (hlt76 rfl))]; rfl⟩
     have hx78p := fun (a0 : ((0) < ((iL32 : Nat) : Int))) => hx78 (by first | (rw [show c75 = true from (p75).2 a0]; rfl) | rw [show c75 = true from (p75).2 a0])
     refine ngc rfl 60 (c75) (.int .i64 (x77.fA)) (.bool c75) (by cases c75 <;> rfl) (fun h => by obtain rfl := h; exact WC.load1E (blk a18) (0 + (iL32 - 1) * 2 + 0) (.int .i64 (x77.fA)) (by kernel_rfl) T_agg3 ((hF.fPairs.mono hE65 le59).blkB hv20 (zl ((hlt76 rfl)))) (flat_at (hF.fPairs.mono hE65 le59).1 (hx78 rfl) (by decide) rfl) rfl) ?_
     refine ng rfl 60 (c75) (.pointer (some ⟨nx35, 0 + 0, none⟩)) (.bool c75) (by cases c75 <;> rfl) (fun h => by obtain rfl := h; exact fun _ _ _ => by kernel_rfl) ?_
     refine ngc rfl 60 (c75) (.int .i64 (x47.fA)) (.bool c75) (by cases c75 <;> rfl) (fun h => by obtain rfl := h; exact WC.load1 nx35 (0 + 0) (.int .i64 (x47.fA)) (by kernel_rfl) T_agg3 hb63 rfl rfl) ?_
     obtain ⟨c79, e79, p79⟩ := @nb (ltI (x47.fA) (x77.fA)) ((x47.fA) < (x77.fA)) (ltI_iff)
     refine ng rfl 60 (c75) (.bool c79) (.bool c75) (by cases c75 <;> rfl) (fun h => by obtain rfl := h; exact fun _ _ _ => by subst e79; kernel_rfl) ?_
     refine ng rfl 60 (c75) (.bool c79) (.bool c75) (by cases c75 <;> rfl) (fun h => by obtain rfl := h; exact fun _ _ _ => by kernel_rfl) ?_
     refine ng rfl 71 (c75 && !c79) (.pointer (some ⟨nx, 0 + 2, none⟩)) ((bif c75 then .bool c79 else undef)) (by cases c75 <;> cases c79 <;> rfl) (fun h => by obtain ⟨rfl, rfl⟩ := bTF h; exact fun _ _ _ => by kernel_rfl) ?_
     refine ngc rfl 71 (c75 && !c79) (.slice a18 (F.fPairs.l.length) c19) ((bif c75 then .bool c79 else undef)) (by cases c75 <;> cases c79 <;> rfl) (fun h => by obtain ⟨rfl, rfl⟩ := bTF h; exact WC.load1 nx (0 + 2) (.slice a18 (F.fPairs.l.length) c19) (by kernel_rfl) T_agg26 hb67 (by rw [← hv20]; rfl) rfl) ?_
     refine ng rfl 71 (c75 && !c79) (.int .i64 (.ofNat iL32)) ((bif c75 then .bool c79 else undef)) (by cases c75 <;> cases c79 <;> rfl) (fun h => by obtain ⟨rfl, rfl⟩ := bTF h; exact fun _ _ _ => by kernel_rfl) ?_
     refine ng rfl 71 (c75 && !c79) (.int .i64 (.ofNat (iL32 - 1))) ((bif c75 then .bool c79 else undef)) (by cases c75 <;> cases c79 <;> rfl) (fun h => by obtain ⟨rfl, rfl⟩ := bTF h; have q0 := (p75).1 rfl; have q1 := nf p79; exact fun _ _ _ => by rw [← wrapSub (show iL32 < 9223372036854775808 by omega) (by omega)]; kernel_rfl) ?_
     have hlt80 : (c75 && !c79) = true → iL32 - 1 < F.fPairs.l.length := fun h => by obtain ⟨rfl, rfl⟩ : c75 = true ∧ c79 = false := (by simpa [and_assoc] using h); have q0 := (p75).1 rfl; have q1 : ¬ ((x47.fA) < (x77.fA)) := (fun k => absurd ((p79).2 k) (by decide)); omega
     refine ngc rfl 71 (c75 && !c79) (.pointer (some ⟨(blk a18), 0 + (iL32 - 1) * 2, none⟩)) ((bif c75 then .bool c79 else undef)) (by cases c75 <;> cases c79 <;> rfl) (fun h => by obtain ⟨rfl, rfl⟩ := bTF h; exact WC.ix (k := .i64) a18 (F.fPairs.l.length) c19 (iL32 - 1) 2 (by kernel_rfl) (by kernel_rfl) T_und26 T_size67 ((hF.fPairs.mono hE65 le59).blkA hv20 (zl ((hlt80 rfl)))) ((hlt80 rfl)) rfl) ?_
     refine ng rfl 71 (c75 && !c79) (.pointer (some ⟨(blk a18), 0 + (iL32 - 1) * 2 + 0, none⟩)) ((bif c75 then .bool c79 else undef)) (by cases c75 <;> cases c79 <;> rfl) (fun h => by obtain ⟨rfl, rfl⟩ := bTF h; exact fun _ _ _ => by kernel_rfl) ?_
     refine ngc rfl 71 (c75 && !c79) (.int .i64 (x77.fA)) ((bif c75 then .bool c79 else undef)) (by cases c75 <;> cases c79 <;> rfl) (fun h => by obtain ⟨rfl, rfl⟩ := bTF h; exact WC.load1E (blk a18) (0 + (iL32 - 1) * 2 + 0) (.int .i64 (x77.fA)) (by kernel_rfl) T_agg3 ((hF.fPairs.mono hE65 le59).blkB hv20 (zl ((hlt80 rfl)))) (flat_at (hF.fPairs.mono hE65 le59).1 (hx78 rfl) (by decide) rfl) rfl) ?_
     refine ng rfl 71 (c75 && !c79) (.pointer (some ⟨nx35, 0 + 0, none⟩)) ((bif c75 then .bool c79 else undef)) (by cases c75 <;> cases c79 <;> rfl) (fun h => by obtain ⟨rfl, rfl⟩ := bTF h; exact fun _ _ _ => by kernel_rfl) ?_
     refine ngc rfl 71 (c75 && !c79) (.int .i64 (x47.fA)) ((bif c75 then .bool c79 else undef)) (by cases c75 <;> cases c79 <;> rfl) (fun h => by obtain ⟨rfl, rfl⟩ := bTF h; exact WC.load1 nx35 (0 + 0) (.int .i64 (x47.fA)) (by kernel_rfl) T_agg3 hb63 rfl rfl) ?_
     obtain ⟨c81, e81, p81⟩ := @nb (eqI (x77.fA) (x47.fA)) ((x77.fA) = (x47.fA)) (eqI_iff)
     refine ng rfl 71 (c75 && !c79) (.bool c81) ((bif c75 then .bool c79 else undef)) (by cases c75 <;> cases c79 <;> rfl) (fun h => by obtain ⟨rfl, rfl⟩ := bTF h; exact fun _ _ _ => by subst e81; kernel_rfl) ?_
     refine ng rfl 71 (c75 && !c79) (.bool c81) ((bif c75 then .bool c79 else undef)) (by cases c75 <;> cases c79 <;> rfl) (fun h => by obtain ⟨rfl, rfl⟩ := bTF h; exact fun _ _ _ => by kernel_rfl) ?_
     refine ng rfl 82 (c75 && !c79 && c81) (.pointer (some ⟨nx, 0 + 2, none⟩)) ((bif c75 && !c79 then .bool c81 else undef)) (by cases c75 <;> cases c79 <;> cases c81 <;> rfl) (fun h => by obtain ⟨rfl, rfl, rfl⟩ : c75 = true ∧ c79 = false ∧ c81 = true := (by simpa [and_assoc] using h); exact fun _ _ _ => by kernel_rfl) ?_
     refine ngc rfl 82 (c75 && !c79 && c81) (.slice a18 (F.fPairs.l.length) c19) ((bif c75 && !c79 then .bool c81 else undef)) (by cases c75 <;> cases c79 <;> cases c81 <;> rfl) (fun h => by obtain ⟨rfl, rfl, rfl⟩ : c75 = true ∧ c79 = false ∧ c81 = true := (by simpa [and_assoc] using h); exact WC.load1 nx (0 + 2) (.slice a18 (F.fPairs.l.length) c19) (by kernel_rfl) T_agg26 hb67 (by rw [← hv20]; rfl) rfl) ?_
     refine ng rfl 82 (c75 && !c79 && c81) (.int .i64 (.ofNat iL32)) ((bif c75 && !c79 then .bool c81 else undef)) (by cases c75 <;> cases c79 <;> cases c81 <;> rfl) (fun h => by obtain ⟨rfl, rfl, rfl⟩ : c75 = true ∧ c79 = false ∧ c81 = true := (by simpa [and_assoc] using h); exact fun _ _ _ => by kernel_rfl) ?_
     refine ng rfl 82 (c75 && !c79 && c81) (.int .i64 (.ofNat (iL32 - 1))) ((bif c75 && !c79 then .bool c81 else undef)) (by cases c75 <;> cases c79 <;> cases c81 <;> rfl) (fun h => by obtain ⟨rfl, rfl, rfl⟩ : c75 = true ∧ c79 = false ∧ c81 = true := (by simpa [and_assoc] using h); have q0 := (p75).1 rfl; have q1 := nf p79; have q2 := (p81).1 rfl; exact fun _ _ _ => by rw [← wrapSub (show iL32 < 9223372036854775808 by omega) (by omega)]; kernel_rfl) ?_
     have hlt82 : (c75 && !c79 && c81) = true → iL32 - 1 < F.fPairs.l.length := fun h => by obtain ⟨rfl, rfl, rfl⟩ : c75 = true ∧ c79 = false ∧ c81 = true := (by simpa [and_assoc] using h); have q0 := (p75).1 rfl; have q1 : ¬ ((x47.fA) < (x77.fA)) := (fun k => absurd ((p79).2 k) (by decide)); have q2 := (p81).1 rfl; omega
     refine ngc rfl 82 (c75 && !c79 && c81) (.pointer (some ⟨(blk a18), 0 + (iL32 - 1) * 2, none⟩)) ((bif c75 && !c79 then .bool c81 else undef)) (by cases c75 <;> cases c79 <;> cases c81 <;> rfl) (fun h => by obtain ⟨rfl, rfl, rfl⟩ : c75 = true ∧ c79 = false ∧ c81 = true := (by simpa [and_assoc] using h); exact WC.ix (k := .i64) a18 (F.fPairs.l.length) c19 (iL32 - 1) 2 (by kernel_rfl) (by kernel_rfl) T_und26 T_size67 ((hF.fPairs.mono hE65 le59).blkA hv20 (zl ((hlt82 rfl)))) ((hlt82 rfl)) rfl) ?_
     refine ng rfl 82 (c75 && !c79 && c81) (.pointer (some ⟨(blk a18), 0 + (iL32 - 1) * 2 + 1, none⟩)) ((bif c75 && !c79 then .bool c81 else undef)) (by cases c75 <;> cases c79 <;> cases c81 <;> rfl) (fun h => by obtain ⟨rfl, rfl, rfl⟩ : c75 = true ∧ c79 = false ∧ c81 = true := (by simpa [and_assoc] using h); exact fun _ _ _ => by kernel_rfl) ?_
     refine ngc rfl 82 (c75 && !c79 && c81) (.int .i64 (x77.fB)) ((bif c75 && !c79 then .bool c81 else undef)) (by cases c75 <;> cases c79 <;> cases c81 <;> rfl) (fun h => by obtain ⟨rfl, rfl, rfl⟩ : c75 = true ∧ c79 = false ∧ c81 = true := (by simpa [and_assoc] using h); exact WC.load1E (blk a18) (0 + (iL32 - 1) * 2 + 1) (.int .i64 (x77.fB)) (by kernel_rfl) T_agg3 ((hF.fPairs.mono hE65 le59).blkB hv20 (zl ((hlt82 rfl)))) (flat_at (hF.fPairs.mono hE65 le59).1 (hx78 rfl) (by decide) rfl) rfl) ?_
     refine ng rfl 82 (c75 && !c79 && c81) (.pointer (some ⟨nx35, 0 + 1, none⟩)) ((bif c75 && !c79 then .bool c81 else undef)) (by cases c75 <;> cases c79 <;> cases c81 <;> rfl) (fun h => by obtain ⟨rfl, rfl, rfl⟩ : c75 = true ∧ c79 = false ∧ c81 = true := (by simpa [and_assoc] using h); exact fun _ _ _ => by kernel_rfl) ?_
     refine ngc rfl 82 (c75 && !c79 && c81) (.int .i64 (x47.fB)) ((bif c75 && !c79 then .bool c81 else undef)) (by cases c75 <;> cases c79 <;> cases c81 <;> rfl) (fun h => by obtain ⟨rfl, rfl, rfl⟩ : c75 = true ∧ c79 = false ∧ c81 = true := (by simpa [and_assoc] using h); exact WC.load1 nx35 (0 + 1) (.int .i64 (x47.fB)) (by kernel_rfl) T_agg3 hb63 rfl rfl) ?_
     obtain ⟨c83, e83, p83⟩ := @nb (leI (x47.fB) (x77.fB)) ((x47.fB) ≤ (x77.fB)) (leI_iff)
     refine ng rfl 82 (c75 && !c79 && c81) (.bool c83) ((bif c75 && !c79 then .bool c81 else undef)) (by cases c75 <;> cases c79 <;> cases c81 <;> rfl) (fun h => by obtain ⟨rfl, rfl, rfl⟩ : c75 = true ∧ c79 = false ∧ c81 = true := (by simpa [and_assoc] using h); exact fun _ _ _ => by subst e83; kernel_rfl) ?_
     obtain ⟨c84, e84, p84⟩ := @nb ((c81 && c83)) (((x77.fA) = (x47.fA)) ∧ ((x47.fB) ≤ (x77.fB))) (by rw [Bool.and_eq_true, p81, p83])
     refine ngc rfl 71 (c75 && !c79) (.bool c84) ((bif c75 then .bool c79 else undef)) (by cases c75 <;> cases c79 <;> rfl) (fun h => by obtain ⟨rfl, rfl⟩ := bTF h; exact WC.opt (v := .bool c84) 93 (ePick (.bool c81) ((bif true && !false && c81 then .bool c83 else undef)) (.bool false)) (fun _ _ _ => by kernel_rfl) (by rw [e84]; exact ePick_and (fun h => by obtain rfl : c81 = true := h; rfl)) rfl) ?_
     obtain ⟨c85, e85, p85⟩ := @nb ((c79 || c84)) (((x47.fA) < (x77.fA)) ∨ (((x77.fA) = (x47.fA)) ∧ ((x47.fB) ≤ (x77.fB)))) (by rw [Bool.or_eq_true, p79, p84])
     refine ngc rfl 60 (c75) (.bool c85) (.bool c75) (by cases c75 <;> rfl) (fun h => by obtain rfl := h; exact WC.opt (v := .bool c85) 94 (ePick (.bool c79) (.bool true) ((bif true && !c79 then .bool c84 else undef))) (fun _ _ _ => by kernel_rfl) (by rw [e85]; exact ePick_or (fun h => by obtain rfl : c79 = false := h; rfl)) rfl) ?_
     obtain ⟨c86, e86, p86⟩ := @nb ((c75 && c85)) (((0) < ((iL32 : Nat) : Int)) ∧ (((x47.fA) < (x77.fA)) ∨ (((x77.fA) = (x47.fA)) ∧ ((x47.fB) ≤ (x77.fB))))) (by rw [Bool.and_eq_true, p75, p85])
     refine WN.consAt rfl (WC.opt (v := .bool c86) 95 (ePick (.bool c75) ((bif c75 then .bool c85 else undef)) (.bool false)) (fun _ _ _ => by kernel_rfl) (by rw [e86]; exact ePick_and (fun h => by obtain rfl : c75 = true := h; rfl)) ?_)
     refine WN.nil ⟨?_, ?_⟩
     ·
      refine cv (.int .i64 (.ofNat iL32)) (vEq_int ..) ?_
      refine cv (.bool c75) (vEq_bool 8 c75) ?_ (fun _ => by subst e75; kernel_rfl)
      refine cv (.bool c75) (vEq_bool 8 c75) ?_
      refine cg rfl 60 (c75) (.pointer (some ⟨nx, 0 + 2, none⟩)) (.bool c75) (by cases c75 <;> rfl) (fun h => by obtain rfl := h; exact chkV1 (.pointer (some ⟨nx, 0 + 2, none⟩)) (fun _ => by kernel_rfl) (vEq_ptr ..)) ?_
      refine cg rfl 60 (c75) (.slice a18 (F.fPairs.l.length) c19) (.bool c75) (by cases c75 <;> rfl) (fun h => by obtain rfl := h; exact chkO1 (.slice a18 (F.fPairs.l.length) c19) (eLoad ex.T hp60.get 26 (.pointer (some ⟨nx, 0 + 2, none⟩))) (fun _ => by kernel_rfl) (eLoad_one T_agg26 hb67 (by rw [← hv20]; rfl)) (hv20 ▸ hF.fPairs.eqSelf 8)) ?_
      refine cg rfl 60 (c75) (.int .i64 (.ofNat iL32)) (.bool c75) (by cases c75 <;> rfl) (fun h => by obtain rfl := h; exact chkV1 (.int .i64 (.ofNat iL32)) (fun _ => by kernel_rfl) (vEq_int ..)) ?_
      refine cg rfl 60 (c75) (.int .i64 (.ofNat (iL32 - 1))) (.bool c75) (by cases c75 <;> rfl) (fun h => by obtain rfl := h; have q0 := (p75).1 rfl; exact chkV1 (.int .i64 (.ofNat (iL32 - 1))) (fun _ => by rw [← wrapSub (show iL32 < 9223372036854775808 by omega) (by omega)]; kernel_rfl) (vEq_int ..)) ?_
      refine cg rfl 60 (c75) (.pointer (some ⟨(blk a18), 0 + (iL32 - 1) * 2, none⟩)) (.bool c75) (by cases c75 <;> rfl) (fun h => by obtain rfl := h; exact chkO1 (.pointer (some ⟨(blk a18), 0 + (iL32 - 1) * 2, none⟩)) (eIndexAddr ex.T 26 (.slice a18 (F.fPairs.l.length) c19) (.int .i64 (.ofNat (iL32 - 1)))) (fun _ => by kernel_rfl) (eIndexAddr_A (k := .i64) T_und26 T_size67 ((hF.fPairs.mono hE65 le59).blkA hv20 (zl ((hlt76 rfl)))) ((hlt76 rfl))) (vEq_ptr ..)) ?_
      refine cg rfl 60 (c75) (.pointer (some ⟨(blk a18), 0 + (iL32 - 1) * 2 + 0, none⟩)) (.bool c75) (by cases c75 <;> rfl) (fun h => by obtain rfl := h; exact chkV1 (.pointer (some ⟨(blk a18), 0 + (iL32 - 1) * 2 + 0, none⟩)) (fun _ => by kernel_rfl) (vEq_ptr ..)) ?_
      refine cg rfl 60 (c75) (.int .i64 (x77.fA)) (.bool c75) (by cases c75 <;> rfl) (fun h => by obtain rfl := h; exact chkO1 (.int .i64 (x77.fA)) (eLoad ex.T hp60.get 3 (.pointer (some ⟨(blk a18), 0 + (iL32 - 1) * 2 + 0, none⟩))) (fun _ => by kernel_rfl) (eLoad_oneE T_agg3 ((hF.fPairs.mono hE65 le59).blkB hv20 (zl ((hlt76 rfl)))) (flat_at (hF.fPairs.mono hE65 le59).1 (hx78 rfl) (by decide) rfl)) (vEq_int ..)) ?_
      refine cg rfl 60 (c75) (.pointer (some ⟨nx35, 0 + 0, none⟩)) (.bool c75) (by cases c75 <;> rfl) (fun h => by obtain rfl := h; exact chkV1 (.pointer (some ⟨nx35, 0 + 0, none⟩)) (fun _ => by kernel_rfl) (vEq_ptr ..)) ?_
      refine cg rfl 60 (c75) (.int .i64 (x47.fA)) (.bool c75) (by cases c75 <;> rfl) (fun h => by obtain rfl := h; exact chkO1 (.int .i64 (x47.fA)) (eLoad ex.T hp60.get 3 (.pointer (some ⟨nx35, 0 + 0, none⟩))) (fun _ => by kernel_rfl) (eLoad_one T_agg3 hb63 rfl) (vEq_int ..)) ?_
      refine cg rfl 60 (c75) (.bool c79) (.bool c75) (by cases c75 <;> rfl) (fun h => by obtain rfl := h; exact chkV1 (.bool c79) (fun _ => by subst e79; kernel_rfl) (vEq_bool 8 c79)) ?_
      refine cg rfl 60 (c75) (.bool c79) (.bool c75) (by cases c75 <;> rfl) (fun h => by obtain rfl := h; exact chkV1 (.bool c79) (fun _ => by kernel_rfl) (vEq_bool 8 c79)) ?_
      refine cg rfl 71 (c75 && !c79) (.pointer (some ⟨nx, 0 + 2, none⟩)) ((bif c75 then .bool c79 else undef)) (by cases c75 <;> cases c79 <;> rfl) (fun h => by obtain ⟨rfl, rfl⟩ := bTF h; exact chkV1 (.pointer (some ⟨nx, 0 + 2, none⟩)) (fun _ => by kernel_rfl) (vEq_ptr ..)) ?_
      refine cg rfl 71 (c75 && !c79) (.slice a18 (F.fPairs.l.length) c19) ((bif c75 then .bool c79 else undef)) (by cases c75 <;> cases c79 <;> rfl) (fun h => by obtain ⟨rfl, rfl⟩ := bTF h; exact chkO1 (.slice a18 (F.fPairs.l.length) c19) (eLoad ex.T hp60.get 26 (.pointer (some ⟨nx, 0 + 2, none⟩))) (fun _ => by kernel_rfl) (eLoad_one T_agg26 hb67 (by rw [← hv20]; rfl)) (hv20 ▸ hF.fPairs.eqSelf 8)) ?_
      refine cg rfl 71 (c75 && !c79) (.int .i64 (.ofNat iL32)) ((bif c75 then .bool c79 else undef)) (by cases c75 <;> cases c79 <;> rfl) (fun h => by obtain ⟨rfl, rfl⟩ := bTF h; exact chkV1 (.int .i64 (.ofNat iL32)) (fun _ => by kernel_rfl) (vEq_int ..)) ?_
      refine cg rfl 71 (c75 && !c79) (.int .i64 (.ofNat (iL32 - 1))) ((bif c75 then .bool c79 else undef)) (by cases c75 <;> cases c79 <;> rfl) (fun h => by obtain ⟨rfl, rfl⟩ := bTF h; have q0 := (p75).1 rfl; have q1 := nf p79; exact chkV1 (.int .i64 (.ofNat (iL32 - 1))) (fun _ => by rw [← wrapSub (show iL32 < 9223372036854775808 by omega) (by omega)]; kernel_rfl) (vEq_int ..)) ?_
      refine cg rfl 71 (c75 && !c79) (.pointer (some ⟨(blk a18), 0 + (iL32 - 1) * 2, none⟩)) ((bif c75 then .bool c79 else undef)) (by cases c75 <;> cases c79 <;> rfl) (fun h => by obtain ⟨rfl, rfl⟩ := bTF h; exact chkO1 (.pointer (some ⟨(blk a18), 0 + (iL32 - 1) * 2, none⟩)) (eIndexAddr ex.T 26 (.slice a18 (F.fPairs.l.length) c19) (.int .i64 (.ofNat (iL32 - 1)))) (fun _ => by kernel_rfl) (eIndexAddr_A (k := .i64) T_und26 T_size67 ((hF.fPairs.mono hE65 le59).blkA hv20 (zl ((hlt80 rfl)))) ((hlt80 rfl))) (vEq_ptr ..)) ?_
      refine cg rfl 71 (c75 && !c79) (.pointer (some ⟨(blk a18), 0 + (iL32 - 1) * 2 + 0, none⟩)) ((bif c75 then .bool c79 else undef)) (by cases c75 <;> cases c79 <;> rfl) (fun h => by obtain ⟨rfl, rfl⟩ := bTF h; exact chkV1 (.pointer (some ⟨(blk a18), 0 + (iL32 - 1) * 2 + 0, none⟩)) (fun _ => by kernel_rfl) (vEq_ptr ..)) ?_
      refine cg rfl 71 (c75 && !c79) (.int .i64 (x77.fA)) ((bif c75 then .bool c79 else undef)) (by cases c75 <;> cases c79 <;> rfl) (fun h => by obtain ⟨rfl, rfl⟩ := bTF h; exact chkO1 (.int .i64 (x77.fA)) (eLoad ex.T hp60.get 3 (.pointer (some ⟨(blk a18), 0 + (iL32 - 1) * 2 + 0, none⟩))) (fun _ => by kernel_rfl) (eLoad_oneE T_agg3 ((hF.fPairs.mono hE65 le59).blkB hv20 (zl ((hlt80 rfl)))) (flat_at (hF.fPairs.mono hE65 le59).1 (hx78 rfl) (by decide) rfl)) (vEq_int ..)) ?_
      refine cg rfl 71 (c75 && !c79) (.pointer (some ⟨nx35, 0 + 0, none⟩)) ((bif c75 then .bool c79 else undef)) (by cases c75 <;> cases c79 <;> rfl) (fun h => by obtain ⟨rfl, rfl⟩ := bTF h; exact chkV1 (.pointer (some ⟨nx35, 0 + 0, none⟩)) (fun _ => by kernel_rfl) (vEq_ptr ..)) ?_
      refine cg rfl 71 (c75 && !c79) (.int .i64 (x47.fA)) ((bif c75 then .bool c79 else undef)) (by cases c75 <;> cases c79 <;> rfl) (fun h => by obtain ⟨rfl, rfl⟩ := bTF h; exact chkO1 (.int .i64 (x47.fA)) (eLoad ex.T hp60.get 3 (.pointer (some ⟨nx35, 0 + 0, none⟩))) (fun _ => by kernel_rfl) (eLoad_one T_agg3 hb63 rfl) (vEq_int ..)) ?_
      refine cg rfl 71 (c75 && !c79) (.bool c81) ((bif c75 then .bool c79 else undef)) (by cases c75 <;> cases c79 <;> rfl) (fun h => by obtain ⟨rfl, rfl⟩ := bTF h; exact chkV1 (.bool c81) (fun _ => by subst e81; kernel_rfl) (vEq_bool 8 c81)) ?_
      refine cg rfl 71 (c75 && !c79) (.bool c81) ((bif c75 then .bool c79 else undef)) (by cases c75 <;> cases c79 <;> rfl) (fun h => by obtain ⟨rfl, rfl⟩ := bTF h; exact chkV1 (.bool c81) (fun _ => by kernel_rfl) (vEq_bool 8 c81)) ?_
      refine cg rfl 82 (c75 && !c79 && c81) (.pointer (some ⟨nx, 0 + 2, none⟩)) ((bif c75 && !c79 then .bool c81 else undef)) (by cases c75 <;> cases c79 <;> cases c81 <;> rfl) (fun h => by obtain ⟨rfl, rfl, rfl⟩ : c75 = true ∧ c79 = false ∧ c81 = true := (by simpa [and_assoc] using h); exact chkV1 (.pointer (some ⟨nx, 0 + 2, none⟩)) (fun _ => by kernel_rfl) (vEq_ptr ..)) ?_
      refine cg rfl 82 (c75 && !c79 && c81) (.slice a18 (F.fPairs.l.length) c19) ((bif c75 && !c79 then .bool c81 else undef)) (by cases c75 <;> cases c79 <;> cases c81 <;> rfl) (fun h => by obtain ⟨rfl, rfl, rfl⟩ : c75 = true ∧ c79 = false ∧ c81 = true := (by simpa [and_assoc] using h); exact chkO1 (.slice a18 (F.fPairs.l.length) c19) (eLoad ex.T hp60.get 26 (.pointer (some ⟨nx, 0 + 2, none⟩))) (fun _ => by kernel_rfl) (eLoad_one T_agg26 hb67 (by rw [← hv20]; rfl)) (hv20 ▸ hF.fPairs.eqSelf 8)) ?_
      refine cg rfl 82 (c75 && !c79 && c81) (.int .i64 (.ofNat iL32)) ((bif c75 && !c79 then .bool c81 else undef)) (by cases c75 <;> cases c79 <;> cases c81 <;> rfl) (fun h => by obtain ⟨rfl, rfl, rfl⟩ : c75 = true ∧ c79 = false ∧ c81 = true := (by simpa [and_assoc] using h); exact chkV1 (.int .i64 (.ofNat iL32)) (fun _ => by kernel_rfl) (vEq_int ..)) ?_
      refine cg rfl 82 (c75 && !c79 && c81) (.int .i64 (.ofNat (iL32 - 1))) ((bif c75 && !c79 then .bool c81 else undef)) (by cases c75 <;> cases c79 <;> cases c81 <;> rfl) (fun h => by obtain ⟨rfl, rfl, rfl⟩ : c75 = true ∧ c79 = false ∧ c81 = true := (by simpa [and_assoc] using h); have q0 := (p75).1 rfl; have q1 := nf p79; have q2 := (p81).1 rfl; exact chkV1 (.int .i64 (.ofNat (iL32 - 1))) (fun _ => by rw [← wrapSub (show iL32 < 9223372036854775808 by omega) (by omega)]; kernel_rfl) (vEq_int ..)) ?_
      refine cg rfl 82 (c75 && !c79 && c81) (.pointer (some ⟨(blk a18), 0 + (iL32 - 1) * 2, none⟩)) ((bif c75 && !c79 then .bool c81 else undef)) (by cases c75 <;> cases c79 <;> cases c81 <;> rfl) (fun h => by obtain ⟨rfl, rfl, rfl⟩ : c75 = true ∧ c79 = false ∧ c81 = true := (by simpa [and_assoc] using h); exact chkO1 (.pointer (some ⟨(blk a18), 0 + (iL32 - 1) * 2, none⟩)) (eIndexAddr ex.T 26 (.slice a18 (F.fPairs.l.length) c19) (.int .i64 (.ofNat (iL32 - 1)))) (fun _ => by kernel_rfl) (eIndexAddr_A (k := .i64) T_und26 T_size67 ((hF.fPairs.mono hE65 le59).blkA hv20 (zl ((hlt82 rfl)))) ((hlt82 rfl))) (vEq_ptr ..)) ?_
      refine cg rfl 82 (c75 && !c79 && c81) (.pointer (some ⟨(blk a18), 0 + (iL32 - 1) * 2 + 1, none⟩)) ((bif c75 && !c79 then .bool c81 else undef)) (by cases c75 <;> cases c79 <;> cases c81 <;> rfl) (fun h => by obtain ⟨rfl, rfl, rfl⟩ : c75 = true ∧ c79 = false ∧ c81 = true := (by simpa [and_assoc] using h); exact chkV1 (.pointer (some ⟨(blk a18), 0 + (iL32 - 1) * 2 + 1, none⟩)) (fun _ => by kernel_rfl) (vEq_ptr ..)) ?_
      refine cg rfl 82 (c75 && !c79 && c81) (.int .i64 (x77.fB)) ((bif c75 && !c79 then .bool c81 else undef)) (by cases c75 <;> cases c79 <;> cases c81 <;> rfl) (fun h => by obtain ⟨rfl, rfl, rfl⟩ : c75 = true ∧ c79 = false ∧ c81 = true := (by simpa [and_assoc] using h); exact chkO1 (.int .i64 (x77.fB)) (eLoad ex.T hp60.get 3 (.pointer (some ⟨(blk a18), 0 + (iL32 - 1) * 2 + 1, none⟩))) (fun _ => by kernel_rfl) (eLoad_oneE T_agg3 ((hF.fPairs.mono hE65 le59).blkB hv20 (zl ((hlt82 rfl)))) (flat_at (hF.fPairs.mono hE65 le59).1 (hx78 rfl) (by decide) rfl)) (vEq_int ..)) ?_
      refine cg rfl 82 (c75 && !c79 && c81) (.pointer (some ⟨nx35, 0 + 1, none⟩)) ((bif c75 && !c79 then .bool c81 else undef)) (by cases c75 <;> cases c79 <;> cases c81 <;> rfl) (fun h => by obtain ⟨rfl, rfl, rfl⟩ : c75 = true ∧ c79 = false ∧ c81 = true := (by simpa [and_assoc] using h); exact chkV1 (.pointer (some ⟨nx35, 0 + 1, none⟩)) (fun _ => by kernel_rfl) (vEq_ptr ..)) ?_
      refine cg rfl 82 (c75 && !c79 && c81) (.int .i64 (x47.fB)) ((bif c75 && !c79 then .bool c81 else undef)) (by cases c75 <;> cases c79 <;> cases c81 <;> rfl) (fun h => by obtain ⟨rfl, rfl, rfl⟩ : c75 = true ∧ c79 = false ∧ c81 = true := (by simpa [and_assoc] using h); exact chkO1 (.int .i64 (x47.fB)) (eLoad ex.T hp60.get 3 (.pointer (some ⟨nx35, 0 + 1, none⟩))) (fun _ => by kernel_rfl) (eLoad_one T_agg3 hb63 rfl) (vEq_int ..)) ?_
      refine cg rfl 82 (c75 && !c79 && c81) (.bool c83) ((bif c75 && !c79 then .bool c81 else undef)) (by cases c75 <;> cases c79 <;> cases c81 <;> rfl) (fun h => by obtain ⟨rfl, rfl, rfl⟩ : c75 = true ∧ c79 = false ∧ c81 = true := (by simpa [and_assoc] using h); exact chkV1 (.bool c83) (fun _ => by subst e83; kernel_rfl) (vEq_bool 8 c83)) ?_
      refine cg rfl 71 (c75 && !c79) (.bool c84) ((bif c75 then .bool c79 else undef)) (by cases c75 <;> cases c79 <;> rfl) (fun h => by obtain ⟨rfl, rfl⟩ := bTF h; exact chkO1 (.bool c84) (ePick (.bool c81) ((bif true && !false && c81 then .bool c83 else undef)) (.bool false)) (fun _ => by kernel_rfl) ((by rw [e84]; exact ePick_and (fun h => by obtain rfl : c81 = true := h; rfl))) (vEq_bool 8 c84)) ?_
      refine cg rfl 60 (c75) (.bool c85) (.bool c75) (by cases c75 <;> rfl) (fun h => by obtain rfl := h; exact chkO1 (.bool c85) (ePick (.bool c79) (.bool true) ((bif true && !c79 then .bool c84 else undef))) (fun _ => by kernel_rfl) ((by rw [e85]; exact ePick_or (fun h => by obtain rfl : c79 = false := h; rfl))) (vEq_bool 8 c85)) ?_
      refine co (.bool c86) (ePick (.bool c75) ((bif c75 then .bool c85 else undef)) (.bool false)) ((by rw [e86]; exact ePick_and (fun h => by obtain rfl : c75 = true := h; rfl))) (vEq_bool 8 c86) ?_
      exact Chks.nil
     refine WP.cond c86 (by kernel_rfl) (fun h87 => ?_) (fun h87 => ?_)
     ·
      have q88 := (p86).1 h87
      refine sr ?_
      refine ov 2 (.int .i64 (240)) ?_
      refine WO.nil ?_
      refine WP.ret ⟨rfl, rfl, [.int .i64 (240)], by kernel_rfl, ?_⟩
      refine ⟨⟨240, rfl, ⟨fun h => absurd h (by decide), fun hok => ?_⟩, .inr rfl⟩, le59, hE65⟩
      obtain ⟨⟨h1, h2, h3⟩, h4⟩ := hok.pair _ _ hx48
      have h0 : 0 < iL32 := by omega
      have hh := h4 h0 _ (hx78p (by omega)); omega
     ·
      have q88 := nq p86 h87
      refine WP.skip ?_
      refine WP.region ?_
      refine ov 36 (.int .i64 (.ofNat iL32)) ?_
      refine ov 37 (.int .i64 (.ofNat (iL32 + 1))) ?_ (fun _ _ _ => by rw [← wrapAdd (show iL32 + 1 < 9223372036854775808 by omega)]; kernel_rfl)
      refine ov 3 (.int .i64 (.ofNat (iL32 + 1))) ?_
      refine WO.nil ?_
      refine ⟨F.fPairs.l.length - (iL32 + 1), by omega, iL32 + 1, by omega, by kernel_rfl, by kernel_rfl, rfl, rfl, ?_, ?_, ?_⟩
      · exact rl58
      · exact hr66
      · intro j p' hj hs
        rcases Nat.lt_succ_iff_lt_or_eq.1 hj with hj | rfl
        · exact hpair j p' hj hs
        · rw [hx48] at hs; cases hs
          refine ⟨by omega, fun h0 q' hq' => ?_⟩
          have h3 := hx78p (by omega)
          rw [h3] at hq'; cases hq'
          have h4 : ¬ (_) := fun k => q88 ⟨by omega, k⟩
          omega
   ·
    have q45 := nq p43 h44
    refine WP.exit ?_
    refine WP.seq ?_
    refine sr ?_
    refine ov 5 (.int .i64 (0)) ?_
    refine WO.nil ?_
    refine WP.block ?_
    have hj90 : ∀ t : Tm, ((t.set 1 (t.get 1)).set 5 (t.get 5)) = t := fun t => by kernel_rfl
    refine WP.loop (fun m s => ∃ (iL89 : Nat), iL89 + m = F.fRunners.l.length ∧ s.to.get 1 = .pointer (some ⟨nx, 0, none⟩) ∧ s.to.get 5 = .int .i64 (.ofNat iL89) ∧ s.ds = [] ∧ s.cs = [] ∧ nx35 ≤ s.nx ∧ HE (nx35) hp34 s.hp ∧ (∀ (j : Nat) (r : RRunner), j < iL89 → F.fRunners.l[j]? = some r → (((1 ≤ r.fBib ∧ r.fBib ≤ 9999) ∧ (0 < j → ∀ q, F.fRunners.l[j - 1]? = some q → q.fBib < r.fBib)) ∧ (∀ q, F.fRunners.l[0]? = some q → r.fKeys.l.length = q.fKeys.l.length) ∧ r.fWorlds.l.length = F.fPairs.l.length + 1) ∧ ∀ o ∈ r.fWorlds.l, ∀ x ∈ o.l, OutcomeOk F.fClocks x)) ?_ (F.fRunners.l.length) ?_
    ·
     rintro mL89 ⟨toL89, dsL89, hp91, nx92, csL89⟩ ⟨iL89, him93, gL89_1, gL89_5, hdsL89, hcsL89, hn94, he95, hrun⟩
     simp only at gL89_1 gL89_5 hdsL89 hcsL89 hn94 he95 hrun
     subst hdsL89 hcsL89
     rw [← hj90 toL89, gL89_1, gL89_5]
     clear gL89_1 gL89_5
     have hE96 := hE39.trans he95 le42
     have hb97 := he95.get hb40 lt41
     have lt98 := Nat.lt_of_lt_of_le lt41 hn94
     have le99 := Nat.le_trans le42 hn94
     refine WP.seq ?_
     refine sr ?_
     refine ov 96 (.int .i64 (.ofNat iL89)) ?_
     refine ov 97 (.pointer (some ⟨nx, 0 + 3, none⟩)) ?_
     refine WO.cons (WC.load1 nx (0 + 3) (.slice a23 (F.fRunners.l.length) c24) (by kernel_rfl) T_agg27 hb97 (by rw [← hv25]; rfl) ?_)
     refine ov 99 (.int .i64 (.ofNat (F.fRunners.l.length))) ?_
     obtain ⟨c100, e100, p100⟩ := @nb (ltI (.ofNat iL89) (.ofNat (F.fRunners.l.length))) (((iL89 : Nat) : Int) < ((F.fRunners.l.length : Nat) : Int)) (ltI_iff)
     refine ov 100 (.bool c100) ?_ (fun _ _ _ => by subst e100; kernel_rfl)
     refine WO.nil ?_
     refine WP.cond c100 (by kernel_rfl) (fun h101 => ?_) (fun h101 => ?_)
     ·
      have q102 := (p100).1 h101
      refine WP.skip ?_
      refine WP.seq ?_
      refine WP.block ?_
      refine sr ?_
      refine ov 103 (.pointer (some ⟨nx, 0 + 3, none⟩)) ?_
      refine WO.cons (WC.load1 nx (0 + 3) (.slice a23 (F.fRunners.l.length) c24) (by kernel_rfl) T_agg27 hb97 (by rw [← hv25]; rfl) ?_)
      refine ov 105 (.int .i64 (.ofNat iL89)) ?_
      have hlt103 : iL89 < F.fRunners.l.length := by omega
      refine WO.cons (WC.ix (k := .i64) a23 (F.fRunners.l.length) c24 (iL89) 3 (by kernel_rfl) (by kernel_rfl) T_und27 T_size43 ((hF.fRunners.1.mono hE96 le99).blkA hv25 (zl hlt103)) (hlt103) ?_)
      obtain ⟨x104, hx105⟩ : ∃ el_, F.fRunners.l[iL89]? = some el_ := ⟨_, List.getElem?_eq_getElem (hlt103)⟩
      refine WO.cons (WC.loadSE (blk a23) (0 + (iL89) * 3) (encRunner x104) (by kernel_rfl) T_agg43 T_size43 ((hF.fRunners.1.mono hE96 le99).blkB hv25 (zl hlt103)) (flat_at0 (hF.fRunners.1.mono hE96 le99).1 hx105) ?_)
      refine WO.cons (WC.alloc _ [.int .i64 (0), .slice none (0) 0, .slice none (0) 0] rfl T_zero43 rfl ?_)
      obtain ⟨hp107, hx108, he109, hb110⟩ := boxed hp91 (nx92) [.int .i64 (0), .slice none (0) 0, .slice none (0) 0]
      rw [hx108]; clear hx108
      have hE111 := hE96.trans he109 le99
      have hb112 := he109.get hb97 lt98
      have lt113 := Nat.lt_of_lt_of_le lt98 (Nat.le_succ (nx92))
      have hr114 := he95.trans he109 hn94
      have rl115 := Nat.le_trans hn94 (Nat.le_succ (nx92))
      have le116 := Nat.le_trans le99 (Nat.le_succ (nx92))
      refine WO.cons (WC.store1 nx92 (0) (.agg (encRunner x104).toArray) [.int .i64 (0), .slice none (0) 0, .slice none (0) 0] (encRunner x104) (encRunner x104) 3 rfl (by kernel_rfl) (by kernel_rfl) T_size43 rfl (Bool.and_eq_true_iff.2 ⟨rfl, encRunner_one _ (hF.fRunners.2 x104 (List.mem_of_getElem? hx105))⟩) hb110 rfl rfl rfl ?_)
      obtain ⟨hp117, hx118, he119, hb120, ho121⟩ := stored hp107 nx92 (.cells (encRunner x104) CMeta.plain)
      rw [hx118]; clear hx118
      have hE122 := hE111.trans he119 (by omega)
      have hr123 := hr114.trans he119 (by omega)
      have hb124 := (ho121 nx (by omega)).trans hb112
      refine WO.nil ?_
      refine WP.seq ?_
      refine WP.seq ?_
      refine WP.drawS [⟨[0, 1], [0, 1], some 2⟩, ⟨[3, 4, 5, 6, 7, 8, 9, 10, 11, 12, 13, 14, 15, 16, 17, 18, 19, 20, 21, 22, 23, 24, 25, 26, 27, 28, 29, 30, 31, 32, 33, 34, 35, 36, 37, 38, 39, 40, 41], [3, 4, 5, 6, 7, 8, 9, 10, 11, 12, 13, 14, 15, 16, 17, 18, 19, 20, 21, 22, 23, 24, 25, 26, 27, 28, 29, 30, 31, 32, 33, 34, 35, 36, 37, 38, 39, 40, 41], none⟩] (by kernel_rfl) _ rfl ?_
      refine WD.eff ?_
      refine nv 108 (.pointer (some ⟨nx92, 0 + 0, none⟩)) ?_
      refine WN.consAt rfl (WC.load1 nx92 (0 + 0) (.int .i64 (x104.fBib)) (by kernel_rfl) T_agg3 hb120 rfl ?_)
      refine WN.nil ⟨?_, ?_⟩
      ·
       refine cv (.pointer (some ⟨nx92, 0 + 0, none⟩)) (vEq_ptr ..) ?_
       refine co (.int .i64 (x104.fBib)) (eLoad ex.T hp117.get 3 (.pointer (some ⟨nx92, 0 + 0, none⟩))) (eLoad_one T_agg3 hb120 rfl) (vEq_int ..) ?_
       exact Chks.nil
      refine WC.at rfl (WC.call 110 33 ([.int .i64 (x104.fBib)]) (fun _ _ _ => by kernel_rfl) ((bib12_wf (x104.fBib) hp117 (nx92 + 1)).mono ?_))
      rintro _ hp125 nx126 ⟨⟨c129, rfl, p129⟩, hn127, he128⟩
      have hE130 := hE122.trans he128 le116
      have hb131 := he128.get hb124 lt113
      have lt132 := Nat.lt_of_lt_of_le lt113 hn127
      have hb133 := he128.get hb120 (Nat.lt_succ_self (nx92))
      have lt134 := Nat.lt_of_lt_of_le (Nat.lt_succ_self (nx92)) hn127
      have hr135 := hr123.trans he128 rl115
      have rl136 := Nat.le_trans rl115 hn127
      have le137 := Nat.le_trans le116 hn127
      refine WD.last ?_
      obtain ⟨c138, e138, p138⟩ := @nb (!c129) (¬ (1 ≤ (x104.fBib) ∧ (x104.fBib) ≤ 9999)) (by rw [Bool.not_eq_true', ← Bool.not_eq_true, p129])
      refine nv 111 (.bool c138) ?_ (fun _ _ _ => by subst e138; kernel_rfl)
      refine nv 112 (.bool c138) ?_
      refine ng rfl 112 (!c138) (.int .i64 (.ofNat iL89)) (.bool c138) (by cases c138 <;> rfl) (fun h => by obtain rfl := bF h; exact fun _ _ _ => by kernel_rfl) ?_
      obtain ⟨c139, e139, p139⟩ := @nb (ltI (0) (.ofNat iL89)) ((0) < ((iL89 : Nat) : Int)) (ltI_iff)
      refine ng rfl 112 (!c138) (.bool c139) (.bool c138) (by cases c138 <;> rfl) (fun h => by obtain rfl := bF h; exact fun _ _ _ => by subst e139; kernel_rfl) ?_
      refine ng rfl 112 (!c138) (.bool c139) (.bool c138) (by cases c138 <;> rfl) (fun h => by obtain rfl := bF h; exact fun _ _ _ => by kernel_rfl) ?_
      refine ng rfl 115 (!c138 && c139) (.pointer (some ⟨nx, 0 + 3, none⟩)) ((bif !c138 then .bool c139 else undef)) (by cases c138 <;> cases c139 <;> rfl) (fun h => by obtain ⟨rfl, rfl⟩ := bFT h; exact fun _ _ _ => by kernel_rfl) ?_
      refine ngc rfl 115 (!c138 && c139) (.slice a23 (F.fRunners.l.length) c24) ((bif !c138 then .bool c139 else undef)) (by cases c138 <;> cases c139 <;> rfl) (fun h => by obtain ⟨rfl, rfl⟩ := bFT h; exact WC.load1 nx (0 + 3) (.slice a23 (F.fRunners.l.length) c24) (by kernel_rfl) T_agg27 hb131 (by rw [← hv25]; rfl) rfl) ?_
      refine ng rfl 115 (!c138 && c139) (.int .i64 (.ofNat iL89)) ((bif !c138 then .bool c139 else undef)) (by cases c138 <;> cases c139 <;> rfl) (fun h => by obtain ⟨rfl, rfl⟩ := bFT h; exact fun _ _ _ => by kernel_rfl) ?_
      refine ng rfl 115 (!c138 && c139) (.int .i64 (.ofNat (iL89 - 1))) ((bif !c138 then .bool c139 else undef)) (by cases c138 <;> cases c139 <;> rfl) (fun h => by obtain ⟨rfl, rfl⟩ := bFT h; have q0 := nf p138; have q1 := (p139).1 rfl; exact fun _ _ _ => by rw [← wrapSub (show iL89 < 9223372036854775808 by omega) (by omega)]; kernel_rfl) ?_
      have hlt140 : (!c138 && c139) = true → iL89 - 1 < F.fRunners.l.length := fun h => by obtain ⟨rfl, rfl⟩ : c138 = false ∧ c139 = true := (by simpa [and_assoc] using h); have q0 : ¬ (¬ (1 ≤ (x104.fBib) ∧ (x104.fBib) ≤ 9999)) := (fun k => absurd ((p138).2 k) (by decide)); have q1 := (p139).1 rfl; omega
      refine ngc rfl 115 (!c138 && c139) (.pointer (some ⟨(blk a23), 0 + (iL89 - 1) * 3, none⟩)) ((bif !c138 then .bool c139 else undef)) (by cases c138 <;> cases c139 <;> rfl) (fun h => by obtain ⟨rfl, rfl⟩ := bFT h; exact WC.ix (k := .i64) a23 (F.fRunners.l.length) c24 (iL89 - 1) 3 (by kernel_rfl) (by kernel_rfl) T_und27 T_size43 ((hF.fRunners.1.mono hE130 le137).blkA hv25 (zl ((hlt140 rfl)))) ((hlt140 rfl)) rfl) ?_
      refine ng rfl 115 (!c138 && c139) (.pointer (some ⟨(blk a23), 0 + (iL89 - 1) * 3 + 0, none⟩)) ((bif !c138 then .bool c139 else undef)) (by cases c138 <;> cases c139 <;> rfl) (fun h => by obtain ⟨rfl, rfl⟩ := bFT h; exact fun _ _ _ => by kernel_rfl) ?_
      obtain ⟨x141, hx142⟩ : ∃ el_, (!c138 && c139) = true → F.fRunners.l[iL89 - 1]? = some el_ := ⟨(F.fRunners.l[iL89 - 1]?).getD default, fun h => by rw [List.getElem?_eq_getElem (by obtain ⟨rfl, rfl⟩ : c138 = false ∧ c139 = true := (by simpa [and_assoc] using h); exact (hlt140 rfl))]; rfl⟩
      have hx142p := fun (a0 : ¬ (¬ (1 ≤ (x104.fBib) ∧ (x104.fBib) ≤ 9999))) (a1 : ((0) < ((iL89 : Nat) : Int))) => hx142 (by first | (rw [show c138 = false from Bool.eq_false_iff.2 (fun k => a0 ((p138).1 k)), show c139 = true from (p139).2 a1]; rfl) | rw [show c138 = false from Bool.eq_false_iff.2 (fun k => a0 ((p138).1 k)), show c139 = true from (p139).2 a1])
      refine ngc rfl 115 (!c138 && c139) (.int .i64 (x141.fBib)) ((bif !c138 then .bool c139 else undef)) (by cases c138 <;> cases c139 <;> rfl) (fun h => by obtain ⟨rfl, rfl⟩ := bFT h; exact WC.load1E (blk a23) (0 + (iL89 - 1) * 3 + 0) (.int .i64 (x141.fBib)) (by kernel_rfl) T_agg3 ((hF.fRunners.1.mono hE130 le137).blkB hv25 (zl ((hlt140 rfl)))) (flat_at (hF.fRunners.1.mono hE130 le137).1 (hx142 rfl) (by decide) rfl) rfl) ?_
      refine ng rfl 115 (!c138 && c139) (.pointer (some ⟨nx92, 0 + 0, none⟩)) ((bif !c138 then .bool c139 else undef)) (by cases c138 <;> cases c139 <;> rfl) (fun h => by obtain ⟨rfl, rfl⟩ := bFT h; exact fun _ _ _ => by kernel_rfl) ?_
      refine ngc rfl 115 (!c138 && c139) (.int .i64 (x104.fBib)) ((bif !c138 then .bool c139 else undef)) (by cases c138 <;> cases c139 <;> rfl) (fun h => by obtain ⟨rfl, rfl⟩ := bFT h; exact WC.load1 nx92 (0 + 0) (.int .i64 (x104.fBib)) (by kernel_rfl) T_agg3 hb133 rfl rfl) ?_
      obtain ⟨c143, e143, p143⟩ := @nb (leI (x104.fBib) (x141.fBib)) ((x104.fBib) ≤ (x141.fBib)) (leI_iff)
      refine ng rfl 115 (!c138 && c139) (.bool c143) ((bif !c138 then .bool c139 else undef)) (by cases c138 <;> cases c139 <;> rfl) (fun h => by obtain ⟨rfl, rfl⟩ := bFT h; exact fun _ _ _ => by subst e143; kernel_rfl) ?_
      obtain ⟨c144, e144, p144⟩ := @nb ((c139 && c143)) (((0) < ((iL89 : Nat) : Int)) ∧ ((x104.fBib) ≤ (x141.fBib))) (by rw [Bool.and_eq_true, p139, p143])
      refine ngc rfl 112 (!c138) (.bool c144) (.bool c138) (by cases c138 <;> rfl) (fun h => by obtain rfl := bF h; exact WC.opt (v := .bool c144) 126 (ePick (.bool c139) ((bif !false && c139 then .bool c143 else undef)) (.bool false)) (fun _ _ _ => by kernel_rfl) (by rw [e144]; exact ePick_and (fun h => by obtain rfl : c139 = true := h; rfl)) rfl) ?_
      obtain ⟨c145, e145, p145⟩ := @nb ((c138 || c144)) ((¬ (1 ≤ (x104.fBib) ∧ (x104.fBib) ≤ 9999)) ∨ (((0) < ((iL89 : Nat) : Int)) ∧ ((x104.fBib) ≤ (x141.fBib)))) (by rw [Bool.or_eq_true, p138, p144])
      refine WN.consAt rfl (WC.opt (v := .bool c145) 127 (ePick (.bool c138) (.bool true) ((bif !c138 then .bool c144 else undef))) (fun _ _ _ => by kernel_rfl) (by rw [e145]; exact ePick_or (fun h => by obtain rfl : c138 = false := h; rfl)) ?_)
      refine nv 128 (.bool c145) ?_
      refine ng rfl 128 (!c145) (.pointer (some ⟨nx92, 0 + 1, none⟩)) (.bool c145) (by cases c145 <;> rfl) (fun h => by obtain rfl := bF h; exact fun _ _ _ => by kernel_rfl) ?_
      obtain ⟨a146, c147, hv148⟩ := (hF.fRunners.2 x104 (List.mem_of_getElem? hx105)).fKeys.shape
      have hsm148 := (hF.fRunners.2 x104 (List.mem_of_getElem? hx105)).fKeys.2.2
      refine ngc rfl 128 (!c145) (.slice a146 (x104.fKeys.l.length) c147) (.bool c145) (by cases c145 <;> rfl) (fun h => by obtain rfl := bF h; exact WC.load1 nx92 (0 + 1) (.slice a146 (x104.fKeys.l.length) c147) (by kernel_rfl) T_agg30 hb133 (by rw [← hv148]; rfl) rfl) ?_
      refine ng rfl 128 (!c145) (.int .i64 (.ofNat (x104.fKeys.l.length))) (.bool c145) (by cases c145 <;> rfl) (fun h => by obtain rfl := bF h; exact fun _ _ _ => by kernel_rfl) ?_
      refine ng rfl 128 (!c145) (.pointer (some ⟨nx, 0 + 3, none⟩)) (.bool c145) (by cases c145 <;> rfl) (fun h => by obtain rfl := bF h; exact fun _ _ _ => by kernel_rfl) ?_
      refine ngc rfl 128 (!c145) (.slice a23 (F.fRunners.l.length) c24) (.bool c145) (by cases c145 <;> rfl) (fun h => by obtain rfl := bF h; exact WC.load1 nx (0 + 3) (.slice a23 (F.fRunners.l.length) c24) (by kernel_rfl) T_agg27 hb131 (by rw [← hv25]; rfl) rfl) ?_
      have hlt149 : (!c145) = true → 0 < F.fRunners.l.length := fun h => by obtain rfl : c145 = false := (by simpa using h); have q0 : ¬ ((¬ (1 ≤ (x104.fBib) ∧ (x104.fBib) ≤ 9999)) ∨ (((0) < ((iL89 : Nat) : Int)) ∧ ((x104.fBib) ≤ (x141.fBib)))) := (fun k => absurd ((p145).2 k) (by decide)); omega
      refine ngc rfl 128 (!c145) (.pointer (some ⟨(blk a23), 0 + (0) * 3, none⟩)) (.bool c145) (by cases c145 <;> rfl) (fun h => by obtain rfl := bF h; exact WC.ix (k := .i64) a23 (F.fRunners.l.length) c24 (0) 3 (by kernel_rfl) (by kernel_rfl) T_und27 T_size43 ((hF.fRunners.1.mono hE130 le137).blkA hv25 (zl ((hlt149 rfl)))) ((hlt149 rfl)) rfl) ?_
      refine ng rfl 128 (!c145) (.pointer (some ⟨(blk a23), 0 + (0) * 3 + 1, none⟩)) (.bool c145) (by cases c145 <;> rfl) (fun h => by obtain rfl := bF h; exact fun _ _ _ => by kernel_rfl) ?_
      obtain ⟨x150, hx151⟩ : ∃ el_, F.fRunners.l[0]? = some el_ := ⟨_, List.getElem?_eq_getElem (by omega)⟩
      obtain ⟨a152, c153, hv154⟩ := (hF.fRunners.2 x150 (List.mem_of_getElem? hx151)).fKeys.shape
      have hsm154 := (hF.fRunners.2 x150 (List.mem_of_getElem? hx151)).fKeys.2.2
      refine ngc rfl 128 (!c145) (.slice a152 (x150.fKeys.l.length) c153) (.bool c145) (by cases c145 <;> rfl) (fun h => by obtain rfl := bF h; exact WC.load1E (blk a23) (0 + (0) * 3 + 1) (.slice a152 (x150.fKeys.l.length) c153) (by kernel_rfl) T_agg30 ((hF.fRunners.1.mono hE130 le137).blkB hv25 (zl ((hlt149 rfl)))) (flat_at (hF.fRunners.1.mono hE130 le137).1 hx151 (by decide) (by rw [← hv154]; rfl)) rfl) ?_
      refine ng rfl 128 (!c145) (.int .i64 (.ofNat (x150.fKeys.l.length))) (.bool c145) (by cases c145 <;> rfl) (fun h => by obtain rfl := bF h; exact fun _ _ _ => by kernel_rfl) ?_
      obtain ⟨c155, e155, p155⟩ := @nb ((!(eqI (.ofNat (x104.fKeys.l.length)) (.ofNat (x150.fKeys.l.length))))) (((x104.fKeys.l.length : Nat) : Int) ≠ ((x150.fKeys.l.length : Nat) : Int)) (neI_iff)
      refine ng rfl 128 (!c145) (.bool c155) (.bool c145) (by cases c145 <;> rfl) (fun h => by obtain rfl := bF h; exact fun _ _ _ => by subst e155; kernel_rfl) ?_
      obtain ⟨c156, e156, p156⟩ := @nb ((c145 || c155)) (((¬ (1 ≤ (x104.fBib) ∧ (x104.fBib) ≤ 9999)) ∨ (((0) < ((iL89 : Nat) : Int)) ∧ ((x104.fBib) ≤ (x141.fBib)))) ∨ (((x104.fKeys.l.length : Nat) : Int) ≠ ((x150.fKeys.l.length : Nat) : Int))) (by rw [Bool.or_eq_true, p145, p155])
      refine WN.consAt rfl (WC.opt (v := .bool c156) 139 (ePick (.bool c145) (.bool true) ((bif !c145 then .bool c155 else undef))) (fun _ _ _ => by kernel_rfl) (by rw [e156]; exact ePick_or (fun h => by obtain rfl : c145 = false := h; rfl)) ?_)
      refine nv 140 (.bool c156) ?_
      refine ng rfl 140 (!c156) (.pointer (some ⟨nx92, 0 + 2, none⟩)) (.bool c156) (by cases c156 <;> rfl) (fun h => by obtain rfl := bF h; exact fun _ _ _ => by kernel_rfl) ?_
      obtain ⟨a157, c158, hv159⟩ := (hF.fRunners.2 x104 (List.mem_of_getElem? hx105)).fWorlds.1.shape
      have hsm159 := (hF.fRunners.2 x104 (List.mem_of_getElem? hx105)).fWorlds.1.2.2
      refine ngc rfl 140 (!c156) (.slice a157 (x104.fWorlds.l.length) c158) (.bool c156) (by cases c156 <;> rfl) (fun h => by obtain rfl := bF h; exact WC.load1 nx92 (0 + 2) (.slice a157 (x104.fWorlds.l.length) c158) (by kernel_rfl) T_agg41 hb133 (by rw [← hv159]; rfl) rfl) ?_
      refine ng rfl 140 (!c156) (.int .i64 (.ofNat (x104.fWorlds.l.length))) (.bool c156) (by cases c156 <;> rfl) (fun h => by obtain rfl := bF h; exact fun _ _ _ => by kernel_rfl) ?_
      refine ng rfl 140 (!c156) (.pointer (some ⟨nx, 0 + 2, none⟩)) (.bool c156) (by cases c156 <;> rfl) (fun h => by obtain rfl := bF h; exact fun _ _ _ => by kernel_rfl) ?_
      refine ngc rfl 140 (!c156) (.slice a18 (F.fPairs.l.length) c19) (.bool c156) (by cases c156 <;> rfl) (fun h => by obtain rfl := bF h; exact WC.load1 nx (0 + 2) (.slice a18 (F.fPairs.l.length) c19) (by kernel_rfl) T_agg26 hb131 (by rw [← hv20]; rfl) rfl) ?_
      refine ng rfl 140 (!c156) (.int .i64 (.ofNat (F.fPairs.l.length))) (.bool c156) (by cases c156 <;> rfl) (fun h => by obtain rfl := bF h; exact fun _ _ _ => by kernel_rfl) ?_
      refine ng rfl 140 (!c156) (.int .i64 (.ofNat (F.fPairs.l.length + 1))) (.bool c156) (by cases c156 <;> rfl) (fun h => by obtain rfl := bF h; have q0 := nf p156; exact fun _ _ _ => by rw [← wrapAdd (show F.fPairs.l.length + 1 < 9223372036854775808 by omega)]; kernel_rfl) ?_
      obtain ⟨c160, e160, p160⟩ := @nb ((!(eqI (.ofNat (x104.fWorlds.l.length)) (.ofNat (F.fPairs.l.length + 1))))) (((x104.fWorlds.l.length : Nat) : Int) ≠ ((F.fPairs.l.length + 1 : Nat) : Int)) (neI_iff)
      refine ng rfl 140 (!c156) (.bool c160) (.bool c156) (by cases c156 <;> rfl) (fun h => by obtain rfl := bF h; exact fun _ _ _ => by subst e160; kernel_rfl) ?_
      obtain ⟨c161, e161, p161⟩ := @nb ((c156 || c160)) ((((¬ (1 ≤ (x104.fBib) ∧ (x104.fBib) ≤ 9999)) ∨ (((0) < ((iL89 : Nat) : Int)) ∧ ((x104.fBib) ≤ (x141.fBib)))) ∨ (((x104.fKeys.l.length : Nat) : Int) ≠ ((x150.fKeys.l.length : Nat) : Int))) ∨ (((x104.fWorlds.l.length : Nat) : Int) ≠ ((F.fPairs.l.length + 1 : Nat) : Int))) (by rw [Bool.or_eq_true, p156, p160])
      refine WN.consAt rfl (WC.opt (v := .bool c161) 149 (ePick (.bool c156) (.bool true) ((bif !c156 then .bool c160 else undef))) (fun _ _ _ => by kernel_rfl) (by rw [e161]; exact ePick_or (fun h => by obtain rfl : c156 = false := h; rfl)) ?_)
      refine WN.nil ⟨?_, ?_⟩
      ·
       refine cv (.bool c138) (vEq_bool 8 c138) ?_ (fun _ => by subst e138; kernel_rfl)
       refine cv (.bool c138) (vEq_bool 8 c138) ?_
       refine cg rfl 112 (!c138) (.int .i64 (.ofNat iL89)) (.bool c138) (by cases c138 <;> rfl) (fun h => by obtain rfl := bF h; exact chkV1 (.int .i64 (.ofNat iL89)) (fun _ => by kernel_rfl) (vEq_int ..)) ?_
       refine cg rfl 112 (!c138) (.bool c139) (.bool c138) (by cases c138 <;> rfl) (fun h => by obtain rfl := bF h; exact chkV1 (.bool c139) (fun _ => by subst e139; kernel_rfl) (vEq_bool 8 c139)) ?_
       refine cg rfl 112 (!c138) (.bool c139) (.bool c138) (by cases c138 <;> rfl) (fun h => by obtain rfl := bF h; exact chkV1 (.bool c139) (fun _ => by kernel_rfl) (vEq_bool 8 c139)) ?_
       refine cg rfl 115 (!c138 && c139) (.pointer (some ⟨nx, 0 + 3, none⟩)) ((bif !c138 then .bool c139 else undef)) (by cases c138 <;> cases c139 <;> rfl) (fun h => by obtain ⟨rfl, rfl⟩ := bFT h; exact chkV1 (.pointer (some ⟨nx, 0 + 3, none⟩)) (fun _ => by kernel_rfl) (vEq_ptr ..)) ?_
       refine cg rfl 115 (!c138 && c139) (.slice a23 (F.fRunners.l.length) c24) ((bif !c138 then .bool c139 else undef)) (by cases c138 <;> cases c139 <;> rfl) (fun h => by obtain ⟨rfl, rfl⟩ := bFT h; exact chkO1 (.slice a23 (F.fRunners.l.length) c24) (eLoad ex.T hp125.get 27 (.pointer (some ⟨nx, 0 + 3, none⟩))) (fun _ => by kernel_rfl) (eLoad_one T_agg27 hb131 (by rw [← hv25]; rfl)) (hv25 ▸ hF.fRunners.1.eqSelf 8)) ?_
       refine cg rfl 115 (!c138 && c139) (.int .i64 (.ofNat iL89)) ((bif !c138 then .bool c139 else undef)) (by cases c138 <;> cases c139 <;> rfl) (fun h => by obtain ⟨rfl, rfl⟩ := bFT h; exact chkV1 (.int .i64 (.ofNat iL89)) (fun _ => by kernel_rfl) (vEq_int ..)) ?_
       refine cg rfl 115 (!c138 && c139) (.int .i64 (.ofNat (iL89 - 1))) ((bif !c138 then .bool c139 else undef)) (by cases c138 <;> cases c139 <;> rfl) (fun h => by obtain ⟨rfl, rfl⟩ := bFT h; have q0 := nf p138; have q1 := (p139).1 rfl; exact chkV1 (.int .i64 (.ofNat (iL89 - 1))) (fun _ => by rw [← wrapSub (show iL89 < 9223372036854775808 by omega) (by omega)]; kernel_rfl) (vEq_int ..)) ?_
       refine cg rfl 115 (!c138 && c139) (.pointer (some ⟨(blk a23), 0 + (iL89 - 1) * 3, none⟩)) ((bif !c138 then .bool c139 else undef)) (by cases c138 <;> cases c139 <;> rfl) (fun h => by obtain ⟨rfl, rfl⟩ := bFT h; exact chkO1 (.pointer (some ⟨(blk a23), 0 + (iL89 - 1) * 3, none⟩)) (eIndexAddr ex.T 27 (.slice a23 (F.fRunners.l.length) c24) (.int .i64 (.ofNat (iL89 - 1)))) (fun _ => by kernel_rfl) (eIndexAddr_A (k := .i64) T_und27 T_size43 ((hF.fRunners.1.mono hE130 le137).blkA hv25 (zl ((hlt140 rfl)))) ((hlt140 rfl))) (vEq_ptr ..)) ?_
       refine cg rfl 115 (!c138 && c139) (.pointer (some ⟨(blk a23), 0 + (iL89 - 1) * 3 + 0, none⟩)) ((bif !c138 then .bool c139 else undef)) (by cases c138 <;> cases c139 <;> rfl) (fun h => by obtain ⟨rfl, rfl⟩ := bFT h; exact chkV1 (.pointer (some ⟨(blk a23), 0 + (iL89 - 1) * 3 + 0, none⟩)) (fun _ => by kernel_rfl) (vEq_ptr ..)) ?_
       refine cg rfl 115 (!c138 && c139) (.int .i64 (x141.fBib)) ((bif !c138 then .bool c139 else undef)) (by cases c138 <;> cases c139 <;> rfl) (fun h => by obtain ⟨rfl, rfl⟩ := bFT h; exact chkO1 (.int .i64 (x141.fBib)) (eLoad ex.T hp125.get 3 (.pointer (some ⟨(blk a23), 0 + (iL89 - 1) * 3 + 0, none⟩))) (fun _ => by kernel_rfl) (eLoad_oneE T_agg3 ((hF.fRunners.1.mono hE130 le137).blkB hv25 (zl ((hlt140 rfl)))) (flat_at (hF.fRunners.1.mono hE130 le137).1 (hx142 rfl) (by decide) rfl)) (vEq_int ..)) ?_
       refine cg rfl 115 (!c138 && c139) (.pointer (some ⟨nx92, 0 + 0, none⟩)) ((bif !c138 then .bool c139 else undef)) (by cases c138 <;> cases c139 <;> rfl) (fun h => by obtain ⟨rfl, rfl⟩ := bFT h; exact chkV1 (.pointer (some ⟨nx92, 0 + 0, none⟩)) (fun _ => by kernel_rfl) (vEq_ptr ..)) ?_
       refine cg rfl 115 (!c138 && c139) (.int .i64 (x104.fBib)) ((bif !c138 then .bool c139 else undef)) (by cases c138 <;> cases c139 <;> rfl) (fun h => by obtain ⟨rfl, rfl⟩ := bFT h; exact chkO1 (.int .i64 (x104.fBib)) (eLoad ex.T hp125.get 3 (.pointer (some ⟨nx92, 0 + 0, none⟩))) (fun _ => by kernel_rfl) (eLoad_one T_agg3 hb133 rfl) (vEq_int ..)) ?_
       refine cg rfl 115 (!c138 && c139) (.bool c143) ((bif !c138 then .bool c139 else undef)) (by cases c138 <;> cases c139 <;> rfl) (fun h => by obtain ⟨rfl, rfl⟩ := bFT h; exact chkV1 (.bool c143) (fun _ => by subst e143; kernel_rfl) (vEq_bool 8 c143)) ?_
       refine cg rfl 112 (!c138) (.bool c144) (.bool c138) (by cases c138 <;> rfl) (fun h => by obtain rfl := bF h; exact chkO1 (.bool c144) (ePick (.bool c139) ((bif !false && c139 then .bool c143 else undef)) (.bool false)) (fun _ => by kernel_rfl) ((by rw [e144]; exact ePick_and (fun h => by obtain rfl : c139 = true := h; rfl))) (vEq_bool 8 c144)) ?_
       refine co (.bool c145) (ePick (.bool c138) (.bool true) ((bif !c138 then .bool c144 else undef))) ((by rw [e145]; exact ePick_or (fun h => by obtain rfl : c138 = false := h; rfl))) (vEq_bool 8 c145) ?_
       refine cv (.bool c145) (vEq_bool 8 c145) ?_
       refine cg rfl 128 (!c145) (.pointer (some ⟨nx92, 0 + 1, none⟩)) (.bool c145) (by cases c145 <;> rfl) (fun h => by obtain rfl := bF h; exact chkV1 (.pointer (some ⟨nx92, 0 + 1, none⟩)) (fun _ => by kernel_rfl) (vEq_ptr ..)) ?_
       refine cg rfl 128 (!c145) (.slice a146 (x104.fKeys.l.length) c147) (.bool c145) (by cases c145 <;> rfl) (fun h => by obtain rfl := bF h; exact chkO1 (.slice a146 (x104.fKeys.l.length) c147) (eLoad ex.T hp125.get 30 (.pointer (some ⟨nx92, 0 + 1, none⟩))) (fun _ => by kernel_rfl) (eLoad_one T_agg30 hb133 (by rw [← hv148]; rfl)) (hv148 ▸ (hF.fRunners.2 x104 (List.mem_of_getElem? hx105)).fKeys.eqSelf 8)) ?_
       refine cg rfl 128 (!c145) (.int .i64 (.ofNat (x104.fKeys.l.length))) (.bool c145) (by cases c145 <;> rfl) (fun h => by obtain rfl := bF h; exact chkV1 (.int .i64 (.ofNat (x104.fKeys.l.length))) (fun _ => by kernel_rfl) (vEq_int ..)) ?_
       refine cg rfl 128 (!c145) (.pointer (some ⟨nx, 0 + 3, none⟩)) (.bool c145) (by cases c145 <;> rfl) (fun h => by obtain rfl := bF h; exact chkV1 (.pointer (some ⟨nx, 0 + 3, none⟩)) (fun _ => by kernel_rfl) (vEq_ptr ..)) ?_
       refine cg rfl 128 (!c145) (.slice a23 (F.fRunners.l.length) c24) (.bool c145) (by cases c145 <;> rfl) (fun h => by obtain rfl := bF h; exact chkO1 (.slice a23 (F.fRunners.l.length) c24) (eLoad ex.T hp125.get 27 (.pointer (some ⟨nx, 0 + 3, none⟩))) (fun _ => by kernel_rfl) (eLoad_one T_agg27 hb131 (by rw [← hv25]; rfl)) (hv25 ▸ hF.fRunners.1.eqSelf 8)) ?_
       refine cg rfl 128 (!c145) (.pointer (some ⟨(blk a23), 0 + (0) * 3, none⟩)) (.bool c145) (by cases c145 <;> rfl) (fun h => by obtain rfl := bF h; exact chkO1 (.pointer (some ⟨(blk a23), 0 + (0) * 3, none⟩)) (eIndexAddr ex.T 27 (.slice a23 (F.fRunners.l.length) c24) (.int .i64 (.ofNat (0)))) (fun _ => by kernel_rfl) (eIndexAddr_A (k := .i64) T_und27 T_size43 ((hF.fRunners.1.mono hE130 le137).blkA hv25 (zl ((hlt149 rfl)))) ((hlt149 rfl))) (vEq_ptr ..)) ?_
       refine cg rfl 128 (!c145) (.pointer (some ⟨(blk a23), 0 + (0) * 3 + 1, none⟩)) (.bool c145) (by cases c145 <;> rfl) (fun h => by obtain rfl := bF h; exact chkV1 (.pointer (some ⟨(blk a23), 0 + (0) * 3 + 1, none⟩)) (fun _ => by kernel_rfl) (vEq_ptr ..)) ?_
       refine cg rfl 128 (!c145) (.slice a152 (x150.fKeys.l.length) c153) (.bool c145) (by cases c145 <;> rfl) (fun h => by obtain rfl := bF h; exact chkO1 (.slice a152 (x150.fKeys.l.length) c153) (eLoad ex.T hp125.get 30 (.pointer (some ⟨(blk a23), 0 + (0) * 3 + 1, none⟩))) (fun _ => by kernel_rfl) (eLoad_oneE T_agg30 ((hF.fRunners.1.mono hE130 le137).blkB hv25 (zl ((hlt149 rfl)))) (flat_at (hF.fRunners.1.mono hE130 le137).1 hx151 (by decide) (by rw [← hv154]; rfl))) (hv154 ▸ (hF.fRunners.2 x150 (List.mem_of_getElem? hx151)).fKeys.eqSelf 8)) ?_
       refine cg rfl 128 (!c145) (.int .i64 (.ofNat (x150.fKeys.l.length))) (.bool c145) (by cases c145 <;> rfl) (fun h => by obtain rfl := bF h; exact chkV1 (.int .i64 (.ofNat (x150.fKeys.l.length))) (fun _ => by kernel_rfl) (vEq_int ..)) ?_
       refine cg rfl 128 (!c145) (.bool c155) (.bool c145) (by cases c145 <;> rfl) (fun h => by obtain rfl := bF h; exact chkV1 (.bool c155) (fun _ => by subst e155; kernel_rfl) (vEq_bool 8 c155)) ?_
       refine co (.bool c156) (ePick (.bool c145) (.bool true) ((bif !c145 then .bool c155 else undef))) ((by rw [e156]; exact ePick_or (fun h => by obtain rfl : c145 = false := h; rfl))) (vEq_bool 8 c156) ?_
       refine cv (.bool c156) (vEq_bool 8 c156) ?_
       refine cg rfl 140 (!c156) (.pointer (some ⟨nx92, 0 + 2, none⟩)) (.bool c156) (by cases c156 <;> rfl) (fun h => by obtain rfl := bF h; exact chkV1 (.pointer (some ⟨nx92, 0 + 2, none⟩)) (fun _ => by kernel_rfl) (vEq_ptr ..)) ?_
       refine cg rfl 140 (!c156) (.slice a157 (x104.fWorlds.l.length) c158) (.bool c156) (by cases c156 <;> rfl) (fun h => by obtain rfl := bF h; exact chkO1 (.slice a157 (x104.fWorlds.l.length) c158) (eLoad ex.T hp125.get 41 (.pointer (some ⟨nx92, 0 + 2, none⟩))) (fun _ => by kernel_rfl) (eLoad_one T_agg41 hb133 (by rw [← hv159]; rfl)) (hv159 ▸ (hF.fRunners.2 x104 (List.mem_of_getElem? hx105)).fWorlds.1.eqSelf 8)) ?_
       refine cg rfl 140 (!c156) (.int .i64 (.ofNat (x104.fWorlds.l.length))) (.bool c156) (by cases c156 <;> rfl) (fun h => by obtain rfl := bF h; exact chkV1 (.int .i64 (.ofNat (x104.fWorlds.l.length))) (fun _ => by kernel_rfl) (vEq_int ..)) ?_
       refine cg rfl 140 (!c156) (.pointer (some ⟨nx, 0 + 2, none⟩)) (.bool c156) (by cases c156 <;> rfl) (fun h => by obtain rfl := bF h; exact chkV1 (.pointer (some ⟨nx, 0 + 2, none⟩)) (fun _ => by kernel_rfl) (vEq_ptr ..)) ?_
       refine cg rfl 140 (!c156) (.slice a18 (F.fPairs.l.length) c19) (.bool c156) (by cases c156 <;> rfl) (fun h => by obtain rfl := bF h; exact chkO1 (.slice a18 (F.fPairs.l.length) c19) (eLoad ex.T hp125.get 26 (.pointer (some ⟨nx, 0 + 2, none⟩))) (fun _ => by kernel_rfl) (eLoad_one T_agg26 hb131 (by rw [← hv20]; rfl)) (hv20 ▸ hF.fPairs.eqSelf 8)) ?_
       refine cg rfl 140 (!c156) (.int .i64 (.ofNat (F.fPairs.l.length))) (.bool c156) (by cases c156 <;> rfl) (fun h => by obtain rfl := bF h; exact chkV1 (.int .i64 (.ofNat (F.fPairs.l.length))) (fun _ => by kernel_rfl) (vEq_int ..)) ?_
       refine cg rfl 140 (!c156) (.int .i64 (.ofNat (F.fPairs.l.length + 1))) (.bool c156) (by cases c156 <;> rfl) (fun h => by obtain rfl := bF h; have q0 := nf p156; exact chkV1 (.int .i64 (.ofNat (F.fPairs.l.length + 1))) (fun _ => by rw [← wrapAdd (show F.fPairs.l.length + 1 < 9223372036854775808 by omega)]; kernel_rfl) (vEq_int ..)) ?_
       refine cg rfl 140 (!c156) (.bool c160) (.bool c156) (by cases c156 <;> rfl) (fun h => by obtain rfl := bF h; exact chkV1 (.bool c160) (fun _ => by subst e160; kernel_rfl) (vEq_bool 8 c160)) ?_
       refine co (.bool c161) (ePick (.bool c156) (.bool true) ((bif !c156 then .bool c160 else undef))) ((by rw [e161]; exact ePick_or (fun h => by obtain rfl : c156 = false := h; rfl))) (vEq_bool 8 c161) ?_
       exact Chks.nil
      refine WP.cond c161 (by kernel_rfl) (fun h162 => ?_) (fun h162 => ?_)
      ·
       have q163 := (p161).1 h162
       refine sr ?_
       refine ov 2 (.int .i64 (240)) ?_
       refine WO.nil ?_
       refine WP.ret ⟨rfl, rfl, [.int .i64 (240)], by kernel_rfl, ?_⟩
       refine ⟨⟨240, rfl, ⟨fun h => absurd h (by decide), fun hok => ?_⟩, .inr rfl⟩, le137, hE130⟩
       obtain ⟨⟨h1, h2⟩, h3, h4⟩ := hok.run _ _ hx105
       rcases q163 with ((hq | ⟨hq1, hq2⟩) | hq) | hq
       · exact absurd (by omega) hq
       · have hh := h2 (by omega) _ (hx142p (by omega) hq1); omega
       · have hh := h3 _ hx151; omega
       · omega
      ·
       have q163 := nq p161 h162
       refine WP.skip ?_
       refine sr ?_
       refine ov 7 (.int .i64 (0)) ?_
       refine WO.nil ?_
       refine WP.block ?_
       have hj165 : ∀ t : Tm, ((((t.set 1 (t.get 1)).set 5 (t.get 5)).set 6 (t.get 6)).set 7 (t.get 7)) = t := fun t => by kernel_rfl
       refine WP.loop (fun m s => ∃ (iL164 : Nat), iL164 + m = x104.fWorlds.l.length ∧ s.to.get 1 = .pointer (some ⟨nx, 0, none⟩) ∧ s.to.get 5 = .int .i64 (.ofNat iL89) ∧ s.to.get 6 = .pointer (some ⟨nx92, 0, none⟩) ∧ s.to.get 7 = .int .i64 (.ofNat iL164) ∧ s.ds = [] ∧ s.cs = [] ∧ nx126 ≤ s.nx ∧ HE (nx126) hp125 s.hp ∧ (∀ (j : Nat) (o : SV ROutcome), j < iL164 → x104.fWorlds.l[j]? = some o → ∀ x ∈ o.l, OutcomeOk F.fClocks x)) ?_ (x104.fWorlds.l.length) ?_
       ·
        rintro mL164 ⟨toL164, dsL164, hp166, nx167, csL164⟩ ⟨iL164, him168, gL164_1, gL164_5, gL164_6, gL164_7, hdsL164, hcsL164, hn169, he170, hworld⟩
        simp only at gL164_1 gL164_5 gL164_6 gL164_7 hdsL164 hcsL164 hn169 he170 hworld
        subst hdsL164 hcsL164
        rw [← hj165 toL164, gL164_1, gL164_5, gL164_6, gL164_7]
        clear gL164_1 gL164_5 gL164_6 gL164_7
        have hE171 := hE130.trans he170 le137
        have hb172 := he170.get hb131 lt132
        have lt173 := Nat.lt_of_lt_of_le lt132 hn169
        have hb174 := he170.get hb133 lt134
        have lt175 := Nat.lt_of_lt_of_le lt134 hn169
        have hr176 := hr135.trans he170 rl136
        have rl177 := Nat.le_trans rl136 hn169
        have le178 := Nat.le_trans le137 hn169
        refine WP.seq ?_
        refine sr ?_
        refine ov 150 (.int .i64 (.ofNat iL164)) ?_
        refine ov 151 (.pointer (some ⟨nx92, 0 + 2, none⟩)) ?_
        refine WO.cons (WC.load1 nx92 (0 + 2) (.slice a157 (x104.fWorlds.l.length) c158) (by kernel_rfl) T_agg41 hb174 (by rw [← hv159]; rfl) ?_)
        refine ov 153 (.int .i64 (.ofNat (x104.fWorlds.l.length))) ?_
        obtain ⟨c179, e179, p179⟩ := @nb (ltI (.ofNat iL164) (.ofNat (x104.fWorlds.l.length))) (((iL164 : Nat) : Int) < ((x104.fWorlds.l.length : Nat) : Int)) (ltI_iff)
        refine ov 154 (.bool c179) ?_ (fun _ _ _ => by subst e179; kernel_rfl)
        refine WO.nil ?_
        refine WP.cond c179 (by kernel_rfl) (fun h180 => ?_) (fun h180 => ?_)
        ·
         have q181 := (p179).1 h180
         refine WP.skip ?_
         refine WP.seq ?_
         refine WP.block ?_
         refine sr ?_
         refine ov 8 (.int .i64 (0)) ?_
         refine WO.nil ?_
         refine WP.block ?_
         obtain ⟨ow, how⟩ : ∃ el_, x104.fWorlds.l[iL164]? = some el_ := ⟨_, List.getElem?_eq_getElem (by omega)⟩
         have hj183 : ∀ t : Tm, (((((t.set 1 (t.get 1)).set 5 (t.get 5)).set 6 (t.get 6)).set 7 (t.get 7)).set 8 (t.get 8)) = t := fun t => by kernel_rfl
         refine WP.loop (fun m s => ∃ (iL182 : Nat), iL182 + m = ow.l.length ∧ s.to.get 1 = .pointer (some ⟨nx, 0, none⟩) ∧ s.to.get 5 = .int .i64 (.ofNat iL89) ∧ s.to.get 6 = .pointer (some ⟨nx92, 0, none⟩) ∧ s.to.get 7 = .int .i64 (.ofNat iL164) ∧ s.to.get 8 = .int .i64 (.ofNat iL182) ∧ s.ds = [] ∧ s.cs = [] ∧ nx167 ≤ s.nx ∧ HE (nx167) hp166 s.hp ∧ (∀ (j : Nat) (x : ROutcome), j < iL182 → ow.l[j]? = some x → OutcomeOk F.fClocks x)) ?_ (ow.l.length) ?_
         ·
          rintro mL182 ⟨toL182, dsL182, hp184, nx185, csL182⟩ ⟨iL182, him186, gL182_1, gL182_5, gL182_6, gL182_7, gL182_8, hdsL182, hcsL182, hn187, he188, hout⟩
          simp only at gL182_1 gL182_5 gL182_6 gL182_7 gL182_8 hdsL182 hcsL182 hn187 he188
          subst hdsL182 hcsL182
          rw [← hj183 toL182, gL182_1, gL182_5, gL182_6, gL182_7, gL182_8]
          clear gL182_1 gL182_5 gL182_6 gL182_7 gL182_8
          have hE189 := hE171.trans he188 le178
          have hb190 := he188.get hb172 lt173
          have hb192 := he188.get hb174 lt175
          have hr196 := he170.trans he188 hn169
          have rl197 := Nat.le_trans hn169 hn187
          have le198 := Nat.le_trans le178 hn187
          refine WP.seq ?_
          refine sr ?_
          refine ov 157 (.int .i64 (.ofNat iL182)) ?_
          refine ov 158 (.pointer (some ⟨nx92, 0 + 2, none⟩)) ?_
          refine WO.cons (WC.load1 nx92 (0 + 2) (.slice a157 (x104.fWorlds.l.length) c158) (by kernel_rfl) T_agg41 hb192 (by rw [← hv159]; rfl) ?_)
          refine ov 160 (.int .i64 (.ofNat iL164)) ?_
          have hlt199 : iL164 < x104.fWorlds.l.length := by omega
          refine WO.cons (WC.ix (k := .i64) a157 (x104.fWorlds.l.length) c158 (iL164) 1 (by kernel_rfl) (by kernel_rfl) T_und41 T_size97 (((hF.fRunners.2 x104 (List.mem_of_getElem? hx105)).fWorlds.1.mono hE189 le198).blkA hv159 (zl hlt199)) (hlt199) ?_)
          obtain ⟨a200, c201, hv202⟩ := ((hF.fRunners.2 x104 (List.mem_of_getElem? hx105)).fWorlds.2 ow (List.mem_of_getElem? how)).shape
          have hsm202 := ((hF.fRunners.2 x104 (List.mem_of_getElem? hx105)).fWorlds.2 ow (List.mem_of_getElem? how)).2.2
          refine WO.cons (WC.load1E (blk a157) (0 + (iL164) * 1) (.slice a200 (ow.l.length) c201) (by kernel_rfl) T_agg97 (((hF.fRunners.2 x104 (List.mem_of_getElem? hx105)).fWorlds.1.mono hE189 le198).blkB hv159 (zl hlt199)) (flat_at1 ((hF.fRunners.2 x104 (List.mem_of_getElem? hx105)).fWorlds.1.mono hE189 le198).1 how (by rw [← hv202]; rfl)) ?_)
          refine ov 163 (.int .i64 (.ofNat (ow.l.length))) ?_
          obtain ⟨c203, e203, p203⟩ := @nb (ltI (.ofNat iL182) (.ofNat (ow.l.length))) (((iL182 : Nat) : Int) < ((ow.l.length : Nat) : Int)) (ltI_iff)
          refine ov 164 (.bool c203) ?_ (fun _ _ _ => by subst e203; kernel_rfl)
          refine WO.nil ?_
          refine WP.cond c203 (by kernel_rfl) (fun h204 => ?_) (fun h204 => ?_)
          ·
           have q205 := (p203).1 h204
           refine WP.skip ?_
           refine WP.seq ?_
           refine WP.block ?_
           refine WP.seq ?_
           refine WP.drawS [⟨[0, 1, 2, 3, 4, 5, 6, 7, 8, 9], [0, 1, 2, 3, 4, 5, 6, 7, 8, 9], some 10⟩, ⟨[11], [11], none⟩] (by kernel_rfl) _ rfl ?_
           refine WD.eff ?_
           refine nv 167 (.pointer (some ⟨nx, 0 + 0, none⟩)) ?_
           refine WN.consAt rfl (WC.loadS nx (0 + 0) (encClocks F.fClocks) (by kernel_rfl) T_agg25 T_size25 hb190 rfl ?_)
           refine nv 169 (.pointer (some ⟨nx92, 0 + 2, none⟩)) ?_
           refine WN.consAt rfl (WC.load1 nx92 (0 + 2) (.slice a157 (x104.fWorlds.l.length) c158) (by kernel_rfl) T_agg41 hb192 (by rw [← hv159]; rfl) ?_)
           refine nv 171 (.int .i64 (.ofNat iL164)) ?_
           have hlt206 : iL164 < x104.fWorlds.l.length := by omega
           refine WN.consAt rfl (WC.ix (k := .i64) a157 (x104.fWorlds.l.length) c158 (iL164) 1 (by kernel_rfl) (by kernel_rfl) T_und41 T_size97 (((hF.fRunners.2 x104 (List.mem_of_getElem? hx105)).fWorlds.1.mono hE189 le198).blkA hv159 (zl hlt206)) (hlt206) ?_)
           refine WN.consAt rfl (WC.load1E (blk a157) (0 + (iL164) * 1) (.slice a200 (ow.l.length) c201) (by kernel_rfl) T_agg97 (((hF.fRunners.2 x104 (List.mem_of_getElem? hx105)).fWorlds.1.mono hE189 le198).blkB hv159 (zl hlt206)) (flat_at1 ((hF.fRunners.2 x104 (List.mem_of_getElem? hx105)).fWorlds.1.mono hE189 le198).1 how (by rw [← hv202]; rfl)) ?_)
           refine nv 174 (.int .i64 (.ofNat iL182)) ?_
           have hlt207 : iL182 < ow.l.length := by omega
           refine WN.consAt rfl (WC.ix (k := .i64) a200 (ow.l.length) c201 (iL182) 4 (by kernel_rfl) (by kernel_rfl) T_und97 T_size99 ((((hF.fRunners.2 x104 (List.mem_of_getElem? hx105)).fWorlds.2 ow (List.mem_of_getElem? how)).mono hE189 le198).blkA hv202 (zl hlt207)) (hlt207) ?_)
           obtain ⟨x208, hx209⟩ : ∃ el_, ow.l[iL182]? = some el_ := ⟨_, List.getElem?_eq_getElem (hlt207)⟩
           refine WN.consAt rfl (WC.loadSE (blk a200) (0 + (iL182) * 4) (encOutcome x208) (by kernel_rfl) T_agg99 T_size99 ((((hF.fRunners.2 x104 (List.mem_of_getElem? hx105)).fWorlds.2 ow (List.mem_of_getElem? how)).mono hE189 le198).blkB hv202 (zl hlt207)) (flat_at0 (((hF.fRunners.2 x104 (List.mem_of_getElem? hx105)).fWorlds.2 ow (List.mem_of_getElem? how)).mono hE189 le198).1 hx209) ?_)
           refine WN.nil ⟨?_, ?_⟩
           ·
            refine cv (.pointer (some ⟨nx, 0 + 0, none⟩)) (vEq_ptr ..) ?_
            refine co (.agg (encClocks F.fClocks).toArray) (eLoad ex.T hp184.get 25 (.pointer (some ⟨nx, 0 + 0, none⟩))) (eLoad_agg T_agg25 T_size25 hb190 rfl) (encClocks_vEq F.fClocks hF.fClocks) ?_
            refine cv (.pointer (some ⟨nx92, 0 + 2, none⟩)) (vEq_ptr ..) ?_
            refine co (.slice a157 (x104.fWorlds.l.length) c158) (eLoad ex.T hp184.get 41 (.pointer (some ⟨nx92, 0 + 2, none⟩))) (eLoad_one T_agg41 hb192 (by rw [← hv159]; rfl)) (hv159 ▸ (hF.fRunners.2 x104 (List.mem_of_getElem? hx105)).fWorlds.1.eqSelf 8) ?_
            refine cv (.int .i64 (.ofNat iL164)) (vEq_int ..) ?_
            refine co (.pointer (some ⟨(blk a157), 0 + (iL164) * 1, none⟩)) (eIndexAddr ex.T 41 (.slice a157 (x104.fWorlds.l.length) c158) (.int .i64 (.ofNat (iL164)))) (eIndexAddr_A (k := .i64) T_und41 T_size97 (((hF.fRunners.2 x104 (List.mem_of_getElem? hx105)).fWorlds.1.mono hE189 le198).blkA hv159 (zl hlt206)) (hlt206)) (vEq_ptr ..) ?_
            refine co (.slice a200 (ow.l.length) c201) (eLoad ex.T hp184.get 97 (.pointer (some ⟨(blk a157), 0 + (iL164) * 1, none⟩))) (eLoad_oneE T_agg97 (((hF.fRunners.2 x104 (List.mem_of_getElem? hx105)).fWorlds.1.mono hE189 le198).blkB hv159 (zl hlt206)) (flat_at1 ((hF.fRunners.2 x104 (List.mem_of_getElem? hx105)).fWorlds.1.mono hE189 le198).1 how (by rw [← hv202]; rfl))) (hv202 ▸ ((hF.fRunners.2 x104 (List.mem_of_getElem? hx105)).fWorlds.2 ow (List.mem_of_getElem? how)).eqSelf 8) ?_
            refine cv (.int .i64 (.ofNat iL182)) (vEq_int ..) ?_
            refine co (.pointer (some ⟨(blk a200), 0 + (iL182) * 4, none⟩)) (eIndexAddr ex.T 97 (.slice a200 (ow.l.length) c201) (.int .i64 (.ofNat (iL182)))) (eIndexAddr_A (k := .i64) T_und97 T_size99 ((((hF.fRunners.2 x104 (List.mem_of_getElem? hx105)).fWorlds.2 ow (List.mem_of_getElem? how)).mono hE189 le198).blkA hv202 (zl hlt207)) (hlt207)) (vEq_ptr ..) ?_
            refine co (.agg (encOutcome x208).toArray) (eLoad ex.T hp184.get 99 (.pointer (some ⟨(blk a200), 0 + (iL182) * 4, none⟩))) (eLoad_aggE T_agg99 T_size99 ((((hF.fRunners.2 x104 (List.mem_of_getElem? hx105)).fWorlds.2 ow (List.mem_of_getElem? how)).mono hE189 le198).blkB hv202 (zl hlt207)) (flat_at0 (((hF.fRunners.2 x104 (List.mem_of_getElem? hx105)).fWorlds.2 ow (List.mem_of_getElem? how)).mono hE189 le198).1 hx209)) (encOutcome_vEq x208) ?_
            exact Chks.nil
           refine WC.at rfl (WC.call 177 34 ([.agg (encClocks F.fClocks).toArray, .agg (encOutcome x208).toArray]) (fun _ _ _ => by kernel_rfl) ((check23_wf F.fClocks x208 hp184 (nx185) (hF.fClocks.mono hE189 le198)).mono ?_))
           rintro _ hp210 nx211 ⟨⟨z214, rfl, hz214⟩, hn212, he213⟩
           have hE215 := hE189.trans he213 le198
           have hr224 := he188.trans he213 hn187
           have rl225 := Nat.le_trans hn187 hn212
           have le226 := Nat.le_trans le198 hn212
           refine WD.last ?_
           obtain ⟨c227, e227, p227⟩ := @nb ((!(eqI (z214) (0)))) ((z214) ≠ (0)) (neI_iff)
           refine nv 178 (.bool c227) ?_ (fun _ _ _ => by subst e227; kernel_rfl)
           refine WN.nil ⟨?_, ?_⟩
           ·
            refine cv (.bool c227) (vEq_bool 8 c227) ?_ (fun _ => by subst e227; kernel_rfl)
            exact Chks.nil
           refine WP.cond c227 (by kernel_rfl) (fun h228 => ?_) (fun h228 => ?_)
           ·
            have q229 := (p227).1 h228
            refine sr ?_
            refine ov 2 (.int .i64 (240)) ?_
            refine WO.nil ?_
            refine WP.ret ⟨rfl, rfl, [.int .i64 (240)], by kernel_rfl, ?_⟩
            refine ⟨⟨240, rfl, ⟨fun h => absurd h (by decide), fun hok => ?_⟩, .inr rfl⟩, le226, hE215⟩
            exact absurd ((hz214).2 ⟨hclk, hok.out _ _ hx105 _ (List.mem_of_getElem? how) _ (List.mem_of_getElem? hx209)⟩) q229
           ·
            have q229 := nq p227 h228
            refine WP.skip ?_
            refine WP.region ?_
            refine ov 165 (.int .i64 (.ofNat iL182)) ?_
            refine ov 166 (.int .i64 (.ofNat (iL182 + 1))) ?_ (fun _ _ _ => by rw [← wrapAdd (show iL182 + 1 < 9223372036854775808 by omega)]; kernel_rfl)
            refine ov 8 (.int .i64 (.ofNat (iL182 + 1))) ?_
            refine WO.nil ?_
            refine ⟨ow.l.length - (iL182 + 1), by omega, iL182 + 1, by omega, by kernel_rfl, by kernel_rfl, by kernel_rfl, by kernel_rfl, by kernel_rfl, rfl, rfl, ?_, ?_, ?_⟩
            · exact rl225
            · exact hr224
            · intro j x' hj hs
              rcases Nat.lt_succ_iff_lt_or_eq.1 hj with hj | rfl
              · exact hout j x' hj hs
              · rw [hx209] at hs; cases hs
                exact ((hz214).1 (Classical.not_not.1 q229)).2
          ·
           have q205 := nq p203 h204
           refine WP.exit ?_
           refine WP.region ?_
           refine ov 155 (.int .i64 (.ofNat iL164)) ?_
           refine ov 156 (.int .i64 (.ofNat (iL164 + 1))) ?_ (fun _ _ _ => by rw [← wrapAdd (show iL164 + 1 < 9223372036854775808 by omega)]; kernel_rfl)
           refine ov 7 (.int .i64 (.ofNat (iL164 + 1))) ?_
           refine WO.nil ?_
           refine ⟨x104.fWorlds.l.length - (iL164 + 1), by omega, iL164 + 1, by omega, by kernel_rfl, by kernel_rfl, by kernel_rfl, by kernel_rfl, rfl, rfl, ?_, ?_, ?_⟩
           · exact rl197
           · exact hr196
           · intro j o' hj hs x hx
             rcases Nat.lt_succ_iff_lt_or_eq.1 hj with hj | rfl
             · exact hworld j o' hj hs x hx
             · rw [how] at hs; cases hs
               obtain ⟨n, hn⟩ := List.getElem?_of_mem hx
               exact hout n x (by have := (List.getElem?_eq_some_iff.1 hn).1; omega) hn
         ·
          exact ⟨0, by omega, by kernel_rfl, by kernel_rfl, by kernel_rfl, by kernel_rfl, by kernel_rfl, rfl, rfl, Nat.le_refl _, HE.refl _ _, (fun _ _ h => absurd h (Nat.not_lt_zero _))⟩
        ·
         have q181 := nq p179 h180
         refine WP.exit ?_
         refine WP.region ?_
         refine ov 101 (.int .i64 (.ofNat iL89)) ?_
         refine ov 102 (.int .i64 (.ofNat (iL89 + 1))) ?_ (fun _ _ _ => by rw [← wrapAdd (show iL89 + 1 < 9223372036854775808 by omega)]; kernel_rfl)
         refine ov 5 (.int .i64 (.ofNat (iL89 + 1))) ?_
         refine WO.nil ?_
         refine ⟨F.fRunners.l.length - (iL89 + 1), by omega, iL89 + 1, by omega, by kernel_rfl, by kernel_rfl, rfl, rfl, ?_, ?_, ?_⟩
         · exact rl177
         · exact hr176
         · intro j r' hj hs
           rcases Nat.lt_succ_iff_lt_or_eq.1 hj with hj | rfl
           · exact hrun j r' hj hs
           · rw [hx105] at hs; cases hs
             have hb : 1 ≤ x104.fBib ∧ x104.fBib ≤ 9999 := Classical.not_not.1 fun k => q163 (.inl (.inl (.inl k)))
             refine ⟨⟨⟨hb, fun h0 q' hq' => ?_⟩, fun z' hz' => ?_, by omega⟩, fun o ho x hx => ?_⟩
             · have h3 := hx142p (fun k => k hb) (by omega)
               rw [h3] at hq'; cases hq'
               have h4 : ¬ (_) := fun k => q163 (.inl (.inl (.inr ⟨by omega, k⟩)))
               omega
             · rw [hx151] at hz'; cases hz'; omega
             · obtain ⟨n, hn⟩ := List.getElem?_of_mem ho
               exact hworld n o (by have := (List.getElem?_eq_some_iff.1 hn).1; omega) hn x hx
       ·
        exact ⟨0, by omega, by kernel_rfl, by kernel_rfl, by kernel_rfl, by kernel_rfl, rfl, rfl, Nat.le_refl _, HE.refl _ _, (fun _ _ h => absurd h (Nat.not_lt_zero _))⟩
     ·
      have q102 := nq p100 h101
      refine WP.exit ?_
      refine WP.seq ?_
      refine sr ?_
      refine WO.cons (WC.loadS nx (0) (encField F) (by kernel_rfl) T_agg29 T_size29 hb97 rfl ?_)
      refine WO.cons (WC.call 180 35 ([.agg (encField F).toArray]) (fun _ _ _ => by kernel_rfl) ((possible24_wf F hp91 (nx92) (hF.mono hE96 le99)).mono ?_))
      rintro _ hp230 nx231 ⟨⟨c234, rfl, p234⟩, hn232, he233⟩
      have hE235 := hE96.trans he233 le99
      have le238 := Nat.le_trans le99 hn232
      obtain ⟨c239, e239, p239⟩ := @nb (!c234) (¬ (Poss F)) (by rw [Bool.not_eq_true', ← Bool.not_eq_true, p234])
      refine ov 181 (.bool c239) ?_ (fun _ _ _ => by subst e239; kernel_rfl)
      refine WO.nil ?_
      refine WP.cond c239 (by kernel_rfl) (fun h240 => ?_) (fun h240 => ?_)
      ·
       have q241 := (p239).1 h240
       refine sr ?_
       refine ov 2 (.int .i64 (240)) ?_
       refine WO.nil ?_
       refine WP.ret ⟨rfl, rfl, [.int .i64 (240)], by kernel_rfl, ?_⟩
       refine ⟨⟨240, rfl, ⟨fun h => absurd h (by decide), fun hok => ?_⟩, .inr rfl⟩, le238, hE235⟩
       exact absurd hok.poss q241
      ·
       have q241 := nq p239 h240
       refine WP.skip ?_
       refine sr ?_
       refine ov 2 (.int .i64 (0)) ?_
       refine WO.nil ?_
       refine WP.ret ⟨rfl, rfl, [.int .i64 (0)], by kernel_rfl, ?_⟩
       refine ⟨⟨0, rfl, ⟨fun _ => ?_, fun _ => rfl⟩, .inl rfl⟩, le238, hE235⟩
       refine ⟨hclk, by omega, by omega, by omega, fun j p hp => hpair j p (by have := (List.getElem?_eq_some_iff.1 hp).1; omega) hp, fun j r hr => (hrun j r (by have := (List.getElem?_eq_some_iff.1 hr).1; omega) hr).1, fun j r hr => (hrun j r (by have := (List.getElem?_eq_some_iff.1 hr).1; omega) hr).2, Classical.not_not.1 q241⟩
    ·
     exact ⟨0, by omega, by kernel_rfl, by kernel_rfl, rfl, rfl, Nat.le_refl _, HE.refl _ _, (fun _ _ h => absurd h (Nat.not_lt_zero _))⟩
  ·
   exact ⟨0, by omega, by kernel_rfl, by kernel_rfl, rfl, rfl, Nat.le_refl _, HE.refl _ _, (fun _ _ h => absurd h (Nat.not_lt_zero _))⟩
end
end Sw

namespace Sw
noncomputable section
open Go Go.Proofs Go.RowKit
set_option maxRecDepth 100000
set_option maxHeartbeats 1600000
theorem info99 : ∃ i, ex.T.info 99 = some i ∧ i.bytes ≤ 1024 := by
  cases h : ex.T.info 99 with
  | none => exact absurd (show (ex.T.info 99).isSome = true by kernel_rfl) (by rw [h]; decide)
  | some i =>
    refine ⟨i, rfl, ?_⟩
    have : ((ex.T.info 99).map fun i => Nat.ble i.bytes 1024) = some true := by kernel_rfl
    rw [h] at this
    exact Nat.le_of_ble_eq_true (Option.some.inj this)
theorem appN_int {n : Nat} (h : n < 2147483648) : appN ex.T 3 (.int .i64 (.ofNat n)) = some (n, true) := by
  have hu : ex.T.und 3 = some (.int .i64) := by kernel_rfl
  have hb : Nat.blt n 2147483648 = true := blt_iff.2 h
  simp only [appN, hu, hb, cond_true]
theorem appN_oc {a : Option Addr} {k c : Nat} : appN ex.T 97 (.slice a k c) = some (k, false) := by
  have hu : ex.T.und 97 = some (.slice 99) := by kernel_rfl
  simp only [appN, hu]
def CatIs (W : SV (SV ROutcome)) : Value → Ht → Nat → Prop := fun v hp nx => ∃ J : SV ROutcome, v = J.v ∧ J.l = W.l.flatMap (·.l) ∧ SOk encOutcome 4 hp nx J
theorem grow_wf (n : Nat) (hp : Ht) (nx : Nat) (hn : n ≤ 60) : WF ex 58 [.slice none (0) 0, .int .i64 (.ofNat n)] hp nx (fun v hp' nx' => Rm nx 4 n hp' nx' v 0 [] ∧ nx ≤ nx' ∧ HE nx hp hp') := by
 refine WF.body (fi := ⟨Tryz.f58.body.getD .skip, 27, [.tmp 4]⟩) (by kernel_rfl) (by kernel_rfl) (by kernel_rfl) rfl ?_
 have hE := HE.refl nx hp
 refine sr ?_
 refine ov 4 (.slice none (0) 0) ?_
 refine WO.nil ?_
 refine WP.seq ?_
 refine sr ?_
 refine ov 5 (.int .i64 (.ofNat n)) ?_
 obtain ⟨c1, e1, p1⟩ := @nb (ltI (.ofNat n) (0)) (((n : Nat) : Int) < (0)) (ltI_iff)
 refine ov 6 (.bool c1) ?_ (fun _ _ _ => by subst e1; kernel_rfl)
 refine WO.nil ?_
 refine WP.cond c1 (by kernel_rfl) (fun h2 => ?_) (fun h2 => ?_)
 ·
  have q3 := (p1).1 h2
  exact absurd q3 (by omega)
 ·
  have q3 := nq p1 h2
  refine WP.skip ?_
  refine WP.seq ?_
  refine sr ?_
  refine ov 8 (.int .i64 (.ofNat n)) ?_
  refine ov 9 (.slice none (0) 0) ?_
  refine ov 10 (.int .i64 (.ofNat (0))) ?_
  refine ov 11 (.slice none (0) 0) ?_
  refine ov 12 (.int .i64 (.ofNat (0))) ?_
  refine ov 13 (.int .i64 (.ofNat 0)) ?_
  refine ov 14 (.int .i64 (wrapE .i64 (.ofNat n - .ofNat 0))) ?_
  rw [show wrapE .i64 (.ofNat n - .ofNat 0) = .ofNat n from wrapN (n := n) (by omega)]
  refine ov 1 (.int .i64 (.ofNat n)) ?_
  refine WO.nil ?_
  refine sr ?_
  refine ov 15 (.int .i64 (.ofNat n)) ?_
  obtain ⟨c4, e4, p4⟩ := @nb (ltI (0) (.ofNat n)) ((0) < ((n : Nat) : Int)) (ltI_iff)
  refine ov 16 (.bool c4) ?_ (fun _ _ _ => by subst e4; kernel_rfl)
  refine WO.nil ?_
  refine WP.cond c4 (by kernel_rfl) (fun h5 => ?_) (fun h5 => ?_)
  ·
   have q6 := (p4).1 h5
   refine WP.region ?_
   refine ov 17 (.slice none (0) 0) ?_
   refine ov 18 (.slice none (0) 0) ?_
   refine ov 19 (.int .i64 (.ofNat (0))) ?_
   refine ov 20 (.slice none (0) 0) ?_
   refine ov 21 (.int .i64 (.ofNat n)) ?_
   obtain ⟨inf, hinf, hby⟩ := info99
   have hpos : 0 < n := by omega
   refine WO.cons (WC.biO 22 (eAppend ex.T hp.get 97 3 (.slice none 0 0) (.int .i64 (.ofNat n)) nx) rfl (fun _ _ _ => by kernel_rfl) (eAppend_zeros T_und97 T_size99 T_zero99 hinf (appN_int (by omega)) hpos (by rfl) hby (by omega)) ?_)
   generalize hxG : setAll _ _ = hpG
   have hrmG : Rm nx 4 n hpG (nx + 2) (.slice (some ⟨nx + 1, 0, none⟩) 0 n) 0 [] := by rw [← hxG]; exact Rm.fresh hpos rfl
   have heG : HE nx hp hpG := by rw [← hxG]; exact Rm.freshHE
   have hE7 := hE.trans heG (Nat.le_refl nx)
   have le8 := Nat.le_trans (Nat.le_refl nx) (show nx ≤ nx + 2 by omega)
   refine ov 23 (.slice none (0) 0) ?_
   refine ov 24 (.int .i64 (.ofNat (0))) ?_
   refine WO.cons (WC.opt (v := .slice (some ⟨nx + 1, 0, none⟩) (0) n) 25 (eSlice ex.T hpG.get 97 (.slice (some ⟨nx + 1, 0, none⟩) (n) n) none (some (.int .i64 (.ofNat 0))) none) (fun _ _ _ => by kernel_rfl) (by cases hrmG with | room h0 hb hg hne h1 h2 h3 h4 hl hr hle => exact eSlice_room T_und97 T_size99 hb (Nat.le_refl n)) ?_)
   refine ov 0 (.slice (some ⟨nx + 1, 0, none⟩) (0) n) ?_
   refine WO.nil ?_
   refine sr ?_
   refine ov 26 (.slice (some ⟨nx + 1, 0, none⟩) (0) n) ?_
   refine ov 4 (.slice (some ⟨nx + 1, 0, none⟩) (0) n) ?_
   refine WO.nil ?_
   refine WP.ret ⟨rfl, rfl, [.slice (some ⟨nx + 1, 0, none⟩) (0) n], by kernel_rfl, ?_⟩
   exact ⟨hrmG, le8, hE7⟩
  ·
   have q6 := nq p4 h5
   refine WP.skip ?_
   refine sr ?_
   refine ov 26 (.slice none (0) 0) ?_
   refine ov 4 (.slice none (0) 0) ?_
   refine WO.nil ?_
   refine WP.ret ⟨rfl, rfl, [.slice none (0) 0], by kernel_rfl, ?_⟩
   exact ⟨.nil (by omega), (Nat.le_refl nx), hE⟩
theorem concat_wf (W : SV (SV ROutcome)) (hp : Ht) (nx : Nat) (hW : SlOk encSl 1 (fun hp nx y => SOk encOutcome 4 hp nx y) hp nx W) (hs : (W.l.map (fun o => o.l.length)).sum ≤ 60) : WF ex 29 [W.v] hp nx (fun v hp' nx' => CatIs W v hp' nx' ∧ nx ≤ nx' ∧ HE nx hp hp') := by
 obtain ⟨a1, c2, hv3⟩ := hW.1.shape
 have hsm3 := hW.1.2.2
 rw [hv3]
 refine WF.body (fi := ⟨Tryz.f29.body.getD .skip, 36, [.tmp 2]⟩) (by kernel_rfl) (by kernel_rfl) (by kernel_rfl) rfl ?_
 have hE := HE.refl nx hp
 refine sr ?_
 refine ov 2 (.slice none (0) 0) ?_
 refine WO.nil ?_
 refine sr ?_
 refine ov 3 (.int .i64 (0)) ?_
 refine WO.nil ?_
 refine WP.seq ?_
 refine sr ?_
 refine ov 9 (.slice a1 (W.l.length) c2) ?_
 refine ov 10 (.int .i64 (.ofNat (W.l.length))) ?_
 refine ov 11 (.int .i64 (0)) ?_
 refine WO.nil ?_
 refine WP.block ?_
 have hj5 : ∀ t : Tm, (((((t.set 0 (t.get 0)).set 3 (t.get 3)).set 9 (t.get 9)).set 10 (t.get 10)).set 11 (t.get 11)) = t := fun t => by kernel_rfl
 refine WP.loop (fun m s => ∃ (iL4 : Nat) (n3 : Nat), iL4 + m = W.l.length ∧ s.to.get 0 = .slice a1 (W.l.length) c2 ∧ s.to.get 3 = .int .i64 (.ofNat n3) ∧ s.to.get 9 = .slice a1 (W.l.length) c2 ∧ s.to.get 10 = .int .i64 (.ofNat (W.l.length)) ∧ s.to.get 11 = .int .i64 (.ofNat iL4) ∧ s.ds = [] ∧ s.cs = [] ∧ nx ≤ s.nx ∧ HE (nx) hp s.hp ∧ (n3 = ((W.l.take iL4).map (fun o => o.l.length)).sum)) ?_ (W.l.length) ?_
 ·
  rintro mL4 ⟨toL4, dsL4, hp6, nx7, csL4⟩ ⟨iL4, n3, him8, gL4_0, gL4_3, gL4_9, gL4_10, gL4_11, hdsL4, hcsL4, hn9, he10, hn3⟩
  simp only at gL4_0 gL4_3 gL4_9 gL4_10 gL4_11 hdsL4 hcsL4 hn9 he10
  subst hdsL4 hcsL4
  rw [← hj5 toL4, gL4_0, gL4_3, gL4_9, gL4_10, gL4_11]
  clear gL4_0 gL4_3 gL4_9 gL4_10 gL4_11
  have hE11 := hE.trans he10 (Nat.le_refl nx)
  have le12 := Nat.le_trans (Nat.le_refl nx) hn9
  have hb3 : n3 ≤ 60 := by rw [hn3, List.map_take]; exact Nat.le_trans (take_sum_le _ _) hs
  refine sr ?_
  obtain ⟨c13, e13, p13⟩ := @nb (ltI (.ofNat iL4) (.ofNat (W.l.length))) (((iL4 : Nat) : Int) < ((W.l.length : Nat) : Int)) (ltI_iff)
  refine ov 12 (.bool c13) ?_ (fun _ _ _ => by subst e13; kernel_rfl)
  refine WO.nil ?_
  refine WP.seq ?_
  refine WP.cond c13 (by kernel_rfl) (fun h14 => ?_) (fun h14 => ?_)
  ·
   have q15 := (p13).1 h14
   refine WP.skip ?_
   refine WP.seq ?_
   refine WP.block ?_
   refine sr ?_
   have hlt16 : iL4 < W.l.length := by omega
   refine WO.cons (WC.ix (k := .i64) a1 (W.l.length) c2 (iL4) 1 (by kernel_rfl) (by kernel_rfl) T_und41 T_size97 ((hW.1.mono hE11 le12).blkA hv3 (zl hlt16)) (hlt16) ?_)
   obtain ⟨x17, hx18⟩ : ∃ el_, W.l[iL4]? = some el_ := ⟨_, List.getElem?_eq_getElem (hlt16)⟩
   obtain ⟨a19, c20, hv21⟩ := (hW.2 x17 (List.mem_of_getElem? hx18)).shape
   have hsm21 := (hW.2 x17 (List.mem_of_getElem? hx18)).2.2
   refine WO.cons (WC.load1E (blk a1) (0 + (iL4) * 1) (.slice a19 (x17.l.length) c20) (by kernel_rfl) T_agg97 ((hW.1.mono hE11 le12).blkB hv3 (zl hlt16)) (flat_at1 (hW.1.mono hE11 le12).1 hx18 (by rw [← hv21]; rfl)) ?_)
   refine ov 5 (.slice a19 (x17.l.length) c20) ?_
   refine WO.nil ?_
   refine sr ?_
   refine ov 15 (.int .i64 (.ofNat n3)) ?_
   refine ov 16 (.slice a19 (x17.l.length) c20) ?_
   refine ov 17 (.int .i64 (.ofNat (x17.l.length))) ?_
   refine ov 18 (.int .i64 (.ofNat (n3 + x17.l.length))) ?_ (fun _ _ _ => by rw [← wrapAdd (show n3 + x17.l.length < 9223372036854775808 by omega)]; kernel_rfl)
   refine ov 3 (.int .i64 (.ofNat (n3 + x17.l.length))) ?_
   refine WO.nil ?_
   refine sr ?_
   refine ov 19 (.int .i64 (.ofNat (n3 + x17.l.length))) ?_
   obtain ⟨c22, e22, p22⟩ := @nb (ltI (.ofNat (n3 + x17.l.length)) (0)) (((n3 + x17.l.length : Nat) : Int) < (0)) (ltI_iff)
   refine ov 20 (.bool c22) ?_ (fun _ _ _ => by subst e22; kernel_rfl)
   refine WO.nil ?_
   refine WP.cond c22 (by kernel_rfl) (fun h23 => ?_) (fun h23 => ?_)
   ·
    have q24 := (p22).1 h23
    exact absurd q24 (by omega)
   ·
    have q24 := nq p22 h23
    refine WP.skip ?_
    refine WP.region ?_
    refine ov 22 (.int .i64 (.ofNat (iL4 + 1))) ?_ (fun _ _ _ => by rw [← wrapAdd (show iL4 + 1 < 9223372036854775808 by omega)]; kernel_rfl)
    refine ov 11 (.int .i64 (.ofNat (iL4 + 1))) ?_
    refine WO.nil ?_
    refine ⟨W.l.length - (iL4 + 1), by omega, iL4 + 1, n3 + x17.l.length, by omega, by kernel_rfl, by kernel_rfl, by kernel_rfl, by kernel_rfl, by kernel_rfl, rfl, rfl, ?_, ?_, ?_⟩
    · exact hn9
    · exact he10
    · rw [List.take_add_one, List.map_append, List.sum_append, hx18]
      simp only [Option.toList_some, List.map_cons, List.map_nil, List.sum_cons, List.sum_nil]
      omega
  ·
   have q15 := nq p13 h14
   refine WP.exit ?_
   refine sr ?_
   refine ov 23 (.int .i64 (.ofNat n3)) ?_
   refine WO.cons (WC.call 24 58 ([.slice none 0 0, .int .i64 (.ofNat n3)]) (fun _ _ _ => by kernel_rfl) ((grow_wf (n3) hp6 (nx7) (by omega)).mono ?_))
   rintro vG hp25 nx26 ⟨hrmG, hn27, he28⟩
   have hrm0 := hrmG.le le12
   have hE29 := hE11.trans he28 le12
   have le30 := Nat.le_trans le12 hn27
   refine ov 6 (vG) ?_
   refine WO.nil ?_
   refine WP.seq ?_
   refine sr ?_
   refine ov 25 (.slice a1 (W.l.length) c2) ?_
   refine ov 26 (.int .i64 (.ofNat (W.l.length))) ?_
   refine ov 27 (.int .i64 (0)) ?_
   refine WO.nil ?_
   refine WP.block ?_
   have hN : n3 = (W.l.map (fun o => o.l.length)).sum := by rw [hn3, List.take_of_length_le (by omega)]
   have hj32 : ∀ t : Tm, ((((t.set 6 (t.get 6)).set 25 (t.get 25)).set 26 (t.get 26)).set 27 (t.get 27)) = t := fun t => by kernel_rfl
   refine WP.loop (fun m s => ∃ (iL31 : Nat) (vr : Value), iL31 + m = W.l.length ∧ s.to.get 6 = vr ∧ s.to.get 25 = .slice a1 (W.l.length) c2 ∧ s.to.get 26 = .int .i64 (.ofNat (W.l.length)) ∧ s.to.get 27 = .int .i64 (.ofNat iL31) ∧ s.ds = [] ∧ s.cs = [] ∧ nx26 ≤ s.nx ∧ HE nx hp s.hp ∧ (Rm nx 4 n3 s.hp s.nx vr (((W.l.take iL31).map (fun o => o.l.length)).sum) ((W.l.take iL31).flatMap (fun o => o.l.flatMap encOutcome)))) ?_ (W.l.length) ?_
   ·
    rintro mL31 ⟨toL31, dsL31, hp33, nx34, csL31⟩ ⟨iL31, vr, him35, gL31_6, gL31_25, gL31_26, gL31_27, hdsL31, hcsL31, hn36, he37, hrm⟩
    simp only at gL31_6 gL31_25 gL31_26 gL31_27 hdsL31 hcsL31 hn36 he37 hrm
    subst hdsL31 hcsL31
    rw [← hj32 toL31, gL31_6, gL31_25, gL31_26, gL31_27]
    clear gL31_6 gL31_25 gL31_26 gL31_27
    have le38 := Nat.le_trans le30 hn36
    refine sr ?_
    obtain ⟨c39, e39, p39⟩ := @nb (ltI (.ofNat iL31) (.ofNat (W.l.length))) (((iL31 : Nat) : Int) < ((W.l.length : Nat) : Int)) (ltI_iff)
    refine ov 28 (.bool c39) ?_ (fun _ _ _ => by subst e39; kernel_rfl)
    refine WO.nil ?_
    refine WP.seq ?_
    refine WP.cond c39 (by kernel_rfl) (fun h40 => ?_) (fun h40 => ?_)
    ·
     have q41 := (p39).1 h40
     refine WP.skip ?_
     refine WP.seq ?_
     refine WP.block ?_
     refine sr ?_
     have hlt42 : iL31 < W.l.length := by omega
     refine WO.cons (WC.ix (k := .i64) a1 (W.l.length) c2 (iL31) 1 (by kernel_rfl) (by kernel_rfl) T_und41 T_size97 ((hW.1.mono he37 le38).blkA hv3 (zl hlt42)) (hlt42) ?_)
     obtain ⟨x43, hx44⟩ : ∃ el_, W.l[iL31]? = some el_ := ⟨_, List.getElem?_eq_getElem (hlt42)⟩
     obtain ⟨a45, c46, hv47⟩ := (hW.2 x43 (List.mem_of_getElem? hx44)).shape
     have hsm47 := (hW.2 x43 (List.mem_of_getElem? hx44)).2.2
     refine WO.cons (WC.load1E (blk a1) (0 + (iL31) * 1) (.slice a45 (x43.l.length) c46) (by kernel_rfl) T_agg97 ((hW.1.mono he37 le38).blkB hv3 (zl hlt42)) (flat_at1 (hW.1.mono he37 le38).1 hx44 (by rw [← hv47]; rfl)) ?_)
     refine ov 8 (.slice a45 (x43.l.length) c46) ?_
     refine WO.nil ?_
     refine WP.region ?_
     refine ov 31 (vr) ?_
     refine ov 32 (.slice a45 (x43.l.length) c46) ?_
     obtain ⟨inf, hinf, hby⟩ := info99
     have hlm : ((W.l.take iL31).map (fun o => o.l.length)).sum + x43.l.length ≤ n3 := by
      have := take_sum_le (W.l.map (fun o => o.l.length)) (iL31 + 1)
      rw [← List.map_take, List.take_add_one, List.map_append, List.sum_append, hx44] at this
      simp only [Option.toList_some, List.map_cons, List.map_nil, List.sum_cons, List.sum_nil] at this
      omega
     refine WO.cons (WC.appendR (m := x43.l.length) rfl (by kernel_rfl) (by kernel_rfl) hrm T_und97 T_size99 T_zero99 hinf appN_oc (((hW.2 x43 (List.mem_of_getElem? hx44)).mono he37 le38).src hv47) rfl (flat_len _ ((hW.2 x43 (List.mem_of_getElem? hx44)).mono he37 le38).1) (by simp [List.all_flatMap, encOutcome, one_int, one_bool]) (by decide) hlm hby (by omega) rfl ?_)
     rintro vq hpq heq hrmq
     have hE48 := he37.trans heq (Nat.le_refl nx)
     refine ov 6 (vq) ?_
     refine WO.nil ?_
     refine WP.region ?_
     refine ov 34 (.int .i64 (.ofNat (iL31 + 1))) ?_ (fun _ _ _ => by rw [← wrapAdd (show iL31 + 1 < 9223372036854775808 by omega)]; kernel_rfl)
     refine ov 27 (.int .i64 (.ofNat (iL31 + 1))) ?_
     refine WO.nil ?_
     refine ⟨W.l.length - (iL31 + 1), by omega, iL31 + 1, vq, by omega, by kernel_rfl, by kernel_rfl, by kernel_rfl, by kernel_rfl, rfl, rfl, ?_, ?_, ?_⟩
     · exact hn36
     · exact hE48
     · rw [List.take_add_one, hx44, List.map_append, List.sum_append, List.flatMap_append]
       simpa using hrmq
    ·
     have q41 := nq p39 h40
     refine WP.exit ?_
     refine sr ?_
     refine ov 35 (vr) ?_
     refine ov 2 (vr) ?_
     refine WO.nil ?_
     refine WP.ret ⟨rfl, rfl, [vr], by kernel_rfl, ?_⟩
     refine ⟨⟨⟨vr, W.l.flatMap (·.l)⟩, rfl, rfl, ?_⟩, le38, he37⟩
     have hT : W.l.take iL31 = W.l := List.take_of_length_le (by omega)
     rw [hT] at hrm
     exact hrm.ok hN.symm (by rw [List.flatMap_assoc]) (by rw [List.length_flatMap, hN]) (fun x _ => rfl) (by omega)
   ·
    exact ⟨0, vG, by omega, by kernel_rfl, by kernel_rfl, by kernel_rfl, by kernel_rfl, rfl, rfl, Nat.le_refl _, hE29, (by simpa using hrm0)⟩
 ·
  exact ⟨0, 0, by omega, by kernel_rfl, by kernel_rfl, by kernel_rfl, by kernel_rfl, by kernel_rfl, rfl, rfl, Nat.le_refl _, HE.refl _ _, (by simp)⟩
end
end Sw
