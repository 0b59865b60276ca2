/- A part of the proof that the law returns true for every input that its row speaks of. No condition is added. -/
import Derived.Test.YtcocjehgbbmpgaaGreatDoorSwAG
import Derived.Test.YtcocjehgbbmpgaaGreatDoorSwAE
import Derived.Deep.Slices
import Derived.OpenShut
import Derived.SizedLaws
namespace Sw
noncomputable section
open Go Go.Proofs Go.RowKit
set_option maxRecDepth 100000
set_option maxHeartbeats 1600000
def GoodT (t : RTotal) : Prop := (∀ s ∈ t.fSums.l, SpanOk s) ∧ SpSep t.fSums.l ∧ (t.fSums.l = [] → t.fOut = true)
open Classical in
def cnt (P : Nat → Prop) : Nat → Nat
  | 0 => 0
  | n + 1 => cnt P n + (if P n then 1 else 0)
theorem cnt_yes {P : Nat → Prop} {n : Nat} (h : P n) : cnt P (n + 1) = cnt P n + 1 := by simp [cnt, h]
theorem cnt_no {P : Nat → Prop} {n : Nat} (h : ¬ P n) : cnt P (n + 1) = cnt P n := by simp [cnt, h]
def LoP (W : SV RTotal) (k j : Nat) : Prop := ∃ t y, W.l[j]? = some t ∧ W.l[k]? = some y ∧ j ≠ k ∧ t.fSums.l ≠ [] ∧ t.fOut = false ∧ hiOf t < loOf y
def HiP (W : SV RTotal) (k j : Nat) : Prop := ∃ t y, W.l[j]? = some t ∧ W.l[k]? = some y ∧ j ≠ k ∧ t.fSums.l ≠ [] ∧ loOf t < hiOf y
def RankSays (W : SV RTotal) (p a b z : Int) : Prop := (z ≠ 0 → a = 0 ∧ b = 0) ∧ (z = 0 → (∀ t ∈ W.l, GoodT t) ∧ ∃ (k : Nat) (t : RTotal), p = .ofNat k ∧ W.l[k]? = some t ∧ ((t.fSums.l = [] ∧ a = 0 ∧ b = 0) ∨ (t.fSums.l ≠ [] ∧ a = .ofNat (1 + cnt (LoP W k) W.l.length) ∧ b = .ofNat (1 + cnt (HiP W k) W.l.length))))
theorem T_agg34 : ex.T.agg 34 = some true := by kernel_rfl
theorem T_agg4 : ex.T.agg 4 = some false := by kernel_rfl
theorem T_size34 : ex.T.size 34 = some 3 := by kernel_rfl
theorem T_und22 : ex.T.und 22 = some (.slice 34) := by kernel_rfl
theorem T_zero34 : ex.T.zero 34 = some (.agg ⟨[.int .i64 (0), .slice none (0) 0, .bool false]⟩) := by kernel_rfl
theorem rank_wf (W : SV RTotal) (p : Int) (hp : Ht) (nx : Nat) (hW : SlOk encTotal 3 (fun hp nx y => RTotalOk hp nx y) hp nx W) (hWl : W.l.length ≤ 8) (hfew : ∀ t ∈ W.l, t.fSums.l.length ≤ 8) : WF ex 6 [W.v, .int .i64 (p)] hp nx (fun v hp' nx' => ∃ a b z : Int, v = .tuple ⟨[.int .i64 a, .int .i64 b, .int .i64 z]⟩ ∧ RankSays W p a b z ∧ nx ≤ nx' ∧ HE nx hp hp') := by
 obtain ⟨a1, c2, hv3⟩ := hW.1.shape
 have hsm3 := hW.1.2.2
 rw [hv3]
 refine WF.body (fi := ⟨Tryz.f6.body.getD .skip, 106, [.tmp 4, .tmp 5, .tmp 6]⟩) (by kernel_rfl) (by kernel_rfl) (by kernel_rfl) rfl ?_
 have hE := HE.refl nx hp
 refine sr ?_
 refine ov 4 (.int .i64 (0)) ?_
 refine ov 5 (.int .i64 (0)) ?_
 refine ov 6 (.int .i64 (0)) ?_
 refine WO.nil ?_
 refine WP.seq ?_
 refine sr ?_
 refine ov 16 (.slice a1 (W.l.length) c2) ?_
 refine ov 17 (.int .i64 (.ofNat (W.l.length))) ?_
 refine ov 18 (.int .i64 (0)) ?_
 refine WO.nil ?_
 refine WP.block ?_
 have hj5 : ∀ t : Tm, (((((t.set 0 (t.get 0)).set 1 (t.get 1)).set 16 (t.get 16)).set 17 (t.get 17)).set 18 (t.get 18)) = t := fun t => by kernel_rfl
 refine WP.loop (fun m s => ∃ (iL4 : Nat), iL4 + m = W.l.length ∧ s.to.get 0 = .slice a1 (W.l.length) c2 ∧ s.to.get 1 = .int .i64 (p) ∧ s.to.get 16 = .slice a1 (W.l.length) c2 ∧ s.to.get 17 = .int .i64 (.ofNat (W.l.length)) ∧ s.to.get 18 = .int .i64 (.ofNat iL4) ∧ s.ds = [] ∧ s.cs = [] ∧ nx ≤ s.nx ∧ HE (nx) hp s.hp ∧ (∀ (j : Nat) (t : RTotal), j < iL4 → W.l[j]? = some t → GoodT t)) ?_ (W.l.length) ?_
 ·
  rintro mL4 ⟨toL4, dsL4, hp6, nx7, csL4⟩ ⟨iL4, him8, gL4_0, gL4_1, gL4_16, gL4_17, gL4_18, hdsL4, hcsL4, hn9, he10, hgood⟩
  simp only at gL4_0 gL4_1 gL4_16 gL4_17 gL4_18 hdsL4 hcsL4 hn9 he10
  subst hdsL4 hcsL4
  rw [← hj5 toL4, gL4_0, gL4_1, gL4_16, gL4_17, gL4_18]
  clear gL4_0 gL4_1 gL4_16 gL4_17 gL4_18
  have hE11 := hE.trans he10 (Nat.le_refl nx)
  have le12 := Nat.le_trans (Nat.le_refl nx) hn9
  refine sr ?_
  obtain ⟨c13, e13, p13⟩ := @nb (ltI (.ofNat iL4) (.ofNat (W.l.length))) (((iL4 : Nat) : Int) < ((W.l.length : Nat) : Int)) (ltI_iff)
  refine ov 19 (.bool c13) ?_ (fun _ _ _ => by subst e13; kernel_rfl)
  refine WO.nil ?_
  refine WP.seq ?_
  refine WP.cond c13 (by kernel_rfl) (fun h14 => ?_) (fun h14 => ?_)
  ·
   have q15 := (p13).1 h14
   refine WP.skip ?_
   refine WP.seq ?_
   refine WP.block ?_
   refine sr ?_
   have hlt16 : iL4 < W.l.length := by omega
   refine WO.cons (WC.ix (k := .i64) a1 (W.l.length) c2 (iL4) 3 (by kernel_rfl) (by kernel_rfl) T_und22 T_size34 ((hW.1.mono hE11 le12).blkA hv3 (zl hlt16)) (hlt16) ?_)
   obtain ⟨x17, hx18⟩ : ∃ el_, W.l[iL4]? = some el_ := ⟨_, List.getElem?_eq_getElem (hlt16)⟩
   refine WO.cons (WC.loadSE (blk a1) (0 + (iL4) * 3) (encTotal x17) (by kernel_rfl) T_agg34 T_size34 ((hW.1.mono hE11 le12).blkB hv3 (zl hlt16)) (flat_at0 (hW.1.mono hE11 le12).1 hx18) ?_)
   refine WO.cons (WC.alloc _ [.int .i64 (0), .slice none (0) 0, .bool false] rfl T_zero34 rfl ?_)
   obtain ⟨hp20, hx21, he22, hb23⟩ := boxed hp6 (nx7) [.int .i64 (0), .slice none (0) 0, .bool false]
   rw [hx21]; clear hx21
   have hE24 := hE11.trans he22 le12
   have hr25 := he10.trans he22 hn9
   have rl26 := Nat.le_trans hn9 (Nat.le_succ (nx7))
   have le27 := Nat.le_trans le12 (Nat.le_succ (nx7))
   refine WO.cons (WC.store1 nx7 (0) (.agg (encTotal x17).toArray) [.int .i64 (0), .slice none (0) 0, .bool false] (encTotal x17) (encTotal x17) 3 rfl (by kernel_rfl) (by kernel_rfl) T_size34 rfl (Bool.and_eq_true_iff.2 ⟨rfl, encTotal_one _ (hW.2 x17 (List.mem_of_getElem? hx18))⟩) hb23 rfl rfl rfl ?_)
   obtain ⟨hp28, hx29, he30, hb31, ho32⟩ := stored hp20 nx7 (.cells (encTotal x17) CMeta.plain)
   rw [hx29]; clear hx29
   have hE33 := hE24.trans he30 (by omega)
   have hr34 := hr25.trans he30 (by omega)
   refine WO.nil ?_
   refine sr ?_
   refine ov 23 (.pointer (some ⟨nx7, 0 + 1, none⟩)) ?_
   obtain ⟨a35, c36, hv37⟩ := (hW.2 x17 (List.mem_of_getElem? hx18)).fSums.shape
   have hsm37 := (hW.2 x17 (List.mem_of_getElem? hx18)).fSums.2.2
   refine WO.cons (WC.load1 nx7 (0 + 1) (.slice a35 (x17.fSums.l.length) c36) (by kernel_rfl) T_agg32 hb31 (by rw [← hv37]; rfl) ?_)
   refine WO.cons (WC.call 25 16 ([x17.fSums.v]) (fun _ _ _ => by (try rw [hv37]); kernel_rfl) ((spanSet_wf x17.fSums hp28 (nx7 + 1) ((hW.2 x17 (List.mem_of_getElem? hx18)).fSums.mono hE33 le27) (by have := hfew _ (List.mem_of_getElem? hx18); omega)).mono ?_))
   rintro _ hp38 nx39 ⟨J, z, rfl, hJok, hz, hn40, he41⟩
   have hE42 := hE33.trans he41 le27
   have hb43 := he41.get hb31 (Nat.lt_succ_self (nx7))
   have lt44 := Nat.lt_of_lt_of_le (Nat.lt_succ_self (nx7)) hn40
   have hr45 := hr34.trans he41 rl26
   have rl46 := Nat.le_trans rl26 hn40
   have le47 := Nat.le_trans le27 hn40
   have hr48 := HE.refl (nx39) hp38
   have rl49 := Nat.le_refl (nx39)
   obtain ⟨a50, c51, hv52⟩ := hJok.shape
   have hsm52 := hJok.2.2
   rw [hv52]
   refine ov 22 (.tuple ⟨[.slice a50 (J.l.length) c51, .int .i64 (z)]⟩) ?_
   refine ov 26 (.slice a50 (J.l.length) c51) ?_
   refine ov 27 (.int .i64 (z)) ?_
   refine ov 9 (.slice a50 (J.l.length) c51) ?_
   refine ov 10 (.int .i64 (z)) ?_
   refine WO.nil ?_
   refine sr ?_
   refine ov 28 (.int .i64 (z)) ?_
   obtain ⟨c53, e53, p53⟩ := @nb ((!(eqI (z) (0)))) ((z) ≠ (0)) (neI_iff)
   refine ov 29 (.bool c53) ?_ (fun _ _ _ => by subst e53; kernel_rfl)
   refine ov 30 (.bool c53) ?_
   refine og 30 (!c53) (.slice a50 (J.l.length) c51) (.bool c53) (by cases c53 <;> rfl) (fun h => by obtain rfl := bF h; exact fun _ _ _ => by kernel_rfl) ?_
   refine og 30 (!c53) (.pointer (some ⟨nx7, 0 + 1, none⟩)) (.bool c53) (by cases c53 <;> rfl) (fun h => by obtain rfl := bF h; exact fun _ _ _ => by kernel_rfl) ?_
   refine ogc 30 (!c53) (.slice a35 (x17.fSums.l.length) c36) (.bool c53) (by cases c53 <;> rfl) (fun h => by obtain rfl := bF h; exact WC.load1 nx7 (0 + 1) (.slice a35 (x17.fSums.l.length) c36) (by kernel_rfl) T_agg32 hb43 (by rw [← hv37]; rfl) rfl) ?_
   refine WO.cons (WC.gq (!c53) (GB (!c53) (J.l = x17.fSums.l) (nx39) hp38) (.bool c53) (g := opd (.tmp 30)) rfl (by kernel_rfl) (by cases c53 <;> rfl) (fun h => by obtain rfl : c53 = false := (by simpa using h); have q0 : ¬ ((z) ≠ (0)) := (fun k => absurd ((p53).2 k) (by decide)); exact WC.call 34 17 ([J.v, x17.fSums.v]) (fun _ _ _ => by (try rw [hv52]); (try rw [hv37]); kernel_rfl) ((equal_wf J x17.fSums hp38 (nx39) (hJok.mono hr48 rl49) ((hW.2 x17 (List.mem_of_getElem? hx18)).fSums.mono hE42 le47)).mono fun v hp' nx' ⟨⟨c, hv, hc⟩, hn, he⟩ => ⟨_, _, _, rfl, ⟨c, hv, hc⟩, hn, he⟩)) (fun h => GB.off h) ?_)
   rintro _ hp54 nx55 ⟨⟨c58, rfl, p58⟩, hn56, he57⟩
   have hE59 := hE42.trans he57 le47
   have hb60 := he57.get hb43 lt44
   have hr62 := hr45.trans he57 rl46
   have rl63 := Nat.le_trans rl46 hn56
   have le66 := Nat.le_trans le47 hn56
   obtain ⟨c67, e67, p67⟩ := @nb (!c58) (¬ (J.l = x17.fSums.l)) (by rw [Bool.not_eq_true', ← Bool.not_eq_true, p58])
   refine og 30 (!c53) (.bool c67) (.bool c53) (by cases c53 <;> rfl) (fun h => by obtain rfl := bF h; exact fun _ _ _ => by subst e67; kernel_rfl) ?_
   obtain ⟨c68, e68, p68⟩ := @nb ((c53 || c67)) (((z) ≠ (0)) ∨ (¬ (J.l = x17.fSums.l))) (by rw [Bool.or_eq_true, p53, p67])
   refine WO.cons (WC.opt (v := .bool c68) 36 (ePick (.bool c53) (.bool true) ((bif !c53 then .bool c67 else undef))) (fun _ _ _ => by kernel_rfl) (by rw [e68]; exact ePick_or (fun h => by obtain rfl : c53 = false := h; rfl)) ?_)
   refine ov 37 (.bool c68) ?_
   refine og 37 (!c68) (.slice a50 (J.l.length) c51) (.bool c68) (by cases c68 <;> rfl) (fun h => by obtain rfl := bF h; exact fun _ _ _ => by kernel_rfl) ?_
   refine og 37 (!c68) (.int .i64 (.ofNat (J.l.length))) (.bool c68) (by cases c68 <;> rfl) (fun h => by obtain rfl := bF h; exact fun _ _ _ => by kernel_rfl) ?_
   obtain ⟨c69, e69, p69⟩ := @nb (eqI (.ofNat (J.l.length)) (0)) (((J.l.length : Nat) : Int) = (0)) (eqI_iff)
   refine og 37 (!c68) (.bool c69) (.bool c68) (by cases c68 <;> rfl) (fun h => by obtain rfl := bF h; exact fun _ _ _ => by subst e69; kernel_rfl) ?_
   refine og 37 (!c68) (.bool c69) (.bool c68) (by cases c68 <;> rfl) (fun h => by obtain rfl := bF h; exact fun _ _ _ => by kernel_rfl) ?_
   refine og 41 (!c68 && c69) (.pointer (some ⟨nx7, 0 + 2, none⟩)) ((bif !c68 then .bool c69 else undef)) (by cases c68 <;> cases c69 <;> rfl) (fun h => by obtain ⟨rfl, rfl⟩ := bFT h; exact fun _ _ _ => by kernel_rfl) ?_
   obtain ⟨c70, e70, p70⟩ := @nb (x17.fOut) (x17.fOut = true) (by first | done | exact Iff.rfl)
   refine ogc 41 (!c68 && c69) (.bool c70) ((bif !c68 then .bool c69 else undef)) (by cases c68 <;> cases c69 <;> rfl) (fun h => by obtain ⟨rfl, rfl⟩ := bFT h; exact WC.load1 nx7 (0 + 2) (.bool c70) (by kernel_rfl) T_agg4 hb60 (by rw [e70]; rfl) rfl) ?_
   obtain ⟨c71, e71, p71⟩ := @nb (!c70) (¬ (x17.fOut = true)) (by rw [Bool.not_eq_true', ← Bool.not_eq_true, p70])
   refine og 41 (!c68 && c69) (.bool c71) ((bif !c68 then .bool c69 else undef)) (by cases c68 <;> cases c69 <;> rfl) (fun h => by obtain ⟨rfl, rfl⟩ := bFT h; exact fun _ _ _ => by subst e71; kernel_rfl) ?_
   obtain ⟨c72, e72, p72⟩ := @nb ((c69 && c71)) ((((J.l.length : Nat) : Int) = (0)) ∧ (¬ (x17.fOut = true))) (by rw [Bool.and_eq_true, p69, p71])
   refine ogc 37 (!c68) (.bool c72) (.bool c68) (by cases c68 <;> rfl) (fun h => by obtain rfl := bF h; exact WC.opt (v := .bool c72) 45 (ePick (.bool c69) ((bif !false && c69 then .bool c71 else undef)) (.bool false)) (fun _ _ _ => by kernel_rfl) (by rw [e72]; exact ePick_and (fun h => by obtain rfl : c69 = true := h; rfl)) rfl) ?_
   obtain ⟨c73, e73, p73⟩ := @nb ((c68 || c72)) ((((z) ≠ (0)) ∨ (¬ (J.l = x17.fSums.l))) ∨ ((((J.l.length : Nat) : Int) = (0)) ∧ (¬ (x17.fOut = true)))) (by rw [Bool.or_eq_true, p68, p72])
   refine WO.cons (WC.opt (v := .bool c73) 46 (ePick (.bool c68) (.bool true) ((bif !c68 then .bool c72 else undef))) (fun _ _ _ => by kernel_rfl) (by rw [e73]; exact ePick_or (fun h => by obtain rfl : c68 = false := h; rfl)) ?_)
   refine WO.nil ?_
   refine WP.cond c73 (by kernel_rfl) (fun h74 => ?_) (fun h74 => ?_)
   ·
    have q75 := (p73).1 h74
    refine sr ?_
    refine ov 4 (.int .i64 (0)) ?_
    refine ov 5 (.int .i64 (0)) ?_
    refine ov 6 (.int .i64 (320)) ?_
    refine WO.nil ?_
    refine WP.ret ⟨rfl, rfl, [.int .i64 (0), .int .i64 (0), .int .i64 (320)], by kernel_rfl, ?_⟩
    exact ⟨0, 0, 320, rfl, ⟨fun _ => ⟨rfl, rfl⟩, fun h => absurd h (by decide)⟩, le66, hE59⟩
   ·
    have q75 := nq p73 h74
    refine WP.skip ?_
    refine WP.region ?_
    refine ov 47 (.int .i64 (.ofNat (iL4 + 1))) ?_ (fun _ _ _ => by rw [← wrapAdd (show iL4 + 1 < 9223372036854775808 by omega)]; kernel_rfl)
    refine ov 18 (.int .i64 (.ofNat (iL4 + 1))) ?_
    refine WO.nil ?_
    refine ⟨W.l.length - (iL4 + 1), by omega, iL4 + 1, by omega, by kernel_rfl, by kernel_rfl, by kernel_rfl, by kernel_rfl, by kernel_rfl, rfl, rfl, ?_, ?_, ?_⟩
    · exact rl63
    · exact hr62
    · intro j t hj ht
      rcases Nat.lt_succ_iff_lt_or_eq.1 hj with hj | rfl
      · exact hgood j t hj ht
      · rw [hx18] at ht; cases ht
        have q1 := not_or.1 q75; have q2 := not_or.1 q1.1
        have hz0 := hz (Classical.not_not.1 q2.1)
        have hJe := Classical.not_not.1 q2.2
        exact ⟨hz0.1, hJe ▸ hz0.2, fun h0 => Classical.byContradiction fun ho => q1.2 ⟨by rw [hJe, h0]; rfl, ho⟩⟩
  ·
   have q15 := nq p13 h14
   refine WP.exit ?_
   refine WP.seq ?_
   refine sr ?_
   refine ov 48 (.int .i64 (p)) ?_
   obtain ⟨c76, e76, p76⟩ := @nb (ltI (p) (0)) ((p) < (0)) (ltI_iff)
   refine ov 49 (.bool c76) ?_ (fun _ _ _ => by subst e76; kernel_rfl)
   refine ov 50 (.bool c76) ?_
   refine og 50 (!c76) (.int .i64 (p)) (.bool c76) (by cases c76 <;> rfl) (fun h => by obtain rfl := bF h; exact fun _ _ _ => by kernel_rfl) ?_
   refine og 50 (!c76) (.slice a1 (W.l.length) c2) (.bool c76) (by cases c76 <;> rfl) (fun h => by obtain rfl := bF h; exact fun _ _ _ => by kernel_rfl) ?_
   refine og 50 (!c76) (.int .i64 (.ofNat (W.l.length))) (.bool c76) (by cases c76 <;> rfl) (fun h => by obtain rfl := bF h; exact fun _ _ _ => by kernel_rfl) ?_
   obtain ⟨c77, e77, p77⟩ := @nb (leI (.ofNat (W.l.length)) (p)) (((W.l.length : Nat) : Int) ≤ (p)) (leI_iff)
   refine og 50 (!c76) (.bool c77) (.bool c76) (by cases c76 <;> rfl) (fun h => by obtain rfl := bF h; exact fun _ _ _ => by subst e77; kernel_rfl) ?_
   obtain ⟨c78, e78, p78⟩ := @nb ((c76 || c77)) (((p) < (0)) ∨ (((W.l.length : Nat) : Int) ≤ (p))) (by rw [Bool.or_eq_true, p76, p77])
   refine WO.cons (WC.opt (v := .bool c78) 55 (ePick (.bool c76) (.bool true) ((bif !c76 then .bool c77 else undef))) (fun _ _ _ => by kernel_rfl) (by rw [e78]; exact ePick_or (fun h => by obtain rfl : c76 = false := h; rfl)) ?_)
   refine WO.nil ?_
   refine WP.cond c78 (by kernel_rfl) (fun h79 => ?_) (fun h79 => ?_)
   ·
    have q80 := (p78).1 h79
    refine sr ?_
    refine ov 4 (.int .i64 (0)) ?_
    refine ov 5 (.int .i64 (0)) ?_
    refine ov 6 (.int .i64 (1)) ?_
    refine WO.nil ?_
    refine WP.ret ⟨rfl, rfl, [.int .i64 (0), .int .i64 (0), .int .i64 (1)], by kernel_rfl, ?_⟩
    exact ⟨0, 0, 1, rfl, ⟨fun _ => ⟨rfl, rfl⟩, fun h => absurd h (by decide)⟩, le12, hE11⟩
   ·
    have q80 := nq p78 h79
    refine WP.skip ?_
    refine WP.seq ?_
    obtain ⟨k, hk⟩ : ∃ k : Nat, p = (k : Int) := ⟨p.toNat, by omega⟩
    have hkl : k < W.l.length := by omega
    have hk2 : p = .ofNat k := hk
    clear hk; subst hk2
    have hall : ∀ t ∈ W.l, GoodT t := fun t ht => by obtain ⟨j, hj⟩ := List.getElem?_of_mem ht; exact hgood j t (by have := (List.getElem?_eq_some_iff.1 hj).1; omega) hj
    ·
     refine WP.region ?_
     refine ov 11 (.func (.func 18) #[] #[]) ?_
     refine WO.nil ?_
     refine sr ?_
     refine ov 12 (.func (.func 19) #[] #[]) ?_
     refine WO.nil ?_
     refine sr ?_
     refine ov 56 (.slice a1 (W.l.length) c2) ?_
     refine ov 57 (.int .i64 (.ofNat k)) ?_
     have hlt81 : k < W.l.length := by omega
     refine WO.cons (WC.ix (k := .i64) a1 (W.l.length) c2 (k) 3 (by kernel_rfl) (by kernel_rfl) T_und22 T_size34 ((hW.1.mono hE11 le12).blkA hv3 (zl hlt81)) (hlt81) ?_)
     obtain ⟨x82, hx83⟩ : ∃ el_, W.l[k]? = some el_ := ⟨_, List.getElem?_eq_getElem (hlt81)⟩
     refine WO.cons (WC.loadSE (blk a1) (0 + (k) * 3) (encTotal x82) (by kernel_rfl) T_agg34 T_size34 ((hW.1.mono hE11 le12).blkB hv3 (zl hlt81)) (flat_at0 (hW.1.mono hE11 le12).1 hx83) ?_)
     refine WO.cons (WC.alloc _ [.int .i64 (0), .slice none (0) 0, .bool false] rfl T_zero34 rfl ?_)
     obtain ⟨hp85, hx86, he87, hb88⟩ := boxed hp6 (nx7) [.int .i64 (0), .slice none (0) 0, .bool false]
     rw [hx86]; clear hx86
     have hE89 := hE11.trans he87 le12
     have le90 := Nat.le_trans le12 (Nat.le_succ (nx7))
     refine WO.cons (WC.store1 nx7 (0) (.agg (encTotal x82).toArray) [.int .i64 (0), .slice none (0) 0, .bool false] (encTotal x82) (encTotal x82) 3 rfl (by kernel_rfl) (by kernel_rfl) T_size34 rfl (Bool.and_eq_true_iff.2 ⟨rfl, encTotal_one _ (hW.2 x82 (List.mem_of_getElem? hx83))⟩) hb88 rfl rfl rfl ?_)
     obtain ⟨hp91, hx92, he93, hb94, ho95⟩ := stored hp85 nx7 (.cells (encTotal x82) CMeta.plain)
     rw [hx92]; clear hx92
     have hE96 := hE89.trans he93 (by omega)
     refine WO.nil ?_
     refine WP.seq ?_
     refine sr ?_
     refine ov 60 (.pointer (some ⟨nx7, 0 + 1, none⟩)) ?_
     obtain ⟨a97, c98, hv99⟩ := (hW.2 x82 (List.mem_of_getElem? hx83)).fSums.shape
     have hsm99 := (hW.2 x82 (List.mem_of_getElem? hx83)).fSums.2.2
     refine WO.cons (WC.load1 nx7 (0 + 1) (.slice a97 (x82.fSums.l.length) c98) (by kernel_rfl) T_agg32 hb94 (by rw [← hv99]; rfl) ?_)
     refine ov 62 (.int .i64 (.ofNat (x82.fSums.l.length))) ?_
     obtain ⟨c100, e100, p100⟩ := @nb (eqI (.ofNat (x82.fSums.l.length)) (0)) (((x82.fSums.l.length : Nat) : Int) = (0)) (eqI_iff)
     refine ov 63 (.bool c100) ?_ (fun _ _ _ => by subst e100; kernel_rfl)
     refine WO.nil ?_
     refine WP.cond c100 (by kernel_rfl) (fun h101 => ?_) (fun h101 => ?_)
     ·
      have q102 := (p100).1 h101
      refine sr ?_
      refine ov 4 (.int .i64 (0)) ?_
      refine ov 5 (.int .i64 (0)) ?_
      refine ov 6 (.int .i64 (0)) ?_
      refine WO.nil ?_
      refine WP.ret ⟨rfl, rfl, [.int .i64 (0), .int .i64 (0), .int .i64 (0)], by kernel_rfl, ?_⟩
      exact ⟨0, 0, 0, rfl, ⟨fun h => absurd rfl h, fun _ => ⟨hall, k, x82, rfl, hx83, .inl ⟨List.eq_nil_of_length_eq_zero (by omega), rfl, rfl⟩⟩⟩, le90, hE96⟩
     ·
      have q102 := nq p100 h101
      refine WP.skip ?_
      refine WP.seq ?_
      ·
       refine WP.region ?_
       refine ov 4 (.int .i64 (1)) ?_
       refine ov 5 (.int .i64 (1)) ?_
       refine WO.nil ?_
       refine WP.seq ?_
       refine sr ?_
       refine ov 64 (.slice a1 (W.l.length) c2) ?_
       refine ov 65 (.int .i64 (.ofNat (W.l.length))) ?_
       refine ov 66 (.int .i64 (0)) ?_
       refine WO.nil ?_
       refine WP.block ?_
       have hj104 : ∀ t : Tm, (((((((((t.set 1 (t.get 1)).set 4 (t.get 4)).set 5 (t.get 5)).set 11 (t.get 11)).set 12 (t.get 12)).set 13 (t.get 13)).set 64 (t.get 64)).set 65 (t.get 65)).set 66 (t.get 66)) = t := fun t => by kernel_rfl
       refine WP.loop (fun m s => ∃ (iL103 : Nat) (cA : Nat) (cB : Nat), iL103 + m = W.l.length ∧ s.to.get 1 = .int .i64 (.ofNat k) ∧ s.to.get 4 = .int .i64 (.ofNat (1 + cA)) ∧ s.to.get 5 = .int .i64 (.ofNat (1 + cB)) ∧ s.to.get 11 = .func (.func 18) #[] #[] ∧ s.to.get 12 = .func (.func 19) #[] #[] ∧ s.to.get 13 = .pointer (some ⟨nx7, 0, none⟩) ∧ s.to.get 64 = .slice a1 (W.l.length) c2 ∧ s.to.get 65 = .int .i64 (.ofNat (W.l.length)) ∧ s.to.get 66 = .int .i64 (.ofNat iL103) ∧ s.ds = [] ∧ s.cs = [] ∧ nx7 + 1 ≤ s.nx ∧ HE (nx7 + 1) hp91 s.hp ∧ (cA = cnt (LoP W k) iL103) ∧ (cB = cnt (HiP W k) iL103) ∧ (cA ≤ iL103) ∧ (cB ≤ iL103)) ?_ (W.l.length) ?_
       ·
        rintro mL103 ⟨toL103, dsL103, hp105, nx106, csL103⟩ ⟨iL103, cA, cB, him107, gL103_1, gL103_4, gL103_5, gL103_11, gL103_12, gL103_13, gL103_64, gL103_65, gL103_66, hdsL103, hcsL103, hn108, he109, hcA, hcB, hbA, hbB⟩
        simp only at gL103_1 gL103_4 gL103_5 gL103_11 gL103_12 gL103_13 gL103_64 gL103_65 gL103_66 hdsL103 hcsL103 hn108 he109
        subst hdsL103 hcsL103
        rw [← hj104 toL103, gL103_1, gL103_4, gL103_5, gL103_11, gL103_12, gL103_13, gL103_64, gL103_65, gL103_66]
        clear gL103_1 gL103_4 gL103_5 gL103_11 gL103_12 gL103_13 gL103_64 gL103_65 gL103_66
        have hE110 := hE96.trans he109 le90
        have hb111 := he109.get hb94 (Nat.lt_succ_self (nx7))
        have lt112 := Nat.lt_of_lt_of_le (Nat.lt_succ_self (nx7)) hn108
        have le113 := Nat.le_trans le90 hn108
        refine sr ?_
        obtain ⟨c114, e114, p114⟩ := @nb (ltI (.ofNat iL103) (.ofNat (W.l.length))) (((iL103 : Nat) : Int) < ((W.l.length : Nat) : Int)) (ltI_iff)
        refine ov 67 (.bool c114) ?_ (fun _ _ _ => by subst e114; kernel_rfl)
        refine WO.nil ?_
        refine WP.seq ?_
        refine WP.cond c114 (by kernel_rfl) (fun h115 => ?_) (fun h115 => ?_)
        ·
         have q116 := (p114).1 h115
         refine WP.skip ?_
         refine WP.seq ?_
         refine WP.block ?_
         refine sr ?_
         refine ov 68 (.int .i64 (.ofNat iL103)) ?_
         have hlt117 : iL103 < W.l.length := by omega
         refine WO.cons (WC.ix (k := .i64) a1 (W.l.length) c2 (iL103) 3 (by kernel_rfl) (by kernel_rfl) T_und22 T_size34 ((hW.1.mono hE110 le113).blkA hv3 (zl hlt117)) (hlt117) ?_)
         obtain ⟨x118, hx119⟩ : ∃ el_, W.l[iL103]? = some el_ := ⟨_, List.getElem?_eq_getElem (hlt117)⟩
         refine WO.cons (WC.loadSE (blk a1) (0 + (iL103) * 3) (encTotal x118) (by kernel_rfl) T_agg34 T_size34 ((hW.1.mono hE110 le113).blkB hv3 (zl hlt117)) (flat_at0 (hW.1.mono hE110 le113).1 hx119) ?_)
         refine WO.cons (WC.alloc _ [.int .i64 (0), .slice none (0) 0, .bool false] rfl T_zero34 rfl ?_)
         obtain ⟨hp121, hx122, he123, hb124⟩ := boxed hp105 (nx106) [.int .i64 (0), .slice none (0) 0, .bool false]
         rw [hx122]; clear hx122
         have hE125 := hE110.trans he123 le113
         have hb126 := he123.get hb111 lt112
         have lt127 := Nat.lt_of_lt_of_le lt112 (Nat.le_succ (nx106))
         have hr128 := he109.trans he123 hn108
         have rl129 := Nat.le_trans hn108 (Nat.le_succ (nx106))
         have le130 := Nat.le_trans le113 (Nat.le_succ (nx106))
         refine ov 14 (.int .i64 (.ofNat iL103)) ?_
         refine WO.cons (WC.store1 nx106 (0) (.agg (encTotal x118).toArray) [.int .i64 (0), .slice none (0) 0, .bool false] (encTotal x118) (encTotal x118) 3 rfl (by kernel_rfl) (by kernel_rfl) T_size34 rfl (Bool.and_eq_true_iff.2 ⟨rfl, encTotal_one _ (hW.2 x118 (List.mem_of_getElem? hx119))⟩) hb124 rfl rfl rfl ?_)
         obtain ⟨hp131, hx132, he133, hb134, ho135⟩ := stored hp121 nx106 (.cells (encTotal x118) CMeta.plain)
         rw [hx132]; clear hx132
         have hE136 := hE125.trans he133 (by omega)
         have hr137 := hr128.trans he133 (by omega)
         have hb138 := (ho135 nx7 (by omega)).trans hb126
         refine WO.nil ?_
         refine WP.seq ?_
         refine sr ?_
         refine ov 71 (.int .i64 (.ofNat iL103)) ?_
         refine ov 72 (.int .i64 (.ofNat k)) ?_
         obtain ⟨c139, e139, p139⟩ := @nb (eqI (.ofNat iL103) (.ofNat k)) (((iL103 : Nat) : Int) = ((k : Nat) : Int)) (eqI_iff)
         refine ov 73 (.bool c139) ?_ (fun _ _ _ => by subst e139; kernel_rfl)
         refine ov 74 (.bool c139) ?_
         refine og 74 (!c139) (.pointer (some ⟨nx106, 0 + 1, none⟩)) (.bool c139) (by cases c139 <;> rfl) (fun h => by obtain rfl := bF h; exact fun _ _ _ => by kernel_rfl) ?_
         obtain ⟨a140, c141, hv142⟩ := (hW.2 x118 (List.mem_of_getElem? hx119)).fSums.shape
         have hsm142 := (hW.2 x118 (List.mem_of_getElem? hx119)).fSums.2.2
         refine ogc 74 (!c139) (.slice a140 (x118.fSums.l.length) c141) (.bool c139) (by cases c139 <;> rfl) (fun h => by obtain rfl := bF h; exact WC.load1 nx106 (0 + 1) (.slice a140 (x118.fSums.l.length) c141) (by kernel_rfl) T_agg32 hb134 (by rw [← hv142]; rfl) rfl) ?_
         refine og 74 (!c139) (.int .i64 (.ofNat (x118.fSums.l.length))) (.bool c139) (by cases c139 <;> rfl) (fun h => by obtain rfl := bF h; exact fun _ _ _ => by kernel_rfl) ?_
         obtain ⟨c143, e143, p143⟩ := @nb (eqI (.ofNat (x118.fSums.l.length)) (0)) (((x118.fSums.l.length : Nat) : Int) = (0)) (eqI_iff)
         refine og 74 (!c139) (.bool c143) (.bool c139) (by cases c139 <;> rfl) (fun h => by obtain rfl := bF h; exact fun _ _ _ => by subst e143; kernel_rfl) ?_
         obtain ⟨c144, e144, p144⟩ := @nb ((c139 || c143)) ((((iL103 : Nat) : Int) = ((k : Nat) : Int)) ∨ (((x118.fSums.l.length : Nat) : Int) = (0))) (by rw [Bool.or_eq_true, p139, p143])
         refine WO.cons (WC.opt (v := .bool c144) 79 (ePick (.bool c139) (.bool true) ((bif !c139 then .bool c143 else undef))) (fun _ _ _ => by kernel_rfl) (by rw [e144]; exact ePick_or (fun h => by obtain rfl : c139 = false := h; rfl)) ?_)
         refine WO.nil ?_
         refine WP.cond c144 (by kernel_rfl) (fun h145 => ?_) (fun h145 => ?_)
         ·
          have q146 := (p144).1 h145
          refine WP.exit ?_
          refine WP.region ?_
          refine ov 103 (.int .i64 (.ofNat (iL103 + 1))) ?_ (fun _ _ _ => by rw [← wrapAdd (show iL103 + 1 < 9223372036854775808 by omega)]; kernel_rfl)
          refine ov 66 (.int .i64 (.ofNat (iL103 + 1))) ?_
          refine WO.nil ?_
          refine ⟨W.l.length - (iL103 + 1), by omega, iL103 + 1, cA, cB, by omega, by kernel_rfl, by kernel_rfl, by kernel_rfl, by kernel_rfl, by kernel_rfl, by kernel_rfl, by kernel_rfl, by kernel_rfl, by kernel_rfl, rfl, rfl, ?_, ?_, ?_, ?_, ?_, ?_⟩
          · exact rl129
          · exact hr137
          · rw [cnt_no, hcA]
            rintro ⟨t, y, h1, h2, h3, h4, h5⟩
            rw [hx119] at h1; cases h1
            rcases q146 with h | h
            · exact h3 (by omega)
            · exact h4 (List.eq_nil_of_length_eq_zero (by omega))
          · rw [cnt_no, hcB]
            rintro ⟨t, y, h1, h2, h3, h4, h5⟩
            rw [hx119] at h1; cases h1
            rcases q146 with h | h
            · exact h3 (by omega)
            · exact h4 (List.eq_nil_of_length_eq_zero (by omega))
          · omega
          · omega
         ·
          have q146 := nq p144 h145
          refine WP.skip ?_
          refine WP.seq ?_
          refine WP.seq ?_
          refine WP.drawS [⟨[0, 1, 2, 3, 4, 5, 7, 8], [0, 1, 2, 3, 4, 5, 7, 8], some 6⟩, ⟨[], [7, 8], some 9⟩, ⟨[10, 11], [10, 11], none⟩] (by kernel_rfl) _ rfl ?_
          refine WD.eff ?_
          refine nv 80 (.pointer (some ⟨nx106, 0 + 2, none⟩)) ?_
          obtain ⟨c147, e147, p147⟩ := @nb (x118.fOut) (x118.fOut = true) (by first | done | exact Iff.rfl)
          refine WN.consAt rfl (WC.load1 nx106 (0 + 2) (.bool c147) (by kernel_rfl) T_agg4 hb134 (by rw [e147]; rfl) ?_)
          obtain ⟨c148, e148, p148⟩ := @nb (!c147) (¬ (x118.fOut = true)) (by rw [Bool.not_eq_true', ← Bool.not_eq_true, p147])
          refine nv 82 (.bool c148) ?_ (fun _ _ _ => by subst e148; kernel_rfl)
          refine nv 83 (.bool c148) ?_
          refine ng rfl 83 (c148) (.func (.func 19) #[] #[]) (.bool c148) (by cases c148 <;> rfl) (fun h => by obtain rfl := h; exact fun _ _ _ => by kernel_rfl) ?_
          refine ngc rfl 83 (c148) (.agg (encTotal x118).toArray) (.bool c148) (by cases c148 <;> rfl) (fun h => by obtain rfl := h; exact WC.loadS nx106 (0) (encTotal x118) (by kernel_rfl) T_agg34 T_size34 hb134 rfl rfl) ?_
          refine ng rfl 83 (c148) (.func (.func 18) #[] #[]) (.bool c148) (by cases c148 <;> rfl) (fun h => by obtain rfl := h; exact fun _ _ _ => by kernel_rfl) ?_
          refine ngc rfl 83 (c148) (.agg (encTotal x82).toArray) (.bool c148) (by cases c148 <;> rfl) (fun h => by obtain rfl := h; exact WC.loadS nx7 (0) (encTotal x82) (by kernel_rfl) T_agg34 T_size34 hb138 rfl rfl) ?_
          refine WN.nil ⟨?_, ?_⟩
          ·
           refine cv (.pointer (some ⟨nx106, 0 + 2, none⟩)) (vEq_ptr ..) ?_
           refine co (.bool c147) (eLoad ex.T hp131.get 4 (.pointer (some ⟨nx106, 0 + 2, none⟩))) (eLoad_one T_agg4 hb134 (by rw [e147]; rfl)) (vEq_bool 8 c147) ?_
           refine cv (.bool c148) (vEq_bool 8 c148) ?_ (fun _ => by subst e148; kernel_rfl)
           refine cv (.bool c148) (vEq_bool 8 c148) ?_
           refine cg rfl 83 (c148) (.func (.func 19) #[] #[]) (.bool c148) (by cases c148 <;> rfl) (fun h => by obtain rfl := h; exact chkV1 (.func (.func 19) #[] #[]) (fun _ => by kernel_rfl) (by kernel_rfl)) ?_
           refine cg rfl 83 (c148) (.agg (encTotal x118).toArray) (.bool c148) (by cases c148 <;> rfl) (fun h => by obtain rfl := h; exact chkO1 (.agg (encTotal x118).toArray) (eLoad ex.T hp131.get 34 (.pointer (some ⟨nx106, 0, none⟩))) (fun _ => by kernel_rfl) (eLoad_agg T_agg34 T_size34 hb134 rfl) (encTotal_vEq x118 (hW.2 x118 (List.mem_of_getElem? hx119)))) ?_
           refine cg rfl 83 (c148) (.func (.func 18) #[] #[]) (.bool c148) (by cases c148 <;> rfl) (fun h => by obtain rfl := h; exact chkV1 (.func (.func 18) #[] #[]) (fun _ => by kernel_rfl) (by kernel_rfl)) ?_
           refine cg rfl 83 (c148) (.agg (encTotal x82).toArray) (.bool c148) (by cases c148 <;> rfl) (fun h => by obtain rfl := h; exact chkO1 (.agg (encTotal x82).toArray) (eLoad ex.T hp131.get 34 (.pointer (some ⟨nx7, 0, none⟩))) (fun _ => by kernel_rfl) (eLoad_agg T_agg34 T_size34 hb138 rfl) (encTotal_vEq x82 (hW.2 x82 (List.mem_of_getElem? hx83)))) ?_
           exact Chks.nil
          refine WC.at rfl (WC.gq (c148) (GV (c148) (.int .i64 (hiOf x118)) (nx106 + 1) hp131) (.bool c148) (g := opd (.tmp 83)) rfl (by kernel_rfl) (by cases c148 <;> rfl) (fun h => by obtain rfl : c148 = true := (by simpa using h); have q0 := (p148).1 rfl; exact WC.call 86 19 ([.agg (encTotal x118).toArray]) (fun _ _ _ => by kernel_rfl) ((greatest_wf x118 hp131 (nx106 + 1) ((hW.2 x118 (List.mem_of_getElem? hx119)).mono hE136 le130) (by omega)).mono fun v hp' nx' ⟨hv, hn, he⟩ => ⟨_, _, _, rfl, hv, hn, he⟩)) (fun h => GV.off h) ?_)
          rintro _ hp149 nx150 ⟨rfl, hn151, he152⟩
          have hE153 := hE136.trans he152 le130
          have hb154 := he152.get hb138 lt127
          have lt155 := Nat.lt_of_lt_of_le lt127 hn151
          have hb156 := he152.get hb134 (Nat.lt_succ_self (nx106))
          have lt157 := Nat.lt_of_lt_of_le (Nat.lt_succ_self (nx106)) hn151
          have hr158 := hr137.trans he152 rl129
          have rl159 := Nat.le_trans rl129 hn151
          have le160 := Nat.le_trans le130 hn151
          refine WD.eff ?_
          refine WN.nil ⟨?_, ?_⟩
          ·
           refine cg rfl 83 (c148) (.func (.func 18) #[] #[]) (.bool c148) (by cases c148 <;> rfl) (fun h => by obtain rfl := h; exact chkV1 (.func (.func 18) #[] #[]) (fun _ => by kernel_rfl) (by kernel_rfl)) ?_
           refine cg rfl 83 (c148) (.agg (encTotal x82).toArray) (.bool c148) (by cases c148 <;> rfl) (fun h => by obtain rfl := h; exact chkO1 (.agg (encTotal x82).toArray) (eLoad ex.T hp149.get 34 (.pointer (some ⟨nx7, 0, none⟩))) (fun _ => by kernel_rfl) (eLoad_agg T_agg34 T_size34 hb154 rfl) (encTotal_vEq x82 (hW.2 x82 (List.mem_of_getElem? hx83)))) ?_
           exact Chks.nil
          refine WC.at rfl (WC.gq (c148) (GV (c148) (.int .i64 (loOf x82)) (nx150) hp149) (.bool c148) (g := opd (.tmp 83)) rfl (by kernel_rfl) (by cases c148 <;> rfl) (fun h => by obtain rfl : c148 = true := (by simpa using h); have q0 := (p148).1 rfl; exact WC.call 89 18 ([.agg (encTotal x82).toArray]) (fun _ _ _ => by kernel_rfl) ((least_wf x82 hp149 (nx150) ((hW.2 x82 (List.mem_of_getElem? hx83)).mono hE153 le160) (by omega)).mono fun v hp' nx' ⟨hv, hn, he⟩ => ⟨_, _, _, rfl, hv, hn, he⟩)) (fun h => GV.off h) ?_)
          rintro _ hp161 nx162 ⟨rfl, hn163, he164⟩
          have hE165 := hE153.trans he164 le160
          have hb166 := he164.get hb154 lt155
          have lt167 := Nat.lt_of_lt_of_le lt155 hn163
          have hb168 := he164.get hb156 lt157
          have hr170 := hr158.trans he164 rl159
          have rl171 := Nat.le_trans rl159 hn163
          have le172 := Nat.le_trans le160 hn163
          refine WD.last ?_
          obtain ⟨c173, e173, p173⟩ := @nb (ltI (hiOf x118) (loOf x82)) ((hiOf x118) < (loOf x82)) (ltI_iff)
          refine ng rfl 83 (c148) (.bool c173) (.bool c148) (by cases c148 <;> rfl) (fun h => by obtain rfl := h; exact fun _ _ _ => by subst e173; kernel_rfl) ?_
          obtain ⟨c174, e174, p174⟩ := @nb ((c148 && c173)) ((¬ (x118.fOut = true)) ∧ ((hiOf x118) < (loOf x82))) (by rw [Bool.and_eq_true, p148, p173])
          refine WN.consAt rfl (WC.opt (v := .bool c174) 91 (ePick (.bool c148) ((bif c148 then .bool c173 else undef)) (.bool false)) (fun _ _ _ => by kernel_rfl) (by rw [e174]; exact ePick_and (fun h => by obtain rfl : c148 = true := h; rfl)) ?_)
          refine WN.nil ⟨?_, ?_⟩
          ·
           refine cg rfl 83 (c148) (.bool c173) (.bool c148) (by cases c148 <;> rfl) (fun h => by obtain rfl := h; exact chkV1 (.bool c173) (fun _ => by subst e173; kernel_rfl) (vEq_bool 8 c173)) ?_
           refine co (.bool c174) (ePick (.bool c148) ((bif c148 then .bool c173 else undef)) (.bool false)) ((by rw [e174]; exact ePick_and (fun h => by obtain rfl : c148 = true := h; rfl))) (vEq_bool 8 c174) ?_
           exact Chks.nil
          refine WP.cond c174 (by kernel_rfl) (fun h175 => ?_) (fun h175 => ?_)
          ·
           have q176 := (p174).1 h175
           refine WP.region ?_
           refine ov 92 (.int .i64 (.ofNat (1 + cA))) ?_
           refine ov 93 (.int .i64 (.ofNat ((1 + cA) + 1))) ?_ (fun _ _ _ => by rw [← wrapAdd (show (1 + cA) + 1 < 9223372036854775808 by omega)]; kernel_rfl)
           refine ov 4 (.int .i64 (.ofNat ((1 + cA) + 1))) ?_
           refine WO.nil ?_
           refine WP.seq ?_
           refine WP.drawS [⟨[0, 1, 3, 4], [0, 1, 3, 4], some 2⟩, ⟨[], [3, 4], some 5⟩, ⟨[6], [6], none⟩] (by kernel_rfl) _ rfl ?_
           refine WD.eff ?_
           refine nv 94 (.func (.func 18) #[] #[]) ?_
           refine WN.consAt rfl (WC.loadS nx106 (0) (encTotal x118) (by kernel_rfl) T_agg34 T_size34 hb168 rfl ?_)
           refine nv 97 (.func (.func 19) #[] #[]) ?_
           refine WN.consAt rfl (WC.loadS nx7 (0) (encTotal x82) (by kernel_rfl) T_agg34 T_size34 hb166 rfl ?_)
           refine WN.nil ⟨?_, ?_⟩
           ·
            refine cv (.func (.func 18) #[] #[]) (by kernel_rfl) ?_
            refine co (.agg (encTotal x118).toArray) (eLoad ex.T hp161.get 34 (.pointer (some ⟨nx106, 0, none⟩))) (eLoad_agg T_agg34 T_size34 hb168 rfl) (encTotal_vEq x118 (hW.2 x118 (List.mem_of_getElem? hx119))) ?_
            refine cv (.func (.func 19) #[] #[]) (by kernel_rfl) ?_
            refine co (.agg (encTotal x82).toArray) (eLoad ex.T hp161.get 34 (.pointer (some ⟨nx7, 0, none⟩))) (eLoad_agg T_agg34 T_size34 hb166 rfl) (encTotal_vEq x82 (hW.2 x82 (List.mem_of_getElem? hx83))) ?_
            exact Chks.nil
           refine WC.at rfl (WC.call 96 18 ([.agg (encTotal x118).toArray]) (fun _ _ _ => by kernel_rfl) ((least_wf x118 hp161 (nx162) ((hW.2 x118 (List.mem_of_getElem? hx119)).mono hE165 le172) (by omega)).mono ?_))
           rintro _ hp177 nx178 ⟨rfl, hn179, he180⟩
           have hE181 := hE165.trans he180 le172
           have hb182 := he180.get hb166 lt167
           have hr186 := hr170.trans he180 rl171
           have rl187 := Nat.le_trans rl171 hn179
           have le188 := Nat.le_trans le172 hn179
           refine WD.eff ?_
           refine WN.nil ⟨?_, ?_⟩
           ·
            refine cv (.func (.func 19) #[] #[]) (by kernel_rfl) ?_
            refine co (.agg (encTotal x82).toArray) (eLoad ex.T hp177.get 34 (.pointer (some ⟨nx7, 0, none⟩))) (eLoad_agg T_agg34 T_size34 hb182 rfl) (encTotal_vEq x82 (hW.2 x82 (List.mem_of_getElem? hx83))) ?_
            exact Chks.nil
           refine WC.at rfl (WC.call 99 19 ([.agg (encTotal x82).toArray]) (fun _ _ _ => by kernel_rfl) ((greatest_wf x82 hp177 (nx178) ((hW.2 x82 (List.mem_of_getElem? hx83)).mono hE181 le188) (by omega)).mono ?_))
           rintro _ hp189 nx190 ⟨rfl, hn191, he192⟩
           have hr198 := hr186.trans he192 rl187
           have rl199 := Nat.le_trans rl187 hn191
           refine WD.last ?_
           obtain ⟨c201, e201, p201⟩ := @nb (ltI (loOf x118) (hiOf x82)) ((loOf x118) < (hiOf x82)) (ltI_iff)
           refine nv 100 (.bool c201) ?_ (fun _ _ _ => by subst e201; kernel_rfl)
           refine WN.nil ⟨?_, ?_⟩
           ·
            refine cv (.bool c201) (vEq_bool 8 c201) ?_ (fun _ => by subst e201; kernel_rfl)
            exact Chks.nil
           refine WP.cond c201 (by kernel_rfl) (fun h202 => ?_) (fun h202 => ?_)
           ·
            have q203 := (p201).1 h202
            refine WP.region ?_
            refine ov 101 (.int .i64 (.ofNat (1 + cB))) ?_
            refine ov 102 (.int .i64 (.ofNat ((1 + cB) + 1))) ?_ (fun _ _ _ => by rw [← wrapAdd (show (1 + cB) + 1 < 9223372036854775808 by omega)]; kernel_rfl)
            refine ov 5 (.int .i64 (.ofNat ((1 + cB) + 1))) ?_
            refine WO.nil ?_
            refine WP.region ?_
            refine ov 103 (.int .i64 (.ofNat (iL103 + 1))) ?_ (fun _ _ _ => by rw [← wrapAdd (show iL103 + 1 < 9223372036854775808 by omega)]; kernel_rfl)
            refine ov 66 (.int .i64 (.ofNat (iL103 + 1))) ?_
            refine WO.nil ?_
            refine ⟨W.l.length - (iL103 + 1), by omega, iL103 + 1, cA + 1, cB + 1, by omega, by kernel_rfl, by kernel_rfl, by kernel_rfl, by kernel_rfl, by kernel_rfl, by kernel_rfl, by kernel_rfl, by kernel_rfl, by kernel_rfl, rfl, rfl, ?_, ?_, ?_, ?_, ?_, ?_⟩
            · exact rl199
            · exact hr198
            · rw [cnt_yes ⟨x118, x82, hx119, hx83, fun h => q146 (.inl (by omega)), fun h => q146 (.inr (by rw [h]; rfl)), (by simpa using q176.1), q176.2⟩, hcA]
            · rw [cnt_yes ⟨x118, x82, hx119, hx83, fun h => q146 (.inl (by omega)), fun h => q146 (.inr (by rw [h]; rfl)), q203⟩, hcB]
            · omega
            · omega
           ·
            have q203 := nq p201 h202
            refine WP.skip ?_
            refine WP.region ?_
            refine ov 103 (.int .i64 (.ofNat (iL103 + 1))) ?_ (fun _ _ _ => by rw [← wrapAdd (show iL103 + 1 < 9223372036854775808 by omega)]; kernel_rfl)
            refine ov 66 (.int .i64 (.ofNat (iL103 + 1))) ?_
            refine WO.nil ?_
            refine ⟨W.l.length - (iL103 + 1), by omega, iL103 + 1, cA + 1, cB, by omega, by kernel_rfl, by kernel_rfl, by kernel_rfl, by kernel_rfl, by kernel_rfl, by kernel_rfl, by kernel_rfl, by kernel_rfl, by kernel_rfl, rfl, rfl, ?_, ?_, ?_, ?_, ?_, ?_⟩
            · exact rl199
            · exact hr198
            · rw [cnt_yes ⟨x118, x82, hx119, hx83, fun h => q146 (.inl (by omega)), fun h => q146 (.inr (by rw [h]; rfl)), (by simpa using q176.1), q176.2⟩, hcA]
            · rw [cnt_no, hcB]
              rintro ⟨t, y, h1, h2, h3, h4, h5⟩
              rw [hx119] at h1; cases h1
              rw [hx83] at h2; cases h2
              exact q203 h5
            · omega
            · omega
          ·
           have q176 := nq p174 h175
           refine WP.skip ?_
           refine WP.seq ?_
           refine WP.drawS [⟨[0, 1, 3, 4], [0, 1, 3, 4], some 2⟩, ⟨[], [3, 4], some 5⟩, ⟨[6], [6], none⟩] (by kernel_rfl) _ rfl ?_
           refine WD.eff ?_
           refine nv 94 (.func (.func 18) #[] #[]) ?_
           refine WN.consAt rfl (WC.loadS nx106 (0) (encTotal x118) (by kernel_rfl) T_agg34 T_size34 hb168 rfl ?_)
           refine nv 97 (.func (.func 19) #[] #[]) ?_
           refine WN.consAt rfl (WC.loadS nx7 (0) (encTotal x82) (by kernel_rfl) T_agg34 T_size34 hb166 rfl ?_)
           refine WN.nil ⟨?_, ?_⟩
           ·
            refine cv (.func (.func 18) #[] #[]) (by kernel_rfl) ?_
            refine co (.agg (encTotal x118).toArray) (eLoad ex.T hp161.get 34 (.pointer (some ⟨nx106, 0, none⟩))) (eLoad_agg T_agg34 T_size34 hb168 rfl) (encTotal_vEq x118 (hW.2 x118 (List.mem_of_getElem? hx119))) ?_
            refine cv (.func (.func 19) #[] #[]) (by kernel_rfl) ?_
            refine co (.agg (encTotal x82).toArray) (eLoad ex.T hp161.get 34 (.pointer (some ⟨nx7, 0, none⟩))) (eLoad_agg T_agg34 T_size34 hb166 rfl) (encTotal_vEq x82 (hW.2 x82 (List.mem_of_getElem? hx83))) ?_
            exact Chks.nil
           refine WC.at rfl (WC.call 96 18 ([.agg (encTotal x118).toArray]) (fun _ _ _ => by kernel_rfl) ((least_wf x118 hp161 (nx162) ((hW.2 x118 (List.mem_of_getElem? hx119)).mono hE165 le172) (by omega)).mono ?_))
           rintro _ hp204 nx205 ⟨rfl, hn206, he207⟩
           have hE208 := hE165.trans he207 le172
           have hb209 := he207.get hb166 lt167
           have hr213 := hr170.trans he207 rl171
           have rl214 := Nat.le_trans rl171 hn206
           have le215 := Nat.le_trans le172 hn206
           refine WD.eff ?_
           refine WN.nil ⟨?_, ?_⟩
           ·
            refine cv (.func (.func 19) #[] #[]) (by kernel_rfl) ?_
            refine co (.agg (encTotal x82).toArray) (eLoad ex.T hp204.get 34 (.pointer (some ⟨nx7, 0, none⟩))) (eLoad_agg T_agg34 T_size34 hb209 rfl) (encTotal_vEq x82 (hW.2 x82 (List.mem_of_getElem? hx83))) ?_
            exact Chks.nil
           refine WC.at rfl (WC.call 99 19 ([.agg (encTotal x82).toArray]) (fun _ _ _ => by kernel_rfl) ((greatest_wf x82 hp204 (nx205) ((hW.2 x82 (List.mem_of_getElem? hx83)).mono hE208 le215) (by omega)).mono ?_))
           rintro _ hp216 nx217 ⟨rfl, hn218, he219⟩
           have hr225 := hr213.trans he219 rl214
           have rl226 := Nat.le_trans rl214 hn218
           refine WD.last ?_
           obtain ⟨c228, e228, p228⟩ := @nb (ltI (loOf x118) (hiOf x82)) ((loOf x118) < (hiOf x82)) (ltI_iff)
           refine nv 100 (.bool c228) ?_ (fun _ _ _ => by subst e228; kernel_rfl)
           refine WN.nil ⟨?_, ?_⟩
           ·
            refine cv (.bool c228) (vEq_bool 8 c228) ?_ (fun _ => by subst e228; kernel_rfl)
            exact Chks.nil
           refine WP.cond c228 (by kernel_rfl) (fun h229 => ?_) (fun h229 => ?_)
           ·
            have q230 := (p228).1 h229
            refine WP.region ?_
            refine ov 101 (.int .i64 (.ofNat (1 + cB))) ?_
            refine ov 102 (.int .i64 (.ofNat ((1 + cB) + 1))) ?_ (fun _ _ _ => by rw [← wrapAdd (show (1 + cB) + 1 < 9223372036854775808 by omega)]; kernel_rfl)
            refine ov 5 (.int .i64 (.ofNat ((1 + cB) + 1))) ?_
            refine WO.nil ?_
            refine WP.region ?_
            refine ov 103 (.int .i64 (.ofNat (iL103 + 1))) ?_ (fun _ _ _ => by rw [← wrapAdd (show iL103 + 1 < 9223372036854775808 by omega)]; kernel_rfl)
            refine ov 66 (.int .i64 (.ofNat (iL103 + 1))) ?_
            refine WO.nil ?_
            refine ⟨W.l.length - (iL103 + 1), by omega, iL103 + 1, cA, cB + 1, by omega, by kernel_rfl, by kernel_rfl, by kernel_rfl, by kernel_rfl, by kernel_rfl, by kernel_rfl, by kernel_rfl, by kernel_rfl, by kernel_rfl, rfl, rfl, ?_, ?_, ?_, ?_, ?_, ?_⟩
            · exact rl226
            · exact hr225
            · rw [cnt_no, hcA]
              rintro ⟨t, y, h1, h2, h3, h4, h5, h6⟩
              rw [hx119] at h1; cases h1
              rw [hx83] at h2; cases h2
              exact q176 ⟨by rw [h5]; decide, h6⟩
            · rw [cnt_yes ⟨x118, x82, hx119, hx83, fun h => q146 (.inl (by omega)), fun h => q146 (.inr (by rw [h]; rfl)), q230⟩, hcB]
            · omega
            · omega
           ·
            have q230 := nq p228 h229
            refine WP.skip ?_
            refine WP.region ?_
            refine ov 103 (.int .i64 (.ofNat (iL103 + 1))) ?_ (fun _ _ _ => by rw [← wrapAdd (show iL103 + 1 < 9223372036854775808 by omega)]; kernel_rfl)
            refine ov 66 (.int .i64 (.ofNat (iL103 + 1))) ?_
            refine WO.nil ?_
            refine ⟨W.l.length - (iL103 + 1), by omega, iL103 + 1, cA, cB, by omega, by kernel_rfl, by kernel_rfl, by kernel_rfl, by kernel_rfl, by kernel_rfl, by kernel_rfl, by kernel_rfl, by kernel_rfl, by kernel_rfl, rfl, rfl, ?_, ?_, ?_, ?_, ?_, ?_⟩
            · exact rl226
            · exact hr225
            · rw [cnt_no, hcA]
              rintro ⟨t, y, h1, h2, h3, h4, h5, h6⟩
              rw [hx119] at h1; cases h1
              rw [hx83] at h2; cases h2
              exact q176 ⟨by rw [h5]; decide, h6⟩
            · rw [cnt_no, hcB]
              rintro ⟨t, y, h1, h2, h3, h4, h5⟩
              rw [hx119] at h1; cases h1
              rw [hx83] at h2; cases h2
              exact q230 h5
            · omega
            · omega
        ·
         have q116 := nq p114 h115
         refine WP.exit ?_
         refine sr ?_
         refine ov 104 (.int .i64 (.ofNat (1 + cA))) ?_
         refine ov 105 (.int .i64 (.ofNat (1 + cB))) ?_
         refine ov 4 (.int .i64 (.ofNat (1 + cA))) ?_
         refine ov 5 (.int .i64 (.ofNat (1 + cB))) ?_
         refine ov 6 (.int .i64 (0)) ?_
         refine WO.nil ?_
         refine WP.ret ⟨rfl, rfl, [.int .i64 (.ofNat (1 + cA)), .int .i64 (.ofNat (1 + cB)), .int .i64 (0)], by kernel_rfl, ?_⟩
         have hi : iL103 = W.l.length := by omega
         rw [hi] at hcA hcB
         exact ⟨_, _, 0, rfl, ⟨fun h => absurd rfl h, fun _ => ⟨hall, k, x82, rfl, hx83, .inr ⟨fun h => q102 (by rw [h]; rfl), by rw [hcA], by rw [hcB]⟩⟩⟩, le113, hE110⟩
       ·
        exact ⟨0, 0, 0, by omega, by kernel_rfl, by kernel_rfl, by kernel_rfl, by kernel_rfl, by kernel_rfl, by kernel_rfl, by kernel_rfl, by kernel_rfl, by kernel_rfl, rfl, rfl, Nat.le_refl _, HE.refl _ _, rfl, rfl, Nat.le_refl 0, Nat.le_refl 0⟩
 ·
  exact ⟨0, by omega, by kernel_rfl, by kernel_rfl, by kernel_rfl, by kernel_rfl, by kernel_rfl, rfl, rfl, Nat.le_refl _, HE.refl _ _, (fun _ _ h => absurd h (Nat.not_lt_zero _))⟩
end
end Sw

namespace Sw
noncomputable section
open Go Go.Proofs Go.RowKit
set_option maxRecDepth 100000
set_option maxHeartbeats 1600000
def Few (W : SV RTotal) : Prop := W.l.length ≤ 8 ∧ ∀ t ∈ W.l, t.fSums.l.length ≤ 8
def InSome (t : RTotal) (v : Int) : Prop := ∃ s ∈ t.fSums.l, s.fLo ≤ v ∧ v ≤ s.fHi
theorem wrapI64 {n : Int} (h : -9223372036854775808 ≤ n) (h2 : n < 9223372036854775808) : wrapE .i64 n = n := by
  rw [wrapE_eq]
  simp only [IntKind.wrap, IntKind.bits, IntKind.signed, Bool.true_and, decide_eq_true_eq, show (2 : Int) ^ 64 = 18446744073709551616 by decide, show ((2 : Int) ^ (64 - 1)) = 9223372036854775808 by decide]
  split <;> omega
theorem chosenIn {x : RSpan} {u : Int} (h : SpanOk x) (h0 : 0 ≤ u) (h1 : u < wrapE .i64 (wrapE .i64 (x.fHi - x.fLo) + 1)) : x.fLo ≤ wrapE .i64 (x.fLo + u) ∧ wrapE .i64 (x.fLo + u) ≤ x.fHi := by
  unfold SpanOk at h
  rw [wrapI64 (n := x.fHi - x.fLo) (by omega) (by omega), wrapI64 (by omega) (by omega)] at h1
  rw [wrapI64 (by omega) (by omega)]
  omega
theorem few_wf (W : SV RTotal) (hp : Ht) (nx : Nat) (hW : SlOk encTotal 3 (fun hp nx y => RTotalOk hp nx y) hp nx W) : WF ex 5 [W.v] hp nx (Stays nx hp (BoolIs (Few W))) := by
 obtain ⟨a1, c2, hv3⟩ := hW.1.shape
 have hsm3 := hW.1.2.2
 rw [hv3]
 refine WF.body (fi := ⟨Tryz.f5.body.getD .skip, 20, [.tmp 2]⟩) (by kernel_rfl) (by kernel_rfl) (by kernel_rfl) rfl ?_
 have hE := HE.refl nx hp
 refine sr ?_
 refine ov 2 (.bool false) ?_
 refine WO.nil ?_
 refine WP.seq ?_
 refine sr ?_
 refine ov 4 (.slice a1 (W.l.length) c2) ?_
 refine ov 5 (.int .i64 (.ofNat (W.l.length))) ?_
 obtain ⟨c4, e4, p4⟩ := @nb (ltI (8) (.ofNat (W.l.length))) ((8) < ((W.l.length : Nat) : Int)) (ltI_iff)
 refine ov 6 (.bool c4) ?_ (fun _ _ _ => by subst e4; kernel_rfl)
 refine WO.nil ?_
 refine WP.cond c4 (by kernel_rfl) (fun h5 => ?_) (fun h5 => ?_)
 ·
  have q6 := (p4).1 h5
  refine sr ?_
  refine ov 2 (.bool false) ?_
  refine WO.nil ?_
  refine WP.ret ⟨rfl, rfl, [.bool false], by kernel_rfl, ?_⟩
  refine ⟨⟨false, rfl, ⟨fun h => (by cases h), fun hok => False.elim ?_⟩⟩, (Nat.le_refl nx), hE⟩
  have := hok.1; omega
 ·
  have q6 := nq p4 h5
  refine WP.skip ?_
  refine WP.seq ?_
  refine sr ?_
  refine ov 3 (.int .i64 (0)) ?_
  refine WO.nil ?_
  refine WP.block ?_
  have hj8 : ∀ t : Tm, ((t.set 0 (t.get 0)).set 3 (t.get 3)) = t := fun t => by kernel_rfl
  refine WP.loop (fun m s => ∃ (iL7 : Nat), iL7 + m = W.l.length ∧ s.to.get 0 = .slice a1 (W.l.length) c2 ∧ s.to.get 3 = .int .i64 (.ofNat iL7) ∧ s.ds = [] ∧ s.cs = [] ∧ nx ≤ s.nx ∧ HE (nx) hp s.hp ∧ (∀ (j : Nat) (t : RTotal), j < iL7 → W.l[j]? = some t → t.fSums.l.length ≤ 8)) ?_ (W.l.length) ?_
  ·
   rintro mL7 ⟨toL7, dsL7, hp9, nx10, csL7⟩ ⟨iL7, him11, gL7_0, gL7_3, hdsL7, hcsL7, hn12, he13, hfw⟩
   simp only at gL7_0 gL7_3 hdsL7 hcsL7 hn12 he13 hfw
   subst hdsL7 hcsL7
   rw [← hj8 toL7, gL7_0, gL7_3]
   clear gL7_0 gL7_3
   have hE14 := hE.trans he13 (Nat.le_refl nx)
   have le15 := Nat.le_trans (Nat.le_refl nx) hn12
   refine WP.seq ?_
   refine sr ?_
   refine ov 7 (.int .i64 (.ofNat iL7)) ?_
   refine ov 8 (.slice a1 (W.l.length) c2) ?_
   refine ov 9 (.int .i64 (.ofNat (W.l.length))) ?_
   obtain ⟨c16, e16, p16⟩ := @nb (ltI (.ofNat iL7) (.ofNat (W.l.length))) (((iL7 : Nat) : Int) < ((W.l.length : Nat) : Int)) (ltI_iff)
   refine ov 10 (.bool c16) ?_ (fun _ _ _ => by subst e16; kernel_rfl)
   refine WO.nil ?_
   refine WP.cond c16 (by kernel_rfl) (fun h17 => ?_) (fun h17 => ?_)
   ·
    have q18 := (p16).1 h17
    refine WP.skip ?_
    refine WP.seq ?_
    refine WP.block ?_
    refine sr ?_
    refine ov 13 (.slice a1 (W.l.length) c2) ?_
    refine ov 14 (.int .i64 (.ofNat iL7)) ?_
    have hlt19 : iL7 < W.l.length := by omega
    refine WO.cons (WC.ix (k := .i64) a1 (W.l.length) c2 (iL7) 3 (by kernel_rfl) (by kernel_rfl) T_und22 T_size34 ((hW.1.mono hE14 le15).blkA hv3 (zl hlt19)) (hlt19) ?_)
    refine ov 16 (.pointer (some ⟨(blk a1), 0 + (iL7) * 3 + 1, none⟩)) ?_
    obtain ⟨x20, hx21⟩ : ∃ el_, W.l[iL7]? = some el_ := ⟨_, List.getElem?_eq_getElem (hlt19)⟩
    obtain ⟨a22, c23, hv24⟩ := (hW.2 x20 (List.mem_of_getElem? hx21)).fSums.shape
    have hsm24 := (hW.2 x20 (List.mem_of_getElem? hx21)).fSums.2.2
    refine WO.cons (WC.load1E (blk a1) (0 + (iL7) * 3 + 1) (.slice a22 (x20.fSums.l.length) c23) (by kernel_rfl) T_agg32 ((hW.1.mono hE14 le15).blkB hv3 (zl hlt19)) (flat_at (hW.1.mono hE14 le15).1 hx21 (by decide) (by rw [← hv24]; rfl)) ?_)
    refine ov 18 (.int .i64 (.ofNat (x20.fSums.l.length))) ?_
    obtain ⟨c25, e25, p25⟩ := @nb (ltI (8) (.ofNat (x20.fSums.l.length))) ((8) < ((x20.fSums.l.length : Nat) : Int)) (ltI_iff)
    refine ov 19 (.bool c25) ?_ (fun _ _ _ => by subst e25; kernel_rfl)
    refine WO.nil ?_
    refine WP.cond c25 (by kernel_rfl) (fun h26 => ?_) (fun h26 => ?_)
    ·
     have q27 := (p25).1 h26
     refine sr ?_
     refine ov 2 (.bool false) ?_
     refine WO.nil ?_
     refine WP.ret ⟨rfl, rfl, [.bool false], by kernel_rfl, ?_⟩
     refine ⟨⟨false, rfl, ⟨fun h => (by cases h), fun hok => False.elim ?_⟩⟩, le15, hE14⟩
     have := hok.2 _ (List.mem_of_getElem? hx21); omega
    ·
     have q27 := nq p25 h26
     refine WP.skip ?_
     refine WP.region ?_
     refine ov 11 (.int .i64 (.ofNat iL7)) ?_
     refine ov 12 (.int .i64 (.ofNat (iL7 + 1))) ?_ (fun _ _ _ => by rw [← wrapAdd (show iL7 + 1 < 9223372036854775808 by omega)]; kernel_rfl)
     refine ov 3 (.int .i64 (.ofNat (iL7 + 1))) ?_
     refine WO.nil ?_
     refine ⟨W.l.length - (iL7 + 1), by omega, iL7 + 1, by omega, by kernel_rfl, by kernel_rfl, rfl, rfl, ?_, ?_, ?_⟩
     · exact hn12
     · exact he13
     · intro j t hj ht
       rcases Nat.lt_succ_iff_lt_or_eq.1 hj with hj | rfl
       · exact hfw j t hj ht
       · rw [hx21] at ht; cases ht; omega
   ·
    have q18 := nq p16 h17
    refine WP.exit ?_
    refine sr ?_
    refine ov 2 (.bool true) ?_
    refine WO.nil ?_
    refine WP.ret ⟨rfl, rfl, [.bool true], by kernel_rfl, ?_⟩
    refine ⟨⟨true, rfl, ⟨fun _ => ?_, fun _ => rfl⟩⟩, le15, hE14⟩
    refine ⟨by omega, fun t ht => ?_⟩
    obtain ⟨j, hj⟩ := List.getElem?_of_mem ht
    exact hfw j t (by have := (List.getElem?_eq_some_iff.1 hj).1; omega) hj
  ·
   exact ⟨0, by omega, by kernel_rfl, by kernel_rfl, rfl, rfl, Nat.le_refl _, HE.refl _ _, (fun _ _ h => absurd h (Nat.not_lt_zero _))⟩
theorem chosen_wf (t : RTotal) (u0 : Int) (hp : Ht) (nx : Nat) (hT : RTotalOk hp nx t) : WF ex 7 [.agg (encTotal t).toArray, .int .i64 (u0)] hp nx (fun v hp' nx' => ∃ (z : Int) (b : Bool), v = .tuple ⟨[.int .i64 z, .bool b]⟩ ∧ (b = true → (∀ s ∈ t.fSums.l, SpanOk s) → InSome t z) ∧ nx ≤ nx' ∧ HE nx hp hp') := by
 refine WF.body (fi := ⟨Tryz.f7.body.getD .skip, 47, [.tmp 4, .tmp 5]⟩) (by kernel_rfl) (by kernel_rfl) (by kernel_rfl) rfl ?_
 have hE := HE.refl nx hp
 refine sr ?_
 refine WO.cons (WC.box (.agg (encTotal t).toArray) (encTotal t) rfl (by kernel_rfl) rfl ?_)
 obtain ⟨hp2, hx3, he4, hb5⟩ := boxed hp (nx) (encTotal t)
 rw [hx3]; clear hx3
 have hE6 := hE.trans he4 (Nat.le_refl nx)
 have le7 := Nat.le_trans (Nat.le_refl nx) (Nat.le_succ (nx))
 refine ov 4 (.int .i64 (0)) ?_
 refine ov 5 (.bool false) ?_
 refine WO.nil ?_
 refine WP.seq ?_
 refine sr ?_
 refine ov 6 (.int .i64 (0)) ?_
 refine WO.nil ?_
 refine WP.block ?_
 have hj9 : ∀ t : Tm, (((t.set 1 (t.get 1)).set 2 (t.get 2)).set 6 (t.get 6)) = t := fun t => by kernel_rfl
 refine WP.loop (fun m s => ∃ (iL8 : Nat) (u : Int), iL8 + m = t.fSums.l.length ∧ s.to.get 1 = .int .i64 (u) ∧ s.to.get 2 = .pointer (some ⟨nx, 0, none⟩) ∧ s.to.get 6 = .int .i64 (.ofNat iL8) ∧ s.ds = [] ∧ s.cs = [] ∧ nx + 1 ≤ s.nx ∧ HE (nx + 1) hp2 s.hp) ?_ (t.fSums.l.length) ?_
 ·
  rintro mL8 ⟨toL8, dsL8, hp10, nx11, csL8⟩ ⟨iL8, u, him12, gL8_1, gL8_2, gL8_6, hdsL8, hcsL8, hn13, he14⟩
  simp only at gL8_1 gL8_2 gL8_6 hdsL8 hcsL8 hn13 he14
  subst hdsL8 hcsL8
  rw [← hj9 toL8, gL8_1, gL8_2, gL8_6]
  clear gL8_1 gL8_2 gL8_6
  have hE15 := hE6.trans he14 le7
  have hb16 := he14.get hb5 (Nat.lt_succ_self (nx))
  have le18 := Nat.le_trans le7 hn13
  refine WP.seq ?_
  refine sr ?_
  refine ov 8 (.int .i64 (.ofNat iL8)) ?_
  refine ov 9 (.pointer (some ⟨nx, 0 + 1, none⟩)) ?_
  obtain ⟨a19, c20, hv21⟩ := hT.fSums.shape
  have hsm21 := hT.fSums.2.2
  refine WO.cons (WC.load1 nx (0 + 1) (.slice a19 (t.fSums.l.length) c20) (by kernel_rfl) T_agg32 hb16 (by rw [← hv21]; rfl) ?_)
  refine ov 11 (.int .i64 (.ofNat (t.fSums.l.length))) ?_
  obtain ⟨c22, e22, p22⟩ := @nb (ltI (.ofNat iL8) (.ofNat (t.fSums.l.length))) (((iL8 : Nat) : Int) < ((t.fSums.l.length : Nat) : Int)) (ltI_iff)
  refine ov 12 (.bool c22) ?_ (fun _ _ _ => by subst e22; kernel_rfl)
  refine WO.nil ?_
  refine WP.cond c22 (by kernel_rfl) (fun h23 => ?_) (fun h23 => ?_)
  ·
   have q24 := (p22).1 h23
   refine WP.skip ?_
   refine WP.seq ?_
   refine WP.block ?_
   refine WP.seq ?_
   refine WP.drawS [⟨[0, 1, 2, 3, 4, 5, 6, 7, 8, 9, 10, 11, 12, 13], [0, 1, 2, 3, 4, 5, 6, 7, 8, 9, 10, 11, 12, 13], some 14⟩, ⟨[], [], none⟩] (by kernel_rfl) _ rfl ?_
   refine WD.eff ?_
   refine nv 15 (.pointer (some ⟨nx, 0 + 1, none⟩)) ?_
   refine WN.consAt rfl (WC.load1 nx (0 + 1) (.slice a19 (t.fSums.l.length) c20) (by kernel_rfl) T_agg32 hb16 (by rw [← hv21]; rfl) ?_)
   refine nv 17 (.int .i64 (.ofNat iL8)) ?_
   have hlt25 : iL8 < t.fSums.l.length := by omega
   refine WN.consAt rfl (WC.ix (k := .i64) a19 (t.fSums.l.length) c20 (iL8) 2 (by kernel_rfl) (by kernel_rfl) T_und32 T_size95 ((hT.fSums.mono hE15 le18).blkA hv21 (zl hlt25)) (hlt25) ?_)
   refine nv 19 (.pointer (some ⟨(blk a19), 0 + (iL8) * 2 + 1, none⟩)) ?_
   obtain ⟨x26, hx27⟩ : ∃ el_, t.fSums.l[iL8]? = some el_ := ⟨_, List.getElem?_eq_getElem (hlt25)⟩
   refine WN.consAt rfl (WC.load1E (blk a19) (0 + (iL8) * 2 + 1) (.int .i64 (x26.fHi)) (by kernel_rfl) T_agg3 ((hT.fSums.mono hE15 le18).blkB hv21 (zl hlt25)) (flat_at (hT.fSums.mono hE15 le18).1 hx27 (by decide) rfl) ?_)
   refine nv 21 (.pointer (some ⟨nx, 0 + 1, none⟩)) ?_
   refine WN.consAt rfl (WC.load1 nx (0 + 1) (.slice a19 (t.fSums.l.length) c20) (by kernel_rfl) T_agg32 hb16 (by rw [← hv21]; rfl) ?_)
   refine nv 23 (.int .i64 (.ofNat iL8)) ?_
   have hlt28 : iL8 < t.fSums.l.length := by omega
   refine WN.consAt rfl (WC.ix (k := .i64) a19 (t.fSums.l.length) c20 (iL8) 2 (by kernel_rfl) (by kernel_rfl) T_und32 T_size95 ((hT.fSums.mono hE15 le18).blkA hv21 (zl hlt28)) (hlt28) ?_)
   refine nv 25 (.pointer (some ⟨(blk a19), 0 + (iL8) * 2 + 0, none⟩)) ?_
   refine WN.consAt rfl (WC.load1E (blk a19) (0 + (iL8) * 2 + 0) (.int .i64 (x26.fLo)) (by kernel_rfl) T_agg3 ((hT.fSums.mono hE15 le18).blkB hv21 (zl hlt28)) (flat_at (hT.fSums.mono hE15 le18).1 hx27 (by decide) rfl) ?_)
   refine nv 27 (.int .i64 (wrapE .i64 ((x26.fHi) - (x26.fLo)))) ?_
   refine nv 28 (.int .i64 (wrapE .i64 ((wrapE .i64 ((x26.fHi) - (x26.fLo))) + (1)))) ?_
   refine WN.nil ⟨?_, ?_⟩
   ·
    refine cv (.pointer (some ⟨nx, 0 + 1, none⟩)) (vEq_ptr ..) ?_
    refine co (.slice a19 (t.fSums.l.length) c20) (eLoad ex.T hp10.get 32 (.pointer (some ⟨nx, 0 + 1, none⟩))) (eLoad_one T_agg32 hb16 (by rw [← hv21]; rfl)) (hv21 ▸ hT.fSums.eqSelf 8) ?_
    refine cv (.int .i64 (.ofNat iL8)) (vEq_int ..) ?_
    refine co (.pointer (some ⟨(blk a19), 0 + (iL8) * 2, none⟩)) (eIndexAddr ex.T 32 (.slice a19 (t.fSums.l.length) c20) (.int .i64 (.ofNat (iL8)))) (eIndexAddr_A (k := .i64) T_und32 T_size95 ((hT.fSums.mono hE15 le18).blkA hv21 (zl hlt25)) (hlt25)) (vEq_ptr ..) ?_
    refine cv (.pointer (some ⟨(blk a19), 0 + (iL8) * 2 + 1, none⟩)) (vEq_ptr ..) ?_
    refine co (.int .i64 (x26.fHi)) (eLoad ex.T hp10.get 3 (.pointer (some ⟨(blk a19), 0 + (iL8) * 2 + 1, none⟩))) (eLoad_oneE T_agg3 ((hT.fSums.mono hE15 le18).blkB hv21 (zl hlt25)) (flat_at (hT.fSums.mono hE15 le18).1 hx27 (by decide) rfl)) (vEq_int ..) ?_
    refine cv (.pointer (some ⟨nx, 0 + 1, none⟩)) (vEq_ptr ..) ?_
    refine co (.slice a19 (t.fSums.l.length) c20) (eLoad ex.T hp10.get 32 (.pointer (some ⟨nx, 0 + 1, none⟩))) (eLoad_one T_agg32 hb16 (by rw [← hv21]; rfl)) (hv21 ▸ hT.fSums.eqSelf 8) ?_
    refine cv (.int .i64 (.ofNat iL8)) (vEq_int ..) ?_
    refine co (.pointer (some ⟨(blk a19), 0 + (iL8) * 2, none⟩)) (eIndexAddr ex.T 32 (.slice a19 (t.fSums.l.length) c20) (.int .i64 (.ofNat (iL8)))) (eIndexAddr_A (k := .i64) T_und32 T_size95 ((hT.fSums.mono hE15 le18).blkA hv21 (zl hlt28)) (hlt28)) (vEq_ptr ..) ?_
    refine cv (.pointer (some ⟨(blk a19), 0 + (iL8) * 2 + 0, none⟩)) (vEq_ptr ..) ?_
    refine co (.int .i64 (x26.fLo)) (eLoad ex.T hp10.get 3 (.pointer (some ⟨(blk a19), 0 + (iL8) * 2 + 0, none⟩))) (eLoad_oneE T_agg3 ((hT.fSums.mono hE15 le18).blkB hv21 (zl hlt28)) (flat_at (hT.fSums.mono hE15 le18).1 hx27 (by decide) rfl)) (vEq_int ..) ?_
    refine cv (.int .i64 (wrapE .i64 ((x26.fHi) - (x26.fLo)))) (vEq_int ..) ?_
    refine cv (.int .i64 (wrapE .i64 ((wrapE .i64 ((x26.fHi) - (x26.fLo))) + (1)))) (vEq_int ..) ?_
    exact Chks.nil
   refine WC.at rfl (WC.val 7 (.int .i64 (wrapE .i64 ((wrapE .i64 ((x26.fHi) - (x26.fLo))) + (1)))) (fun _ _ _ => by kernel_rfl) ?_)
   refine WD.last ?_
   refine WN.nil ⟨?_, ?_⟩
   ·
    exact Chks.nil
   refine WP.seq ?_
   refine sr ?_
   refine ov 29 (.int .i64 (u)) ?_
   obtain ⟨c29, e29, p29⟩ := @nb (leI (0) (u)) ((0) ≤ (u)) (leI_iff)
   refine ov 30 (.bool c29) ?_ (fun _ _ _ => by subst e29; kernel_rfl)
   refine ov 31 (.bool c29) ?_
   refine og 31 (c29) (.int .i64 (u)) (.bool c29) (by cases c29 <;> rfl) (fun h => by obtain rfl := h; exact fun _ _ _ => by kernel_rfl) ?_
   refine og 31 (c29) (.int .i64 (wrapE .i64 ((wrapE .i64 ((x26.fHi) - (x26.fLo))) + (1)))) (.bool c29) (by cases c29 <;> rfl) (fun h => by obtain rfl := h; exact fun _ _ _ => by kernel_rfl) ?_
   obtain ⟨c30, e30, p30⟩ := @nb (ltI (u) (wrapE .i64 ((wrapE .i64 ((x26.fHi) - (x26.fLo))) + (1)))) ((u) < (wrapE .i64 ((wrapE .i64 ((x26.fHi) - (x26.fLo))) + (1)))) (ltI_iff)
   refine og 31 (c29) (.bool c30) (.bool c29) (by cases c29 <;> rfl) (fun h => by obtain rfl := h; exact fun _ _ _ => by subst e30; kernel_rfl) ?_
   obtain ⟨c31, e31, p31⟩ := @nb ((c29 && c30)) (((0) ≤ (u)) ∧ ((u) < (wrapE .i64 ((wrapE .i64 ((x26.fHi) - (x26.fLo))) + (1))))) (by rw [Bool.and_eq_true, p29, p30])
   refine WO.cons (WC.opt (v := .bool c31) 35 (ePick (.bool c29) ((bif c29 then .bool c30 else undef)) (.bool false)) (fun _ _ _ => by kernel_rfl) (by rw [e31]; exact ePick_and (fun h => by obtain rfl : c29 = true := h; rfl)) ?_)
   refine WO.nil ?_
   refine WP.cond c31 (by kernel_rfl) (fun h32 => ?_) (fun h32 => ?_)
   ·
    have q33 := (p31).1 h32
    refine sr ?_
    refine ov 36 (.pointer (some ⟨nx, 0 + 1, none⟩)) ?_
    refine WO.cons (WC.load1 nx (0 + 1) (.slice a19 (t.fSums.l.length) c20) (by kernel_rfl) T_agg32 hb16 (by rw [← hv21]; rfl) ?_)
    refine ov 38 (.int .i64 (.ofNat iL8)) ?_
    have hlt34 : iL8 < t.fSums.l.length := by omega
    refine WO.cons (WC.ix (k := .i64) a19 (t.fSums.l.length) c20 (iL8) 2 (by kernel_rfl) (by kernel_rfl) T_und32 T_size95 ((hT.fSums.mono hE15 le18).blkA hv21 (zl hlt34)) (hlt34) ?_)
    refine ov 40 (.pointer (some ⟨(blk a19), 0 + (iL8) * 2 + 0, none⟩)) ?_
    refine WO.cons (WC.load1E (blk a19) (0 + (iL8) * 2 + 0) (.int .i64 (x26.fLo)) (by kernel_rfl) T_agg3 ((hT.fSums.mono hE15 le18).blkB hv21 (zl hlt34)) (flat_at (hT.fSums.mono hE15 le18).1 hx27 (by decide) rfl) ?_)
    refine ov 42 (.int .i64 (u)) ?_
    refine ov 43 (.int .i64 (wrapE .i64 ((x26.fLo) + (u)))) ?_
    refine ov 4 (.int .i64 (wrapE .i64 ((x26.fLo) + (u)))) ?_
    refine ov 5 (.bool true) ?_
    refine WO.nil ?_
    refine WP.ret ⟨rfl, rfl, [.int .i64 (wrapE .i64 ((x26.fLo) + (u))), .bool true], by kernel_rfl, ?_⟩
    exact ⟨_, true, rfl, fun _ hs => by have hm := List.mem_of_getElem? hx27; exact ⟨x26, hm, chosenIn (hs _ hm) (q33).1 (q33).2⟩, le18, hE15⟩
   ·
    have q33 := nq p31 h32
    refine WP.skip ?_
    refine WP.region ?_
    refine ov 44 (.int .i64 (u)) ?_
    refine ov 45 (.int .i64 (wrapE .i64 ((wrapE .i64 ((x26.fHi) - (x26.fLo))) + (1)))) ?_
    refine ov 46 (.int .i64 (wrapE .i64 ((u) - (wrapE .i64 ((wrapE .i64 ((x26.fHi) - (x26.fLo))) + (1)))))) ?_
    refine ov 1 (.int .i64 (wrapE .i64 ((u) - (wrapE .i64 ((wrapE .i64 ((x26.fHi) - (x26.fLo))) + (1)))))) ?_
    refine WO.nil ?_
    refine WP.region ?_
    refine ov 13 (.int .i64 (.ofNat iL8)) ?_
    refine ov 14 (.int .i64 (.ofNat (iL8 + 1))) ?_ (fun _ _ _ => by rw [← wrapAdd (show iL8 + 1 < 9223372036854775808 by omega)]; kernel_rfl)
    refine ov 6 (.int .i64 (.ofNat (iL8 + 1))) ?_
    refine WO.nil ?_
    refine ⟨t.fSums.l.length - (iL8 + 1), by omega, iL8 + 1, wrapE .i64 ((u) - (wrapE .i64 ((wrapE .i64 ((x26.fHi) - (x26.fLo))) + (1)))), by omega, by kernel_rfl, by kernel_rfl, by kernel_rfl, rfl, rfl, ?_, ?_⟩
    · exact hn13
    · exact he14
  ·
   have q24 := nq p22 h23
   refine WP.exit ?_
   refine sr ?_
   refine ov 4 (.int .i64 (0)) ?_
   refine ov 5 (.bool false) ?_
   refine WO.nil ?_
   refine WP.ret ⟨rfl, rfl, [.int .i64 (0), .bool false], by kernel_rfl, ?_⟩
   exact ⟨0, false, rfl, fun h => absurd h (by decide), le18, hE15⟩
 ·
  exact ⟨0, u0, by omega, by kernel_rfl, by kernel_rfl, by kernel_rfl, rfl, rfl, Nat.le_refl _, HE.refl _ _⟩
end
end Sw

namespace Sw
noncomputable section
open Go Go.Proofs Go.RowKit
set_option maxRecDepth 100000
set_option maxHeartbeats 1600000
theorem SpSep.mono {l : List RSpan} (h : SpSep l) (ho : ∀ s ∈ l, SpanOk s) : ∀ (d i : Nat) (a b : RSpan), l[i]? = some a → l[i + d]? = some b → a.fLo ≤ b.fLo ∧ a.fHi ≤ b.fHi
  | 0, i, a, b, ha, hb => by rw [Nat.add_zero, ha] at hb; cases hb; omega
  | d + 1, i, a, b, ha, hb => by
    have hlt := (List.getElem?_eq_some_iff.1 hb).1
    obtain ⟨c, hc⟩ : ∃ c, l[i + d]? = some c := ⟨_, List.getElem?_eq_getElem (by omega)⟩
    have h1 := h.mono ho d i a c ha hc
    have h2 := h (i + d) c b hc hb
    have h3 := ho c (List.mem_of_getElem? hc)
    have h4 := ho b (List.mem_of_getElem? hb)
    unfold SpanOk at h3 h4
    unfold Apart at h2
    rw [wrapI64 (by omega) (by omega)] at h2
    omega
theorem InSome.bounds {t : RTotal} {v : Int} (h : InSome t v) (hg : GoodT t) : loOf t ≤ v ∧ v ≤ hiOf t ∧ t.fSums.l ≠ [] := by
  obtain ⟨s, hs, h1, h2⟩ := h
  obtain ⟨j, hj⟩ := List.getElem?_of_mem hs
  have hlt := (List.getElem?_eq_some_iff.1 hj).1
  obtain ⟨a, ha⟩ : ∃ a, t.fSums.l[0]? = some a := ⟨_, List.getElem?_eq_getElem (by omega)⟩
  obtain ⟨b, hb⟩ : ∃ b, t.fSums.l[t.fSums.l.length - 1]? = some b := ⟨_, List.getElem?_eq_getElem (by omega)⟩
  have h3 := hg.2.1.mono hg.1 j 0 a s ha (by rw [Nat.zero_add]; exact hj)
  have h4 := hg.2.1.mono hg.1 (t.fSums.l.length - 1 - j) j s b hj (by rw [show j + (t.fSums.l.length - 1 - j) = t.fSums.l.length - 1 by omega]; exact hb)
  rw [loOf_eq ha, hiOf_eq hb]
  refine ⟨by omega, by omega, fun h => ?_⟩
  rw [h] at hlt; cases hlt
theorem cnt_up (P : Nat → Prop) (n : Nat) : cnt P n ≤ cnt P (n + 1) := by simp [cnt]
theorem cnt_le (P : Nat → Prop) (n : Nat) : cnt P (n + 1) ≤ cnt P n + 1 := by
  by_cases h : P n
  · rw [cnt_yes h]; omega
  · rw [cnt_no h]; omega
theorem T_size4 : ex.T.size 4 = some 1 := by kernel_rfl
theorem T_und24 : ex.T.und 24 = some (.slice 4) := by kernel_rfl
theorem relayRank_wf (W : SV RTotal) (p : Int) (U : SV Int) (X : SV Bool) (hp : Ht) (nx : Nat) (hW : SlOk encTotal 3 (fun hp nx y => RTotalOk hp nx y) hp nx W) (hU : SOk encI 1 hp nx U) (hX : SOk encB 1 hp nx X) (hsane : ∀ (hp' : Ht) (nx' : Nat), nx ≤ nx' → HE nx hp hp' → WF ex 4 [] hp' nx' (Stays nx' hp' (BoolIs True))) : WF ex 3 [W.v, .int .i64 (p), U.v, X.v] hp nx (Stays nx hp (BoolIs True)) := by
 obtain ⟨a1, c2, hv3⟩ := hW.1.shape
 have hsm3 := hW.1.2.2
 rw [hv3]
 obtain ⟨a4, c5, hv6⟩ := hU.shape
 have hsm6 := hU.2.2
 rw [hv6]
 obtain ⟨a7, c8, hv9⟩ := hX.shape
 have hsm9 := hX.2.2
 rw [hv9]
 refine WF.body (fi := ⟨Tryz.f3.body.getD .skip, 153, [.tmp 8]⟩) (by kernel_rfl) (by kernel_rfl) (by kernel_rfl) rfl ?_
 have hE := HE.refl nx hp
 refine sr ?_
 refine ov 8 (.bool false) ?_
 refine WO.nil ?_
 refine WP.seq ?_
 refine sr ?_
 refine WO.cons (WC.call 18 4 ([]) (fun _ _ _ => by kernel_rfl) ((hsane hp (nx) (Nat.le_refl nx) hE).mono ?_))
 rintro _ hp10 nx11 ⟨⟨c14, rfl, p14⟩, hn12, he13⟩
 have hE15 := hE.trans he13 (Nat.le_refl nx)
 have le16 := Nat.le_trans (Nat.le_refl nx) hn12
 obtain ⟨c17, e17, p17⟩ := @nb (!c14) (¬ (True)) (by rw [Bool.not_eq_true', ← Bool.not_eq_true, p14])
 refine ov 19 (.bool c17) ?_ (fun _ _ _ => by subst e17; kernel_rfl)
 refine WO.nil ?_
 refine WP.cond c17 (by kernel_rfl) (fun h18 => ?_) (fun h18 => ?_)
 ·
  have q19 := (p17).1 h18
  refine sr ?_
  refine ov 8 (.bool false) ?_
  refine WO.nil ?_
  refine WP.ret ⟨rfl, rfl, [.bool false], by kernel_rfl, ?_⟩
  simp at q19
 ·
  have q19 := nq p17 h18
  refine WP.skip ?_
  refine WP.seq ?_
  refine sr ?_
  refine ov 20 (.slice a1 (W.l.length) c2) ?_
  refine WO.cons (WC.call 21 5 ([W.v]) (fun _ _ _ => by (try rw [hv3]); kernel_rfl) ((few_wf W hp10 (nx11) (hW.mono (fun _ h => h.mono) hE15 le16)).mono ?_))
  rintro _ hp20 nx21 ⟨⟨c24, rfl, p24⟩, hn22, he23⟩
  have hE25 := hE15.trans he23 le16
  have le26 := Nat.le_trans le16 hn22
  obtain ⟨c27, e27, p27⟩ := @nb (!c24) (¬ (Few W)) (by rw [Bool.not_eq_true', ← Bool.not_eq_true, p24])
  refine ov 22 (.bool c27) ?_ (fun _ _ _ => by subst e27; kernel_rfl)
  refine ov 23 (.bool c27) ?_
  refine og 23 (!c27) (.slice a4 (U.l.length) c5) (.bool c27) (by cases c27 <;> rfl) (fun h => by obtain rfl := bF h; exact fun _ _ _ => by kernel_rfl) ?_
  refine og 23 (!c27) (.int .i64 (.ofNat (U.l.length))) (.bool c27) (by cases c27 <;> rfl) (fun h => by obtain rfl := bF h; exact fun _ _ _ => by kernel_rfl) ?_
  refine og 23 (!c27) (.slice a1 (W.l.length) c2) (.bool c27) (by cases c27 <;> rfl) (fun h => by obtain rfl := bF h; exact fun _ _ _ => by kernel_rfl) ?_
  refine og 23 (!c27) (.int .i64 (.ofNat (W.l.length))) (.bool c27) (by cases c27 <;> rfl) (fun h => by obtain rfl := bF h; exact fun _ _ _ => by kernel_rfl) ?_
  obtain ⟨c28, e28, p28⟩ := @nb (ltI (.ofNat (U.l.length)) (.ofNat (W.l.length))) (((U.l.length : Nat) : Int) < ((W.l.length : Nat) : Int)) (ltI_iff)
  refine og 23 (!c27) (.bool c28) (.bool c27) (by cases c27 <;> rfl) (fun h => by obtain rfl := bF h; exact fun _ _ _ => by subst e28; kernel_rfl) ?_
  obtain ⟨c29, e29, p29⟩ := @nb ((c27 || c28)) ((¬ (Few W)) ∨ (((U.l.length : Nat) : Int) < ((W.l.length : Nat) : Int))) (by rw [Bool.or_eq_true, p27, p28])
  refine WO.cons (WC.opt (v := .bool c29) 29 (ePick (.bool c27) (.bool true) ((bif !c27 then .bool c28 else undef))) (fun _ _ _ => by kernel_rfl) (by rw [e29]; exact ePick_or (fun h => by obtain rfl : c27 = false := h; rfl)) ?_)
  refine ov 30 (.bool c29) ?_
  refine og 30 (!c29) (.slice a7 (X.l.length) c8) (.bool c29) (by cases c29 <;> rfl) (fun h => by obtain rfl := bF h; exact fun _ _ _ => by kernel_rfl) ?_
  refine og 30 (!c29) (.int .i64 (.ofNat (X.l.length))) (.bool c29) (by cases c29 <;> rfl) (fun h => by obtain rfl := bF h; exact fun _ _ _ => by kernel_rfl) ?_
  refine og 30 (!c29) (.slice a1 (W.l.length) c2) (.bool c29) (by cases c29 <;> rfl) (fun h => by obtain rfl := bF h; exact fun _ _ _ => by kernel_rfl) ?_
  refine og 30 (!c29) (.int .i64 (.ofNat (W.l.length))) (.bool c29) (by cases c29 <;> rfl) (fun h => by obtain rfl := bF h; exact fun _ _ _ => by kernel_rfl) ?_
  obtain ⟨c30, e30, p30⟩ := @nb (ltI (.ofNat (X.l.length)) (.ofNat (W.l.length))) (((X.l.length : Nat) : Int) < ((W.l.length : Nat) : Int)) (ltI_iff)
  refine og 30 (!c29) (.bool c30) (.bool c29) (by cases c29 <;> rfl) (fun h => by obtain rfl := bF h; exact fun _ _ _ => by subst e30; kernel_rfl) ?_
  obtain ⟨c31, e31, p31⟩ := @nb ((c29 || c30)) (((¬ (Few W)) ∨ (((U.l.length : Nat) : Int) < ((W.l.length : Nat) : Int))) ∨ (((X.l.length : Nat) : Int) < ((W.l.length : Nat) : Int))) (by rw [Bool.or_eq_true, p29, p30])
  refine WO.cons (WC.opt (v := .bool c31) 36 (ePick (.bool c29) (.bool true) ((bif !c29 then .bool c30 else undef))) (fun _ _ _ => by kernel_rfl) (by rw [e31]; exact ePick_or (fun h => by obtain rfl : c29 = false := h; rfl)) ?_)
  refine WO.nil ?_
  refine WP.cond c31 (by kernel_rfl) (fun h32 => ?_) (fun h32 => ?_)
  ·
   have q33 := (p31).1 h32
   refine sr ?_
   refine ov 8 (.bool true) ?_
   refine WO.nil ?_
   refine WP.ret ⟨rfl, rfl, [.bool true], by kernel_rfl, ?_⟩
   exact ⟨⟨true, rfl, fun _ => trivial, fun _ => rfl⟩, le26, hE25⟩
  ·
   have q33 := nq p31 h32
   refine WP.skip ?_
   refine WP.seq ?_
   have q1 := not_or.1 q33
   have q2 := not_or.1 q1.1
   have hFew := Classical.not_not.1 q2.1
   have hl1 := q2.2
   have hl2 := q1.2
   ·
    refine WP.region ?_
    refine ov 38 (.slice a1 (W.l.length) c2) ?_
    refine ov 39 (.int .i64 (p)) ?_
    refine WO.cons (WC.call 40 6 ([W.v, .int .i64 (p)]) (fun _ _ _ => by (try rw [hv3]); kernel_rfl) ((rank_wf W (p) hp20 (nx21) (hW.mono (fun _ h => h.mono) hE25 le26) hFew.1 hFew.2).mono ?_))
    rintro _ hp34 nx35 ⟨a, b, z, rfl, hR, hn36, he37⟩
    have hE38 := hE25.trans he37 le26
    have le39 := Nat.le_trans le26 hn36
    refine ov 37 (.tuple ⟨[.int .i64 (a), .int .i64 (b), .int .i64 (z)]⟩) ?_
    refine ov 41 (.int .i64 (a)) ?_
    refine ov 42 (.int .i64 (b)) ?_
    refine ov 43 (.int .i64 (z)) ?_
    refine ov 9 (.int .i64 (a)) ?_
    refine ov 10 (.int .i64 (b)) ?_
    refine ov 11 (.int .i64 (z)) ?_
    refine WO.nil ?_
    refine WP.seq ?_
    refine sr ?_
    refine ov 44 (.int .i64 (z)) ?_
    obtain ⟨c40, e40, p40⟩ := @nb ((!(eqI (z) (0)))) ((z) ≠ (0)) (neI_iff)
    refine ov 45 (.bool c40) ?_ (fun _ _ _ => by subst e40; kernel_rfl)
    refine ov 46 (.bool c40) ?_
    refine og 46 (!c40) (.int .i64 (p)) (.bool c40) (by cases c40 <;> rfl) (fun h => by obtain rfl := bF h; exact fun _ _ _ => by kernel_rfl) ?_
    obtain ⟨c41, e41, p41⟩ := @nb (ltI (p) (0)) ((p) < (0)) (ltI_iff)
    refine og 46 (!c40) (.bool c41) (.bool c40) (by cases c40 <;> rfl) (fun h => by obtain rfl := bF h; exact fun _ _ _ => by subst e41; kernel_rfl) ?_
    obtain ⟨c42, e42, p42⟩ := @nb ((c40 || c41)) (((z) ≠ (0)) ∨ ((p) < (0))) (by rw [Bool.or_eq_true, p40, p41])
    refine WO.cons (WC.opt (v := .bool c42) 49 (ePick (.bool c40) (.bool true) ((bif !c40 then .bool c41 else undef))) (fun _ _ _ => by kernel_rfl) (by rw [e42]; exact ePick_or (fun h => by obtain rfl : c40 = false := h; rfl)) ?_)
    refine ov 50 (.bool c42) ?_
    refine og 50 (!c42) (.int .i64 (p)) (.bool c42) (by cases c42 <;> rfl) (fun h => by obtain rfl := bF h; exact fun _ _ _ => by kernel_rfl) ?_
    refine og 50 (!c42) (.slice a1 (W.l.length) c2) (.bool c42) (by cases c42 <;> rfl) (fun h => by obtain rfl := bF h; exact fun _ _ _ => by kernel_rfl) ?_
    refine og 50 (!c42) (.int .i64 (.ofNat (W.l.length))) (.bool c42) (by cases c42 <;> rfl) (fun h => by obtain rfl := bF h; exact fun _ _ _ => by kernel_rfl) ?_
    obtain ⟨c43, e43, p43⟩ := @nb (leI (.ofNat (W.l.length)) (p)) (((W.l.length : Nat) : Int) ≤ (p)) (leI_iff)
    refine og 50 (!c42) (.bool c43) (.bool c42) (by cases c42 <;> rfl) (fun h => by obtain rfl := bF h; exact fun _ _ _ => by subst e43; kernel_rfl) ?_
    obtain ⟨c44, e44, p44⟩ := @nb ((c42 || c43)) ((((z) ≠ (0)) ∨ ((p) < (0))) ∨ (((W.l.length : Nat) : Int) ≤ (p))) (by rw [Bool.or_eq_true, p42, p43])
    refine WO.cons (WC.opt (v := .bool c44) 55 (ePick (.bool c42) (.bool true) ((bif !c42 then .bool c43 else undef))) (fun _ _ _ => by kernel_rfl) (by rw [e44]; exact ePick_or (fun h => by obtain rfl : c42 = false := h; rfl)) ?_)
    refine WO.nil ?_
    refine WP.cond c44 (by kernel_rfl) (fun h45 => ?_) (fun h45 => ?_)
    ·
     have q46 := (p44).1 h45
     refine sr ?_
     refine ov 56 (.int .i64 (z)) ?_
     obtain ⟨c47, e47, p47⟩ := @nb ((!(eqI (z) (0)))) ((z) ≠ (0)) (neI_iff)
     refine ov 57 (.bool c47) ?_ (fun _ _ _ => by subst e47; kernel_rfl)
     refine ov 58 (.bool c47) ?_
     refine og 58 (c47) (.int .i64 (a)) (.bool c47) (by cases c47 <;> rfl) (fun h => by obtain rfl := h; exact fun _ _ _ => by kernel_rfl) ?_
     obtain ⟨c48, e48, p48⟩ := @nb (eqI (a) (0)) ((a) = (0)) (eqI_iff)
     refine og 58 (c47) (.bool c48) (.bool c47) (by cases c47 <;> rfl) (fun h => by obtain rfl := h; exact fun _ _ _ => by subst e48; kernel_rfl) ?_
     obtain ⟨c49, e49, p49⟩ := @nb ((c47 && c48)) (((z) ≠ (0)) ∧ ((a) = (0))) (by rw [Bool.and_eq_true, p47, p48])
     refine WO.cons (WC.opt (v := .bool c49) 61 (ePick (.bool c47) ((bif c47 then .bool c48 else undef)) (.bool false)) (fun _ _ _ => by kernel_rfl) (by rw [e49]; exact ePick_and (fun h => by obtain rfl : c47 = true := h; rfl)) ?_)
     refine ov 62 (.bool c49) ?_
     refine og 62 (c49) (.int .i64 (b)) (.bool c49) (by cases c49 <;> rfl) (fun h => by obtain rfl := h; exact fun _ _ _ => by kernel_rfl) ?_
     obtain ⟨c50, e50, p50⟩ := @nb (eqI (b) (0)) ((b) = (0)) (eqI_iff)
     refine og 62 (c49) (.bool c50) (.bool c49) (by cases c49 <;> rfl) (fun h => by obtain rfl := h; exact fun _ _ _ => by subst e50; kernel_rfl) ?_
     obtain ⟨c51, e51, p51⟩ := @nb ((c49 && c50)) ((((z) ≠ (0)) ∧ ((a) = (0))) ∧ ((b) = (0))) (by rw [Bool.and_eq_true, p49, p50])
     refine WO.cons (WC.opt (v := .bool c51) 65 (ePick (.bool c49) ((bif c49 then .bool c50 else undef)) (.bool false)) (fun _ _ _ => by kernel_rfl) (by rw [e51]; exact ePick_and (fun h => by obtain rfl : c49 = true := h; rfl)) ?_)
     refine ov 8 (.bool c51) ?_
     refine WO.nil ?_
     refine WP.ret ⟨rfl, rfl, [.bool c51], by kernel_rfl, ?_⟩
     refine ⟨⟨c51, rfl, fun _ => trivial, fun _ => (p51).2 ?_⟩, le39, hE38⟩
     have hz : z ≠ 0 := fun h => by
      obtain ⟨_, k, y, hpk, hy, _⟩ := hR.2 h
      have hkl := (List.getElem?_eq_some_iff.1 hy).1
      have hpk : p = (k : Int) := hpk
      rcases q46 with (h1 | h1) | h1 <;> omega
     have h := hR.1 hz
     exact ⟨⟨hz, h.1⟩, h.2⟩
    ·
     have q46 := nq p44 h45
     refine WP.skip ?_
     refine WP.seq ?_
     have q3 := not_or.1 q46
     have q4 := not_or.1 q3.1
     obtain ⟨hgood, k, y, hpk, hy, hcase⟩ := hR.2 (Classical.not_not.1 q4.1)
     clear hR; subst hpk
     have hkl := (List.getElem?_eq_some_iff.1 hy).1
     ·
      refine WP.drawS [⟨[0, 1, 2, 3, 4, 5, 6, 7], [0, 1, 2, 3, 4, 5, 6, 7], some 8⟩, ⟨[9, 10, 11], [9, 10, 11], some 12⟩, ⟨[], [11], some 13⟩, ⟨[], [], none⟩] (by kernel_rfl) _ rfl ?_
      refine WD.eff ?_
      refine nv 67 (.slice a1 (W.l.length) c2) ?_
      refine nv 68 (.int .i64 (.ofNat k)) ?_
      have hlt52 : k < W.l.length := by omega
      refine WN.consAt rfl (WC.ix (k := .i64) a1 (W.l.length) c2 (k) 3 (by kernel_rfl) (by kernel_rfl) T_und22 T_size34 ((hW.1.mono hE38 le39).blkA hv3 (zl hlt52)) (hlt52) ?_)
      refine WN.consAt rfl (WC.loadSE (blk a1) (0 + (k) * 3) (encTotal y) (by kernel_rfl) T_agg34 T_size34 ((hW.1.mono hE38 le39).blkB hv3 (zl hlt52)) (flat_at0 (hW.1.mono hE38 le39).1 hy) ?_)
      refine nv 71 (.slice a4 (U.l.length) c5) ?_
      refine nv 72 (.int .i64 (.ofNat k)) ?_
      have hlt53 : k < U.l.length := by omega
      refine WN.consAt rfl (WC.ix (k := .i64) a4 (U.l.length) c5 (k) 1 (by kernel_rfl) (by kernel_rfl) T_und23 T_size3 ((hU.mono hE38 le39).blkA hv6 (zl hlt53)) (hlt53) ?_)
      obtain ⟨x54, hx55⟩ : ∃ el_, U.l[k]? = some el_ := ⟨_, List.getElem?_eq_getElem (hlt53)⟩
      refine WN.consAt rfl (WC.load1E (blk a4) (0 + (k) * 1) (.int .i64 (x54)) (by kernel_rfl) T_agg3 ((hU.mono hE38 le39).blkB hv6 (zl hlt53)) (flat_at1 (hU.mono hE38 le39).1 hx55 rfl) ?_)
      refine WN.nil ⟨?_, ?_⟩
      ·
       refine cv (.slice a1 (W.l.length) c2) (hv3 ▸ hW.1.eqSelf 8) ?_
       refine cv (.int .i64 (.ofNat k)) (vEq_int ..) ?_
       refine co (.pointer (some ⟨(blk a1), 0 + (k) * 3, none⟩)) (eIndexAddr ex.T 22 (.slice a1 (W.l.length) c2) (.int .i64 (.ofNat (k)))) (eIndexAddr_A (k := .i64) T_und22 T_size34 ((hW.1.mono hE38 le39).blkA hv3 (zl hlt52)) (hlt52)) (vEq_ptr ..) ?_
       refine co (.agg (encTotal y).toArray) (eLoad ex.T hp34.get 34 (.pointer (some ⟨(blk a1), 0 + (k) * 3, none⟩))) (eLoad_aggE T_agg34 T_size34 ((hW.1.mono hE38 le39).blkB hv3 (zl hlt52)) (flat_at0 (hW.1.mono hE38 le39).1 hy)) (encTotal_vEq y (hW.2 y (List.mem_of_getElem? hy))) ?_
       refine cv (.slice a4 (U.l.length) c5) (hv6 ▸ hU.eqSelf 8) ?_
       refine cv (.int .i64 (.ofNat k)) (vEq_int ..) ?_
       refine co (.pointer (some ⟨(blk a4), 0 + (k) * 1, none⟩)) (eIndexAddr ex.T 23 (.slice a4 (U.l.length) c5) (.int .i64 (.ofNat (k)))) (eIndexAddr_A (k := .i64) T_und23 T_size3 ((hU.mono hE38 le39).blkA hv6 (zl hlt53)) (hlt53)) (vEq_ptr ..) ?_
       refine co (.int .i64 (x54)) (eLoad ex.T hp34.get 3 (.pointer (some ⟨(blk a4), 0 + (k) * 1, none⟩))) (eLoad_oneE T_agg3 ((hU.mono hE38 le39).blkB hv6 (zl hlt53)) (flat_at1 (hU.mono hE38 le39).1 hx55 rfl)) (vEq_int ..) ?_
       exact Chks.nil
      refine WC.at rfl (WC.call 75 7 ([.agg (encTotal y).toArray, .int .i64 (x54)]) (fun _ _ _ => by kernel_rfl) ((chosen_wf y (x54) hp34 (nx35) ((hW.2 y (List.mem_of_getElem? hy)).mono hE38 le39)).mono ?_))
      rintro _ hp60 nx61 ⟨v56, b57, rfl, hch58, hn62, he63⟩
      have pb59 : b57 = true ↔ (b57 = true) := Iff.rfl
      have hE64 := hE38.trans he63 le39
      have le65 := Nat.le_trans le39 hn62
      refine WD.eff ?_
      refine nv 66 (.tuple ⟨[.int .i64 (v56), .bool b57]⟩) ?_
      refine nv 76 (.int .i64 (v56)) ?_
      refine nv 77 (.bool b57) ?_
      refine WN.nil ⟨?_, ?_⟩
      ·
       refine cv (.tuple ⟨[.int .i64 (v56), .bool b57]⟩) (vEq_tup 7 _ (by intro v hv; simp only [List.mem_cons, List.not_mem_nil, or_false] at hv; rcases hv with rfl | rfl <;> first | exact vEq_int .. | exact vEq_bool ..)) ?_
       refine cv (.int .i64 (v56)) (vEq_int ..) ?_
       refine cv (.bool b57) (vEq_bool 8 b57) ?_
       exact Chks.nil
      refine WC.at rfl (WC.val 12 (.int .i64 (v56)) (fun _ _ _ => by kernel_rfl) ?_)
      refine WD.eff ?_
      refine WN.nil ⟨?_, ?_⟩
      ·
       refine cv (.bool b57) (vEq_bool 8 b57) ?_
       exact Chks.nil
      refine WC.at rfl (WC.val 13 (.bool b57) (fun _ _ _ => by kernel_rfl) ?_)
      refine WD.last ?_
      refine WN.nil ⟨?_, ?_⟩
      ·
       exact Chks.nil
      refine WP.seq ?_
      refine sr ?_
      refine ov 78 (.bool b57) ?_
      obtain ⟨c66, e66, p66⟩ := @nb (!b57) (¬ (b57 = true)) (by rw [Bool.not_eq_true', ← Bool.not_eq_true, pb59])
      refine ov 79 (.bool c66) ?_ (fun _ _ _ => by subst e66; kernel_rfl)
      refine WO.nil ?_
      refine WP.cond c66 (by kernel_rfl) (fun h67 => ?_) (fun h67 => ?_)
      ·
       have q68 := (p66).1 h67
       refine sr ?_
       refine ov 80 (.slice a1 (W.l.length) c2) ?_
       refine ov 81 (.int .i64 (.ofNat k)) ?_
       have hlt69 : k < W.l.length := by omega
       refine WO.cons (WC.ix (k := .i64) a1 (W.l.length) c2 (k) 3 (by kernel_rfl) (by kernel_rfl) T_und22 T_size34 ((hW.1.mono hE64 le65).blkA hv3 (zl hlt69)) (hlt69) ?_)
       refine ov 83 (.pointer (some ⟨(blk a1), 0 + (k) * 3 + 1, none⟩)) ?_
       obtain ⟨a70, c71, hv72⟩ := (hW.2 y (List.mem_of_getElem? hy)).fSums.shape
       have hsm72 := (hW.2 y (List.mem_of_getElem? hy)).fSums.2.2
       refine WO.cons (WC.load1E (blk a1) (0 + (k) * 3 + 1) (.slice a70 (y.fSums.l.length) c71) (by kernel_rfl) T_agg32 ((hW.1.mono hE64 le65).blkB hv3 (zl hlt69)) (flat_at (hW.1.mono hE64 le65).1 hy (by decide) (by rw [← hv72]; rfl)) ?_)
       refine ov 85 (.int .i64 (.ofNat (y.fSums.l.length))) ?_
       obtain ⟨c73, e73, p73⟩ := @nb (ltI (0) (.ofNat (y.fSums.l.length))) ((0) < ((y.fSums.l.length : Nat) : Int)) (ltI_iff)
       refine ov 86 (.bool c73) ?_ (fun _ _ _ => by subst e73; kernel_rfl)
       refine ov 87 (.bool c73) ?_
       refine og 87 (!c73) (.int .i64 (a)) (.bool c73) (by cases c73 <;> rfl) (fun h => by obtain rfl := bF h; exact fun _ _ _ => by kernel_rfl) ?_
       obtain ⟨c74, e74, p74⟩ := @nb (eqI (a) (0)) ((a) = (0)) (eqI_iff)
       refine og 87 (!c73) (.bool c74) (.bool c73) (by cases c73 <;> rfl) (fun h => by obtain rfl := bF h; exact fun _ _ _ => by subst e74; kernel_rfl) ?_
       refine og 87 (!c73) (.bool c74) (.bool c73) (by cases c73 <;> rfl) (fun h => by obtain rfl := bF h; exact fun _ _ _ => by kernel_rfl) ?_
       refine og 90 (!c73 && c74) (.int .i64 (b)) ((bif !c73 then .bool c74 else undef)) (by cases c73 <;> cases c74 <;> rfl) (fun h => by obtain ⟨rfl, rfl⟩ := bFT h; exact fun _ _ _ => by kernel_rfl) ?_
       obtain ⟨c75, e75, p75⟩ := @nb (eqI (b) (0)) ((b) = (0)) (eqI_iff)
       refine og 90 (!c73 && c74) (.bool c75) ((bif !c73 then .bool c74 else undef)) (by cases c73 <;> cases c74 <;> rfl) (fun h => by obtain ⟨rfl, rfl⟩ := bFT h; exact fun _ _ _ => by subst e75; kernel_rfl) ?_
       obtain ⟨c76, e76, p76⟩ := @nb ((c74 && c75)) (((a) = (0)) ∧ ((b) = (0))) (by rw [Bool.and_eq_true, p74, p75])
       refine ogc 87 (!c73) (.bool c76) (.bool c73) (by cases c73 <;> rfl) (fun h => by obtain rfl := bF h; exact WC.opt (v := .bool c76) 93 (ePick (.bool c74) ((bif !false && c74 then .bool c75 else undef)) (.bool false)) (fun _ _ _ => by kernel_rfl) (by rw [e76]; exact ePick_and (fun h => by obtain rfl : c74 = true := h; rfl)) rfl) ?_
       obtain ⟨c77, e77, p77⟩ := @nb ((c73 || c76)) (((0) < ((y.fSums.l.length : Nat) : Int)) ∨ (((a) = (0)) ∧ ((b) = (0)))) (by rw [Bool.or_eq_true, p73, p76])
       refine WO.cons (WC.opt (v := .bool c77) 94 (ePick (.bool c73) (.bool true) ((bif !c73 then .bool c76 else undef))) (fun _ _ _ => by kernel_rfl) (by rw [e77]; exact ePick_or (fun h => by obtain rfl : c73 = false := h; rfl)) ?_)
       refine ov 8 (.bool c77) ?_
       refine WO.nil ?_
       refine WP.ret ⟨rfl, rfl, [.bool c77], by kernel_rfl, ?_⟩
       refine ⟨⟨c77, rfl, fun _ => trivial, fun _ => (p77).2 ?_⟩, le65, hE64⟩
       rcases hcase with ⟨_, h1, h2⟩ | ⟨h, _⟩
       · exact .inr ⟨h1, h2⟩
       · exact .inl (by have := List.length_pos_iff.2 h; omega)
      ·
       have q68 := nq p66 h67
       refine WP.skip ?_
       refine WP.seq ?_
       have hv0 := hch58 (Classical.not_not.1 q68) (hgood y (List.mem_of_getElem? hy)).1
       have hby0 := hv0.bounds (hgood y (List.mem_of_getElem? hy))
       obtain ⟨ha, hb⟩ : a = ((1 + cnt (LoP W k) W.l.length : Nat) : Int) ∧ b = ((1 + cnt (HiP W k) W.l.length : Nat) : Int) := by rcases hcase with ⟨h, _⟩ | ⟨_, h⟩; exact absurd h hby0.2.2; exact h
       ·
        refine WP.region ?_
        refine ov 14 (.int .i64 (1)) ?_
        refine WO.nil ?_
        refine WP.seq ?_
        refine sr ?_
        refine ov 15 (.int .i64 (0)) ?_
        refine WO.nil ?_
        refine WP.block ?_
        have hj79 : ∀ t : Tm, (((((((((t.set 0 (t.get 0)).set 1 (t.get 1)).set 2 (t.get 2)).set 3 (t.get 3)).set 9 (t.get 9)).set 10 (t.get 10)).set 12 (t.get 12)).set 14 (t.get 14)).set 15 (t.get 15)) = t := fun t => by kernel_rfl
        refine WP.loop (fun m s => ∃ (iL78 : Nat) (cR : Nat), iL78 + m = W.l.length ∧ s.to.get 0 = .slice a1 (W.l.length) c2 ∧ s.to.get 1 = .int .i64 (.ofNat k) ∧ s.to.get 2 = .slice a4 (U.l.length) c5 ∧ s.to.get 3 = .slice a7 (X.l.length) c8 ∧ s.to.get 9 = .int .i64 (a) ∧ s.to.get 10 = .int .i64 (b) ∧ s.to.get 12 = .int .i64 (v56) ∧ s.to.get 14 = .int .i64 (.ofNat (1 + cR)) ∧ s.to.get 15 = .int .i64 (.ofNat iL78) ∧ s.ds = [] ∧ s.cs = [] ∧ nx61 ≤ s.nx ∧ HE (nx61) hp60 s.hp ∧ (cnt (LoP W k) iL78 ≤ cR) ∧ (cR ≤ cnt (HiP W k) iL78) ∧ (cR ≤ iL78)) ?_ (W.l.length) ?_
        ·
         rintro mL78 ⟨toL78, dsL78, hp80, nx81, csL78⟩ ⟨iL78, cR, him82, gL78_0, gL78_1, gL78_2, gL78_3, gL78_9, gL78_10, gL78_12, gL78_14, gL78_15, hdsL78, hcsL78, hn83, he84, hlo, hhi, hbR⟩
         simp only at gL78_0 gL78_1 gL78_2 gL78_3 gL78_9 gL78_10 gL78_12 gL78_14 gL78_15 hdsL78 hcsL78 hn83 he84
         subst hdsL78 hcsL78
         rw [← hj79 toL78, gL78_0, gL78_1, gL78_2, gL78_3, gL78_9, gL78_10, gL78_12, gL78_14, gL78_15]
         clear gL78_0 gL78_1 gL78_2 gL78_3 gL78_9 gL78_10 gL78_12 gL78_14 gL78_15
         have hE85 := hE64.trans he84 le65
         have le86 := Nat.le_trans le65 hn83
         refine WP.seq ?_
         refine sr ?_
         refine ov 95 (.int .i64 (.ofNat iL78)) ?_
         refine ov 96 (.slice a1 (W.l.length) c2) ?_
         refine ov 97 (.int .i64 (.ofNat (W.l.length))) ?_
         obtain ⟨c87, e87, p87⟩ := @nb (ltI (.ofNat iL78) (.ofNat (W.l.length))) (((iL78 : Nat) : Int) < ((W.l.length : Nat) : Int)) (ltI_iff)
         refine ov 98 (.bool c87) ?_ (fun _ _ _ => by subst e87; kernel_rfl)
         refine WO.nil ?_
         refine WP.cond c87 (by kernel_rfl) (fun h88 => ?_) (fun h88 => ?_)
         ·
          have q89 := (p87).1 h88
          refine WP.skip ?_
          refine WP.seq ?_
          refine WP.block ?_
          refine WP.seq ?_
          refine sr ?_
          refine ov 101 (.int .i64 (.ofNat iL78)) ?_
          refine ov 102 (.int .i64 (.ofNat k)) ?_
          obtain ⟨c90, e90, p90⟩ := @nb (eqI (.ofNat iL78) (.ofNat k)) (((iL78 : Nat) : Int) = ((k : Nat) : Int)) (eqI_iff)
          refine ov 103 (.bool c90) ?_ (fun _ _ _ => by subst e90; kernel_rfl)
          refine ov 104 (.bool c90) ?_
          refine og 104 (!c90) (.slice a1 (W.l.length) c2) (.bool c90) (by cases c90 <;> rfl) (fun h => by obtain rfl := bF h; exact fun _ _ _ => by kernel_rfl) ?_
          refine og 104 (!c90) (.int .i64 (.ofNat iL78)) (.bool c90) (by cases c90 <;> rfl) (fun h => by obtain rfl := bF h; exact fun _ _ _ => by kernel_rfl) ?_
          have hlt91 : (!c90) = true → iL78 < W.l.length := fun h => by obtain rfl : c90 = false := (by simpa using h); have q0 : ¬ (((iL78 : Nat) : Int) = ((k : Nat) : Int)) := (fun k => absurd ((p90).2 k) (by decide)); omega
          refine ogc 104 (!c90) (.pointer (some ⟨(blk a1), 0 + (iL78) * 3, none⟩)) (.bool c90) (by cases c90 <;> rfl) (fun h => by obtain rfl := bF h; exact WC.ix (k := .i64) a1 (W.l.length) c2 (iL78) 3 (by kernel_rfl) (by kernel_rfl) T_und22 T_size34 ((hW.1.mono hE85 le86).blkA hv3 (zl ((hlt91 rfl)))) ((hlt91 rfl)) rfl) ?_
          refine og 104 (!c90) (.pointer (some ⟨(blk a1), 0 + (iL78) * 3 + 2, none⟩)) (.bool c90) (by cases c90 <;> rfl) (fun h => by obtain rfl := bF h; exact fun _ _ _ => by kernel_rfl) ?_
          obtain ⟨x92, hx93⟩ : ∃ el_, W.l[iL78]? = some el_ := ⟨_, List.getElem?_eq_getElem (by omega)⟩
          obtain ⟨c94, e94, p94⟩ := @nb (x92.fOut) (x92.fOut = true) (by first | done | exact Iff.rfl)
          refine ogc 104 (!c90) (.bool c94) (.bool c90) (by cases c90 <;> rfl) (fun h => by obtain rfl := bF h; exact WC.load1E (blk a1) (0 + (iL78) * 3 + 2) (.bool c94) (by kernel_rfl) T_agg4 ((hW.1.mono hE85 le86).blkB hv3 (zl ((hlt91 rfl)))) (flat_at (hW.1.mono hE85 le86).1 hx93 (by decide) (by rw [e94]; rfl)) rfl) ?_
          refine og 104 (!c90) (.bool c94) (.bool c90) (by cases c90 <;> rfl) (fun h => by obtain rfl := bF h; exact fun _ _ _ => by kernel_rfl) ?_
          refine og 110 (!c90 && c94) (.slice a7 (X.l.length) c8) ((bif !c90 then .bool c94 else undef)) (by cases c90 <;> cases c94 <;> rfl) (fun h => by obtain ⟨rfl, rfl⟩ := bFT h; exact fun _ _ _ => by kernel_rfl) ?_
          refine og 110 (!c90 && c94) (.int .i64 (.ofNat iL78)) ((bif !c90 then .bool c94 else undef)) (by cases c90 <;> cases c94 <;> rfl) (fun h => by obtain ⟨rfl, rfl⟩ := bFT h; exact fun _ _ _ => by kernel_rfl) ?_
          have hlt95 : (!c90 && c94) = true → iL78 < X.l.length := fun h => by obtain ⟨rfl, rfl⟩ : c90 = false ∧ c94 = true := (by simpa [and_assoc] using h); have q0 : ¬ (((iL78 : Nat) : Int) = ((k : Nat) : Int)) := (fun k => absurd ((p90).2 k) (by decide)); have q1 := (p94).1 rfl; omega
          refine ogc 110 (!c90 && c94) (.pointer (some ⟨(blk a7), 0 + (iL78) * 1, none⟩)) ((bif !c90 then .bool c94 else undef)) (by cases c90 <;> cases c94 <;> rfl) (fun h => by obtain ⟨rfl, rfl⟩ := bFT h; exact WC.ix (k := .i64) a7 (X.l.length) c8 (iL78) 1 (by kernel_rfl) (by kernel_rfl) T_und24 T_size4 ((hX.mono hE85 le86).blkA hv9 (zl ((hlt95 rfl)))) ((hlt95 rfl)) rfl) ?_
          obtain ⟨x96, hx97⟩ : ∃ el_, (!c90 && c94) = true → X.l[iL78]? = some el_ := ⟨(X.l[iL78]?).getD default, fun h => by rw [List.getElem?_eq_getElem (by obtain ⟨rfl, rfl⟩ : c90 = false ∧ c94 = true := (by simpa [and_assoc] using h); exact (hlt95 rfl))]; rfl⟩
          have hx97p := fun (a0 : ¬ (((iL78 : Nat) : Int) = ((k : Nat) : Int))) (a1 : (x92.fOut = true)) => hx97 (by first | (rw [show c90 = false from Bool.eq_false_iff.2 (fun k => a0 ((p90).1 k)), show c94 = true from (p94).2 a1]; rfl) | rw [show c90 = false from Bool.eq_false_iff.2 (fun k => a0 ((p90).1 k)), show c94 = true from (p94).2 a1])
          obtain ⟨c98, e98, p98⟩ := @nb (x96) (x96 = true) (by first | done | exact Iff.rfl)
          refine ogc 110 (!c90 && c94) (.bool c98) ((bif !c90 then .bool c94 else undef)) (by cases c90 <;> cases c94 <;> rfl) (fun h => by obtain ⟨rfl, rfl⟩ := bFT h; exact WC.load1E (blk a7) (0 + (iL78) * 1) (.bool c98) (by kernel_rfl) T_agg4 ((hX.mono hE85 le86).blkB hv9 (zl ((hlt95 rfl)))) (flat_at1 (hX.mono hE85 le86).1 (hx97 rfl) (by rw [e98]; rfl)) rfl) ?_
          obtain ⟨c99, e99, p99⟩ := @nb ((c94 && c98)) ((x92.fOut = true) ∧ (x96 = true)) (by rw [Bool.and_eq_true, p94, p98])
          refine ogc 104 (!c90) (.bool c99) (.bool c90) (by cases c90 <;> rfl) (fun h => by obtain rfl := bF h; exact WC.opt (v := .bool c99) 115 (ePick (.bool c94) ((bif !false && c94 then .bool c98 else undef)) (.bool false)) (fun _ _ _ => by kernel_rfl) (by rw [e99]; exact ePick_and (fun h => by obtain rfl : c94 = true := h; rfl)) rfl) ?_
          obtain ⟨c100, e100, p100⟩ := @nb ((c90 || c99)) ((((iL78 : Nat) : Int) = ((k : Nat) : Int)) ∨ ((x92.fOut = true) ∧ (x96 = true))) (by rw [Bool.or_eq_true, p90, p99])
          refine WO.cons (WC.opt (v := .bool c100) 116 (ePick (.bool c90) (.bool true) ((bif !c90 then .bool c99 else undef))) (fun _ _ _ => by kernel_rfl) (by rw [e100]; exact ePick_or (fun h => by obtain rfl : c90 = false := h; rfl)) ?_)
          refine ov 117 (.bool c100) ?_
          refine og 117 (!c100) (.slice a1 (W.l.length) c2) (.bool c100) (by cases c100 <;> rfl) (fun h => by obtain rfl := bF h; exact fun _ _ _ => by kernel_rfl) ?_
          refine og 117 (!c100) (.int .i64 (.ofNat iL78)) (.bool c100) (by cases c100 <;> rfl) (fun h => by obtain rfl := bF h; exact fun _ _ _ => by kernel_rfl) ?_
          have hlt101 : (!c100) = true → iL78 < W.l.length := fun h => by obtain rfl : c100 = false := (by simpa using h); have q0 : ¬ ((((iL78 : Nat) : Int) = ((k : Nat) : Int)) ∨ ((x92.fOut = true) ∧ (x96 = true))) := (fun k => absurd ((p100).2 k) (by decide)); omega
          refine ogc 117 (!c100) (.pointer (some ⟨(blk a1), 0 + (iL78) * 3, none⟩)) (.bool c100) (by cases c100 <;> rfl) (fun h => by obtain rfl := bF h; exact WC.ix (k := .i64) a1 (W.l.length) c2 (iL78) 3 (by kernel_rfl) (by kernel_rfl) T_und22 T_size34 ((hW.1.mono hE85 le86).blkA hv3 (zl ((hlt101 rfl)))) ((hlt101 rfl)) rfl) ?_
          refine og 117 (!c100) (.pointer (some ⟨(blk a1), 0 + (iL78) * 3 + 1, none⟩)) (.bool c100) (by cases c100 <;> rfl) (fun h => by obtain rfl := bF h; exact fun _ _ _ => by kernel_rfl) ?_
          obtain ⟨a102, c103, hv104⟩ := (hW.2 x92 (List.mem_of_getElem? hx93)).fSums.shape
          have hsm104 := (hW.2 x92 (List.mem_of_getElem? hx93)).fSums.2.2
          refine ogc 117 (!c100) (.slice a102 (x92.fSums.l.length) c103) (.bool c100) (by cases c100 <;> rfl) (fun h => by obtain rfl := bF h; exact WC.load1E (blk a1) (0 + (iL78) * 3 + 1) (.slice a102 (x92.fSums.l.length) c103) (by kernel_rfl) T_agg32 ((hW.1.mono hE85 le86).blkB hv3 (zl ((hlt101 rfl)))) (flat_at (hW.1.mono hE85 le86).1 hx93 (by decide) (by rw [← hv104]; rfl)) rfl) ?_
          refine og 117 (!c100) (.int .i64 (.ofNat (x92.fSums.l.length))) (.bool c100) (by cases c100 <;> rfl) (fun h => by obtain rfl := bF h; exact fun _ _ _ => by kernel_rfl) ?_
          obtain ⟨c105, e105, p105⟩ := @nb (eqI (.ofNat (x92.fSums.l.length)) (0)) (((x92.fSums.l.length : Nat) : Int) = (0)) (eqI_iff)
          refine og 117 (!c100) (.bool c105) (.bool c100) (by cases c100 <;> rfl) (fun h => by obtain rfl := bF h; exact fun _ _ _ => by subst e105; kernel_rfl) ?_
          obtain ⟨c106, e106, p106⟩ := @nb ((c100 || c105)) (((((iL78 : Nat) : Int) = ((k : Nat) : Int)) ∨ ((x92.fOut = true) ∧ (x96 = true))) ∨ (((x92.fSums.l.length : Nat) : Int) = (0))) (by rw [Bool.or_eq_true, p100, p105])
          refine WO.cons (WC.opt (v := .bool c106) 125 (ePick (.bool c100) (.bool true) ((bif !c100 then .bool c105 else undef))) (fun _ _ _ => by kernel_rfl) (by rw [e106]; exact ePick_or (fun h => by obtain rfl : c100 = false := h; rfl)) ?_)
          refine WO.nil ?_
          refine WP.cond c106 (by kernel_rfl) (fun h107 => ?_) (fun h107 => ?_)
          ·
           have q108 := (p106).1 h107
           refine WP.exit ?_
           refine WP.region ?_
           refine ov 99 (.int .i64 (.ofNat iL78)) ?_
           refine ov 100 (.int .i64 (.ofNat (iL78 + 1))) ?_ (fun _ _ _ => by rw [← wrapAdd (show iL78 + 1 < 9223372036854775808 by omega)]; kernel_rfl)
           refine ov 15 (.int .i64 (.ofNat (iL78 + 1))) ?_
           refine WO.nil ?_
           refine ⟨W.l.length - (iL78 + 1), by omega, iL78 + 1, cR, by omega, by kernel_rfl, by kernel_rfl, by kernel_rfl, by kernel_rfl, by kernel_rfl, by kernel_rfl, by kernel_rfl, by kernel_rfl, by kernel_rfl, rfl, rfl, ?_, ?_, ?_, ?_, ?_⟩
           · exact hn83
           · exact he84
           · have hno : ¬ LoP W k iL78 := by
              rintro ⟨t, y', h1, h2, h3, h4, h5, h6⟩
              rw [hx93] at h1; cases h1
              rcases q108 with (h | h) | h
              · exact h3 (by omega)
              · rw [h5] at h; exact absurd h.1 (by decide)
              · exact h4 (List.eq_nil_of_length_eq_zero (by omega))
             rw [cnt_no hno]; exact hlo
           · have := cnt_up (HiP W k) iL78; omega
           · omega
          ·
           have q108 := nq p106 h107
           refine WP.skip ?_
           refine WP.seq ?_
           refine WP.drawS [⟨[0, 1, 2, 3, 4, 5, 6, 7], [0, 1, 2, 3, 4, 5, 6, 7], some 8⟩, ⟨[9, 10, 11], [9, 10, 11], some 12⟩, ⟨[], [11], some 13⟩, ⟨[], [], none⟩] (by kernel_rfl) _ rfl ?_
           refine WD.eff ?_
           refine nv 127 (.slice a1 (W.l.length) c2) ?_
           refine nv 128 (.int .i64 (.ofNat iL78)) ?_
           have hlt109 : iL78 < W.l.length := by omega
           refine WN.consAt rfl (WC.ix (k := .i64) a1 (W.l.length) c2 (iL78) 3 (by kernel_rfl) (by kernel_rfl) T_und22 T_size34 ((hW.1.mono hE85 le86).blkA hv3 (zl hlt109)) (hlt109) ?_)
           refine WN.consAt rfl (WC.loadSE (blk a1) (0 + (iL78) * 3) (encTotal x92) (by kernel_rfl) T_agg34 T_size34 ((hW.1.mono hE85 le86).blkB hv3 (zl hlt109)) (flat_at0 (hW.1.mono hE85 le86).1 hx93) ?_)
           refine nv 131 (.slice a4 (U.l.length) c5) ?_
           refine nv 132 (.int .i64 (.ofNat iL78)) ?_
           have hlt110 : iL78 < U.l.length := by omega
           refine WN.consAt rfl (WC.ix (k := .i64) a4 (U.l.length) c5 (iL78) 1 (by kernel_rfl) (by kernel_rfl) T_und23 T_size3 ((hU.mono hE85 le86).blkA hv6 (zl hlt110)) (hlt110) ?_)
           obtain ⟨x111, hx112⟩ : ∃ el_, U.l[iL78]? = some el_ := ⟨_, List.getElem?_eq_getElem (hlt110)⟩
           refine WN.consAt rfl (WC.load1E (blk a4) (0 + (iL78) * 1) (.int .i64 (x111)) (by kernel_rfl) T_agg3 ((hU.mono hE85 le86).blkB hv6 (zl hlt110)) (flat_at1 (hU.mono hE85 le86).1 hx112 rfl) ?_)
           refine WN.nil ⟨?_, ?_⟩
           ·
            refine cv (.slice a1 (W.l.length) c2) (hv3 ▸ hW.1.eqSelf 8) ?_
            refine cv (.int .i64 (.ofNat iL78)) (vEq_int ..) ?_
            refine co (.pointer (some ⟨(blk a1), 0 + (iL78) * 3, none⟩)) (eIndexAddr ex.T 22 (.slice a1 (W.l.length) c2) (.int .i64 (.ofNat (iL78)))) (eIndexAddr_A (k := .i64) T_und22 T_size34 ((hW.1.mono hE85 le86).blkA hv3 (zl hlt109)) (hlt109)) (vEq_ptr ..) ?_
            refine co (.agg (encTotal x92).toArray) (eLoad ex.T hp80.get 34 (.pointer (some ⟨(blk a1), 0 + (iL78) * 3, none⟩))) (eLoad_aggE T_agg34 T_size34 ((hW.1.mono hE85 le86).blkB hv3 (zl hlt109)) (flat_at0 (hW.1.mono hE85 le86).1 hx93)) (encTotal_vEq x92 (hW.2 x92 (List.mem_of_getElem? hx93))) ?_
            refine cv (.slice a4 (U.l.length) c5) (hv6 ▸ hU.eqSelf 8) ?_
            refine cv (.int .i64 (.ofNat iL78)) (vEq_int ..) ?_
            refine co (.pointer (some ⟨(blk a4), 0 + (iL78) * 1, none⟩)) (eIndexAddr ex.T 23 (.slice a4 (U.l.length) c5) (.int .i64 (.ofNat (iL78)))) (eIndexAddr_A (k := .i64) T_und23 T_size3 ((hU.mono hE85 le86).blkA hv6 (zl hlt110)) (hlt110)) (vEq_ptr ..) ?_
            refine co (.int .i64 (x111)) (eLoad ex.T hp80.get 3 (.pointer (some ⟨(blk a4), 0 + (iL78) * 1, none⟩))) (eLoad_oneE T_agg3 ((hU.mono hE85 le86).blkB hv6 (zl hlt110)) (flat_at1 (hU.mono hE85 le86).1 hx112 rfl)) (vEq_int ..) ?_
            exact Chks.nil
           refine WC.at rfl (WC.call 135 7 ([.agg (encTotal x92).toArray, .int .i64 (x111)]) (fun _ _ _ => by kernel_rfl) ((chosen_wf x92 (x111) hp80 (nx81) ((hW.2 x92 (List.mem_of_getElem? hx93)).mono hE85 le86)).mono ?_))
           rintro _ hp117 nx118 ⟨v113, b114, rfl, hch115, hn119, he120⟩
           have pb116 : b114 = true ↔ (b114 = true) := Iff.rfl
           have hE121 := hE85.trans he120 le86
           have hr122 := he84.trans he120 hn83
           have rl123 := Nat.le_trans hn83 hn119
           have le124 := Nat.le_trans le86 hn119
           refine WD.eff ?_
           refine nv 126 (.tuple ⟨[.int .i64 (v113), .bool b114]⟩) ?_
           refine nv 136 (.int .i64 (v113)) ?_
           refine nv 137 (.bool b114) ?_
           refine WN.nil ⟨?_, ?_⟩
           ·
            refine cv (.tuple ⟨[.int .i64 (v113), .bool b114]⟩) (vEq_tup 7 _ (by intro v hv; simp only [List.mem_cons, List.not_mem_nil, or_false] at hv; rcases hv with rfl | rfl <;> first | exact vEq_int .. | exact vEq_bool ..)) ?_
            refine cv (.int .i64 (v113)) (vEq_int ..) ?_
            refine cv (.bool b114) (vEq_bool 8 b114) ?_
            exact Chks.nil
           refine WC.at rfl (WC.val 16 (.int .i64 (v113)) (fun _ _ _ => by kernel_rfl) ?_)
           refine WD.eff ?_
           refine WN.nil ⟨?_, ?_⟩
           ·
            refine cv (.bool b114) (vEq_bool 8 b114) ?_
            exact Chks.nil
           refine WC.at rfl (WC.val 17 (.bool b114) (fun _ _ _ => by kernel_rfl) ?_)
           refine WD.last ?_
           refine WN.nil ⟨?_, ?_⟩
           ·
            exact Chks.nil
           refine WP.seq ?_
           refine sr ?_
           refine ov 138 (.bool b114) ?_
           obtain ⟨c125, e125, p125⟩ := @nb (!b114) (¬ (b114 = true)) (by rw [Bool.not_eq_true', ← Bool.not_eq_true, pb116])
           refine ov 139 (.bool c125) ?_ (fun _ _ _ => by subst e125; kernel_rfl)
           refine WO.nil ?_
           refine WP.cond c125 (by kernel_rfl) (fun h126 => ?_) (fun h126 => ?_)
           ·
            have q127 := (p125).1 h126
            refine sr ?_
            refine ov 8 (.bool true) ?_
            refine WO.nil ?_
            refine WP.ret ⟨rfl, rfl, [.bool true], by kernel_rfl, ?_⟩
            exact ⟨⟨true, rfl, fun _ => trivial, fun _ => rfl⟩, le124, hE121⟩
           ·
            have q127 := nq p125 h126
            refine WP.skip ?_
            refine sr ?_
            refine ov 140 (.int .i64 (v113)) ?_
            refine ov 141 (.int .i64 (v56)) ?_
            obtain ⟨c128, e128, p128⟩ := @nb (ltI (v113) (v56)) ((v113) < (v56)) (ltI_iff)
            refine ov 142 (.bool c128) ?_ (fun _ _ _ => by subst e128; kernel_rfl)
            refine WO.nil ?_
            refine WP.cond c128 (by kernel_rfl) (fun h129 => ?_) (fun h129 => ?_)
            ·
             have q130 := (p128).1 h129
             refine WP.region ?_
             refine ov 143 (.int .i64 (.ofNat (1 + cR))) ?_
             refine ov 144 (.int .i64 (.ofNat ((1 + cR) + 1))) ?_ (fun _ _ _ => by rw [← wrapAdd (show (1 + cR) + 1 < 9223372036854775808 by omega)]; kernel_rfl)
             refine ov 14 (.int .i64 (.ofNat ((1 + cR) + 1))) ?_
             refine WO.nil ?_
             refine WP.region ?_
             refine ov 99 (.int .i64 (.ofNat iL78)) ?_
             refine ov 100 (.int .i64 (.ofNat (iL78 + 1))) ?_ (fun _ _ _ => by rw [← wrapAdd (show iL78 + 1 < 9223372036854775808 by omega)]; kernel_rfl)
             refine ov 15 (.int .i64 (.ofNat (iL78 + 1))) ?_
             refine WO.nil ?_
             refine ⟨W.l.length - (iL78 + 1), by omega, iL78 + 1, cR + 1, by omega, by kernel_rfl, by kernel_rfl, by kernel_rfl, by kernel_rfl, by kernel_rfl, by kernel_rfl, by kernel_rfl, by kernel_rfl, by kernel_rfl, rfl, rfl, ?_, ?_, ?_, ?_, ?_⟩
             · exact rl123
             · exact hr122
             · have := cnt_le (LoP W k) iL78; omega
             · have hbx := (hch115 (Classical.not_not.1 q127) (hgood x92 (List.mem_of_getElem? hx93)).1).bounds (hgood x92 (List.mem_of_getElem? hx93))
               rw [cnt_yes ⟨x92, y, hx93, hy, fun h => (not_or.1 (not_or.1 q108).1).1 (by omega), hbx.2.2, by omega⟩]; omega
             · omega
            ·
             have q130 := nq p128 h129
             refine WP.skip ?_
             refine WP.region ?_
             refine ov 99 (.int .i64 (.ofNat iL78)) ?_
             refine ov 100 (.int .i64 (.ofNat (iL78 + 1))) ?_ (fun _ _ _ => by rw [← wrapAdd (show iL78 + 1 < 9223372036854775808 by omega)]; kernel_rfl)
             refine ov 15 (.int .i64 (.ofNat (iL78 + 1))) ?_
             refine WO.nil ?_
             refine ⟨W.l.length - (iL78 + 1), by omega, iL78 + 1, cR, by omega, by kernel_rfl, by kernel_rfl, by kernel_rfl, by kernel_rfl, by kernel_rfl, by kernel_rfl, by kernel_rfl, by kernel_rfl, by kernel_rfl, rfl, rfl, ?_, ?_, ?_, ?_, ?_⟩
             · exact rl123
             · exact hr122
             · have hbx := (hch115 (Classical.not_not.1 q127) (hgood x92 (List.mem_of_getElem? hx93)).1).bounds (hgood x92 (List.mem_of_getElem? hx93))
               have hno : ¬ LoP W k iL78 := by
                rintro ⟨t, y', h1, h2, h3, h4, h5, h6⟩
                rw [hx93] at h1; cases h1
                rw [hy] at h2; cases h2
                omega
               rw [cnt_no hno]; exact hlo
             · have := cnt_up (HiP W k) iL78; omega
             · omega
         ·
          have q89 := nq p87 h88
          refine WP.exit ?_
          refine sr ?_
          refine ov 145 (.int .i64 (a)) ?_
          refine ov 146 (.int .i64 (.ofNat (1 + cR))) ?_
          obtain ⟨c131, e131, p131⟩ := @nb (leI (a) (.ofNat (1 + cR))) ((a) ≤ (((1 + cR) : Nat) : Int)) (leI_iff)
          refine ov 147 (.bool c131) ?_ (fun _ _ _ => by subst e131; kernel_rfl)
          refine ov 148 (.bool c131) ?_
          refine og 148 (c131) (.int .i64 (.ofNat (1 + cR))) (.bool c131) (by cases c131 <;> rfl) (fun h => by obtain rfl := h; exact fun _ _ _ => by kernel_rfl) ?_
          refine og 148 (c131) (.int .i64 (b)) (.bool c131) (by cases c131 <;> rfl) (fun h => by obtain rfl := h; exact fun _ _ _ => by kernel_rfl) ?_
          obtain ⟨c132, e132, p132⟩ := @nb (leI (.ofNat (1 + cR)) (b)) ((((1 + cR) : Nat) : Int) ≤ (b)) (leI_iff)
          refine og 148 (c131) (.bool c132) (.bool c131) (by cases c131 <;> rfl) (fun h => by obtain rfl := h; exact fun _ _ _ => by subst e132; kernel_rfl) ?_
          obtain ⟨c133, e133, p133⟩ := @nb ((c131 && c132)) (((a) ≤ (((1 + cR) : Nat) : Int)) ∧ ((((1 + cR) : Nat) : Int) ≤ (b))) (by rw [Bool.and_eq_true, p131, p132])
          refine WO.cons (WC.opt (v := .bool c133) 152 (ePick (.bool c131) ((bif c131 then .bool c132 else undef)) (.bool false)) (fun _ _ _ => by kernel_rfl) (by rw [e133]; exact ePick_and (fun h => by obtain rfl : c131 = true := h; rfl)) ?_)
          refine ov 8 (.bool c133) ?_
          refine WO.nil ?_
          refine WP.ret ⟨rfl, rfl, [.bool c133], by kernel_rfl, ?_⟩
          refine ⟨⟨c133, rfl, fun _ => trivial, fun _ => (p133).2 ?_⟩, le86, hE85⟩
          have hi : iL78 = W.l.length := by omega
          rw [hi] at hlo hhi
          rw [ha, hb]; omega
        ·
         exact ⟨0, 0, by omega, by kernel_rfl, by kernel_rfl, by kernel_rfl, by kernel_rfl, by kernel_rfl, by kernel_rfl, by kernel_rfl, by kernel_rfl, by kernel_rfl, rfl, rfl, Nat.le_refl _, HE.refl _ _, (Nat.le_refl 0), (Nat.le_refl 0), (Nat.le_refl 0)⟩
end
end Sw

namespace Sw
noncomputable section
open Go Go.RowKit
def AllRo (hp : Ht) : Prop := ∀ b o, hp.get b = some o → ∃ cs m, o = .cells cs m ∧ m.ro = true
def Rp (P : Program) (hp : Ht) (nx : Nat) : Nat → TypeId → List Value → Prop
  | 0, _, _ => False
  | n + 1, t, ls => match P.underlying t with
    | some .bool => ∃ b, ls = [.bool b]
    | some (.int k) => ∃ z, ls = [.int k z] ∧ (Lit.int k z).wf = true
    | some .string => ∃ s, ls = [.string s] ∧ s.size ≤ reachBytes
    | some (.slice e) => ls = [.slice none 0 0] ∨ ls = [.slice (some ⟨0, 0, none⟩) 0 0] ∨ ∃ (b len cap : Nat) (lss : List (List Value)), ls = [.slice (some ⟨b, 0, none⟩) len cap] ∧ 0 < cap ∧ len ≤ cap ∧ (cap ≤ reachBytes ∧ cap * P.bytesOf e ≤ reachBytes) ∧ b < nx ∧
        hp.get b = some (.cells lss.flatten ⟨true, none, 0, 0⟩) ∧ lss.length = len ∧ ∀ l ∈ lss, Rp P hp nx n e l ∧ l.length = P.cellsOf e
    | some (.struct fs) => ∃ lss : List (List Value), ls = lss.flatten ∧ lss.length = fs.size ∧ ∀ (i : Nat) (f : Field) (l : List Value), fs[i]? = some f → lss[i]? = some l → Rp P hp nx n f.type l ∧ l.length = P.cellsOf f.type
    | some (.array m e) => ∃ lss : List (List Value), ls = lss.flatten ∧ lss.length = m ∧ ∀ l ∈ lss, Rp P hp nx n e l ∧ l.length = P.cellsOf e
    | _ => False
theorem Rp.mono {P : Program} {hp hp' : Ht} {nx nx' : Nat} (he : HE nx hp hp') (hn : nx ≤ nx') : ∀ {n : Nat} {t : TypeId} {ls : List Value}, Rp P hp nx n t ls → Rp P hp' nx' n t ls
  | 0, _, _, h => h
  | n + 1, t, ls, h => by
    unfold Rp at h ⊢
    split
    · rename_i e; rw [e] at h; exact h
    · rename_i k e; rw [e] at h; exact h
    · rename_i e; rw [e] at h; exact h
    · rename_i el e
      rw [e] at h
      rcases h with h | h | ⟨b, len, cap, lss, h1, h2, h3, h4, h5, h6, h7, h8⟩
      · exact .inl h
      · exact .inr (.inl h)
      · exact .inr (.inr ⟨b, len, cap, lss, h1, h2, h3, h4, by omega, he.get h6 h5, h7, fun l hl => ⟨Rp.mono he hn (h8 l hl).1, (h8 l hl).2⟩⟩)
    · rename_i fs e
      rw [e] at h
      obtain ⟨lss, h1, h2, h3⟩ := h
      exact ⟨lss, h1, h2, fun i f l a b => ⟨Rp.mono he hn (h3 i f l a b).1, (h3 i f l a b).2⟩⟩
    · rename_i m el e
      rw [e] at h
      obtain ⟨lss, h1, h2, h3⟩ := h
      exact ⟨lss, h1, h2, fun l a => ⟨Rp.mono he hn (h3 l a).1, (h3 l a).2⟩⟩
    · rename_i n1 n2 n3 n4 n5 n6
      split at h
      · rename_i e; exact absurd e n1
      · rename_i k e; exact absurd e (n2 k)
      · rename_i e; exact absurd e n3
      · rename_i el e; exact absurd e (n4 el)
      · rename_i fs e; exact absurd e (n5 fs)
      · rename_i m el e; exact absurd e (n6 m el)
      · exact h
def contig (P : Program) : List Field → Nat → Nat → Bool
  | [], o, tot => Nat.beq o tot
  | f :: fs, o, tot => Nat.beq f.offset o && contig P fs (o + P.cellsOf f.type) tot
def openTy (P : Program) (S : TypeId → Bool) (t : TypeId) : Bool := match P.underlying t with
  | some .bool => Nat.beq (P.cellsOf t) 1
  | some (.int _) => Nat.beq (P.cellsOf t) 1
  | some .string => Nat.beq (P.cellsOf t) 1
  | some (.slice e) => Nat.beq (P.cellsOf t) 1 && (S e && (Nat.blt 0 (P.cellsOf e) && Nat.blt 0 (P.bytesOf e)))
  | some (.struct fs) => fs.toList.all (fun f => S f.type) && contig P fs.toList 0 (P.cellsOf t)
  | some (.array n e) => S e && Nat.beq (P.cellsOf t) (n * P.cellsOf e)
  | _ => false
section
variable {B0 : Nat} {w0 : World} {g : Gm} {hp : Ht} {nx : Nat} {w : World}
theorem HRel.reach (H : HRel B0 w0 g hp.get nx w) {rb ro : Nat} (hr : rb < w.heap.size) : HRel B0 w0 (g.add nx (rb, ro) none) hp.get (nx + 1) w ∧ g.le (g.add nx (rb, ro) none) := by
  have hn : g.blk nx = none := by
    cases h : g.blk nx with
    | none => rfl
    | some x => exact absurd (H.dom nx x.1 x.2 h).1 (Nat.lt_irrefl _)
  have hle := Gm.le_add hn (rb, ro) none
  refine ⟨⟨H.below, H.base, fun b r o e => ?_, fun b o e => ?_, fun b ms e => ?_, H.mem, fun b1 b2 o1 o2 r r1 r2 hne e1 e2 k1 k2 => ?_, fun b x k => ?_⟩, hle⟩
  · by_cases hb : b = nx
    · subst hb
      rw [Gm.add_blk] at e; cases e
      exact ⟨Nat.lt_succ_self _, hr⟩
    · rw [Gm.add_blk_ne _ _ _ hb] at e
      exact ⟨Nat.lt_succ_of_lt (H.dom b r o e).1, (H.dom b r o e).2⟩
  · obtain ⟨h1, h2⟩ := H.live b o e
    refine ⟨Nat.lt_succ_of_lt h1, fun r r1 k => ?_⟩
    rw [Gm.add_blk_ne _ _ _ (by omega)] at k
    obtain ⟨robj, a, c⟩ := h2 r r1 k
    exact ⟨robj, a, c.mono hle k⟩
  · rw [Gm.add_blk_ne _ _ _ (by have := (H.live b _ e).1; omega)]
    exact H.grpfree b ms e
  · rw [Gm.add_blk_ne _ _ _ (by have := (H.live b1 _ e1).1; omega)] at k1
    rw [Gm.add_blk_ne _ _ _ (by have := (H.live b2 _ e2).1; omega)] at k2
    exact H.sep b1 b2 o1 o2 r r1 r2 hne e1 e2 k1 k2
  · by_cases hb : b = nx
    · subst hb; rw [Gm.add_room] at k; cases k
    · have : (g.add nx (rb, ro) none).room b = g.room b := by simp [Gm.add, hb]
      rw [this] at k
      rw [Gm.add_blk_ne _ _ _ hb]
      exact H.room b x k
theorem HRel.layRo (H : HRel B0 w0 g hp.get nx w) (ha : AllRo hp) {rb ro n : Nat} {rc : Array Value} {el : TypeId} {fz : Nat × Nat} {us : List Value} (hh : w.heap[rb]? = some (.cells rc el fz)) (hlen : ro + n ≤ rc.size) (hl : LRel g us ((rc.toList.drop ro).take n)) :
    ∃ g' : Gm, HRel B0 w0 g' (hp.set nx (some (.cells us ⟨true, none, 0, 0⟩))).get (nx + 1) w ∧ AllRo (hp.set nx (some (.cells us ⟨true, none, 0, 0⟩))) ∧ g.le g' ∧ g'.blk nx = some (rb, ro) ∧ HE nx hp (hp.set nx (some (.cells us ⟨true, none, 0, 0⟩))) := by
  obtain ⟨H1, hle⟩ := H.reach (rb := rb) (ro := ro) (getElem?_lt hh)
  have hnone : hp.get nx = none := by
    cases h : hp.get nx with
    | none => rfl
    | some o => exact absurd (H.live nx o h).1 (Nat.lt_irrefl _)
  refine ⟨g.add nx (rb, ro) none, ?_, fun b o e => ?_, hle, Gm.add_blk .., HE.set _ _ (Nat.le_refl _)⟩
  · rw [show (hp.set nx (some (.cells us ⟨true, none, 0, 0⟩))).get = Hp.set hp.get nx (some (.cells us ⟨true, none, 0, 0⟩)) from Tr.get_set ..]
    refine H1.addRo hnone (Nat.lt_succ_self _) fun rb' ro' k => ?_
    rw [Gm.add_blk] at k; cases k
    exact ⟨⟨_, hh, ObjRel.of_list hlen (hl.mono hle) (fun x k => by cases k) (fun _ => Gm.add_room ..)⟩, fun b o r1 e _ => ha b o e⟩
  · rw [Tr.get_set] at e
    by_cases hb : b = nx
    · subst hb; rw [Hp.set_same] at e; cases e; exact ⟨_, _, rfl, rfl⟩
    · rw [Hp.set_other _ _ hb] at e; exact ha b o e
end
section
variable {H : Type} {enc : TypeId × Value → H} {P : Program} {B0 : Nat} {w0 w : World} {S : TypeId → Bool}
def Opens (P : Program) (B0 : Nat) (w0 w : World) (g : Gm) (hp : Ht) (nx : Nat) (cs : List Value) (R : Ht → Nat → List Value → Prop) : Prop :=
  ∃ (g' : Gm) (hp' : Ht) (nx' : Nat) (ls : List Value), HRel B0 w0 g' hp'.get nx' w ∧ AllRo hp' ∧ g.le g' ∧ nx ≤ nx' ∧ HE nx hp hp' ∧ LRel g' ls cs ∧ R hp' nx' ls
def OpensAt (P : Program) (B0 : Nat) (w0 w : World) (n : Nat) (t : TypeId) (cs : List Value) : Prop :=
  ∀ (g : Gm) (hp : Ht) (nx : Nat), HRel B0 w0 g hp.get nx w → AllRo hp → Opens P B0 w0 w g hp nx cs fun hp' nx' ls => Rp P hp' nx' n t ls ∧ ls.length = P.cellsOf t
theorem open_parts {n : Nat} : ∀ (parts : List (TypeId × List Value)), (∀ p ∈ parts, OpensAt P B0 w0 w n p.1 p.2) → ∀ (g : Gm) (hp : Ht) (nx : Nat), HRel B0 w0 g hp.get nx w → AllRo hp →
    ∃ (g' : Gm) (hp' : Ht) (nx' : Nat) (lss : List (List Value)), HRel B0 w0 g' hp'.get nx' w ∧ AllRo hp' ∧ g.le g' ∧ nx ≤ nx' ∧ HE nx hp hp' ∧ LRel g' lss.flatten (parts.map (·.2)).flatten ∧ lss.length = parts.length ∧
      ∀ (i : Nat) (p : TypeId × List Value) (l : List Value), parts[i]? = some p → lss[i]? = some l → Rp P hp' nx' n p.1 l ∧ l.length = P.cellsOf p.1
  | [], _, g, hp, nx, H0, ha => ⟨g, hp, nx, [], H0, ha, Gm.le_refl g, Nat.le_refl _, HE.refl _ _, LRel.nil g, rfl, fun i p l e => by simp at e⟩
  | p :: ps, h, g, hp, nx, H0, ha => by
    obtain ⟨g1, hp1, nx1, l1, H1, a1, e1, n1, he1, r1, q1, q2⟩ := h p (List.mem_cons_self ..) g hp nx H0 ha
    obtain ⟨g2, hp2, nx2, lss, H2, a2, e2, n2, he2, r2, k1, k2⟩ := open_parts ps (fun p' hp' => h p' (List.mem_cons_of_mem _ hp')) g1 hp1 nx1 H1 a1
    refine ⟨g2, hp2, nx2, l1 :: lss, H2, a2, Gm.le_trans e1 e2, by omega, he1.trans he2 n1, ?_, by simp [k1], fun i p' l a b => ?_⟩
    · simp only [List.flatten_cons, List.map_cons]
      exact (r1.mono e2).append r2
    · cases i with
      | zero => simp at a b; subst a; subst b; exact ⟨q1.mono he2 n2, q2⟩
      | succ i => exact k2 i p' l (by simpa using a) (by simpa using b)
theorem fields_flat {cs : List Value} : ∀ (fs : List Field) (o tot : Nat), contig P fs o tot = true → cs.length = tot → o ≤ tot → (fs.map fun f => (cs.drop f.offset).take (P.cellsOf f.type)).flatten = cs.drop o
  | [], o, tot, h, hl, _ => by
    have := beq_eq h
    subst this
    simp [hl]
  | f :: fs, o, tot, h, hl, hle => by
    simp only [contig, Bool.and_eq_true] at h
    have h1 := beq_eq h.1
    have hle2 : o + P.cellsOf f.type ≤ tot := contig_le fs _ _ h.2
    rw [List.map_cons, List.flatten_cons, fields_flat fs _ _ h.2 hl hle2, h1]
    rw [← List.drop_drop, List.take_append_drop]
where
  contig_le : ∀ (fs : List Field) (o tot : Nat), contig P fs o tot = true → o ≤ tot
    | [], o, tot, h => by have := beq_eq h; omega
    | f :: fs, o, tot, h => by
      simp only [contig, Bool.and_eq_true] at h
      have := contig_le fs _ _ h.2
      omega
theorem range_flat {cs : List Value} {s : Nat} : ∀ (k n : Nat), cs.length = n * s → k ≤ n → ((List.range k).map fun i => (cs.drop (i * s)).take s).flatten = cs.take (k * s)
  | 0, _, _, _ => by simp
  | k + 1, n, hl, hk => by
    rw [List.range_succ, List.map_append, List.flatten_append, range_flat k n hl (by omega)]
    simp only [List.map_cons, List.map_nil, List.flatten_cons, List.flatten_nil, List.append_nil]
    rw [Nat.succ_mul, List.take_add]
theorem add_off {ab ao i : Nat} : (Addr.mk ab ao none).add i = ⟨ab, ao + i, none⟩ := by
  unfold Addr.add
  split
  · rename_i h; subst h; rfl
  · rfl
theorem cell_block {a : Addr} {v : Value} (h : w.cell? a = some v) : ∃ rc el fz, w.heap[a.block]? = some (.cells rc el fz) ∧ a.spot = none ∧ rc[a.off]? = some v := by
  unfold World.cell? at h
  split at h
  · rename_i c el fz hh
    cases hs : a.spot with
    | none => rw [hs] at h; exact ⟨c, el, fz, hh, rfl, by simpa using h⟩
    | some _ => simp [hs] at h
  · cases h
theorem trod_scalar {n : Nat} {t : TypeId} {cs : List Value} {x : DataW H × List MemPlace} {held : Bool} (h : DataW.trod enc P w 0 (fun _ => true) held (n + 1) t cs = some x) :
    (P.underlying t = some .bool → ∃ b, cs = [.bool b]) ∧ (∀ k, P.underlying t = some (.int k) → ∃ z, cs = [.int k z] ∧ (Lit.int k z).wf = true) ∧ (P.underlying t = some .string → ∃ s, cs = [.string s] ∧ s.size ≤ maxLen) := by
  refine ⟨fun e => ?_, fun k e => ?_, fun e => ?_⟩
  · unfold DataW.trod at h
    rw [e] at h
    split at h <;> first | (exact ⟨_, rfl⟩) | (simp_all; done)
  · unfold DataW.trod at h
    rw [e] at h
    split at h <;> first | skip | (simp_all; done)
    all_goals first | (simp_all; done) | skip
    all_goals (rename_i k1 k2 z h1; cases h1; simp only at h; split at h; · rename_i h2; obtain ⟨rfl, h3⟩ := h2; exact ⟨_, rfl, h3⟩; · cases h)
  · unfold DataW.trod at h
    rw [e] at h
    split at h <;> first | skip | (simp_all; done)
    all_goals first | (simp_all; done) | skip
    all_goals (rename_i s h1; simp only at h; split at h; · rename_i h2; exact ⟨_, rfl, h2⟩; · cases h)
theorem trod_string {n : Nat} {t : TypeId} {s : ByteArray} {x : DataW H × List MemPlace} {held : Bool} (e : P.underlying t = some .string) (h : DataW.trod enc P w 0 (fun _ => true) held (n + 1) t [.string s] = some x) : x.1 = .lit (.string s.data.toList) := by
  unfold DataW.trod at h
  rw [e] at h
  simp only at h
  split at h
  · cases h; rfl
  · cases h
theorem weights_mem_all {e : TypeId} {d : DataW H} : ∀ {l : List (DataW H)}, d ∈ l → ∀ k ∈ d.weights P e, k ∈ DataW.weightsAll P e l
  | [], h, _, _ => by cases h
  | x :: l, h, k, hk => by
    unfold DataW.weightsAll
    rcases List.mem_cons.1 h with h | h
    · subst h; exact List.mem_append_left _ hk
    · exact List.mem_append_right _ (weights_mem_all h k hk)
theorem open_cells {held : Bool} (hS : ∀ t, S t = true → openTy P S t = true) : ∀ (n : Nat) (t : TypeId) (cs : List Value) (x : DataW H × List MemPlace), DataW.trod enc P w 0 (fun _ => true) held n t cs = some x → (∀ k ∈ x.1.weights P t, k ≤ reachBytes) → S t = true → OpensAt P B0 w0 w n t cs := by
  intro n
  induction n with
  | zero => intro t cs x h; simp [DataW.trod] at h
  | succ n ih =>
    intro t cs x h hwt hs g hp nx H0 ha
    have ht := hS t hs
    unfold openTy at ht
    have scalar : ∀ (v : Value), (∀ g' : Gm, VRel g' v v) → P.cellsOf t = 1 → cs = [v] → (Rp P hp nx (n + 1) t [v]) → Opens P B0 w0 w g hp nx cs fun hp' nx' ls => Rp P hp' nx' (n + 1) t ls ∧ ls.length = P.cellsOf t := fun v hv hc e hr => by
      subst e
      exact ⟨g, hp, nx, [v], H0, ha, Gm.le_refl g, Nat.le_refl _, HE.refl _ _, LRel.cons (hv g) (LRel.nil g), hr, by rw [hc]; rfl⟩
    split at ht
    · rename_i e
      obtain ⟨b, rfl⟩ := (trod_scalar h).1 e
      exact scalar (.bool b) (fun _ => .bool b) (beq_eq ht) rfl (by unfold Rp; rw [e]; exact ⟨b, rfl⟩)
    · rename_i k e
      obtain ⟨z, rfl, hw⟩ := (trod_scalar h).2.1 k e
      exact scalar (.int k z) (fun _ => .int k z) (beq_eq ht) rfl (by unfold Rp; rw [e]; exact ⟨z, rfl, hw⟩)
    · rename_i e
      obtain ⟨s, rfl, _⟩ := (trod_scalar h).2.2 e
      have hx1 := trod_string e h
      have hw : s.size ≤ reachBytes := by
        have := hwt s.data.toList.length (by rw [hx1]; simp [DataW.weights])
        rw [Array.length_toList] at this; exact this
      exact scalar (.string s) (fun _ => .string s) (beq_eq ht) rfl (by unfold Rp; rw [e]; exact ⟨s, rfl, hw⟩)
    · rename_i el e
      simp only [Bool.and_eq_true] at ht
      obtain ⟨hc, hse, hsz, hby⟩ := ht
      have hc := beq_eq hc
      have hsz := blt_iff.1 hsz
      have hby := blt_iff.1 hby
      rcases DataW.trod_slice e h with ⟨rfl, _⟩ | ⟨a, len, cap, elems, rest, n', hfuel, rfl, hx1, _, hlc, hcm, hlen, hel, hsp, _⟩
      · exact scalar (.slice none 0 0) (fun _ => .nilSlice) hc rfl (by unfold Rp; rw [e]; exact .inl rfl)
      · cases hfuel
        rcases Nat.eq_zero_or_pos cap with hz | hz
        · subst hz
          obtain rfl : len = 0 := by omega
          exact ⟨g, hp, nx, [.slice (some ⟨0, 0, none⟩) 0 0], H0, ha, Gm.le_refl g, Nat.le_refl _, HE.refl _ _, LRel.cons (.emptySlice ⟨0, 0, none⟩ a) (LRel.nil g), by unfold Rp; rw [e]; exact .inr (.inl rfl), by rw [hc]; rfl⟩
        · have hx1 : x.1 = .slice (elems.map (·.1)) (rest.map (·.1)) := by rw [hx1]
          have hcr : cap ≤ reachBytes ∧ cap * P.bytesOf el ≤ reachBytes := by
            have h1 := hwt ((elems.length + rest.length) * P.bytesOf el) (by rw [hx1]; simp [DataW.weights, e])
            obtain ⟨h2, _⟩ := hsp rfl
            have h3 := Nat.mul_le_mul_left (elems.length + rest.length) (show 1 ≤ P.bytesOf el by omega)
            have h4 : elems.length + rest.length = cap := by omega
            rw [h4] at h1 h3
            exact ⟨by omega, h1⟩
          have hwe : ∀ (i : Nat) (y : DataW H × List MemPlace), elems[i]? = some y → ∀ k ∈ y.1.weights P el, k ≤ reachBytes := fun i y hy k hk => by
            refine hwt k ?_
            rw [hx1]
            simp only [DataW.weights, e]
            exact List.mem_cons_of_mem _ (List.mem_append_left _ (weights_mem_all (List.mem_map.2 ⟨y, List.mem_of_getElem? hy, rfl⟩) k hk))
          have each : ∀ i, i < cap → ∃ c, w.cells? 0 (a.add (i * P.cellsOf el)) (P.cellsOf el) = some c ∧ (i < len → ∃ x, DataW.trod enc P w 0 (fun _ => true) held n el c = some x ∧ ∀ k ∈ x.1.weights P el, k ≤ reachBytes) := fun i hi => by
            rcases Nat.lt_or_ge i len with hil | hil
            · have k := hel i hil
              rw [List.getElem?_eq_getElem (by omega)] at k
              obtain ⟨c, k1, k2⟩ := Option.bind_eq_some_iff.1 k
              exact ⟨c, k1, fun _ => ⟨_, k2, hwe i _ (List.getElem?_eq_getElem (by omega))⟩⟩
            · obtain ⟨hr, k⟩ := hsp rfl
              have k := k (i - len) (by omega)
              rw [List.getElem?_eq_getElem (by omega), show len + (i - len) = i by omega] at k
              obtain ⟨c, k1, _⟩ := Option.bind_eq_some_iff.1 k
              exact ⟨c, k1, fun h => absurd h (by omega)⟩
          obtain ⟨c0, k0, _⟩ := each 0 hz
          obtain ⟨_, q1, q2⟩ := World.cells?_some k0
          have q3 := q2 0 hsz
          rw [List.getElem?_eq_getElem (by omega)] at q3
          have ha0 : (a.add (0 * P.cellsOf el)).add 0 = a := by simp [Addr.add]
          rw [ha0] at q3
          obtain ⟨rc, rel, fz, hh, hspot, _⟩ := cell_block q3
          obtain ⟨ab, ao, asp⟩ := a
          simp only at hh hspot
          subst hspot
          have cellAt : ∀ i, i < cap → ∃ c, w.cells? 0 ((Addr.mk ab ao none).add (i * P.cellsOf el)) (P.cellsOf el) = some c ∧ c = (rc.toList.drop (ao + i * P.cellsOf el)).take (P.cellsOf el) ∧ ao + (i + 1) * P.cellsOf el ≤ rc.size := fun i hi => by
            obtain ⟨c, k1, _⟩ := each i hi
            obtain ⟨_, p1, p2⟩ := World.cells?_some k1
            have p3 : ∀ j, j < P.cellsOf el → rc[ao + i * P.cellsOf el + j]? = c[j]? := fun j hj => by
              have p4 := p2 j hj
              rw [add_off, add_off] at p4
              unfold World.cell? at p4
              simp only [hh, Option.isSome_none, Bool.false_eq_true, if_false] at p4
              exact p4
            have p5 := p3 (P.cellsOf el - 1) (by omega)
            rw [List.getElem?_eq_getElem (show P.cellsOf el - 1 < c.length by omega)] at p5
            have p6 := getElem?_lt p5
            refine ⟨c, k1, ?_, by rw [Nat.succ_mul]; omega⟩
            refine List.ext_getElem? fun j => ?_
            rcases Nat.lt_or_ge j (P.cellsOf el) with hj | hj
            · rw [List.getElem?_take, if_pos hj, List.getElem?_drop, ← p3 j hj]; simp
            · rw [List.getElem?_eq_none (by omega), List.getElem?_eq_none (by simp; omega)]
          obtain ⟨_, _, _, hsize⟩ := cellAt (len - 1) (by omega)
          obtain ⟨_, _, _, hsize0⟩ := cellAt 0 hz
          have hsize : ao + len * P.cellsOf el ≤ rc.size := by
            rcases Nat.eq_zero_or_pos len with hl0 | hl0
            · subst hl0; simp at hsize0 ⊢; omega
            · rwa [show len - 1 + 1 = len by omega] at hsize
          let parts := (List.range len).map fun i => (el, (rc.toList.drop (ao + i * P.cellsOf el)).take (P.cellsOf el))
          have hparts : ∀ p ∈ parts, OpensAt P B0 w0 w n p.1 p.2 := fun p hp' => by
            obtain ⟨i, hi, rfl⟩ := List.mem_map.1 hp'
            have hi := List.mem_range.1 hi
            obtain ⟨c, k1, k2⟩ := each i (by omega)
            obtain ⟨x', k2, k2w⟩ := k2 hi
            obtain ⟨c', k3, k4, _⟩ := cellAt i (by omega)
            rw [k1] at k3; cases k3
            subst k4
            exact ih el _ x' k2 k2w hse
          obtain ⟨g1, hp1, nx1, lss, H1, a1, e1, n1, he1, r1, l1, v1⟩ := open_parts parts hparts g hp nx H0 ha
          have hflat : (parts.map (·.2)).flatten = (rc.toList.drop ao).take (len * P.cellsOf el) := by
            have := range_flat (cs := (rc.toList.drop ao).take (len * P.cellsOf el)) (s := P.cellsOf el) len len (by simp; omega) (Nat.le_refl _)
            rw [List.take_take, Nat.min_self] at this
            rw [← this]
            simp only [parts, List.map_map]
            congr 1
            refine List.map_congr_left fun i hi => ?_
            have hi := List.mem_range.1 hi
            have hmul : (i + 1) * P.cellsOf el ≤ len * P.cellsOf el := Nat.mul_le_mul_right _ (by omega)
            rw [Nat.succ_mul] at hmul
            simp only [Function.comp]
            refine List.ext_getElem? fun j => ?_
            rw [List.getElem?_take, List.getElem?_take]
            split
            · rw [List.getElem?_drop, List.getElem?_drop, List.getElem?_take, if_pos (by omega), List.getElem?_drop, Nat.add_assoc]
            · rfl
          rw [hflat] at r1
          obtain ⟨g2, H2, a2, e2, b2, he2⟩ := H1.layRo a1 hh hsize r1
          refine ⟨g2, _, _, [.slice (some ⟨nx1, 0, none⟩) len cap], H2, a2, Gm.le_trans e1 e2, by omega, he1.trans he2 n1, LRel.cons (.slice (off := 0) b2 hlc (.inl rfl)) (LRel.nil _), ?_, by rw [hc]; rfl⟩
          unfold Rp
          rw [e]
          refine .inr (.inr ⟨nx1, len, cap, lss, rfl, hz, hlc, hcr, Nat.lt_succ_self _, Tr.get_same .., by simpa [parts] using l1, fun l hl => ?_⟩)
          obtain ⟨i, hi, rfl⟩ := List.mem_iff_getElem.1 hl
          have hi' : i < parts.length := by rw [← l1]; exact hi
          obtain ⟨w1, w2⟩ := v1 i _ _ (List.getElem?_eq_getElem hi') (List.getElem?_eq_getElem hi)
          have hpt : (parts[i]).1 = el := by simp [parts]
          rw [hpt] at w1 w2
          exact ⟨w1.mono he2 (Nat.le_succ _), w2⟩
    · rename_i fs e
      simp only [Bool.and_eq_true] at ht
      obtain ⟨xs, n', hfuel, hx1, hl, hxl, hx⟩ := DataW.trod_struct e h
      cases hfuel
      have hx1 : x.1 = .agg (xs.map (·.1)) := by rw [hx1]
      have hparts : ∀ p ∈ fs.toList.map (fun f => (f.type, (cs.drop f.offset).take (P.cellsOf f.type))), OpensAt P B0 w0 w n p.1 p.2 := fun p hp' => by
        obtain ⟨f, hf, rfl⟩ := List.mem_map.1 hp'
        obtain ⟨i, hi, rfl⟩ := List.mem_iff_getElem.1 hf
        have hi' : i < fs.size := by simpa using hi
        have k := hx i fs[i] (Array.getElem?_eq_getElem hi')
        rw [List.getElem?_eq_getElem (by omega)] at k
        refine ih _ _ _ k (fun q hq => hwt q ?_) (List.all_eq_true.1 ht.1 _ hf)
        rw [hx1]
        simp only [DataW.weights, e]
        exact DataW.weights_mem_each (j := i) (t := fs[i].type) (by rw [List.getElem?_map, Array.getElem?_toList, Array.getElem?_eq_getElem hi']; rfl) (by rw [List.getElem?_map, List.getElem?_eq_getElem (by omega)]; rfl) q hq
      obtain ⟨g1, hp1, nx1, lss, H1, a1, e1, n1, he1, r1, l1, v1⟩ := open_parts _ hparts g hp nx H0 ha
      have hflat := fields_flat (P := P) (cs := cs) fs.toList 0 _ ht.2 hl (Nat.zero_le _)
      rw [List.map_map] at r1
      have hfun : ((fun p : TypeId × List Value => p.2) ∘ fun f : Field => (f.type, (cs.drop f.offset).take (P.cellsOf f.type))) = fun f => (cs.drop f.offset).take (P.cellsOf f.type) := rfl
      rw [hfun, hflat, List.drop_zero] at r1
      refine ⟨g1, hp1, nx1, lss.flatten, H1, a1, e1, n1, he1, r1, ?_, r1.1.trans hl⟩
      unfold Rp
      rw [e]
      refine ⟨lss, rfl, by simpa using l1, fun i f l hf hl' => ?_⟩
      exact v1 i (f.type, (cs.drop f.offset).take (P.cellsOf f.type)) l (by rw [List.getElem?_map, Array.getElem?_toList, hf]; rfl) hl'
    · rename_i m el e
      simp only [Bool.and_eq_true] at ht
      have hcl := beq_eq ht.2
      obtain ⟨xs, n', hfuel, hx1, hl, hxl, hx⟩ := DataW.trod_array e h
      cases hfuel
      have hx1 : x.1 = .agg (xs.map (·.1)) := by rw [hx1]
      have hparts : ∀ p ∈ (List.range m).map (fun i => (el, (cs.drop (i * P.cellsOf el)).take (P.cellsOf el))), OpensAt P B0 w0 w n p.1 p.2 := fun p hp' => by
        obtain ⟨i, hi, rfl⟩ := List.mem_map.1 hp'
        have hi := List.mem_range.1 hi
        have k := hx i hi
        rw [List.getElem?_eq_getElem (by omega)] at k
        refine ih _ _ _ k (fun q hq => hwt q ?_) ht.1
        rw [hx1]
        simp only [DataW.weights, e]
        exact weights_mem_all (List.mem_map.2 ⟨_, List.getElem_mem (by omega), rfl⟩) q hq
      obtain ⟨g1, hp1, nx1, lss, H1, a1, e1, n1, he1, r1, l1, v1⟩ := open_parts _ hparts g hp nx H0 ha
      rw [List.map_map] at r1
      have hfun : ((fun p : TypeId × List Value => p.2) ∘ fun i : Nat => (el, (cs.drop (i * P.cellsOf el)).take (P.cellsOf el))) = fun i => (cs.drop (i * P.cellsOf el)).take (P.cellsOf el) := rfl
      rw [hfun, range_flat m m (hl.trans hcl) (Nat.le_refl _), List.take_of_length_le (by rw [hl, hcl]; exact Nat.le_refl _)] at r1
      refine ⟨g1, hp1, nx1, lss.flatten, H1, a1, e1, n1, he1, r1, ?_, r1.1.trans hl⟩
      unfold Rp
      rw [e]
      refine ⟨lss, rfl, by simpa using l1, fun l hl' => ?_⟩
      obtain ⟨i, hi, rfl⟩ := List.mem_iff_getElem.1 hl'
      have hi' : i < m := by rw [l1] at hi; simpa using hi
      exact v1 i (el, (cs.drop (i * P.cellsOf el)).take (P.cellsOf el)) _ (by rw [List.getElem?_map, List.getElem?_range hi']; rfl) (List.getElem?_eq_getElem hi)
    · cases ht
def argOf (P : Program) (t : TypeId) (ls : List Value) : Value := match P.underlying t with
  | some (.struct _) => .agg ls.toArray
  | some (.array _ _) => .agg ls.toArray
  | _ => ls.headD undef
def ArgsRp (P : Program) (hp : Ht) (nx : Nat) : List TypeId → List Value → Prop
  | [], [] => True
  | t :: ts, v :: vs => (∃ n ls, Rp P hp nx n t ls ∧ ls.length = P.cellsOf t ∧ v = argOf P t ls) ∧ ArgsRp P hp nx ts vs
  | _, _ => False
theorem argOf_rel {g : Gm} {r : Reach} {base n : Nat} {hp : Ht} {nx : Nat} {t : TypeId} {ls : List Value} {v : Value} (hs : openTy P S t = true) (hr : Rp P hp nx n t ls) (hl : LRel g ls v.cells.toList) (hok : Value.okWide P w r base t v) : VRel g (argOf P t ls) v := by
  have one : ∀ x, ls = [x] → (∀ cs, v ≠ .agg cs) → VRel g x v := fun x hx hv => by
    subst hx
    have : v.cells = #[v] := by
      cases v <;> first | rfl | exact absurd rfl (hv _)
    rw [this] at hl
    exact hl.head
  have many : (∃ cs, v = .agg cs) → VRel g (.agg ls.toArray) v := fun ⟨cs, hv⟩ => by
    subst hv
    have h := LRel.toArray hl
    exact .agg h.1 h.2
  cases n with
  | zero => exact hr.elim
  | succ n =>
    unfold openTy at hs
    unfold argOf
    unfold Rp at hr
    unfold Value.okWide at hok
    split at hs
    · rename_i e
      rw [e] at hr hok ⊢
      obtain ⟨b, rfl⟩ := hr
      exact one _ rfl fun cs hc => by subst hc; simp [Cell.okWide, Cell.ok, e] at hok
    · rename_i k e
      rw [e] at hr hok ⊢
      obtain ⟨b, rfl, _⟩ := hr
      exact one _ rfl fun cs hc => by subst hc; simp [Cell.okWide, Cell.ok, e] at hok
    · rename_i e
      rw [e] at hr hok ⊢
      obtain ⟨b, rfl, _⟩ := hr
      exact one _ rfl fun cs hc => by subst hc; simp [Cell.okWide, Cell.ok, e] at hok
    · rename_i el e
      rw [e] at hr hok ⊢
      have hv : ∀ cs, v ≠ .agg cs := fun cs hc => by subst hc; simp [Cell.okWide, Cell.ok, e] at hok
      rcases hr with rfl | rfl | ⟨b, len, cap, lss, rfl, _⟩
      · exact one _ rfl hv
      · exact one _ rfl hv
      · exact one _ rfl hv
    · rename_i fs e
      rw [e] at hok ⊢
      obtain ⟨cs, hc, _⟩ := hok
      exact many ⟨cs, hc⟩
    · rename_i m el e
      rw [e] at hok ⊢
      obtain ⟨cs, hc, _⟩ := hok
      exact many ⟨cs, hc⟩
    · cases hs
theorem open_args {held : Bool} {r : Reach} {base : Nat} (hS : ∀ t, S t = true → openTy P S t = true) : ∀ (ts : List TypeId) (vs : List Value) (ds : List (DataW H)) (ps : List MemPlace), DataW.TrodAll enc P w 0 (fun _ => true) held ts vs ds ps → (∀ k ∈ DataW.weightsEach P ts ds, k ≤ reachBytes) →
    (∀ (j : Nat) t v, ts[j]? = some t → vs[j]? = some v → Value.okWide P w r base t v) → (∀ t ∈ ts, S t = true) → ∀ (g : Gm) (hp : Ht) (nx : Nat), HRel B0 w0 g hp.get nx w → AllRo hp → Opens P B0 w0 w g hp nx vs fun hp' nx' lvs => ArgsRp P hp' nx' ts lvs
  | [], [], [], _, _, _, _, _, g, hp, nx, H0, ha => ⟨g, hp, nx, [], H0, ha, Gm.le_refl g, Nat.le_refl _, HE.refl _ _, LRel.nil g, trivial⟩
  | t :: ts, v :: vs, d :: ds, ps, h, hwt, hok, hts, g, hp, nx, H0, ha => by
    obtain ⟨p, q, ⟨fuel, h1⟩, h2, _⟩ := h
    have hst := hts t (List.mem_cons_self ..)
    obtain ⟨g1, hp1, nx1, ls, H1, a1, e1, n1, he1, r1, k1, k2⟩ := open_cells hS fuel t _ _ h1 (fun k hk => hwt k (by unfold DataW.weightsEach; exact List.mem_append_left _ hk)) hst g hp nx H0 ha
    have hv := argOf_rel (hS t hst) k1 r1 (hok 0 t v rfl rfl)
    obtain ⟨g2, hp2, nx2, lvs, H2, a2, e2, n2, he2, r2, k3⟩ := open_args hS ts vs ds q h2 (fun k hk => hwt k (by unfold DataW.weightsEach; exact List.mem_append_right _ hk)) (fun j t' v' e e' => hok (j + 1) t' v' e e') (fun t' ht' => hts t' (List.mem_cons_of_mem _ ht')) g1 hp1 nx1 H1 a1
    exact ⟨g2, hp2, nx2, argOf P t ls :: lvs, H2, a2, Gm.le_trans e1 e2, by omega, he1.trans he2 n1, LRel.cons (hv.mono e2) r2, ⟨fuel, ls, k1.mono he2 n2, k2, rfl⟩, k3⟩
  | [], _ :: _, _, _, h, _, _, _, _, _, _, _, _ => h.elim
  | [], [], _ :: _, _, h, _, _, _, _, _, _, _, _ => h.elim
  | _ :: _, [], _, _, h, _, _, _, _, _, _, _, _ => h.elim
  | _ :: _, _ :: _, [], _, h, _, _, _, _, _, _, _, _ => h.elim
end
def gLaid (ng : Nat) : Gm := ⟨fun b => if b < ng then some (b, 0) else none, fun _ => none⟩
def LaidAt (tbs : List TB) (w : World) : Prop := ∀ tb ∈ tbs, ∀ (j : Nat) (v : Value), tb.cs[j]? = some v → w.cell? ⟨tb.num, j, none⟩ = some v
def tbPlain (ng : Nat) (tb : TB) : Bool := Nat.blt tb.num ng && (tb.cs.all (plainV 4) && (Nat.blt 0 tb.cs.length && !tb.grp))
theorem allRo_lay0 : ∀ (tbs : List TB) (h : Ht), tbs.all (fun tb => !tb.grp) = true → AllRo h → AllRo (lay0 tbs h)
  | [], _, _, ha => ha
  | tb :: tbs, h, hg, ha => by
    simp only [List.all_cons, Bool.and_eq_true, Bool.not_eq_true'] at hg
    refine allRo_lay0 tbs _ hg.2 fun b o e => ?_
    unfold layB at e
    rw [hg.1, cond_false, Tr.get_set] at e
    by_cases hb : b = 0 + tb.num
    · subst hb; rw [Hp.set_same] at e; cases e; exact ⟨_, _, rfl, rfl⟩
    · rw [Hp.set_other _ _ hb] at e; exact ha b o e
theorem startLaid {tbs : List TB} {ng : Nat} {w : World} (hs : ng ≤ w.heap.size) (hn : numsOk 0 ng tbs = true) (hcb : tbs.all (tbPlain ng) = true) (hl : LaidAt tbs w) : HRel w.heap.size w (gLaid ng) (lay0 tbs .nil).get ng w ∧ AllRo (lay0 tbs .nil) := by
  have Hn : HRel w.heap.size w (gLaid ng) (Tr.nil : Ht).get ng w := by
    refine ⟨Below.refl _ _, Nat.le_refl _, fun b rb ro k => ?_, fun b o k => (by cases k), fun b ms k => (by cases k), fun b cs m gr k => (by cases k), fun b1 b2 o1 o2 r r1 r2 _ k => (by cases k), fun b x k => by cases k⟩
    simp only [gLaid] at k
    split at k
    · cases k; exact ⟨by omega, by omega⟩
    · cases k
  refine ⟨lay0_ok (rbs := fun _ => True) tbs 0 .nil hn Hn (fun rb _ b o r1 k => by cases k) (fun b _ => rfl) (fun tb ht hg => ?_) (fun tb ht rb ro k => ?_), allRo_lay0 tbs _ ?_ fun b o e => by cases e⟩
  · exfalso
    have := List.all_eq_true.1 hcb tb ht
    simp only [tbPlain, Bool.and_eq_true, Bool.not_eq_true'] at this
    rw [this.2.2.2] at hg; cases hg
  · refine ⟨trivial, ?_⟩
    rw [Nat.zero_add] at k ⊢
    have := List.all_eq_true.1 hcb tb ht
    simp only [tbPlain, Bool.and_eq_true, Bool.not_eq_true'] at this
    obtain ⟨c0, c1, c2, c3⟩ := this
    have c0 := blt_iff.1 c0
    have c2 := blt_iff.1 c2
    simp only [gLaid, if_pos c0] at k
    cases k
    have hcell := hl tb ht
    have hex : ∃ rc el fz, w.heap[tb.num]? = some (.cells rc el fz) ∧ tb.cs.length ≤ rc.size := by
      have h1 := hcell (tb.cs.length - 1) tb.cs[tb.cs.length - 1] (List.getElem?_eq_getElem (by omega))
      obtain ⟨rc, el, fz, hh, _, h2⟩ := cell_block h1
      exact ⟨rc, el, fz, hh, by have := getElem?_lt h2; simp only at this; omega⟩
    obtain ⟨rc, el, fz, hh, hsz⟩ := hex
    refine ⟨_, hh, ⟨by omega, fun i v v' e e' => ?_, (fun k => by cases k), (fun gr k => by rw [c3] at k; cases k), (fun _ => rfl)⟩⟩
    have h2 := hcell i v e
    unfold World.cell? at h2
    simp only [hh, Option.isSome_none, Bool.false_eq_true, if_false] at h2
    rw [Nat.zero_add] at e'
    rw [e'] at h2
    cases h2
    exact VRel.of_plain _ 4 v (List.all_eq_true.1 c1 v (List.mem_of_getElem? e))
  · exact List.all_eq_true.2 fun tb ht => by
      have := List.all_eq_true.1 hcb tb ht
      simp only [tbPlain, Bool.and_eq_true] at this
      exact this.2.2.2
theorem globLaid (ng : Nat) : GlobOk (gLaid ng) ng := fun i hi => by simp [gLaid, hi]
end
end Sw
