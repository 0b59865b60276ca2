/- A part of the proof that the law returns true for every input that its row speaks of. No condition is added. -/
import Derived.Test.YtginbleelmnlpaaGreatDoorSwAG
namespace Sw
noncomputable section
open Go Go.Proofs Go.RowKit
set_option maxRecDepth 100000
set_option maxHeartbeats 1600000
theorem cw_step (k : Nat) (ih : ∀ j, j < k → ∀ (l : SV RForm) (bc : Nat) (a b d : Int) (hp : Ht) (nx : Nat), hp.get bc = some (.cells [.int .i64 a, .int .i64 b] CMeta.plain) → bc < nx → SlOk encForm 1 (fun hp nx y => RFormOk hp nx y) (hp.set bc none) nx l → (∀ f ∈ l.l, fsz f < j) → WF ex 90 [.pointer (some ⟨bc, 0, none⟩), l.v, .int .i64 d] hp nx (fun v hp' nx' => (∃ c : Bool, v = .bool c) ∧ (∃ a b : Int, hp'.get bc = some (.cells [.int .i64 a, .int .i64 b] CMeta.plain)) ∧ nx ≤ nx' ∧ HE nx (hp.set bc none) (hp'.set bc none))) (l : SV RForm) (bc : Nat) (a b d : Int) (hp : Ht) (nx : Nat) (hb : hp.get bc = some (.cells [.int .i64 a, .int .i64 b] CMeta.plain)) (hlt : bc < nx) (hl : SlOk encForm 1 (fun hp nx y => RFormOk hp nx y) (hp.set bc none) nx l) (hk : ∀ f ∈ l.l, fsz f < k) : WF ex 90 [.pointer (some ⟨bc, 0, none⟩), l.v, .int .i64 (d)] hp nx (fun v hp' nx' => (∃ c : Bool, v = .bool c) ∧ (∃ a b : Int, hp'.get bc = some (.cells [.int .i64 a, .int .i64 b] CMeta.plain)) ∧ nx ≤ nx' ∧ HE nx (hp.set bc none) (hp'.set bc none)) := by
 obtain ⟨a1, c2, hv3⟩ := hl.1.shape
 have hsm3 := hl.1.2.2
 rw [hv3]
 refine WF.body (fi := ⟨Tryz.f90.body.getD .skip, 83, [.tmp 6]⟩) (by kernel_rfl) (by kernel_rfl) (by kernel_rfl) rfl ?_
 have hE := HE.refl nx (hp.set bc none)
 refine sr ?_
 refine ov 6 (.bool false) ?_
 refine WO.nil ?_
 refine WP.seq ?_
 refine sr ?_
 refine ov 12 (.slice a1 (l.l.length) c2) ?_
 refine ov 13 (.int .i64 (.ofNat (l.l.length))) ?_
 obtain ⟨c4, e4, p4⟩ := @nb (ltI (0) (.ofNat (l.l.length))) ((0) < ((l.l.length : Nat) : Int)) (ltI_iff)
 refine ov 14 (.bool c4) ?_ (fun _ _ _ => by subst e4; kernel_rfl)
 refine ov 15 (.bool c4) ?_
 refine og 15 (c4) (.int .i64 (d)) (.bool c4) (by cases c4 <;> rfl) (fun h => by obtain rfl := h; exact fun _ _ _ => by kernel_rfl) ?_
 obtain ⟨c5, e5, p5⟩ := @nb (ltI (16) (d)) ((16) < (d)) (ltI_iff)
 refine og 15 (c4) (.bool c5) (.bool c4) (by cases c4 <;> rfl) (fun h => by obtain rfl := h; exact fun _ _ _ => by subst e5; kernel_rfl) ?_
 obtain ⟨c6, e6, p6⟩ := @nb ((c4 && c5)) (((0) < ((l.l.length : Nat) : Int)) ∧ ((16) < (d))) (by rw [Bool.and_eq_true, p4, p5])
 refine WO.cons (WC.opt (v := .bool c6) 18 (ePick (.bool c4) ((bif c4 then .bool c5 else undef)) (.bool false)) (fun _ _ _ => by kernel_rfl) (by rw [e6]; exact ePick_and (fun h => by obtain rfl : c4 = true := h; rfl)) ?_)
 refine WO.nil ?_
 refine WP.cond c6 (by kernel_rfl) (fun h7 => ?_) (fun h7 => ?_)
 ·
  have q8 := (p6).1 h7
  refine sr ?_
  refine ov 6 (.bool false) ?_
  refine WO.nil ?_
  refine WP.ret ⟨rfl, rfl, [.bool false], by kernel_rfl, ?_⟩
  exact ⟨⟨_, rfl⟩, ⟨_, _, hb⟩, (Nat.le_refl nx), hE⟩
 ·
  have q8 := nq p6 h7
  refine WP.skip ?_
  refine WP.seq ?_
  refine sr ?_
  refine ov 19 (.slice a1 (l.l.length) c2) ?_
  refine ov 20 (.int .i64 (.ofNat (l.l.length))) ?_
  refine ov 21 (.int .i64 (0)) ?_
  refine WO.nil ?_
  refine WP.block ?_
  have hj10 : ∀ t : Tm, (((((t.set 0 (t.get 0)).set 2 (t.get 2)).set 19 (t.get 19)).set 20 (t.get 20)).set 21 (t.get 21)) = t := fun t => by kernel_rfl
  refine WP.loop (fun m s => ∃ (iL9 : Nat) (za : Int) (zb : Int), iL9 + m = l.l.length ∧ s.to.get 0 = .pointer (some ⟨bc, 0, none⟩) ∧ s.to.get 2 = .int .i64 (d) ∧ s.to.get 19 = .slice a1 (l.l.length) c2 ∧ s.to.get 20 = .int .i64 (.ofNat (l.l.length)) ∧ s.to.get 21 = .int .i64 (.ofNat iL9) ∧ s.ds = [] ∧ s.cs = [] ∧ nx ≤ s.nx ∧ HE nx (hp.set bc none) (s.hp.set bc none) ∧ s.hp.get bc = some (.cells [.int .i64 (za), .int .i64 (zb)] CMeta.plain)) ?_ (l.l.length) ?_
  ·
   rintro mL9 ⟨toL9, dsL9, hp11, nx12, csL9⟩ ⟨iL9, za, zb, him13, gL9_0, gL9_2, gL9_19, gL9_20, gL9_21, hdsL9, hcsL9, hn14, he15, mb16⟩
   simp only at gL9_0 gL9_2 gL9_19 gL9_20 gL9_21 hdsL9 hcsL9 hn14 he15 mb16
   subst hdsL9 hcsL9
   rw [← hj10 toL9, gL9_0, gL9_2, gL9_19, gL9_20, gL9_21]
   clear gL9_0 gL9_2 gL9_19 gL9_20 gL9_21
   have lt17 := Nat.lt_of_lt_of_le hlt hn14
   have le18 := Nat.le_trans (Nat.le_refl nx) hn14
   refine sr ?_
   obtain ⟨c19, e19, p19⟩ := @nb (ltI (.ofNat iL9) (.ofNat (l.l.length))) (((iL9 : Nat) : Int) < ((l.l.length : Nat) : Int)) (ltI_iff)
   refine ov 22 (.bool c19) ?_ (fun _ _ _ => by subst e19; kernel_rfl)
   refine WO.nil ?_
   refine WP.seq ?_
   refine WP.cond c19 (by kernel_rfl) (fun h20 => ?_) (fun h20 => ?_)
   ·
    have q21 := (p19).1 h20
    refine WP.skip ?_
    refine WP.seq ?_
    refine WP.block ?_
    refine sr ?_
    have hlt22 : iL9 < l.l.length := by omega
    refine WO.cons (WC.ix (k := .i64) a1 (l.l.length) c2 (iL9) 1 (by kernel_rfl) (by kernel_rfl) T_und151 T_size212 ((hl.1.mono he15 le18).un.blkA hv3 (zl hlt22)) (hlt22) ?_)
    obtain ⟨x23, hx24⟩ : ∃ el_, l.l[iL9]? = some el_ := ⟨_, List.getElem?_eq_getElem (hlt22)⟩
    refine WO.cons (WC.load1E (blk a1) (0 + (iL9) * 1) (fv x23) (by kernel_rfl) T_agg212 ((hl.1.mono he15 le18).un.blkB hv3 (zl hlt22)) (flat_at1 (hl.1.mono he15 le18).un.1 hx24 rfl) ?_)
    refine ov 8 (fv x23) ?_
    refine WO.nil ?_
    refine WP.seq ?_
    refine sr ?_
    refine ov 25 (fv x23) ?_
    refine WO.nil ?_
    refine WP.block ?_
    refine WP.seq ?_
    rcases x23 with y25 | y25
    ·
     have hy26 : RCondOk (hp.set bc none) nx y25 := hl.2 _ (List.mem_of_getElem? hx24)
     refine WP.region ?_
     refine ov 26 (.tuple ⟨[.agg (encCond y25).toArray, .bool true]⟩) ?_
     refine ov 27 (.bool true) ?_
     refine ov 28 (.agg (encCond y25).toArray) ?_
     refine WO.nil ?_
     refine WP.cond true (by kernel_rfl) (fun h27 => ?_) (fun h27 => by cases h27)
     refine sr ?_
     refine WO.cons (WC.alloc _ [.int .i64 (0), .int .i64 (0), .int .i64 (0), .slice none (0) 0] rfl T_zero325 rfl ?_)
     obtain ⟨hp29, hx30, he31, hb32⟩ := boxed hp11 (nx12) [.int .i64 (0), .int .i64 (0), .int .i64 (0), .slice none (0) 0]
     rw [hx30]; clear hx30
     have hE33 := he15.trans (he31.er (b := bc)) le18
     have hb34 := he31.get mb16 lt17
     have lt35 := Nat.lt_of_lt_of_le lt17 (Nat.le_succ (nx12))
     have rl36 := Nat.le_trans hn14 (Nat.le_succ (nx12))
     have le37 := Nat.le_trans le18 (Nat.le_succ (nx12))
     refine WO.cons (WC.store1 nx12 (0) (.agg (encCond y25).toArray) [.int .i64 (0), .int .i64 (0), .int .i64 (0), .slice none (0) 0] (encCond y25) (encCond y25) 4 rfl (by kernel_rfl) (by kernel_rfl) T_size325 rfl (Bool.and_eq_true_iff.2 ⟨rfl, encCond_one _ hy26⟩) hb32 rfl rfl rfl ?_)
     obtain ⟨hp38, hx39, he40, hb41, ho42⟩ := stored hp29 nx12 (.cells (encCond y25) CMeta.plain)
     rw [hx39]; clear hx39
     have hE43 := hE33.trans (he40.er (b := bc)) (by omega)
     have hb44 := (ho42 bc (by omega)).trans hb34
     refine WO.nil ?_
     refine WP.region ?_
     refine ov 29 (.pointer (some ⟨bc, 0, none⟩)) ?_
     refine ov 30 (.pointer (some ⟨bc, 0, none⟩)) ?_
     refine ov 31 (.pointer (some ⟨bc, 0 + 1, none⟩)) ?_
     refine WO.cons (WC.load1 bc (0 + 1) (.int .i64 (zb)) (by kernel_rfl) T_agg3 hb44 rfl ?_)
     refine ov 33 (.int .i64 (wrapE .i64 ((zb) + (1)))) ?_
     refine ov 34 (.pointer (some ⟨bc, 0, none⟩)) ?_
     refine ov 35 (.pointer (some ⟨bc, 0 + 1, none⟩)) ?_
     refine WO.cons (WC.store1 bc (0 + 1) (.int .i64 (wrapE .i64 ((zb) + (1)))) [.int .i64 (za), .int .i64 (zb)] [.int .i64 (za), .int .i64 (wrapE .i64 ((zb) + (1)))] [.int .i64 (wrapE .i64 ((zb) + (1)))] 1 rfl (by kernel_rfl) (by kernel_rfl) T_size3 rfl rfl hb44 rfl rfl rfl ?_)
     obtain ⟨hp45, hx46, he47, hb48, ho49⟩ := stored hp38 bc (.cells [.int .i64 (za), .int .i64 (wrapE .i64 ((zb) + (1)))] CMeta.plain)
     rw [hx46]; clear hx46
     have hE50 := hE43.trans (HE.erX (B := nx) ho49) (Nat.le_refl nx)
     refine WO.nil ?_
     refine sr ?_
     refine ov 61 (.pointer (some ⟨bc, 0, none⟩)) ?_
     refine ov 62 (.pointer (some ⟨bc, 0, none⟩)) ?_
     refine ov 63 (.pointer (some ⟨bc, 0 + 0, none⟩)) ?_
     refine WO.cons (WC.load1 bc (0 + 0) (.int .i64 (za)) (by kernel_rfl) T_agg3 hb48 rfl ?_)
     obtain ⟨c52, e52, p52⟩ := @nb (ltI (64) (za)) ((64) < (za)) (ltI_iff)
     refine ov 65 (.bool c52) ?_ (fun _ _ _ => by subst e52; kernel_rfl)
     refine ov 66 (.bool c52) ?_
     refine og 66 (!c52) (.pointer (some ⟨bc, 0, none⟩)) (.bool c52) (by cases c52 <;> rfl) (fun h => by obtain rfl := bF h; exact fun _ _ _ => by kernel_rfl) ?_
     refine og 66 (!c52) (.pointer (some ⟨bc, 0, none⟩)) (.bool c52) (by cases c52 <;> rfl) (fun h => by obtain rfl := bF h; exact fun _ _ _ => by kernel_rfl) ?_
     refine og 66 (!c52) (.pointer (some ⟨bc, 0 + 1, none⟩)) (.bool c52) (by cases c52 <;> rfl) (fun h => by obtain rfl := bF h; exact fun _ _ _ => by kernel_rfl) ?_
     refine ogc 66 (!c52) (.int .i64 (wrapE .i64 ((zb) + (1)))) (.bool c52) (by cases c52 <;> rfl) (fun h => by obtain rfl := bF h; exact WC.load1 bc (0 + 1) (.int .i64 (wrapE .i64 ((zb) + (1)))) (by kernel_rfl) T_agg3 hb48 rfl rfl) ?_
     obtain ⟨c53, e53, p53⟩ := @nb (ltI (256) (wrapE .i64 ((zb) + (1)))) ((256) < (wrapE .i64 ((zb) + (1)))) (ltI_iff)
     refine og 66 (!c52) (.bool c53) (.bool c52) (by cases c52 <;> rfl) (fun h => by obtain rfl := bF h; exact fun _ _ _ => by subst e53; kernel_rfl) ?_
     obtain ⟨c54, e54, p54⟩ := @nb ((c52 || c53)) (((64) < (za)) ∨ ((256) < (wrapE .i64 ((zb) + (1))))) (by rw [Bool.or_eq_true, p52, p53])
     refine WO.cons (WC.opt (v := .bool c54) 72 (ePick (.bool c52) (.bool true) ((bif !c52 then .bool c53 else undef))) (fun _ _ _ => by kernel_rfl) (by rw [e54]; exact ePick_or (fun h => by obtain rfl : c52 = false := h; rfl)) ?_)
     refine ov 73 (.bool c54) ?_
     refine og 73 (!c54) (.pointer (some ⟨bc, 0, none⟩)) (.bool c54) (by cases c54 <;> rfl) (fun h => by obtain rfl := bF h; exact fun _ _ _ => by kernel_rfl) ?_
     refine og 73 (!c54) (.iface 325 (.agg (encCond y25).toArray)) (.bool c54) (by cases c54 <;> rfl) (fun h => by obtain rfl := bF h; exact fun _ _ _ => by kernel_rfl) ?_
     cases c54 with
     | true =>
      have q55 := (p54).1 rfl
      refine WO.cons (WC.gskip (x := .bool true) (g := opd (.tmp 73)) rfl (by kernel_rfl) rfl ?_)
      refine WO.cons (WC.gskip (x := .bool true) (g := opd (.tmp 73)) rfl (by kernel_rfl) rfl ?_)
      refine WO.cons (WC.gskip (x := .bool true) (g := opd (.tmp 73)) rfl (by kernel_rfl) rfl ?_)
      refine WO.cons (WC.gskip (x := .bool true) (g := opd (.tmp 73)) rfl (by kernel_rfl) rfl ?_)
      refine WO.cons (WC.gskip (x := .bool true) (g := opd (.tmp 73)) rfl (by kernel_rfl) rfl ?_)
      refine ov 81 (.bool true) ?_
      refine WO.nil ?_
      refine WP.cond true (by kernel_rfl) (fun h56 => ?_) (fun h56 => by cases h56)
      refine sr ?_
      refine ov 6 (.bool false) ?_
      refine WO.nil ?_
      refine WP.ret ⟨rfl, rfl, [.bool false], by kernel_rfl, ?_⟩
      exact ⟨⟨_, rfl⟩, ⟨_, _, hb48⟩, le37, hE50⟩
     | false =>
      have q57 : ¬ (((64) < (za)) ∨ ((256) < (wrapE .i64 ((zb) + (1))))) := nf p54
      refine WO.cons (WC.gmet (x := .bool false) (g := opd (.tmp 73)) rfl (by kernel_rfl) rfl (WC.call 76 252 ([.agg (encCond y25).toArray]) (fun _ _ _ => by kernel_rfl) ((condParts_wf y25 hp45 (nx12 + 1) (hy26.mono hE50 le37).un).mono ?_)))
      rintro _ hp58 nx59 ⟨J62, rfl, hl63, hG64, hn60, he61⟩
      have hE65 := hE50.trans (he61.er (b := bc)) le37
      have hb66 := he61.get hb48 lt35
      have lt67 := Nat.lt_of_lt_of_le lt35 hn60
      have rl70 := Nat.le_trans rl36 hn60
      have le71 := Nat.le_trans le37 hn60
      have hJok72 : SlOk encForm 1 (fun hp nx y => RFormOk hp nx y) hp58 (nx59) J62 := ⟨hG64.ok (formFlat _) (by rw [hl63]; have := partsF_len (f := .cond y25) ((hy26.mono hE65 le71).un); omega), fun x hx => partsF_ok (f := .cond y25) ((hy26.mono hE65 le71).un) x (hl63 ▸ hx)⟩
      refine WO.cons (WC.gmet (x := .bool false) (g := opd (.tmp 73)) rfl (by kernel_rfl) rfl (WC.val 77 (.int .i64 (d)) (fun _ _ _ => by kernel_rfl) ?_))
      refine WO.cons (WC.gmet (x := .bool false) (g := opd (.tmp 73)) rfl (by kernel_rfl) rfl (WC.val 78 (.int .i64 (wrapE .i64 ((d) + (1)))) (fun _ _ _ => by kernel_rfl) ?_))
      refine WO.cons (WC.gmet (x := .bool false) (g := opd (.tmp 73)) rfl (by kernel_rfl) rfl (WC.call 79 90 ([.pointer (some ⟨bc, 0, none⟩), J62.v, .int .i64 (wrapE .i64 ((d) + (1)))]) (fun _ _ _ => by kernel_rfl) ((ih _ (hk _ (List.mem_of_getElem? hx24)) J62 bc (za) (wrapE .i64 ((zb) + (1))) (wrapE .i64 ((d) + (1))) hp58 (nx59) hb66 lt67 ⟨((hG64.above (fun q hq => Tr.get_other _ _ (by omega))).ok (formFlat _) (by rw [hl63]; have := partsF_len (f := .cond y25) hy26; omega)), fun x hx => (partsF_ok (f := .cond y25) hy26 x (hl63 ▸ hx)).mono hE65 le71⟩ (fun g hg => partsF_lt (hl63 ▸ hg))).mono ?_)))
      rintro _ hp75 nx76 ⟨⟨c79, rfl⟩, ⟨na80, nb81, hb82⟩, hn77, he78⟩
      have hE83 := hE65.trans he78 le71
      have le84 := Nat.le_trans le71 hn77
      have p85 : c79 = true ↔ (c79 = true) := Iff.rfl
      have rl87 := Nat.le_trans rl70 hn77
      obtain ⟨c88, e88, p88⟩ := @nb (!c79) (¬ (c79 = true)) (by rw [Bool.not_eq_true', ← Bool.not_eq_true, p85])
      refine WO.cons (WC.gmet (x := .bool false) (g := opd (.tmp 73)) rfl (by kernel_rfl) rfl (WC.val 80 (.bool c88) (fun _ _ _ => by subst e88; kernel_rfl) ?_))
      refine ov 81 (.bool c88) ?_
      refine WO.nil ?_
      refine WP.cond c88 (by kernel_rfl) (fun h89 => ?_) (fun h89 => ?_)
      ·
       have q90 := (p88).1 h89
       refine sr ?_
       refine ov 6 (.bool false) ?_
       refine WO.nil ?_
       refine WP.ret ⟨rfl, rfl, [.bool false], by kernel_rfl, ?_⟩
       exact ⟨⟨_, rfl⟩, ⟨_, _, hb82⟩, le84, hE83⟩
      ·
       have q90 := nq p88 h89
       refine WP.skip ?_
       refine WP.region ?_
       refine ov 82 (.int .i64 (.ofNat (iL9 + 1))) ?_ (fun _ _ _ => by rw [← wrapAdd (show iL9 + 1 < 9223372036854775808 by omega)]; kernel_rfl)
       refine ov 21 (.int .i64 (.ofNat (iL9 + 1))) ?_
       refine WO.nil ?_
       refine ⟨l.l.length - (iL9 + 1), by omega, iL9 + 1, na80, nb81, by omega, by kernel_rfl, by kernel_rfl, by kernel_rfl, by kernel_rfl, by kernel_rfl, rfl, rfl, ?_, ?_, ?_⟩
       · exact rl87
       · exact hE83
       · exact hb82
    ·
     have hy91 : RStepOk (hp.set bc none) nx y25 := hl.2 _ (List.mem_of_getElem? hx24)
     refine WP.region ?_
     refine ov 26 (.tuple ⟨[.agg ⟨[.int .i64 (0), .int .i64 (0), .int .i64 (0), .slice none (0) 0]⟩, .bool false]⟩) ?_
     refine ov 27 (.bool false) ?_
     refine ov 28 (.agg ⟨[.int .i64 (0), .int .i64 (0), .int .i64 (0), .slice none (0) 0]⟩) ?_
     refine WO.nil ?_
     refine WP.cond false (by kernel_rfl) (fun h92 => by cases h92) (fun h92 => ?_)
     refine sr ?_
     refine ov 36 (.tuple ⟨[.agg (encStep y25).toArray, .bool true]⟩) ?_
     refine ov 37 (.bool true) ?_
     refine ov 38 (.agg (encStep y25).toArray) ?_
     refine WO.nil ?_
     refine WP.cond true (by kernel_rfl) (fun h93 => ?_) (fun h93 => by cases h93)
     refine sr ?_
     refine WO.cons (WC.alloc _ [.int .i64 (0), .int .i64 (0), .int .i64 (0), .int .i64 (0), .int .i64 (0), .slice none (0) 0, .slice none (0) 0, .slice none (0) 0] rfl T_zero215 rfl ?_)
     obtain ⟨hp95, hx96, he97, hb98⟩ := boxed hp11 (nx12) [.int .i64 (0), .int .i64 (0), .int .i64 (0), .int .i64 (0), .int .i64 (0), .slice none (0) 0, .slice none (0) 0, .slice none (0) 0]
     rw [hx96]; clear hx96
     have hE99 := he15.trans (he97.er (b := bc)) le18
     have hb100 := he97.get mb16 lt17
     have lt101 := Nat.lt_of_lt_of_le lt17 (Nat.le_succ (nx12))
     have rl102 := Nat.le_trans hn14 (Nat.le_succ (nx12))
     have le103 := Nat.le_trans le18 (Nat.le_succ (nx12))
     refine WO.cons (WC.store1 nx12 (0) (.agg (encStep y25).toArray) [.int .i64 (0), .int .i64 (0), .int .i64 (0), .int .i64 (0), .int .i64 (0), .slice none (0) 0, .slice none (0) 0, .slice none (0) 0] (encStep y25) (encStep y25) 8 rfl (by kernel_rfl) (by kernel_rfl) T_size215 rfl (Bool.and_eq_true_iff.2 ⟨rfl, encStep_one _ hy91⟩) hb98 rfl rfl rfl ?_)
     obtain ⟨hp104, hx105, he106, hb107, ho108⟩ := stored hp95 nx12 (.cells (encStep y25) CMeta.plain)
     rw [hx105]; clear hx105
     have hE109 := hE99.trans (he106.er (b := bc)) (by omega)
     have hb110 := (ho108 bc (by omega)).trans hb100
     refine WO.nil ?_
     refine sr ?_
     refine ov 39 (.pointer (some ⟨bc, 0, none⟩)) ?_
     refine ov 40 (.pointer (some ⟨bc, 0, none⟩)) ?_
     refine ov 41 (.pointer (some ⟨bc, 0 + 0, none⟩)) ?_
     refine WO.cons (WC.load1 bc (0 + 0) (.int .i64 (za)) (by kernel_rfl) T_agg3 hb110 rfl ?_)
     refine ov 43 (.int .i64 (wrapE .i64 ((za) + (1)))) ?_
     refine ov 44 (.pointer (some ⟨bc, 0, none⟩)) ?_
     refine ov 45 (.pointer (some ⟨bc, 0 + 0, none⟩)) ?_
     refine WO.cons (WC.store1 bc (0 + 0) (.int .i64 (wrapE .i64 ((za) + (1)))) [.int .i64 (za), .int .i64 (zb)] [.int .i64 (wrapE .i64 ((za) + (1))), .int .i64 (zb)] [.int .i64 (wrapE .i64 ((za) + (1)))] 1 rfl (by kernel_rfl) (by kernel_rfl) T_size3 rfl rfl hb110 rfl rfl rfl ?_)
     obtain ⟨hp111, hx112, he113, hb114, ho115⟩ := stored hp104 bc (.cells [.int .i64 (wrapE .i64 ((za) + (1))), .int .i64 (zb)] CMeta.plain)
     rw [hx112]; clear hx112
     have hE116 := hE109.trans (HE.erX (B := nx) ho115) (Nat.le_refl nx)
     have hb117 := (ho115 nx12 (by omega)).trans hb107
     refine WO.nil ?_
     refine sr ?_
     refine ov 46 (.pointer (some ⟨nx12, 0 + 0, none⟩)) ?_
     refine ov 47 (.pointer (some ⟨nx12, 0 + 0 + 2, none⟩)) ?_
     refine WO.cons (WC.loadS nx12 (0 + 0 + 2) (encCond y25.fCond) (by kernel_rfl) T_agg104 T_size104 hb117 rfl ?_)
     refine ov 49 (.agg (encCond y25.fCond).toArray) ?_
     refine WO.cons (WC.alloc _ [.int .i64 (0), .int .i64 (0), .int .i64 (0), .slice none (0) 0] rfl T_zero325 rfl ?_)
     obtain ⟨hp119, hx120, he121, hb122⟩ := boxed hp111 (nx12 + 1) [.int .i64 (0), .int .i64 (0), .int .i64 (0), .slice none (0) 0]
     rw [hx120]; clear hx120
     have hE123 := hE116.trans (he121.er (b := bc)) le103
     have hb124 := he121.get hb114 lt101
     have lt125 := Nat.lt_of_lt_of_le lt101 (Nat.le_succ (nx12 + 1))
     have rl128 := Nat.le_trans rl102 (Nat.le_succ (nx12 + 1))
     have le129 := Nat.le_trans le103 (Nat.le_succ (nx12 + 1))
     refine WO.cons (WC.store1 (nx12 + 1) (0) (.agg (encCond y25.fCond).toArray) [.int .i64 (0), .int .i64 (0), .int .i64 (0), .slice none (0) 0] (encCond y25.fCond) (encCond y25.fCond) 4 rfl (by kernel_rfl) (by kernel_rfl) T_size325 rfl (Bool.and_eq_true_iff.2 ⟨rfl, encCond_one _ hy91.fCond⟩) hb122 rfl rfl rfl ?_)
     obtain ⟨hp130, hx131, he132, hb133, ho134⟩ := stored hp119 (nx12 + 1) (.cells (encCond y25.fCond) CMeta.plain)
     rw [hx131]; clear hx131
     have hE135 := hE123.trans (he132.er (b := bc)) (by omega)
     have hb136 := (ho134 bc (by omega)).trans hb124
     refine WO.nil ?_
     refine sr ?_
     refine WO.cons (WC.loadS (nx12 + 1) (0) (encCond y25.fCond) (by kernel_rfl) T_agg325 T_size325 hb133 rfl ?_)
     refine WO.cons (WC.call 51 167 ([.agg (encCond y25.fCond).toArray]) (fun _ _ _ => by kernel_rfl) ((isZero_wf y25.fCond hp130 (nx12 + 1 + 1) (hy91.fCond.mono hE135 le129).un).mono ?_))
     rintro _ hp138 nx139 ⟨⟨c142, rfl, p142⟩, hn140, he141⟩
     have hE143 := hE135.trans (he141.er (b := bc)) le129
     have hb144 := he141.get hb136 lt125
     have lt145 := Nat.lt_of_lt_of_le lt125 hn140
     have hb148 := he141.get hb133 (Nat.lt_succ_self (nx12 + 1))
     have rl150 := Nat.le_trans rl128 hn140
     have le151 := Nat.le_trans le129 hn140
     obtain ⟨c152, e152, p152⟩ := @nb (!c142) (¬ (CondZero y25.fCond)) (by rw [Bool.not_eq_true', ← Bool.not_eq_true, p142])
     refine ov 52 (.bool c152) ?_ (fun _ _ _ => by subst e152; kernel_rfl)
     refine ov 53 (.bool c152) ?_
     refine og 53 (c152) (.pointer (some ⟨bc, 0, none⟩)) (.bool c152) (by cases c152 <;> rfl) (fun h => by obtain rfl := h; exact fun _ _ _ => by kernel_rfl) ?_
     refine ogc 53 (c152) (.agg (encCond y25.fCond).toArray) (.bool c152) (by cases c152 <;> rfl) (fun h => by obtain rfl := h; exact WC.loadS (nx12 + 1) (0) (encCond y25.fCond) (by kernel_rfl) T_agg325 T_size325 hb148 rfl rfl) ?_
     refine og 53 (c152) (.iface 325 (.agg (encCond y25.fCond).toArray)) (.bool c152) (by cases c152 <;> rfl) (fun h => by obtain rfl := h; exact fun _ _ _ => by kernel_rfl) ?_
     cases c152 with
     | true =>
      have q153 := (p152).1 rfl
      refine WO.cons (WC.gmet (x := .bool true) (g := opd (.tmp 53)) rfl (by kernel_rfl) rfl (WC.buildSlice [.iface 325 (.agg (encCond y25.fCond).toArray)] rfl (by kernel_rfl) ?_))
      obtain ⟨hp154, hx155, he156, hb157⟩ := boxed hp138 (nx139) [.iface 325 (.agg (encCond y25.fCond).toArray)]
      rw [hx155]; clear hx155
      have hE158 := hE143.trans (he156.er (b := bc)) le151
      have hb159 := he156.get hb144 lt145
      have lt160 := Nat.lt_of_lt_of_le lt145 (Nat.le_succ (nx139))
      have rl165 := Nat.le_trans rl150 (Nat.le_succ (nx139))
      have le166 := Nat.le_trans le151 (Nat.le_succ (nx139))
      refine WO.cons (WC.gmet (x := .bool true) (g := opd (.tmp 53)) rfl (by kernel_rfl) rfl (WC.call 58 90 ([.pointer (some ⟨bc, 0, none⟩), (⟨.slice (some ⟨nx139, 0, none⟩) 1 1, [(RForm.cond y25.fCond)]⟩ : SV RForm).v, .int .i64 (0)]) (fun _ _ _ => by kernel_rfl) ((ih _ (hk _ (List.mem_of_getElem? hx24)) (⟨.slice (some ⟨nx139, 0, none⟩) 1 1, [(RForm.cond y25.fCond)]⟩ : SV RForm) bc (wrapE .i64 ((za) + (1))) (zb) (0) hp154 (nx139 + 1) hb159 lt160 ⟨SOk.ofBox (enc := encForm) (formFlat _) ((Tr.get_other _ _ (by omega)).trans hb157) rfl (by decide) (by omega) (by simp), fun x hx => by rw [List.mem_singleton.1 hx]; exact hy91.fCond.mono hE158 le166⟩ (fun g hg => by rw [List.mem_singleton.1 hg]; have := RStep.cond_lt y25; simp only [fsz]; omega)).mono ?_)))
      rintro _ hp168 nx169 ⟨⟨c172, rfl⟩, ⟨na173, nb174, hb175⟩, hn170, he171⟩
      have hE176 := hE158.trans he171 le166
      have le177 := Nat.le_trans le166 hn170
      have p178 : c172 = true ↔ (c172 = true) := Iff.rfl
      have lt179 := Nat.lt_of_lt_of_le lt160 hn170
      have rl180 := Nat.le_trans rl165 hn170
      obtain ⟨c181, e181, p181⟩ := @nb (!c172) (¬ (c172 = true)) (by rw [Bool.not_eq_true', ← Bool.not_eq_true, p178])
      refine WO.cons (WC.gmet (x := .bool true) (g := opd (.tmp 53)) rfl (by kernel_rfl) rfl (WC.val 59 (.bool c181) (fun _ _ _ => by subst e181; kernel_rfl) ?_))
      refine ov 60 (.bool c181) ?_
      refine WO.nil ?_
      refine WP.cond c181 (by kernel_rfl) (fun h182 => ?_) (fun h182 => ?_)
      ·
       have q183 := (p181).1 h182
       refine sr ?_
       refine ov 6 (.bool false) ?_
       refine WO.nil ?_
       refine WP.ret ⟨rfl, rfl, [.bool false], by kernel_rfl, ?_⟩
       exact ⟨⟨_, rfl⟩, ⟨_, _, hb175⟩, le177, hE176⟩
      ·
       have q183 := nq p181 h182
       refine WP.skip ?_
       refine sr ?_
       refine ov 61 (.pointer (some ⟨bc, 0, none⟩)) ?_
       refine ov 62 (.pointer (some ⟨bc, 0, none⟩)) ?_
       refine ov 63 (.pointer (some ⟨bc, 0 + 0, none⟩)) ?_
       refine WO.cons (WC.load1 bc (0 + 0) (.int .i64 (na173)) (by kernel_rfl) T_agg3 hb175 rfl ?_)
       obtain ⟨c184, e184, p184⟩ := @nb (ltI (64) (na173)) ((64) < (na173)) (ltI_iff)
       refine ov 65 (.bool c184) ?_ (fun _ _ _ => by subst e184; kernel_rfl)
       refine ov 66 (.bool c184) ?_
       refine og 66 (!c184) (.pointer (some ⟨bc, 0, none⟩)) (.bool c184) (by cases c184 <;> rfl) (fun h => by obtain rfl := bF h; exact fun _ _ _ => by kernel_rfl) ?_
       refine og 66 (!c184) (.pointer (some ⟨bc, 0, none⟩)) (.bool c184) (by cases c184 <;> rfl) (fun h => by obtain rfl := bF h; exact fun _ _ _ => by kernel_rfl) ?_
       refine og 66 (!c184) (.pointer (some ⟨bc, 0 + 1, none⟩)) (.bool c184) (by cases c184 <;> rfl) (fun h => by obtain rfl := bF h; exact fun _ _ _ => by kernel_rfl) ?_
       refine ogc 66 (!c184) (.int .i64 (nb174)) (.bool c184) (by cases c184 <;> rfl) (fun h => by obtain rfl := bF h; exact WC.load1 bc (0 + 1) (.int .i64 (nb174)) (by kernel_rfl) T_agg3 hb175 rfl rfl) ?_
       obtain ⟨c185, e185, p185⟩ := @nb (ltI (256) (nb174)) ((256) < (nb174)) (ltI_iff)
       refine og 66 (!c184) (.bool c185) (.bool c184) (by cases c184 <;> rfl) (fun h => by obtain rfl := bF h; exact fun _ _ _ => by subst e185; kernel_rfl) ?_
       obtain ⟨c186, e186, p186⟩ := @nb ((c184 || c185)) (((64) < (na173)) ∨ ((256) < (nb174))) (by rw [Bool.or_eq_true, p184, p185])
       refine WO.cons (WC.opt (v := .bool c186) 72 (ePick (.bool c184) (.bool true) ((bif !c184 then .bool c185 else undef))) (fun _ _ _ => by kernel_rfl) (by rw [e186]; exact ePick_or (fun h => by obtain rfl : c184 = false := h; rfl)) ?_)
       refine ov 73 (.bool c186) ?_
       refine og 73 (!c186) (.pointer (some ⟨bc, 0, none⟩)) (.bool c186) (by cases c186 <;> rfl) (fun h => by obtain rfl := bF h; exact fun _ _ _ => by kernel_rfl) ?_
       refine og 73 (!c186) (.iface 215 (.agg (encStep y25).toArray)) (.bool c186) (by cases c186 <;> rfl) (fun h => by obtain rfl := bF h; exact fun _ _ _ => by kernel_rfl) ?_
       cases c186 with
       | true =>
        have q187 := (p186).1 rfl
        refine WO.cons (WC.gskip (x := .bool true) (g := opd (.tmp 73)) rfl (by kernel_rfl) rfl ?_)
        refine WO.cons (WC.gskip (x := .bool true) (g := opd (.tmp 73)) rfl (by kernel_rfl) rfl ?_)
        refine WO.cons (WC.gskip (x := .bool true) (g := opd (.tmp 73)) rfl (by kernel_rfl) rfl ?_)
        refine WO.cons (WC.gskip (x := .bool true) (g := opd (.tmp 73)) rfl (by kernel_rfl) rfl ?_)
        refine WO.cons (WC.gskip (x := .bool true) (g := opd (.tmp 73)) rfl (by kernel_rfl) rfl ?_)
        refine ov 81 (.bool true) ?_
        refine WO.nil ?_
        refine WP.cond true (by kernel_rfl) (fun h188 => ?_) (fun h188 => by cases h188)
        refine sr ?_
        refine ov 6 (.bool false) ?_
        refine WO.nil ?_
        refine WP.ret ⟨rfl, rfl, [.bool false], by kernel_rfl, ?_⟩
        exact ⟨⟨_, rfl⟩, ⟨_, _, hb175⟩, le177, hE176⟩
       | false =>
        have q189 : ¬ (((64) < (na173)) ∨ ((256) < (nb174))) := nf p186
        refine WO.cons (WC.gmet (x := .bool false) (g := opd (.tmp 73)) rfl (by kernel_rfl) rfl (WC.call 76 253 ([.agg (encStep y25).toArray]) (fun _ _ _ => by kernel_rfl) ((stepParts_wf y25 hp168 (nx169) (hy91.mono hE176 le177).un).mono ?_)))
        rintro _ hp190 nx191 ⟨J194, rfl, hl195, hG196, hn192, he193⟩
        have hE197 := hE176.trans (he193.er (b := bc)) le177
        have hb198 := he193.get hb175 lt179
        have lt199 := Nat.lt_of_lt_of_le lt179 hn192
        have rl200 := Nat.le_trans rl180 hn192
        have le201 := Nat.le_trans le177 hn192
        have hJok202 : SlOk encForm 1 (fun hp nx y => RFormOk hp nx y) hp190 (nx191) J194 := ⟨hG196.ok (formFlat _) (by rw [hl195]; have := partsF_len (f := .step y25) ((hy91.mono hE197 le201).un); omega), fun x hx => partsF_ok (f := .step y25) ((hy91.mono hE197 le201).un) x (hl195 ▸ hx)⟩
        refine WO.cons (WC.gmet (x := .bool false) (g := opd (.tmp 73)) rfl (by kernel_rfl) rfl (WC.val 77 (.int .i64 (d)) (fun _ _ _ => by kernel_rfl) ?_))
        refine WO.cons (WC.gmet (x := .bool false) (g := opd (.tmp 73)) rfl (by kernel_rfl) rfl (WC.val 78 (.int .i64 (wrapE .i64 ((d) + (1)))) (fun _ _ _ => by kernel_rfl) ?_))
        refine WO.cons (WC.gmet (x := .bool false) (g := opd (.tmp 73)) rfl (by kernel_rfl) rfl (WC.call 79 90 ([.pointer (some ⟨bc, 0, none⟩), J194.v, .int .i64 (wrapE .i64 ((d) + (1)))]) (fun _ _ _ => by kernel_rfl) ((ih _ (hk _ (List.mem_of_getElem? hx24)) J194 bc (na173) (nb174) (wrapE .i64 ((d) + (1))) hp190 (nx191) hb198 lt199 ⟨((hG196.above (fun q hq => Tr.get_other _ _ (by omega))).ok (formFlat _) (by rw [hl195]; have := partsF_len (f := .step y25) hy91; omega)), fun x hx => (partsF_ok (f := .step y25) hy91 x (hl195 ▸ hx)).mono hE197 le201⟩ (fun g hg => partsF_lt (hl195 ▸ hg))).mono ?_)))
        rintro _ hp205 nx206 ⟨⟨c209, rfl⟩, ⟨na210, nb211, hb212⟩, hn207, he208⟩
        have hE213 := hE197.trans he208 le201
        have le214 := Nat.le_trans le201 hn207
        have p215 : c209 = true ↔ (c209 = true) := Iff.rfl
        have rl217 := Nat.le_trans rl200 hn207
        obtain ⟨c218, e218, p218⟩ := @nb (!c209) (¬ (c209 = true)) (by rw [Bool.not_eq_true', ← Bool.not_eq_true, p215])
        refine WO.cons (WC.gmet (x := .bool false) (g := opd (.tmp 73)) rfl (by kernel_rfl) rfl (WC.val 80 (.bool c218) (fun _ _ _ => by subst e218; kernel_rfl) ?_))
        refine ov 81 (.bool c218) ?_
        refine WO.nil ?_
        refine WP.cond c218 (by kernel_rfl) (fun h219 => ?_) (fun h219 => ?_)
        ·
         have q220 := (p218).1 h219
         refine sr ?_
         refine ov 6 (.bool false) ?_
         refine WO.nil ?_
         refine WP.ret ⟨rfl, rfl, [.bool false], by kernel_rfl, ?_⟩
         exact ⟨⟨_, rfl⟩, ⟨_, _, hb212⟩, le214, hE213⟩
        ·
         have q220 := nq p218 h219
         refine WP.skip ?_
         refine WP.region ?_
         refine ov 82 (.int .i64 (.ofNat (iL9 + 1))) ?_ (fun _ _ _ => by rw [← wrapAdd (show iL9 + 1 < 9223372036854775808 by omega)]; kernel_rfl)
         refine ov 21 (.int .i64 (.ofNat (iL9 + 1))) ?_
         refine WO.nil ?_
         refine ⟨l.l.length - (iL9 + 1), by omega, iL9 + 1, na210, nb211, by omega, by kernel_rfl, by kernel_rfl, by kernel_rfl, by kernel_rfl, by kernel_rfl, rfl, rfl, ?_, ?_, ?_⟩
         · exact rl217
         · exact hE213
         · exact hb212
     | false =>
      have q221 : ¬ (¬ (CondZero y25.fCond)) := nf p152
      refine WO.cons (WC.gskip (x := .bool false) (g := opd (.tmp 53)) rfl (by kernel_rfl) rfl ?_)
      refine WO.cons (WC.gskip (x := .bool false) (g := opd (.tmp 53)) rfl (by kernel_rfl) rfl ?_)
      refine WO.cons (WC.gskip (x := .bool false) (g := opd (.tmp 53)) rfl (by kernel_rfl) rfl ?_)
      refine ov 60 (.bool false) ?_
      refine WO.nil ?_
      refine WP.cond false (by kernel_rfl) (fun h222 => by cases h222) (fun h222 => ?_)
      refine WP.skip ?_
      refine sr ?_
      refine ov 61 (.pointer (some ⟨bc, 0, none⟩)) ?_
      refine ov 62 (.pointer (some ⟨bc, 0, none⟩)) ?_
      refine ov 63 (.pointer (some ⟨bc, 0 + 0, none⟩)) ?_
      refine WO.cons (WC.load1 bc (0 + 0) (.int .i64 (wrapE .i64 ((za) + (1)))) (by kernel_rfl) T_agg3 hb144 rfl ?_)
      obtain ⟨c223, e223, p223⟩ := @nb (ltI (64) (wrapE .i64 ((za) + (1)))) ((64) < (wrapE .i64 ((za) + (1)))) (ltI_iff)
      refine ov 65 (.bool c223) ?_ (fun _ _ _ => by subst e223; kernel_rfl)
      refine ov 66 (.bool c223) ?_
      refine og 66 (!c223) (.pointer (some ⟨bc, 0, none⟩)) (.bool c223) (by cases c223 <;> rfl) (fun h => by obtain rfl := bF h; exact fun _ _ _ => by kernel_rfl) ?_
      refine og 66 (!c223) (.pointer (some ⟨bc, 0, none⟩)) (.bool c223) (by cases c223 <;> rfl) (fun h => by obtain rfl := bF h; exact fun _ _ _ => by kernel_rfl) ?_
      refine og 66 (!c223) (.pointer (some ⟨bc, 0 + 1, none⟩)) (.bool c223) (by cases c223 <;> rfl) (fun h => by obtain rfl := bF h; exact fun _ _ _ => by kernel_rfl) ?_
      refine ogc 66 (!c223) (.int .i64 (zb)) (.bool c223) (by cases c223 <;> rfl) (fun h => by obtain rfl := bF h; exact WC.load1 bc (0 + 1) (.int .i64 (zb)) (by kernel_rfl) T_agg3 hb144 rfl rfl) ?_
      obtain ⟨c224, e224, p224⟩ := @nb (ltI (256) (zb)) ((256) < (zb)) (ltI_iff)
      refine og 66 (!c223) (.bool c224) (.bool c223) (by cases c223 <;> rfl) (fun h => by obtain rfl := bF h; exact fun _ _ _ => by subst e224; kernel_rfl) ?_
      obtain ⟨c225, e225, p225⟩ := @nb ((c223 || c224)) (((64) < (wrapE .i64 ((za) + (1)))) ∨ ((256) < (zb))) (by rw [Bool.or_eq_true, p223, p224])
      refine WO.cons (WC.opt (v := .bool c225) 72 (ePick (.bool c223) (.bool true) ((bif !c223 then .bool c224 else undef))) (fun _ _ _ => by kernel_rfl) (by rw [e225]; exact ePick_or (fun h => by obtain rfl : c223 = false := h; rfl)) ?_)
      refine ov 73 (.bool c225) ?_
      refine og 73 (!c225) (.pointer (some ⟨bc, 0, none⟩)) (.bool c225) (by cases c225 <;> rfl) (fun h => by obtain rfl := bF h; exact fun _ _ _ => by kernel_rfl) ?_
      refine og 73 (!c225) (.iface 215 (.agg (encStep y25).toArray)) (.bool c225) (by cases c225 <;> rfl) (fun h => by obtain rfl := bF h; exact fun _ _ _ => by kernel_rfl) ?_
      cases c225 with
      | true =>
       have q226 := (p225).1 rfl
       refine WO.cons (WC.gskip (x := .bool true) (g := opd (.tmp 73)) rfl (by kernel_rfl) rfl ?_)
       refine WO.cons (WC.gskip (x := .bool true) (g := opd (.tmp 73)) rfl (by kernel_rfl) rfl ?_)
       refine WO.cons (WC.gskip (x := .bool true) (g := opd (.tmp 73)) rfl (by kernel_rfl) rfl ?_)
       refine WO.cons (WC.gskip (x := .bool true) (g := opd (.tmp 73)) rfl (by kernel_rfl) rfl ?_)
       refine WO.cons (WC.gskip (x := .bool true) (g := opd (.tmp 73)) rfl (by kernel_rfl) rfl ?_)
       refine ov 81 (.bool true) ?_
       refine WO.nil ?_
       refine WP.cond true (by kernel_rfl) (fun h227 => ?_) (fun h227 => by cases h227)
       refine sr ?_
       refine ov 6 (.bool false) ?_
       refine WO.nil ?_
       refine WP.ret ⟨rfl, rfl, [.bool false], by kernel_rfl, ?_⟩
       exact ⟨⟨_, rfl⟩, ⟨_, _, hb144⟩, le151, hE143⟩
      | false =>
       have q228 : ¬ (((64) < (wrapE .i64 ((za) + (1)))) ∨ ((256) < (zb))) := nf p225
       refine WO.cons (WC.gmet (x := .bool false) (g := opd (.tmp 73)) rfl (by kernel_rfl) rfl (WC.call 76 253 ([.agg (encStep y25).toArray]) (fun _ _ _ => by kernel_rfl) ((stepParts_wf y25 hp138 (nx139) (hy91.mono hE143 le151).un).mono ?_)))
       rintro _ hp229 nx230 ⟨J233, rfl, hl234, hG235, hn231, he232⟩
       have hE236 := hE143.trans (he232.er (b := bc)) le151
       have hb237 := he232.get hb144 lt145
       have lt238 := Nat.lt_of_lt_of_le lt145 hn231
       have rl243 := Nat.le_trans rl150 hn231
       have le244 := Nat.le_trans le151 hn231
       have hJok245 : SlOk encForm 1 (fun hp nx y => RFormOk hp nx y) hp229 (nx230) J233 := ⟨hG235.ok (formFlat _) (by rw [hl234]; have := partsF_len (f := .step y25) ((hy91.mono hE236 le244).un); omega), fun x hx => partsF_ok (f := .step y25) ((hy91.mono hE236 le244).un) x (hl234 ▸ hx)⟩
       refine WO.cons (WC.gmet (x := .bool false) (g := opd (.tmp 73)) rfl (by kernel_rfl) rfl (WC.val 77 (.int .i64 (d)) (fun _ _ _ => by kernel_rfl) ?_))
       refine WO.cons (WC.gmet (x := .bool false) (g := opd (.tmp 73)) rfl (by kernel_rfl) rfl (WC.val 78 (.int .i64 (wrapE .i64 ((d) + (1)))) (fun _ _ _ => by kernel_rfl) ?_))
       refine WO.cons (WC.gmet (x := .bool false) (g := opd (.tmp 73)) rfl (by kernel_rfl) rfl (WC.call 79 90 ([.pointer (some ⟨bc, 0, none⟩), J233.v, .int .i64 (wrapE .i64 ((d) + (1)))]) (fun _ _ _ => by kernel_rfl) ((ih _ (hk _ (List.mem_of_getElem? hx24)) J233 bc (wrapE .i64 ((za) + (1))) (zb) (wrapE .i64 ((d) + (1))) hp229 (nx230) hb237 lt238 ⟨((hG235.above (fun q hq => Tr.get_other _ _ (by omega))).ok (formFlat _) (by rw [hl234]; have := partsF_len (f := .step y25) hy91; omega)), fun x hx => (partsF_ok (f := .step y25) hy91 x (hl234 ▸ hx)).mono hE236 le244⟩ (fun g hg => partsF_lt (hl234 ▸ hg))).mono ?_)))
       rintro _ hp248 nx249 ⟨⟨c252, rfl⟩, ⟨na253, nb254, hb255⟩, hn250, he251⟩
       have hE256 := hE236.trans he251 le244
       have le257 := Nat.le_trans le244 hn250
       have p258 : c252 = true ↔ (c252 = true) := Iff.rfl
       have rl260 := Nat.le_trans rl243 hn250
       obtain ⟨c261, e261, p261⟩ := @nb (!c252) (¬ (c252 = true)) (by rw [Bool.not_eq_true', ← Bool.not_eq_true, p258])
       refine WO.cons (WC.gmet (x := .bool false) (g := opd (.tmp 73)) rfl (by kernel_rfl) rfl (WC.val 80 (.bool c261) (fun _ _ _ => by subst e261; kernel_rfl) ?_))
       refine ov 81 (.bool c261) ?_
       refine WO.nil ?_
       refine WP.cond c261 (by kernel_rfl) (fun h262 => ?_) (fun h262 => ?_)
       ·
        have q263 := (p261).1 h262
        refine sr ?_
        refine ov 6 (.bool false) ?_
        refine WO.nil ?_
        refine WP.ret ⟨rfl, rfl, [.bool false], by kernel_rfl, ?_⟩
        exact ⟨⟨_, rfl⟩, ⟨_, _, hb255⟩, le257, hE256⟩
       ·
        have q263 := nq p261 h262
        refine WP.skip ?_
        refine WP.region ?_
        refine ov 82 (.int .i64 (.ofNat (iL9 + 1))) ?_ (fun _ _ _ => by rw [← wrapAdd (show iL9 + 1 < 9223372036854775808 by omega)]; kernel_rfl)
        refine ov 21 (.int .i64 (.ofNat (iL9 + 1))) ?_
        refine WO.nil ?_
        refine ⟨l.l.length - (iL9 + 1), by omega, iL9 + 1, na253, nb254, by omega, by kernel_rfl, by kernel_rfl, by kernel_rfl, by kernel_rfl, by kernel_rfl, rfl, rfl, ?_, ?_, ?_⟩
        · exact rl260
        · exact hE256
        · exact hb255
   ·
    have q21 := nq p19 h20
    refine WP.exit ?_
    refine sr ?_
    refine ov 6 (.bool true) ?_
    refine WO.nil ?_
    refine WP.ret ⟨rfl, rfl, [.bool true], by kernel_rfl, ?_⟩
    exact ⟨⟨_, rfl⟩, ⟨_, _, mb16⟩, le18, he15⟩
  ·
   exact ⟨0, a, b, by omega, by kernel_rfl, by kernel_rfl, by kernel_rfl, by kernel_rfl, by kernel_rfl, rfl, rfl, Nat.le_refl _, hE, hb⟩
theorem cw_wf (l : SV RForm) (bc : Nat) (a b d : Int) (hp : Ht) (nx : Nat) (hb : hp.get bc = some (.cells [.int .i64 a, .int .i64 b] CMeta.plain)) (hlt : bc < nx) (hl : SlOk encForm 1 (fun hp nx y => RFormOk hp nx y) (hp.set bc none) nx l) : WF ex 90 [.pointer (some ⟨bc, 0, none⟩), l.v, .int .i64 d] hp nx (fun v hp' nx' => (∃ c : Bool, v = .bool c) ∧ (∃ a b : Int, hp'.get bc = some (.cells [.int .i64 a, .int .i64 b] CMeta.plain)) ∧ nx ≤ nx' ∧ HE nx (hp.set bc none) (hp'.set bc none)) := by
 have h : ∀ (k : Nat), ∀ (l : SV RForm) (bc : Nat) (a b d : Int) (hp : Ht) (nx : Nat), hp.get bc = some (.cells [.int .i64 a, .int .i64 b] CMeta.plain) → bc < nx → SlOk encForm 1 (fun hp nx y => RFormOk hp nx y) (hp.set bc none) nx l → (∀ f ∈ l.l, fsz f < k) → WF ex 90 [.pointer (some ⟨bc, 0, none⟩), l.v, .int .i64 d] hp nx (fun v hp' nx' => (∃ c : Bool, v = .bool c) ∧ (∃ a b : Int, hp'.get bc = some (.cells [.int .i64 a, .int .i64 b] CMeta.plain)) ∧ nx ≤ nx' ∧ HE nx (hp.set bc none) (hp'.set bc none)) := by
  intro k
  induction k using Nat.strongRecOn with
  | _ k ih => intro l bc a b d hp nx hb hlt hl hk; exact cw_step k ih l bc a b d hp nx hb hlt hl hk
 have hbd : ∀ (l : List RForm), ∃ k, ∀ f ∈ l, fsz f < k := by
  intro l
  induction l with
  | nil => exact ⟨0, fun _ h => by cases h⟩
  | cons x l ih =>
   obtain ⟨k, hk⟩ := ih
   refine ⟨max k (fsz x + 1), fun f hf => ?_⟩
   rcases List.mem_cons.1 hf with rfl | hf
   · omega
   · have := hk f hf; omega
 obtain ⟨k, hk⟩ := hbd l.l
 exact h k l bc a b d hp nx hb hlt hl hk
theorem check_wf (l : SV RForm) (hp : Ht) (nx : Nat) (hl : SlOk encForm 1 (fun hp nx y => RFormOk hp nx y) hp nx l) : WF ex 44 [l.v] hp nx (Stays nx hp (IntImp (∀ x ∈ l.l, VForm x))) := by
 obtain ⟨a1, c2, hv3⟩ := hl.1.shape
 have hsm3 := hl.1.2.2
 rw [hv3]
 refine WF.body (fi := ⟨Tryz.f44.body.getD .skip, 17, [.tmp 2]⟩) (by kernel_rfl) (by kernel_rfl) (by kernel_rfl) rfl ?_
 have hE := HE.refl nx hp
 refine sr ?_
 refine ov 2 (.int .i64 (0)) ?_
 refine WO.nil ?_
 refine sr ?_
 refine ov 4 (.agg ⟨[.int .i64 (0), .int .i64 (0)]⟩) ?_
 refine WO.cons (WC.box (.agg ⟨[.int .i64 (0), .int .i64 (0)]⟩) [.int .i64 (0), .int .i64 (0)] rfl (by kernel_rfl) rfl ?_)
 obtain ⟨hp5, hx6, he7, hb8⟩ := boxed hp (nx) [.int .i64 (0), .int .i64 (0)]
 rw [hx6]; clear hx6
 have hE9 := hE.trans he7 (Nat.le_refl nx)
 have le10 := Nat.le_trans (Nat.le_refl nx) (Nat.le_succ (nx))
 refine ov 3 (.pointer (some ⟨nx, 0, none⟩)) ?_
 refine WO.nil ?_
 refine WP.seq ?_
 refine sr ?_
 refine ov 6 (.pointer (some ⟨nx, 0, none⟩)) ?_
 refine ov 7 (.slice a1 (l.l.length) c2) ?_
 refine WO.cons (WC.call 8 90 ([.pointer (some ⟨nx, 0, none⟩), l.v, .int .i64 (0)]) (fun _ _ _ => by (try rw [hv3]); kernel_rfl) ((cw_wf l (nx) (0) (0) (0) hp5 (nx + 1) hb8 (Nat.lt_succ_self (nx)) (hl.mono (fun _ h he hn => h.mono he hn) (hE9.trans (HE.set _ _ (show nx ≤ nx by omega)) (Nat.le_refl nx)) le10)).mono ?_))
 rintro _ hp11 nx12 ⟨⟨c15, rfl⟩, ⟨na16, nb17, hb18⟩, hn13, he14⟩
 have hE19 := hE9.trans (show HE nx _ _ from fun q hq => he14.erG (by omega) (by omega)) (Nat.le_refl nx)
 have le20 := Nat.le_trans le10 hn13
 have p21 : c15 = true ↔ (c15 = true) := Iff.rfl
 obtain ⟨c22, e22, p22⟩ := @nb (!c15) (¬ (c15 = true)) (by rw [Bool.not_eq_true', ← Bool.not_eq_true, p21])
 refine ov 9 (.bool c22) ?_ (fun _ _ _ => by subst e22; kernel_rfl)
 refine WO.nil ?_
 refine WP.cond c22 (by kernel_rfl) (fun h23 => ?_) (fun h23 => ?_)
 ·
  have q24 := (p22).1 h23
  refine sr ?_
  refine ov 2 (.int .i64 (2)) ?_
  refine WO.nil ?_
  refine WP.ret ⟨rfl, rfl, [.int .i64 (2)], by kernel_rfl, ?_⟩
  exact ⟨⟨2, rfl, fun h => absurd h (by decide)⟩, le20, hE19⟩
 ·
  have q24 := nq p22 h23
  refine WP.skip ?_
  refine WP.seq ?_
  refine sr ?_
  refine ov 10 (.slice a1 (l.l.length) c2) ?_
  refine ov 11 (.int .i64 (.ofNat (l.l.length))) ?_
  obtain ⟨c25, e25, p25⟩ := @nb (eqI (.ofNat (l.l.length)) (0)) (((l.l.length : Nat) : Int) = (0)) (eqI_iff)
  refine ov 12 (.bool c25) ?_ (fun _ _ _ => by subst e25; kernel_rfl)
  refine ov 13 (.bool c25) ?_
  refine og 13 (!c25) (.slice a1 (l.l.length) c2) (.bool c25) (by cases c25 <;> rfl) (fun h => by obtain rfl := bF h; exact fun _ _ _ => by kernel_rfl) ?_
  refine WO.cons (WC.gq (!c25) (GB (!c25) (∃ x ∈ l.l, (fun x => ¬ VForm x) x) (nx12) hp11) (.bool c25) (g := opd (.tmp 13)) rfl (by kernel_rfl) (by cases c25 <;> rfl) (fun h => by obtain rfl : c25 = false := (by simpa using h); have q0 : ¬ (((l.l.length : Nat) : Int) = (0)) := (fun k => absurd ((p25).2 k) (by decide)); exact WC.call 15 91 ([l.v, .func (.func 92) #[] #[]]) (fun _ _ _ => by (try rw [hv3]); kernel_rfl) ((containsFunc_form (A := fun x => ¬ VForm x) l 92 #[] hp11 (nx12) (hl.mono (fun _ h => h.mono) hE19 le20) (fun i x hx hp' nx' hn he => invalid_wf x hp' nx' (((hl.mono (fun _ h => h.mono) hE19 le20).2 x (List.mem_of_getElem? hx)).mono he hn) (valid_wf x hp' nx' (((hl.mono (fun _ h => h.mono) hE19 le20).2 x (List.mem_of_getElem? hx)).mono he hn)))).mono fun v hp' nx' ⟨⟨c, hv, hc⟩, hn, he⟩ => ⟨_, _, _, rfl, ⟨c, hv, hc⟩, hn, he⟩)) (fun h => GB.off h) ?_)
  rintro _ hp26 nx27 ⟨⟨c30, rfl, p30⟩, hn28, he29⟩
  have hE31 := hE19.trans he29 le20
  have le32 := Nat.le_trans le20 hn28
  obtain ⟨c33, e33, p33⟩ := @nb ((c25 || c30)) ((((l.l.length : Nat) : Int) = (0)) ∨ (∃ x ∈ l.l, (fun x => ¬ VForm x) x)) (by rw [Bool.or_eq_true, p25, p30])
  refine WO.cons (WC.opt (v := .bool c33) 16 (ePick (.bool c25) (.bool true) ((bif !c25 then .bool c30 else undef))) (fun _ _ _ => by kernel_rfl) (by rw [e33]; exact ePick_or (fun h => by obtain rfl : c25 = false := h; rfl)) ?_)
  refine WO.nil ?_
  refine WP.cond c33 (by kernel_rfl) (fun h34 => ?_) (fun h34 => ?_)
  ·
   have q35 := (p33).1 h34
   refine sr ?_
   refine ov 2 (.int .i64 (71)) ?_
   refine WO.nil ?_
   refine WP.ret ⟨rfl, rfl, [.int .i64 (71)], by kernel_rfl, ?_⟩
   exact ⟨⟨71, rfl, fun h => absurd h (by decide)⟩, le32, hE31⟩
  ·
   have q35 := nq p33 h34
   refine WP.skip ?_
   refine sr ?_
   refine ov 2 (.int .i64 (0)) ?_
   refine WO.nil ?_
   refine WP.ret ⟨rfl, rfl, [.int .i64 (0)], by kernel_rfl, ?_⟩
   exact ⟨⟨0, rfl, fun _ => nex.1 (fun h => q35 (.inr h))⟩, le32, hE31⟩
theorem ties_wf (l : SV RStep) (hp : Ht) (nx : Nat) (hl : SlOk encStep 8 (fun hp nx y => RStepOk hp nx y) hp nx l) (hlen : l.l.length ≤ 2932031007403) : WF ex 19 [l.v] hp nx (Stays nx hp (IntImp (∀ s ∈ l.l, VStep s))) := by
 obtain ⟨a1, c2, hv3⟩ := hl.1.shape
 have hsm3 := hl.1.2.2
 rw [hv3]
 refine WF.body (fi := ⟨Tryz.f19.body.getD .skip, 6, [.tmp 2]⟩) (by kernel_rfl) (by kernel_rfl) (by kernel_rfl) rfl ?_
 have hE := HE.refl nx hp
 refine sr ?_
 refine ov 2 (.int .i64 (0)) ?_
 refine WO.nil ?_
 refine sr ?_
 refine ov 3 (.slice a1 (l.l.length) c2) ?_
 refine WO.cons (WC.call 4 45 ([l.v]) (fun _ _ _ => by (try rw [hv3]); kernel_rfl) ((steps_wf l hp (nx) (hl.mono (fun _ h => h.mono) hE (Nat.le_refl nx)) hlen).mono ?_))
 rintro _ hp4 nx5 ⟨J, rfl, hJl, hJG, hn6, he7⟩
 have hE8 := hE.trans he7 (Nat.le_refl nx)
 have le9 := Nat.le_trans (Nat.le_refl nx) hn6
 have hJok : SlOk encForm 1 (fun hp nx y => RFormOk hp nx y) hp4 (nx5) J := ⟨hJG.ok (formFlat _) (by rw [hJl, List.length_map]; omega), fun x hx => by
  rw [hJl] at hx; obtain ⟨y, hy, rfl⟩ := List.mem_map.1 hx
  exact (hl.2 y hy).mono hE8 le9⟩
 refine WO.cons (WC.call 5 44 ([J.v]) (fun _ _ _ => by kernel_rfl) ((check_wf J hp4 (nx5) hJok).mono ?_))
 rintro _ hp12 nx13 ⟨⟨z16, rfl, hz17⟩, hn14, he15⟩
 have hE18 := hE8.trans he15 le9
 have le21 := Nat.le_trans le9 hn14
 refine ov 2 (.int .i64 (z16)) ?_
 refine WO.nil ?_
 refine WP.ret ⟨rfl, rfl, [.int .i64 (z16)], by kernel_rfl, ?_⟩
 exact ⟨⟨_, rfl, fun h s hs => hz17 h (.step s) (by rw [hJl]; exact List.mem_map.2 ⟨s, hs, rfl⟩)⟩, le21, hE18⟩
end
end Sw

namespace Sw
noncomputable section
open Go Go.Proofs Go.RowKit
set_option maxRecDepth 100000
set_option maxHeartbeats 1600000
theorem VCond.parts {c : RCond} (h : VCond c) : ∀ x ∈ c.fParts.l, VCond x := by
  cases h with
  | leaf k v n p => intro x hx; rw [p] at hx; cases hx
  | neg k v n p h => exact h
  | many k v n p h => exact h
theorem T_agg148 : ex.T.agg 148 = some false := by kernel_rfl
theorem T_agg26 : ex.T.agg 26 = some true := by kernel_rfl
theorem T_size148 : ex.T.size 148 = some 1 := by kernel_rfl
theorem T_size26 : ex.T.size 26 = some 3 := by kernel_rfl
theorem T_zero148 : ex.T.zero 148 = some (.nilFunc) := by kernel_rfl
theorem value_wf (n : Int) (e : REnv) (hp : Ht) (nx : Nat) : WF ex 48 [.int .i64 (n), .agg (encEnv e).toArray] hp nx (Stays nx hp AnyI) := by
 refine WF.body (fi := ⟨Tryz.f48.body.getD .skip, 16, [.tmp 4]⟩) (by kernel_rfl) (by kernel_rfl) (by kernel_rfl) rfl ?_
 have hE := HE.refl nx hp
 refine sr ?_
 refine WO.cons (WC.box (.agg (encEnv e).toArray) (encEnv e) rfl (by kernel_rfl) rfl ?_)
 obtain ⟨hp2, hx3, he4, hb5⟩ := boxed hp (nx) (encEnv e)
 rw [hx3]; clear hx3
 have hE6 := hE.trans he4 (Nat.le_refl nx)
 have le7 := Nat.le_trans (Nat.le_refl nx) (Nat.le_succ (nx))
 refine ov 4 (.int .i64 (0)) ?_
 refine WO.nil ?_
 refine WP.seq ?_
 refine sr ?_
 refine ov 5 (.int .i64 (n)) ?_
 refine WO.nil ?_
 refine WP.block ?_
 refine sr ?_
 obtain ⟨c8, e8, p8⟩ := @nb (eqI (n) (1)) ((n) = (1)) (eqI_iff)
 refine ov 7 (.bool c8) ?_ (fun _ _ _ => by subst e8; kernel_rfl)
 refine ov 6 (.bool c8) ?_
 refine WO.nil ?_
 refine WP.cond c8 (by kernel_rfl) (fun h9 => ?_) (fun h9 => ?_)
 ·
  have q10 := (p8).1 h9
  refine sr ?_
  refine ov 8 (.pointer (some ⟨nx, 0 + 0, none⟩)) ?_
  refine WO.cons (WC.load1 nx (0 + 0) (.int .i64 (e.fDistance)) (by kernel_rfl) T_agg3 hb5 rfl ?_)
  refine ov 4 (.int .i64 (e.fDistance)) ?_
  refine WO.nil ?_
  refine WP.ret ⟨rfl, rfl, [.int .i64 (e.fDistance)], by kernel_rfl, ?_⟩
  exact ⟨⟨_, rfl⟩, le7, hE6⟩
 ·
  have q10 := nq p8 h9
  refine sr ?_
  obtain ⟨c11, e11, p11⟩ := @nb (eqI (n) (2)) ((n) = (2)) (eqI_iff)
  refine ov 11 (.bool c11) ?_ (fun _ _ _ => by subst e11; kernel_rfl)
  refine ov 10 (.bool c11) ?_
  refine WO.nil ?_
  refine WP.cond c11 (by kernel_rfl) (fun h12 => ?_) (fun h12 => ?_)
  ·
   have q13 := (p11).1 h12
   refine sr ?_
   refine ov 12 (.pointer (some ⟨nx, 0 + 1, none⟩)) ?_
   refine WO.cons (WC.load1 nx (0 + 1) (.int .i64 (e.fField)) (by kernel_rfl) T_agg3 hb5 rfl ?_)
   refine ov 4 (.int .i64 (e.fField)) ?_
   refine WO.nil ?_
   refine WP.ret ⟨rfl, rfl, [.int .i64 (e.fField)], by kernel_rfl, ?_⟩
   exact ⟨⟨_, rfl⟩, le7, hE6⟩
  ·
   have q13 := nq p11 h12
   refine WP.skip ?_
   refine sr ?_
   refine ov 14 (.pointer (some ⟨nx, 0 + 2, none⟩)) ?_
   refine WO.cons (WC.load1 nx (0 + 2) (.int .i64 (e.fShort)) (by kernel_rfl) T_agg3 hb5 rfl ?_)
   refine ov 4 (.int .i64 (e.fShort)) ?_
   refine WO.nil ?_
   refine WP.ret ⟨rfl, rfl, [.int .i64 (e.fShort)], by kernel_rfl, ?_⟩
   exact ⟨⟨_, rfl⟩, le7, hE6⟩
theorem indexAny_cond (K : SV RCond) (f : FuncId) (b : Array Value) (hp : Ht) (nx : Nat) (hK : SlOk encCond 4 (fun hp nx y => RCondOk hp nx y) hp nx K) (hf : ∀ (i : Nat) (x : RCond), K.l[i]? = some x → ∀ (hp' : Ht) (nx' : Nat), nx ≤ nx' → HE nx hp hp' → WF ex f ((.agg (encCond x).toArray) :: b.toList) hp' nx' (Stays nx' hp' AnyB)) : WF ex 94 [K.v, .func (.func f) #[] b] hp nx (Stays nx hp AnyI) := by
 obtain ⟨a1, c2, hv3⟩ := hK.1.shape
 have hsm3 := hK.1.2.2
 rw [hv3]
 refine WF.body (fi := ⟨Tryz.f94.body.getD .skip, 19, [.tmp 4]⟩) (by kernel_rfl) (by kernel_rfl) (by kernel_rfl) rfl ?_
 have hE := HE.refl nx hp
 refine sr ?_
 refine ov 4 (.int .i64 (0)) ?_
 refine WO.nil ?_
 refine WP.seq ?_
 refine sr ?_
 refine ov 6 (.slice a1 (K.l.length) c2) ?_
 refine ov 7 (.int .i64 (.ofNat (K.l.length))) ?_
 refine ov 8 (.int .i64 (0)) ?_
 refine WO.nil ?_
 refine WP.block ?_
 have hj5 : ∀ t : Tm, ((((t.set 0 (t.get 0)).set 1 (t.get 1)).set 7 (t.get 7)).set 8 (t.get 8)) = t := fun t => by kernel_rfl
 refine WP.loop (fun m s => ∃ (iL4 : Nat), iL4 + m = K.l.length ∧ s.to.get 0 = .slice a1 (K.l.length) c2 ∧ s.to.get 1 = .func (.func f) #[] b ∧ s.to.get 7 = .int .i64 (.ofNat (K.l.length)) ∧ s.to.get 8 = .int .i64 (.ofNat iL4) ∧ s.ds = [] ∧ s.cs = [] ∧ nx ≤ s.nx ∧ HE (nx) hp s.hp) ?_ (K.l.length) ?_
 ·
  rintro mL4 ⟨toL4, dsL4, hp6, nx7, csL4⟩ ⟨iL4, him8, gL4_0, gL4_1, gL4_7, gL4_8, hdsL4, hcsL4, hn9, he10⟩
  simp only at gL4_0 gL4_1 gL4_7 gL4_8 hdsL4 hcsL4 hn9 he10
  subst hdsL4 hcsL4
  rw [← hj5 toL4, gL4_0, gL4_1, gL4_7, gL4_8]
  clear gL4_0 gL4_1 gL4_7 gL4_8
  have hE11 := hE.trans he10 (Nat.le_refl nx)
  have le12 := Nat.le_trans (Nat.le_refl nx) hn9
  refine sr ?_
  obtain ⟨c13, e13, p13⟩ := @nb (ltI (.ofNat iL4) (.ofNat (K.l.length))) (((iL4 : Nat) : Int) < ((K.l.length : Nat) : Int)) (ltI_iff)
  refine ov 9 (.bool c13) ?_ (fun _ _ _ => by subst e13; kernel_rfl)
  refine WO.nil ?_
  refine WP.seq ?_
  refine WP.cond c13 (by kernel_rfl) (fun h14 => ?_) (fun h14 => ?_)
  ·
   have q15 := (p13).1 h14
   refine WP.skip ?_
   refine WP.seq ?_
   refine WP.block ?_
   refine sr ?_
   refine ov 10 (.int .i64 (.ofNat iL4)) ?_
   refine ov 5 (.int .i64 (.ofNat iL4)) ?_
   refine WO.nil ?_
   refine sr ?_
   refine ov 11 (.func (.func f) #[] b) ?_
   refine ov 12 (.slice a1 (K.l.length) c2) ?_
   refine ov 13 (.int .i64 (.ofNat iL4)) ?_
   have hlt16 : iL4 < K.l.length := by omega
   refine WO.cons (WC.ix (k := .i64) a1 (K.l.length) c2 (iL4) 4 (by kernel_rfl) (by kernel_rfl) T_und102 T_size104 ((hK.1.mono hE11 le12).blkA hv3 (zl hlt16)) (hlt16) ?_)
   obtain ⟨x17, hx18⟩ : ∃ el_, K.l[iL4]? = some el_ := ⟨_, List.getElem?_eq_getElem (hlt16)⟩
   refine WO.cons (WC.loadSE (blk a1) (0 + (iL4) * 4) (encCond x17) (by kernel_rfl) T_agg104 T_size104 ((hK.1.mono hE11 le12).blkB hv3 (zl hlt16)) (flat_at0 (hK.1.mono hE11 le12).1 hx18) ?_)
   refine WO.cons (WC.call 16 f ((.agg (encCond x17).toArray) :: b.toList) (fun _ _ _ => by kernel_rfl) ((hf iL4 x17 hx18 hp6 (nx7) le12 hE11).mono ?_))
   rintro _ hp19 nx20 ⟨⟨c23, rfl, p23i⟩, hn21, he22⟩
   have p23 : c23 = true ↔ (c23 = true) := Iff.rfl
   have hE24 := hE11.trans he22 le12
   have hr25 := he10.trans he22 hn9
   have rl26 := Nat.le_trans hn9 hn21
   have le27 := Nat.le_trans le12 hn21
   refine WO.nil ?_
   refine WP.cond c23 (by kernel_rfl) (fun h28 => ?_) (fun h28 => ?_)
   ·
    have q29 := (p23).1 h28
    refine sr ?_
    refine ov 17 (.int .i64 (.ofNat iL4)) ?_
    refine ov 4 (.int .i64 (.ofNat iL4)) ?_
    refine WO.nil ?_
    refine WP.ret ⟨rfl, rfl, [.int .i64 (.ofNat iL4)], by kernel_rfl, ?_⟩
    exact ⟨⟨_, rfl⟩, le27, hE24⟩
   ·
    have q29 : ¬ (c23 = true) := fun k => by rw [(p23).2 k] at h28; cases h28
    refine WP.skip ?_
    refine WP.region ?_
    refine ov 18 (.int .i64 (.ofNat (iL4 + 1))) ?_ (fun _ _ _ => by rw [← wrapAdd (show iL4 + 1 < 9223372036854775808 by omega)]; kernel_rfl)
    refine ov 8 (.int .i64 (.ofNat (iL4 + 1))) ?_
    refine WO.nil ?_
    refine ⟨K.l.length - (iL4 + 1), by omega, iL4 + 1, by omega, by kernel_rfl, by kernel_rfl, by kernel_rfl, by kernel_rfl, rfl, rfl, ?_, ?_⟩
    · exact rl26
    · exact hr25
  ·
   have q15 := nq p13 h14
   refine WP.exit ?_
   refine sr ?_
   refine ov 4 (.int .i64 (-1)) ?_
   refine WO.nil ?_
   refine WP.ret ⟨rfl, rfl, [.int .i64 (-1)], by kernel_rfl, ?_⟩
   exact ⟨⟨_, rfl⟩, le12, hE11⟩
 ·
  exact ⟨0, by omega, by kernel_rfl, by kernel_rfl, by kernel_rfl, by kernel_rfl, rfl, rfl, Nat.le_refl _, HE.refl _ _⟩
theorem containsAny_cond (K : SV RCond) (f : FuncId) (b : Array Value) (hp : Ht) (nx : Nat) (hK : SlOk encCond 4 (fun hp nx y => RCondOk hp nx y) hp nx K) (hf : ∀ (i : Nat) (x : RCond), K.l[i]? = some x → ∀ (hp' : Ht) (nx' : Nat), nx ≤ nx' → HE nx hp hp' → WF ex f ((.agg (encCond x).toArray) :: b.toList) hp' nx' (Stays nx' hp' AnyB)) : WF ex 49 [K.v, .func (.func f) #[] b] hp nx (Stays nx hp AnyB) := by
 obtain ⟨a1, c2, hv3⟩ := hK.1.shape
 have hsm3 := hK.1.2.2
 rw [hv3]
 refine WF.body (fi := ⟨Tryz.f49.body.getD .skip, 9, [.tmp 4]⟩) (by kernel_rfl) (by kernel_rfl) (by kernel_rfl) rfl ?_
 have hE := HE.refl nx hp
 refine sr ?_
 refine ov 4 (.bool false) ?_
 refine WO.nil ?_
 refine sr ?_
 refine ov 5 (.slice a1 (K.l.length) c2) ?_
 refine ov 6 (.func (.func f) #[] b) ?_
 refine WO.cons (WC.call 7 94 ([K.v, .func (.func f) #[] b]) (fun _ _ _ => by (try rw [hv3]); kernel_rfl) ((indexAny_cond K f b hp (nx) hK hf).mono ?_))
 rintro _ hp4 nx5 ⟨⟨z8, rfl⟩, hn6, he7⟩
 have hE9 := hE.trans he7 (Nat.le_refl nx)
 have le10 := Nat.le_trans (Nat.le_refl nx) hn6
 obtain ⟨c11, e11, p11⟩ := @nb (leI (0) (z8)) ((0) ≤ (z8)) (leI_iff)
 refine ov 8 (.bool c11) ?_ (fun _ _ _ => by subst e11; kernel_rfl)
 refine ov 4 (.bool c11) ?_
 refine WO.nil ?_
 refine WP.ret ⟨rfl, rfl, [.bool c11], by kernel_rfl, ?_⟩
 exact ⟨⟨_, rfl, fun _ => trivial⟩, le10, hE9⟩
theorem ask_wf (c : RCond) (e : REnv) (bE : Nat) (hp : Ht) (nx : Nat) (hbE : hp.get bE = some (.cells (encEnv e) CMeta.plain)) (hlE : bE < nx) (hc : RCondOk hp nx c) (hh : ∀ (hp' : Ht) (nx' : Nat), nx ≤ nx' → HE nx hp hp' → WF ex 22 [.agg (encCond c).toArray, .agg (encEnv e).toArray] hp' nx' (Stays nx' hp' AnyB)) : WF ex 47 [.agg (encCond c).toArray, .pointer (some ⟨bE, 0, none⟩)] hp nx (Stays nx hp AnyB) := by
 refine WF.body (fi := ⟨Tryz.f47.body.getD .skip, 7, [.tmp 3]⟩) (by kernel_rfl) (by kernel_rfl) (by kernel_rfl) rfl ?_
 have hE := HE.refl nx hp
 refine sr ?_
 refine WO.cons (WC.box (.agg (encCond c).toArray) (encCond c) rfl (by kernel_rfl) rfl ?_)
 obtain ⟨hp2, hx3, he4, hb5⟩ := boxed hp (nx) (encCond c)
 rw [hx3]; clear hx3
 have hE6 := hE.trans he4 (Nat.le_refl nx)
 have hb7 := he4.get hbE hlE
 have le9 := Nat.le_trans (Nat.le_refl nx) (Nat.le_succ (nx))
 refine ov 3 (.bool false) ?_
 refine WO.nil ?_
 refine sr ?_
 refine WO.cons (WC.loadS nx (0) (encCond c) (by kernel_rfl) T_agg104 T_size104 hb5 rfl ?_)
 refine WO.cons (WC.loadS bE (0) (encEnv e) (by kernel_rfl) T_agg26 T_size26 hb7 rfl ?_)
 refine WO.cons (WC.call 6 22 ([.agg (encCond c).toArray, .agg (encEnv e).toArray]) (fun _ _ _ => by kernel_rfl) ((hh hp2 (nx + 1) le9 hE6).mono ?_))
 rintro _ hp10 nx11 ⟨⟨c14, rfl, p14i⟩, hn12, he13⟩
 have p14 : c14 = true ↔ (c14 = true) := Iff.rfl
 have hE15 := hE6.trans he13 le9
 have le20 := Nat.le_trans le9 hn12
 refine ov 3 (.bool c14) ?_
 refine WO.nil ?_
 refine WP.ret ⟨rfl, rfl, [.bool c14], by kernel_rfl, ?_⟩
 exact ⟨⟨_, rfl, fun _ => trivial⟩, le20, hE15⟩
theorem ask2_wf (c : RCond) (e : REnv) (bE bF : Nat) (hp : Ht) (nx : Nat) (hbE : hp.get bE = some (.cells (encEnv e) CMeta.plain)) (hlE : bE < nx) (hbF : hp.get bF = some (.cells [.func (.func 47) #[] #[.pointer (some ⟨bE, 0, none⟩)]] CMeta.plain)) (hlF : bF < nx) (hc : RCondOk hp nx c) (hh : ∀ (hp' : Ht) (nx' : Nat), nx ≤ nx' → HE nx hp hp' → WF ex 22 [.agg (encCond c).toArray, .agg (encEnv e).toArray] hp' nx' (Stays nx' hp' AnyB)) : WF ex 50 [.agg (encCond c).toArray, .pointer (some ⟨bF, 0, none⟩)] hp nx (Stays nx hp AnyB) := by
 refine WF.body (fi := ⟨Tryz.f50.body.getD .skip, 8, [.tmp 3]⟩) (by kernel_rfl) (by kernel_rfl) (by kernel_rfl) rfl ?_
 have hE := HE.refl nx hp
 refine sr ?_
 refine WO.cons (WC.box (.agg (encCond c).toArray) (encCond c) rfl (by kernel_rfl) rfl ?_)
 obtain ⟨hp2, hx3, he4, hb5⟩ := boxed hp (nx) (encCond c)
 rw [hx3]; clear hx3
 have hE6 := hE.trans he4 (Nat.le_refl nx)
 have hb7 := he4.get hbE hlE
 have lt8 := Nat.lt_of_lt_of_le hlE (Nat.le_succ (nx))
 have hb9 := he4.get hbF hlF
 have le11 := Nat.le_trans (Nat.le_refl nx) (Nat.le_succ (nx))
 refine ov 3 (.bool false) ?_
 refine WO.nil ?_
 refine sr ?_
 refine WO.cons (WC.load1 bF (0) (.func (.func 47) #[] #[.pointer (some ⟨bE, 0, none⟩)]) (by kernel_rfl) T_agg148 hb9 rfl ?_)
 refine WO.cons (WC.loadS nx (0) (encCond c) (by kernel_rfl) T_agg104 T_size104 hb5 rfl ?_)
 refine WO.cons (WC.call 6 47 ([.agg (encCond c).toArray, .pointer (some ⟨bE, 0, none⟩)]) (fun _ _ _ => by kernel_rfl) ((ask_wf c e bE hp2 (nx + 1) hb7 lt8 (hc.mono hE6 le11) (fun hp' nx' hn he => hh hp' nx' (Nat.le_trans le11 hn) (hE6.trans he le11))).mono ?_))
 rintro _ hp12 nx13 ⟨⟨c16, rfl, p16i⟩, hn14, he15⟩
 have p16 : c16 = true ↔ (c16 = true) := Iff.rfl
 have hE17 := hE6.trans he15 le11
 have le24 := Nat.le_trans le11 hn14
 obtain ⟨c25, e25, p25⟩ := @nb (!c16) (¬ (c16 = true)) (by rw [Bool.not_eq_true', ← Bool.not_eq_true, p16])
 refine ov 7 (.bool c25) ?_ (fun _ _ _ => by subst e25; kernel_rfl)
 refine ov 3 (.bool c25) ?_
 refine WO.nil ?_
 refine WP.ret ⟨rfl, rfl, [.bool c25], by kernel_rfl, ?_⟩
 exact ⟨⟨_, rfl, fun _ => trivial⟩, le24, hE17⟩
theorem holds_step (k : Nat) (ih : ∀ (c : RCond) (e : REnv) (hp' : Ht) (nx' : Nat), sizeOf c < k → RCondOk hp' nx' c → VCond c → WF ex 22 [.agg (encCond c).toArray, .agg (encEnv e).toArray] hp' nx' (Stays nx' hp' AnyB)) (c : RCond) (e : REnv) (hp : Ht) (nx : Nat) (hk : sizeOf c < k + 1) (hc : RCondOk hp nx c) (hv : VCond c) : WF ex 22 [.agg (encCond c).toArray, .agg (encEnv e).toArray] hp nx (Stays nx hp AnyB) := by
 refine WF.body (fi := ⟨Tryz.f22.body.getD .skip, 38, [.tmp 4]⟩) (by kernel_rfl) (by kernel_rfl) (by kernel_rfl) rfl ?_
 have hE := HE.refl nx hp
 refine sr ?_
 refine WO.cons (WC.box (.agg (encCond c).toArray) (encCond c) rfl (by kernel_rfl) rfl ?_)
 obtain ⟨hp2, hx3, he4, hb5⟩ := boxed hp (nx) (encCond c)
 rw [hx3]; clear hx3
 have hE6 := hE.trans he4 (Nat.le_refl nx)
 have le7 := Nat.le_trans (Nat.le_refl nx) (Nat.le_succ (nx))
 refine WO.cons (WC.box (.agg (encEnv e).toArray) (encEnv e) rfl (by kernel_rfl) rfl ?_)
 obtain ⟨hp9, hx10, he11, hb12⟩ := boxed hp2 (nx + 1) (encEnv e)
 rw [hx10]; clear hx10
 have hE13 := hE6.trans he11 le7
 have hb14 := he11.get hb5 (Nat.lt_succ_self (nx))
 have lt15 := Nat.lt_of_lt_of_le (Nat.lt_succ_self (nx)) (Nat.le_succ (nx + 1))
 have le16 := Nat.le_trans le7 (Nat.le_succ (nx + 1))
 refine ov 4 (.bool false) ?_
 refine WO.nil ?_
 refine sr ?_
 refine ov 6 (.func (.func 47) #[] #[.pointer (some ⟨(nx + 1), 0, none⟩)]) ?_
 refine WO.cons (WC.alloc _ [.nilFunc] rfl T_zero148 rfl ?_)
 obtain ⟨hp18, hx19, he20, hb21⟩ := boxed hp9 (nx + 1 + 1) [.nilFunc]
 rw [hx19]; clear hx19
 have hE22 := hE13.trans he20 le16
 have hb23 := he20.get hb14 lt15
 have lt24 := Nat.lt_of_lt_of_le lt15 (Nat.le_succ (nx + 1 + 1))
 have hb25 := he20.get hb12 (Nat.lt_succ_self (nx + 1))
 have lt26 := Nat.lt_of_lt_of_le (Nat.lt_succ_self (nx + 1)) (Nat.le_succ (nx + 1 + 1))
 have le27 := Nat.le_trans le16 (Nat.le_succ (nx + 1 + 1))
 refine WO.cons (WC.store1 (nx + 1 + 1) (0) (.func (.func 47) #[] #[.pointer (some ⟨(nx + 1), 0, none⟩)]) [.nilFunc] [.func (.func 47) #[] #[.pointer (some ⟨(nx + 1), 0, none⟩)]] [.func (.func 47) #[] #[.pointer (some ⟨(nx + 1), 0, none⟩)]] 1 rfl (by kernel_rfl) (by kernel_rfl) T_size148 rfl rfl hb21 rfl rfl rfl ?_)
 obtain ⟨hp28, hx29, he30, hb31, ho32⟩ := stored hp18 (nx + 1 + 1) (.cells [.func (.func 47) #[] #[.pointer (some ⟨(nx + 1), 0, none⟩)]] CMeta.plain)
 rw [hx29]; clear hx29
 have hE33 := hE22.trans he30 (by omega)
 have hb34 := (ho32 nx (by omega)).trans hb23
 have hb35 := (ho32 (nx + 1) (by omega)).trans hb25
 refine WO.nil ?_
 refine WP.seq ?_
 refine sr ?_
 refine ov 7 (.pointer (some ⟨nx, 0 + 0, none⟩)) ?_
 refine WO.cons (WC.load1 nx (0 + 0) (.int .i64 (c.fKind)) (by kernel_rfl) T_agg3 hb34 rfl ?_)
 refine WO.nil ?_
 refine WP.block ?_
 refine sr ?_
 obtain ⟨c36, e36, p36⟩ := @nb (eqI (c.fKind) (1)) ((c.fKind) = (1)) (eqI_iff)
 refine ov 10 (.bool c36) ?_ (fun _ _ _ => by subst e36; kernel_rfl)
 refine ov 9 (.bool c36) ?_
 refine WO.nil ?_
 refine WP.cond c36 (by kernel_rfl) (fun h37 => ?_) (fun h37 => ?_)
 ·
  have q38 := (p36).1 h37
  refine WP.seq ?_
  refine WP.drawS [⟨[0, 1, 2, 4, 5], [0, 1, 2, 4, 5], some 3⟩, ⟨[6], [4, 5, 6], some 7⟩, ⟨[], [], none⟩] (by kernel_rfl) _ rfl ?_
  refine WD.eff ?_
  refine nv 11 (.pointer (some ⟨nx, 0 + 1, none⟩)) ?_
  refine WN.consAt rfl (WC.load1 nx (0 + 1) (.int .i64 (c.fVar)) (by kernel_rfl) T_agg3 hb34 rfl ?_)
  refine WN.consAt rfl (WC.loadS (nx + 1) (0) (encEnv e) (by kernel_rfl) T_agg26 T_size26 hb35 rfl ?_)
  refine nv 15 (.pointer (some ⟨nx, 0 + 2, none⟩)) ?_
  refine WN.consAt rfl (WC.load1 nx (0 + 2) (.int .i64 (c.fN)) (by kernel_rfl) T_agg3 hb34 rfl ?_)
  refine WN.nil ⟨?_, ?_⟩
  ·
   refine cv (.pointer (some ⟨nx, 0 + 1, none⟩)) (vEq_ptr ..) ?_
   refine co (.int .i64 (c.fVar)) (eLoad ex.T hp28.get 3 (.pointer (some ⟨nx, 0 + 1, none⟩))) (eLoad_one T_agg3 hb34 rfl) (vEq_int ..) ?_
   refine co (.agg (encEnv e).toArray) (eLoad ex.T hp28.get 26 (.pointer (some ⟨(nx + 1), 0, none⟩))) (eLoad_agg T_agg26 T_size26 hb35 rfl) (encEnv_vEq e) ?_
   refine cv (.pointer (some ⟨nx, 0 + 2, none⟩)) (vEq_ptr ..) ?_
   refine co (.int .i64 (c.fN)) (eLoad ex.T hp28.get 3 (.pointer (some ⟨nx, 0 + 2, none⟩))) (eLoad_one T_agg3 hb34 rfl) (vEq_int ..) ?_
   exact Chks.nil
  refine WC.at rfl (WC.call 14 48 ([.int .i64 (c.fVar), .agg (encEnv e).toArray]) (fun _ _ _ => by kernel_rfl) ((value_wf (c.fVar) e hp28 (nx + 1 + 1 + 1)).mono ?_))
  rintro _ hp39 nx40 ⟨⟨z43, rfl⟩, hn41, he42⟩
  have hE44 := hE33.trans he42 le27
  have hb45 := he42.get hb34 lt24
  have le51 := Nat.le_trans le27 hn41
  refine WD.eff ?_
  obtain ⟨c52, e52, p52⟩ := @nb (leI (c.fN) (z43)) ((c.fN) ≤ (z43)) (leI_iff)
  refine nv 17 (.bool c52) ?_ (fun _ _ _ => by subst e52; kernel_rfl)
  refine WN.nil ⟨?_, ?_⟩
  ·
   refine cv (.pointer (some ⟨nx, 0 + 2, none⟩)) (vEq_ptr ..) ?_
   refine co (.int .i64 (c.fN)) (eLoad ex.T hp39.get 3 (.pointer (some ⟨nx, 0 + 2, none⟩))) (eLoad_one T_agg3 hb45 rfl) (vEq_int ..) ?_
   refine cv (.bool c52) (vEq_bool 8 c52) ?_ (fun _ => by subst e52; kernel_rfl)
   exact Chks.nil
  refine WC.at rfl (WC.val 4 (.bool c52) (fun _ _ _ => by kernel_rfl) ?_)
  refine WD.last ?_
  refine WN.nil ⟨?_, ?_⟩
  ·
   exact Chks.nil
  refine WP.ret ⟨rfl, rfl, [.bool c52], by kernel_rfl, ?_⟩
  exact ⟨⟨_, rfl, fun _ => trivial⟩, le51, hE44⟩
 ·
  have q38 := nq p36 h37
  refine sr ?_
  obtain ⟨c53, e53, p53⟩ := @nb (eqI (c.fKind) (4)) ((c.fKind) = (4)) (eqI_iff)
  refine ov 19 (.bool c53) ?_ (fun _ _ _ => by subst e53; kernel_rfl)
  refine ov 18 (.bool c53) ?_
  refine WO.nil ?_
  refine WP.cond c53 (by kernel_rfl) (fun h54 => ?_) (fun h54 => ?_)
  ·
   have q55 := (p53).1 h54
   refine WP.seq ?_
   refine WP.drawS [⟨[0, 1, 2, 3, 4], [0, 1, 2, 3, 4], some 5⟩, ⟨[6], [6], some 7⟩, ⟨[], [], none⟩] (by kernel_rfl) _ rfl ?_
   refine WD.eff ?_
   refine WN.consAt rfl (WC.load1 (nx + 1 + 1) (0) (.func (.func 47) #[] #[.pointer (some ⟨(nx + 1), 0, none⟩)]) (by kernel_rfl) T_agg148 hb31 rfl ?_)
   refine nv 21 (.pointer (some ⟨nx, 0 + 3, none⟩)) ?_
   obtain ⟨a56, c57, hv58⟩ := hc.fParts.1.shape
   have hsm58 := hc.fParts.1.2.2
   refine WN.consAt rfl (WC.load1 nx (0 + 3) (.slice a56 (c.fParts.l.length) c57) (by kernel_rfl) T_agg102 hb34 (by rw [← hv58]; rfl) ?_)
   have hlt59 : 0 < c.fParts.l.length := by have := (VCond.iff4 q55).1 hv; omega
   refine WN.consAt rfl (WC.ix (k := .i64) a56 (c.fParts.l.length) c57 (0) 4 (by kernel_rfl) (by kernel_rfl) T_und102 T_size104 ((hc.fParts.1.mono hE33 le27).blkA hv58 (zl hlt59)) (hlt59) ?_)
   obtain ⟨x60, hx61⟩ : ∃ el_, c.fParts.l[0]? = some el_ := ⟨_, List.getElem?_eq_getElem (hlt59)⟩
   refine WN.consAt rfl (WC.loadSE (blk a56) (0 + (0) * 4) (encCond x60) (by kernel_rfl) T_agg104 T_size104 ((hc.fParts.1.mono hE33 le27).blkB hv58 (zl hlt59)) (flat_at0 (hc.fParts.1.mono hE33 le27).1 hx61) ?_)
   refine WN.nil ⟨?_, ?_⟩
   ·
    refine co (.func (.func 47) #[] #[.pointer (some ⟨(nx + 1), 0, none⟩)]) (eLoad ex.T hp28.get 148 (.pointer (some ⟨(nx + 1 + 1), 0, none⟩))) (eLoad_one T_agg148 hb31 rfl) (vEq_fn 7 _ (by intro v hv; simp only [List.mem_cons, List.not_mem_nil, or_false] at hv; subst hv <;> first | exact vEq_ptr .. | exact vEq_int .. | exact vEq_bool ..)) ?_
    refine cv (.pointer (some ⟨nx, 0 + 3, none⟩)) (vEq_ptr ..) ?_
    refine co (.slice a56 (c.fParts.l.length) c57) (eLoad ex.T hp28.get 102 (.pointer (some ⟨nx, 0 + 3, none⟩))) (eLoad_one T_agg102 hb34 (by rw [← hv58]; rfl)) (hv58 ▸ hc.fParts.1.eqSelf 8) ?_
    refine co (.pointer (some ⟨(blk a56), 0 + (0) * 4, none⟩)) (eIndexAddr ex.T 102 (.slice a56 (c.fParts.l.length) c57) (.int .i64 (.ofNat (0)))) (eIndexAddr_A (k := .i64) T_und102 T_size104 ((hc.fParts.1.mono hE33 le27).blkA hv58 (zl hlt59)) (hlt59)) (vEq_ptr ..) ?_
    refine co (.agg (encCond x60).toArray) (eLoad ex.T hp28.get 104 (.pointer (some ⟨(blk a56), 0 + (0) * 4, none⟩))) (eLoad_aggE T_agg104 T_size104 ((hc.fParts.1.mono hE33 le27).blkB hv58 (zl hlt59)) (flat_at0 (hc.fParts.1.mono hE33 le27).1 hx61)) (encCond_vEq x60 (hc.fParts.2 x60 (List.mem_of_getElem? hx61))) ?_
    exact Chks.nil
   refine WC.at rfl (WC.call 25 47 ([.agg (encCond x60).toArray, .pointer (some ⟨(nx + 1), 0, none⟩)]) (fun _ _ _ => by kernel_rfl) ((ask_wf x60 e (nx + 1) hp28 (nx + 1 + 1 + 1) hb35 lt26 ((hc.fParts.2 x60 (List.mem_of_getElem? hx61)).mono hE33 le27) (fun hp2 nx2 hn2 he2 => ih x60 e hp2 nx2 (by have := RCond.part_lt (List.mem_of_getElem? hx61); omega) ((((hc.fParts.2 x60 (List.mem_of_getElem? hx61)).mono hE33 le27)).mono he2 hn2) (hv.parts x60 (List.mem_of_getElem? hx61)))).mono ?_))
   rintro _ hp62 nx63 ⟨⟨c66, rfl, p66i⟩, hn64, he65⟩
   have p66 : c66 = true ↔ (c66 = true) := Iff.rfl
   have hE67 := hE33.trans he65 le27
   have le74 := Nat.le_trans le27 hn64
   refine WD.eff ?_
   obtain ⟨c75, e75, p75⟩ := @nb (!c66) (¬ (c66 = true)) (by rw [Bool.not_eq_true', ← Bool.not_eq_true, p66])
   refine nv 26 (.bool c75) ?_ (fun _ _ _ => by subst e75; kernel_rfl)
   refine WN.nil ⟨?_, ?_⟩
   ·
    refine cv (.bool c75) (vEq_bool 8 c75) ?_ (fun _ => by subst e75; kernel_rfl)
    exact Chks.nil
   refine WC.at rfl (WC.val 4 (.bool c75) (fun _ _ _ => by kernel_rfl) ?_)
   refine WD.last ?_
   refine WN.nil ⟨?_, ?_⟩
   ·
    exact Chks.nil
   refine WP.ret ⟨rfl, rfl, [.bool c75], by kernel_rfl, ?_⟩
   exact ⟨⟨_, rfl, fun _ => trivial⟩, le74, hE67⟩
  ·
   have q55 := nq p53 h54
   refine sr ?_
   obtain ⟨c76, e76, p76⟩ := @nb (eqI (c.fKind) (3)) ((c.fKind) = (3)) (eqI_iff)
   refine ov 28 (.bool c76) ?_ (fun _ _ _ => by subst e76; kernel_rfl)
   refine ov 27 (.bool c76) ?_
   refine WO.nil ?_
   refine WP.cond c76 (by kernel_rfl) (fun h77 => ?_) (fun h77 => ?_)
   ·
    have q78 := (p76).1 h77
    refine sr ?_
    refine ov 29 (.pointer (some ⟨nx, 0 + 3, none⟩)) ?_
    obtain ⟨a79, c80, hv81⟩ := hc.fParts.1.shape
    have hsm81 := hc.fParts.1.2.2
    refine WO.cons (WC.load1 nx (0 + 3) (.slice a79 (c.fParts.l.length) c80) (by kernel_rfl) T_agg102 hb34 (by rw [← hv81]; rfl) ?_)
    refine WO.cons (WC.load1 (nx + 1 + 1) (0) (.func (.func 47) #[] #[.pointer (some ⟨(nx + 1), 0, none⟩)]) (by kernel_rfl) T_agg148 hb31 rfl ?_)
    refine WO.cons (WC.call 32 49 ([c.fParts.v, .func (.func 47) #[] #[.pointer (some ⟨(nx + 1), 0, none⟩)]]) (fun _ _ _ => by (try rw [hv81]); kernel_rfl) ((containsAny_cond c.fParts 47 #[.pointer (some ⟨(nx + 1), 0, none⟩)] hp28 (nx + 1 + 1 + 1) (hc.fParts.mono (fun _ h => h.mono) hE33 le27) (fun i x hx hp' nx' hn he => ask_wf x e (nx + 1) hp' nx' (he.get hb35 lt26) (Nat.lt_of_lt_of_le lt26 hn) ((((hc.fParts.mono (fun _ h => h.mono) hE33 le27)).2 x (List.mem_of_getElem? hx)).mono he hn) (fun hp2 nx2 hn2 he2 => ih x e hp2 nx2 (by have := RCond.part_lt (List.mem_of_getElem? hx); omega) (((((hc.fParts.mono (fun _ h => h.mono) hE33 le27)).2 x (List.mem_of_getElem? hx)).mono he hn).mono he2 hn2) (hv.parts x (List.mem_of_getElem? hx))))).mono ?_))
    rintro _ hp82 nx83 ⟨⟨c86, rfl, p86i⟩, hn84, he85⟩
    have p86 : c86 = true ↔ (c86 = true) := Iff.rfl
    have hE87 := hE33.trans he85 le27
    have le94 := Nat.le_trans le27 hn84
    refine ov 4 (.bool c86) ?_
    refine WO.nil ?_
    refine WP.ret ⟨rfl, rfl, [.bool c86], by kernel_rfl, ?_⟩
    exact ⟨⟨_, rfl, fun _ => trivial⟩, le94, hE87⟩
   ·
    have q78 := nq p76 h77
    refine WP.skip ?_
    refine sr ?_
    refine ov 33 (.pointer (some ⟨nx, 0 + 3, none⟩)) ?_
    obtain ⟨a95, c96, hv97⟩ := hc.fParts.1.shape
    have hsm97 := hc.fParts.1.2.2
    refine WO.cons (WC.load1 nx (0 + 3) (.slice a95 (c.fParts.l.length) c96) (by kernel_rfl) T_agg102 hb34 (by rw [← hv97]; rfl) ?_)
    refine ov 35 (.func (.func 50) #[] #[.pointer (some ⟨(nx + 1 + 1), 0, none⟩)]) ?_
    refine WO.cons (WC.call 36 49 ([c.fParts.v, .func (.func 50) #[] #[.pointer (some ⟨(nx + 1 + 1), 0, none⟩)]]) (fun _ _ _ => by (try rw [hv97]); kernel_rfl) ((containsAny_cond c.fParts 50 #[.pointer (some ⟨(nx + 1 + 1), 0, none⟩)] hp28 (nx + 1 + 1 + 1) (hc.fParts.mono (fun _ h => h.mono) hE33 le27) (fun i x hx hp' nx' hn he => ask2_wf x e (nx + 1) (nx + 1 + 1) hp' nx' (he.get hb35 lt26) (Nat.lt_of_lt_of_le lt26 hn) (he.get hb31 (Nat.lt_succ_self (nx + 1 + 1))) (Nat.lt_of_lt_of_le (Nat.lt_succ_self (nx + 1 + 1)) hn) ((((hc.fParts.mono (fun _ h => h.mono) hE33 le27)).2 x (List.mem_of_getElem? hx)).mono he hn) (fun hp2 nx2 hn2 he2 => ih x e hp2 nx2 (by have := RCond.part_lt (List.mem_of_getElem? hx); omega) (((((hc.fParts.mono (fun _ h => h.mono) hE33 le27)).2 x (List.mem_of_getElem? hx)).mono he hn).mono he2 hn2) (hv.parts x (List.mem_of_getElem? hx))))).mono ?_))
    rintro _ hp98 nx99 ⟨⟨c102, rfl, p102i⟩, hn100, he101⟩
    have p102 : c102 = true ↔ (c102 = true) := Iff.rfl
    have hE103 := hE33.trans he101 le27
    have le110 := Nat.le_trans le27 hn100
    obtain ⟨c111, e111, p111⟩ := @nb (!c102) (¬ (c102 = true)) (by rw [Bool.not_eq_true', ← Bool.not_eq_true, p102])
    refine ov 37 (.bool c111) ?_ (fun _ _ _ => by subst e111; kernel_rfl)
    refine ov 4 (.bool c111) ?_
    refine WO.nil ?_
    refine WP.ret ⟨rfl, rfl, [.bool c111], by kernel_rfl, ?_⟩
    exact ⟨⟨_, rfl, fun _ => trivial⟩, le110, hE103⟩
theorem holds_wf (c : RCond) (e : REnv) (hp' : Ht) (nx' : Nat) (hc : RCondOk hp' nx' c) (hv : VCond c) : WF ex 22 [.agg (encCond c).toArray, .agg (encEnv e).toArray] hp' nx' (Stays nx' hp' AnyB) := by
 have h : ∀ (k : Nat), ∀ (c : RCond) (e : REnv) (hp' : Ht) (nx' : Nat), sizeOf c < k → RCondOk hp' nx' c → VCond c → WF ex 22 [.agg (encCond c).toArray, .agg (encEnv e).toArray] hp' nx' (Stays nx' hp' AnyB) := by
  intro k
  induction k with
  | zero => intro _ _ _ _ h; exact absurd h (Nat.not_lt_zero _)
  | succ k ih => intro c e hp nx hk hc hv; exact holds_step k ih c e hp nx hk hc hv
 exact h _ c e hp' nx' (Nat.lt_succ_self _) hc hv
end
end Sw

namespace Sw
noncomputable section
open Go Go.Proofs Go.RowKit
set_option maxRecDepth 100000
set_option maxHeartbeats 1600000
theorem SOk.cells {α : Type} {enc : α → List Value} {n : Nat} {hp : Ht} {nx : Nat} {s : SV α} (h : SOk enc n hp nx s) : s.v.cells.toList = [s.v] := by
  obtain ⟨a, c, e⟩ := h.shape
  rw [e]; rfl
theorem nodup_len : ∀ (n : Nat) (L : List Int), L.Nodup → (∀ z ∈ L, 1 ≤ z ∧ z ≤ (n : Int)) → L.length ≤ n
  | 0, L, _, h => by
    cases L with
    | nil => simp
    | cons z L => have := h z (List.mem_cons_self ..); omega
  | n + 1, L, hd, h => by
    by_cases hm : ((n + 1 : Nat) : Int) ∈ L
    · have h1 := nodup_len n (L.erase ((n + 1 : Nat) : Int)) (hd.erase _) (fun z hz => by
        have h2 := h z (List.mem_of_mem_erase hz)
        have h3 : z ≠ ((n + 1 : Nat) : Int) := fun e => by subst e; exact hd.not_mem_erase hz
        omega)
      rw [List.length_erase_of_mem hm] at h1
      omega
    · have h1 := nodup_len n L hd (fun z hz => by
        have h2 := h z hz
        have h3 : z ≠ ((n + 1 : Nat) : Int) := fun e => hm (e ▸ hz)
        omega)
      omega
def ByP (L : List Int) : Prop := L.Nodup ∧ ∀ z ∈ L, 1 ≤ z ∧ z ≤ 5
theorem ByP.nil : ByP [] := ⟨List.nodup_nil, fun _ h => by cases h⟩
theorem ByP.len {L : List Int} (h : ByP L) : L.length ≤ 5 := nodup_len 5 L h.1 h.2
theorem ByP.snoc {L : List Int} {n : Int} (h : ByP L) (hn : ¬ ∃ x ∈ L, n = x) (hr : 1 ≤ n ∧ n ≤ 5) : ByP (L ++ [n]) := by
  refine ⟨List.nodup_append.2 ⟨h.1, by simp, fun x hx y hy e => ?_⟩, fun z hz => ?_⟩
  · rw [List.mem_singleton.1 hy] at e; exact hn ⟨x, hx, e.symm⟩
  · rcases List.mem_append.1 hz with hz | hz
    · exact h.2 z hz
    · rw [List.mem_singleton.1 hz]; exact hr
theorem VStep.range {s : RStep} (h : VStep s) (k : ¬ s.fKind = 2) : 1 ≤ s.fBy ∧ s.fBy ≤ 5 := by
  cases h with
  | one _ b => exact b
  | ife k2 => exact absurd k2 k
theorem VStep.part {s : RStep} (h : VStep s) (k : s.fKind = 2) : VCond s.fCond ∧ (∀ x ∈ s.fThen.l, VStep x) ∧ ∀ x ∈ s.fElse.l, VStep x := by
  cases h with
  | one k2 => omega
  | ife _ _ c _ t e => exact ⟨c, t, e⟩
theorem intFlat (l : List Int) : ∀ y ∈ l, (encI y).length = 1 := fun _ _ => rfl
theorem infoI : ∃ i, ex.T.info 3 = some i ∧ i.bytes = 8 := by
  cases h : ex.T.info 3 with
  | none => exact absurd (show (ex.T.info 3).isSome = true by kernel_rfl) (by rw [h]; decide)
  | some i =>
    refine ⟨i, rfl, ?_⟩
    have : ((ex.T.info 3).map fun i => i.bytes) = some 8 := by kernel_rfl
    rw [h] at this
    exact Option.some.inj this
theorem T_agg101 : ex.T.agg 101 = some false := by kernel_rfl
theorem T_agg29 : ex.T.agg 29 = some false := by kernel_rfl
theorem T_size101 : ex.T.size 101 = some 1 := by kernel_rfl
theorem T_size29 : ex.T.size 29 = some 1 := by kernel_rfl
theorem T_zero101 : ex.T.zero 101 = some (.nilFunc) := by kernel_rfl
theorem T_zero29 : ex.T.zero 29 = some (.slice none (0) 0) := by kernel_rfl
theorem T_zero3 : ex.T.zero 3 = some (.int .i64 (0)) := by kernel_rfl
theorem index_wf (K : SV Int) (n : Int) (hp : Ht) (nx : Nat) (hK : SOk encI 1 hp nx K) : WF ex 51 [K.v, .int .i64 (n)] hp nx (Stays nx hp (IdxIs K.l (fun x => n = x))) := by
 obtain ⟨a1, c2, hv3⟩ := hK.shape
 have hsm3 := hK.2.2
 rw [hv3]
 refine WF.body (fi := ⟨Tryz.f51.body.getD .skip, 19, [.tmp 4]⟩) (by kernel_rfl) (by kernel_rfl) (by kernel_rfl) rfl ?_
 have hE := HE.refl nx hp
 refine sr ?_
 refine ov 4 (.int .i64 (0)) ?_
 refine WO.nil ?_
 refine WP.seq ?_
 refine sr ?_
 refine ov 6 (.slice a1 (K.l.length) c2) ?_
 refine ov 7 (.int .i64 (.ofNat (K.l.length))) ?_
 refine ov 8 (.int .i64 (0)) ?_
 refine WO.nil ?_
 refine WP.block ?_
 have hj5 : ∀ t : Tm, ((((t.set 0 (t.get 0)).set 1 (t.get 1)).set 7 (t.get 7)).set 8 (t.get 8)) = t := fun t => by kernel_rfl
 refine WP.loop (fun m s => ∃ (iL4 : Nat), iL4 + m = K.l.length ∧ s.to.get 0 = .slice a1 (K.l.length) c2 ∧ s.to.get 1 = .int .i64 (n) ∧ s.to.get 7 = .int .i64 (.ofNat (K.l.length)) ∧ s.to.get 8 = .int .i64 (.ofNat iL4) ∧ s.ds = [] ∧ s.cs = [] ∧ nx ≤ s.nx ∧ HE (nx) hp s.hp ∧ (∀ (j : Nat) (y : Int), j < iL4 → K.l[j]? = some y → ¬ n = y)) ?_ (K.l.length) ?_
 ·
  rintro mL4 ⟨toL4, dsL4, hp6, nx7, csL4⟩ ⟨iL4, him8, gL4_0, gL4_1, gL4_7, gL4_8, hdsL4, hcsL4, hn9, he10, hinv⟩
  simp only at gL4_0 gL4_1 gL4_7 gL4_8 hdsL4 hcsL4 hn9 he10
  subst hdsL4 hcsL4
  rw [← hj5 toL4, gL4_0, gL4_1, gL4_7, gL4_8]
  clear gL4_0 gL4_1 gL4_7 gL4_8
  have hE11 := hE.trans he10 (Nat.le_refl nx)
  have le12 := Nat.le_trans (Nat.le_refl nx) hn9
  refine sr ?_
  obtain ⟨c13, e13, p13⟩ := @nb (ltI (.ofNat iL4) (.ofNat (K.l.length))) (((iL4 : Nat) : Int) < ((K.l.length : Nat) : Int)) (ltI_iff)
  refine ov 9 (.bool c13) ?_ (fun _ _ _ => by subst e13; kernel_rfl)
  refine WO.nil ?_
  refine WP.seq ?_
  refine WP.cond c13 (by kernel_rfl) (fun h14 => ?_) (fun h14 => ?_)
  ·
   have q15 := (p13).1 h14
   refine WP.skip ?_
   refine WP.seq ?_
   refine WP.block ?_
   refine sr ?_
   refine ov 10 (.int .i64 (.ofNat iL4)) ?_
   refine ov 5 (.int .i64 (.ofNat iL4)) ?_
   refine WO.nil ?_
   refine sr ?_
   refine ov 11 (.int .i64 (n)) ?_
   refine ov 12 (.slice a1 (K.l.length) c2) ?_
   refine ov 13 (.int .i64 (.ofNat iL4)) ?_
   have hlt16 : iL4 < K.l.length := by omega
   refine WO.cons (WC.ix (k := .i64) a1 (K.l.length) c2 (iL4) 1 (by kernel_rfl) (by kernel_rfl) T_und29 T_size3 ((hK.mono hE11 le12).blkA hv3 (zl hlt16)) (hlt16) ?_)
   obtain ⟨x17, hx18⟩ : ∃ el_, K.l[iL4]? = some el_ := ⟨_, List.getElem?_eq_getElem (hlt16)⟩
   refine WO.cons (WC.load1E (blk a1) (0 + (iL4) * 1) (.int .i64 (x17)) (by kernel_rfl) T_agg3 ((hK.mono hE11 le12).blkB hv3 (zl hlt16)) (flat_at1 (hK.mono hE11 le12).1 hx18 rfl) ?_)
   obtain ⟨c19, e19, p19⟩ := @nb (eqI (n) (x17)) ((n) = (x17)) (eqI_iff)
   refine ov 16 (.bool c19) ?_ (fun _ _ _ => by subst e19; kernel_rfl)
   refine WO.nil ?_
   refine WP.cond c19 (by kernel_rfl) (fun h20 => ?_) (fun h20 => ?_)
   ·
    have q21 := (p19).1 h20
    refine sr ?_
    refine ov 17 (.int .i64 (.ofNat iL4)) ?_
    refine ov 4 (.int .i64 (.ofNat iL4)) ?_
    refine WO.nil ?_
    refine WP.ret ⟨rfl, rfl, [.int .i64 (.ofNat iL4)], by kernel_rfl, ?_⟩
    exact ⟨.inr ⟨iL4, x17, rfl, hx18, q21, hinv⟩, le12, hE11⟩
   ·
    have q21 := nq p19 h20
    refine WP.skip ?_
    refine WP.region ?_
    refine ov 18 (.int .i64 (.ofNat (iL4 + 1))) ?_ (fun _ _ _ => by rw [← wrapAdd (show iL4 + 1 < 9223372036854775808 by omega)]; kernel_rfl)
    refine ov 8 (.int .i64 (.ofNat (iL4 + 1))) ?_
    refine WO.nil ?_
    refine ⟨K.l.length - (iL4 + 1), by omega, iL4 + 1, by omega, by kernel_rfl, by kernel_rfl, by kernel_rfl, by kernel_rfl, rfl, rfl, ?_, ?_, ?_⟩
    · exact hn9
    · exact he10
    · intro j y hj hy; rcases Nat.lt_succ_iff_lt_or_eq.1 hj with hj | rfl; exact hinv j y hj hy; rw [hx18] at hy; cases hy; exact q21
  ·
   have q15 := nq p13 h14
   refine WP.exit ?_
   refine sr ?_
   refine ov 4 (.int .i64 (-1)) ?_
   refine WO.nil ?_
   refine WP.ret ⟨rfl, rfl, [.int .i64 (-1)], by kernel_rfl, ?_⟩
   refine ⟨.inl ⟨rfl, fun y hy => ?_⟩, le12, hE11⟩
   obtain ⟨j, hj⟩ := List.getElem?_of_mem hy
   exact hinv j y (by have := (List.getElem?_eq_some_iff.1 hj).1; omega) hj
 ·
  exact ⟨0, by omega, by kernel_rfl, by kernel_rfl, by kernel_rfl, by kernel_rfl, rfl, rfl, Nat.le_refl _, HE.refl _ _, (fun j y h => absurd h (Nat.not_lt_zero _))⟩
theorem contains_wf (K : SV Int) (n : Int) (hp : Ht) (nx : Nat) (hK : SOk encI 1 hp nx K) : WF ex 23 [K.v, .int .i64 (n)] hp nx (Stays nx hp (BoolIs (∃ x ∈ K.l, n = x))) := by
 obtain ⟨a1, c2, hv3⟩ := hK.shape
 have hsm3 := hK.2.2
 rw [hv3]
 refine WF.body (fi := ⟨Tryz.f23.body.getD .skip, 9, [.tmp 4]⟩) (by kernel_rfl) (by kernel_rfl) (by kernel_rfl) rfl ?_
 have hE := HE.refl nx hp
 refine sr ?_
 refine ov 4 (.bool false) ?_
 refine WO.nil ?_
 refine sr ?_
 refine ov 5 (.slice a1 (K.l.length) c2) ?_
 refine ov 6 (.int .i64 (n)) ?_
 refine WO.cons (WC.call 7 51 ([K.v, .int .i64 (n)]) (fun _ _ _ => by (try rw [hv3]); kernel_rfl) ((index_wf K n hp (nx) (hK.mono hE (Nat.le_refl nx))).mono ?_))
 rintro vz hp4 nx5 ⟨hz0, hn6, he7⟩
 obtain ⟨z, rfl, hz⟩ := IdxIs.sign hz0
 have hE8 := hE.trans he7 (Nat.le_refl nx)
 have le9 := Nat.le_trans (Nat.le_refl nx) hn6
 obtain ⟨c10, e10, p10⟩ := @nb (leI (0) (z)) ((0) ≤ (z)) (leI_iff)
 refine ov 8 (.bool c10) ?_ (fun _ _ _ => by subst e10; kernel_rfl)
 refine ov 4 (.bool c10) ?_
 refine WO.nil ?_
 refine WP.ret ⟨rfl, rfl, [.bool c10], by kernel_rfl, ?_⟩
 exact ⟨⟨c10, rfl, p10.trans hz⟩, le9, hE8⟩
theorem apply_step (k : Nat) (ih : ∀ j, j < k → ∀ (l : SV RStep) (e : REnv) (bE bA bB B : Nat) (J : SV Int) (hp : Ht) (nx : Nat) (hl : SlOk encStep 8 (fun hp nx y => RStepOk hp nx y) hp nx l) (hV : ∀ s ∈ l.l, VStep s) (hk : ∀ s ∈ l.l, sizeOf s < j) (hp1 : Ht) (nx1 : Nat) (h1 : nx ≤ nx1) (he1 : HE nx hp hp1) (hbs : nx ≤ bE ∧ nx ≤ bA ∧ nx ≤ bB ∧ bE < B ∧ bA < B ∧ bB < B ∧ bE ≠ bB ∧ bA ≠ bB) (hBn : B ≤ nx1) (hbE : hp1.get bE = some (.cells (encEnv e) CMeta.plain)) (hbA : hp1.get bA = some (.cells [.func (.func 21) #[] #[.pointer (some ⟨bE, 0, none⟩), .pointer (some ⟨bA, 0, none⟩), .pointer (some ⟨bB, 0, none⟩)]] CMeta.plain)) (hbB : hp1.get bB = some (.cells [J.v] CMeta.plain)) (hG : GroA encI 1 B hp1 nx1 J) (hP : ByP J.l), WF ex 21 [l.v, .pointer (some ⟨bE, 0, none⟩), .pointer (some ⟨bA, 0, none⟩), .pointer (some ⟨bB, 0, none⟩)] hp1 nx1 (fun _ hp' nx' => ∃ J' : SV Int, hp'.get bE = some (.cells (encEnv e) CMeta.plain) ∧ hp'.get bA = some (.cells [.func (.func 21) #[] #[.pointer (some ⟨bE, 0, none⟩), .pointer (some ⟨bA, 0, none⟩), .pointer (some ⟨bB, 0, none⟩)]] CMeta.plain) ∧ hp'.get bB = some (.cells [J'.v] CMeta.plain) ∧ GroA encI 1 B hp' nx' J' ∧ ByP J'.l ∧ nx1 ≤ nx' ∧ HE nx hp hp')) (l : SV RStep) (e : REnv) (bE bA bB B : Nat) (J : SV Int) (hp : Ht) (nx : Nat) (hl : SlOk encStep 8 (fun hp nx y => RStepOk hp nx y) hp nx l) (hV : ∀ s ∈ l.l, VStep s) (hk : ∀ s ∈ l.l, sizeOf s < k) (hp1 : Ht) (nx1 : Nat) (h1 : nx ≤ nx1) (he1 : HE nx hp hp1) (hbs : nx ≤ bE ∧ nx ≤ bA ∧ nx ≤ bB ∧ bE < B ∧ bA < B ∧ bB < B ∧ bE ≠ bB ∧ bA ≠ bB) (hBn : B ≤ nx1) (hbE : hp1.get bE = some (.cells (encEnv e) CMeta.plain)) (hbA : hp1.get bA = some (.cells [.func (.func 21) #[] #[.pointer (some ⟨bE, 0, none⟩), .pointer (some ⟨bA, 0, none⟩), .pointer (some ⟨bB, 0, none⟩)]] CMeta.plain)) (hbB : hp1.get bB = some (.cells [J.v] CMeta.plain)) (hG : GroA encI 1 B hp1 nx1 J) (hP : ByP J.l) : WF ex 21 [l.v, .pointer (some ⟨bE, 0, none⟩), .pointer (some ⟨bA, 0, none⟩), .pointer (some ⟨bB, 0, none⟩)] hp1 nx1 (fun _ hp' nx' => ∃ J' : SV Int, hp'.get bE = some (.cells (encEnv e) CMeta.plain) ∧ hp'.get bA = some (.cells [.func (.func 21) #[] #[.pointer (some ⟨bE, 0, none⟩), .pointer (some ⟨bA, 0, none⟩), .pointer (some ⟨bB, 0, none⟩)]] CMeta.plain) ∧ hp'.get bB = some (.cells [J'.v] CMeta.plain) ∧ GroA encI 1 B hp' nx' J' ∧ ByP J'.l ∧ nx1 ≤ nx' ∧ HE nx hp hp') := by
 obtain ⟨a1, c2, hv3⟩ := hl.1.shape
 have hsm3 := hl.1.2.2
 rw [hv3]
 refine WF.body (fi := ⟨Tryz.f21.body.getD .skip, 47, []⟩) (by kernel_rfl) (by kernel_rfl) (by kernel_rfl) rfl ?_
 refine sr ?_
 refine ov 7 (.slice a1 (l.l.length) c2) ?_
 refine ov 8 (.int .i64 (.ofNat (l.l.length))) ?_
 refine ov 9 (.int .i64 (0)) ?_
 refine WO.nil ?_
 refine WP.block ?_
 have hj5 : ∀ t : Tm, ((((((t.set 1 (t.get 1)).set 2 (t.get 2)).set 3 (t.get 3)).set 7 (t.get 7)).set 8 (t.get 8)).set 9 (t.get 9)) = t := fun t => by kernel_rfl
 refine WP.loop (fun m s => ∃ (iL4 : Nat) (Jq : SV Int), iL4 + m = l.l.length ∧ s.to.get 1 = .pointer (some ⟨bE, 0, none⟩) ∧ s.to.get 2 = .pointer (some ⟨bA, 0, none⟩) ∧ s.to.get 3 = .pointer (some ⟨bB, 0, none⟩) ∧ s.to.get 7 = .slice a1 (l.l.length) c2 ∧ s.to.get 8 = .int .i64 (.ofNat (l.l.length)) ∧ s.to.get 9 = .int .i64 (.ofNat iL4) ∧ s.ds = [] ∧ s.cs = [] ∧ nx1 ≤ s.nx ∧ HE nx hp s.hp ∧ s.hp.get bE = some (.cells (encEnv e) CMeta.plain) ∧ s.hp.get bA = some (.cells [.func (.func 21) #[] #[.pointer (some ⟨bE, 0, none⟩), .pointer (some ⟨bA, 0, none⟩), .pointer (some ⟨bB, 0, none⟩)]] CMeta.plain) ∧ s.hp.get bB = some (.cells [Jq.v] CMeta.plain) ∧ (GroA encI 1 B s.hp s.nx Jq) ∧ (ByP Jq.l) ∧ (nx1 ≤ s.nx)) ?_ (l.l.length) ?_
 ·
  rintro mL4 ⟨toL4, dsL4, hp6, nx7, csL4⟩ ⟨iL4, Jq, him8, gL4_1, gL4_2, gL4_3, gL4_7, gL4_8, gL4_9, hdsL4, hcsL4, hn9, he10, mb11, mb12, mb13, hGq, hPq, hnq⟩
  simp only at gL4_1 gL4_2 gL4_3 gL4_7 gL4_8 gL4_9 hdsL4 hcsL4 hn9 he10 mb11 mb12 mb13 hGq hnq
  subst hdsL4 hcsL4
  rw [← hj5 toL4, gL4_1, gL4_2, gL4_3, gL4_7, gL4_8, gL4_9]
  clear gL4_1 gL4_2 gL4_3 gL4_7 gL4_8 gL4_9
  have lt14 := Nat.lt_of_lt_of_le (show bE < nx1 by omega) hn9
  have lt15 := Nat.lt_of_lt_of_le (show bA < nx1 by omega) hn9
  have lt16 := Nat.lt_of_lt_of_le (show bB < nx1 by omega) hn9
  have le17 := Nat.le_trans h1 hn9
  have hr18 := HE.refl (nx7) hp6
  have rl19 := Nat.le_refl (nx7)
  refine sr ?_
  obtain ⟨c20, e20, p20⟩ := @nb (ltI (.ofNat iL4) (.ofNat (l.l.length))) (((iL4 : Nat) : Int) < ((l.l.length : Nat) : Int)) (ltI_iff)
  refine ov 10 (.bool c20) ?_ (fun _ _ _ => by subst e20; kernel_rfl)
  refine WO.nil ?_
  refine WP.seq ?_
  refine WP.cond c20 (by kernel_rfl) (fun h21 => ?_) (fun h21 => ?_)
  ·
   have q22 := (p20).1 h21
   refine WP.skip ?_
   refine WP.seq ?_
   refine WP.block ?_
   refine sr ?_
   have hlt23 : iL4 < l.l.length := by omega
   refine WO.cons (WC.ix (k := .i64) a1 (l.l.length) c2 (iL4) 8 (by kernel_rfl) (by kernel_rfl) T_und24 T_size106 ((hl.1.mono he10 le17).blkA hv3 (zl hlt23)) (hlt23) ?_)
   obtain ⟨x24, hx25⟩ : ∃ el_, l.l[iL4]? = some el_ := ⟨_, List.getElem?_eq_getElem (hlt23)⟩
   refine WO.cons (WC.loadSE (blk a1) (0 + (iL4) * 8) (encStep x24) (by kernel_rfl) T_agg106 T_size106 ((hl.1.mono he10 le17).blkB hv3 (zl hlt23)) (flat_at0 (hl.1.mono he10 le17).1 hx25) ?_)
   refine WO.cons (WC.alloc _ [.int .i64 (0), .int .i64 (0), .int .i64 (0), .int .i64 (0), .int .i64 (0), .slice none (0) 0, .slice none (0) 0, .slice none (0) 0] rfl T_zero106 rfl ?_)
   obtain ⟨hp27, hx28, he29, hb30⟩ := boxed hp6 (nx7) [.int .i64 (0), .int .i64 (0), .int .i64 (0), .int .i64 (0), .int .i64 (0), .slice none (0) 0, .slice none (0) 0, .slice none (0) 0]
   rw [hx28]; clear hx28
   have hE31 := he10.trans he29 le17
   have hb32 := he29.get mb11 lt14
   have lt33 := Nat.lt_of_lt_of_le lt14 (Nat.le_succ (nx7))
   have hb34 := he29.get mb12 lt15
   have lt35 := Nat.lt_of_lt_of_le lt15 (Nat.le_succ (nx7))
   have hb36 := he29.get mb13 lt16
   have lt37 := Nat.lt_of_lt_of_le lt16 (Nat.le_succ (nx7))
   have hr38 := hr18.trans he29 rl19
   have rl39 := Nat.le_trans rl19 (Nat.le_succ (nx7))
   have rl40 := Nat.le_trans hn9 (Nat.le_succ (nx7))
   have le41 := Nat.le_trans le17 (Nat.le_succ (nx7))
   refine WO.cons (WC.store1 nx7 (0) (.agg (encStep x24).toArray) [.int .i64 (0), .int .i64 (0), .int .i64 (0), .int .i64 (0), .int .i64 (0), .slice none (0) 0, .slice none (0) 0, .slice none (0) 0] (encStep x24) (encStep x24) 8 rfl (by kernel_rfl) (by kernel_rfl) T_size106 rfl (Bool.and_eq_true_iff.2 ⟨rfl, encStep_one _ (hl.2 x24 (List.mem_of_getElem? hx25))⟩) hb30 rfl rfl rfl ?_)
   obtain ⟨hp42, hx43, he44, hb45, ho46⟩ := stored hp27 nx7 (.cells (encStep x24) CMeta.plain)
   rw [hx43]; clear hx43
   have hE47 := hE31.trans he44 (by omega)
   have hr48 := hr38.trans he44 (by omega)
   have hb49 := (ho46 bE (by omega)).trans hb32
   have hb50 := (ho46 bA (by omega)).trans hb34
   have hb51 := (ho46 bB (by omega)).trans hb36
   refine WO.nil ?_
   refine WP.block ?_
   refine sr ?_
   refine ov 14 (.pointer (some ⟨nx7, 0 + 0, none⟩)) ?_
   refine WO.cons (WC.load1 nx7 (0 + 0) (.int .i64 (x24.fKind)) (by kernel_rfl) T_agg3 hb45 rfl ?_)
   obtain ⟨c52, e52, p52⟩ := @nb (eqI (x24.fKind) (2)) ((x24.fKind) = (2)) (eqI_iff)
   refine ov 16 (.bool c52) ?_ (fun _ _ _ => by subst e52; kernel_rfl)
   refine ov 17 (.bool c52) ?_
   refine og 17 (c52) (.pointer (some ⟨nx7, 0 + 2, none⟩)) (.bool c52) (by cases c52 <;> rfl) (fun h => by obtain rfl := h; exact fun _ _ _ => by kernel_rfl) ?_
   refine ogc 17 (c52) (.agg (encCond x24.fCond).toArray) (.bool c52) (by cases c52 <;> rfl) (fun h => by obtain rfl := h; exact WC.loadS nx7 (0 + 2) (encCond x24.fCond) (by kernel_rfl) T_agg104 T_size104 hb45 rfl rfl) ?_
   refine ogc 17 (c52) (.agg (encEnv e).toArray) (.bool c52) (by cases c52 <;> rfl) (fun h => by obtain rfl := h; exact WC.loadS bE (0) (encEnv e) (by kernel_rfl) T_agg26 T_size26 hb49 rfl rfl) ?_
   cases c52 with
   | true =>
    have q53 := (p52).1 rfl
    refine WO.cons (WC.gmet (x := .bool true) (g := opd (.tmp 17)) rfl (by kernel_rfl) rfl (WC.call 21 22 ([.agg (encCond x24.fCond).toArray, .agg (encEnv e).toArray]) (fun _ _ _ => by kernel_rfl) ((holds_wf x24.fCond e hp42 (nx7 + 1) ((hl.2 x24 (List.mem_of_getElem? hx25)).fCond.mono hE47 le41) ((hV x24 (List.mem_of_getElem? hx25)).part q53).1).mono ?_)))
    rintro _ hp54 nx55 ⟨⟨c58, rfl, p58i⟩, hn56, he57⟩
    have p58 : c58 = true ↔ (c58 = true) := Iff.rfl
    have hE59 := hE47.trans he57 le41
    have hb60 := he57.get hb49 lt33
    have lt61 := Nat.lt_of_lt_of_le lt33 hn56
    have hb62 := he57.get hb50 lt35
    have lt63 := Nat.lt_of_lt_of_le lt35 hn56
    have hb64 := he57.get hb51 lt37
    have lt65 := Nat.lt_of_lt_of_le lt37 hn56
    have hb66 := he57.get hb45 (Nat.lt_succ_self (nx7))
    have lt67 := Nat.lt_of_lt_of_le (Nat.lt_succ_self (nx7)) hn56
    have hr68 := hr48.trans he57 rl39
    have rl69 := Nat.le_trans rl39 hn56
    have rl70 := Nat.le_trans rl40 hn56
    have le71 := Nat.le_trans le41 hn56
    refine ov 22 (.bool c58) ?_
    refine ov 13 (.bool c58) ?_
    refine WO.nil ?_
    refine WP.cond c58 (by kernel_rfl) (fun h72 => ?_) (fun h72 => ?_)
    ·
     have q73 := (p58).1 h72
     ·
      refine WP.region ?_
      refine WO.cons (WC.load1 bA (0) (.func (.func 21) #[] #[.pointer (some ⟨bE, 0, none⟩), .pointer (some ⟨bA, 0, none⟩), .pointer (some ⟨bB, 0, none⟩)]) (by kernel_rfl) T_agg101 hb62 rfl ?_)
      refine ov 24 (.pointer (some ⟨nx7, 0 + 6, none⟩)) ?_
      obtain ⟨a74, c75, hv76⟩ := (hl.2 x24 (List.mem_of_getElem? hx25)).fThen.1.shape
      have hsm76 := (hl.2 x24 (List.mem_of_getElem? hx25)).fThen.1.2.2
      refine WO.cons (WC.load1 nx7 (0 + 6) (.slice a74 (x24.fThen.l.length) c75) (by kernel_rfl) T_agg24 hb66 (by rw [← hv76]; rfl) ?_)
      refine WO.cons (WC.call 26 21 ([x24.fThen.v, .pointer (some ⟨bE, 0, none⟩), .pointer (some ⟨bA, 0, none⟩), .pointer (some ⟨bB, 0, none⟩)]) (fun _ _ _ => by (try rw [hv76]); kernel_rfl) ((ih _ (hk _ (List.mem_of_getElem? hx25)) x24.fThen e bE bA bB B Jq hp nx ((hl.2 x24 (List.mem_of_getElem? hx25)).fThen) (((hV x24 (List.mem_of_getElem? hx25)).part q53).2.1) (fun s hs => RStep.then_lt hs) hp54 (nx55) le71 hE59 hbs (by omega) hb60 hb62 hb64 (hGq.mono hr68 rl69) hPq).mono ?_))
      rintro _ hp77 nx78 ⟨J81, kE82, kA83, kB84, kG85, kP86, hn79, he80⟩
      have rl88 := Nat.le_trans rl70 hn79
      have hr89 := HE.refl (nx78) hp77
      have rl90 := Nat.le_refl (nx78)
      refine WO.nil ?_
      refine WP.region ?_
      refine ov 46 (.int .i64 (.ofNat (iL4 + 1))) ?_ (fun _ _ _ => by rw [← wrapAdd (show iL4 + 1 < 9223372036854775808 by omega)]; kernel_rfl)
      refine ov 9 (.int .i64 (.ofNat (iL4 + 1))) ?_
      refine WO.nil ?_
      refine ⟨l.l.length - (iL4 + 1), by omega, iL4 + 1, J81, by omega, by kernel_rfl, by kernel_rfl, by kernel_rfl, by kernel_rfl, by kernel_rfl, by kernel_rfl, rfl, rfl, ?_, ?_, ?_, ?_, ?_, ?_, ?_, ?_⟩
      · exact rl88
      · exact he80
      · exact kE82
      · exact kA83
      · exact kB84
      · exact (kG85.mono hr89 rl90)
      · exact kP86
      · omega
    ·
     have q73 : ¬ (c58 = true) := fun k => by rw [(p58).2 k] at h72; cases h72
     refine sr ?_
     refine ov 28 (.pointer (some ⟨nx7, 0 + 0, none⟩)) ?_
     refine WO.cons (WC.load1 nx7 (0 + 0) (.int .i64 (x24.fKind)) (by kernel_rfl) T_agg3 hb66 rfl ?_)
     obtain ⟨c91, e91, p91⟩ := @nb (eqI (x24.fKind) (2)) ((x24.fKind) = (2)) (eqI_iff)
     refine ov 30 (.bool c91) ?_ (fun _ _ _ => by subst e91; kernel_rfl)
     refine ov 27 (.bool c91) ?_
     refine WO.nil ?_
     refine WP.cond c91 (by kernel_rfl) (fun h92 => ?_) (fun h92 => ?_)
     ·
      have q93 := (p91).1 h92
      ·
       refine WP.region ?_
       refine WO.cons (WC.load1 bA (0) (.func (.func 21) #[] #[.pointer (some ⟨bE, 0, none⟩), .pointer (some ⟨bA, 0, none⟩), .pointer (some ⟨bB, 0, none⟩)]) (by kernel_rfl) T_agg101 hb62 rfl ?_)
       refine ov 32 (.pointer (some ⟨nx7, 0 + 7, none⟩)) ?_
       obtain ⟨a94, c95, hv96⟩ := (hl.2 x24 (List.mem_of_getElem? hx25)).fElse.1.shape
       have hsm96 := (hl.2 x24 (List.mem_of_getElem? hx25)).fElse.1.2.2
       refine WO.cons (WC.load1 nx7 (0 + 7) (.slice a94 (x24.fElse.l.length) c95) (by kernel_rfl) T_agg24 hb66 (by rw [← hv96]; rfl) ?_)
       refine WO.cons (WC.call 34 21 ([x24.fElse.v, .pointer (some ⟨bE, 0, none⟩), .pointer (some ⟨bA, 0, none⟩), .pointer (some ⟨bB, 0, none⟩)]) (fun _ _ _ => by (try rw [hv96]); kernel_rfl) ((ih _ (hk _ (List.mem_of_getElem? hx25)) x24.fElse e bE bA bB B Jq hp nx ((hl.2 x24 (List.mem_of_getElem? hx25)).fElse) (((hV x24 (List.mem_of_getElem? hx25)).part q93).2.2) (fun s hs => RStep.else_lt hs) hp54 (nx55) le71 hE59 hbs (by omega) hb60 hb62 hb64 (hGq.mono hr68 rl69) hPq).mono ?_))
       rintro _ hp97 nx98 ⟨J101, kE102, kA103, kB104, kG105, kP106, hn99, he100⟩
       have rl108 := Nat.le_trans rl70 hn99
       have hr109 := HE.refl (nx98) hp97
       have rl110 := Nat.le_refl (nx98)
       refine WO.nil ?_
       refine WP.region ?_
       refine ov 46 (.int .i64 (.ofNat (iL4 + 1))) ?_ (fun _ _ _ => by rw [← wrapAdd (show iL4 + 1 < 9223372036854775808 by omega)]; kernel_rfl)
       refine ov 9 (.int .i64 (.ofNat (iL4 + 1))) ?_
       refine WO.nil ?_
       refine ⟨l.l.length - (iL4 + 1), by omega, iL4 + 1, J101, by omega, by kernel_rfl, by kernel_rfl, by kernel_rfl, by kernel_rfl, by kernel_rfl, by kernel_rfl, rfl, rfl, ?_, ?_, ?_, ?_, ?_, ?_, ?_, ?_⟩
       · exact rl108
       · exact he100
       · exact kE102
       · exact kA103
       · exact kB104
       · exact (kG105.mono hr109 rl110)
       · exact kP106
       · omega
     ·
      have q93 := nq p91 h92
      refine WP.seq ?_
      ·
       refine WP.region ?_
       refine WO.cons (WC.load1 bB (0) (Jq.v) (by kernel_rfl) T_agg29 hb64 rfl ?_)
       refine ov 37 (.pointer (some ⟨nx7, 0 + 1, none⟩)) ?_
       refine WO.cons (WC.load1 nx7 (0 + 1) (.int .i64 (x24.fBy)) (by kernel_rfl) T_agg3 hb66 rfl ?_)
       refine WO.cons (WC.call 39 23 ([Jq.v, .int .i64 (x24.fBy)]) (fun _ _ _ => by kernel_rfl) ((contains_wf Jq (x24.fBy) hp54 (nx55) ((hGq.mono hr68 rl69).ok (intFlat _) (by have := hPq.len; omega))).mono ?_))
       rintro _ hp111 nx112 ⟨⟨c115, rfl, p115⟩, hn113, he114⟩
       have hE116 := hE59.trans he114 le71
       have hb117 := he114.get hb60 lt61
       have lt118 := Nat.lt_of_lt_of_le lt61 hn113
       have hb119 := he114.get hb62 lt63
       have lt120 := Nat.lt_of_lt_of_le lt63 hn113
       have hb121 := he114.get hb64 lt65
       have lt122 := Nat.lt_of_lt_of_le lt65 hn113
       have hb123 := he114.get hb66 lt67
       have hr125 := hr68.trans he114 rl69
       have rl126 := Nat.le_trans rl69 hn113
       have rl127 := Nat.le_trans rl70 hn113
       have le128 := Nat.le_trans le71 hn113
       obtain ⟨c129, e129, p129⟩ := @nb (!c115) (¬ (∃ x ∈ Jq.l, (x24.fBy) = x)) (by rw [Bool.not_eq_true', ← Bool.not_eq_true, p115])
       refine ov 40 (.bool c129) ?_ (fun _ _ _ => by subst e129; kernel_rfl)
       refine ov 35 (.bool c129) ?_
       refine WO.nil ?_
       refine WP.cond c129 (by kernel_rfl) (fun h130 => ?_) (fun h130 => ?_)
       ·
        have q131 := (p129).1 h130
        refine WP.region ?_
        refine WO.cons (WC.load1 bB (0) (Jq.v) (by kernel_rfl) T_agg29 hb121 rfl ?_)
        refine ov 42 (.pointer (some ⟨nx7, 0 + 1, none⟩)) ?_
        refine WO.cons (WC.load1 nx7 (0 + 1) (.int .i64 (x24.fBy)) (by kernel_rfl) T_agg3 hb123 rfl ?_)
        refine WO.cons (WC.buildSlice [.int .i64 (x24.fBy)] rfl (by kernel_rfl) ?_)
        obtain ⟨hp132, hx133, he134, hb135⟩ := boxed hp111 (nx112) [.int .i64 (x24.fBy)]
        rw [hx133]; clear hx133
        have hE136 := hE116.trans he134 le128
        have hb137 := he134.get hb117 lt118
        have hb139 := he134.get hb119 lt120
        have hb141 := he134.get hb121 lt122
        have hr145 := hr125.trans he134 rl126
        have rl146 := Nat.le_trans rl126 (Nat.le_succ (nx112))
        have rl147 := Nat.le_trans rl127 (Nat.le_succ (nx112))
        obtain ⟨inf150, hinf151, hby152⟩ := infoI
        have hJlen := hPq.len
        refine WO.cons (WC.append1L (enc := encI) (J := Jq) (x24.fBy) rfl (by kernel_rfl) (by kernel_rfl) (hGq.mono hr145 rl146) (intFlat _) hb135 rfl T_und29 T_size3 T_zero3 hinf151 rfl rfl (by decide) (by rw [hby152]; omega) (by omega) (by omega) (by omega) rfl ?_)
        rintro J153 hp154 nx155 hl156 hn157 he158 hG159
        have hP161 : ByP J153.l := by rw [hl156]; exact hPq.snoc q131 ((hV x24 (List.mem_of_getElem? hx25)).range q93)
        have hE162 := hE136.trans he158 (by omega)
        have rl164 := Nat.le_trans rl147 hn157
        have hb165 := he158.get hb137 (by omega)
        have hb166 := he158.get hb139 (by omega)
        have hb167 := he158.get hb141 (by omega)
        have ok160 := hG159.ok (intFlat _) (by have := hP161.len; omega)
        refine WO.cons (WC.store1 bB (0) (J153.v) [Jq.v] [J153.v] [J153.v] 1 rfl (by kernel_rfl) (by kernel_rfl) T_size29 ok160.cells (Bool.and_eq_true_iff.2 ⟨rfl, by rw [List.all_cons, ok160.one]; rfl⟩) hb167 rfl rfl rfl ?_)
        obtain ⟨hp168, hx169, he170, hb171, ho172⟩ := stored hp154 bB (.cells [J153.v] CMeta.plain)
        rw [hx169]; clear hx169
        have hE173 := hE162.trans he170 (by omega)
        have hb174 := (ho172 bE (by omega)).trans hb165
        have hb175 := (ho172 bA (by omega)).trans hb166
        refine WO.nil ?_
        refine WP.region ?_
        refine ov 46 (.int .i64 (.ofNat (iL4 + 1))) ?_ (fun _ _ _ => by rw [← wrapAdd (show iL4 + 1 < 9223372036854775808 by omega)]; kernel_rfl)
        refine ov 9 (.int .i64 (.ofNat (iL4 + 1))) ?_
        refine WO.nil ?_
        refine ⟨l.l.length - (iL4 + 1), by omega, iL4 + 1, J153, by omega, by kernel_rfl, by kernel_rfl, by kernel_rfl, by kernel_rfl, by kernel_rfl, by kernel_rfl, rfl, rfl, ?_, ?_, ?_, ?_, ?_, ?_, ?_, ?_⟩
        · exact rl164
        · exact hE173
        · exact hb174
        · exact hb175
        · exact hb171
        · exact hG159.above (fun q hq => ho172 q (by omega))
        · exact hP161
        · omega
       ·
        have q131 := nq p129 h130
        refine WP.skip ?_
        refine WP.region ?_
        refine ov 46 (.int .i64 (.ofNat (iL4 + 1))) ?_ (fun _ _ _ => by rw [← wrapAdd (show iL4 + 1 < 9223372036854775808 by omega)]; kernel_rfl)
        refine ov 9 (.int .i64 (.ofNat (iL4 + 1))) ?_
        refine WO.nil ?_
        refine ⟨l.l.length - (iL4 + 1), by omega, iL4 + 1, Jq, by omega, by kernel_rfl, by kernel_rfl, by kernel_rfl, by kernel_rfl, by kernel_rfl, by kernel_rfl, rfl, rfl, ?_, ?_, ?_, ?_, ?_, ?_, ?_, ?_⟩
        · exact rl127
        · exact hE116
        · exact hb117
        · exact hb119
        · exact hb121
        · exact (hGq.mono hr125 rl126)
        · exact hPq
        · omega
   | false =>
    have q176 : ¬ ((x24.fKind) = (2)) := nf p52
    refine WO.cons (WC.gskip (x := .bool false) (g := opd (.tmp 17)) rfl (by kernel_rfl) rfl ?_)
    refine ov 22 (.bool false) ?_
    refine ov 13 (.bool false) ?_
    refine WO.nil ?_
    refine WP.cond false (by kernel_rfl) (fun h177 => by cases h177) (fun h177 => ?_)
    refine sr ?_
    refine ov 28 (.pointer (some ⟨nx7, 0 + 0, none⟩)) ?_
    refine WO.cons (WC.load1 nx7 (0 + 0) (.int .i64 (x24.fKind)) (by kernel_rfl) T_agg3 hb45 rfl ?_)
    obtain ⟨c178, e178, p178⟩ := @nb (eqI (x24.fKind) (2)) ((x24.fKind) = (2)) (eqI_iff)
    refine ov 30 (.bool c178) ?_ (fun _ _ _ => by subst e178; kernel_rfl)
    refine ov 27 (.bool c178) ?_
    refine WO.nil ?_
    refine WP.cond c178 (by kernel_rfl) (fun h179 => ?_) (fun h179 => ?_)
    ·
     have q180 := (p178).1 h179
     ·
      refine WP.region ?_
      refine WO.cons (WC.load1 bA (0) (.func (.func 21) #[] #[.pointer (some ⟨bE, 0, none⟩), .pointer (some ⟨bA, 0, none⟩), .pointer (some ⟨bB, 0, none⟩)]) (by kernel_rfl) T_agg101 hb50 rfl ?_)
      refine ov 32 (.pointer (some ⟨nx7, 0 + 7, none⟩)) ?_
      obtain ⟨a181, c182, hv183⟩ := (hl.2 x24 (List.mem_of_getElem? hx25)).fElse.1.shape
      have hsm183 := (hl.2 x24 (List.mem_of_getElem? hx25)).fElse.1.2.2
      refine WO.cons (WC.load1 nx7 (0 + 7) (.slice a181 (x24.fElse.l.length) c182) (by kernel_rfl) T_agg24 hb45 (by rw [← hv183]; rfl) ?_)
      refine WO.cons (WC.call 34 21 ([x24.fElse.v, .pointer (some ⟨bE, 0, none⟩), .pointer (some ⟨bA, 0, none⟩), .pointer (some ⟨bB, 0, none⟩)]) (fun _ _ _ => by (try rw [hv183]); kernel_rfl) ((ih _ (hk _ (List.mem_of_getElem? hx25)) x24.fElse e bE bA bB B Jq hp nx ((hl.2 x24 (List.mem_of_getElem? hx25)).fElse) (((hV x24 (List.mem_of_getElem? hx25)).part q180).2.2) (fun s hs => RStep.else_lt hs) hp42 (nx7 + 1) le41 hE47 hbs (by omega) hb49 hb50 hb51 (hGq.mono hr48 rl39) hPq).mono ?_))
      rintro _ hp184 nx185 ⟨J188, kE189, kA190, kB191, kG192, kP193, hn186, he187⟩
      have rl195 := Nat.le_trans rl40 hn186
      have hr196 := HE.refl (nx185) hp184
      have rl197 := Nat.le_refl (nx185)
      refine WO.nil ?_
      refine WP.region ?_
      refine ov 46 (.int .i64 (.ofNat (iL4 + 1))) ?_ (fun _ _ _ => by rw [← wrapAdd (show iL4 + 1 < 9223372036854775808 by omega)]; kernel_rfl)
      refine ov 9 (.int .i64 (.ofNat (iL4 + 1))) ?_
      refine WO.nil ?_
      refine ⟨l.l.length - (iL4 + 1), by omega, iL4 + 1, J188, by omega, by kernel_rfl, by kernel_rfl, by kernel_rfl, by kernel_rfl, by kernel_rfl, by kernel_rfl, rfl, rfl, ?_, ?_, ?_, ?_, ?_, ?_, ?_, ?_⟩
      · exact rl195
      · exact he187
      · exact kE189
      · exact kA190
      · exact kB191
      · exact (kG192.mono hr196 rl197)
      · exact kP193
      · omega
    ·
     have q180 := nq p178 h179
     refine WP.seq ?_
     ·
      refine WP.region ?_
      refine WO.cons (WC.load1 bB (0) (Jq.v) (by kernel_rfl) T_agg29 hb51 rfl ?_)
      refine ov 37 (.pointer (some ⟨nx7, 0 + 1, none⟩)) ?_
      refine WO.cons (WC.load1 nx7 (0 + 1) (.int .i64 (x24.fBy)) (by kernel_rfl) T_agg3 hb45 rfl ?_)
      refine WO.cons (WC.call 39 23 ([Jq.v, .int .i64 (x24.fBy)]) (fun _ _ _ => by kernel_rfl) ((contains_wf Jq (x24.fBy) hp42 (nx7 + 1) ((hGq.mono hr48 rl39).ok (intFlat _) (by have := hPq.len; omega))).mono ?_))
      rintro _ hp198 nx199 ⟨⟨c202, rfl, p202⟩, hn200, he201⟩
      have hE203 := hE47.trans he201 le41
      have hb204 := he201.get hb49 lt33
      have lt205 := Nat.lt_of_lt_of_le lt33 hn200
      have hb206 := he201.get hb50 lt35
      have lt207 := Nat.lt_of_lt_of_le lt35 hn200
      have hb208 := he201.get hb51 lt37
      have lt209 := Nat.lt_of_lt_of_le lt37 hn200
      have hb210 := he201.get hb45 (Nat.lt_succ_self (nx7))
      have hr212 := hr48.trans he201 rl39
      have rl213 := Nat.le_trans rl39 hn200
      have rl214 := Nat.le_trans rl40 hn200
      have le215 := Nat.le_trans le41 hn200
      obtain ⟨c216, e216, p216⟩ := @nb (!c202) (¬ (∃ x ∈ Jq.l, (x24.fBy) = x)) (by rw [Bool.not_eq_true', ← Bool.not_eq_true, p202])
      refine ov 40 (.bool c216) ?_ (fun _ _ _ => by subst e216; kernel_rfl)
      refine ov 35 (.bool c216) ?_
      refine WO.nil ?_
      refine WP.cond c216 (by kernel_rfl) (fun h217 => ?_) (fun h217 => ?_)
      ·
       have q218 := (p216).1 h217
       refine WP.region ?_
       refine WO.cons (WC.load1 bB (0) (Jq.v) (by kernel_rfl) T_agg29 hb208 rfl ?_)
       refine ov 42 (.pointer (some ⟨nx7, 0 + 1, none⟩)) ?_
       refine WO.cons (WC.load1 nx7 (0 + 1) (.int .i64 (x24.fBy)) (by kernel_rfl) T_agg3 hb210 rfl ?_)
       refine WO.cons (WC.buildSlice [.int .i64 (x24.fBy)] rfl (by kernel_rfl) ?_)
       obtain ⟨hp219, hx220, he221, hb222⟩ := boxed hp198 (nx199) [.int .i64 (x24.fBy)]
       rw [hx220]; clear hx220
       have hE223 := hE203.trans he221 le215
       have hb224 := he221.get hb204 lt205
       have hb226 := he221.get hb206 lt207
       have hb228 := he221.get hb208 lt209
       have hr232 := hr212.trans he221 rl213
       have rl233 := Nat.le_trans rl213 (Nat.le_succ (nx199))
       have rl234 := Nat.le_trans rl214 (Nat.le_succ (nx199))
       obtain ⟨inf237, hinf238, hby239⟩ := infoI
       have hJlen := hPq.len
       refine WO.cons (WC.append1L (enc := encI) (J := Jq) (x24.fBy) rfl (by kernel_rfl) (by kernel_rfl) (hGq.mono hr232 rl233) (intFlat _) hb222 rfl T_und29 T_size3 T_zero3 hinf238 rfl rfl (by decide) (by rw [hby239]; omega) (by omega) (by omega) (by omega) rfl ?_)
       rintro J240 hp241 nx242 hl243 hn244 he245 hG246
       have hP248 : ByP J240.l := by rw [hl243]; exact hPq.snoc q218 ((hV x24 (List.mem_of_getElem? hx25)).range q180)
       have hE249 := hE223.trans he245 (by omega)
       have rl251 := Nat.le_trans rl234 hn244
       have hb252 := he245.get hb224 (by omega)
       have hb253 := he245.get hb226 (by omega)
       have hb254 := he245.get hb228 (by omega)
       have ok247 := hG246.ok (intFlat _) (by have := hP248.len; omega)
       refine WO.cons (WC.store1 bB (0) (J240.v) [Jq.v] [J240.v] [J240.v] 1 rfl (by kernel_rfl) (by kernel_rfl) T_size29 ok247.cells (Bool.and_eq_true_iff.2 ⟨rfl, by rw [List.all_cons, ok247.one]; rfl⟩) hb254 rfl rfl rfl ?_)
       obtain ⟨hp255, hx256, he257, hb258, ho259⟩ := stored hp241 bB (.cells [J240.v] CMeta.plain)
       rw [hx256]; clear hx256
       have hE260 := hE249.trans he257 (by omega)
       have hb261 := (ho259 bE (by omega)).trans hb252
       have hb262 := (ho259 bA (by omega)).trans hb253
       refine WO.nil ?_
       refine WP.region ?_
       refine ov 46 (.int .i64 (.ofNat (iL4 + 1))) ?_ (fun _ _ _ => by rw [← wrapAdd (show iL4 + 1 < 9223372036854775808 by omega)]; kernel_rfl)
       refine ov 9 (.int .i64 (.ofNat (iL4 + 1))) ?_
       refine WO.nil ?_
       refine ⟨l.l.length - (iL4 + 1), by omega, iL4 + 1, J240, by omega, by kernel_rfl, by kernel_rfl, by kernel_rfl, by kernel_rfl, by kernel_rfl, by kernel_rfl, rfl, rfl, ?_, ?_, ?_, ?_, ?_, ?_, ?_, ?_⟩
       · exact rl251
       · exact hE260
       · exact hb261
       · exact hb262
       · exact hb258
       · exact hG246.above (fun q hq => ho259 q (by omega))
       · exact hP248
       · omega
      ·
       have q218 := nq p216 h217
       refine WP.skip ?_
       refine WP.region ?_
       refine ov 46 (.int .i64 (.ofNat (iL4 + 1))) ?_ (fun _ _ _ => by rw [← wrapAdd (show iL4 + 1 < 9223372036854775808 by omega)]; kernel_rfl)
       refine ov 9 (.int .i64 (.ofNat (iL4 + 1))) ?_
       refine WO.nil ?_
       refine ⟨l.l.length - (iL4 + 1), by omega, iL4 + 1, Jq, by omega, by kernel_rfl, by kernel_rfl, by kernel_rfl, by kernel_rfl, by kernel_rfl, by kernel_rfl, rfl, rfl, ?_, ?_, ?_, ?_, ?_, ?_, ?_, ?_⟩
       · exact rl214
       · exact hE203
       · exact hb204
       · exact hb206
       · exact hb208
       · exact (hGq.mono hr212 rl213)
       · exact hPq
       · omega
  ·
   have q22 := nq p20 h21
   refine WP.exit ?_
   refine ⟨rfl, rfl, [], by kernel_rfl, ?_⟩
   exact ⟨Jq, mb11, mb12, mb13, hGq, hPq, hnq, he10⟩
 ·
  exact ⟨0, J, by omega, by kernel_rfl, by kernel_rfl, by kernel_rfl, by kernel_rfl, by kernel_rfl, by kernel_rfl, rfl, rfl, Nat.le_refl _, he1, hbE, hbA, hbB, hG, hP, (show nx1 ≤ nx1 by omega)⟩
theorem apply_wf (l : SV RStep) (e : REnv) (bE bA bB B : Nat) (J : SV Int) (hp : Ht) (nx : Nat) (hl : SlOk encStep 8 (fun hp nx y => RStepOk hp nx y) hp nx l) (hV : ∀ s ∈ l.l, VStep s) (hp1 : Ht) (nx1 : Nat) (h1 : nx ≤ nx1) (he1 : HE nx hp hp1) (hbs : nx ≤ bE ∧ nx ≤ bA ∧ nx ≤ bB ∧ bE < B ∧ bA < B ∧ bB < B ∧ bE ≠ bB ∧ bA ≠ bB) (hBn : B ≤ nx1) (hbE : hp1.get bE = some (.cells (encEnv e) CMeta.plain)) (hbA : hp1.get bA = some (.cells [.func (.func 21) #[] #[.pointer (some ⟨bE, 0, none⟩), .pointer (some ⟨bA, 0, none⟩), .pointer (some ⟨bB, 0, none⟩)]] CMeta.plain)) (hbB : hp1.get bB = some (.cells [J.v] CMeta.plain)) (hG : GroA encI 1 B hp1 nx1 J) (hP : ByP J.l) : WF ex 21 [l.v, .pointer (some ⟨bE, 0, none⟩), .pointer (some ⟨bA, 0, none⟩), .pointer (some ⟨bB, 0, none⟩)] hp1 nx1 (fun _ hp' nx' => ∃ J' : SV Int, hp'.get bE = some (.cells (encEnv e) CMeta.plain) ∧ hp'.get bA = some (.cells [.func (.func 21) #[] #[.pointer (some ⟨bE, 0, none⟩), .pointer (some ⟨bA, 0, none⟩), .pointer (some ⟨bB, 0, none⟩)]] CMeta.plain) ∧ hp'.get bB = some (.cells [J'.v] CMeta.plain) ∧ GroA encI 1 B hp' nx' J' ∧ ByP J'.l ∧ nx1 ≤ nx' ∧ HE nx hp hp') := by
 have h : ∀ (k : Nat), ∀ (l : SV RStep) (e : REnv) (bE bA bB B : Nat) (J : SV Int) (hp : Ht) (nx : Nat) (hl : SlOk encStep 8 (fun hp nx y => RStepOk hp nx y) hp nx l) (hV : ∀ s ∈ l.l, VStep s) (hk : ∀ s ∈ l.l, sizeOf s < k) (hp1 : Ht) (nx1 : Nat) (h1 : nx ≤ nx1) (he1 : HE nx hp hp1) (hbs : nx ≤ bE ∧ nx ≤ bA ∧ nx ≤ bB ∧ bE < B ∧ bA < B ∧ bB < B ∧ bE ≠ bB ∧ bA ≠ bB) (hBn : B ≤ nx1) (hbE : hp1.get bE = some (.cells (encEnv e) CMeta.plain)) (hbA : hp1.get bA = some (.cells [.func (.func 21) #[] #[.pointer (some ⟨bE, 0, none⟩), .pointer (some ⟨bA, 0, none⟩), .pointer (some ⟨bB, 0, none⟩)]] CMeta.plain)) (hbB : hp1.get bB = some (.cells [J.v] CMeta.plain)) (hG : GroA encI 1 B hp1 nx1 J) (hP : ByP J.l), WF ex 21 [l.v, .pointer (some ⟨bE, 0, none⟩), .pointer (some ⟨bA, 0, none⟩), .pointer (some ⟨bB, 0, none⟩)] hp1 nx1 (fun _ hp' nx' => ∃ J' : SV Int, hp'.get bE = some (.cells (encEnv e) CMeta.plain) ∧ hp'.get bA = some (.cells [.func (.func 21) #[] #[.pointer (some ⟨bE, 0, none⟩), .pointer (some ⟨bA, 0, none⟩), .pointer (some ⟨bB, 0, none⟩)]] CMeta.plain) ∧ hp'.get bB = some (.cells [J'.v] CMeta.plain) ∧ GroA encI 1 B hp' nx' J' ∧ ByP J'.l ∧ nx1 ≤ nx' ∧ HE nx hp hp') := by
  intro k
  induction k using Nat.strongRecOn with
  | _ k ih => intro l e bE bA bB B J hp nx hl hV hk hp1 nx1 h1 he1 hbs hBn hbE hbA hbB hG hP; exact apply_step k ih l e bE bA bB B J hp nx hl hV hk hp1 nx1 h1 he1 hbs hBn hbE hbA hbB hG hP
 exact h _ l e bE bA bB B J hp nx hl hV (mem_bound _) hp1 nx1 h1 he1 hbs hBn hbE hbA hbB hG hP
theorem direct_wf (l : SV RStep) (e : REnv) (hp : Ht) (nx : Nat) (hl : SlOk encStep 8 (fun hp nx y => RStepOk hp nx y) hp nx l) (hlen : l.l.length ≤ 2932031007403) : WF ex 6 [l.v, .agg (encEnv e).toArray] hp nx (fun v hp' nx' => ∃ (J : SV Int) (z : Int), v = .tuple ⟨[J.v, .int .i64 z]⟩ ∧ SOk encI 1 hp' nx' J ∧ J.l.length ≤ 5 ∧ nx ≤ nx' ∧ HE nx hp hp') := by
 obtain ⟨a1, c2, hv3⟩ := hl.1.shape
 have hsm3 := hl.1.2.2
 rw [hv3]
 refine WF.body (fi := ⟨Tryz.f6.body.getD .skip, 24, [.cell 4 29, .tmp 5]⟩) (by kernel_rfl) (by kernel_rfl) (by kernel_rfl) rfl ?_
 have hE := HE.refl nx hp
 refine sr ?_
 refine WO.cons (WC.box (.agg (encEnv e).toArray) (encEnv e) rfl (by kernel_rfl) rfl ?_)
 obtain ⟨hp5, hx6, he7, hb8⟩ := boxed hp (nx) (encEnv e)
 rw [hx6]; clear hx6
 have hE9 := hE.trans he7 (Nat.le_refl nx)
 have le10 := Nat.le_trans (Nat.le_refl nx) (Nat.le_succ (nx))
 refine WO.cons (WC.alloc _ [.slice none (0) 0] rfl T_zero29 rfl ?_)
 obtain ⟨hp12, hx13, he14, hb15⟩ := boxed hp5 (nx + 1) [.slice none (0) 0]
 rw [hx13]; clear hx13
 have hE16 := hE9.trans he14 le10
 have hb17 := he14.get hb8 (Nat.lt_succ_self (nx))
 have lt18 := Nat.lt_of_lt_of_le (Nat.lt_succ_self (nx)) (Nat.le_succ (nx + 1))
 have le19 := Nat.le_trans le10 (Nat.le_succ (nx + 1))
 refine ov 5 (.int .i64 (0)) ?_
 refine WO.nil ?_
 refine WP.seq ?_
 refine sr ?_
 refine ov 9 (.slice a1 (l.l.length) c2) ?_
 refine WO.cons (WC.call 10 19 ([l.v]) (fun _ _ _ => by (try rw [hv3]); kernel_rfl) ((ties_wf l hp12 (nx + 1 + 1) (hl.mono (fun _ h => h.mono) hE16 le19) hlen).mono ?_))
 rintro _ hp20 nx21 ⟨⟨zt, rfl, hzt⟩, hn22, he23⟩
 have hE24 := hE16.trans he23 le19
 have hb25 := he23.get hb17 lt18
 have lt26 := Nat.lt_of_lt_of_le lt18 hn22
 have hb27 := he23.get hb15 (Nat.lt_succ_self (nx + 1))
 have lt28 := Nat.lt_of_lt_of_le (Nat.lt_succ_self (nx + 1)) hn22
 have le29 := Nat.le_trans le19 hn22
 refine ov 6 (.int .i64 (zt)) ?_
 refine WO.nil ?_
 refine sr ?_
 refine ov 11 (.int .i64 (zt)) ?_
 obtain ⟨c30, e30, p30⟩ := @nb ((!(eqI (zt) (0)))) ((zt) ≠ (0)) (neI_iff)
 refine ov 12 (.bool c30) ?_ (fun _ _ _ => by subst e30; kernel_rfl)
 refine WO.nil ?_
 refine WP.cond c30 (by kernel_rfl) (fun h31 => ?_) (fun h31 => ?_)
 ·
  have q32 := (p30).1 h31
  refine sr ?_
  refine ov 13 (.int .i64 (zt)) ?_
  refine WO.cons (WC.store1 (nx + 1) (0) (.slice none (0) 0) [.slice none (0) 0] [.slice none (0) 0] [.slice none (0) 0] 1 rfl (by kernel_rfl) (by kernel_rfl) T_size29 rfl rfl hb27 rfl rfl rfl ?_)
  obtain ⟨hp33, hx34, he35, hb36, ho37⟩ := stored hp20 (nx + 1) (.cells [.slice none (0) 0] CMeta.plain)
  rw [hx34]; clear hx34
  have hE38 := hE24.trans he35 (by omega)
  refine ov 5 (.int .i64 (zt)) ?_
  refine WO.nil ?_
  refine WP.ret ⟨rfl, rfl, [.slice none (0) 0, .int .i64 (zt)], (getRes_cellTmp (by rw [show (opd (.tmp 4)).run _ = .pointer (some ⟨(nx + 1), 0, none⟩) from by kernel_rfl]; exact eLoad_one T_agg29 hb36 rfl) (by kernel_rfl)), ?_⟩
  exact ⟨⟨.slice none 0 0, []⟩, zt, rfl, ⟨intFlat _, .inl ⟨rfl, .inl rfl⟩, by simp⟩, by simp, le29, hE38⟩
 ·
  have q32 := nq p30 h31
  refine WP.skip ?_
  refine WP.seq ?_
  refine sr ?_
  refine WO.cons (WC.loadS nx (0) (encEnv e) (by kernel_rfl) T_agg26 T_size26 hb25 rfl ?_)
  refine WO.cons (WC.call 15 20 ([.agg (encEnv e).toArray]) (fun _ _ _ => by kernel_rfl) ((env_wf e hp20 (nx21)).mono ?_))
  rintro _ hp40 nx41 ⟨⟨z44, rfl⟩, hn42, he43⟩
  have hE45 := hE24.trans he43 le29
  have hb46 := he43.get hb25 lt26
  have lt47 := Nat.lt_of_lt_of_le lt26 hn42
  have hb48 := he43.get hb27 lt28
  have lt49 := Nat.lt_of_lt_of_le lt28 hn42
  have le50 := Nat.le_trans le29 hn42
  refine ov 7 (.int .i64 (z44)) ?_
  refine WO.nil ?_
  refine sr ?_
  refine ov 16 (.int .i64 (z44)) ?_
  obtain ⟨c51, e51, p51⟩ := @nb ((!(eqI (z44) (0)))) ((z44) ≠ (0)) (neI_iff)
  refine ov 17 (.bool c51) ?_ (fun _ _ _ => by subst e51; kernel_rfl)
  refine WO.nil ?_
  refine WP.cond c51 (by kernel_rfl) (fun h52 => ?_) (fun h52 => ?_)
  ·
   have q53 := (p51).1 h52
   refine sr ?_
   refine ov 18 (.int .i64 (z44)) ?_
   refine WO.cons (WC.store1 (nx + 1) (0) (.slice none (0) 0) [.slice none (0) 0] [.slice none (0) 0] [.slice none (0) 0] 1 rfl (by kernel_rfl) (by kernel_rfl) T_size29 rfl rfl hb48 rfl rfl rfl ?_)
   obtain ⟨hp54, hx55, he56, hb57, ho58⟩ := stored hp40 (nx + 1) (.cells [.slice none (0) 0] CMeta.plain)
   rw [hx55]; clear hx55
   have hE59 := hE45.trans he56 (by omega)
   refine ov 5 (.int .i64 (z44)) ?_
   refine WO.nil ?_
   refine WP.ret ⟨rfl, rfl, [.slice none (0) 0, .int .i64 (z44)], (getRes_cellTmp (by rw [show (opd (.tmp 4)).run _ = .pointer (some ⟨(nx + 1), 0, none⟩) from by kernel_rfl]; exact eLoad_one T_agg29 hb57 rfl) (by kernel_rfl)), ?_⟩
   exact ⟨⟨.slice none 0 0, []⟩, z44, rfl, ⟨intFlat _, .inl ⟨rfl, .inl rfl⟩, by simp⟩, by simp, le50, hE59⟩
  ·
   have q53 := nq p51 h52
   refine WP.skip ?_
   refine sr ?_
   refine WO.cons (WC.alloc _ [.nilFunc] rfl T_zero101 rfl ?_)
   obtain ⟨hp62, hx63, he64, hb65⟩ := boxed hp40 (nx41) [.nilFunc]
   rw [hx63]; clear hx63
   have hE66 := hE45.trans he64 le50
   have hb67 := he64.get hb46 lt47
   have hb69 := he64.get hb48 lt49
   have le71 := Nat.le_trans le50 (Nat.le_succ (nx41))
   refine WO.nil ?_
   refine sr ?_
   refine ov 19 (.func (.func 21) #[] #[.pointer (some ⟨nx, 0, none⟩), .pointer (some ⟨nx41, 0, none⟩), .pointer (some ⟨(nx + 1), 0, none⟩)]) ?_
   refine WO.cons (WC.store1 nx41 (0) (.func (.func 21) #[] #[.pointer (some ⟨nx, 0, none⟩), .pointer (some ⟨nx41, 0, none⟩), .pointer (some ⟨(nx + 1), 0, none⟩)]) [.nilFunc] [.func (.func 21) #[] #[.pointer (some ⟨nx, 0, none⟩), .pointer (some ⟨nx41, 0, none⟩), .pointer (some ⟨(nx + 1), 0, none⟩)]] [.func (.func 21) #[] #[.pointer (some ⟨nx, 0, none⟩), .pointer (some ⟨nx41, 0, none⟩), .pointer (some ⟨(nx + 1), 0, none⟩)]] 1 rfl (by kernel_rfl) (by kernel_rfl) T_size101 rfl rfl hb65 rfl rfl rfl ?_)
   obtain ⟨hp72, hx73, he74, hb75, ho76⟩ := stored hp62 nx41 (.cells [.func (.func 21) #[] #[.pointer (some ⟨nx, 0, none⟩), .pointer (some ⟨nx41, 0, none⟩), .pointer (some ⟨(nx + 1), 0, none⟩)]] CMeta.plain)
   rw [hx73]; clear hx73
   have hE77 := hE66.trans he74 (by omega)
   have hb78 := (ho76 nx (by omega)).trans hb67
   have hb79 := (ho76 (nx + 1) (by omega)).trans hb69
   refine WO.nil ?_
   refine sr ?_
   refine WO.cons (WC.load1 nx41 (0) (.func (.func 21) #[] #[.pointer (some ⟨nx, 0, none⟩), .pointer (some ⟨nx41, 0, none⟩), .pointer (some ⟨(nx + 1), 0, none⟩)]) (by kernel_rfl) T_agg101 hb75 rfl ?_)
   refine ov 21 (.slice a1 (l.l.length) c2) ?_
   refine WO.cons (WC.call 22 21 ([l.v, .pointer (some ⟨nx, 0, none⟩), .pointer (some ⟨nx41, 0, none⟩), .pointer (some ⟨(nx + 1), 0, none⟩)]) (fun _ _ _ => by (try rw [hv3]); kernel_rfl) ((apply_wf l e (nx) (nx41) ((nx + 1)) (nx41 + 1) ⟨.slice none 0 0, []⟩ hp nx hl (hzt (Classical.not_not.1 q32)) hp72 (nx41 + 1) le71 hE77 (by omega) (Nat.le_refl _) hb78 hb75 hb79 GroA.nil ByP.nil).mono ?_))
   rintro _ hp80 nx81 ⟨J84, kE85, kA86, kB87, kG88, kP89, hn82, he83⟩
   have le90 := Nat.le_trans le71 hn82
   have ok91 := kG88.ok (intFlat _) (by have := kP89.len; omega)
   refine WO.nil ?_
   refine sr ?_
   obtain ⟨a92, c93, hv94⟩ := ok91.shape
   have hsm94 := ok91.2.2
   refine WO.cons (WC.load1 (nx + 1) (0) (.slice a92 (J84.l.length) c93) (by kernel_rfl) T_agg29 kB87 (by rw [← hv94]; rfl) ?_)
   refine WO.cons (WC.store1 (nx + 1) (0) (.slice a92 (J84.l.length) c93) [J84.v] [.slice a92 (J84.l.length) c93] [.slice a92 (J84.l.length) c93] 1 rfl (by kernel_rfl) (by kernel_rfl) T_size29 rfl rfl kB87 rfl rfl rfl ?_)
   obtain ⟨hp95, hx96, he97, hb98, ho99⟩ := stored hp80 (nx + 1) (.cells [.slice a92 (J84.l.length) c93] CMeta.plain)
   rw [hx96]; clear hx96
   have hE100 := he83.trans he97 (by omega)
   refine ov 5 (.int .i64 (0)) ?_
   refine WO.nil ?_
   refine WP.ret ⟨rfl, rfl, [.slice a92 (J84.l.length) c93, .int .i64 (0)], (getRes_cellTmp (by rw [show (opd (.tmp 4)).run _ = .pointer (some ⟨(nx + 1), 0, none⟩) from by kernel_rfl]; exact eLoad_one T_agg29 hb98 rfl) (by kernel_rfl)), ?_⟩
   exact ⟨J84, 0, by rw [hv94]; rfl, (kG88.above (fun q hq => ho99 q (by omega))).ok (intFlat _) (by have := kP89.len; omega), kP89.len, le90, hE100⟩
end
end Sw
