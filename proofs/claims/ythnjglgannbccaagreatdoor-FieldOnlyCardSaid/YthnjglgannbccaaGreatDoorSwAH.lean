/- A part of the proof that the law returns true for every input that its row speaks of. No condition is added. -/
import Derived.Test.YthnjglgannbccaaGreatDoorSwAG
namespace Sw
noncomputable section
open Go Go.Proofs Go.RowKit
set_option maxRecDepth 100000
set_option maxHeartbeats 1600000
def EqL {α : Type} (E : α → α → Prop) (a b : List α) : Prop := a.length = b.length ∧ ∀ (i : Nat) (x y : α), a[i]? = some x → b[i]? = some y → E x y
def eqI1 (x y : SV Int) : Prop := EqL (fun a b => a = b) x.l y.l
def eqO1 (x y : SV ROutcome) : Prop := EqL (fun a b => a = b) x.l y.l
def eqClk (a b : RClocks) : Prop := EqL (fun a b => a = b) a.fSegments.l b.fSegments.l ∧ EqL eqI1 a.fFar.l b.fFar.l
def eqRun (a b : RRunner) : Prop := (a.fBib = b.fBib ∧ eqI1 a.fKeys b.fKeys) ∧ EqL eqO1 a.fWorlds.l b.fWorlds.l
def eqField (a b : RField) : Prop := (eqClk a.fClocks b.fClocks ∧ EqL (fun a b => a = b) a.fPairs.l b.fPairs.l) ∧ EqL eqRun a.fRunners.l b.fRunners.l
theorem encPair_eqV (x y : RPair) : eqV ex.T 12 67 (.agg (encPair x).toArray) (.agg (encPair y).toArray) = (bif (eqI x.fA y.fA) then (bif (eqI x.fB y.fB) then (some true) else (some false)) else (some false)) := by kernel_rfl
theorem encPair_eqb (x y : RPair) : ((eqI x.fA y.fA) && (eqI x.fB y.fB)) = true ↔ x = y := by
  constructor
  · intro h; cases x; cases y; simp only [Bool.and_eq_true, eqI_iff, beq_iff_eq, strEq_iff] at h; obtain h := h; simp_all
  · rintro rfl; simp only [Bool.and_eq_true, eqI_iff, beq_iff_eq, strEq_iff, and_self]
theorem encPair_eqW (x y : RPair) : eqV ex.T 12 67 (.agg (encPair x).toArray) (.agg (encPair y).toArray) = some ((eqI x.fA y.fA) && (eqI x.fB y.fB)) := by
  rw [encPair_eqV]
  (cases (eqI x.fA y.fA)) <;> (cases (eqI x.fB y.fB)) <;> rfl
theorem encPair_neq (xo yo : Operand) (x y : RPair) {c : Bool} (e : c = @decide (x ≠ y) (Classical.propDecidable _)) : eBin ex.T .neq 67 xo yo (.agg (encPair x).toArray) (.agg (encPair y).toArray) = some (.bool c) := by
  have h1 : eBin ex.T .neq 67 xo yo (.agg (encPair x).toArray) (.agg (encPair y).toArray) = (eqV ex.T 12 67 (.agg (encPair x).toArray) (.agg (encPair y).toArray)).map fun b => .bool (!b) := by kernel_rfl
  have h2 : (!((eqI x.fA y.fA) && (eqI x.fB y.fB))) = c := by rw [e, Bool.eq_iff_iff, Bool.not_eq_true', ← Bool.not_eq_true, encPair_eqb]; exact (@decide_eq_true_iff _ (Classical.propDecidable _)).symm
  rw [h1, encPair_eqW]; show some (Value.bool (!((eqI x.fA y.fA) && (eqI x.fB y.fB)))) = _; rw [h2]
theorem encSegment_eqV (x y : RSegment) : eqV ex.T 12 154 (.agg (encSegment x).toArray) (.agg (encSegment y).toArray) = (bif (eqI x.fMat y.fMat) then (bif (eqI x.fEpoch y.fEpoch) then (bif (eqI x.fAnchor y.fAnchor) then (some true) else (some false)) else (some false)) else (some false)) := by kernel_rfl
theorem encSegment_eqb (x y : RSegment) : ((eqI x.fMat y.fMat) && (eqI x.fEpoch y.fEpoch) && (eqI x.fAnchor y.fAnchor)) = true ↔ x = y := by
  constructor
  · intro h; cases x; cases y; simp only [Bool.and_eq_true, eqI_iff, beq_iff_eq, strEq_iff] at h; obtain h := h; simp_all
  · rintro rfl; simp only [Bool.and_eq_true, eqI_iff, beq_iff_eq, strEq_iff, and_self]
theorem encSegment_eqW (x y : RSegment) : eqV ex.T 12 154 (.agg (encSegment x).toArray) (.agg (encSegment y).toArray) = some ((eqI x.fMat y.fMat) && (eqI x.fEpoch y.fEpoch) && (eqI x.fAnchor y.fAnchor)) := by
  rw [encSegment_eqV]
  (cases (eqI x.fMat y.fMat)) <;> (cases (eqI x.fEpoch y.fEpoch)) <;> (cases (eqI x.fAnchor y.fAnchor)) <;> rfl
theorem encSegment_neq (xo yo : Operand) (x y : RSegment) {c : Bool} (e : c = @decide (x ≠ y) (Classical.propDecidable _)) : eBin ex.T .neq 154 xo yo (.agg (encSegment x).toArray) (.agg (encSegment y).toArray) = some (.bool c) := by
  have h1 : eBin ex.T .neq 154 xo yo (.agg (encSegment x).toArray) (.agg (encSegment y).toArray) = (eqV ex.T 12 154 (.agg (encSegment x).toArray) (.agg (encSegment y).toArray)).map fun b => .bool (!b) := by kernel_rfl
  have h2 : (!((eqI x.fMat y.fMat) && (eqI x.fEpoch y.fEpoch) && (eqI x.fAnchor y.fAnchor))) = c := by rw [e, Bool.eq_iff_iff, Bool.not_eq_true', ← Bool.not_eq_true, encSegment_eqb]; exact (@decide_eq_true_iff _ (Classical.propDecidable _)).symm
  rw [h1, encSegment_eqW]; show some (Value.bool (!((eqI x.fMat y.fMat) && (eqI x.fEpoch y.fEpoch) && (eqI x.fAnchor y.fAnchor)))) = _; rw [h2]
theorem T_agg26 : ex.T.agg 26 = some false := by kernel_rfl
theorem T_agg27 : ex.T.agg 27 = some false := by kernel_rfl
theorem T_agg41 : ex.T.agg 41 = some false := by kernel_rfl
theorem T_agg43 : ex.T.agg 43 = some true := by kernel_rfl
theorem T_agg67 : ex.T.agg 67 = some true := by kernel_rfl
theorem T_agg97 : ex.T.agg 97 = some false := by kernel_rfl
theorem T_size43 : ex.T.size 43 = some 3 := by kernel_rfl
theorem T_size67 : ex.T.size 67 = some 2 := by kernel_rfl
theorem T_size97 : ex.T.size 97 = some 1 := by kernel_rfl
theorem T_und26 : ex.T.und 26 = some (.slice 67) := by kernel_rfl
theorem T_und27 : ex.T.und 27 = some (.slice 43) := by kernel_rfl
theorem T_und41 : ex.T.und 41 = some (.slice 97) := by kernel_rfl
theorem T_und97 : ex.T.und 97 = some (.slice 99) := by kernel_rfl
theorem same07_wf (K J : SV Int) (hp : Ht) (nx : Nat) (hK : SOk encI 1 hp nx K) (hJ : SOk encI 1 hp nx J) : WF ex 22 [K.v, J.v] hp nx (Stays nx hp (BoolIs (EqL (fun a b => a = b) K.l J.l))) := by
 obtain ⟨a1, c2, hv3⟩ := hK.shape
 have hsm3 := hK.2.2
 rw [hv3]
 obtain ⟨a4, c5, hv6⟩ := hJ.shape
 have hsm6 := hJ.2.2
 rw [hv6]
 refine WF.body (fi := ⟨Tryz.f22.body.getD .skip, 26, [.tmp 4]⟩) (by kernel_rfl) (by kernel_rfl) (by kernel_rfl) rfl ?_
 have hE := HE.refl nx hp
 refine sr ?_
 refine ov 4 (.bool false) ?_
 refine WO.nil ?_
 refine WP.seq ?_
 refine sr ?_
 refine ov 6 (.slice a1 (K.l.length) c2) ?_
 refine ov 7 (.int .i64 (.ofNat (K.l.length))) ?_
 refine ov 8 (.slice a4 (J.l.length) c5) ?_
 refine ov 9 (.int .i64 (.ofNat (J.l.length))) ?_
 obtain ⟨c7, e7, p7⟩ := @nb ((!(eqI (.ofNat (K.l.length)) (.ofNat (J.l.length))))) (((K.l.length : Nat) : Int) ≠ ((J.l.length : Nat) : Int)) (neI_iff)
 refine ov 10 (.bool c7) ?_ (fun _ _ _ => by subst e7; kernel_rfl)
 refine WO.nil ?_
 refine WP.cond c7 (by kernel_rfl) (fun h8 => ?_) (fun h8 => ?_)
 ·
  have q9 := (p7).1 h8
  refine sr ?_
  refine ov 4 (.bool false) ?_
  refine WO.nil ?_
  refine WP.ret ⟨rfl, rfl, [.bool false], by kernel_rfl, ?_⟩
  refine ⟨⟨false, rfl, ⟨fun h => (by cases h), fun hok => False.elim ?_⟩⟩, (Nat.le_refl nx), hE⟩
  exact absurd hok.1 (by omega)
 ·
  have q9 := nq p7 h8
  refine WP.skip ?_
  refine WP.seq ?_
  refine sr ?_
  refine ov 5 (.int .i64 (0)) ?_
  refine WO.nil ?_
  refine WP.block ?_
  have hj11 : ∀ t : Tm, (((t.set 0 (t.get 0)).set 1 (t.get 1)).set 5 (t.get 5)) = t := fun t => by kernel_rfl
  refine WP.loop (fun m s => ∃ (iL10 : Nat), iL10 + m = K.l.length ∧ s.to.get 0 = .slice a1 (K.l.length) c2 ∧ s.to.get 1 = .slice a4 (J.l.length) c5 ∧ s.to.get 5 = .int .i64 (.ofNat iL10) ∧ s.ds = [] ∧ s.cs = [] ∧ nx ≤ s.nx ∧ HE (nx) hp s.hp ∧ (∀ (j : Nat) a b, j < iL10 → K.l[j]? = some a → J.l[j]? = some b → (fun a b => a = b) a b)) ?_ (K.l.length) ?_
  ·
   rintro mL10 ⟨toL10, dsL10, hp12, nx13, csL10⟩ ⟨iL10, him14, gL10_0, gL10_1, gL10_5, hdsL10, hcsL10, hn15, he16, heq⟩
   simp only at gL10_0 gL10_1 gL10_5 hdsL10 hcsL10 hn15 he16
   subst hdsL10 hcsL10
   rw [← hj11 toL10, gL10_0, gL10_1, gL10_5]
   clear gL10_0 gL10_1 gL10_5
   have hE17 := hE.trans he16 (Nat.le_refl nx)
   have le18 := Nat.le_trans (Nat.le_refl nx) hn15
   refine WP.seq ?_
   refine sr ?_
   refine ov 11 (.int .i64 (.ofNat iL10)) ?_
   refine ov 12 (.slice a1 (K.l.length) c2) ?_
   refine ov 13 (.int .i64 (.ofNat (K.l.length))) ?_
   obtain ⟨c19, e19, p19⟩ := @nb (ltI (.ofNat iL10) (.ofNat (K.l.length))) (((iL10 : Nat) : Int) < ((K.l.length : Nat) : Int)) (ltI_iff)
   refine ov 14 (.bool c19) ?_ (fun _ _ _ => by subst e19; kernel_rfl)
   refine WO.nil ?_
   refine WP.cond c19 (by kernel_rfl) (fun h20 => ?_) (fun h20 => ?_)
   ·
    have q21 := (p19).1 h20
    refine WP.skip ?_
    refine WP.seq ?_
    refine WP.block ?_
    refine WP.seq ?_
    refine WP.drawS [⟨[0, 1, 2, 3, 4, 5, 6, 7, 8], [0, 1, 2, 3, 4, 5, 6, 7, 8], none⟩] (by kernel_rfl) _ rfl ?_
    refine WD.last ?_
    refine nv 17 (.slice a1 (K.l.length) c2) ?_
    refine nv 18 (.int .i64 (.ofNat iL10)) ?_
    have hlt22 : iL10 < K.l.length := by omega
    refine WN.consAt rfl (WC.ix (k := .i64) a1 (K.l.length) c2 (iL10) 1 (by kernel_rfl) (by kernel_rfl) T_und30 T_size3 ((hK.mono hE17 le18).blkA hv3 (zl hlt22)) (hlt22) ?_)
    obtain ⟨x23, hx24⟩ : ∃ el_, K.l[iL10]? = some el_ := ⟨_, List.getElem?_eq_getElem (hlt22)⟩
    refine WN.consAt rfl (WC.load1E (blk a1) (0 + (iL10) * 1) (.int .i64 (x23)) (by kernel_rfl) T_agg3 ((hK.mono hE17 le18).blkB hv3 (zl hlt22)) (flat_at1 (hK.mono hE17 le18).1 hx24 rfl) ?_)
    refine nv 21 (.slice a4 (J.l.length) c5) ?_
    refine nv 22 (.int .i64 (.ofNat iL10)) ?_
    have hlt25 : iL10 < J.l.length := by omega
    refine WN.consAt rfl (WC.ix (k := .i64) a4 (J.l.length) c5 (iL10) 1 (by kernel_rfl) (by kernel_rfl) T_und30 T_size3 ((hJ.mono hE17 le18).blkA hv6 (zl hlt25)) (hlt25) ?_)
    obtain ⟨x26, hx27⟩ : ∃ el_, J.l[iL10]? = some el_ := ⟨_, List.getElem?_eq_getElem (hlt25)⟩
    refine WN.consAt rfl (WC.load1E (blk a4) (0 + (iL10) * 1) (.int .i64 (x26)) (by kernel_rfl) T_agg3 ((hJ.mono hE17 le18).blkB hv6 (zl hlt25)) (flat_at1 (hJ.mono hE17 le18).1 hx27 rfl) ?_)
    obtain ⟨c28, e28, p28⟩ := @nb ((!(eqI (x23) (x26)))) ((x23) ≠ (x26)) (neI_iff)
    refine nv 25 (.bool c28) ?_ (fun _ _ _ => by subst e28; kernel_rfl)
    refine WN.nil ⟨?_, ?_⟩
    ·
     refine cv (.slice a1 (K.l.length) c2) (hv3 ▸ hK.eqSelf 8) ?_
     refine cv (.int .i64 (.ofNat iL10)) (vEq_int ..) ?_
     refine co (.pointer (some ⟨(blk a1), 0 + (iL10) * 1, none⟩)) (eIndexAddr ex.T 30 (.slice a1 (K.l.length) c2) (.int .i64 (.ofNat (iL10)))) (eIndexAddr_A (k := .i64) T_und30 T_size3 ((hK.mono hE17 le18).blkA hv3 (zl hlt22)) (hlt22)) (vEq_ptr ..) ?_
     refine co (.int .i64 (x23)) (eLoad ex.T hp12.get 3 (.pointer (some ⟨(blk a1), 0 + (iL10) * 1, none⟩))) (eLoad_oneE T_agg3 ((hK.mono hE17 le18).blkB hv3 (zl hlt22)) (flat_at1 (hK.mono hE17 le18).1 hx24 rfl)) (vEq_int ..) ?_
     refine cv (.slice a4 (J.l.length) c5) (hv6 ▸ hJ.eqSelf 8) ?_
     refine cv (.int .i64 (.ofNat iL10)) (vEq_int ..) ?_
     refine co (.pointer (some ⟨(blk a4), 0 + (iL10) * 1, none⟩)) (eIndexAddr ex.T 30 (.slice a4 (J.l.length) c5) (.int .i64 (.ofNat (iL10)))) (eIndexAddr_A (k := .i64) T_und30 T_size3 ((hJ.mono hE17 le18).blkA hv6 (zl hlt25)) (hlt25)) (vEq_ptr ..) ?_
     refine co (.int .i64 (x26)) (eLoad ex.T hp12.get 3 (.pointer (some ⟨(blk a4), 0 + (iL10) * 1, none⟩))) (eLoad_oneE T_agg3 ((hJ.mono hE17 le18).blkB hv6 (zl hlt25)) (flat_at1 (hJ.mono hE17 le18).1 hx27 rfl)) (vEq_int ..) ?_
     refine cv (.bool c28) (vEq_bool 8 c28) ?_ (fun _ => by subst e28; kernel_rfl)
     exact Chks.nil
    refine WP.cond c28 (by kernel_rfl) (fun h29 => ?_) (fun h29 => ?_)
    ·
     have q30 := (p28).1 h29
     refine sr ?_
     refine ov 4 (.bool false) ?_
     refine WO.nil ?_
     refine WP.ret ⟨rfl, rfl, [.bool false], by kernel_rfl, ?_⟩
     refine ⟨⟨false, rfl, ⟨fun h => (by cases h), fun hok => False.elim ?_⟩⟩, le18, hE17⟩
     exact q30 (hok.2 _ _ _ hx24 hx27)
    ·
     have q30 := nq p28 h29
     refine WP.skip ?_
     refine WP.region ?_
     refine ov 15 (.int .i64 (.ofNat iL10)) ?_
     refine ov 16 (.int .i64 (.ofNat (iL10 + 1))) ?_ (fun _ _ _ => by rw [← wrapAdd (show iL10 + 1 < 9223372036854775808 by omega)]; kernel_rfl)
     refine ov 5 (.int .i64 (.ofNat (iL10 + 1))) ?_
     refine WO.nil ?_
     refine ⟨K.l.length - (iL10 + 1), by omega, iL10 + 1, by omega, by kernel_rfl, by kernel_rfl, by kernel_rfl, rfl, rfl, ?_, ?_, ?_⟩
     · exact hn15
     · exact he16
     · intro j a b hj ha hb
       rcases Nat.lt_succ_iff_lt_or_eq.1 hj with hj | rfl
       · exact heq j a b hj ha hb
       · rw [hx24] at ha; cases ha; rw [hx27] at hb; cases hb; exact Classical.not_not.1 q30
   ·
    have q21 := nq p19 h20
    refine WP.exit ?_
    refine sr ?_
    refine ov 4 (.bool true) ?_
    refine WO.nil ?_
    refine WP.ret ⟨rfl, rfl, [.bool true], by kernel_rfl, ?_⟩
    refine ⟨⟨true, rfl, ⟨fun _ => ?_, fun _ => rfl⟩⟩, le18, hE17⟩
    exact ⟨by omega, (fun j a b ha hb => heq j a b (by have := (List.getElem?_eq_some_iff.1 ha).1; omega) ha hb)⟩
  ·
   exact ⟨0, by omega, by kernel_rfl, by kernel_rfl, by kernel_rfl, rfl, rfl, Nat.le_refl _, HE.refl _ _, (fun _ _ _ h => absurd h (Nat.not_lt_zero _))⟩
theorem same23_wf (K J : SV ROutcome) (hp : Ht) (nx : Nat) (hK : SOk encOutcome 4 hp nx K) (hJ : SOk encOutcome 4 hp nx J) : WF ex 23 [K.v, J.v] hp nx (Stays nx hp (BoolIs (EqL (fun a b => a = b) K.l J.l))) := by
 obtain ⟨a1, c2, hv3⟩ := hK.shape
 have hsm3 := hK.2.2
 rw [hv3]
 obtain ⟨a4, c5, hv6⟩ := hJ.shape
 have hsm6 := hJ.2.2
 rw [hv6]
 refine WF.body (fi := ⟨Tryz.f23.body.getD .skip, 26, [.tmp 4]⟩) (by kernel_rfl) (by kernel_rfl) (by kernel_rfl) rfl ?_
 have hE := HE.refl nx hp
 refine sr ?_
 refine ov 4 (.bool false) ?_
 refine WO.nil ?_
 refine WP.seq ?_
 refine sr ?_
 refine ov 6 (.slice a1 (K.l.length) c2) ?_
 refine ov 7 (.int .i64 (.ofNat (K.l.length))) ?_
 refine ov 8 (.slice a4 (J.l.length) c5) ?_
 refine ov 9 (.int .i64 (.ofNat (J.l.length))) ?_
 obtain ⟨c7, e7, p7⟩ := @nb ((!(eqI (.ofNat (K.l.length)) (.ofNat (J.l.length))))) (((K.l.length : Nat) : Int) ≠ ((J.l.length : Nat) : Int)) (neI_iff)
 refine ov 10 (.bool c7) ?_ (fun _ _ _ => by subst e7; kernel_rfl)
 refine WO.nil ?_
 refine WP.cond c7 (by kernel_rfl) (fun h8 => ?_) (fun h8 => ?_)
 ·
  have q9 := (p7).1 h8
  refine sr ?_
  refine ov 4 (.bool false) ?_
  refine WO.nil ?_
  refine WP.ret ⟨rfl, rfl, [.bool false], by kernel_rfl, ?_⟩
  refine ⟨⟨false, rfl, ⟨fun h => (by cases h), fun hok => False.elim ?_⟩⟩, (Nat.le_refl nx), hE⟩
  exact absurd hok.1 (by omega)
 ·
  have q9 := nq p7 h8
  refine WP.skip ?_
  refine WP.seq ?_
  refine sr ?_
  refine ov 5 (.int .i64 (0)) ?_
  refine WO.nil ?_
  refine WP.block ?_
  have hj11 : ∀ t : Tm, (((t.set 0 (t.get 0)).set 1 (t.get 1)).set 5 (t.get 5)) = t := fun t => by kernel_rfl
  refine WP.loop (fun m s => ∃ (iL10 : Nat), iL10 + m = K.l.length ∧ s.to.get 0 = .slice a1 (K.l.length) c2 ∧ s.to.get 1 = .slice a4 (J.l.length) c5 ∧ s.to.get 5 = .int .i64 (.ofNat iL10) ∧ s.ds = [] ∧ s.cs = [] ∧ nx ≤ s.nx ∧ HE (nx) hp s.hp ∧ (∀ (j : Nat) a b, j < iL10 → K.l[j]? = some a → J.l[j]? = some b → (fun a b => a = b) a b)) ?_ (K.l.length) ?_
  ·
   rintro mL10 ⟨toL10, dsL10, hp12, nx13, csL10⟩ ⟨iL10, him14, gL10_0, gL10_1, gL10_5, hdsL10, hcsL10, hn15, he16, heq⟩
   simp only at gL10_0 gL10_1 gL10_5 hdsL10 hcsL10 hn15 he16
   subst hdsL10 hcsL10
   rw [← hj11 toL10, gL10_0, gL10_1, gL10_5]
   clear gL10_0 gL10_1 gL10_5
   have hE17 := hE.trans he16 (Nat.le_refl nx)
   have le18 := Nat.le_trans (Nat.le_refl nx) hn15
   refine WP.seq ?_
   refine sr ?_
   refine ov 11 (.int .i64 (.ofNat iL10)) ?_
   refine ov 12 (.slice a1 (K.l.length) c2) ?_
   refine ov 13 (.int .i64 (.ofNat (K.l.length))) ?_
   obtain ⟨c19, e19, p19⟩ := @nb (ltI (.ofNat iL10) (.ofNat (K.l.length))) (((iL10 : Nat) : Int) < ((K.l.length : Nat) : Int)) (ltI_iff)
   refine ov 14 (.bool c19) ?_ (fun _ _ _ => by subst e19; kernel_rfl)
   refine WO.nil ?_
   refine WP.cond c19 (by kernel_rfl) (fun h20 => ?_) (fun h20 => ?_)
   ·
    have q21 := (p19).1 h20
    refine WP.skip ?_
    refine WP.seq ?_
    refine WP.block ?_
    refine WP.seq ?_
    refine WP.drawS [⟨[0, 1, 2, 3, 4, 5, 6, 7, 8], [0, 1, 2, 3, 4, 5, 6, 7, 8], none⟩] (by kernel_rfl) _ rfl ?_
    refine WD.last ?_
    refine nv 17 (.slice a1 (K.l.length) c2) ?_
    refine nv 18 (.int .i64 (.ofNat iL10)) ?_
    have hlt22 : iL10 < K.l.length := by omega
    refine WN.consAt rfl (WC.ix (k := .i64) a1 (K.l.length) c2 (iL10) 4 (by kernel_rfl) (by kernel_rfl) T_und97 T_size99 ((hK.mono hE17 le18).blkA hv3 (zl hlt22)) (hlt22) ?_)
    obtain ⟨x23, hx24⟩ : ∃ el_, K.l[iL10]? = some el_ := ⟨_, List.getElem?_eq_getElem (hlt22)⟩
    refine WN.consAt rfl (WC.loadSE (blk a1) (0 + (iL10) * 4) (encOutcome x23) (by kernel_rfl) T_agg99 T_size99 ((hK.mono hE17 le18).blkB hv3 (zl hlt22)) (flat_at0 (hK.mono hE17 le18).1 hx24) ?_)
    refine nv 21 (.slice a4 (J.l.length) c5) ?_
    refine nv 22 (.int .i64 (.ofNat iL10)) ?_
    have hlt25 : iL10 < J.l.length := by omega
    refine WN.consAt rfl (WC.ix (k := .i64) a4 (J.l.length) c5 (iL10) 4 (by kernel_rfl) (by kernel_rfl) T_und97 T_size99 ((hJ.mono hE17 le18).blkA hv6 (zl hlt25)) (hlt25) ?_)
    obtain ⟨x26, hx27⟩ : ∃ el_, J.l[iL10]? = some el_ := ⟨_, List.getElem?_eq_getElem (hlt25)⟩
    refine WN.consAt rfl (WC.loadSE (blk a4) (0 + (iL10) * 4) (encOutcome x26) (by kernel_rfl) T_agg99 T_size99 ((hJ.mono hE17 le18).blkB hv6 (zl hlt25)) (flat_at0 (hJ.mono hE17 le18).1 hx27) ?_)
    obtain ⟨c28, e28, p28⟩ := @nb (@decide (x23 ≠ x26) (Classical.propDecidable _)) (x23 ≠ x26) (@decide_eq_true_iff _ (Classical.propDecidable _))
    refine WN.consAt rfl (WC.opt (v := .bool c28) 25 (eBin ex.T .neq 99 (.tmp 20) (.tmp 24) (.agg (encOutcome x23).toArray) (.agg (encOutcome x26).toArray)) (fun _ _ _ => by kernel_rfl) (encOutcome_neq _ _ x23 x26 e28) ?_)
    refine WN.nil ⟨?_, ?_⟩
    ·
     refine cv (.slice a1 (K.l.length) c2) (hv3 ▸ hK.eqSelf 8) ?_
     refine cv (.int .i64 (.ofNat iL10)) (vEq_int ..) ?_
     refine co (.pointer (some ⟨(blk a1), 0 + (iL10) * 4, none⟩)) (eIndexAddr ex.T 97 (.slice a1 (K.l.length) c2) (.int .i64 (.ofNat (iL10)))) (eIndexAddr_A (k := .i64) T_und97 T_size99 ((hK.mono hE17 le18).blkA hv3 (zl hlt22)) (hlt22)) (vEq_ptr ..) ?_
     refine co (.agg (encOutcome x23).toArray) (eLoad ex.T hp12.get 99 (.pointer (some ⟨(blk a1), 0 + (iL10) * 4, none⟩))) (eLoad_aggE T_agg99 T_size99 ((hK.mono hE17 le18).blkB hv3 (zl hlt22)) (flat_at0 (hK.mono hE17 le18).1 hx24)) (encOutcome_vEq x23) ?_
     refine cv (.slice a4 (J.l.length) c5) (hv6 ▸ hJ.eqSelf 8) ?_
     refine cv (.int .i64 (.ofNat iL10)) (vEq_int ..) ?_
     refine co (.pointer (some ⟨(blk a4), 0 + (iL10) * 4, none⟩)) (eIndexAddr ex.T 97 (.slice a4 (J.l.length) c5) (.int .i64 (.ofNat (iL10)))) (eIndexAddr_A (k := .i64) T_und97 T_size99 ((hJ.mono hE17 le18).blkA hv6 (zl hlt25)) (hlt25)) (vEq_ptr ..) ?_
     refine co (.agg (encOutcome x26).toArray) (eLoad ex.T hp12.get 99 (.pointer (some ⟨(blk a4), 0 + (iL10) * 4, none⟩))) (eLoad_aggE T_agg99 T_size99 ((hJ.mono hE17 le18).blkB hv6 (zl hlt25)) (flat_at0 (hJ.mono hE17 le18).1 hx27)) (encOutcome_vEq x26) ?_
     refine co (.bool c28) (eBin ex.T .neq 99 (.tmp 20) (.tmp 24) (.agg (encOutcome x23).toArray) (.agg (encOutcome x26).toArray)) ((encOutcome_neq _ _ x23 x26 e28)) (vEq_bool 8 c28) ?_
     exact Chks.nil
    refine WP.cond c28 (by kernel_rfl) (fun h29 => ?_) (fun h29 => ?_)
    ·
     have q30 := (p28).1 h29
     refine sr ?_
     refine ov 4 (.bool false) ?_
     refine WO.nil ?_
     refine WP.ret ⟨rfl, rfl, [.bool false], by kernel_rfl, ?_⟩
     refine ⟨⟨false, rfl, ⟨fun h => (by cases h), fun hok => False.elim ?_⟩⟩, le18, hE17⟩
     exact q30 (hok.2 _ _ _ hx24 hx27)
    ·
     have q30 := nq p28 h29
     refine WP.skip ?_
     refine WP.region ?_
     refine ov 15 (.int .i64 (.ofNat iL10)) ?_
     refine ov 16 (.int .i64 (.ofNat (iL10 + 1))) ?_ (fun _ _ _ => by rw [← wrapAdd (show iL10 + 1 < 9223372036854775808 by omega)]; kernel_rfl)
     refine ov 5 (.int .i64 (.ofNat (iL10 + 1))) ?_
     refine WO.nil ?_
     refine ⟨K.l.length - (iL10 + 1), by omega, iL10 + 1, by omega, by kernel_rfl, by kernel_rfl, by kernel_rfl, rfl, rfl, ?_, ?_, ?_⟩
     · exact hn15
     · exact he16
     · intro j a b hj ha hb
       rcases Nat.lt_succ_iff_lt_or_eq.1 hj with hj | rfl
       · exact heq j a b hj ha hb
       · rw [hx24] at ha; cases ha; rw [hx27] at hb; cases hb; exact Classical.not_not.1 q30
   ·
    have q21 := nq p19 h20
    refine WP.exit ?_
    refine sr ?_
    refine ov 4 (.bool true) ?_
    refine WO.nil ?_
    refine WP.ret ⟨rfl, rfl, [.bool true], by kernel_rfl, ?_⟩
    refine ⟨⟨true, rfl, ⟨fun _ => ?_, fun _ => rfl⟩⟩, le18, hE17⟩
    exact ⟨by omega, (fun j a b ha hb => heq j a b (by have := (List.getElem?_eq_some_iff.1 ha).1; omega) ha hb)⟩
  ·
   exact ⟨0, by omega, by kernel_rfl, by kernel_rfl, by kernel_rfl, rfl, rfl, Nat.le_refl _, HE.refl _ _, (fun _ _ _ h => absurd h (Nat.not_lt_zero _))⟩
theorem samePairs_wf (K J : SV RPair) (hp : Ht) (nx : Nat) (hK : SOk encPair 2 hp nx K) (hJ : SOk encPair 2 hp nx J) : WF ex 37 [K.v, J.v] hp nx (Stays nx hp (BoolIs (EqL (fun a b => a = b) K.l J.l))) := by
 obtain ⟨a1, c2, hv3⟩ := hK.shape
 have hsm3 := hK.2.2
 rw [hv3]
 obtain ⟨a4, c5, hv6⟩ := hJ.shape
 have hsm6 := hJ.2.2
 rw [hv6]
 refine WF.body (fi := ⟨Tryz.f37.body.getD .skip, 26, [.tmp 4]⟩) (by kernel_rfl) (by kernel_rfl) (by kernel_rfl) rfl ?_
 have hE := HE.refl nx hp
 refine sr ?_
 refine ov 4 (.bool false) ?_
 refine WO.nil ?_
 refine WP.seq ?_
 refine sr ?_
 refine ov 6 (.slice a1 (K.l.length) c2) ?_
 refine ov 7 (.int .i64 (.ofNat (K.l.length))) ?_
 refine ov 8 (.slice a4 (J.l.length) c5) ?_
 refine ov 9 (.int .i64 (.ofNat (J.l.length))) ?_
 obtain ⟨c7, e7, p7⟩ := @nb ((!(eqI (.ofNat (K.l.length)) (.ofNat (J.l.length))))) (((K.l.length : Nat) : Int) ≠ ((J.l.length : Nat) : Int)) (neI_iff)
 refine ov 10 (.bool c7) ?_ (fun _ _ _ => by subst e7; kernel_rfl)
 refine WO.nil ?_
 refine WP.cond c7 (by kernel_rfl) (fun h8 => ?_) (fun h8 => ?_)
 ·
  have q9 := (p7).1 h8
  refine sr ?_
  refine ov 4 (.bool false) ?_
  refine WO.nil ?_
  refine WP.ret ⟨rfl, rfl, [.bool false], by kernel_rfl, ?_⟩
  refine ⟨⟨false, rfl, ⟨fun h => (by cases h), fun hok => False.elim ?_⟩⟩, (Nat.le_refl nx), hE⟩
  exact absurd hok.1 (by omega)
 ·
  have q9 := nq p7 h8
  refine WP.skip ?_
  refine WP.seq ?_
  refine sr ?_
  refine ov 5 (.int .i64 (0)) ?_
  refine WO.nil ?_
  refine WP.block ?_
  have hj11 : ∀ t : Tm, (((t.set 0 (t.get 0)).set 1 (t.get 1)).set 5 (t.get 5)) = t := fun t => by kernel_rfl
  refine WP.loop (fun m s => ∃ (iL10 : Nat), iL10 + m = K.l.length ∧ s.to.get 0 = .slice a1 (K.l.length) c2 ∧ s.to.get 1 = .slice a4 (J.l.length) c5 ∧ s.to.get 5 = .int .i64 (.ofNat iL10) ∧ s.ds = [] ∧ s.cs = [] ∧ nx ≤ s.nx ∧ HE (nx) hp s.hp ∧ (∀ (j : Nat) a b, j < iL10 → K.l[j]? = some a → J.l[j]? = some b → (fun a b => a = b) a b)) ?_ (K.l.length) ?_
  ·
   rintro mL10 ⟨toL10, dsL10, hp12, nx13, csL10⟩ ⟨iL10, him14, gL10_0, gL10_1, gL10_5, hdsL10, hcsL10, hn15, he16, heq⟩
   simp only at gL10_0 gL10_1 gL10_5 hdsL10 hcsL10 hn15 he16
   subst hdsL10 hcsL10
   rw [← hj11 toL10, gL10_0, gL10_1, gL10_5]
   clear gL10_0 gL10_1 gL10_5
   have hE17 := hE.trans he16 (Nat.le_refl nx)
   have le18 := Nat.le_trans (Nat.le_refl nx) hn15
   refine WP.seq ?_
   refine sr ?_
   refine ov 11 (.int .i64 (.ofNat iL10)) ?_
   refine ov 12 (.slice a1 (K.l.length) c2) ?_
   refine ov 13 (.int .i64 (.ofNat (K.l.length))) ?_
   obtain ⟨c19, e19, p19⟩ := @nb (ltI (.ofNat iL10) (.ofNat (K.l.length))) (((iL10 : Nat) : Int) < ((K.l.length : Nat) : Int)) (ltI_iff)
   refine ov 14 (.bool c19) ?_ (fun _ _ _ => by subst e19; kernel_rfl)
   refine WO.nil ?_
   refine WP.cond c19 (by kernel_rfl) (fun h20 => ?_) (fun h20 => ?_)
   ·
    have q21 := (p19).1 h20
    refine WP.skip ?_
    refine WP.seq ?_
    refine WP.block ?_
    refine WP.seq ?_
    refine WP.drawS [⟨[0, 1, 2, 3, 4, 5, 6, 7, 8], [0, 1, 2, 3, 4, 5, 6, 7, 8], none⟩] (by kernel_rfl) _ rfl ?_
    refine WD.last ?_
    refine nv 17 (.slice a1 (K.l.length) c2) ?_
    refine nv 18 (.int .i64 (.ofNat iL10)) ?_
    have hlt22 : iL10 < K.l.length := by omega
    refine WN.consAt rfl (WC.ix (k := .i64) a1 (K.l.length) c2 (iL10) 2 (by kernel_rfl) (by kernel_rfl) T_und26 T_size67 ((hK.mono hE17 le18).blkA hv3 (zl hlt22)) (hlt22) ?_)
    obtain ⟨x23, hx24⟩ : ∃ el_, K.l[iL10]? = some el_ := ⟨_, List.getElem?_eq_getElem (hlt22)⟩
    refine WN.consAt rfl (WC.loadSE (blk a1) (0 + (iL10) * 2) (encPair x23) (by kernel_rfl) T_agg67 T_size67 ((hK.mono hE17 le18).blkB hv3 (zl hlt22)) (flat_at0 (hK.mono hE17 le18).1 hx24) ?_)
    refine nv 21 (.slice a4 (J.l.length) c5) ?_
    refine nv 22 (.int .i64 (.ofNat iL10)) ?_
    have hlt25 : iL10 < J.l.length := by omega
    refine WN.consAt rfl (WC.ix (k := .i64) a4 (J.l.length) c5 (iL10) 2 (by kernel_rfl) (by kernel_rfl) T_und26 T_size67 ((hJ.mono hE17 le18).blkA hv6 (zl hlt25)) (hlt25) ?_)
    obtain ⟨x26, hx27⟩ : ∃ el_, J.l[iL10]? = some el_ := ⟨_, List.getElem?_eq_getElem (hlt25)⟩
    refine WN.consAt rfl (WC.loadSE (blk a4) (0 + (iL10) * 2) (encPair x26) (by kernel_rfl) T_agg67 T_size67 ((hJ.mono hE17 le18).blkB hv6 (zl hlt25)) (flat_at0 (hJ.mono hE17 le18).1 hx27) ?_)
    obtain ⟨c28, e28, p28⟩ := @nb (@decide (x23 ≠ x26) (Classical.propDecidable _)) (x23 ≠ x26) (@decide_eq_true_iff _ (Classical.propDecidable _))
    refine WN.consAt rfl (WC.opt (v := .bool c28) 25 (eBin ex.T .neq 67 (.tmp 20) (.tmp 24) (.agg (encPair x23).toArray) (.agg (encPair x26).toArray)) (fun _ _ _ => by kernel_rfl) (encPair_neq _ _ x23 x26 e28) ?_)
    refine WN.nil ⟨?_, ?_⟩
    ·
     refine cv (.slice a1 (K.l.length) c2) (hv3 ▸ hK.eqSelf 8) ?_
     refine cv (.int .i64 (.ofNat iL10)) (vEq_int ..) ?_
     refine co (.pointer (some ⟨(blk a1), 0 + (iL10) * 2, none⟩)) (eIndexAddr ex.T 26 (.slice a1 (K.l.length) c2) (.int .i64 (.ofNat (iL10)))) (eIndexAddr_A (k := .i64) T_und26 T_size67 ((hK.mono hE17 le18).blkA hv3 (zl hlt22)) (hlt22)) (vEq_ptr ..) ?_
     refine co (.agg (encPair x23).toArray) (eLoad ex.T hp12.get 67 (.pointer (some ⟨(blk a1), 0 + (iL10) * 2, none⟩))) (eLoad_aggE T_agg67 T_size67 ((hK.mono hE17 le18).blkB hv3 (zl hlt22)) (flat_at0 (hK.mono hE17 le18).1 hx24)) (encPair_vEq x23) ?_
     refine cv (.slice a4 (J.l.length) c5) (hv6 ▸ hJ.eqSelf 8) ?_
     refine cv (.int .i64 (.ofNat iL10)) (vEq_int ..) ?_
     refine co (.pointer (some ⟨(blk a4), 0 + (iL10) * 2, none⟩)) (eIndexAddr ex.T 26 (.slice a4 (J.l.length) c5) (.int .i64 (.ofNat (iL10)))) (eIndexAddr_A (k := .i64) T_und26 T_size67 ((hJ.mono hE17 le18).blkA hv6 (zl hlt25)) (hlt25)) (vEq_ptr ..) ?_
     refine co (.agg (encPair x26).toArray) (eLoad ex.T hp12.get 67 (.pointer (some ⟨(blk a4), 0 + (iL10) * 2, none⟩))) (eLoad_aggE T_agg67 T_size67 ((hJ.mono hE17 le18).blkB hv6 (zl hlt25)) (flat_at0 (hJ.mono hE17 le18).1 hx27)) (encPair_vEq x26) ?_
     refine co (.bool c28) (eBin ex.T .neq 67 (.tmp 20) (.tmp 24) (.agg (encPair x23).toArray) (.agg (encPair x26).toArray)) ((encPair_neq _ _ x23 x26 e28)) (vEq_bool 8 c28) ?_
     exact Chks.nil
    refine WP.cond c28 (by kernel_rfl) (fun h29 => ?_) (fun h29 => ?_)
    ·
     have q30 := (p28).1 h29
     refine sr ?_
     refine ov 4 (.bool false) ?_
     refine WO.nil ?_
     refine WP.ret ⟨rfl, rfl, [.bool false], by kernel_rfl, ?_⟩
     refine ⟨⟨false, rfl, ⟨fun h => (by cases h), fun hok => False.elim ?_⟩⟩, le18, hE17⟩
     exact q30 (hok.2 _ _ _ hx24 hx27)
    ·
     have q30 := nq p28 h29
     refine WP.skip ?_
     refine WP.region ?_
     refine ov 15 (.int .i64 (.ofNat iL10)) ?_
     refine ov 16 (.int .i64 (.ofNat (iL10 + 1))) ?_ (fun _ _ _ => by rw [← wrapAdd (show iL10 + 1 < 9223372036854775808 by omega)]; kernel_rfl)
     refine ov 5 (.int .i64 (.ofNat (iL10 + 1))) ?_
     refine WO.nil ?_
     refine ⟨K.l.length - (iL10 + 1), by omega, iL10 + 1, by omega, by kernel_rfl, by kernel_rfl, by kernel_rfl, rfl, rfl, ?_, ?_, ?_⟩
     · exact hn15
     · exact he16
     · intro j a b hj ha hb
       rcases Nat.lt_succ_iff_lt_or_eq.1 hj with hj | rfl
       · exact heq j a b hj ha hb
       · rw [hx24] at ha; cases ha; rw [hx27] at hb; cases hb; exact Classical.not_not.1 q30
   ·
    have q21 := nq p19 h20
    refine WP.exit ?_
    refine sr ?_
    refine ov 4 (.bool true) ?_
    refine WO.nil ?_
    refine WP.ret ⟨rfl, rfl, [.bool true], by kernel_rfl, ?_⟩
    refine ⟨⟨true, rfl, ⟨fun _ => ?_, fun _ => rfl⟩⟩, le18, hE17⟩
    exact ⟨by omega, (fun j a b ha hb => heq j a b (by have := (List.getElem?_eq_some_iff.1 ha).1; omega) ha hb)⟩
  ·
   exact ⟨0, by omega, by kernel_rfl, by kernel_rfl, by kernel_rfl, rfl, rfl, Nat.le_refl _, HE.refl _ _, (fun _ _ _ h => absurd h (Nat.not_lt_zero _))⟩
theorem sameSegs_wf (K J : SV RSegment) (hp : Ht) (nx : Nat) (hK : SOk encSegment 3 hp nx K) (hJ : SOk encSegment 3 hp nx J) : WF ex 66 [K.v, J.v] hp nx (Stays nx hp (BoolIs (EqL (fun a b => a = b) K.l J.l))) := by
 obtain ⟨a1, c2, hv3⟩ := hK.shape
 have hsm3 := hK.2.2
 rw [hv3]
 obtain ⟨a4, c5, hv6⟩ := hJ.shape
 have hsm6 := hJ.2.2
 rw [hv6]
 refine WF.body (fi := ⟨Tryz.f66.body.getD .skip, 26, [.tmp 4]⟩) (by kernel_rfl) (by kernel_rfl) (by kernel_rfl) rfl ?_
 have hE := HE.refl nx hp
 refine sr ?_
 refine ov 4 (.bool false) ?_
 refine WO.nil ?_
 refine WP.seq ?_
 refine sr ?_
 refine ov 6 (.slice a1 (K.l.length) c2) ?_
 refine ov 7 (.int .i64 (.ofNat (K.l.length))) ?_
 refine ov 8 (.slice a4 (J.l.length) c5) ?_
 refine ov 9 (.int .i64 (.ofNat (J.l.length))) ?_
 obtain ⟨c7, e7, p7⟩ := @nb ((!(eqI (.ofNat (K.l.length)) (.ofNat (J.l.length))))) (((K.l.length : Nat) : Int) ≠ ((J.l.length : Nat) : Int)) (neI_iff)
 refine ov 10 (.bool c7) ?_ (fun _ _ _ => by subst e7; kernel_rfl)
 refine WO.nil ?_
 refine WP.cond c7 (by kernel_rfl) (fun h8 => ?_) (fun h8 => ?_)
 ·
  have q9 := (p7).1 h8
  refine sr ?_
  refine ov 4 (.bool false) ?_
  refine WO.nil ?_
  refine WP.ret ⟨rfl, rfl, [.bool false], by kernel_rfl, ?_⟩
  refine ⟨⟨false, rfl, ⟨fun h => (by cases h), fun hok => False.elim ?_⟩⟩, (Nat.le_refl nx), hE⟩
  exact absurd hok.1 (by omega)
 ·
  have q9 := nq p7 h8
  refine WP.skip ?_
  refine WP.seq ?_
  refine sr ?_
  refine ov 5 (.int .i64 (0)) ?_
  refine WO.nil ?_
  refine WP.block ?_
  have hj11 : ∀ t : Tm, (((t.set 0 (t.get 0)).set 1 (t.get 1)).set 5 (t.get 5)) = t := fun t => by kernel_rfl
  refine WP.loop (fun m s => ∃ (iL10 : Nat), iL10 + m = K.l.length ∧ s.to.get 0 = .slice a1 (K.l.length) c2 ∧ s.to.get 1 = .slice a4 (J.l.length) c5 ∧ s.to.get 5 = .int .i64 (.ofNat iL10) ∧ s.ds = [] ∧ s.cs = [] ∧ nx ≤ s.nx ∧ HE (nx) hp s.hp ∧ (∀ (j : Nat) a b, j < iL10 → K.l[j]? = some a → J.l[j]? = some b → (fun a b => a = b) a b)) ?_ (K.l.length) ?_
  ·
   rintro mL10 ⟨toL10, dsL10, hp12, nx13, csL10⟩ ⟨iL10, him14, gL10_0, gL10_1, gL10_5, hdsL10, hcsL10, hn15, he16, heq⟩
   simp only at gL10_0 gL10_1 gL10_5 hdsL10 hcsL10 hn15 he16
   subst hdsL10 hcsL10
   rw [← hj11 toL10, gL10_0, gL10_1, gL10_5]
   clear gL10_0 gL10_1 gL10_5
   have hE17 := hE.trans he16 (Nat.le_refl nx)
   have le18 := Nat.le_trans (Nat.le_refl nx) hn15
   refine WP.seq ?_
   refine sr ?_
   refine ov 11 (.int .i64 (.ofNat iL10)) ?_
   refine ov 12 (.slice a1 (K.l.length) c2) ?_
   refine ov 13 (.int .i64 (.ofNat (K.l.length))) ?_
   obtain ⟨c19, e19, p19⟩ := @nb (ltI (.ofNat iL10) (.ofNat (K.l.length))) (((iL10 : Nat) : Int) < ((K.l.length : Nat) : Int)) (ltI_iff)
   refine ov 14 (.bool c19) ?_ (fun _ _ _ => by subst e19; kernel_rfl)
   refine WO.nil ?_
   refine WP.cond c19 (by kernel_rfl) (fun h20 => ?_) (fun h20 => ?_)
   ·
    have q21 := (p19).1 h20
    refine WP.skip ?_
    refine WP.seq ?_
    refine WP.block ?_
    refine WP.seq ?_
    refine WP.drawS [⟨[0, 1, 2, 3, 4, 5, 6, 7, 8], [0, 1, 2, 3, 4, 5, 6, 7, 8], none⟩] (by kernel_rfl) _ rfl ?_
    refine WD.last ?_
    refine nv 17 (.slice a1 (K.l.length) c2) ?_
    refine nv 18 (.int .i64 (.ofNat iL10)) ?_
    have hlt22 : iL10 < K.l.length := by omega
    refine WN.consAt rfl (WC.ix (k := .i64) a1 (K.l.length) c2 (iL10) 3 (by kernel_rfl) (by kernel_rfl) T_und22 T_size154 ((hK.mono hE17 le18).blkA hv3 (zl hlt22)) (hlt22) ?_)
    obtain ⟨x23, hx24⟩ : ∃ el_, K.l[iL10]? = some el_ := ⟨_, List.getElem?_eq_getElem (hlt22)⟩
    refine WN.consAt rfl (WC.loadSE (blk a1) (0 + (iL10) * 3) (encSegment x23) (by kernel_rfl) T_agg154 T_size154 ((hK.mono hE17 le18).blkB hv3 (zl hlt22)) (flat_at0 (hK.mono hE17 le18).1 hx24) ?_)
    refine nv 21 (.slice a4 (J.l.length) c5) ?_
    refine nv 22 (.int .i64 (.ofNat iL10)) ?_
    have hlt25 : iL10 < J.l.length := by omega
    refine WN.consAt rfl (WC.ix (k := .i64) a4 (J.l.length) c5 (iL10) 3 (by kernel_rfl) (by kernel_rfl) T_und22 T_size154 ((hJ.mono hE17 le18).blkA hv6 (zl hlt25)) (hlt25) ?_)
    obtain ⟨x26, hx27⟩ : ∃ el_, J.l[iL10]? = some el_ := ⟨_, List.getElem?_eq_getElem (hlt25)⟩
    refine WN.consAt rfl (WC.loadSE (blk a4) (0 + (iL10) * 3) (encSegment x26) (by kernel_rfl) T_agg154 T_size154 ((hJ.mono hE17 le18).blkB hv6 (zl hlt25)) (flat_at0 (hJ.mono hE17 le18).1 hx27) ?_)
    obtain ⟨c28, e28, p28⟩ := @nb (@decide (x23 ≠ x26) (Classical.propDecidable _)) (x23 ≠ x26) (@decide_eq_true_iff _ (Classical.propDecidable _))
    refine WN.consAt rfl (WC.opt (v := .bool c28) 25 (eBin ex.T .neq 154 (.tmp 20) (.tmp 24) (.agg (encSegment x23).toArray) (.agg (encSegment x26).toArray)) (fun _ _ _ => by kernel_rfl) (encSegment_neq _ _ x23 x26 e28) ?_)
    refine WN.nil ⟨?_, ?_⟩
    ·
     refine cv (.slice a1 (K.l.length) c2) (hv3 ▸ hK.eqSelf 8) ?_
     refine cv (.int .i64 (.ofNat iL10)) (vEq_int ..) ?_
     refine co (.pointer (some ⟨(blk a1), 0 + (iL10) * 3, none⟩)) (eIndexAddr ex.T 22 (.slice a1 (K.l.length) c2) (.int .i64 (.ofNat (iL10)))) (eIndexAddr_A (k := .i64) T_und22 T_size154 ((hK.mono hE17 le18).blkA hv3 (zl hlt22)) (hlt22)) (vEq_ptr ..) ?_
     refine co (.agg (encSegment x23).toArray) (eLoad ex.T hp12.get 154 (.pointer (some ⟨(blk a1), 0 + (iL10) * 3, none⟩))) (eLoad_aggE T_agg154 T_size154 ((hK.mono hE17 le18).blkB hv3 (zl hlt22)) (flat_at0 (hK.mono hE17 le18).1 hx24)) (encSegment_vEq x23) ?_
     refine cv (.slice a4 (J.l.length) c5) (hv6 ▸ hJ.eqSelf 8) ?_
     refine cv (.int .i64 (.ofNat iL10)) (vEq_int ..) ?_
     refine co (.pointer (some ⟨(blk a4), 0 + (iL10) * 3, none⟩)) (eIndexAddr ex.T 22 (.slice a4 (J.l.length) c5) (.int .i64 (.ofNat (iL10)))) (eIndexAddr_A (k := .i64) T_und22 T_size154 ((hJ.mono hE17 le18).blkA hv6 (zl hlt25)) (hlt25)) (vEq_ptr ..) ?_
     refine co (.agg (encSegment x26).toArray) (eLoad ex.T hp12.get 154 (.pointer (some ⟨(blk a4), 0 + (iL10) * 3, none⟩))) (eLoad_aggE T_agg154 T_size154 ((hJ.mono hE17 le18).blkB hv6 (zl hlt25)) (flat_at0 (hJ.mono hE17 le18).1 hx27)) (encSegment_vEq x26) ?_
     refine co (.bool c28) (eBin ex.T .neq 154 (.tmp 20) (.tmp 24) (.agg (encSegment x23).toArray) (.agg (encSegment x26).toArray)) ((encSegment_neq _ _ x23 x26 e28)) (vEq_bool 8 c28) ?_
     exact Chks.nil
    refine WP.cond c28 (by kernel_rfl) (fun h29 => ?_) (fun h29 => ?_)
    ·
     have q30 := (p28).1 h29
     refine sr ?_
     refine ov 4 (.bool false) ?_
     refine WO.nil ?_
     refine WP.ret ⟨rfl, rfl, [.bool false], by kernel_rfl, ?_⟩
     refine ⟨⟨false, rfl, ⟨fun h => (by cases h), fun hok => False.elim ?_⟩⟩, le18, hE17⟩
     exact q30 (hok.2 _ _ _ hx24 hx27)
    ·
     have q30 := nq p28 h29
     refine WP.skip ?_
     refine WP.region ?_
     refine ov 15 (.int .i64 (.ofNat iL10)) ?_
     refine ov 16 (.int .i64 (.ofNat (iL10 + 1))) ?_ (fun _ _ _ => by rw [← wrapAdd (show iL10 + 1 < 9223372036854775808 by omega)]; kernel_rfl)
     refine ov 5 (.int .i64 (.ofNat (iL10 + 1))) ?_
     refine WO.nil ?_
     refine ⟨K.l.length - (iL10 + 1), by omega, iL10 + 1, by omega, by kernel_rfl, by kernel_rfl, by kernel_rfl, rfl, rfl, ?_, ?_, ?_⟩
     · exact hn15
     · exact he16
     · intro j a b hj ha hb
       rcases Nat.lt_succ_iff_lt_or_eq.1 hj with hj | rfl
       · exact heq j a b hj ha hb
       · rw [hx24] at ha; cases ha; rw [hx27] at hb; cases hb; exact Classical.not_not.1 q30
   ·
    have q21 := nq p19 h20
    refine WP.exit ?_
    refine sr ?_
    refine ov 4 (.bool true) ?_
    refine WO.nil ?_
    refine WP.ret ⟨rfl, rfl, [.bool true], by kernel_rfl, ?_⟩
    refine ⟨⟨true, rfl, ⟨fun _ => ?_, fun _ => rfl⟩⟩, le18, hE17⟩
    exact ⟨by omega, (fun j a b ha hb => heq j a b (by have := (List.getElem?_eq_some_iff.1 ha).1; omega) ha hb)⟩
  ·
   exact ⟨0, by omega, by kernel_rfl, by kernel_rfl, by kernel_rfl, rfl, rfl, Nat.le_refl _, HE.refl _ _, (fun _ _ _ h => absurd h (Nat.not_lt_zero _))⟩
theorem sameWorlds_wf (K J : SV (SV ROutcome)) (hp : Ht) (nx : Nat) (hK : SlOk encSl 1 (fun hp nx y => SOk encOutcome 4 hp nx y) hp nx K) (hJ : SlOk encSl 1 (fun hp nx y => SOk encOutcome 4 hp nx y) hp nx J) : WF ex 38 [K.v, J.v] hp nx (Stays nx hp (BoolIs (EqL eqO1 K.l J.l))) := by
 obtain ⟨a1, c2, hv3⟩ := hK.1.shape
 have hsm3 := hK.1.2.2
 rw [hv3]
 obtain ⟨a4, c5, hv6⟩ := hJ.1.shape
 have hsm6 := hJ.1.2.2
 rw [hv6]
 refine WF.body (fi := ⟨Tryz.f38.body.getD .skip, 27, [.tmp 4]⟩) (by kernel_rfl) (by kernel_rfl) (by kernel_rfl) rfl ?_
 have hE := HE.refl nx hp
 refine sr ?_
 refine ov 4 (.bool false) ?_
 refine WO.nil ?_
 refine WP.seq ?_
 refine sr ?_
 refine ov 6 (.slice a1 (K.l.length) c2) ?_
 refine ov 7 (.int .i64 (.ofNat (K.l.length))) ?_
 refine ov 8 (.slice a4 (J.l.length) c5) ?_
 refine ov 9 (.int .i64 (.ofNat (J.l.length))) ?_
 obtain ⟨c7, e7, p7⟩ := @nb ((!(eqI (.ofNat (K.l.length)) (.ofNat (J.l.length))))) (((K.l.length : Nat) : Int) ≠ ((J.l.length : Nat) : Int)) (neI_iff)
 refine ov 10 (.bool c7) ?_ (fun _ _ _ => by subst e7; kernel_rfl)
 refine WO.nil ?_
 refine WP.cond c7 (by kernel_rfl) (fun h8 => ?_) (fun h8 => ?_)
 ·
  have q9 := (p7).1 h8
  refine sr ?_
  refine ov 4 (.bool false) ?_
  refine WO.nil ?_
  refine WP.ret ⟨rfl, rfl, [.bool false], by kernel_rfl, ?_⟩
  refine ⟨⟨false, rfl, ⟨fun h => (by cases h), fun hok => False.elim ?_⟩⟩, (Nat.le_refl nx), hE⟩
  exact absurd hok.1 (by omega)
 ·
  have q9 := nq p7 h8
  refine WP.skip ?_
  refine WP.seq ?_
  refine sr ?_
  refine ov 5 (.int .i64 (0)) ?_
  refine WO.nil ?_
  refine WP.block ?_
  have hj11 : ∀ t : Tm, (((t.set 0 (t.get 0)).set 1 (t.get 1)).set 5 (t.get 5)) = t := fun t => by kernel_rfl
  refine WP.loop (fun m s => ∃ (iL10 : Nat), iL10 + m = K.l.length ∧ s.to.get 0 = .slice a1 (K.l.length) c2 ∧ s.to.get 1 = .slice a4 (J.l.length) c5 ∧ s.to.get 5 = .int .i64 (.ofNat iL10) ∧ s.ds = [] ∧ s.cs = [] ∧ nx ≤ s.nx ∧ HE (nx) hp s.hp ∧ (∀ (j : Nat) a b, j < iL10 → K.l[j]? = some a → J.l[j]? = some b → eqO1 a b)) ?_ (K.l.length) ?_
  ·
   rintro mL10 ⟨toL10, dsL10, hp12, nx13, csL10⟩ ⟨iL10, him14, gL10_0, gL10_1, gL10_5, hdsL10, hcsL10, hn15, he16, heq⟩
   simp only at gL10_0 gL10_1 gL10_5 hdsL10 hcsL10 hn15 he16
   subst hdsL10 hcsL10
   rw [← hj11 toL10, gL10_0, gL10_1, gL10_5]
   clear gL10_0 gL10_1 gL10_5
   have hE17 := hE.trans he16 (Nat.le_refl nx)
   have le18 := Nat.le_trans (Nat.le_refl nx) hn15
   refine WP.seq ?_
   refine sr ?_
   refine ov 11 (.int .i64 (.ofNat iL10)) ?_
   refine ov 12 (.slice a1 (K.l.length) c2) ?_
   refine ov 13 (.int .i64 (.ofNat (K.l.length))) ?_
   obtain ⟨c19, e19, p19⟩ := @nb (ltI (.ofNat iL10) (.ofNat (K.l.length))) (((iL10 : Nat) : Int) < ((K.l.length : Nat) : Int)) (ltI_iff)
   refine ov 14 (.bool c19) ?_ (fun _ _ _ => by subst e19; kernel_rfl)
   refine WO.nil ?_
   refine WP.cond c19 (by kernel_rfl) (fun h20 => ?_) (fun h20 => ?_)
   ·
    have q21 := (p19).1 h20
    refine WP.skip ?_
    refine WP.seq ?_
    refine WP.block ?_
    refine WP.seq ?_
    refine WP.drawS [⟨[0, 1, 2, 3, 4, 5, 6, 7], [0, 1, 2, 3, 4, 5, 6, 7], some 8⟩, ⟨[9], [9], none⟩] (by kernel_rfl) _ rfl ?_
    refine WD.eff ?_
    refine nv 17 (.slice a1 (K.l.length) c2) ?_
    refine nv 18 (.int .i64 (.ofNat iL10)) ?_
    have hlt22 : iL10 < K.l.length := by omega
    refine WN.consAt rfl (WC.ix (k := .i64) a1 (K.l.length) c2 (iL10) 1 (by kernel_rfl) (by kernel_rfl) T_und41 T_size97 ((hK.1.mono hE17 le18).blkA hv3 (zl hlt22)) (hlt22) ?_)
    obtain ⟨x23, hx24⟩ : ∃ el_, K.l[iL10]? = some el_ := ⟨_, List.getElem?_eq_getElem (hlt22)⟩
    obtain ⟨a25, c26, hv27⟩ := (hK.2 x23 (List.mem_of_getElem? hx24)).shape
    have hsm27 := (hK.2 x23 (List.mem_of_getElem? hx24)).2.2
    refine WN.consAt rfl (WC.load1E (blk a1) (0 + (iL10) * 1) (.slice a25 (x23.l.length) c26) (by kernel_rfl) T_agg97 ((hK.1.mono hE17 le18).blkB hv3 (zl hlt22)) (flat_at1 (hK.1.mono hE17 le18).1 hx24 (by rw [← hv27]; rfl)) ?_)
    refine nv 21 (.slice a4 (J.l.length) c5) ?_
    refine nv 22 (.int .i64 (.ofNat iL10)) ?_
    have hlt28 : iL10 < J.l.length := by omega
    refine WN.consAt rfl (WC.ix (k := .i64) a4 (J.l.length) c5 (iL10) 1 (by kernel_rfl) (by kernel_rfl) T_und41 T_size97 ((hJ.1.mono hE17 le18).blkA hv6 (zl hlt28)) (hlt28) ?_)
    obtain ⟨x29, hx30⟩ : ∃ el_, J.l[iL10]? = some el_ := ⟨_, List.getElem?_eq_getElem (hlt28)⟩
    obtain ⟨a31, c32, hv33⟩ := (hJ.2 x29 (List.mem_of_getElem? hx30)).shape
    have hsm33 := (hJ.2 x29 (List.mem_of_getElem? hx30)).2.2
    refine WN.consAt rfl (WC.load1E (blk a4) (0 + (iL10) * 1) (.slice a31 (x29.l.length) c32) (by kernel_rfl) T_agg97 ((hJ.1.mono hE17 le18).blkB hv6 (zl hlt28)) (flat_at1 (hJ.1.mono hE17 le18).1 hx30 (by rw [← hv33]; rfl)) ?_)
    refine WN.nil ⟨?_, ?_⟩
    ·
     refine cv (.slice a1 (K.l.length) c2) (hv3 ▸ hK.1.eqSelf 8) ?_
     refine cv (.int .i64 (.ofNat iL10)) (vEq_int ..) ?_
     refine co (.pointer (some ⟨(blk a1), 0 + (iL10) * 1, none⟩)) (eIndexAddr ex.T 41 (.slice a1 (K.l.length) c2) (.int .i64 (.ofNat (iL10)))) (eIndexAddr_A (k := .i64) T_und41 T_size97 ((hK.1.mono hE17 le18).blkA hv3 (zl hlt22)) (hlt22)) (vEq_ptr ..) ?_
     refine co (.slice a25 (x23.l.length) c26) (eLoad ex.T hp12.get 97 (.pointer (some ⟨(blk a1), 0 + (iL10) * 1, none⟩))) (eLoad_oneE T_agg97 ((hK.1.mono hE17 le18).blkB hv3 (zl hlt22)) (flat_at1 (hK.1.mono hE17 le18).1 hx24 (by rw [← hv27]; rfl))) (hv27 ▸ (hK.2 x23 (List.mem_of_getElem? hx24)).eqSelf 8) ?_
     refine cv (.slice a4 (J.l.length) c5) (hv6 ▸ hJ.1.eqSelf 8) ?_
     refine cv (.int .i64 (.ofNat iL10)) (vEq_int ..) ?_
     refine co (.pointer (some ⟨(blk a4), 0 + (iL10) * 1, none⟩)) (eIndexAddr ex.T 41 (.slice a4 (J.l.length) c5) (.int .i64 (.ofNat (iL10)))) (eIndexAddr_A (k := .i64) T_und41 T_size97 ((hJ.1.mono hE17 le18).blkA hv6 (zl hlt28)) (hlt28)) (vEq_ptr ..) ?_
     refine co (.slice a31 (x29.l.length) c32) (eLoad ex.T hp12.get 97 (.pointer (some ⟨(blk a4), 0 + (iL10) * 1, none⟩))) (eLoad_oneE T_agg97 ((hJ.1.mono hE17 le18).blkB hv6 (zl hlt28)) (flat_at1 (hJ.1.mono hE17 le18).1 hx30 (by rw [← hv33]; rfl))) (hv33 ▸ (hJ.2 x29 (List.mem_of_getElem? hx30)).eqSelf 8) ?_
     exact Chks.nil
    refine WC.at rfl (WC.call 25 23 ([x23.v, x29.v]) (fun _ _ _ => by (try rw [hv27]); (try rw [hv33]); kernel_rfl) ((same23_wf x23 x29 hp12 (nx13) ((hK.2 x23 (List.mem_of_getElem? hx24)).mono hE17 le18) ((hJ.2 x29 (List.mem_of_getElem? hx30)).mono hE17 le18)).mono ?_))
    rintro _ hp34 nx35 ⟨⟨c38, rfl, p38⟩, hn36, he37⟩
    have hE39 := hE17.trans he37 le18
    have hr40 := he16.trans he37 hn15
    have rl41 := Nat.le_trans hn15 hn36
    have le42 := Nat.le_trans le18 hn36
    refine WD.last ?_
    obtain ⟨c43, e43, p43⟩ := @nb (!c38) (¬ (EqL (fun a b => a = b) x23.l x29.l)) (by rw [Bool.not_eq_true', ← Bool.not_eq_true, p38])
    refine nv 26 (.bool c43) ?_ (fun _ _ _ => by subst e43; kernel_rfl)
    refine WN.nil ⟨?_, ?_⟩
    ·
     refine cv (.bool c43) (vEq_bool 8 c43) ?_ (fun _ => by subst e43; kernel_rfl)
     exact Chks.nil
    refine WP.cond c43 (by kernel_rfl) (fun h44 => ?_) (fun h44 => ?_)
    ·
     have q45 := (p43).1 h44
     refine sr ?_
     refine ov 4 (.bool false) ?_
     refine WO.nil ?_
     refine WP.ret ⟨rfl, rfl, [.bool false], by kernel_rfl, ?_⟩
     refine ⟨⟨false, rfl, ⟨fun h => (by cases h), fun hok => False.elim ?_⟩⟩, le42, hE39⟩
     exact q45 (hok.2 _ _ _ hx24 hx30)
    ·
     have q45 := nq p43 h44
     refine WP.skip ?_
     refine WP.region ?_
     refine ov 15 (.int .i64 (.ofNat iL10)) ?_
     refine ov 16 (.int .i64 (.ofNat (iL10 + 1))) ?_ (fun _ _ _ => by rw [← wrapAdd (show iL10 + 1 < 9223372036854775808 by omega)]; kernel_rfl)
     refine ov 5 (.int .i64 (.ofNat (iL10 + 1))) ?_
     refine WO.nil ?_
     refine ⟨K.l.length - (iL10 + 1), by omega, iL10 + 1, by omega, by kernel_rfl, by kernel_rfl, by kernel_rfl, rfl, rfl, ?_, ?_, ?_⟩
     · exact rl41
     · exact hr40
     · intro j a b hj ha hb
       rcases Nat.lt_succ_iff_lt_or_eq.1 hj with hj | rfl
       · exact heq j a b hj ha hb
       · rw [hx24] at ha; cases ha; rw [hx30] at hb; cases hb; exact Classical.not_not.1 q45
   ·
    have q21 := nq p19 h20
    refine WP.exit ?_
    refine sr ?_
    refine ov 4 (.bool true) ?_
    refine WO.nil ?_
    refine WP.ret ⟨rfl, rfl, [.bool true], by kernel_rfl, ?_⟩
    refine ⟨⟨true, rfl, ⟨fun _ => ?_, fun _ => rfl⟩⟩, le18, hE17⟩
    exact ⟨by omega, (fun j a b ha hb => heq j a b (by have := (List.getElem?_eq_some_iff.1 ha).1; omega) ha hb)⟩
  ·
   exact ⟨0, by omega, by kernel_rfl, by kernel_rfl, by kernel_rfl, rfl, rfl, Nat.le_refl _, HE.refl _ _, (fun _ _ _ h => absurd h (Nat.not_lt_zero _))⟩
theorem same16_wf (K J : RClocks) (hp : Ht) (nx : Nat) (hK : RClocksOk hp nx K) (hJ : RClocksOk hp nx J) : WF ex 36 [.agg (encClocks K).toArray, .agg (encClocks J).toArray] hp nx (Stays nx hp (BoolIs (eqClk K J))) := by
 refine WF.body (fi := ⟨Tryz.f36.body.getD .skip, 40, [.tmp 4]⟩) (by kernel_rfl) (by kernel_rfl) (by kernel_rfl) rfl ?_
 have hE := HE.refl nx hp
 refine sr ?_
 refine WO.cons (WC.box (.agg (encClocks K).toArray) (encClocks K) rfl (by kernel_rfl) rfl ?_)
 obtain ⟨hp2, hx3, he4, hb5⟩ := boxed hp (nx) (encClocks K)
 rw [hx3]; clear hx3
 have hE6 := hE.trans he4 (Nat.le_refl nx)
 have le7 := Nat.le_trans (Nat.le_refl nx) (Nat.le_succ (nx))
 refine WO.cons (WC.box (.agg (encClocks J).toArray) (encClocks J) rfl (by kernel_rfl) rfl ?_)
 obtain ⟨hp9, hx10, he11, hb12⟩ := boxed hp2 (nx + 1) (encClocks J)
 rw [hx10]; clear hx10
 have hE13 := hE6.trans he11 le7
 have hb14 := he11.get hb5 (Nat.lt_succ_self (nx))
 have lt15 := Nat.lt_of_lt_of_le (Nat.lt_succ_self (nx)) (Nat.le_succ (nx + 1))
 have le16 := Nat.le_trans le7 (Nat.le_succ (nx + 1))
 refine ov 4 (.bool false) ?_
 refine WO.nil ?_
 refine WP.seq ?_
 refine sr ?_
 refine ov 6 (.pointer (some ⟨nx, 0 + 0, none⟩)) ?_
 obtain ⟨a17, c18, hv19⟩ := hK.fSegments.shape
 have hsm19 := hK.fSegments.2.2
 refine WO.cons (WC.load1 nx (0 + 0) (.slice a17 (K.fSegments.l.length) c18) (by kernel_rfl) T_agg22 hb14 (by rw [← hv19]; rfl) ?_)
 refine ov 8 (.pointer (some ⟨(nx + 1), 0 + 0, none⟩)) ?_
 obtain ⟨a20, c21, hv22⟩ := hJ.fSegments.shape
 have hsm22 := hJ.fSegments.2.2
 refine WO.cons (WC.load1 (nx + 1) (0 + 0) (.slice a20 (J.fSegments.l.length) c21) (by kernel_rfl) T_agg22 hb12 (by rw [← hv22]; rfl) ?_)
 refine WO.cons (WC.call 10 66 ([K.fSegments.v, J.fSegments.v]) (fun _ _ _ => by (try rw [hv19]); (try rw [hv22]); kernel_rfl) ((sameSegs_wf K.fSegments J.fSegments hp9 (nx + 1 + 1) (hK.fSegments.mono hE13 le16) (hJ.fSegments.mono hE13 le16)).mono ?_))
 rintro _ hp23 nx24 ⟨⟨c27, rfl, p27⟩, hn25, he26⟩
 have hE28 := hE13.trans he26 le16
 have hb29 := he26.get hb14 lt15
 have lt30 := Nat.lt_of_lt_of_le lt15 hn25
 have hb31 := he26.get hb12 (Nat.lt_succ_self (nx + 1))
 have lt32 := Nat.lt_of_lt_of_le (Nat.lt_succ_self (nx + 1)) hn25
 have le33 := Nat.le_trans le16 hn25
 obtain ⟨c34, e34, p34⟩ := @nb (!c27) (¬ (EqL (fun a b => a = b) K.fSegments.l J.fSegments.l)) (by rw [Bool.not_eq_true', ← Bool.not_eq_true, p27])
 refine ov 11 (.bool c34) ?_ (fun _ _ _ => by subst e34; kernel_rfl)
 refine ov 12 (.bool c34) ?_
 refine og 12 (!c34) (.pointer (some ⟨nx, 0 + 1, none⟩)) (.bool c34) (by cases c34 <;> rfl) (fun h => by obtain rfl := bF h; exact fun _ _ _ => by kernel_rfl) ?_
 obtain ⟨a35, c36, hv37⟩ := hK.fFar.1.shape
 have hsm37 := hK.fFar.1.2.2
 refine ogc 12 (!c34) (.slice a35 (K.fFar.l.length) c36) (.bool c34) (by cases c34 <;> rfl) (fun h => by obtain rfl := bF h; exact WC.load1 nx (0 + 1) (.slice a35 (K.fFar.l.length) c36) (by kernel_rfl) T_agg23 hb29 (by rw [← hv37]; rfl) rfl) ?_
 refine og 12 (!c34) (.int .i64 (.ofNat (K.fFar.l.length))) (.bool c34) (by cases c34 <;> rfl) (fun h => by obtain rfl := bF h; exact fun _ _ _ => by kernel_rfl) ?_
 refine og 12 (!c34) (.pointer (some ⟨(nx + 1), 0 + 1, none⟩)) (.bool c34) (by cases c34 <;> rfl) (fun h => by obtain rfl := bF h; exact fun _ _ _ => by kernel_rfl) ?_
 obtain ⟨a38, c39, hv40⟩ := hJ.fFar.1.shape
 have hsm40 := hJ.fFar.1.2.2
 refine ogc 12 (!c34) (.slice a38 (J.fFar.l.length) c39) (.bool c34) (by cases c34 <;> rfl) (fun h => by obtain rfl := bF h; exact WC.load1 (nx + 1) (0 + 1) (.slice a38 (J.fFar.l.length) c39) (by kernel_rfl) T_agg23 hb31 (by rw [← hv40]; rfl) rfl) ?_
 refine og 12 (!c34) (.int .i64 (.ofNat (J.fFar.l.length))) (.bool c34) (by cases c34 <;> rfl) (fun h => by obtain rfl := bF h; exact fun _ _ _ => by kernel_rfl) ?_
 obtain ⟨c41, e41, p41⟩ := @nb ((!(eqI (.ofNat (K.fFar.l.length)) (.ofNat (J.fFar.l.length))))) (((K.fFar.l.length : Nat) : Int) ≠ ((J.fFar.l.length : Nat) : Int)) (neI_iff)
 refine og 12 (!c34) (.bool c41) (.bool c34) (by cases c34 <;> rfl) (fun h => by obtain rfl := bF h; exact fun _ _ _ => by subst e41; kernel_rfl) ?_
 obtain ⟨c42, e42, p42⟩ := @nb ((c34 || c41)) ((¬ (EqL (fun a b => a = b) K.fSegments.l J.fSegments.l)) ∨ (((K.fFar.l.length : Nat) : Int) ≠ ((J.fFar.l.length : Nat) : Int))) (by rw [Bool.or_eq_true, p34, p41])
 refine WO.cons (WC.opt (v := .bool c42) 20 (ePick (.bool c34) (.bool true) ((bif !c34 then .bool c41 else undef))) (fun _ _ _ => by kernel_rfl) (by rw [e42]; exact ePick_or (fun h => by obtain rfl : c34 = false := h; rfl)) ?_)
 refine WO.nil ?_
 refine WP.cond c42 (by kernel_rfl) (fun h43 => ?_) (fun h43 => ?_)
 ·
  have q44 := (p42).1 h43
  refine sr ?_
  refine ov 4 (.bool false) ?_
  refine WO.nil ?_
  refine WP.ret ⟨rfl, rfl, [.bool false], by kernel_rfl, ?_⟩
  refine ⟨⟨false, rfl, ⟨fun h => (by cases h), fun hok => False.elim ?_⟩⟩, le33, hE28⟩
  rcases q44 with hq | hq
  · exact hq hok.1
  · exact absurd hok.2.1 (by omega)
 ·
  have q44 := nq p42 h43
  refine WP.skip ?_
  refine WP.seq ?_
  refine sr ?_
  refine ov 5 (.int .i64 (0)) ?_
  refine WO.nil ?_
  refine WP.block ?_
  have hj46 : ∀ t : Tm, (((t.set 2 (t.get 2)).set 3 (t.get 3)).set 5 (t.get 5)) = t := fun t => by kernel_rfl
  refine WP.loop (fun m s => ∃ (iL45 : Nat), iL45 + m = K.fFar.l.length ∧ s.to.get 2 = .pointer (some ⟨nx, 0, none⟩) ∧ s.to.get 3 = .pointer (some ⟨(nx + 1), 0, none⟩) ∧ s.to.get 5 = .int .i64 (.ofNat iL45) ∧ s.ds = [] ∧ s.cs = [] ∧ nx24 ≤ s.nx ∧ HE (nx24) hp23 s.hp ∧ (∀ (j : Nat) a b, j < iL45 → K.fFar.l[j]? = some a → J.fFar.l[j]? = some b → eqI1 a b)) ?_ (K.fFar.l.length) ?_
  ·
   rintro mL45 ⟨toL45, dsL45, hp47, nx48, csL45⟩ ⟨iL45, him49, gL45_2, gL45_3, gL45_5, hdsL45, hcsL45, hn50, he51, heq⟩
   simp only at gL45_2 gL45_3 gL45_5 hdsL45 hcsL45 hn50 he51
   subst hdsL45 hcsL45
   rw [← hj46 toL45, gL45_2, gL45_3, gL45_5]
   clear gL45_2 gL45_3 gL45_5
   have hE52 := hE28.trans he51 le33
   have hb53 := he51.get hb29 lt30
   have hb55 := he51.get hb31 lt32
   have le57 := Nat.le_trans le33 hn50
   refine WP.seq ?_
   refine sr ?_
   refine ov 21 (.int .i64 (.ofNat iL45)) ?_
   refine ov 22 (.pointer (some ⟨nx, 0 + 1, none⟩)) ?_
   refine WO.cons (WC.load1 nx (0 + 1) (.slice a35 (K.fFar.l.length) c36) (by kernel_rfl) T_agg23 hb53 (by rw [← hv37]; rfl) ?_)
   refine ov 24 (.int .i64 (.ofNat (K.fFar.l.length))) ?_
   obtain ⟨c58, e58, p58⟩ := @nb (ltI (.ofNat iL45) (.ofNat (K.fFar.l.length))) (((iL45 : Nat) : Int) < ((K.fFar.l.length : Nat) : Int)) (ltI_iff)
   refine ov 25 (.bool c58) ?_ (fun _ _ _ => by subst e58; kernel_rfl)
   refine WO.nil ?_
   refine WP.cond c58 (by kernel_rfl) (fun h59 => ?_) (fun h59 => ?_)
   ·
    have q60 := (p58).1 h59
    refine WP.skip ?_
    refine WP.seq ?_
    refine WP.block ?_
    refine WP.seq ?_
    refine WP.drawS [⟨[0, 1, 2, 3, 4, 5, 6, 7, 8, 9], [0, 1, 2, 3, 4, 5, 6, 7, 8, 9], some 10⟩, ⟨[11], [11], none⟩] (by kernel_rfl) _ rfl ?_
    refine WD.eff ?_
    refine nv 28 (.pointer (some ⟨nx, 0 + 1, none⟩)) ?_
    refine WN.consAt rfl (WC.load1 nx (0 + 1) (.slice a35 (K.fFar.l.length) c36) (by kernel_rfl) T_agg23 hb53 (by rw [← hv37]; rfl) ?_)
    refine nv 30 (.int .i64 (.ofNat iL45)) ?_
    have hlt61 : iL45 < K.fFar.l.length := by omega
    refine WN.consAt rfl (WC.ix (k := .i64) a35 (K.fFar.l.length) c36 (iL45) 1 (by kernel_rfl) (by kernel_rfl) T_und23 T_size30 ((hK.fFar.1.mono hE52 le57).blkA hv37 (zl hlt61)) (hlt61) ?_)
    obtain ⟨x62, hx63⟩ : ∃ el_, K.fFar.l[iL45]? = some el_ := ⟨_, List.getElem?_eq_getElem (hlt61)⟩
    obtain ⟨a64, c65, hv66⟩ := (hK.fFar.2 x62 (List.mem_of_getElem? hx63)).shape
    have hsm66 := (hK.fFar.2 x62 (List.mem_of_getElem? hx63)).2.2
    refine WN.consAt rfl (WC.load1E (blk a35) (0 + (iL45) * 1) (.slice a64 (x62.l.length) c65) (by kernel_rfl) T_agg30 ((hK.fFar.1.mono hE52 le57).blkB hv37 (zl hlt61)) (flat_at1 (hK.fFar.1.mono hE52 le57).1 hx63 (by rw [← hv66]; rfl)) ?_)
    refine nv 33 (.pointer (some ⟨(nx + 1), 0 + 1, none⟩)) ?_
    refine WN.consAt rfl (WC.load1 (nx + 1) (0 + 1) (.slice a38 (J.fFar.l.length) c39) (by kernel_rfl) T_agg23 hb55 (by rw [← hv40]; rfl) ?_)
    refine nv 35 (.int .i64 (.ofNat iL45)) ?_
    have hlt67 : iL45 < J.fFar.l.length := by omega
    refine WN.consAt rfl (WC.ix (k := .i64) a38 (J.fFar.l.length) c39 (iL45) 1 (by kernel_rfl) (by kernel_rfl) T_und23 T_size30 ((hJ.fFar.1.mono hE52 le57).blkA hv40 (zl hlt67)) (hlt67) ?_)
    obtain ⟨x68, hx69⟩ : ∃ el_, J.fFar.l[iL45]? = some el_ := ⟨_, List.getElem?_eq_getElem (hlt67)⟩
    obtain ⟨a70, c71, hv72⟩ := (hJ.fFar.2 x68 (List.mem_of_getElem? hx69)).shape
    have hsm72 := (hJ.fFar.2 x68 (List.mem_of_getElem? hx69)).2.2
    refine WN.consAt rfl (WC.load1E (blk a38) (0 + (iL45) * 1) (.slice a70 (x68.l.length) c71) (by kernel_rfl) T_agg30 ((hJ.fFar.1.mono hE52 le57).blkB hv40 (zl hlt67)) (flat_at1 (hJ.fFar.1.mono hE52 le57).1 hx69 (by rw [← hv72]; rfl)) ?_)
    refine WN.nil ⟨?_, ?_⟩
    ·
     refine cv (.pointer (some ⟨nx, 0 + 1, none⟩)) (vEq_ptr ..) ?_
     refine co (.slice a35 (K.fFar.l.length) c36) (eLoad ex.T hp47.get 23 (.pointer (some ⟨nx, 0 + 1, none⟩))) (eLoad_one T_agg23 hb53 (by rw [← hv37]; rfl)) (hv37 ▸ hK.fFar.1.eqSelf 8) ?_
     refine cv (.int .i64 (.ofNat iL45)) (vEq_int ..) ?_
     refine co (.pointer (some ⟨(blk a35), 0 + (iL45) * 1, none⟩)) (eIndexAddr ex.T 23 (.slice a35 (K.fFar.l.length) c36) (.int .i64 (.ofNat (iL45)))) (eIndexAddr_A (k := .i64) T_und23 T_size30 ((hK.fFar.1.mono hE52 le57).blkA hv37 (zl hlt61)) (hlt61)) (vEq_ptr ..) ?_
     refine co (.slice a64 (x62.l.length) c65) (eLoad ex.T hp47.get 30 (.pointer (some ⟨(blk a35), 0 + (iL45) * 1, none⟩))) (eLoad_oneE T_agg30 ((hK.fFar.1.mono hE52 le57).blkB hv37 (zl hlt61)) (flat_at1 (hK.fFar.1.mono hE52 le57).1 hx63 (by rw [← hv66]; rfl))) (hv66 ▸ (hK.fFar.2 x62 (List.mem_of_getElem? hx63)).eqSelf 8) ?_
     refine cv (.pointer (some ⟨(nx + 1), 0 + 1, none⟩)) (vEq_ptr ..) ?_
     refine co (.slice a38 (J.fFar.l.length) c39) (eLoad ex.T hp47.get 23 (.pointer (some ⟨(nx + 1), 0 + 1, none⟩))) (eLoad_one T_agg23 hb55 (by rw [← hv40]; rfl)) (hv40 ▸ hJ.fFar.1.eqSelf 8) ?_
     refine cv (.int .i64 (.ofNat iL45)) (vEq_int ..) ?_
     refine co (.pointer (some ⟨(blk a38), 0 + (iL45) * 1, none⟩)) (eIndexAddr ex.T 23 (.slice a38 (J.fFar.l.length) c39) (.int .i64 (.ofNat (iL45)))) (eIndexAddr_A (k := .i64) T_und23 T_size30 ((hJ.fFar.1.mono hE52 le57).blkA hv40 (zl hlt67)) (hlt67)) (vEq_ptr ..) ?_
     refine co (.slice a70 (x68.l.length) c71) (eLoad ex.T hp47.get 30 (.pointer (some ⟨(blk a38), 0 + (iL45) * 1, none⟩))) (eLoad_oneE T_agg30 ((hJ.fFar.1.mono hE52 le57).blkB hv40 (zl hlt67)) (flat_at1 (hJ.fFar.1.mono hE52 le57).1 hx69 (by rw [← hv72]; rfl))) (hv72 ▸ (hJ.fFar.2 x68 (List.mem_of_getElem? hx69)).eqSelf 8) ?_
     exact Chks.nil
    refine WC.at rfl (WC.call 38 22 ([x62.v, x68.v]) (fun _ _ _ => by (try rw [hv66]); (try rw [hv72]); kernel_rfl) ((same07_wf x62 x68 hp47 (nx48) ((hK.fFar.2 x62 (List.mem_of_getElem? hx63)).mono hE52 le57) ((hJ.fFar.2 x68 (List.mem_of_getElem? hx69)).mono hE52 le57)).mono ?_))
    rintro _ hp73 nx74 ⟨⟨c77, rfl, p77⟩, hn75, he76⟩
    have hE78 := hE52.trans he76 le57
    have hr83 := he51.trans he76 hn50
    have rl84 := Nat.le_trans hn50 hn75
    have le85 := Nat.le_trans le57 hn75
    refine WD.last ?_
    obtain ⟨c86, e86, p86⟩ := @nb (!c77) (¬ (EqL (fun a b => a = b) x62.l x68.l)) (by rw [Bool.not_eq_true', ← Bool.not_eq_true, p77])
    refine nv 39 (.bool c86) ?_ (fun _ _ _ => by subst e86; kernel_rfl)
    refine WN.nil ⟨?_, ?_⟩
    ·
     refine cv (.bool c86) (vEq_bool 8 c86) ?_ (fun _ => by subst e86; kernel_rfl)
     exact Chks.nil
    refine WP.cond c86 (by kernel_rfl) (fun h87 => ?_) (fun h87 => ?_)
    ·
     have q88 := (p86).1 h87
     refine sr ?_
     refine ov 4 (.bool false) ?_
     refine WO.nil ?_
     refine WP.ret ⟨rfl, rfl, [.bool false], by kernel_rfl, ?_⟩
     refine ⟨⟨false, rfl, ⟨fun h => (by cases h), fun hok => False.elim ?_⟩⟩, le85, hE78⟩
     exact q88 (hok.2.2 _ _ _ hx63 hx69)
    ·
     have q88 := nq p86 h87
     refine WP.skip ?_
     refine WP.region ?_
     refine ov 26 (.int .i64 (.ofNat iL45)) ?_
     refine ov 27 (.int .i64 (.ofNat (iL45 + 1))) ?_ (fun _ _ _ => by rw [← wrapAdd (show iL45 + 1 < 9223372036854775808 by omega)]; kernel_rfl)
     refine ov 5 (.int .i64 (.ofNat (iL45 + 1))) ?_
     refine WO.nil ?_
     refine ⟨K.fFar.l.length - (iL45 + 1), by omega, iL45 + 1, by omega, by kernel_rfl, by kernel_rfl, by kernel_rfl, rfl, rfl, ?_, ?_, ?_⟩
     · exact rl84
     · exact hr83
     · intro j a b hj ha hb
       rcases Nat.lt_succ_iff_lt_or_eq.1 hj with hj | rfl
       · exact heq j a b hj ha hb
       · rw [hx63] at ha; cases ha; rw [hx69] at hb; cases hb; exact Classical.not_not.1 q88
   ·
    have q60 := nq p58 h59
    refine WP.exit ?_
    refine sr ?_
    refine ov 4 (.bool true) ?_
    refine WO.nil ?_
    refine WP.ret ⟨rfl, rfl, [.bool true], by kernel_rfl, ?_⟩
    refine ⟨⟨true, rfl, ⟨fun _ => ?_, fun _ => rfl⟩⟩, le57, hE52⟩
    exact ⟨Classical.not_not.1 fun k => q44 (.inl k), by omega, (fun j a b ha hb => heq j a b (by have := (List.getElem?_eq_some_iff.1 ha).1; omega) ha hb)⟩
  ·
   exact ⟨0, by omega, by kernel_rfl, by kernel_rfl, by kernel_rfl, rfl, rfl, Nat.le_refl _, HE.refl _ _, (fun _ _ _ h => absurd h (Nat.not_lt_zero _))⟩
theorem sameRunner_wf (K J : RRunner) (hp : Ht) (nx : Nat) (hK : RRunnerOk hp nx K) (hJ : RRunnerOk hp nx J) : WF ex 15 [.agg (encRunner K).toArray, .agg (encRunner J).toArray] hp nx (Stays nx hp (BoolIs (eqRun K J))) := by
 refine WF.body (fi := ⟨Tryz.f15.body.getD .skip, 24, [.tmp 4]⟩) (by kernel_rfl) (by kernel_rfl) (by kernel_rfl) rfl ?_
 have hE := HE.refl nx hp
 refine sr ?_
 refine WO.cons (WC.box (.agg (encRunner K).toArray) (encRunner K) rfl (by kernel_rfl) rfl ?_)
 obtain ⟨hp2, hx3, he4, hb5⟩ := boxed hp (nx) (encRunner K)
 rw [hx3]; clear hx3
 have hE6 := hE.trans he4 (Nat.le_refl nx)
 have le7 := Nat.le_trans (Nat.le_refl nx) (Nat.le_succ (nx))
 refine WO.cons (WC.box (.agg (encRunner J).toArray) (encRunner J) rfl (by kernel_rfl) rfl ?_)
 obtain ⟨hp9, hx10, he11, hb12⟩ := boxed hp2 (nx + 1) (encRunner J)
 rw [hx10]; clear hx10
 have hE13 := hE6.trans he11 le7
 have hb14 := he11.get hb5 (Nat.lt_succ_self (nx))
 have lt15 := Nat.lt_of_lt_of_le (Nat.lt_succ_self (nx)) (Nat.le_succ (nx + 1))
 have le16 := Nat.le_trans le7 (Nat.le_succ (nx + 1))
 refine ov 4 (.bool false) ?_
 refine WO.nil ?_
 refine sr ?_
 refine ov 5 (.pointer (some ⟨nx, 0 + 0, none⟩)) ?_
 refine WO.cons (WC.load1 nx (0 + 0) (.int .i64 (K.fBib)) (by kernel_rfl) T_agg3 hb14 rfl ?_)
 refine ov 7 (.pointer (some ⟨(nx + 1), 0 + 0, none⟩)) ?_
 refine WO.cons (WC.load1 (nx + 1) (0 + 0) (.int .i64 (J.fBib)) (by kernel_rfl) T_agg3 hb12 rfl ?_)
 obtain ⟨c17, e17, p17⟩ := @nb (eqI (K.fBib) (J.fBib)) ((K.fBib) = (J.fBib)) (eqI_iff)
 refine ov 9 (.bool c17) ?_ (fun _ _ _ => by subst e17; kernel_rfl)
 refine ov 10 (.bool c17) ?_
 refine og 10 (c17) (.pointer (some ⟨nx, 0 + 1, none⟩)) (.bool c17) (by cases c17 <;> rfl) (fun h => by obtain rfl := h; exact fun _ _ _ => by kernel_rfl) ?_
 obtain ⟨a18, c19, hv20⟩ := hK.fKeys.shape
 have hsm20 := hK.fKeys.2.2
 refine ogc 10 (c17) (.slice a18 (K.fKeys.l.length) c19) (.bool c17) (by cases c17 <;> rfl) (fun h => by obtain rfl := h; exact WC.load1 nx (0 + 1) (.slice a18 (K.fKeys.l.length) c19) (by kernel_rfl) T_agg30 hb14 (by rw [← hv20]; rfl) rfl) ?_
 refine og 10 (c17) (.pointer (some ⟨(nx + 1), 0 + 1, none⟩)) (.bool c17) (by cases c17 <;> rfl) (fun h => by obtain rfl := h; exact fun _ _ _ => by kernel_rfl) ?_
 obtain ⟨a21, c22, hv23⟩ := hJ.fKeys.shape
 have hsm23 := hJ.fKeys.2.2
 refine ogc 10 (c17) (.slice a21 (J.fKeys.l.length) c22) (.bool c17) (by cases c17 <;> rfl) (fun h => by obtain rfl := h; exact WC.load1 (nx + 1) (0 + 1) (.slice a21 (J.fKeys.l.length) c22) (by kernel_rfl) T_agg30 hb12 (by rw [← hv23]; rfl) rfl) ?_
 refine WO.cons (WC.gq (c17) (GB (c17) (EqL (fun a b => a = b) K.fKeys.l J.fKeys.l) (nx + 1 + 1) hp9) (.bool c17) (g := opd (.tmp 10)) rfl (by kernel_rfl) (by cases c17 <;> rfl) (fun h => by obtain rfl : c17 = true := (by simpa using h); have q0 := (p17).1 rfl; exact WC.call 15 22 ([K.fKeys.v, J.fKeys.v]) (fun _ _ _ => by (try rw [hv20]); (try rw [hv23]); kernel_rfl) ((same07_wf K.fKeys J.fKeys hp9 (nx + 1 + 1) (hK.fKeys.mono hE13 le16) (hJ.fKeys.mono hE13 le16)).mono fun v hp' nx' ⟨⟨c, hv, hc⟩, hn, he⟩ => ⟨_, _, _, rfl, ⟨c, hv, hc⟩, hn, he⟩)) (fun h => GB.off h) ?_)
 rintro _ hp24 nx25 ⟨⟨c28, rfl, p28⟩, hn26, he27⟩
 have hE29 := hE13.trans he27 le16
 have hb30 := he27.get hb14 lt15
 have hb32 := he27.get hb12 (Nat.lt_succ_self (nx + 1))
 have le34 := Nat.le_trans le16 hn26
 obtain ⟨c35, e35, p35⟩ := @nb ((c17 && c28)) (((K.fBib) = (J.fBib)) ∧ (EqL (fun a b => a = b) K.fKeys.l J.fKeys.l)) (by rw [Bool.and_eq_true, p17, p28])
 refine WO.cons (WC.opt (v := .bool c35) 16 (ePick (.bool c17) ((bif c17 then .bool c28 else undef)) (.bool false)) (fun _ _ _ => by kernel_rfl) (by rw [e35]; exact ePick_and (fun h => by obtain rfl : c17 = true := h; rfl)) ?_)
 refine ov 17 (.bool c35) ?_
 refine og 17 (c35) (.pointer (some ⟨nx, 0 + 2, none⟩)) (.bool c35) (by cases c35 <;> rfl) (fun h => by obtain rfl := h; exact fun _ _ _ => by kernel_rfl) ?_
 obtain ⟨a36, c37, hv38⟩ := hK.fWorlds.1.shape
 have hsm38 := hK.fWorlds.1.2.2
 refine ogc 17 (c35) (.slice a36 (K.fWorlds.l.length) c37) (.bool c35) (by cases c35 <;> rfl) (fun h => by obtain rfl := h; exact WC.load1 nx (0 + 2) (.slice a36 (K.fWorlds.l.length) c37) (by kernel_rfl) T_agg41 hb30 (by rw [← hv38]; rfl) rfl) ?_
 refine og 17 (c35) (.pointer (some ⟨(nx + 1), 0 + 2, none⟩)) (.bool c35) (by cases c35 <;> rfl) (fun h => by obtain rfl := h; exact fun _ _ _ => by kernel_rfl) ?_
 obtain ⟨a39, c40, hv41⟩ := hJ.fWorlds.1.shape
 have hsm41 := hJ.fWorlds.1.2.2
 refine ogc 17 (c35) (.slice a39 (J.fWorlds.l.length) c40) (.bool c35) (by cases c35 <;> rfl) (fun h => by obtain rfl := h; exact WC.load1 (nx + 1) (0 + 2) (.slice a39 (J.fWorlds.l.length) c40) (by kernel_rfl) T_agg41 hb32 (by rw [← hv41]; rfl) rfl) ?_
 refine WO.cons (WC.gq (c35) (GB (c35) (EqL eqO1 K.fWorlds.l J.fWorlds.l) (nx25) hp24) (.bool c35) (g := opd (.tmp 17)) rfl (by kernel_rfl) (by cases c35 <;> rfl) (fun h => by obtain rfl : c35 = true := (by simpa using h); have q0 := (p35).1 rfl; exact WC.call 22 38 ([K.fWorlds.v, J.fWorlds.v]) (fun _ _ _ => by (try rw [hv38]); (try rw [hv41]); kernel_rfl) ((sameWorlds_wf K.fWorlds J.fWorlds hp24 (nx25) (hK.fWorlds.mono (fun _ h => h.mono) hE29 le34) (hJ.fWorlds.mono (fun _ h => h.mono) hE29 le34)).mono fun v hp' nx' ⟨⟨c, hv, hc⟩, hn, he⟩ => ⟨_, _, _, rfl, ⟨c, hv, hc⟩, hn, he⟩)) (fun h => GB.off h) ?_)
 rintro _ hp42 nx43 ⟨⟨c46, rfl, p46⟩, hn44, he45⟩
 have hE47 := hE29.trans he45 le34
 have le52 := Nat.le_trans le34 hn44
 obtain ⟨c53, e53, p53⟩ := @nb ((c35 && c46)) ((((K.fBib) = (J.fBib)) ∧ (EqL (fun a b => a = b) K.fKeys.l J.fKeys.l)) ∧ (EqL eqO1 K.fWorlds.l J.fWorlds.l)) (by rw [Bool.and_eq_true, p35, p46])
 refine WO.cons (WC.opt (v := .bool c53) 23 (ePick (.bool c35) ((bif c35 then .bool c46 else undef)) (.bool false)) (fun _ _ _ => by kernel_rfl) (by rw [e53]; exact ePick_and (fun h => by obtain rfl : c35 = true := h; rfl)) ?_)
 refine ov 4 (.bool c53) ?_
 refine WO.nil ?_
 refine WP.ret ⟨rfl, rfl, [.bool c53], by kernel_rfl, ?_⟩
 refine ⟨⟨c53, rfl, ?_⟩, le52, hE47⟩
 exact p53
theorem same24_wf (K J : RField) (hp : Ht) (nx : Nat) (hK : RFieldOk hp nx K) (hJ : RFieldOk hp nx J) : WF ex 14 [.agg (encField K).toArray, .agg (encField J).toArray] hp nx (Stays nx hp (BoolIs (eqField K J))) := by
 refine WF.body (fi := ⟨Tryz.f14.body.getD .skip, 48, [.tmp 4]⟩) (by kernel_rfl) (by kernel_rfl) (by kernel_rfl) rfl ?_
 have hE := HE.refl nx hp
 refine sr ?_
 refine WO.cons (WC.box (.agg (encField K).toArray) (encField K) rfl (by kernel_rfl) rfl ?_)
 obtain ⟨hp2, hx3, he4, hb5⟩ := boxed hp (nx) (encField K)
 rw [hx3]; clear hx3
 have hE6 := hE.trans he4 (Nat.le_refl nx)
 have le7 := Nat.le_trans (Nat.le_refl nx) (Nat.le_succ (nx))
 refine WO.cons (WC.box (.agg (encField J).toArray) (encField J) rfl (by kernel_rfl) rfl ?_)
 obtain ⟨hp9, hx10, he11, hb12⟩ := boxed hp2 (nx + 1) (encField J)
 rw [hx10]; clear hx10
 have hE13 := hE6.trans he11 le7
 have hb14 := he11.get hb5 (Nat.lt_succ_self (nx))
 have lt15 := Nat.lt_of_lt_of_le (Nat.lt_succ_self (nx)) (Nat.le_succ (nx + 1))
 have le16 := Nat.le_trans le7 (Nat.le_succ (nx + 1))
 refine ov 4 (.bool false) ?_
 refine WO.nil ?_
 refine WP.seq ?_
 refine sr ?_
 refine ov 6 (.pointer (some ⟨nx, 0 + 0, none⟩)) ?_
 refine WO.cons (WC.loadS nx (0 + 0) (encClocks K.fClocks) (by kernel_rfl) T_agg25 T_size25 hb14 rfl ?_)
 refine ov 8 (.pointer (some ⟨(nx + 1), 0 + 0, none⟩)) ?_
 refine WO.cons (WC.loadS (nx + 1) (0 + 0) (encClocks J.fClocks) (by kernel_rfl) T_agg25 T_size25 hb12 rfl ?_)
 refine WO.cons (WC.call 10 36 ([.agg (encClocks K.fClocks).toArray, .agg (encClocks J.fClocks).toArray]) (fun _ _ _ => by kernel_rfl) ((same16_wf K.fClocks J.fClocks hp9 (nx + 1 + 1) (hK.fClocks.mono hE13 le16) (hJ.fClocks.mono hE13 le16)).mono ?_))
 rintro _ hp17 nx18 ⟨⟨c21, rfl, p21⟩, hn19, he20⟩
 have hE22 := hE13.trans he20 le16
 have hb23 := he20.get hb14 lt15
 have lt24 := Nat.lt_of_lt_of_le lt15 hn19
 have hb25 := he20.get hb12 (Nat.lt_succ_self (nx + 1))
 have lt26 := Nat.lt_of_lt_of_le (Nat.lt_succ_self (nx + 1)) hn19
 have le27 := Nat.le_trans le16 hn19
 obtain ⟨c28, e28, p28⟩ := @nb (!c21) (¬ (eqClk K.fClocks J.fClocks)) (by rw [Bool.not_eq_true', ← Bool.not_eq_true, p21])
 refine ov 11 (.bool c28) ?_ (fun _ _ _ => by subst e28; kernel_rfl)
 refine ov 12 (.bool c28) ?_
 refine og 12 (!c28) (.pointer (some ⟨nx, 0 + 2, none⟩)) (.bool c28) (by cases c28 <;> rfl) (fun h => by obtain rfl := bF h; exact fun _ _ _ => by kernel_rfl) ?_
 obtain ⟨a29, c30, hv31⟩ := hK.fPairs.shape
 have hsm31 := hK.fPairs.2.2
 refine ogc 12 (!c28) (.slice a29 (K.fPairs.l.length) c30) (.bool c28) (by cases c28 <;> rfl) (fun h => by obtain rfl := bF h; exact WC.load1 nx (0 + 2) (.slice a29 (K.fPairs.l.length) c30) (by kernel_rfl) T_agg26 hb23 (by rw [← hv31]; rfl) rfl) ?_
 refine og 12 (!c28) (.pointer (some ⟨(nx + 1), 0 + 2, none⟩)) (.bool c28) (by cases c28 <;> rfl) (fun h => by obtain rfl := bF h; exact fun _ _ _ => by kernel_rfl) ?_
 obtain ⟨a32, c33, hv34⟩ := hJ.fPairs.shape
 have hsm34 := hJ.fPairs.2.2
 refine ogc 12 (!c28) (.slice a32 (J.fPairs.l.length) c33) (.bool c28) (by cases c28 <;> rfl) (fun h => by obtain rfl := bF h; exact WC.load1 (nx + 1) (0 + 2) (.slice a32 (J.fPairs.l.length) c33) (by kernel_rfl) T_agg26 hb25 (by rw [← hv34]; rfl) rfl) ?_
 refine WO.cons (WC.gq (!c28) (GB (!c28) (EqL (fun a b => a = b) K.fPairs.l J.fPairs.l) (nx18) hp17) (.bool c28) (g := opd (.tmp 12)) rfl (by kernel_rfl) (by cases c28 <;> rfl) (fun h => by obtain rfl : c28 = false := (by simpa using h); have q0 : ¬ (¬ (eqClk K.fClocks J.fClocks)) := (fun k => absurd ((p28).2 k) (by decide)); exact WC.call 17 37 ([K.fPairs.v, J.fPairs.v]) (fun _ _ _ => by (try rw [hv31]); (try rw [hv34]); kernel_rfl) ((samePairs_wf K.fPairs J.fPairs hp17 (nx18) (hK.fPairs.mono hE22 le27) (hJ.fPairs.mono hE22 le27)).mono fun v hp' nx' ⟨⟨c, hv, hc⟩, hn, he⟩ => ⟨_, _, _, rfl, ⟨c, hv, hc⟩, hn, he⟩)) (fun h => GB.off h) ?_)
 rintro _ hp35 nx36 ⟨⟨c39, rfl, p39⟩, hn37, he38⟩
 have hE40 := hE22.trans he38 le27
 have hb41 := he38.get hb23 lt24
 have lt42 := Nat.lt_of_lt_of_le lt24 hn37
 have hb43 := he38.get hb25 lt26
 have lt44 := Nat.lt_of_lt_of_le lt26 hn37
 have le45 := Nat.le_trans le27 hn37
 obtain ⟨c46, e46, p46⟩ := @nb (!c39) (¬ (EqL (fun a b => a = b) K.fPairs.l J.fPairs.l)) (by rw [Bool.not_eq_true', ← Bool.not_eq_true, p39])
 refine og 12 (!c28) (.bool c46) (.bool c28) (by cases c28 <;> rfl) (fun h => by obtain rfl := bF h; exact fun _ _ _ => by subst e46; kernel_rfl) ?_
 obtain ⟨c47, e47, p47⟩ := @nb ((c28 || c46)) ((¬ (eqClk K.fClocks J.fClocks)) ∨ (¬ (EqL (fun a b => a = b) K.fPairs.l J.fPairs.l))) (by rw [Bool.or_eq_true, p28, p46])
 refine WO.cons (WC.opt (v := .bool c47) 19 (ePick (.bool c28) (.bool true) ((bif !c28 then .bool c46 else undef))) (fun _ _ _ => by kernel_rfl) (by rw [e47]; exact ePick_or (fun h => by obtain rfl : c28 = false := h; rfl)) ?_)
 refine ov 20 (.bool c47) ?_
 refine og 20 (!c47) (.pointer (some ⟨nx, 0 + 3, none⟩)) (.bool c47) (by cases c47 <;> rfl) (fun h => by obtain rfl := bF h; exact fun _ _ _ => by kernel_rfl) ?_
 obtain ⟨a48, c49, hv50⟩ := hK.fRunners.1.shape
 have hsm50 := hK.fRunners.1.2.2
 refine ogc 20 (!c47) (.slice a48 (K.fRunners.l.length) c49) (.bool c47) (by cases c47 <;> rfl) (fun h => by obtain rfl := bF h; exact WC.load1 nx (0 + 3) (.slice a48 (K.fRunners.l.length) c49) (by kernel_rfl) T_agg27 hb41 (by rw [← hv50]; rfl) rfl) ?_
 refine og 20 (!c47) (.int .i64 (.ofNat (K.fRunners.l.length))) (.bool c47) (by cases c47 <;> rfl) (fun h => by obtain rfl := bF h; exact fun _ _ _ => by kernel_rfl) ?_
 refine og 20 (!c47) (.pointer (some ⟨(nx + 1), 0 + 3, none⟩)) (.bool c47) (by cases c47 <;> rfl) (fun h => by obtain rfl := bF h; exact fun _ _ _ => by kernel_rfl) ?_
 obtain ⟨a51, c52, hv53⟩ := hJ.fRunners.1.shape
 have hsm53 := hJ.fRunners.1.2.2
 refine ogc 20 (!c47) (.slice a51 (J.fRunners.l.length) c52) (.bool c47) (by cases c47 <;> rfl) (fun h => by obtain rfl := bF h; exact WC.load1 (nx + 1) (0 + 3) (.slice a51 (J.fRunners.l.length) c52) (by kernel_rfl) T_agg27 hb43 (by rw [← hv53]; rfl) rfl) ?_
 refine og 20 (!c47) (.int .i64 (.ofNat (J.fRunners.l.length))) (.bool c47) (by cases c47 <;> rfl) (fun h => by obtain rfl := bF h; exact fun _ _ _ => by kernel_rfl) ?_
 obtain ⟨c54, e54, p54⟩ := @nb ((!(eqI (.ofNat (K.fRunners.l.length)) (.ofNat (J.fRunners.l.length))))) (((K.fRunners.l.length : Nat) : Int) ≠ ((J.fRunners.l.length : Nat) : Int)) (neI_iff)
 refine og 20 (!c47) (.bool c54) (.bool c47) (by cases c47 <;> rfl) (fun h => by obtain rfl := bF h; exact fun _ _ _ => by subst e54; kernel_rfl) ?_
 obtain ⟨c55, e55, p55⟩ := @nb ((c47 || c54)) (((¬ (eqClk K.fClocks J.fClocks)) ∨ (¬ (EqL (fun a b => a = b) K.fPairs.l J.fPairs.l))) ∨ (((K.fRunners.l.length : Nat) : Int) ≠ ((J.fRunners.l.length : Nat) : Int))) (by rw [Bool.or_eq_true, p47, p54])
 refine WO.cons (WC.opt (v := .bool c55) 28 (ePick (.bool c47) (.bool true) ((bif !c47 then .bool c54 else undef))) (fun _ _ _ => by kernel_rfl) (by rw [e55]; exact ePick_or (fun h => by obtain rfl : c47 = false := h; rfl)) ?_)
 refine WO.nil ?_
 refine WP.cond c55 (by kernel_rfl) (fun h56 => ?_) (fun h56 => ?_)
 ·
  have q57 := (p55).1 h56
  refine sr ?_
  refine ov 4 (.bool false) ?_
  refine WO.nil ?_
  refine WP.ret ⟨rfl, rfl, [.bool false], by kernel_rfl, ?_⟩
  refine ⟨⟨false, rfl, ⟨fun h => (by cases h), fun hok => False.elim ?_⟩⟩, le45, hE40⟩
  rcases q57 with (hq | hq) | hq
  · exact hq hok.1.1
  · exact hq hok.1.2
  · exact absurd hok.2.1 (by omega)
 ·
  have q57 := nq p55 h56
  refine WP.skip ?_
  refine WP.seq ?_
  refine sr ?_
  refine ov 5 (.int .i64 (0)) ?_
  refine WO.nil ?_
  refine WP.block ?_
  have hj59 : ∀ t : Tm, (((t.set 2 (t.get 2)).set 3 (t.get 3)).set 5 (t.get 5)) = t := fun t => by kernel_rfl
  refine WP.loop (fun m s => ∃ (iL58 : Nat), iL58 + m = K.fRunners.l.length ∧ s.to.get 2 = .pointer (some ⟨nx, 0, none⟩) ∧ s.to.get 3 = .pointer (some ⟨(nx + 1), 0, none⟩) ∧ s.to.get 5 = .int .i64 (.ofNat iL58) ∧ s.ds = [] ∧ s.cs = [] ∧ nx36 ≤ s.nx ∧ HE (nx36) hp35 s.hp ∧ (∀ (j : Nat) a b, j < iL58 → K.fRunners.l[j]? = some a → J.fRunners.l[j]? = some b → eqRun a b)) ?_ (K.fRunners.l.length) ?_
  ·
   rintro mL58 ⟨toL58, dsL58, hp60, nx61, csL58⟩ ⟨iL58, him62, gL58_2, gL58_3, gL58_5, hdsL58, hcsL58, hn63, he64, heq⟩
   simp only at gL58_2 gL58_3 gL58_5 hdsL58 hcsL58 hn63 he64 heq
   subst hdsL58 hcsL58
   rw [← hj59 toL58, gL58_2, gL58_3, gL58_5]
   clear gL58_2 gL58_3 gL58_5
   have hE65 := hE40.trans he64 le45
   have hb66 := he64.get hb41 lt42
   have hb68 := he64.get hb43 lt44
   have le70 := Nat.le_trans le45 hn63
   refine WP.seq ?_
   refine sr ?_
   refine ov 29 (.int .i64 (.ofNat iL58)) ?_
   refine ov 30 (.pointer (some ⟨nx, 0 + 3, none⟩)) ?_
   refine WO.cons (WC.load1 nx (0 + 3) (.slice a48 (K.fRunners.l.length) c49) (by kernel_rfl) T_agg27 hb66 (by rw [← hv50]; rfl) ?_)
   refine ov 32 (.int .i64 (.ofNat (K.fRunners.l.length))) ?_
   obtain ⟨c71, e71, p71⟩ := @nb (ltI (.ofNat iL58) (.ofNat (K.fRunners.l.length))) (((iL58 : Nat) : Int) < ((K.fRunners.l.length : Nat) : Int)) (ltI_iff)
   refine ov 33 (.bool c71) ?_ (fun _ _ _ => by subst e71; kernel_rfl)
   refine WO.nil ?_
   refine WP.cond c71 (by kernel_rfl) (fun h72 => ?_) (fun h72 => ?_)
   ·
    have q73 := (p71).1 h72
    refine WP.skip ?_
    refine WP.seq ?_
    refine WP.block ?_
    refine WP.seq ?_
    refine WP.drawS [⟨[0, 1, 2, 3, 4, 5, 6, 7, 8, 9], [0, 1, 2, 3, 4, 5, 6, 7, 8, 9], some 10⟩, ⟨[11], [11], none⟩] (by kernel_rfl) _ rfl ?_
    refine WD.eff ?_
    refine nv 36 (.pointer (some ⟨nx, 0 + 3, none⟩)) ?_
    refine WN.consAt rfl (WC.load1 nx (0 + 3) (.slice a48 (K.fRunners.l.length) c49) (by kernel_rfl) T_agg27 hb66 (by rw [← hv50]; rfl) ?_)
    refine nv 38 (.int .i64 (.ofNat iL58)) ?_
    have hlt74 : iL58 < K.fRunners.l.length := by omega
    refine WN.consAt rfl (WC.ix (k := .i64) a48 (K.fRunners.l.length) c49 (iL58) 3 (by kernel_rfl) (by kernel_rfl) T_und27 T_size43 ((hK.fRunners.1.mono hE65 le70).blkA hv50 (zl hlt74)) (hlt74) ?_)
    obtain ⟨x75, hx76⟩ : ∃ el_, K.fRunners.l[iL58]? = some el_ := ⟨_, List.getElem?_eq_getElem (hlt74)⟩
    refine WN.consAt rfl (WC.loadSE (blk a48) (0 + (iL58) * 3) (encRunner x75) (by kernel_rfl) T_agg43 T_size43 ((hK.fRunners.1.mono hE65 le70).blkB hv50 (zl hlt74)) (flat_at0 (hK.fRunners.1.mono hE65 le70).1 hx76) ?_)
    refine nv 41 (.pointer (some ⟨(nx + 1), 0 + 3, none⟩)) ?_
    refine WN.consAt rfl (WC.load1 (nx + 1) (0 + 3) (.slice a51 (J.fRunners.l.length) c52) (by kernel_rfl) T_agg27 hb68 (by rw [← hv53]; rfl) ?_)
    refine nv 43 (.int .i64 (.ofNat iL58)) ?_
    have hlt77 : iL58 < J.fRunners.l.length := by omega
    refine WN.consAt rfl (WC.ix (k := .i64) a51 (J.fRunners.l.length) c52 (iL58) 3 (by kernel_rfl) (by kernel_rfl) T_und27 T_size43 ((hJ.fRunners.1.mono hE65 le70).blkA hv53 (zl hlt77)) (hlt77) ?_)
    obtain ⟨x78, hx79⟩ : ∃ el_, J.fRunners.l[iL58]? = some el_ := ⟨_, List.getElem?_eq_getElem (hlt77)⟩
    refine WN.consAt rfl (WC.loadSE (blk a51) (0 + (iL58) * 3) (encRunner x78) (by kernel_rfl) T_agg43 T_size43 ((hJ.fRunners.1.mono hE65 le70).blkB hv53 (zl hlt77)) (flat_at0 (hJ.fRunners.1.mono hE65 le70).1 hx79) ?_)
    refine WN.nil ⟨?_, ?_⟩
    ·
     refine cv (.pointer (some ⟨nx, 0 + 3, none⟩)) (vEq_ptr ..) ?_
     refine co (.slice a48 (K.fRunners.l.length) c49) (eLoad ex.T hp60.get 27 (.pointer (some ⟨nx, 0 + 3, none⟩))) (eLoad_one T_agg27 hb66 (by rw [← hv50]; rfl)) (hv50 ▸ hK.fRunners.1.eqSelf 8) ?_
     refine cv (.int .i64 (.ofNat iL58)) (vEq_int ..) ?_
     refine co (.pointer (some ⟨(blk a48), 0 + (iL58) * 3, none⟩)) (eIndexAddr ex.T 27 (.slice a48 (K.fRunners.l.length) c49) (.int .i64 (.ofNat (iL58)))) (eIndexAddr_A (k := .i64) T_und27 T_size43 ((hK.fRunners.1.mono hE65 le70).blkA hv50 (zl hlt74)) (hlt74)) (vEq_ptr ..) ?_
     refine co (.agg (encRunner x75).toArray) (eLoad ex.T hp60.get 43 (.pointer (some ⟨(blk a48), 0 + (iL58) * 3, none⟩))) (eLoad_aggE T_agg43 T_size43 ((hK.fRunners.1.mono hE65 le70).blkB hv50 (zl hlt74)) (flat_at0 (hK.fRunners.1.mono hE65 le70).1 hx76)) (encRunner_vEq x75 (hK.fRunners.2 x75 (List.mem_of_getElem? hx76))) ?_
     refine cv (.pointer (some ⟨(nx + 1), 0 + 3, none⟩)) (vEq_ptr ..) ?_
     refine co (.slice a51 (J.fRunners.l.length) c52) (eLoad ex.T hp60.get 27 (.pointer (some ⟨(nx + 1), 0 + 3, none⟩))) (eLoad_one T_agg27 hb68 (by rw [← hv53]; rfl)) (hv53 ▸ hJ.fRunners.1.eqSelf 8) ?_
     refine cv (.int .i64 (.ofNat iL58)) (vEq_int ..) ?_
     refine co (.pointer (some ⟨(blk a51), 0 + (iL58) * 3, none⟩)) (eIndexAddr ex.T 27 (.slice a51 (J.fRunners.l.length) c52) (.int .i64 (.ofNat (iL58)))) (eIndexAddr_A (k := .i64) T_und27 T_size43 ((hJ.fRunners.1.mono hE65 le70).blkA hv53 (zl hlt77)) (hlt77)) (vEq_ptr ..) ?_
     refine co (.agg (encRunner x78).toArray) (eLoad ex.T hp60.get 43 (.pointer (some ⟨(blk a51), 0 + (iL58) * 3, none⟩))) (eLoad_aggE T_agg43 T_size43 ((hJ.fRunners.1.mono hE65 le70).blkB hv53 (zl hlt77)) (flat_at0 (hJ.fRunners.1.mono hE65 le70).1 hx79)) (encRunner_vEq x78 (hJ.fRunners.2 x78 (List.mem_of_getElem? hx79))) ?_
     exact Chks.nil
    refine WC.at rfl (WC.call 46 15 ([.agg (encRunner x75).toArray, .agg (encRunner x78).toArray]) (fun _ _ _ => by kernel_rfl) ((sameRunner_wf x75 x78 hp60 (nx61) ((hK.fRunners.2 x75 (List.mem_of_getElem? hx76)).mono hE65 le70) ((hJ.fRunners.2 x78 (List.mem_of_getElem? hx79)).mono hE65 le70)).mono ?_))
    rintro _ hp80 nx81 ⟨⟨c84, rfl, p84⟩, hn82, he83⟩
    have hE85 := hE65.trans he83 le70
    have hr90 := he64.trans he83 hn63
    have rl91 := Nat.le_trans hn63 hn82
    have le92 := Nat.le_trans le70 hn82
    refine WD.last ?_
    obtain ⟨c93, e93, p93⟩ := @nb (!c84) (¬ (eqRun x75 x78)) (by rw [Bool.not_eq_true', ← Bool.not_eq_true, p84])
    refine nv 47 (.bool c93) ?_ (fun _ _ _ => by subst e93; kernel_rfl)
    refine WN.nil ⟨?_, ?_⟩
    ·
     refine cv (.bool c93) (vEq_bool 8 c93) ?_ (fun _ => by subst e93; kernel_rfl)
     exact Chks.nil
    refine WP.cond c93 (by kernel_rfl) (fun h94 => ?_) (fun h94 => ?_)
    ·
     have q95 := (p93).1 h94
     refine sr ?_
     refine ov 4 (.bool false) ?_
     refine WO.nil ?_
     refine WP.ret ⟨rfl, rfl, [.bool false], by kernel_rfl, ?_⟩
     refine ⟨⟨false, rfl, ⟨fun h => (by cases h), fun hok => False.elim ?_⟩⟩, le92, hE85⟩
     exact q95 (hok.2.2 _ _ _ hx76 hx79)
    ·
     have q95 := nq p93 h94
     refine WP.skip ?_
     refine WP.region ?_
     refine ov 34 (.int .i64 (.ofNat iL58)) ?_
     refine ov 35 (.int .i64 (.ofNat (iL58 + 1))) ?_ (fun _ _ _ => by rw [← wrapAdd (show iL58 + 1 < 9223372036854775808 by omega)]; kernel_rfl)
     refine ov 5 (.int .i64 (.ofNat (iL58 + 1))) ?_
     refine WO.nil ?_
     refine ⟨K.fRunners.l.length - (iL58 + 1), by omega, iL58 + 1, by omega, by kernel_rfl, by kernel_rfl, by kernel_rfl, rfl, rfl, ?_, ?_, ?_⟩
     · exact rl91
     · exact hr90
     · intro j a b hj ha hb
       rcases Nat.lt_succ_iff_lt_or_eq.1 hj with hj | rfl
       · exact heq j a b hj ha hb
       · rw [hx76] at ha; cases ha; rw [hx79] at hb; cases hb; exact Classical.not_not.1 q95
   ·
    have q73 := nq p71 h72
    refine WP.exit ?_
    refine sr ?_
    refine ov 4 (.bool true) ?_
    refine WO.nil ?_
    refine WP.ret ⟨rfl, rfl, [.bool true], by kernel_rfl, ?_⟩
    refine ⟨⟨true, rfl, ⟨fun _ => ?_, fun _ => rfl⟩⟩, le70, hE65⟩
    exact ⟨⟨Classical.not_not.1 fun k => q57 (.inl (.inl k)), Classical.not_not.1 fun k => q57 (.inl (.inr k))⟩, by omega, (fun j a b ha hb => heq j a b (by have := (List.getElem?_eq_some_iff.1 ha).1; omega) ha hb)⟩
  ·
   exact ⟨0, by omega, by kernel_rfl, by kernel_rfl, by kernel_rfl, rfl, rfl, Nat.le_refl _, HE.refl _ _, (fun _ _ _ h => absurd h (Nat.not_lt_zero _))⟩
end
end Sw
