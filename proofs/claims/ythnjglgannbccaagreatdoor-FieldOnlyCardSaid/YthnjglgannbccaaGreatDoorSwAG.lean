/- A part of the proof that the law returns true for every input that its row speaks of. No condition is added. -/
import Derived.Test.YthnjglgannbccaaGreatDoorSwAE
import Derived.Test.YthnjglgannbccaaGreatDoorSwAF
namespace Sw
noncomputable section
open Go Go.Proofs Go.RowKit
set_option maxRecDepth 100000
set_option maxHeartbeats 1600000
def cmpI (x y : Int) : Int := if x < y then -1 else if y < x then 1 else 0
def orI (x y : Int) : Int := if x ≠ 0 then x else y
def OrIs (l : List Int) : Value → Prop := fun v => (v = .int .i64 0 ∧ ∀ x ∈ l, x = 0) ∨ ∃ (i : Nat) (x : Int), v = .int .i64 x ∧ l[i]? = some x ∧ x ≠ 0 ∧ ∀ (j : Nat) (y : Int), j < i → l[j]? = some y → y = 0
theorem OrIs.two {a b : Int} {v : Value} (h : OrIs [a, b] v) : v = .int .i64 (orI a b) := by
  rcases h with ⟨rfl, h⟩ | ⟨i, x, rfl, h1, h2, h3⟩
  · have ha := h a (by simp)
    have hb := h b (by simp)
    subst ha hb; rfl
  · match i, h1 with
    | 0, h1 => cases h1; unfold orI; rw [if_pos h2]
    | 1, h1 =>
      cases h1
      have := h3 0 a (by omega) rfl
      subst this; rfl
    | n + 2, h1 => simp at h1
def segLt (p s : RSegment) : Prop := p.fMat < s.fMat ∨ (p.fMat = s.fMat ∧ p.fEpoch < s.fEpoch)
theorem ord_iff (a b c d : Int) : 0 ≤ orI (cmpI a c) (cmpI b d) ↔ ¬ (a < c ∨ (a = c ∧ b < d)) := by
  unfold orI cmpI
  repeat' split
  all_goals omega
def segOk (l : List RSegment) (j : Nat) (s : RSegment) : Prop := 0 ≤ s.fMat ∧ s.fMat < 40 ∧ 0 ≤ s.fEpoch ∧ s.fEpoch ≤ 255 ∧ (-1099511627776 ≤ s.fAnchor ∧ s.fAnchor ≤ 1099511627776) ∧ (0 < j → ∀ p, l[j - 1]? = some p → segLt p s)
def farOk (n j : Nat) (r : SV Int) : Prop := r.l.length = n + 1 ∧ r.l[j]? = some 0 ∧ ∀ w ∈ r.l, ¬ (w < -2199023255552 ∨ 2199023255552 < w)
def triAt (K : RClocks) (i j m : Nat) : Prop := ∀ (ri rj : SV Int) (a b c : Int), K.fFar.l[i]? = some ri → ri.l[j]? = some a → K.fFar.l[j]? = some rj → rj.l[m]? = some b → ri.l[m]? = some c → c ≤ wrapE .i64 (a + b)
structure ClocksOk (K : RClocks) : Prop where
  few : K.fSegments.l.length ≤ 511
  far : K.fFar.l.length = K.fSegments.l.length + 1
  seg : ∀ (j : Nat) (s : RSegment), K.fSegments.l[j]? = some s → segOk K.fSegments.l j s
  row : ∀ (j : Nat) (r : SV Int), K.fFar.l[j]? = some r → farOk K.fSegments.l.length j r
  tri : ∀ i j m, triAt K i j m
def OutcomeOk (K : RClocks) (x : ROutcome) : Prop := (x.fOut = true → x = ⟨true, -1, 0, 0⟩) ∧ (x.fOut = false → -1 ≤ x.fSeg ∧ x.fSeg < (K.fSegments.l.length : Nat) ∧ -288230376151711744 ≤ x.fLo ∧ x.fLo ≤ x.fHi ∧ x.fHi ≤ 288230376151711744)
theorem encOutcome_eqV (x y : ROutcome) : eqV ex.T 12 99 (.agg (encOutcome x).toArray) (.agg (encOutcome y).toArray) = (bif (x.fOut == y.fOut) then (bif (eqI x.fSeg y.fSeg) then (bif (eqI x.fLo y.fLo) then (bif (eqI x.fHi y.fHi) then (some true) else (some false)) else (some false)) else (some false)) else (some false)) := by kernel_rfl
theorem encOutcome_eqb (x y : ROutcome) : ((x.fOut == y.fOut) && (eqI x.fSeg y.fSeg) && (eqI x.fLo y.fLo) && (eqI x.fHi y.fHi)) = true ↔ x = y := by
  constructor
  · intro h; cases x; cases y; simp only [Bool.and_eq_true, eqI_iff, beq_iff_eq, strEq_iff] at h; obtain h := h; simp_all
  · rintro rfl; simp only [Bool.and_eq_true, eqI_iff, beq_iff_eq, strEq_iff, and_self]
theorem encOutcome_eqW (x y : ROutcome) : eqV ex.T 12 99 (.agg (encOutcome x).toArray) (.agg (encOutcome y).toArray) = some ((x.fOut == y.fOut) && (eqI x.fSeg y.fSeg) && (eqI x.fLo y.fLo) && (eqI x.fHi y.fHi)) := by
  rw [encOutcome_eqV]
  (cases (x.fOut == y.fOut)) <;> (cases (eqI x.fSeg y.fSeg)) <;> (cases (eqI x.fLo y.fLo)) <;> (cases (eqI x.fHi y.fHi)) <;> rfl
theorem encOutcome_eql (xo yo : Operand) (x y : ROutcome) {c : Bool} (e : c = @decide (x = y) (Classical.propDecidable _)) : eBin ex.T .eql 99 xo yo (.agg (encOutcome x).toArray) (.agg (encOutcome y).toArray) = some (.bool c) := by
  have h1 : eBin ex.T .eql 99 xo yo (.agg (encOutcome x).toArray) (.agg (encOutcome y).toArray) = (eqV ex.T 12 99 (.agg (encOutcome x).toArray) (.agg (encOutcome y).toArray)).map .bool := by kernel_rfl
  have h2 : ((x.fOut == y.fOut) && (eqI x.fSeg y.fSeg) && (eqI x.fLo y.fLo) && (eqI x.fHi y.fHi)) = c := by rw [e, Bool.eq_iff_iff, encOutcome_eqb]; exact (@decide_eq_true_iff _ (Classical.propDecidable _)).symm
  rw [h1, encOutcome_eqW, h2]; rfl
theorem encOutcome_neq (xo yo : Operand) (x y : ROutcome) {c : Bool} (e : c = @decide (x ≠ y) (Classical.propDecidable _)) : eBin ex.T .neq 99 xo yo (.agg (encOutcome x).toArray) (.agg (encOutcome y).toArray) = some (.bool c) := by
  have h1 : eBin ex.T .neq 99 xo yo (.agg (encOutcome x).toArray) (.agg (encOutcome y).toArray) = (eqV ex.T 12 99 (.agg (encOutcome x).toArray) (.agg (encOutcome y).toArray)).map fun b => .bool (!b) := by kernel_rfl
  have h2 : (!((x.fOut == y.fOut) && (eqI x.fSeg y.fSeg) && (eqI x.fLo y.fLo) && (eqI x.fHi y.fHi))) = c := by rw [e, Bool.eq_iff_iff, Bool.not_eq_true', ← Bool.not_eq_true, encOutcome_eqb]; exact (@decide_eq_true_iff _ (Classical.propDecidable _)).symm
  rw [h1, encOutcome_eqW]; show some (Value.bool (!((x.fOut == y.fOut) && (eqI x.fSeg y.fSeg) && (eqI x.fLo y.fLo) && (eqI x.fHi y.fHi)))) = _; rw [h2]
theorem T_agg154 : ex.T.agg 154 = some true := by kernel_rfl
theorem T_agg22 : ex.T.agg 22 = some false := by kernel_rfl
theorem T_agg23 : ex.T.agg 23 = some false := by kernel_rfl
theorem T_agg25 : ex.T.agg 25 = some true := by kernel_rfl
theorem T_agg3 : ex.T.agg 3 = some false := by kernel_rfl
theorem T_agg30 : ex.T.agg 30 = some false := by kernel_rfl
theorem T_agg4 : ex.T.agg 4 = some false := by kernel_rfl
theorem T_agg99 : ex.T.agg 99 = some true := by kernel_rfl
theorem T_size154 : ex.T.size 154 = some 3 := by kernel_rfl
theorem T_size25 : ex.T.size 25 = some 2 := by kernel_rfl
theorem T_size3 : ex.T.size 3 = some 1 := by kernel_rfl
theorem T_size30 : ex.T.size 30 = some 1 := by kernel_rfl
theorem T_size99 : ex.T.size 99 = some 4 := by kernel_rfl
theorem T_und22 : ex.T.und 22 = some (.slice 154) := by kernel_rfl
theorem T_und23 : ex.T.und 23 = some (.slice 30) := by kernel_rfl
theorem T_und30 : ex.T.und 30 = some (.slice 3) := by kernel_rfl
theorem T_zero154 : ex.T.zero 154 = some (.agg ⟨[.int .i64 (0), .int .i64 (0), .int .i64 (0)]⟩) := by kernel_rfl
theorem T_zero99 : ex.T.zero 99 = some (.agg ⟨[.bool false, .int .i64 (0), .int .i64 (0), .int .i64 (0)]⟩) := by kernel_rfl
theorem isTime_wf (x : Int) (hp : Ht) (nx : Nat) : WF ex 54 [.int .i64 (x)] hp nx (Stays nx hp (BoolIs (-1099511627776 ≤ x ∧ x ≤ 1099511627776))) := by
 refine WF.body (fi := ⟨Tryz.f54.body.getD .skip, 9, [.tmp 2]⟩) (by kernel_rfl) (by kernel_rfl) (by kernel_rfl) rfl ?_
 have hE := HE.refl nx hp
 refine sr ?_
 refine ov 2 (.bool false) ?_
 refine WO.nil ?_
 refine sr ?_
 refine ov 3 (.int .i64 (x)) ?_
 obtain ⟨c1, e1, p1⟩ := @nb (leI (-1099511627776) (x)) ((-1099511627776) ≤ (x)) (leI_iff)
 refine ov 4 (.bool c1) ?_ (fun _ _ _ => by subst e1; kernel_rfl)
 refine ov 5 (.bool c1) ?_
 refine og 5 (c1) (.int .i64 (x)) (.bool c1) (by cases c1 <;> rfl) (fun h => by obtain rfl := h; exact fun _ _ _ => by kernel_rfl) ?_
 obtain ⟨c2, e2, p2⟩ := @nb (leI (x) (1099511627776)) ((x) ≤ (1099511627776)) (leI_iff)
 refine og 5 (c1) (.bool c2) (.bool c1) (by cases c1 <;> rfl) (fun h => by obtain rfl := h; exact fun _ _ _ => by subst e2; kernel_rfl) ?_
 obtain ⟨c3, e3, p3⟩ := @nb ((c1 && c2)) (((-1099511627776) ≤ (x)) ∧ ((x) ≤ (1099511627776))) (by rw [Bool.and_eq_true, p1, p2])
 refine WO.cons (WC.opt (v := .bool c3) 8 (ePick (.bool c1) ((bif c1 then .bool c2 else undef)) (.bool false)) (fun _ _ _ => by kernel_rfl) (by rw [e3]; exact ePick_and (fun h => by obtain rfl : c1 = true := h; rfl)) ?_)
 refine ov 2 (.bool c3) ?_
 refine WO.nil ?_
 refine WP.ret ⟨rfl, rfl, [.bool c3], by kernel_rfl, ?_⟩
 refine ⟨⟨c3, rfl, ?_⟩, (Nat.le_refl nx), hE⟩
 exact p3
theorem clocksCheck1_wf (x : Int) (hp : Ht) (nx : Nat) : WF ex 57 [.int .i64 (x)] hp nx (Stays nx hp (BoolIs (x < -2199023255552 ∨ 2199023255552 < x))) := by
 refine WF.body (fi := ⟨Tryz.f57.body.getD .skip, 9, [.tmp 2]⟩) (by kernel_rfl) (by kernel_rfl) (by kernel_rfl) rfl ?_
 have hE := HE.refl nx hp
 refine sr ?_
 refine ov 2 (.bool false) ?_
 refine WO.nil ?_
 refine sr ?_
 refine ov 3 (.int .i64 (x)) ?_
 obtain ⟨c1, e1, p1⟩ := @nb (ltI (x) (-2199023255552)) ((x) < (-2199023255552)) (ltI_iff)
 refine ov 4 (.bool c1) ?_ (fun _ _ _ => by subst e1; kernel_rfl)
 refine ov 5 (.bool c1) ?_
 refine og 5 (!c1) (.int .i64 (x)) (.bool c1) (by cases c1 <;> rfl) (fun h => by obtain rfl := bF h; exact fun _ _ _ => by kernel_rfl) ?_
 obtain ⟨c2, e2, p2⟩ := @nb (ltI (2199023255552) (x)) ((2199023255552) < (x)) (ltI_iff)
 refine og 5 (!c1) (.bool c2) (.bool c1) (by cases c1 <;> rfl) (fun h => by obtain rfl := bF h; exact fun _ _ _ => by subst e2; kernel_rfl) ?_
 obtain ⟨c3, e3, p3⟩ := @nb ((c1 || c2)) (((x) < (-2199023255552)) ∨ ((2199023255552) < (x))) (by rw [Bool.or_eq_true, p1, p2])
 refine WO.cons (WC.opt (v := .bool c3) 8 (ePick (.bool c1) (.bool true) ((bif !c1 then .bool c2 else undef))) (fun _ _ _ => by kernel_rfl) (by rw [e3]; exact ePick_or (fun h => by obtain rfl : c1 = false := h; rfl)) ?_)
 refine ov 2 (.bool c3) ?_
 refine WO.nil ?_
 refine WP.ret ⟨rfl, rfl, [.bool c3], by kernel_rfl, ?_⟩
 refine ⟨⟨c3, rfl, ?_⟩, (Nat.le_refl nx), hE⟩
 exact p3
theorem indexFunc_int {A : Int → Prop} (K : SV Int) (f : FuncId) (b : Array Value) (hp : Ht) (nx : Nat) (hK : SOk encI 1 hp nx K) (hf : ∀ (i : Nat) (x : Int), K.l[i]? = some x → ∀ (hp' : Ht) (nx' : Nat), nx ≤ nx' → HE nx hp hp' → WF ex f ((.int .i64 (x)) :: b.toList) hp' nx' (Stays nx' hp' (BoolIs (A x)))) : WF ex 106 [K.v, .func (.func f) #[] b] hp nx (Stays nx hp (IdxIs K.l A)) := by
 obtain ⟨a1, c2, hv3⟩ := hK.shape
 have hsm3 := hK.2.2
 rw [hv3]
 refine WF.body (fi := ⟨Tryz.f106.body.getD .skip, 19, [.tmp 4]⟩) (by kernel_rfl) (by kernel_rfl) (by kernel_rfl) rfl ?_
 have hE := HE.refl nx hp
 refine sr ?_
 refine ov 4 (.int .i64 (0)) ?_
 refine WO.nil ?_
 refine WP.seq ?_
 refine sr ?_
 refine ov 6 (.slice a1 (K.l.length) c2) ?_
 refine ov 7 (.int .i64 (.ofNat (K.l.length))) ?_
 refine ov 8 (.int .i64 (0)) ?_
 refine WO.nil ?_
 refine WP.block ?_
 have hj5 : ∀ t : Tm, ((((t.set 0 (t.get 0)).set 1 (t.get 1)).set 7 (t.get 7)).set 8 (t.get 8)) = t := fun t => by kernel_rfl
 refine WP.loop (fun m s => ∃ (iL4 : Nat), iL4 + m = K.l.length ∧ s.to.get 0 = .slice a1 (K.l.length) c2 ∧ s.to.get 1 = .func (.func f) #[] b ∧ s.to.get 7 = .int .i64 (.ofNat (K.l.length)) ∧ s.to.get 8 = .int .i64 (.ofNat iL4) ∧ s.ds = [] ∧ s.cs = [] ∧ nx ≤ s.nx ∧ HE (nx) hp s.hp ∧ (∀ (j : Nat) (y : Int), j < iL4 → K.l[j]? = some y → ¬ A y)) ?_ (K.l.length) ?_
 ·
  rintro mL4 ⟨toL4, dsL4, hp6, nx7, csL4⟩ ⟨iL4, him8, gL4_0, gL4_1, gL4_7, gL4_8, hdsL4, hcsL4, hn9, he10, hinv⟩
  simp only at gL4_0 gL4_1 gL4_7 gL4_8 hdsL4 hcsL4 hn9 he10
  subst hdsL4 hcsL4
  rw [← hj5 toL4, gL4_0, gL4_1, gL4_7, gL4_8]
  clear gL4_0 gL4_1 gL4_7 gL4_8
  have hE11 := hE.trans he10 (Nat.le_refl nx)
  have le12 := Nat.le_trans (Nat.le_refl nx) hn9
  refine sr ?_
  obtain ⟨c13, e13, p13⟩ := @nb (ltI (.ofNat iL4) (.ofNat (K.l.length))) (((iL4 : Nat) : Int) < ((K.l.length : Nat) : Int)) (ltI_iff)
  refine ov 9 (.bool c13) ?_ (fun _ _ _ => by subst e13; kernel_rfl)
  refine WO.nil ?_
  refine WP.seq ?_
  refine WP.cond c13 (by kernel_rfl) (fun h14 => ?_) (fun h14 => ?_)
  ·
   have q15 := (p13).1 h14
   refine WP.skip ?_
   refine WP.seq ?_
   refine WP.block ?_
   refine sr ?_
   refine ov 10 (.int .i64 (.ofNat iL4)) ?_
   refine ov 5 (.int .i64 (.ofNat iL4)) ?_
   refine WO.nil ?_
   refine sr ?_
   refine ov 11 (.func (.func f) #[] b) ?_
   refine ov 12 (.slice a1 (K.l.length) c2) ?_
   refine ov 13 (.int .i64 (.ofNat iL4)) ?_
   have hlt16 : iL4 < K.l.length := by omega
   refine WO.cons (WC.ix (k := .i64) a1 (K.l.length) c2 (iL4) 1 (by kernel_rfl) (by kernel_rfl) T_und30 T_size3 ((hK.mono hE11 le12).blkA hv3 (zl hlt16)) (hlt16) ?_)
   obtain ⟨x17, hx18⟩ : ∃ el_, K.l[iL4]? = some el_ := ⟨_, List.getElem?_eq_getElem (hlt16)⟩
   refine WO.cons (WC.load1E (blk a1) (0 + (iL4) * 1) (.int .i64 (x17)) (by kernel_rfl) T_agg3 ((hK.mono hE11 le12).blkB hv3 (zl hlt16)) (flat_at1 (hK.mono hE11 le12).1 hx18 rfl) ?_)
   refine WO.cons (WC.call 16 f ((.int .i64 (x17)) :: b.toList) (fun _ _ _ => by kernel_rfl) ((hf iL4 x17 hx18 hp6 (nx7) le12 hE11).mono ?_))
   rintro _ hp19 nx20 ⟨⟨c23, rfl, p23⟩, hn21, he22⟩
   have hE24 := hE11.trans he22 le12
   have hr25 := he10.trans he22 hn9
   have rl26 := Nat.le_trans hn9 hn21
   have le27 := Nat.le_trans le12 hn21
   refine WO.nil ?_
   refine WP.cond c23 (by kernel_rfl) (fun h28 => ?_) (fun h28 => ?_)
   ·
    have q29 := (p23).1 h28
    refine sr ?_
    refine ov 17 (.int .i64 (.ofNat iL4)) ?_
    refine ov 4 (.int .i64 (.ofNat iL4)) ?_
    refine WO.nil ?_
    refine WP.ret ⟨rfl, rfl, [.int .i64 (.ofNat iL4)], by kernel_rfl, ?_⟩
    exact ⟨.inr ⟨iL4, x17, rfl, hx18, q29, hinv⟩, le27, hE24⟩
   ·
    have q29 : ¬ (A x17) := fun k => by rw [(p23).2 k] at h28; cases h28
    refine WP.skip ?_
    refine WP.region ?_
    refine ov 18 (.int .i64 (.ofNat (iL4 + 1))) ?_ (fun _ _ _ => by rw [← wrapAdd (show iL4 + 1 < 9223372036854775808 by omega)]; kernel_rfl)
    refine ov 8 (.int .i64 (.ofNat (iL4 + 1))) ?_
    refine WO.nil ?_
    refine ⟨K.l.length - (iL4 + 1), by omega, iL4 + 1, by omega, by kernel_rfl, by kernel_rfl, by kernel_rfl, by kernel_rfl, rfl, rfl, ?_, ?_, ?_⟩
    · exact rl26
    · exact hr25
    · intro j y hj hy; rcases Nat.lt_succ_iff_lt_or_eq.1 hj with hj | rfl; exact hinv j y hj hy; rw [hx18] at hy; cases hy; exact q29
  ·
   have q15 := nq p13 h14
   refine WP.exit ?_
   refine sr ?_
   refine ov 4 (.int .i64 (-1)) ?_
   refine WO.nil ?_
   refine WP.ret ⟨rfl, rfl, [.int .i64 (-1)], by kernel_rfl, ?_⟩
   refine ⟨.inl ⟨rfl, fun y hy => ?_⟩, le12, hE11⟩
   obtain ⟨j, hj⟩ := List.getElem?_of_mem hy
   exact hinv j y (by have := (List.getElem?_eq_some_iff.1 hj).1; omega) hj
 ·
  exact ⟨0, by omega, by kernel_rfl, by kernel_rfl, by kernel_rfl, by kernel_rfl, rfl, rfl, Nat.le_refl _, HE.refl _ _, (fun j y h => absurd h (Nat.not_lt_zero _))⟩
theorem containsFunc_int {A : Int → Prop} (K : SV Int) (f : FuncId) (b : Array Value) (hp : Ht) (nx : Nat) (hK : SOk encI 1 hp nx K) (hf : ∀ (i : Nat) (x : Int), K.l[i]? = some x → ∀ (hp' : Ht) (nx' : Nat), nx ≤ nx' → HE nx hp hp' → WF ex f ((.int .i64 (x)) :: b.toList) hp' nx' (Stays nx' hp' (BoolIs (A x)))) : WF ex 56 [K.v, .func (.func f) #[] b] hp nx (Stays nx hp (BoolIs (∃ x ∈ K.l, A x))) := by
 obtain ⟨a1, c2, hv3⟩ := hK.shape
 have hsm3 := hK.2.2
 rw [hv3]
 refine WF.body (fi := ⟨Tryz.f56.body.getD .skip, 9, [.tmp 4]⟩) (by kernel_rfl) (by kernel_rfl) (by kernel_rfl) rfl ?_
 have hE := HE.refl nx hp
 refine sr ?_
 refine ov 4 (.bool false) ?_
 refine WO.nil ?_
 refine sr ?_
 refine ov 5 (.slice a1 (K.l.length) c2) ?_
 refine ov 6 (.func (.func f) #[] b) ?_
 refine WO.cons (WC.call 7 106 ([K.v, .func (.func f) #[] b]) (fun _ _ _ => by (try rw [hv3]); kernel_rfl) ((indexFunc_int K f b hp (nx) hK hf).mono ?_))
 rintro vz8 hp4 nx5 ⟨hz0, hn6, he7⟩
 obtain ⟨z8, rfl, hz9⟩ : ∃ z : Int, vz8 = .int .i64 z ∧ (0 ≤ z ↔ ∃ x ∈ K.l, A x) := IdxIs.sign hz0
 have hE10 := hE.trans he7 (Nat.le_refl nx)
 have le11 := Nat.le_trans (Nat.le_refl nx) hn6
 obtain ⟨c12, e12, p12⟩ := @nb (leI (0) (z8)) ((0) ≤ (z8)) (leI_iff)
 refine ov 8 (.bool c12) ?_ (fun _ _ _ => by subst e12; kernel_rfl)
 refine ov 4 (.bool c12) ?_
 refine WO.nil ?_
 refine WP.ret ⟨rfl, rfl, [.bool c12], by kernel_rfl, ?_⟩
 exact ⟨⟨c12, rfl, p12.trans hz9⟩, le11, hE10⟩
theorem isNaN_wf (x : Int) (hp : Ht) (nx : Nat) : WF ex 212 [.int .i64 (x)] hp nx (Stays nx hp (BoolIs False)) := by
 refine WF.body (fi := ⟨Tryz.f212.body.getD .skip, 6, [.tmp 2]⟩) (by kernel_rfl) (by kernel_rfl) (by kernel_rfl) rfl ?_
 have hE := HE.refl nx hp
 refine sr ?_
 refine ov 2 (.bool false) ?_
 refine WO.nil ?_
 refine sr ?_
 refine ov 3 (.int .i64 (x)) ?_
 refine ov 4 (.int .i64 (x)) ?_
 obtain ⟨c1, e1, p1⟩ := @nb ((!(eqI (x) (x)))) ((x) ≠ (x)) (neI_iff)
 refine ov 5 (.bool c1) ?_ (fun _ _ _ => by subst e1; kernel_rfl)
 refine ov 2 (.bool c1) ?_
 refine WO.nil ?_
 refine WP.ret ⟨rfl, rfl, [.bool c1], by kernel_rfl, ?_⟩
 refine ⟨⟨c1, rfl, ?_⟩, (Nat.le_refl nx), hE⟩
 exact p1.trans (by simp)
theorem compare_wf (x y : Int) (hp : Ht) (nx : Nat) : WF ex 158 [.int .i64 (x), .int .i64 (y)] hp nx (Stays nx hp (IntIs (cmpI x y))) := by
 refine WF.body (fi := ⟨Tryz.f158.body.getD .skip, 20, [.tmp 4]⟩) (by kernel_rfl) (by kernel_rfl) (by kernel_rfl) rfl ?_
 have hE := HE.refl nx hp
 refine sr ?_
 refine ov 4 (.int .i64 (0)) ?_
 refine WO.nil ?_
 refine sr ?_
 refine ov 7 (.int .i64 (x)) ?_
 refine WO.cons (WC.call 8 212 ([.int .i64 (x)]) (fun _ _ _ => by kernel_rfl) ((isNaN_wf (x) hp (nx)).mono ?_))
 rintro _ hp1 nx2 ⟨⟨c5, rfl, p5⟩, hn3, he4⟩
 have hE6 := hE.trans he4 (Nat.le_refl nx)
 have le7 := Nat.le_trans (Nat.le_refl nx) hn3
 refine ov 5 (.bool c5) ?_
 refine WO.nil ?_
 refine sr ?_
 refine ov 9 (.int .i64 (y)) ?_
 refine WO.cons (WC.call 10 212 ([.int .i64 (y)]) (fun _ _ _ => by kernel_rfl) ((isNaN_wf (y) hp1 (nx2)).mono ?_))
 rintro _ hp8 nx9 ⟨⟨c12, rfl, p12⟩, hn10, he11⟩
 have hE13 := hE6.trans he11 le7
 have le14 := Nat.le_trans le7 hn10
 refine ov 6 (.bool c12) ?_
 refine WO.nil ?_
 refine WP.seq ?_
 refine sr ?_
 refine ov 11 (.bool c5) ?_
 refine WO.nil ?_
 refine WP.cond c5 (by kernel_rfl) (fun h15 => ?_) (fun h15 => ?_)
 ·
  have q16 := (p5).1 h15
  refine WP.seq ?_
  refine sr ?_
  refine ov 12 (.bool c12) ?_
  refine WO.nil ?_
  refine WP.cond c12 (by kernel_rfl) (fun h17 => ?_) (fun h17 => ?_)
  ·
   have q18 := (p12).1 h17
   refine sr ?_
   refine ov 4 (.int .i64 (0)) ?_
   refine WO.nil ?_
   refine WP.ret ⟨rfl, rfl, [.int .i64 (0)], by kernel_rfl, ?_⟩
   refine ⟨?_, le14, hE13⟩
   show Value.int .i64 (0) = .int .i64 (cmpI x y)
   congr 1; unfold cmpI; split <;> (try split) <;> first | (exfalso; assumption) | omega
  ·
   have q18 : ¬ (False) := fun k => by rw [(p12).2 k] at h17; cases h17
   refine WP.skip ?_
   refine sr ?_
   refine ov 4 (.int .i64 (-1)) ?_
   refine WO.nil ?_
   refine WP.ret ⟨rfl, rfl, [.int .i64 (-1)], by kernel_rfl, ?_⟩
   refine ⟨?_, le14, hE13⟩
   show Value.int .i64 (-1) = .int .i64 (cmpI x y)
   congr 1; unfold cmpI; split <;> (try split) <;> first | (exfalso; assumption) | omega
 ·
  have q16 : ¬ (False) := fun k => by rw [(p5).2 k] at h15; cases h15
  refine WP.skip ?_
  refine WP.seq ?_
  refine sr ?_
  refine ov 13 (.bool c12) ?_
  refine WO.nil ?_
  refine WP.cond c12 (by kernel_rfl) (fun h19 => ?_) (fun h19 => ?_)
  ·
   have q20 := (p12).1 h19
   refine sr ?_
   refine ov 4 (.int .i64 (1)) ?_
   refine WO.nil ?_
   refine WP.ret ⟨rfl, rfl, [.int .i64 (1)], by kernel_rfl, ?_⟩
   refine ⟨?_, le14, hE13⟩
   show Value.int .i64 (1) = .int .i64 (cmpI x y)
   congr 1; unfold cmpI; split <;> (try split) <;> first | (exfalso; assumption) | omega
  ·
   have q20 : ¬ (False) := fun k => by rw [(p12).2 k] at h19; cases h19
   refine WP.skip ?_
   refine WP.seq ?_
   refine sr ?_
   refine ov 14 (.int .i64 (x)) ?_
   refine ov 15 (.int .i64 (y)) ?_
   obtain ⟨c21, e21, p21⟩ := @nb (ltI (x) (y)) ((x) < (y)) (ltI_iff)
   refine ov 16 (.bool c21) ?_ (fun _ _ _ => by subst e21; kernel_rfl)
   refine WO.nil ?_
   refine WP.cond c21 (by kernel_rfl) (fun h22 => ?_) (fun h22 => ?_)
   ·
    have q23 := (p21).1 h22
    refine sr ?_
    refine ov 4 (.int .i64 (-1)) ?_
    refine WO.nil ?_
    refine WP.ret ⟨rfl, rfl, [.int .i64 (-1)], by kernel_rfl, ?_⟩
    refine ⟨?_, le14, hE13⟩
    show Value.int .i64 (-1) = .int .i64 (cmpI x y)
    congr 1; unfold cmpI; split <;> (try split) <;> first | (exfalso; assumption) | omega
   ·
    have q23 := nq p21 h22
    refine WP.skip ?_
    refine WP.seq ?_
    refine sr ?_
    refine ov 17 (.int .i64 (x)) ?_
    refine ov 18 (.int .i64 (y)) ?_
    obtain ⟨c24, e24, p24⟩ := @nb (ltI (y) (x)) ((y) < (x)) (ltI_iff)
    refine ov 19 (.bool c24) ?_ (fun _ _ _ => by subst e24; kernel_rfl)
    refine WO.nil ?_
    refine WP.cond c24 (by kernel_rfl) (fun h25 => ?_) (fun h25 => ?_)
    ·
     have q26 := (p24).1 h25
     refine sr ?_
     refine ov 4 (.int .i64 (1)) ?_
     refine WO.nil ?_
     refine WP.ret ⟨rfl, rfl, [.int .i64 (1)], by kernel_rfl, ?_⟩
     refine ⟨?_, le14, hE13⟩
     show Value.int .i64 (1) = .int .i64 (cmpI x y)
     congr 1; unfold cmpI; split <;> (try split) <;> first | (exfalso; assumption) | omega
    ·
     have q26 := nq p24 h25
     refine WP.skip ?_
     refine sr ?_
     refine ov 4 (.int .i64 (0)) ?_
     refine WO.nil ?_
     refine WP.ret ⟨rfl, rfl, [.int .i64 (0)], by kernel_rfl, ?_⟩
     refine ⟨?_, le14, hE13⟩
     show Value.int .i64 (0) = .int .i64 (cmpI x y)
     congr 1; unfold cmpI; split <;> (try split) <;> first | (exfalso; assumption) | omega
theorem or_wf (K : SV Int) (hp : Ht) (nx : Nat) (hK : SOk encI 1 hp nx K) : WF ex 157 [K.v] hp nx (Stays nx hp (OrIs K.l)) := by
 obtain ⟨a1, c2, hv3⟩ := hK.shape
 have hsm3 := hK.2.2
 rw [hv3]
 refine WF.body (fi := ⟨Tryz.f157.body.getD .skip, 18, [.tmp 2]⟩) (by kernel_rfl) (by kernel_rfl) (by kernel_rfl) rfl ?_
 have hE := HE.refl nx hp
 refine sr ?_
 refine ov 2 (.int .i64 (0)) ?_
 refine WO.nil ?_
 refine sr ?_
 refine ov 3 (.int .i64 (0)) ?_
 refine WO.nil ?_
 refine WP.seq ?_
 refine sr ?_
 refine ov 6 (.slice a1 (K.l.length) c2) ?_
 refine ov 7 (.int .i64 (.ofNat (K.l.length))) ?_
 refine ov 8 (.int .i64 (0)) ?_
 refine WO.nil ?_
 refine WP.block ?_
 have hj5 : ∀ t : Tm, ((((t.set 3 (t.get 3)).set 6 (t.get 6)).set 7 (t.get 7)).set 8 (t.get 8)) = t := fun t => by kernel_rfl
 refine WP.loop (fun m s => ∃ (iL4 : Nat), iL4 + m = K.l.length ∧ s.to.get 3 = .int .i64 (0) ∧ s.to.get 6 = .slice a1 (K.l.length) c2 ∧ s.to.get 7 = .int .i64 (.ofNat (K.l.length)) ∧ s.to.get 8 = .int .i64 (.ofNat iL4) ∧ s.ds = [] ∧ s.cs = [] ∧ nx ≤ s.nx ∧ HE (nx) hp s.hp ∧ (∀ (j : Nat) (y : Int), j < iL4 → K.l[j]? = some y → y = 0)) ?_ (K.l.length) ?_
 ·
  rintro mL4 ⟨toL4, dsL4, hp6, nx7, csL4⟩ ⟨iL4, him8, gL4_3, gL4_6, gL4_7, gL4_8, hdsL4, hcsL4, hn9, he10, hinv⟩
  simp only at gL4_3 gL4_6 gL4_7 gL4_8 hdsL4 hcsL4 hn9 he10
  subst hdsL4 hcsL4
  rw [← hj5 toL4, gL4_3, gL4_6, gL4_7, gL4_8]
  clear gL4_3 gL4_6 gL4_7 gL4_8
  have hE11 := hE.trans he10 (Nat.le_refl nx)
  have le12 := Nat.le_trans (Nat.le_refl nx) hn9
  refine sr ?_
  obtain ⟨c13, e13, p13⟩ := @nb (ltI (.ofNat iL4) (.ofNat (K.l.length))) (((iL4 : Nat) : Int) < ((K.l.length : Nat) : Int)) (ltI_iff)
  refine ov 9 (.bool c13) ?_ (fun _ _ _ => by subst e13; kernel_rfl)
  refine WO.nil ?_
  refine WP.seq ?_
  refine WP.cond c13 (by kernel_rfl) (fun h14 => ?_) (fun h14 => ?_)
  ·
   have q15 := (p13).1 h14
   refine WP.skip ?_
   refine WP.seq ?_
   refine WP.block ?_
   refine sr ?_
   have hlt16 : iL4 < K.l.length := by omega
   refine WO.cons (WC.ix (k := .i64) a1 (K.l.length) c2 (iL4) 1 (by kernel_rfl) (by kernel_rfl) T_und30 T_size3 ((hK.mono hE11 le12).blkA hv3 (zl hlt16)) (hlt16) ?_)
   obtain ⟨x17, hx18⟩ : ∃ el_, K.l[iL4]? = some el_ := ⟨_, List.getElem?_eq_getElem (hlt16)⟩
   refine WO.cons (WC.load1E (blk a1) (0 + (iL4) * 1) (.int .i64 (x17)) (by kernel_rfl) T_agg3 ((hK.mono hE11 le12).blkB hv3 (zl hlt16)) (flat_at1 (hK.mono hE11 le12).1 hx18 rfl) ?_)
   refine ov 5 (.int .i64 (x17)) ?_
   refine WO.nil ?_
   refine sr ?_
   refine ov 12 (.int .i64 (x17)) ?_
   refine ov 13 (.int .i64 (0)) ?_
   obtain ⟨c19, e19, p19⟩ := @nb ((!(eqI (x17) (0)))) ((x17) ≠ (0)) (neI_iff)
   refine ov 14 (.bool c19) ?_ (fun _ _ _ => by subst e19; kernel_rfl)
   refine WO.nil ?_
   refine WP.cond c19 (by kernel_rfl) (fun h20 => ?_) (fun h20 => ?_)
   ·
    have q21 := (p19).1 h20
    refine sr ?_
    refine ov 15 (.int .i64 (x17)) ?_
    refine ov 2 (.int .i64 (x17)) ?_
    refine WO.nil ?_
    refine WP.ret ⟨rfl, rfl, [.int .i64 (x17)], by kernel_rfl, ?_⟩
    exact ⟨.inr ⟨_, x17, rfl, hx18, q21, hinv⟩, le12, hE11⟩
   ·
    have q21 := nq p19 h20
    refine WP.skip ?_
    refine WP.region ?_
    refine ov 16 (.int .i64 (.ofNat (iL4 + 1))) ?_ (fun _ _ _ => by rw [← wrapAdd (show iL4 + 1 < 9223372036854775808 by omega)]; kernel_rfl)
    refine ov 8 (.int .i64 (.ofNat (iL4 + 1))) ?_
    refine WO.nil ?_
    refine ⟨K.l.length - (iL4 + 1), by omega, iL4 + 1, by omega, by kernel_rfl, by kernel_rfl, by kernel_rfl, by kernel_rfl, rfl, rfl, ?_, ?_, ?_⟩
    · exact hn9
    · exact he10
    · intro j y hj hy; rcases Nat.lt_succ_iff_lt_or_eq.1 hj with hj | rfl; exact hinv j y hj hy; rw [hx18] at hy; cases hy; exact Decidable.not_not.1 q21
  ·
   have q15 := nq p13 h14
   refine WP.exit ?_
   refine sr ?_
   refine ov 17 (.int .i64 (0)) ?_
   refine ov 2 (.int .i64 (0)) ?_
   refine WO.nil ?_
   refine WP.ret ⟨rfl, rfl, [.int .i64 (0)], by kernel_rfl, ?_⟩
   refine ⟨.inl ⟨rfl, fun y hy => ?_⟩, le12, hE11⟩
   obtain ⟨j, hj⟩ := List.getElem?_of_mem hy
   exact hinv j y (by have := (List.getElem?_eq_some_iff.1 hj).1; omega) hj
 ·
  exact ⟨0, by omega, by kernel_rfl, by kernel_rfl, by kernel_rfl, by kernel_rfl, rfl, rfl, Nat.le_refl _, HE.refl _ _, (fun j y h => absurd h (Nat.not_lt_zero _))⟩
theorem placeCompare_wf (a b c d : Int) (hp : Ht) (nx : Nat) : WF ex 105 [.agg ⟨[.int .i64 (a), .int .i64 (b)]⟩, .agg ⟨[.int .i64 (c), .int .i64 (d)]⟩] hp nx (Stays nx hp (IntIs (orI (cmpI a c) (cmpI b d)))) := by
 refine WF.body (fi := ⟨Tryz.f105.body.getD .skip, 17, [.tmp 4]⟩) (by kernel_rfl) (by kernel_rfl) (by kernel_rfl) rfl ?_
 have hE := HE.refl nx hp
 refine sr ?_
 refine WO.cons (WC.box (.agg ⟨[.int .i64 (a), .int .i64 (b)]⟩) [.int .i64 (a), .int .i64 (b)] rfl (by kernel_rfl) rfl ?_)
 obtain ⟨hp2, hx3, he4, hb5⟩ := boxed hp (nx) [.int .i64 (a), .int .i64 (b)]
 rw [hx3]; clear hx3
 have hE6 := hE.trans he4 (Nat.le_refl nx)
 have le7 := Nat.le_trans (Nat.le_refl nx) (Nat.le_succ (nx))
 refine WO.cons (WC.box (.agg ⟨[.int .i64 (c), .int .i64 (d)]⟩) [.int .i64 (c), .int .i64 (d)] rfl (by kernel_rfl) rfl ?_)
 obtain ⟨hp9, hx10, he11, hb12⟩ := boxed hp2 (nx + 1) [.int .i64 (c), .int .i64 (d)]
 rw [hx10]; clear hx10
 have hE13 := hE6.trans he11 le7
 have hb14 := he11.get hb5 (Nat.lt_succ_self (nx))
 have lt15 := Nat.lt_of_lt_of_le (Nat.lt_succ_self (nx)) (Nat.le_succ (nx + 1))
 have le16 := Nat.le_trans le7 (Nat.le_succ (nx + 1))
 refine ov 4 (.int .i64 (0)) ?_
 refine WO.nil ?_
 refine WP.seq ?_
 refine WP.drawS [⟨[0, 1, 2, 3, 5, 6, 7, 8], [0, 1, 2, 3, 5, 6, 7, 8], some 4⟩, ⟨[], [5, 6, 7, 8], some 9⟩, ⟨[10], [10], some 11⟩, ⟨[], [], some 12⟩, ⟨[], [], none⟩] (by kernel_rfl) _ rfl ?_
 refine WD.eff ?_
 refine nv 5 (.pointer (some ⟨nx, 0 + 0, none⟩)) ?_
 refine WN.consAt rfl (WC.load1 nx (0 + 0) (.int .i64 (a)) (by kernel_rfl) T_agg3 hb14 rfl ?_)
 refine nv 7 (.pointer (some ⟨(nx + 1), 0 + 0, none⟩)) ?_
 refine WN.consAt rfl (WC.load1 (nx + 1) (0 + 0) (.int .i64 (c)) (by kernel_rfl) T_agg3 hb12 rfl ?_)
 refine nv 10 (.pointer (some ⟨nx, 0 + 1, none⟩)) ?_
 refine WN.consAt rfl (WC.load1 nx (0 + 1) (.int .i64 (b)) (by kernel_rfl) T_agg3 hb14 rfl ?_)
 refine nv 12 (.pointer (some ⟨(nx + 1), 0 + 1, none⟩)) ?_
 refine WN.consAt rfl (WC.load1 (nx + 1) (0 + 1) (.int .i64 (d)) (by kernel_rfl) T_agg3 hb12 rfl ?_)
 refine WN.nil ⟨?_, ?_⟩
 ·
  refine cv (.pointer (some ⟨nx, 0 + 0, none⟩)) (vEq_ptr ..) ?_
  refine co (.int .i64 (a)) (eLoad ex.T hp9.get 3 (.pointer (some ⟨nx, 0 + 0, none⟩))) (eLoad_one T_agg3 hb14 rfl) (vEq_int ..) ?_
  refine cv (.pointer (some ⟨(nx + 1), 0 + 0, none⟩)) (vEq_ptr ..) ?_
  refine co (.int .i64 (c)) (eLoad ex.T hp9.get 3 (.pointer (some ⟨(nx + 1), 0 + 0, none⟩))) (eLoad_one T_agg3 hb12 rfl) (vEq_int ..) ?_
  refine cv (.pointer (some ⟨nx, 0 + 1, none⟩)) (vEq_ptr ..) ?_
  refine co (.int .i64 (b)) (eLoad ex.T hp9.get 3 (.pointer (some ⟨nx, 0 + 1, none⟩))) (eLoad_one T_agg3 hb14 rfl) (vEq_int ..) ?_
  refine cv (.pointer (some ⟨(nx + 1), 0 + 1, none⟩)) (vEq_ptr ..) ?_
  refine co (.int .i64 (d)) (eLoad ex.T hp9.get 3 (.pointer (some ⟨(nx + 1), 0 + 1, none⟩))) (eLoad_one T_agg3 hb12 rfl) (vEq_int ..) ?_
  exact Chks.nil
 refine WC.at rfl (WC.call 9 158 ([.int .i64 (a), .int .i64 (c)]) (fun _ _ _ => by kernel_rfl) ((compare_wf (a) (c) hp9 (nx + 1 + 1)).mono ?_))
 rintro _ hp17 nx18 ⟨rfl, hn19, he20⟩
 have hE21 := hE13.trans he20 le16
 have hb22 := he20.get hb14 lt15
 have hb24 := he20.get hb12 (Nat.lt_succ_self (nx + 1))
 have le26 := Nat.le_trans le16 hn19
 refine WD.eff ?_
 refine WN.nil ⟨?_, ?_⟩
 ·
  refine cv (.pointer (some ⟨nx, 0 + 1, none⟩)) (vEq_ptr ..) ?_
  refine co (.int .i64 (b)) (eLoad ex.T hp17.get 3 (.pointer (some ⟨nx, 0 + 1, none⟩))) (eLoad_one T_agg3 hb22 rfl) (vEq_int ..) ?_
  refine cv (.pointer (some ⟨(nx + 1), 0 + 1, none⟩)) (vEq_ptr ..) ?_
  refine co (.int .i64 (d)) (eLoad ex.T hp17.get 3 (.pointer (some ⟨(nx + 1), 0 + 1, none⟩))) (eLoad_one T_agg3 hb24 rfl) (vEq_int ..) ?_
  exact Chks.nil
 refine WC.at rfl (WC.call 14 158 ([.int .i64 (b), .int .i64 (d)]) (fun _ _ _ => by kernel_rfl) ((compare_wf (b) (d) hp17 (nx18)).mono ?_))
 rintro _ hp27 nx28 ⟨rfl, hn29, he30⟩
 have hE31 := hE21.trans he30 le26
 have le36 := Nat.le_trans le26 hn29
 refine WD.eff ?_
 refine WN.consAt rfl (WC.buildSlice [.int .i64 (cmpI (a) (c)), .int .i64 (cmpI (b) (d))] rfl (by kernel_rfl) ?_)
 obtain ⟨hp37, hx38, he39, hb40⟩ := boxed hp27 (nx28) [.int .i64 (cmpI (a) (c)), .int .i64 (cmpI (b) (d))]
 rw [hx38]; clear hx38
 have hE41 := hE31.trans he39 le36
 have le46 := Nat.le_trans le36 (Nat.le_succ (nx28))
 refine WN.nil ⟨?_, ?_⟩
 ·
  refine Chks.new nx28 (.slice (some ⟨nx28, 0, none⟩) (2) 2) [.int .i64 (cmpI (a) (c)), .int .i64 (cmpI (b) (d))] (fun _ => by kernel_rfl) hb40 (vEq_sl ..) (by simp [vEqs, vEq_int, vEq_bool]) ?_
  exact Chks.nil
 refine WC.at rfl (WC.call 16 157 ([.slice (some ⟨nx28, 0, none⟩) (2) 2]) (fun _ _ _ => by kernel_rfl) (((or_wf (⟨.slice (some ⟨nx28, 0, none⟩) 2 2, [cmpI (a) (c), cmpI (b) (d)]⟩ : SV Int) hp37 (nx28 + 1) (SOk.ofBox (enc := encI) (by simp [encI]) hb40 rfl (by decide) (by omega) (by simp) : SOk encI 1 hp37 (nx28 + 1) (⟨.slice (some ⟨nx28, 0, none⟩) 2 2, [cmpI (a) (c), cmpI (b) (d)]⟩ : SV Int))).mono (fun v hp' nx' h => (⟨OrIs.two h.1, h.2.1, h.2.2⟩ : Stays _ _ (IntIs (orI (cmpI (a) (c)) (cmpI (b) (d)))) v hp' nx'))).mono ?_))
 rintro _ hp48 nx49 ⟨rfl, hn50, he51⟩
 have hE52 := hE41.trans he51 le46
 have le59 := Nat.le_trans le46 hn50
 refine WD.eff ?_
 refine WN.nil ⟨?_, ?_⟩
 ·
  exact Chks.nil
 refine WC.at rfl (WC.val 4 (.int .i64 (orI (cmpI (a) (c)) (cmpI (b) (d)))) (fun _ _ _ => by kernel_rfl) ?_)
 refine WD.last ?_
 refine WN.nil ⟨?_, ?_⟩
 ·
  exact Chks.nil
 refine WP.ret ⟨rfl, rfl, [.int .i64 (orI (cmpI (a) (c)) (cmpI (b) (d)))], by kernel_rfl, ?_⟩
 refine ⟨?_, le59, hE52⟩
 show Value.int .i64 (orI (cmpI (a) (c)) (cmpI (b) (d))) = .int .i64 (orI (cmpI a c) (cmpI b d))
 rfl
theorem order_wf (p s : RSegment) (hp : Ht) (nx : Nat) : WF ex 55 [.agg (encSegment p).toArray, .agg (encSegment s).toArray] hp nx (Stays nx hp (IntIs (orI (cmpI p.fMat s.fMat) (cmpI p.fEpoch s.fEpoch)))) := by
 refine WF.body (fi := ⟨Tryz.f55.body.getD .skip, 16, [.tmp 4]⟩) (by kernel_rfl) (by kernel_rfl) (by kernel_rfl) rfl ?_
 have hE := HE.refl nx hp
 refine sr ?_
 refine WO.cons (WC.box (.agg (encSegment p).toArray) (encSegment p) rfl (by kernel_rfl) rfl ?_)
 obtain ⟨hp2, hx3, he4, hb5⟩ := boxed hp (nx) (encSegment p)
 rw [hx3]; clear hx3
 have hE6 := hE.trans he4 (Nat.le_refl nx)
 have le7 := Nat.le_trans (Nat.le_refl nx) (Nat.le_succ (nx))
 refine WO.cons (WC.box (.agg (encSegment s).toArray) (encSegment s) rfl (by kernel_rfl) rfl ?_)
 obtain ⟨hp9, hx10, he11, hb12⟩ := boxed hp2 (nx + 1) (encSegment s)
 rw [hx10]; clear hx10
 have hE13 := hE6.trans he11 le7
 have hb14 := he11.get hb5 (Nat.lt_succ_self (nx))
 have le16 := Nat.le_trans le7 (Nat.le_succ (nx + 1))
 refine ov 4 (.int .i64 (0)) ?_
 refine WO.nil ?_
 refine sr ?_
 refine ov 5 (.pointer (some ⟨nx, 0 + 0, none⟩)) ?_
 refine WO.cons (WC.load1 nx (0 + 0) (.int .i64 (p.fMat)) (by kernel_rfl) T_agg3 hb14 rfl ?_)
 refine ov 7 (.pointer (some ⟨nx, 0 + 1, none⟩)) ?_
 refine WO.cons (WC.load1 nx (0 + 1) (.int .i64 (p.fEpoch)) (by kernel_rfl) T_agg3 hb14 rfl ?_)
 refine ov 9 (.agg ⟨[.int .i64 (p.fMat), .int .i64 (p.fEpoch)]⟩) ?_
 refine ov 10 (.pointer (some ⟨(nx + 1), 0 + 0, none⟩)) ?_
 refine WO.cons (WC.load1 (nx + 1) (0 + 0) (.int .i64 (s.fMat)) (by kernel_rfl) T_agg3 hb12 rfl ?_)
 refine ov 12 (.pointer (some ⟨(nx + 1), 0 + 1, none⟩)) ?_
 refine WO.cons (WC.load1 (nx + 1) (0 + 1) (.int .i64 (s.fEpoch)) (by kernel_rfl) T_agg3 hb12 rfl ?_)
 refine ov 14 (.agg ⟨[.int .i64 (s.fMat), .int .i64 (s.fEpoch)]⟩) ?_
 refine WO.cons (WC.call 15 105 ([.agg ⟨[.int .i64 (p.fMat), .int .i64 (p.fEpoch)]⟩, .agg ⟨[.int .i64 (s.fMat), .int .i64 (s.fEpoch)]⟩]) (fun _ _ _ => by kernel_rfl) ((placeCompare_wf (p.fMat) (p.fEpoch) (s.fMat) (s.fEpoch) hp9 (nx + 1 + 1)).mono ?_))
 rintro _ hp17 nx18 ⟨rfl, hn19, he20⟩
 have hE21 := hE13.trans he20 le16
 have le26 := Nat.le_trans le16 hn19
 refine ov 4 (.int .i64 (orI (cmpI (p.fMat) (s.fMat)) (cmpI (p.fEpoch) (s.fEpoch)))) ?_
 refine WO.nil ?_
 refine WP.ret ⟨rfl, rfl, [.int .i64 (orI (cmpI (p.fMat) (s.fMat)) (cmpI (p.fEpoch) (s.fEpoch)))], by kernel_rfl, ?_⟩
 refine ⟨?_, le26, hE21⟩
 show Value.int .i64 (orI (cmpI (p.fMat) (s.fMat)) (cmpI (p.fEpoch) (s.fEpoch))) = .int .i64 (orI (cmpI p.fMat s.fMat) (cmpI p.fEpoch s.fEpoch))
 rfl
theorem clocksCheck_wf (K : RClocks) (hp : Ht) (nx : Nat) (hK : RClocksOk hp nx K) : WF ex 28 [.agg (encClocks K).toArray] hp nx (Stays nx hp (CodeIs 160 (ClocksOk K))) := by
 refine WF.body (fi := ⟨Tryz.f28.body.getD .skip, 141, [.tmp 2]⟩) (by kernel_rfl) (by kernel_rfl) (by kernel_rfl) rfl ?_
 have hE := HE.refl nx hp
 refine sr ?_
 refine WO.cons (WC.box (.agg (encClocks K).toArray) (encClocks K) rfl (by kernel_rfl) rfl ?_)
 obtain ⟨hp2, hx3, he4, hb5⟩ := boxed hp (nx) (encClocks K)
 rw [hx3]; clear hx3
 have hE6 := hE.trans he4 (Nat.le_refl nx)
 have le7 := Nat.le_trans (Nat.le_refl nx) (Nat.le_succ (nx))
 refine ov 2 (.int .i64 (0)) ?_
 refine WO.nil ?_
 refine sr ?_
 refine ov 13 (.pointer (some ⟨nx, 0 + 0, none⟩)) ?_
 obtain ⟨a8, c9, hv10⟩ := hK.fSegments.shape
 have hsm10 := hK.fSegments.2.2
 refine WO.cons (WC.load1 nx (0 + 0) (.slice a8 (K.fSegments.l.length) c9) (by kernel_rfl) T_agg22 hb5 (by rw [← hv10]; rfl) ?_)
 refine ov 15 (.int .i64 (.ofNat (K.fSegments.l.length))) ?_
 refine ov 3 (.int .i64 (.ofNat (K.fSegments.l.length))) ?_
 refine WO.nil ?_
 refine WP.seq ?_
 refine sr ?_
 refine ov 16 (.int .i64 (.ofNat (K.fSegments.l.length))) ?_
 obtain ⟨c11, e11, p11⟩ := @nb (ltI (511) (.ofNat (K.fSegments.l.length))) ((511) < ((K.fSegments.l.length : Nat) : Int)) (ltI_iff)
 refine ov 17 (.bool c11) ?_ (fun _ _ _ => by subst e11; kernel_rfl)
 refine ov 18 (.bool c11) ?_
 refine og 18 (!c11) (.pointer (some ⟨nx, 0 + 1, none⟩)) (.bool c11) (by cases c11 <;> rfl) (fun h => by obtain rfl := bF h; exact fun _ _ _ => by kernel_rfl) ?_
 obtain ⟨a12, c13, hv14⟩ := hK.fFar.1.shape
 have hsm14 := hK.fFar.1.2.2
 refine ogc 18 (!c11) (.slice a12 (K.fFar.l.length) c13) (.bool c11) (by cases c11 <;> rfl) (fun h => by obtain rfl := bF h; exact WC.load1 nx (0 + 1) (.slice a12 (K.fFar.l.length) c13) (by kernel_rfl) T_agg23 hb5 (by rw [← hv14]; rfl) rfl) ?_
 refine og 18 (!c11) (.int .i64 (.ofNat (K.fFar.l.length))) (.bool c11) (by cases c11 <;> rfl) (fun h => by obtain rfl := bF h; exact fun _ _ _ => by kernel_rfl) ?_
 refine og 18 (!c11) (.int .i64 (.ofNat (K.fSegments.l.length))) (.bool c11) (by cases c11 <;> rfl) (fun h => by obtain rfl := bF h; exact fun _ _ _ => by kernel_rfl) ?_
 refine og 18 (!c11) (.int .i64 (.ofNat (K.fSegments.l.length + 1))) (.bool c11) (by cases c11 <;> rfl) (fun h => by obtain rfl := bF h; have q0 := nf p11; exact fun _ _ _ => by rw [← wrapAdd (show K.fSegments.l.length + 1 < 9223372036854775808 by omega)]; kernel_rfl) ?_
 obtain ⟨c15, e15, p15⟩ := @nb ((!(eqI (.ofNat (K.fFar.l.length)) (.ofNat (K.fSegments.l.length + 1))))) (((K.fFar.l.length : Nat) : Int) ≠ ((K.fSegments.l.length + 1 : Nat) : Int)) (neI_iff)
 refine og 18 (!c11) (.bool c15) (.bool c11) (by cases c11 <;> rfl) (fun h => by obtain rfl := bF h; exact fun _ _ _ => by subst e15; kernel_rfl) ?_
 obtain ⟨c16, e16, p16⟩ := @nb ((c11 || c15)) (((511) < ((K.fSegments.l.length : Nat) : Int)) ∨ (((K.fFar.l.length : Nat) : Int) ≠ ((K.fSegments.l.length + 1 : Nat) : Int))) (by rw [Bool.or_eq_true, p11, p15])
 refine WO.cons (WC.opt (v := .bool c16) 25 (ePick (.bool c11) (.bool true) ((bif !c11 then .bool c15 else undef))) (fun _ _ _ => by kernel_rfl) (by rw [e16]; exact ePick_or (fun h => by obtain rfl : c11 = false := h; rfl)) ?_)
 refine WO.nil ?_
 refine WP.cond c16 (by kernel_rfl) (fun h17 => ?_) (fun h17 => ?_)
 ·
  have q18 := (p16).1 h17
  refine sr ?_
  refine ov 2 (.int .i64 (160)) ?_
  refine WO.nil ?_
  refine WP.ret ⟨rfl, rfl, [.int .i64 (160)], by kernel_rfl, ?_⟩
  refine ⟨⟨160, rfl, ⟨fun h => absurd h (by decide), fun hok => ?_⟩, .inr rfl⟩, le7, hE6⟩
  have h1 := hok.few; have h2 := hok.far; omega
 ·
  have q18 := nq p16 h17
  refine WP.skip ?_
  refine WP.seq ?_
  refine sr ?_
  refine ov 26 (.pointer (some ⟨nx, 0 + 0, none⟩)) ?_
  refine WO.cons (WC.load1 nx (0 + 0) (.slice a8 (K.fSegments.l.length) c9) (by kernel_rfl) T_agg22 hb5 (by rw [← hv10]; rfl) ?_)
  refine ov 28 (.int .i64 (.ofNat (K.fSegments.l.length))) ?_
  refine ov 29 (.int .i64 (0)) ?_
  refine WO.nil ?_
  refine WP.block ?_
  have hj20 : ∀ t : Tm, (((((t.set 1 (t.get 1)).set 3 (t.get 3)).set 27 (t.get 27)).set 28 (t.get 28)).set 29 (t.get 29)) = t := fun t => by kernel_rfl
  refine WP.loop (fun m s => ∃ (iL19 : Nat), iL19 + m = K.fSegments.l.length ∧ s.to.get 1 = .pointer (some ⟨nx, 0, none⟩) ∧ s.to.get 3 = .int .i64 (.ofNat (K.fSegments.l.length)) ∧ s.to.get 27 = .slice a8 (K.fSegments.l.length) c9 ∧ s.to.get 28 = .int .i64 (.ofNat (K.fSegments.l.length)) ∧ s.to.get 29 = .int .i64 (.ofNat iL19) ∧ s.ds = [] ∧ s.cs = [] ∧ nx + 1 ≤ s.nx ∧ HE (nx + 1) hp2 s.hp ∧ (∀ (j : Nat) (s : RSegment), j < iL19 → K.fSegments.l[j]? = some s → segOk K.fSegments.l j s)) ?_ (K.fSegments.l.length) ?_
  ·
   rintro mL19 ⟨toL19, dsL19, hp21, nx22, csL19⟩ ⟨iL19, him23, gL19_1, gL19_3, gL19_27, gL19_28, gL19_29, hdsL19, hcsL19, hn24, he25, hseg⟩
   simp only at gL19_1 gL19_3 gL19_27 gL19_28 gL19_29 hdsL19 hcsL19 hn24 he25 hseg
   subst hdsL19 hcsL19
   rw [← hj20 toL19, gL19_1, gL19_3, gL19_27, gL19_28, gL19_29]
   clear gL19_1 gL19_3 gL19_27 gL19_28 gL19_29
   have hE26 := hE6.trans he25 le7
   have hb27 := he25.get hb5 (Nat.lt_succ_self (nx))
   have lt28 := Nat.lt_of_lt_of_le (Nat.lt_succ_self (nx)) hn24
   have le29 := Nat.le_trans le7 hn24
   refine sr ?_
   obtain ⟨c30, e30, p30⟩ := @nb (ltI (.ofNat iL19) (.ofNat (K.fSegments.l.length))) (((iL19 : Nat) : Int) < ((K.fSegments.l.length : Nat) : Int)) (ltI_iff)
   refine ov 30 (.bool c30) ?_ (fun _ _ _ => by subst e30; kernel_rfl)
   refine WO.nil ?_
   refine WP.seq ?_
   refine WP.cond c30 (by kernel_rfl) (fun h31 => ?_) (fun h31 => ?_)
   ·
    have q32 := (p30).1 h31
    refine WP.skip ?_
    refine WP.seq ?_
    refine WP.block ?_
    refine sr ?_
    refine ov 31 (.int .i64 (.ofNat iL19)) ?_
    have hlt33 : iL19 < K.fSegments.l.length := by omega
    refine WO.cons (WC.ix (k := .i64) a8 (K.fSegments.l.length) c9 (iL19) 3 (by kernel_rfl) (by kernel_rfl) T_und22 T_size154 ((hK.fSegments.mono hE26 le29).blkA hv10 (zl hlt33)) (hlt33) ?_)
    obtain ⟨x34, hx35⟩ : ∃ el_, K.fSegments.l[iL19]? = some el_ := ⟨_, List.getElem?_eq_getElem (hlt33)⟩
    refine WO.cons (WC.loadSE (blk a8) (0 + (iL19) * 3) (encSegment x34) (by kernel_rfl) T_agg154 T_size154 ((hK.fSegments.mono hE26 le29).blkB hv10 (zl hlt33)) (flat_at0 (hK.fSegments.mono hE26 le29).1 hx35) ?_)
    refine WO.cons (WC.alloc _ [.int .i64 (0), .int .i64 (0), .int .i64 (0)] rfl T_zero154 rfl ?_)
    obtain ⟨hp37, hx38, he39, hb40⟩ := boxed hp21 (nx22) [.int .i64 (0), .int .i64 (0), .int .i64 (0)]
    rw [hx38]; clear hx38
    have hE41 := hE26.trans he39 le29
    have hb42 := he39.get hb27 lt28
    have lt43 := Nat.lt_of_lt_of_le lt28 (Nat.le_succ (nx22))
    have hr44 := he25.trans he39 hn24
    have rl45 := Nat.le_trans hn24 (Nat.le_succ (nx22))
    have le46 := Nat.le_trans le29 (Nat.le_succ (nx22))
    refine ov 4 (.int .i64 (.ofNat iL19)) ?_
    refine WO.cons (WC.store1 nx22 (0) (.agg (encSegment x34).toArray) [.int .i64 (0), .int .i64 (0), .int .i64 (0)] (encSegment x34) (encSegment x34) 3 rfl (by kernel_rfl) (by kernel_rfl) T_size154 rfl rfl hb40 rfl rfl rfl ?_)
    obtain ⟨hp47, hx48, he49, hb50, ho51⟩ := stored hp37 nx22 (.cells (encSegment x34) CMeta.plain)
    rw [hx48]; clear hx48
    have hE52 := hE41.trans he49 (by omega)
    have hr53 := hr44.trans he49 (by omega)
    have hb54 := (ho51 nx (by omega)).trans hb42
    refine WO.nil ?_
    refine WP.seq ?_
    refine WP.drawS [⟨[0, 1, 2, 3, 4, 5, 6, 7, 8, 9, 10, 11, 12, 13, 14, 15, 16, 17, 18, 19, 20], [0, 1, 2, 3, 4, 5, 6, 7, 8, 9, 10, 11, 12, 13, 14, 15, 16, 17, 18, 19, 20], some 21⟩, ⟨[22, 23, 24, 25, 26, 27, 28, 29, 30, 31, 32, 33, 34], [22, 23, 24, 25, 26, 27, 28, 29, 30, 31, 32, 33, 34], some 35⟩, ⟨[36, 37, 38], [36, 37, 38], none⟩] (by kernel_rfl) _ rfl ?_
    refine WD.eff ?_
    refine nv 34 (.pointer (some ⟨nx22, 0 + 0, none⟩)) ?_
    refine WN.consAt rfl (WC.load1 nx22 (0 + 0) (.int .i64 (x34.fMat)) (by kernel_rfl) T_agg3 hb50 rfl ?_)
    obtain ⟨c55, e55, p55⟩ := @nb (ltI (x34.fMat) (0)) ((x34.fMat) < (0)) (ltI_iff)
    refine nv 36 (.bool c55) ?_ (fun _ _ _ => by subst e55; kernel_rfl)
    refine nv 37 (.bool c55) ?_
    refine ng rfl 37 (!c55) (.pointer (some ⟨nx22, 0 + 0, none⟩)) (.bool c55) (by cases c55 <;> rfl) (fun h => by obtain rfl := bF h; exact fun _ _ _ => by kernel_rfl) ?_
    refine ngc rfl 37 (!c55) (.int .i64 (x34.fMat)) (.bool c55) (by cases c55 <;> rfl) (fun h => by obtain rfl := bF h; exact WC.load1 nx22 (0 + 0) (.int .i64 (x34.fMat)) (by kernel_rfl) T_agg3 hb50 rfl rfl) ?_
    obtain ⟨c56, e56, p56⟩ := @nb (leI (40) (x34.fMat)) ((40) ≤ (x34.fMat)) (leI_iff)
    refine ng rfl 37 (!c55) (.bool c56) (.bool c55) (by cases c55 <;> rfl) (fun h => by obtain rfl := bF h; exact fun _ _ _ => by subst e56; kernel_rfl) ?_
    obtain ⟨c57, e57, p57⟩ := @nb ((c55 || c56)) (((x34.fMat) < (0)) ∨ ((40) ≤ (x34.fMat))) (by rw [Bool.or_eq_true, p55, p56])
    refine WN.consAt rfl (WC.opt (v := .bool c57) 41 (ePick (.bool c55) (.bool true) ((bif !c55 then .bool c56 else undef))) (fun _ _ _ => by kernel_rfl) (by rw [e57]; exact ePick_or (fun h => by obtain rfl : c55 = false := h; rfl)) ?_)
    refine nv 42 (.bool c57) ?_
    refine ng rfl 42 (!c57) (.pointer (some ⟨nx22, 0 + 1, none⟩)) (.bool c57) (by cases c57 <;> rfl) (fun h => by obtain rfl := bF h; exact fun _ _ _ => by kernel_rfl) ?_
    refine ngc rfl 42 (!c57) (.int .i64 (x34.fEpoch)) (.bool c57) (by cases c57 <;> rfl) (fun h => by obtain rfl := bF h; exact WC.load1 nx22 (0 + 1) (.int .i64 (x34.fEpoch)) (by kernel_rfl) T_agg3 hb50 rfl rfl) ?_
    obtain ⟨c58, e58, p58⟩ := @nb (ltI (x34.fEpoch) (0)) ((x34.fEpoch) < (0)) (ltI_iff)
    refine ng rfl 42 (!c57) (.bool c58) (.bool c57) (by cases c57 <;> rfl) (fun h => by obtain rfl := bF h; exact fun _ _ _ => by subst e58; kernel_rfl) ?_
    obtain ⟨c59, e59, p59⟩ := @nb ((c57 || c58)) ((((x34.fMat) < (0)) ∨ ((40) ≤ (x34.fMat))) ∨ ((x34.fEpoch) < (0))) (by rw [Bool.or_eq_true, p57, p58])
    refine WN.consAt rfl (WC.opt (v := .bool c59) 46 (ePick (.bool c57) (.bool true) ((bif !c57 then .bool c58 else undef))) (fun _ _ _ => by kernel_rfl) (by rw [e59]; exact ePick_or (fun h => by obtain rfl : c57 = false := h; rfl)) ?_)
    refine nv 47 (.bool c59) ?_
    refine ng rfl 47 (!c59) (.pointer (some ⟨nx22, 0 + 1, none⟩)) (.bool c59) (by cases c59 <;> rfl) (fun h => by obtain rfl := bF h; exact fun _ _ _ => by kernel_rfl) ?_
    refine ngc rfl 47 (!c59) (.int .i64 (x34.fEpoch)) (.bool c59) (by cases c59 <;> rfl) (fun h => by obtain rfl := bF h; exact WC.load1 nx22 (0 + 1) (.int .i64 (x34.fEpoch)) (by kernel_rfl) T_agg3 hb50 rfl rfl) ?_
    obtain ⟨c60, e60, p60⟩ := @nb (ltI (255) (x34.fEpoch)) ((255) < (x34.fEpoch)) (ltI_iff)
    refine ng rfl 47 (!c59) (.bool c60) (.bool c59) (by cases c59 <;> rfl) (fun h => by obtain rfl := bF h; exact fun _ _ _ => by subst e60; kernel_rfl) ?_
    obtain ⟨c61, e61, p61⟩ := @nb ((c59 || c60)) (((((x34.fMat) < (0)) ∨ ((40) ≤ (x34.fMat))) ∨ ((x34.fEpoch) < (0))) ∨ ((255) < (x34.fEpoch))) (by rw [Bool.or_eq_true, p59, p60])
    refine WN.consAt rfl (WC.opt (v := .bool c61) 51 (ePick (.bool c59) (.bool true) ((bif !c59 then .bool c60 else undef))) (fun _ _ _ => by kernel_rfl) (by rw [e61]; exact ePick_or (fun h => by obtain rfl : c59 = false := h; rfl)) ?_)
    refine nv 52 (.bool c61) ?_
    refine ng rfl 52 (!c61) (.pointer (some ⟨nx22, 0 + 2, none⟩)) (.bool c61) (by cases c61 <;> rfl) (fun h => by obtain rfl := bF h; exact fun _ _ _ => by kernel_rfl) ?_
    refine ngc rfl 52 (!c61) (.int .i64 (x34.fAnchor)) (.bool c61) (by cases c61 <;> rfl) (fun h => by obtain rfl := bF h; exact WC.load1 nx22 (0 + 2) (.int .i64 (x34.fAnchor)) (by kernel_rfl) T_agg3 hb50 rfl rfl) ?_
    refine WN.nil ⟨?_, ?_⟩
    ·
     refine cv (.pointer (some ⟨nx22, 0 + 0, none⟩)) (vEq_ptr ..) ?_
     refine co (.int .i64 (x34.fMat)) (eLoad ex.T hp47.get 3 (.pointer (some ⟨nx22, 0 + 0, none⟩))) (eLoad_one T_agg3 hb50 rfl) (vEq_int ..) ?_
     refine cv (.bool c55) (vEq_bool 8 c55) ?_ (fun _ => by subst e55; kernel_rfl)
     refine cv (.bool c55) (vEq_bool 8 c55) ?_
     refine cg rfl 37 (!c55) (.pointer (some ⟨nx22, 0 + 0, none⟩)) (.bool c55) (by cases c55 <;> rfl) (fun h => by obtain rfl := bF h; exact chkV1 (.pointer (some ⟨nx22, 0 + 0, none⟩)) (fun _ => by kernel_rfl) (vEq_ptr ..)) ?_
     refine cg rfl 37 (!c55) (.int .i64 (x34.fMat)) (.bool c55) (by cases c55 <;> rfl) (fun h => by obtain rfl := bF h; exact chkO1 (.int .i64 (x34.fMat)) (eLoad ex.T hp47.get 3 (.pointer (some ⟨nx22, 0 + 0, none⟩))) (fun _ => by kernel_rfl) (eLoad_one T_agg3 hb50 rfl) (vEq_int ..)) ?_
     refine cg rfl 37 (!c55) (.bool c56) (.bool c55) (by cases c55 <;> rfl) (fun h => by obtain rfl := bF h; exact chkV1 (.bool c56) (fun _ => by subst e56; kernel_rfl) (vEq_bool 8 c56)) ?_
     refine co (.bool c57) (ePick (.bool c55) (.bool true) ((bif !c55 then .bool c56 else undef))) ((by rw [e57]; exact ePick_or (fun h => by obtain rfl : c55 = false := h; rfl))) (vEq_bool 8 c57) ?_
     refine cv (.bool c57) (vEq_bool 8 c57) ?_
     refine cg rfl 42 (!c57) (.pointer (some ⟨nx22, 0 + 1, none⟩)) (.bool c57) (by cases c57 <;> rfl) (fun h => by obtain rfl := bF h; exact chkV1 (.pointer (some ⟨nx22, 0 + 1, none⟩)) (fun _ => by kernel_rfl) (vEq_ptr ..)) ?_
     refine cg rfl 42 (!c57) (.int .i64 (x34.fEpoch)) (.bool c57) (by cases c57 <;> rfl) (fun h => by obtain rfl := bF h; exact chkO1 (.int .i64 (x34.fEpoch)) (eLoad ex.T hp47.get 3 (.pointer (some ⟨nx22, 0 + 1, none⟩))) (fun _ => by kernel_rfl) (eLoad_one T_agg3 hb50 rfl) (vEq_int ..)) ?_
     refine cg rfl 42 (!c57) (.bool c58) (.bool c57) (by cases c57 <;> rfl) (fun h => by obtain rfl := bF h; exact chkV1 (.bool c58) (fun _ => by subst e58; kernel_rfl) (vEq_bool 8 c58)) ?_
     refine co (.bool c59) (ePick (.bool c57) (.bool true) ((bif !c57 then .bool c58 else undef))) ((by rw [e59]; exact ePick_or (fun h => by obtain rfl : c57 = false := h; rfl))) (vEq_bool 8 c59) ?_
     refine cv (.bool c59) (vEq_bool 8 c59) ?_
     refine cg rfl 47 (!c59) (.pointer (some ⟨nx22, 0 + 1, none⟩)) (.bool c59) (by cases c59 <;> rfl) (fun h => by obtain rfl := bF h; exact chkV1 (.pointer (some ⟨nx22, 0 + 1, none⟩)) (fun _ => by kernel_rfl) (vEq_ptr ..)) ?_
     refine cg rfl 47 (!c59) (.int .i64 (x34.fEpoch)) (.bool c59) (by cases c59 <;> rfl) (fun h => by obtain rfl := bF h; exact chkO1 (.int .i64 (x34.fEpoch)) (eLoad ex.T hp47.get 3 (.pointer (some ⟨nx22, 0 + 1, none⟩))) (fun _ => by kernel_rfl) (eLoad_one T_agg3 hb50 rfl) (vEq_int ..)) ?_
     refine cg rfl 47 (!c59) (.bool c60) (.bool c59) (by cases c59 <;> rfl) (fun h => by obtain rfl := bF h; exact chkV1 (.bool c60) (fun _ => by subst e60; kernel_rfl) (vEq_bool 8 c60)) ?_
     refine co (.bool c61) (ePick (.bool c59) (.bool true) ((bif !c59 then .bool c60 else undef))) ((by rw [e61]; exact ePick_or (fun h => by obtain rfl : c59 = false := h; rfl))) (vEq_bool 8 c61) ?_
     refine cv (.bool c61) (vEq_bool 8 c61) ?_
     refine cg rfl 52 (!c61) (.pointer (some ⟨nx22, 0 + 2, none⟩)) (.bool c61) (by cases c61 <;> rfl) (fun h => by obtain rfl := bF h; exact chkV1 (.pointer (some ⟨nx22, 0 + 2, none⟩)) (fun _ => by kernel_rfl) (vEq_ptr ..)) ?_
     refine cg rfl 52 (!c61) (.int .i64 (x34.fAnchor)) (.bool c61) (by cases c61 <;> rfl) (fun h => by obtain rfl := bF h; exact chkO1 (.int .i64 (x34.fAnchor)) (eLoad ex.T hp47.get 3 (.pointer (some ⟨nx22, 0 + 2, none⟩))) (fun _ => by kernel_rfl) (eLoad_one T_agg3 hb50 rfl) (vEq_int ..)) ?_
     exact Chks.nil
    refine WC.at rfl (WC.gq (!c61) (GB (!c61) (-1099511627776 ≤ x34.fAnchor ∧ x34.fAnchor ≤ 1099511627776) (nx22 + 1) hp47) (.bool c61) (g := opd (.tmp 52)) rfl (by kernel_rfl) (by cases c61 <;> rfl) (fun h => by obtain rfl : c61 = false := (by simpa using h); have q0 : ¬ (((((x34.fMat) < (0)) ∨ ((40) ≤ (x34.fMat))) ∨ ((x34.fEpoch) < (0))) ∨ ((255) < (x34.fEpoch))) := (fun k => absurd ((p61).2 k) (by decide)); exact WC.call 55 54 ([.int .i64 (x34.fAnchor)]) (fun _ _ _ => by kernel_rfl) ((isTime_wf (x34.fAnchor) hp47 (nx22 + 1)).mono fun v hp' nx' ⟨⟨c, hv, hc⟩, hn, he⟩ => ⟨_, _, _, rfl, ⟨c, hv, hc⟩, hn, he⟩)) (fun h => GB.off h) ?_)
    rintro _ hp62 nx63 ⟨⟨c66, rfl, p66⟩, hn64, he65⟩
    have hE67 := hE52.trans he65 le46
    have hb68 := he65.get hb54 lt43
    have hb70 := he65.get hb50 (Nat.lt_succ_self (nx22))
    have hr72 := hr53.trans he65 rl45
    have rl73 := Nat.le_trans rl45 hn64
    have le74 := Nat.le_trans le46 hn64
    refine WD.eff ?_
    obtain ⟨c75, e75, p75⟩ := @nb (!c66) (¬ (-1099511627776 ≤ x34.fAnchor ∧ x34.fAnchor ≤ 1099511627776)) (by rw [Bool.not_eq_true', ← Bool.not_eq_true, p66])
    refine ng rfl 52 (!c61) (.bool c75) (.bool c61) (by cases c61 <;> rfl) (fun h => by obtain rfl := bF h; exact fun _ _ _ => by subst e75; kernel_rfl) ?_
    obtain ⟨c76, e76, p76⟩ := @nb ((c61 || c75)) ((((((x34.fMat) < (0)) ∨ ((40) ≤ (x34.fMat))) ∨ ((x34.fEpoch) < (0))) ∨ ((255) < (x34.fEpoch))) ∨ (¬ (-1099511627776 ≤ x34.fAnchor ∧ x34.fAnchor ≤ 1099511627776))) (by rw [Bool.or_eq_true, p61, p75])
    refine WN.consAt rfl (WC.opt (v := .bool c76) 57 (ePick (.bool c61) (.bool true) ((bif !c61 then .bool c75 else undef))) (fun _ _ _ => by kernel_rfl) (by rw [e76]; exact ePick_or (fun h => by obtain rfl : c61 = false := h; rfl)) ?_)
    refine nv 58 (.bool c76) ?_
    refine ng rfl 58 (!c76) (.int .i64 (.ofNat iL19)) (.bool c76) (by cases c76 <;> rfl) (fun h => by obtain rfl := bF h; exact fun _ _ _ => by kernel_rfl) ?_
    obtain ⟨c77, e77, p77⟩ := @nb (ltI (0) (.ofNat iL19)) ((0) < ((iL19 : Nat) : Int)) (ltI_iff)
    refine ng rfl 58 (!c76) (.bool c77) (.bool c76) (by cases c76 <;> rfl) (fun h => by obtain rfl := bF h; exact fun _ _ _ => by subst e77; kernel_rfl) ?_
    refine ng rfl 58 (!c76) (.bool c77) (.bool c76) (by cases c76 <;> rfl) (fun h => by obtain rfl := bF h; exact fun _ _ _ => by kernel_rfl) ?_
    refine ng rfl 61 (!c76 && c77) (.pointer (some ⟨nx, 0 + 0, none⟩)) ((bif !c76 then .bool c77 else undef)) (by cases c76 <;> cases c77 <;> rfl) (fun h => by obtain ⟨rfl, rfl⟩ := bFT h; exact fun _ _ _ => by kernel_rfl) ?_
    refine ngc rfl 61 (!c76 && c77) (.slice a8 (K.fSegments.l.length) c9) ((bif !c76 then .bool c77 else undef)) (by cases c76 <;> cases c77 <;> rfl) (fun h => by obtain ⟨rfl, rfl⟩ := bFT h; exact WC.load1 nx (0 + 0) (.slice a8 (K.fSegments.l.length) c9) (by kernel_rfl) T_agg22 hb68 (by rw [← hv10]; rfl) rfl) ?_
    refine ng rfl 61 (!c76 && c77) (.int .i64 (.ofNat iL19)) ((bif !c76 then .bool c77 else undef)) (by cases c76 <;> cases c77 <;> rfl) (fun h => by obtain ⟨rfl, rfl⟩ := bFT h; exact fun _ _ _ => by kernel_rfl) ?_
    refine ng rfl 61 (!c76 && c77) (.int .i64 (.ofNat (iL19 - 1))) ((bif !c76 then .bool c77 else undef)) (by cases c76 <;> cases c77 <;> rfl) (fun h => by obtain ⟨rfl, rfl⟩ := bFT h; have q0 := nf p76; have q1 := (p77).1 rfl; exact fun _ _ _ => by rw [← wrapSub (show iL19 < 9223372036854775808 by omega) (by omega)]; kernel_rfl) ?_
    have hlt78 : (!c76 && c77) = true → iL19 - 1 < K.fSegments.l.length := fun h => by obtain ⟨rfl, rfl⟩ : c76 = false ∧ c77 = true := (by simpa [and_assoc] using h); have q0 : ¬ ((((((x34.fMat) < (0)) ∨ ((40) ≤ (x34.fMat))) ∨ ((x34.fEpoch) < (0))) ∨ ((255) < (x34.fEpoch))) ∨ (¬ (-1099511627776 ≤ x34.fAnchor ∧ x34.fAnchor ≤ 1099511627776))) := (fun k => absurd ((p76).2 k) (by decide)); have q1 := (p77).1 rfl; omega
    refine ngc rfl 61 (!c76 && c77) (.pointer (some ⟨(blk a8), 0 + (iL19 - 1) * 3, none⟩)) ((bif !c76 then .bool c77 else undef)) (by cases c76 <;> cases c77 <;> rfl) (fun h => by obtain ⟨rfl, rfl⟩ := bFT h; exact WC.ix (k := .i64) a8 (K.fSegments.l.length) c9 (iL19 - 1) 3 (by kernel_rfl) (by kernel_rfl) T_und22 T_size154 ((hK.fSegments.mono hE67 le74).blkA hv10 (zl ((hlt78 rfl)))) ((hlt78 rfl)) rfl) ?_
    obtain ⟨x79, hx80⟩ : ∃ el_, (!c76 && c77) = true → K.fSegments.l[iL19 - 1]? = some el_ := ⟨(K.fSegments.l[iL19 - 1]?).getD default, fun h => by rw [List.getElem?_eq_getElem (by obtain ⟨rfl, rfl⟩ : c76 = false ∧ c77 = true := (by simpa [and_assoc] using h); exact (hlt78 rfl))]; rfl⟩
    have hx80p := fun (a0 : ¬ ((((((x34.fMat) < (0)) ∨ ((40) ≤ (x34.fMat))) ∨ ((x34.fEpoch) < (0))) ∨ ((255) < (x34.fEpoch))) ∨ (¬ (-1099511627776 ≤ x34.fAnchor ∧ x34.fAnchor ≤ 1099511627776)))) (a1 : ((0) < ((iL19 : Nat) : Int))) => hx80 (by first | (rw [show c76 = false from Bool.eq_false_iff.2 (fun k => a0 ((p76).1 k)), show c77 = true from (p77).2 a1]; rfl) | rw [show c76 = false from Bool.eq_false_iff.2 (fun k => a0 ((p76).1 k)), show c77 = true from (p77).2 a1])
    refine ngc rfl 61 (!c76 && c77) (.agg (encSegment x79).toArray) ((bif !c76 then .bool c77 else undef)) (by cases c76 <;> cases c77 <;> rfl) (fun h => by obtain ⟨rfl, rfl⟩ := bFT h; exact WC.loadSE (blk a8) (0 + (iL19 - 1) * 3) (encSegment x79) (by kernel_rfl) T_agg154 T_size154 ((hK.fSegments.mono hE67 le74).blkB hv10 (zl ((hlt78 rfl)))) (flat_at0 (hK.fSegments.mono hE67 le74).1 (hx80 rfl)) rfl) ?_
    refine ngc rfl 61 (!c76 && c77) (.agg (encSegment x34).toArray) ((bif !c76 then .bool c77 else undef)) (by cases c76 <;> cases c77 <;> rfl) (fun h => by obtain ⟨rfl, rfl⟩ := bFT h; exact WC.loadS nx22 (0) (encSegment x34) (by kernel_rfl) T_agg154 T_size154 hb70 rfl rfl) ?_
    refine WN.nil ⟨?_, ?_⟩
    ·
     refine cg rfl 52 (!c61) (.bool c75) (.bool c61) (by cases c61 <;> rfl) (fun h => by obtain rfl := bF h; exact chkV1 (.bool c75) (fun _ => by subst e75; kernel_rfl) (vEq_bool 8 c75)) ?_
     refine co (.bool c76) (ePick (.bool c61) (.bool true) ((bif !c61 then .bool c75 else undef))) ((by rw [e76]; exact ePick_or (fun h => by obtain rfl : c61 = false := h; rfl))) (vEq_bool 8 c76) ?_
     refine cv (.bool c76) (vEq_bool 8 c76) ?_
     refine cg rfl 58 (!c76) (.int .i64 (.ofNat iL19)) (.bool c76) (by cases c76 <;> rfl) (fun h => by obtain rfl := bF h; exact chkV1 (.int .i64 (.ofNat iL19)) (fun _ => by kernel_rfl) (vEq_int ..)) ?_
     refine cg rfl 58 (!c76) (.bool c77) (.bool c76) (by cases c76 <;> rfl) (fun h => by obtain rfl := bF h; exact chkV1 (.bool c77) (fun _ => by subst e77; kernel_rfl) (vEq_bool 8 c77)) ?_
     refine cg rfl 58 (!c76) (.bool c77) (.bool c76) (by cases c76 <;> rfl) (fun h => by obtain rfl := bF h; exact chkV1 (.bool c77) (fun _ => by kernel_rfl) (vEq_bool 8 c77)) ?_
     refine cg rfl 61 (!c76 && c77) (.pointer (some ⟨nx, 0 + 0, none⟩)) ((bif !c76 then .bool c77 else undef)) (by cases c76 <;> cases c77 <;> rfl) (fun h => by obtain ⟨rfl, rfl⟩ := bFT h; exact chkV1 (.pointer (some ⟨nx, 0 + 0, none⟩)) (fun _ => by kernel_rfl) (vEq_ptr ..)) ?_
     refine cg rfl 61 (!c76 && c77) (.slice a8 (K.fSegments.l.length) c9) ((bif !c76 then .bool c77 else undef)) (by cases c76 <;> cases c77 <;> rfl) (fun h => by obtain ⟨rfl, rfl⟩ := bFT h; exact chkO1 (.slice a8 (K.fSegments.l.length) c9) (eLoad ex.T hp62.get 22 (.pointer (some ⟨nx, 0 + 0, none⟩))) (fun _ => by kernel_rfl) (eLoad_one T_agg22 hb68 (by rw [← hv10]; rfl)) (hv10 ▸ hK.fSegments.eqSelf 8)) ?_
     refine cg rfl 61 (!c76 && c77) (.int .i64 (.ofNat iL19)) ((bif !c76 then .bool c77 else undef)) (by cases c76 <;> cases c77 <;> rfl) (fun h => by obtain ⟨rfl, rfl⟩ := bFT h; exact chkV1 (.int .i64 (.ofNat iL19)) (fun _ => by kernel_rfl) (vEq_int ..)) ?_
     refine cg rfl 61 (!c76 && c77) (.int .i64 (.ofNat (iL19 - 1))) ((bif !c76 then .bool c77 else undef)) (by cases c76 <;> cases c77 <;> rfl) (fun h => by obtain ⟨rfl, rfl⟩ := bFT h; have q0 := nf p76; have q1 := (p77).1 rfl; exact chkV1 (.int .i64 (.ofNat (iL19 - 1))) (fun _ => by rw [← wrapSub (show iL19 < 9223372036854775808 by omega) (by omega)]; kernel_rfl) (vEq_int ..)) ?_
     refine cg rfl 61 (!c76 && c77) (.pointer (some ⟨(blk a8), 0 + (iL19 - 1) * 3, none⟩)) ((bif !c76 then .bool c77 else undef)) (by cases c76 <;> cases c77 <;> rfl) (fun h => by obtain ⟨rfl, rfl⟩ := bFT h; exact chkO1 (.pointer (some ⟨(blk a8), 0 + (iL19 - 1) * 3, none⟩)) (eIndexAddr ex.T 22 (.slice a8 (K.fSegments.l.length) c9) (.int .i64 (.ofNat (iL19 - 1)))) (fun _ => by kernel_rfl) (eIndexAddr_A (k := .i64) T_und22 T_size154 ((hK.fSegments.mono hE67 le74).blkA hv10 (zl ((hlt78 rfl)))) ((hlt78 rfl))) (vEq_ptr ..)) ?_
     refine cg rfl 61 (!c76 && c77) (.agg (encSegment x79).toArray) ((bif !c76 then .bool c77 else undef)) (by cases c76 <;> cases c77 <;> rfl) (fun h => by obtain ⟨rfl, rfl⟩ := bFT h; exact chkO1 (.agg (encSegment x79).toArray) (eLoad ex.T hp62.get 154 (.pointer (some ⟨(blk a8), 0 + (iL19 - 1) * 3, none⟩))) (fun _ => by kernel_rfl) (eLoad_aggE T_agg154 T_size154 ((hK.fSegments.mono hE67 le74).blkB hv10 (zl ((hlt78 rfl)))) (flat_at0 (hK.fSegments.mono hE67 le74).1 (hx80 rfl))) (encSegment_vEq x79)) ?_
     refine cg rfl 61 (!c76 && c77) (.agg (encSegment x34).toArray) ((bif !c76 then .bool c77 else undef)) (by cases c76 <;> cases c77 <;> rfl) (fun h => by obtain ⟨rfl, rfl⟩ := bFT h; exact chkO1 (.agg (encSegment x34).toArray) (eLoad ex.T hp62.get 154 (.pointer (some ⟨nx22, 0, none⟩))) (fun _ => by kernel_rfl) (eLoad_agg T_agg154 T_size154 hb70 rfl) (encSegment_vEq x34)) ?_
     exact Chks.nil
    refine WC.at rfl (WC.gq (!c76 && c77) (GV (!c76 && c77) (.int .i64 (orI (cmpI x79.fMat x34.fMat) (cmpI x79.fEpoch x34.fEpoch))) (nx63) hp62) ((bif !c76 then .bool c77 else undef)) (g := opd (.tmp 61)) rfl (by kernel_rfl) (by cases c76 <;> cases c77 <;> rfl) (fun h => by obtain ⟨rfl, rfl⟩ : c76 = false ∧ c77 = true := (by simpa [and_assoc] using h); have q0 : ¬ ((((((x34.fMat) < (0)) ∨ ((40) ≤ (x34.fMat))) ∨ ((x34.fEpoch) < (0))) ∨ ((255) < (x34.fEpoch))) ∨ (¬ (-1099511627776 ≤ x34.fAnchor ∧ x34.fAnchor ≤ 1099511627776))) := (fun k => absurd ((p76).2 k) (by decide)); have q1 := (p77).1 rfl; exact WC.call 69 55 ([.agg (encSegment x79).toArray, .agg (encSegment x34).toArray]) (fun _ _ _ => by kernel_rfl) ((order_wf x79 x34 hp62 (nx63)).mono fun v hp' nx' ⟨hv, hn, he⟩ => ⟨_, _, _, rfl, hv, hn, he⟩)) (fun h => GV.off h) ?_)
    rintro _ hp81 nx82 ⟨rfl, hn83, he84⟩
    have hE85 := hE67.trans he84 le74
    have hr90 := hr72.trans he84 rl73
    have rl91 := Nat.le_trans rl73 hn83
    have le92 := Nat.le_trans le74 hn83
    refine WD.last ?_
    obtain ⟨c93, e93, p93⟩ := @nb (leI (0) (orI (cmpI x79.fMat x34.fMat) (cmpI x79.fEpoch x34.fEpoch))) ((0) ≤ (orI (cmpI x79.fMat x34.fMat) (cmpI x79.fEpoch x34.fEpoch))) (leI_iff)
    refine ng rfl 61 (!c76 && c77) (.bool c93) ((bif !c76 then .bool c77 else undef)) (by cases c76 <;> cases c77 <;> rfl) (fun h => by obtain ⟨rfl, rfl⟩ := bFT h; exact fun _ _ _ => by subst e93; kernel_rfl) ?_
    obtain ⟨c94, e94, p94⟩ := @nb ((c77 && c93)) (((0) < ((iL19 : Nat) : Int)) ∧ ((0) ≤ (orI (cmpI x79.fMat x34.fMat) (cmpI x79.fEpoch x34.fEpoch)))) (by rw [Bool.and_eq_true, p77, p93])
    refine ngc rfl 58 (!c76) (.bool c94) (.bool c76) (by cases c76 <;> rfl) (fun h => by obtain rfl := bF h; exact WC.opt (v := .bool c94) 71 (ePick (.bool c77) ((bif !false && c77 then .bool c93 else undef)) (.bool false)) (fun _ _ _ => by kernel_rfl) (by rw [e94]; exact ePick_and (fun h => by obtain rfl : c77 = true := h; rfl)) rfl) ?_
    obtain ⟨c95, e95, p95⟩ := @nb ((c76 || c94)) (((((((x34.fMat) < (0)) ∨ ((40) ≤ (x34.fMat))) ∨ ((x34.fEpoch) < (0))) ∨ ((255) < (x34.fEpoch))) ∨ (¬ (-1099511627776 ≤ x34.fAnchor ∧ x34.fAnchor ≤ 1099511627776))) ∨ (((0) < ((iL19 : Nat) : Int)) ∧ ((0) ≤ (orI (cmpI x79.fMat x34.fMat) (cmpI x79.fEpoch x34.fEpoch))))) (by rw [Bool.or_eq_true, p76, p94])
    refine WN.consAt rfl (WC.opt (v := .bool c95) 72 (ePick (.bool c76) (.bool true) ((bif !c76 then .bool c94 else undef))) (fun _ _ _ => by kernel_rfl) (by rw [e95]; exact ePick_or (fun h => by obtain rfl : c76 = false := h; rfl)) ?_)
    refine WN.nil ⟨?_, ?_⟩
    ·
     refine cg rfl 61 (!c76 && c77) (.bool c93) ((bif !c76 then .bool c77 else undef)) (by cases c76 <;> cases c77 <;> rfl) (fun h => by obtain ⟨rfl, rfl⟩ := bFT h; exact chkV1 (.bool c93) (fun _ => by subst e93; kernel_rfl) (vEq_bool 8 c93)) ?_
     refine cg rfl 58 (!c76) (.bool c94) (.bool c76) (by cases c76 <;> rfl) (fun h => by obtain rfl := bF h; exact chkO1 (.bool c94) (ePick (.bool c77) ((bif !false && c77 then .bool c93 else undef)) (.bool false)) (fun _ => by kernel_rfl) ((by rw [e94]; exact ePick_and (fun h => by obtain rfl : c77 = true := h; rfl))) (vEq_bool 8 c94)) ?_
     refine co (.bool c95) (ePick (.bool c76) (.bool true) ((bif !c76 then .bool c94 else undef))) ((by rw [e95]; exact ePick_or (fun h => by obtain rfl : c76 = false := h; rfl))) (vEq_bool 8 c95) ?_
     exact Chks.nil
    refine WP.cond c95 (by kernel_rfl) (fun h96 => ?_) (fun h96 => ?_)
    ·
     have q97 := (p95).1 h96
     refine sr ?_
     refine ov 2 (.int .i64 (160)) ?_
     refine WO.nil ?_
     refine WP.ret ⟨rfl, rfl, [.int .i64 (160)], by kernel_rfl, ?_⟩
     refine ⟨⟨160, rfl, ⟨fun h => absurd h (by decide), fun hok => ?_⟩, .inr rfl⟩, le92, hE85⟩
     obtain ⟨h1, h2, h3, h4, h5, h6⟩ := hok.seg _ _ hx35
     rcases q97 with hq | ⟨hq1, hq2⟩
     · omega
     · exact absurd (h6 (by omega) _ (hx80p (by omega) hq1)) ((ord_iff _ _ _ _).1 hq2)
    ·
     have q97 := nq p95 h96
     refine WP.skip ?_
     refine WP.region ?_
     refine ov 73 (.int .i64 (.ofNat (iL19 + 1))) ?_ (fun _ _ _ => by rw [← wrapAdd (show iL19 + 1 < 9223372036854775808 by omega)]; kernel_rfl)
     refine ov 29 (.int .i64 (.ofNat (iL19 + 1))) ?_
     refine WO.nil ?_
     refine ⟨K.fSegments.l.length - (iL19 + 1), by omega, iL19 + 1, by omega, by kernel_rfl, by kernel_rfl, by kernel_rfl, by kernel_rfl, by kernel_rfl, rfl, rfl, ?_, ?_, ?_⟩
     · exact rl91
     · exact hr90
     · intro j s hj hs
       rcases Nat.lt_succ_iff_lt_or_eq.1 hj with hj | rfl
       · exact hseg j s hj hs
       · rw [hx35] at hs; cases hs
         refine ⟨by omega, by omega, by omega, by omega, by omega, fun h0 p' hp' => ?_⟩
         have hpp := hx80p (by omega) (by omega)
         rw [hpp] at hp'; cases hp'
         have hno : ¬ (0 ≤ orI (cmpI x79.fMat x34.fMat) (cmpI x79.fEpoch x34.fEpoch)) := fun k => q97 (.inr ⟨by omega, k⟩)
         rw [ord_iff] at hno
         exact Classical.not_not.1 hno
   ·
    have q32 := nq p30 h31
    refine WP.exit ?_
    refine WP.seq ?_
    refine sr ?_
    refine ov 74 (.pointer (some ⟨nx, 0 + 1, none⟩)) ?_
    refine WO.cons (WC.load1 nx (0 + 1) (.slice a12 (K.fFar.l.length) c13) (by kernel_rfl) T_agg23 hb27 (by rw [← hv14]; rfl) ?_)
    refine ov 76 (.int .i64 (.ofNat (K.fFar.l.length))) ?_
    refine ov 77 (.int .i64 (0)) ?_
    refine WO.nil ?_
    refine WP.block ?_
    have hj99 : ∀ t : Tm, (((((t.set 1 (t.get 1)).set 3 (t.get 3)).set 75 (t.get 75)).set 76 (t.get 76)).set 77 (t.get 77)) = t := fun t => by kernel_rfl
    refine WP.loop (fun m s => ∃ (iL98 : Nat), iL98 + m = K.fFar.l.length ∧ s.to.get 1 = .pointer (some ⟨nx, 0, none⟩) ∧ s.to.get 3 = .int .i64 (.ofNat (K.fSegments.l.length)) ∧ s.to.get 75 = .slice a12 (K.fFar.l.length) c13 ∧ s.to.get 76 = .int .i64 (.ofNat (K.fFar.l.length)) ∧ s.to.get 77 = .int .i64 (.ofNat iL98) ∧ s.ds = [] ∧ s.cs = [] ∧ nx22 ≤ s.nx ∧ HE (nx22) hp21 s.hp ∧ (∀ (j : Nat) (r : SV Int), j < iL98 → K.fFar.l[j]? = some r → farOk K.fSegments.l.length j r)) ?_ (K.fFar.l.length) ?_
    ·
     rintro mL98 ⟨toL98, dsL98, hp100, nx101, csL98⟩ ⟨iL98, him102, gL98_1, gL98_3, gL98_75, gL98_76, gL98_77, hdsL98, hcsL98, hn103, he104, hfar⟩
     simp only at gL98_1 gL98_3 gL98_75 gL98_76 gL98_77 hdsL98 hcsL98 hn103 he104 hfar
     subst hdsL98 hcsL98
     rw [← hj99 toL98, gL98_1, gL98_3, gL98_75, gL98_76, gL98_77]
     clear gL98_1 gL98_3 gL98_75 gL98_76 gL98_77
     have hE105 := hE26.trans he104 le29
     have hb106 := he104.get hb27 lt28
     have lt107 := Nat.lt_of_lt_of_le lt28 hn103
     have le108 := Nat.le_trans le29 hn103
     refine sr ?_
     obtain ⟨c109, e109, p109⟩ := @nb (ltI (.ofNat iL98) (.ofNat (K.fFar.l.length))) (((iL98 : Nat) : Int) < ((K.fFar.l.length : Nat) : Int)) (ltI_iff)
     refine ov 78 (.bool c109) ?_ (fun _ _ _ => by subst e109; kernel_rfl)
     refine WO.nil ?_
     refine WP.seq ?_
     refine WP.cond c109 (by kernel_rfl) (fun h110 => ?_) (fun h110 => ?_)
     ·
      have q111 := (p109).1 h110
      refine WP.skip ?_
      refine WP.seq ?_
      refine WP.block ?_
      refine sr ?_
      refine ov 79 (.int .i64 (.ofNat iL98)) ?_
      have hlt112 : iL98 < K.fFar.l.length := by omega
      refine WO.cons (WC.ix (k := .i64) a12 (K.fFar.l.length) c13 (iL98) 1 (by kernel_rfl) (by kernel_rfl) T_und23 T_size30 ((hK.fFar.1.mono hE105 le108).blkA hv14 (zl hlt112)) (hlt112) ?_)
      obtain ⟨x113, hx114⟩ : ∃ el_, K.fFar.l[iL98]? = some el_ := ⟨_, List.getElem?_eq_getElem (hlt112)⟩
      obtain ⟨a115, c116, hv117⟩ := (hK.fFar.2 x113 (List.mem_of_getElem? hx114)).shape
      have hsm117 := (hK.fFar.2 x113 (List.mem_of_getElem? hx114)).2.2
      refine WO.cons (WC.load1E (blk a12) (0 + (iL98) * 1) (.slice a115 (x113.l.length) c116) (by kernel_rfl) T_agg30 ((hK.fFar.1.mono hE105 le108).blkB hv14 (zl hlt112)) (flat_at1 (hK.fFar.1.mono hE105 le108).1 hx114 (by rw [← hv117]; rfl)) ?_)
      refine ov 6 (.int .i64 (.ofNat iL98)) ?_
      refine ov 7 (.slice a115 (x113.l.length) c116) ?_
      refine WO.nil ?_
      refine sr ?_
      refine ov 82 (.slice a115 (x113.l.length) c116) ?_
      refine ov 83 (.int .i64 (.ofNat (x113.l.length))) ?_
      refine ov 84 (.int .i64 (.ofNat (K.fSegments.l.length))) ?_
      refine ov 85 (.int .i64 (.ofNat (K.fSegments.l.length + 1))) ?_ (fun _ _ _ => by rw [← wrapAdd (show K.fSegments.l.length + 1 < 9223372036854775808 by omega)]; kernel_rfl)
      obtain ⟨c118, e118, p118⟩ := @nb ((!(eqI (.ofNat (x113.l.length)) (.ofNat (K.fSegments.l.length + 1))))) (((x113.l.length : Nat) : Int) ≠ ((K.fSegments.l.length + 1 : Nat) : Int)) (neI_iff)
      refine ov 86 (.bool c118) ?_ (fun _ _ _ => by subst e118; kernel_rfl)
      refine ov 87 (.bool c118) ?_
      refine og 87 (!c118) (.slice a115 (x113.l.length) c116) (.bool c118) (by cases c118 <;> rfl) (fun h => by obtain rfl := bF h; exact fun _ _ _ => by kernel_rfl) ?_
      refine og 87 (!c118) (.int .i64 (.ofNat iL98)) (.bool c118) (by cases c118 <;> rfl) (fun h => by obtain rfl := bF h; exact fun _ _ _ => by kernel_rfl) ?_
      have hlt119 : (!c118) = true → iL98 < x113.l.length := fun h => by obtain rfl : c118 = false := (by simpa using h); have q0 : ¬ (((x113.l.length : Nat) : Int) ≠ ((K.fSegments.l.length + 1 : Nat) : Int)) := (fun k => absurd ((p118).2 k) (by decide)); omega
      refine ogc 87 (!c118) (.pointer (some ⟨(blk a115), 0 + (iL98) * 1, none⟩)) (.bool c118) (by cases c118 <;> rfl) (fun h => by obtain rfl := bF h; exact WC.ix (k := .i64) a115 (x113.l.length) c116 (iL98) 1 (by kernel_rfl) (by kernel_rfl) T_und30 T_size3 (((hK.fFar.2 x113 (List.mem_of_getElem? hx114)).mono hE105 le108).blkA hv117 (zl ((hlt119 rfl)))) ((hlt119 rfl)) rfl) ?_
      obtain ⟨x120, hx121⟩ : ∃ el_, (!c118) = true → x113.l[iL98]? = some el_ := ⟨(x113.l[iL98]?).getD default, fun h => by rw [List.getElem?_eq_getElem (by obtain rfl : c118 = false := (by simpa using h); exact (hlt119 rfl))]; rfl⟩
      have hx121p := fun (a0 : ¬ (((x113.l.length : Nat) : Int) ≠ ((K.fSegments.l.length + 1 : Nat) : Int))) => hx121 (by first | (rw [show c118 = false from Bool.eq_false_iff.2 (fun k => a0 ((p118).1 k))]; rfl) | rw [show c118 = false from Bool.eq_false_iff.2 (fun k => a0 ((p118).1 k))])
      refine ogc 87 (!c118) (.int .i64 (x120)) (.bool c118) (by cases c118 <;> rfl) (fun h => by obtain rfl := bF h; exact WC.load1E (blk a115) (0 + (iL98) * 1) (.int .i64 (x120)) (by kernel_rfl) T_agg3 (((hK.fFar.2 x113 (List.mem_of_getElem? hx114)).mono hE105 le108).blkB hv117 (zl ((hlt119 rfl)))) (flat_at1 ((hK.fFar.2 x113 (List.mem_of_getElem? hx114)).mono hE105 le108).1 (hx121 rfl) rfl) rfl) ?_
      obtain ⟨c122, e122, p122⟩ := @nb ((!(eqI (x120) (0)))) ((x120) ≠ (0)) (neI_iff)
      refine og 87 (!c118) (.bool c122) (.bool c118) (by cases c118 <;> rfl) (fun h => by obtain rfl := bF h; exact fun _ _ _ => by subst e122; kernel_rfl) ?_
      obtain ⟨c123, e123, p123⟩ := @nb ((c118 || c122)) ((((x113.l.length : Nat) : Int) ≠ ((K.fSegments.l.length + 1 : Nat) : Int)) ∨ ((x120) ≠ (0))) (by rw [Bool.or_eq_true, p118, p122])
      refine WO.cons (WC.opt (v := .bool c123) 93 (ePick (.bool c118) (.bool true) ((bif !c118 then .bool c122 else undef))) (fun _ _ _ => by kernel_rfl) (by rw [e123]; exact ePick_or (fun h => by obtain rfl : c118 = false := h; rfl)) ?_)
      refine ov 94 (.bool c123) ?_
      refine og 94 (!c123) (.slice a115 (x113.l.length) c116) (.bool c123) (by cases c123 <;> rfl) (fun h => by obtain rfl := bF h; exact fun _ _ _ => by kernel_rfl) ?_
      refine WO.cons (WC.gq (!c123) (GB (!c123) (∃ x ∈ x113.l, (fun x => x < -2199023255552 ∨ 2199023255552 < x) x) (nx101) hp100) (.bool c123) (g := opd (.tmp 94)) rfl (by kernel_rfl) (by cases c123 <;> rfl) (fun h => by obtain rfl : c123 = false := (by simpa using h); have q0 : ¬ ((((x113.l.length : Nat) : Int) ≠ ((K.fSegments.l.length + 1 : Nat) : Int)) ∨ ((x120) ≠ (0))) := (fun k => absurd ((p123).2 k) (by decide)); exact WC.call 96 56 ([x113.v, .func (.func 57) #[] #[]]) (fun _ _ _ => by (try rw [hv117]); kernel_rfl) ((containsFunc_int (A := fun x => x < -2199023255552 ∨ 2199023255552 < x) x113 57 #[] hp100 (nx101) ((hK.fFar.2 x113 (List.mem_of_getElem? hx114)).mono hE105 le108) (fun _ x _ hp' nx' _ _ => clocksCheck1_wf x hp' nx')).mono fun v hp' nx' ⟨⟨c, hv, hc⟩, hn, he⟩ => ⟨_, _, _, rfl, ⟨c, hv, hc⟩, hn, he⟩)) (fun h => GB.off h) ?_)
      rintro _ hp124 nx125 ⟨⟨c128, rfl, p128⟩, hn126, he127⟩
      have hE129 := hE105.trans he127 le108
      have hr132 := he104.trans he127 hn103
      have rl133 := Nat.le_trans hn103 hn126
      have le134 := Nat.le_trans le108 hn126
      obtain ⟨c135, e135, p135⟩ := @nb ((c123 || c128)) (((((x113.l.length : Nat) : Int) ≠ ((K.fSegments.l.length + 1 : Nat) : Int)) ∨ ((x120) ≠ (0))) ∨ (∃ x ∈ x113.l, (fun x => x < -2199023255552 ∨ 2199023255552 < x) x)) (by rw [Bool.or_eq_true, p123, p128])
      refine WO.cons (WC.opt (v := .bool c135) 97 (ePick (.bool c123) (.bool true) ((bif !c123 then .bool c128 else undef))) (fun _ _ _ => by kernel_rfl) (by rw [e135]; exact ePick_or (fun h => by obtain rfl : c123 = false := h; rfl)) ?_)
      refine WO.nil ?_
      refine WP.cond c135 (by kernel_rfl) (fun h136 => ?_) (fun h136 => ?_)
      ·
       have q137 := (p135).1 h136
       refine sr ?_
       refine ov 2 (.int .i64 (160)) ?_
       refine WO.nil ?_
       refine WP.ret ⟨rfl, rfl, [.int .i64 (160)], by kernel_rfl, ?_⟩
       refine ⟨⟨160, rfl, ⟨fun h => absurd h (by decide), fun hok => ?_⟩, .inr rfl⟩, le134, hE129⟩
       obtain ⟨h1, h2, h3⟩ := hok.row _ _ hx114
       rcases q137 with (hq | hq) | ⟨y, hy1, hy2⟩
       · omega
       · have hw := hx121p (by omega)
         rw [h2] at hw; cases hw; exact absurd rfl hq
       · exact absurd hy2 (h3 y hy1)
      ·
       have q137 := nq p135 h136
       refine WP.skip ?_
       refine WP.region ?_
       refine ov 98 (.int .i64 (.ofNat (iL98 + 1))) ?_ (fun _ _ _ => by rw [← wrapAdd (show iL98 + 1 < 9223372036854775808 by omega)]; kernel_rfl)
       refine ov 77 (.int .i64 (.ofNat (iL98 + 1))) ?_
       refine WO.nil ?_
       refine ⟨K.fFar.l.length - (iL98 + 1), by omega, iL98 + 1, by omega, by kernel_rfl, by kernel_rfl, by kernel_rfl, by kernel_rfl, by kernel_rfl, rfl, rfl, ?_, ?_, ?_⟩
       · exact rl133
       · exact hr132
       · intro j r' hj hs
         rcases Nat.lt_succ_iff_lt_or_eq.1 hj with hj | rfl
         · exact hfar j r' hj hs
         · rw [hx114] at hs; cases hs
           have hlen : x113.l.length = K.fSegments.l.length + 1 := by omega
           refine ⟨hlen, ?_, fun w hw hb => q137 (.inr ⟨w, hw, hb⟩)⟩
           have hw := hx121p (by omega)
           have : x120 = 0 := Classical.not_not.1 fun k => q137 (.inl (.inr k))
           rw [hw, this]
     ·
      have q111 := nq p109 h110
      refine WP.exit ?_
      refine WP.seq ?_
      refine sr ?_
      refine ov 99 (.int .i64 (.ofNat (K.fSegments.l.length))) ?_
      refine ov 100 (.int .i64 (.ofNat (K.fSegments.l.length + 1))) ?_ (fun _ _ _ => by rw [← wrapAdd (show K.fSegments.l.length + 1 < 9223372036854775808 by omega)]; kernel_rfl)
      refine ov 101 (.int .i64 (0)) ?_
      refine WO.nil ?_
      refine WP.block ?_
      have hj139 : ∀ t : Tm, (((t.set 1 (t.get 1)).set 100 (t.get 100)).set 101 (t.get 101)) = t := fun t => by kernel_rfl
      refine WP.loop (fun m s => ∃ (iL138 : Nat), iL138 + m = (K.fSegments.l.length + 1) ∧ s.to.get 1 = .pointer (some ⟨nx, 0, none⟩) ∧ s.to.get 100 = .int .i64 (.ofNat (K.fSegments.l.length + 1)) ∧ s.to.get 101 = .int .i64 (.ofNat iL138) ∧ s.ds = [] ∧ s.cs = [] ∧ nx101 ≤ s.nx ∧ HE (nx101) hp100 s.hp ∧ (∀ i' j m, i' < iL138 → triAt K i' j m)) ?_ ((K.fSegments.l.length + 1)) ?_
      ·
       rintro mL138 ⟨toL138, dsL138, hp140, nx141, csL138⟩ ⟨iL138, him142, gL138_1, gL138_100, gL138_101, hdsL138, hcsL138, hn143, he144, htri⟩
       simp only at gL138_1 gL138_100 gL138_101 hdsL138 hcsL138 hn143 he144
       subst hdsL138 hcsL138
       rw [← hj139 toL138, gL138_1, gL138_100, gL138_101]
       clear gL138_1 gL138_100 gL138_101
       have hE145 := hE105.trans he144 le108
       have hb146 := he144.get hb106 lt107
       have lt147 := Nat.lt_of_lt_of_le lt107 hn143
       have le148 := Nat.le_trans le108 hn143
       refine sr ?_
       obtain ⟨c149, e149, p149⟩ := @nb (ltI (.ofNat iL138) (.ofNat (K.fSegments.l.length + 1))) (((iL138 : Nat) : Int) < ((K.fSegments.l.length + 1 : Nat) : Int)) (ltI_iff)
       refine ov 102 (.bool c149) ?_ (fun _ _ _ => by subst e149; kernel_rfl)
       refine WO.nil ?_
       refine WP.seq ?_
       refine WP.cond c149 (by kernel_rfl) (fun h150 => ?_) (fun h150 => ?_)
       ·
        have q151 := (p149).1 h150
        refine WP.skip ?_
        refine WP.seq ?_
        refine WP.block ?_
        refine sr ?_
        refine ov 103 (.int .i64 (.ofNat iL138)) ?_
        refine ov 8 (.int .i64 (.ofNat iL138)) ?_
        refine WO.nil ?_
        refine sr ?_
        refine ov 104 (.pointer (some ⟨nx, 0 + 1, none⟩)) ?_
        refine WO.cons (WC.load1 nx (0 + 1) (.slice a12 (K.fFar.l.length) c13) (by kernel_rfl) T_agg23 hb146 (by rw [← hv14]; rfl) ?_)
        refine ov 106 (.int .i64 (.ofNat iL138)) ?_
        have hlt152 : iL138 < K.fFar.l.length := by omega
        refine WO.cons (WC.ix (k := .i64) a12 (K.fFar.l.length) c13 (iL138) 1 (by kernel_rfl) (by kernel_rfl) T_und23 T_size30 ((hK.fFar.1.mono hE145 le148).blkA hv14 (zl hlt152)) (hlt152) ?_)
        obtain ⟨x153, hx154⟩ : ∃ el_, K.fFar.l[iL138]? = some el_ := ⟨_, List.getElem?_eq_getElem (hlt152)⟩
        obtain ⟨a155, c156, hv157⟩ := (hK.fFar.2 x153 (List.mem_of_getElem? hx154)).shape
        have hsm157 := (hK.fFar.2 x153 (List.mem_of_getElem? hx154)).2.2
        refine WO.cons (WC.load1E (blk a12) (0 + (iL138) * 1) (.slice a155 (x153.l.length) c156) (by kernel_rfl) T_agg30 ((hK.fFar.1.mono hE145 le148).blkB hv14 (zl hlt152)) (flat_at1 (hK.fFar.1.mono hE145 le148).1 hx154 (by rw [← hv157]; rfl)) ?_)
        refine ov 109 (.int .i64 (.ofNat (x153.l.length))) ?_
        refine ov 110 (.int .i64 (0)) ?_
        refine WO.nil ?_
        refine WP.block ?_
        have hleniL138 := (hfar iL138 x153 (by omega) hx154).1
        have hj159 : ∀ t : Tm, (((((((t.set 1 (t.get 1)).set 8 (t.get 8)).set 100 (t.get 100)).set 101 (t.get 101)).set 108 (t.get 108)).set 109 (t.get 109)).set 110 (t.get 110)) = t := fun t => by kernel_rfl
        refine WP.loop (fun m s => ∃ (iL158 : Nat), iL158 + m = x153.l.length ∧ s.to.get 1 = .pointer (some ⟨nx, 0, none⟩) ∧ s.to.get 8 = .int .i64 (.ofNat iL138) ∧ s.to.get 100 = .int .i64 (.ofNat (K.fSegments.l.length + 1)) ∧ s.to.get 101 = .int .i64 (.ofNat iL138) ∧ s.to.get 108 = .slice a155 (x153.l.length) c156 ∧ s.to.get 109 = .int .i64 (.ofNat (x153.l.length)) ∧ s.to.get 110 = .int .i64 (.ofNat iL158) ∧ s.ds = [] ∧ s.cs = [] ∧ nx141 ≤ s.nx ∧ HE (nx141) hp140 s.hp ∧ (∀ j' m, j' < iL158 → triAt K iL138 j' m)) ?_ (x153.l.length) ?_
        ·
         rintro mL158 ⟨toL158, dsL158, hp160, nx161, csL158⟩ ⟨iL158, him162, gL158_1, gL158_8, gL158_100, gL158_101, gL158_108, gL158_109, gL158_110, hdsL158, hcsL158, hn163, he164, htri6⟩
         simp only at gL158_1 gL158_8 gL158_100 gL158_101 gL158_108 gL158_109 gL158_110 hdsL158 hcsL158 hn163 he164
         subst hdsL158 hcsL158
         rw [← hj159 toL158, gL158_1, gL158_8, gL158_100, gL158_101, gL158_108, gL158_109, gL158_110]
         clear gL158_1 gL158_8 gL158_100 gL158_101 gL158_108 gL158_109 gL158_110
         have hE165 := hE145.trans he164 le148
         have hb166 := he164.get hb146 lt147
         have lt167 := Nat.lt_of_lt_of_le lt147 hn163
         have hr168 := he144.trans he164 hn143
         have rl169 := Nat.le_trans hn143 hn163
         have le170 := Nat.le_trans le148 hn163
         refine sr ?_
         obtain ⟨c171, e171, p171⟩ := @nb (ltI (.ofNat iL158) (.ofNat (x153.l.length))) (((iL158 : Nat) : Int) < ((x153.l.length : Nat) : Int)) (ltI_iff)
         refine ov 111 (.bool c171) ?_ (fun _ _ _ => by subst e171; kernel_rfl)
         refine WO.nil ?_
         refine WP.seq ?_
         refine WP.cond c171 (by kernel_rfl) (fun h172 => ?_) (fun h172 => ?_)
         ·
          have q173 := (p171).1 h172
          refine WP.skip ?_
          refine WP.seq ?_
          refine WP.block ?_
          refine sr ?_
          refine ov 112 (.int .i64 (.ofNat iL158)) ?_
          have hlt174 : iL158 < x153.l.length := by omega
          refine WO.cons (WC.ix (k := .i64) a155 (x153.l.length) c156 (iL158) 1 (by kernel_rfl) (by kernel_rfl) T_und30 T_size3 (((hK.fFar.2 x153 (List.mem_of_getElem? hx154)).mono hE165 le170).blkA hv157 (zl hlt174)) (hlt174) ?_)
          obtain ⟨x175, hx176⟩ : ∃ el_, x153.l[iL158]? = some el_ := ⟨_, List.getElem?_eq_getElem (hlt174)⟩
          refine WO.cons (WC.load1E (blk a155) (0 + (iL158) * 1) (.int .i64 (x175)) (by kernel_rfl) T_agg3 (((hK.fFar.2 x153 (List.mem_of_getElem? hx154)).mono hE165 le170).blkB hv157 (zl hlt174)) (flat_at1 ((hK.fFar.2 x153 (List.mem_of_getElem? hx154)).mono hE165 le170).1 hx176 rfl) ?_)
          refine ov 9 (.int .i64 (.ofNat iL158)) ?_
          refine ov 10 (.int .i64 (x175)) ?_
          refine WO.nil ?_
          refine sr ?_
          refine ov 115 (.pointer (some ⟨nx, 0 + 1, none⟩)) ?_
          refine WO.cons (WC.load1 nx (0 + 1) (.slice a12 (K.fFar.l.length) c13) (by kernel_rfl) T_agg23 hb166 (by rw [← hv14]; rfl) ?_)
          refine ov 117 (.int .i64 (.ofNat iL158)) ?_
          have hlt177 : iL158 < K.fFar.l.length := by omega
          refine WO.cons (WC.ix (k := .i64) a12 (K.fFar.l.length) c13 (iL158) 1 (by kernel_rfl) (by kernel_rfl) T_und23 T_size30 ((hK.fFar.1.mono hE165 le170).blkA hv14 (zl hlt177)) (hlt177) ?_)
          obtain ⟨x178, hx179⟩ : ∃ el_, K.fFar.l[iL158]? = some el_ := ⟨_, List.getElem?_eq_getElem (hlt177)⟩
          obtain ⟨a180, c181, hv182⟩ := (hK.fFar.2 x178 (List.mem_of_getElem? hx179)).shape
          have hsm182 := (hK.fFar.2 x178 (List.mem_of_getElem? hx179)).2.2
          refine WO.cons (WC.load1E (blk a12) (0 + (iL158) * 1) (.slice a180 (x178.l.length) c181) (by kernel_rfl) T_agg30 ((hK.fFar.1.mono hE165 le170).blkB hv14 (zl hlt177)) (flat_at1 (hK.fFar.1.mono hE165 le170).1 hx179 (by rw [← hv182]; rfl)) ?_)
          refine ov 120 (.int .i64 (.ofNat (x178.l.length))) ?_
          refine ov 121 (.int .i64 (0)) ?_
          refine WO.nil ?_
          refine WP.block ?_
          have hleniL158 := (hfar iL158 x178 (by omega) hx179).1
          have hj184 : ∀ t : Tm, (((((((((((t.set 1 (t.get 1)).set 8 (t.get 8)).set 10 (t.get 10)).set 100 (t.get 100)).set 101 (t.get 101)).set 108 (t.get 108)).set 109 (t.get 109)).set 110 (t.get 110)).set 119 (t.get 119)).set 120 (t.get 120)).set 121 (t.get 121)) = t := fun t => by kernel_rfl
          refine WP.loop (fun m s => ∃ (iL183 : Nat), iL183 + m = x178.l.length ∧ s.to.get 1 = .pointer (some ⟨nx, 0, none⟩) ∧ s.to.get 8 = .int .i64 (.ofNat iL138) ∧ s.to.get 10 = .int .i64 (x175) ∧ s.to.get 100 = .int .i64 (.ofNat (K.fSegments.l.length + 1)) ∧ s.to.get 101 = .int .i64 (.ofNat iL138) ∧ s.to.get 108 = .slice a155 (x153.l.length) c156 ∧ s.to.get 109 = .int .i64 (.ofNat (x153.l.length)) ∧ s.to.get 110 = .int .i64 (.ofNat iL158) ∧ s.to.get 119 = .slice a180 (x178.l.length) c181 ∧ s.to.get 120 = .int .i64 (.ofNat (x178.l.length)) ∧ s.to.get 121 = .int .i64 (.ofNat iL183) ∧ s.ds = [] ∧ s.cs = [] ∧ nx161 ≤ s.nx ∧ HE (nx161) hp160 s.hp ∧ (∀ m', m' < iL183 → triAt K iL138 iL158 m')) ?_ (x178.l.length) ?_
          ·
           rintro mL183 ⟨toL183, dsL183, hp185, nx186, csL183⟩ ⟨iL183, him187, gL183_1, gL183_8, gL183_10, gL183_100, gL183_101, gL183_108, gL183_109, gL183_110, gL183_119, gL183_120, gL183_121, hdsL183, hcsL183, hn188, he189, htri8⟩
           simp only at gL183_1 gL183_8 gL183_10 gL183_100 gL183_101 gL183_108 gL183_109 gL183_110 gL183_119 gL183_120 gL183_121 hdsL183 hcsL183 hn188 he189
           subst hdsL183 hcsL183
           rw [← hj184 toL183, gL183_1, gL183_8, gL183_10, gL183_100, gL183_101, gL183_108, gL183_109, gL183_110, gL183_119, gL183_120, gL183_121]
           clear gL183_1 gL183_8 gL183_10 gL183_100 gL183_101 gL183_108 gL183_109 gL183_110 gL183_119 gL183_120 gL183_121
           have hE190 := hE165.trans he189 le170
           have hb191 := he189.get hb166 lt167
           have hr195 := he164.trans he189 hn163
           have rl196 := Nat.le_trans hn163 hn188
           have le197 := Nat.le_trans le170 hn188
           refine sr ?_
           obtain ⟨c198, e198, p198⟩ := @nb (ltI (.ofNat iL183) (.ofNat (x178.l.length))) (((iL183 : Nat) : Int) < ((x178.l.length : Nat) : Int)) (ltI_iff)
           refine ov 122 (.bool c198) ?_ (fun _ _ _ => by subst e198; kernel_rfl)
           refine WO.nil ?_
           refine WP.seq ?_
           refine WP.cond c198 (by kernel_rfl) (fun h199 => ?_) (fun h199 => ?_)
           ·
            have q200 := (p198).1 h199
            refine WP.skip ?_
            refine WP.seq ?_
            refine WP.block ?_
            refine sr ?_
            refine ov 123 (.int .i64 (.ofNat iL183)) ?_
            have hlt201 : iL183 < x178.l.length := by omega
            refine WO.cons (WC.ix (k := .i64) a180 (x178.l.length) c181 (iL183) 1 (by kernel_rfl) (by kernel_rfl) T_und30 T_size3 (((hK.fFar.2 x178 (List.mem_of_getElem? hx179)).mono hE190 le197).blkA hv182 (zl hlt201)) (hlt201) ?_)
            obtain ⟨x202, hx203⟩ : ∃ el_, x178.l[iL183]? = some el_ := ⟨_, List.getElem?_eq_getElem (hlt201)⟩
            refine WO.cons (WC.load1E (blk a180) (0 + (iL183) * 1) (.int .i64 (x202)) (by kernel_rfl) T_agg3 (((hK.fFar.2 x178 (List.mem_of_getElem? hx179)).mono hE190 le197).blkB hv182 (zl hlt201)) (flat_at1 ((hK.fFar.2 x178 (List.mem_of_getElem? hx179)).mono hE190 le197).1 hx203 rfl) ?_)
            refine ov 11 (.int .i64 (.ofNat iL183)) ?_
            refine ov 12 (.int .i64 (x202)) ?_
            refine WO.nil ?_
            refine sr ?_
            refine ov 126 (.pointer (some ⟨nx, 0 + 1, none⟩)) ?_
            refine WO.cons (WC.load1 nx (0 + 1) (.slice a12 (K.fFar.l.length) c13) (by kernel_rfl) T_agg23 hb191 (by rw [← hv14]; rfl) ?_)
            refine ov 128 (.int .i64 (.ofNat iL138)) ?_
            have hlt204 : iL138 < K.fFar.l.length := by omega
            refine WO.cons (WC.ix (k := .i64) a12 (K.fFar.l.length) c13 (iL138) 1 (by kernel_rfl) (by kernel_rfl) T_und23 T_size30 ((hK.fFar.1.mono hE190 le197).blkA hv14 (zl hlt204)) (hlt204) ?_)
            refine WO.cons (WC.load1E (blk a12) (0 + (iL138) * 1) (.slice a155 (x153.l.length) c156) (by kernel_rfl) T_agg30 ((hK.fFar.1.mono hE190 le197).blkB hv14 (zl hlt204)) (flat_at1 (hK.fFar.1.mono hE190 le197).1 hx154 (by rw [← hv157]; rfl)) ?_)
            refine ov 131 (.int .i64 (.ofNat iL183)) ?_
            have hlt205 : iL183 < x153.l.length := by omega
            refine WO.cons (WC.ix (k := .i64) a155 (x153.l.length) c156 (iL183) 1 (by kernel_rfl) (by kernel_rfl) T_und30 T_size3 (((hK.fFar.2 x153 (List.mem_of_getElem? hx154)).mono hE190 le197).blkA hv157 (zl hlt205)) (hlt205) ?_)
            obtain ⟨x206, hx207⟩ : ∃ el_, x153.l[iL183]? = some el_ := ⟨_, List.getElem?_eq_getElem (hlt205)⟩
            refine WO.cons (WC.load1E (blk a155) (0 + (iL183) * 1) (.int .i64 (x206)) (by kernel_rfl) T_agg3 (((hK.fFar.2 x153 (List.mem_of_getElem? hx154)).mono hE190 le197).blkB hv157 (zl hlt205)) (flat_at1 ((hK.fFar.2 x153 (List.mem_of_getElem? hx154)).mono hE190 le197).1 hx207 rfl) ?_)
            refine ov 134 (.int .i64 (x175)) ?_
            refine ov 135 (.int .i64 (x202)) ?_
            refine ov 136 (.int .i64 (wrapE .i64 ((x175) + (x202)))) ?_
            obtain ⟨c208, e208, p208⟩ := @nb (ltI (wrapE .i64 ((x175) + (x202))) (x206)) ((wrapE .i64 ((x175) + (x202))) < (x206)) (ltI_iff)
            refine ov 137 (.bool c208) ?_ (fun _ _ _ => by subst e208; kernel_rfl)
            refine WO.nil ?_
            refine WP.cond c208 (by kernel_rfl) (fun h209 => ?_) (fun h209 => ?_)
            ·
             have q210 := (p208).1 h209
             refine sr ?_
             refine ov 2 (.int .i64 (160)) ?_
             refine WO.nil ?_
             refine WP.ret ⟨rfl, rfl, [.int .i64 (160)], by kernel_rfl, ?_⟩
             refine ⟨⟨160, rfl, ⟨fun h => absurd h (by decide), fun hok => ?_⟩, .inr rfl⟩, le197, hE190⟩
             have := hok.tri iL138 iL158 iL183 _ _ _ _ _ hx154 hx176 hx179 hx203 hx207; omega
            ·
             have q210 := nq p208 h209
             refine WP.skip ?_
             refine WP.region ?_
             refine ov 138 (.int .i64 (.ofNat (iL183 + 1))) ?_ (fun _ _ _ => by rw [← wrapAdd (show iL183 + 1 < 9223372036854775808 by omega)]; kernel_rfl)
             refine ov 121 (.int .i64 (.ofNat (iL183 + 1))) ?_
             refine WO.nil ?_
             refine ⟨x178.l.length - (iL183 + 1), by omega, iL183 + 1, by omega, by kernel_rfl, by kernel_rfl, by kernel_rfl, by kernel_rfl, by kernel_rfl, by kernel_rfl, by kernel_rfl, by kernel_rfl, by kernel_rfl, by kernel_rfl, by kernel_rfl, rfl, rfl, ?_, ?_, ?_⟩
             · exact hn188
             · exact he189
             · intro m' hm
               rcases Nat.lt_succ_iff_lt_or_eq.1 hm with hm | rfl
               · exact htri8 m' hm
               · intro ri rj a b c h1 h2 h3 h4 h5
                 rw [hx154] at h1; cases h1; rw [hx176] at h2; cases h2; rw [hx179] at h3; cases h3; rw [hx203] at h4; cases h4; rw [hx207] at h5; cases h5
                 omega
           ·
            have q200 := nq p198 h199
            refine WP.exit ?_
            refine WP.region ?_
            refine ov 139 (.int .i64 (.ofNat (iL158 + 1))) ?_ (fun _ _ _ => by rw [← wrapAdd (show iL158 + 1 < 9223372036854775808 by omega)]; kernel_rfl)
            refine ov 110 (.int .i64 (.ofNat (iL158 + 1))) ?_
            refine WO.nil ?_
            refine ⟨x153.l.length - (iL158 + 1), by omega, iL158 + 1, by omega, by kernel_rfl, by kernel_rfl, by kernel_rfl, by kernel_rfl, by kernel_rfl, by kernel_rfl, by kernel_rfl, rfl, rfl, ?_, ?_, ?_⟩
            · exact rl196
            · exact hr195
            · intro j' m hj
              rcases Nat.lt_succ_iff_lt_or_eq.1 hj with hj | rfl
              · exact htri6 j' m hj
              · rcases Nat.lt_or_ge m x178.l.length with hm | hm
                · exact htri8 m (by omega)
                · intro ri rj a b c h1 h2 h3 h4; rw [hx179] at h3; cases h3; rw [List.getElem?_eq_none hm] at h4; cases h4
          ·
           exact ⟨0, by omega, by kernel_rfl, by kernel_rfl, by kernel_rfl, by kernel_rfl, by kernel_rfl, by kernel_rfl, by kernel_rfl, by kernel_rfl, by kernel_rfl, by kernel_rfl, by kernel_rfl, rfl, rfl, Nat.le_refl _, HE.refl _ _, (fun _ h => absurd h (Nat.not_lt_zero _))⟩
         ·
          have q173 := nq p171 h172
          refine WP.exit ?_
          refine WP.region ?_
          refine ov 140 (.int .i64 (.ofNat (iL138 + 1))) ?_ (fun _ _ _ => by rw [← wrapAdd (show iL138 + 1 < 9223372036854775808 by omega)]; kernel_rfl)
          refine ov 101 (.int .i64 (.ofNat (iL138 + 1))) ?_
          refine WO.nil ?_
          refine ⟨(K.fSegments.l.length + 1) - (iL138 + 1), by omega, iL138 + 1, by omega, by kernel_rfl, by kernel_rfl, by kernel_rfl, rfl, rfl, ?_, ?_, ?_⟩
          · exact rl169
          · exact hr168
          · intro i' j m hi
            rcases Nat.lt_succ_iff_lt_or_eq.1 hi with hi | rfl
            · exact htri i' j m hi
            · rcases Nat.lt_or_ge j x153.l.length with hj | hj
              · exact htri6 j m (by omega)
              · intro ri rj a b c h1 h2; rw [hx154] at h1; cases h1; rw [List.getElem?_eq_none hj] at h2; cases h2
        ·
         exact ⟨0, by omega, by kernel_rfl, by kernel_rfl, by kernel_rfl, by kernel_rfl, by kernel_rfl, by kernel_rfl, by kernel_rfl, rfl, rfl, Nat.le_refl _, HE.refl _ _, (fun _ _ h => absurd h (Nat.not_lt_zero _))⟩
       ·
        have q151 := nq p149 h150
        refine WP.exit ?_
        refine sr ?_
        refine ov 2 (.int .i64 (0)) ?_
        refine WO.nil ?_
        refine WP.ret ⟨rfl, rfl, [.int .i64 (0)], by kernel_rfl, ?_⟩
        refine ⟨⟨0, rfl, ⟨fun _ => ?_, fun _ => rfl⟩, .inl rfl⟩, le148, hE145⟩
        refine ⟨by omega, by omega, fun j s hs => hseg j s (by have := (List.getElem?_eq_some_iff.1 hs).1; omega) hs, fun j r hr => hfar j r (by have := (List.getElem?_eq_some_iff.1 hr).1; omega) hr, fun i j m => ?_⟩
        rcases Nat.lt_or_ge i (K.fSegments.l.length + 1) with hi | hi
        · exact htri i j m (by omega)
        · intro ri rj a b c h1; rw [List.getElem?_eq_none (by omega)] at h1; cases h1
      ·
       exact ⟨0, by omega, by kernel_rfl, by kernel_rfl, by kernel_rfl, rfl, rfl, Nat.le_refl _, HE.refl _ _, (fun _ _ _ h => absurd h (Nat.not_lt_zero _))⟩
    ·
     exact ⟨0, by omega, by kernel_rfl, by kernel_rfl, by kernel_rfl, by kernel_rfl, by kernel_rfl, rfl, rfl, Nat.le_refl _, HE.refl _ _, (fun _ _ h => absurd h (Nat.not_lt_zero _))⟩
  ·
   exact ⟨0, by omega, by kernel_rfl, by kernel_rfl, by kernel_rfl, by kernel_rfl, by kernel_rfl, rfl, rfl, Nat.le_refl _, HE.refl _ _, (fun _ _ h => absurd h (Nat.not_lt_zero _))⟩
theorem out_wf (hp : Ht) (nx : Nat) : WF ex 59 [] hp nx (Stays nx hp (ValIs (.agg (encOutcome (⟨true, -1, 0, 0⟩ : ROutcome)).toArray))) := by
 refine WF.body (fi := ⟨Tryz.f59.body.getD .skip, 2, [.cell 0 99]⟩) (by kernel_rfl) (by kernel_rfl) (by kernel_rfl) rfl ?_
 have hE := HE.refl nx hp
 refine sr ?_
 refine WO.cons (WC.alloc _ [.bool false, .int .i64 (0), .int .i64 (0), .int .i64 (0)] rfl T_zero99 rfl ?_)
 obtain ⟨hp2, hx3, he4, hb5⟩ := boxed hp (nx) [.bool false, .int .i64 (0), .int .i64 (0), .int .i64 (0)]
 rw [hx3]; clear hx3
 have hE6 := hE.trans he4 (Nat.le_refl nx)
 have le7 := Nat.le_trans (Nat.le_refl nx) (Nat.le_succ (nx))
 refine WO.nil ?_
 refine sr ?_
 refine ov 1 (.agg ⟨[.bool true, .int .i64 (-1), .int .i64 (0), .int .i64 (0)]⟩) ?_
 refine WO.cons (WC.store1 nx (0) (.agg ⟨[.bool true, .int .i64 (-1), .int .i64 (0), .int .i64 (0)]⟩) [.bool false, .int .i64 (0), .int .i64 (0), .int .i64 (0)] [.bool true, .int .i64 (-1), .int .i64 (0), .int .i64 (0)] [.bool true, .int .i64 (-1), .int .i64 (0), .int .i64 (0)] 4 rfl (by kernel_rfl) (by kernel_rfl) T_size99 rfl rfl hb5 rfl rfl rfl ?_)
 obtain ⟨hp8, hx9, he10, hb11, ho12⟩ := stored hp2 nx (.cells [.bool true, .int .i64 (-1), .int .i64 (0), .int .i64 (0)] CMeta.plain)
 rw [hx9]; clear hx9
 have hE13 := hE6.trans he10 (by omega)
 refine WO.nil ?_
 refine WP.ret ⟨rfl, rfl, [.agg ⟨[.bool true, .int .i64 (-1), .int .i64 (0), .int .i64 (0)]⟩], (getRes_cell1 (by rw [show (opd (.tmp 0)).run _ = .pointer (some ⟨nx, 0, none⟩) from by kernel_rfl]; exact eLoad_agg T_agg99 T_size99 hb11 rfl)), ?_⟩
 exact ⟨rfl, le7, hE13⟩
theorem outcomeCheck_wf (K : RClocks) (x : ROutcome) (hp : Ht) (nx : Nat) (hK : RClocksOk hp nx K) : WF ex 30 [.agg (encClocks K).toArray, .agg (encOutcome x).toArray] hp nx (Stays nx hp (CodeZ (ClocksOk K ∧ OutcomeOk K x))) := by
 refine WF.body (fi := ⟨Tryz.f30.body.getD .skip, 47, [.tmp 4]⟩) (by kernel_rfl) (by kernel_rfl) (by kernel_rfl) rfl ?_
 have hE := HE.refl nx hp
 refine sr ?_
 refine WO.cons (WC.box (.agg (encClocks K).toArray) (encClocks K) rfl (by kernel_rfl) rfl ?_)
 obtain ⟨hp2, hx3, he4, hb5⟩ := boxed hp (nx) (encClocks K)
 rw [hx3]; clear hx3
 have hE6 := hE.trans he4 (Nat.le_refl nx)
 have le7 := Nat.le_trans (Nat.le_refl nx) (Nat.le_succ (nx))
 refine WO.cons (WC.box (.agg (encOutcome x).toArray) (encOutcome x) rfl (by kernel_rfl) rfl ?_)
 obtain ⟨hp9, hx10, he11, hb12⟩ := boxed hp2 (nx + 1) (encOutcome x)
 rw [hx10]; clear hx10
 have hE13 := hE6.trans he11 le7
 have hb14 := he11.get hb5 (Nat.lt_succ_self (nx))
 have lt15 := Nat.lt_of_lt_of_le (Nat.lt_succ_self (nx)) (Nat.le_succ (nx + 1))
 have le16 := Nat.le_trans le7 (Nat.le_succ (nx + 1))
 refine ov 4 (.int .i64 (0)) ?_
 refine WO.nil ?_
 refine WP.seq ?_
 refine sr ?_
 refine WO.cons (WC.loadS nx (0) (encClocks K) (by kernel_rfl) T_agg25 T_size25 hb14 rfl ?_)
 refine WO.cons (WC.call 8 28 ([.agg (encClocks K).toArray]) (fun _ _ _ => by kernel_rfl) ((clocksCheck_wf K hp9 (nx + 1 + 1) (hK.mono hE13 le16)).mono ?_))
 rintro _ hp17 nx18 ⟨⟨z21, rfl, hz21, hk21⟩, hn19, he20⟩
 have hE22 := hE13.trans he20 le16
 have hb23 := he20.get hb14 lt15
 have hb25 := he20.get hb12 (Nat.lt_succ_self (nx + 1))
 have lt26 := Nat.lt_of_lt_of_le (Nat.lt_succ_self (nx + 1)) hn19
 have le27 := Nat.le_trans le16 hn19
 refine ov 5 (.int .i64 (z21)) ?_
 refine WO.nil ?_
 refine sr ?_
 refine ov 9 (.int .i64 (z21)) ?_
 obtain ⟨c28, e28, p28⟩ := @nb ((!(eqI (z21) (0)))) ((z21) ≠ (0)) (neI_iff)
 refine ov 10 (.bool c28) ?_ (fun _ _ _ => by subst e28; kernel_rfl)
 refine WO.nil ?_
 refine WP.cond c28 (by kernel_rfl) (fun h29 => ?_) (fun h29 => ?_)
 ·
  have q30 := (p28).1 h29
  refine sr ?_
  refine ov 11 (.int .i64 (z21)) ?_
  refine ov 4 (.int .i64 (z21)) ?_
  refine WO.nil ?_
  refine WP.ret ⟨rfl, rfl, [.int .i64 (z21)], by kernel_rfl, ?_⟩
  refine ⟨⟨z21, rfl, ⟨fun h => ?_, fun hok => ?_⟩⟩, le27, hE22⟩
  · exact absurd h q30
  · exact absurd ((hz21).2 hok.1) q30
 ·
  have q30 := nq p28 h29
  refine WP.skip ?_
  refine sr ?_
  refine ov 12 (.pointer (some ⟨(nx + 1), 0 + 1, none⟩)) ?_
  refine WO.cons (WC.load1 (nx + 1) (0 + 1) (.int .i64 (x.fSeg)) (by kernel_rfl) T_agg3 hb25 rfl ?_)
  obtain ⟨c31, e31, p31⟩ := @nb (leI (-1) (x.fSeg)) ((-1) ≤ (x.fSeg)) (leI_iff)
  refine ov 14 (.bool c31) ?_ (fun _ _ _ => by subst e31; kernel_rfl)
  refine ov 15 (.bool c31) ?_
  refine og 15 (c31) (.pointer (some ⟨(nx + 1), 0 + 1, none⟩)) (.bool c31) (by cases c31 <;> rfl) (fun h => by obtain rfl := h; exact fun _ _ _ => by kernel_rfl) ?_
  refine ogc 15 (c31) (.int .i64 (x.fSeg)) (.bool c31) (by cases c31 <;> rfl) (fun h => by obtain rfl := h; exact WC.load1 (nx + 1) (0 + 1) (.int .i64 (x.fSeg)) (by kernel_rfl) T_agg3 hb25 rfl rfl) ?_
  refine og 15 (c31) (.pointer (some ⟨nx, 0 + 0, none⟩)) (.bool c31) (by cases c31 <;> rfl) (fun h => by obtain rfl := h; exact fun _ _ _ => by kernel_rfl) ?_
  obtain ⟨a32, c33, hv34⟩ := hK.fSegments.shape
  have hsm34 := hK.fSegments.2.2
  refine ogc 15 (c31) (.slice a32 (K.fSegments.l.length) c33) (.bool c31) (by cases c31 <;> rfl) (fun h => by obtain rfl := h; exact WC.load1 nx (0 + 0) (.slice a32 (K.fSegments.l.length) c33) (by kernel_rfl) T_agg22 hb23 (by rw [← hv34]; rfl) rfl) ?_
  refine og 15 (c31) (.int .i64 (.ofNat (K.fSegments.l.length))) (.bool c31) (by cases c31 <;> rfl) (fun h => by obtain rfl := h; exact fun _ _ _ => by kernel_rfl) ?_
  obtain ⟨c35, e35, p35⟩ := @nb (ltI (x.fSeg) (.ofNat (K.fSegments.l.length))) ((x.fSeg) < ((K.fSegments.l.length : Nat) : Int)) (ltI_iff)
  refine og 15 (c31) (.bool c35) (.bool c31) (by cases c31 <;> rfl) (fun h => by obtain rfl := h; exact fun _ _ _ => by subst e35; kernel_rfl) ?_
  obtain ⟨c36, e36, p36⟩ := @nb ((c31 && c35)) (((-1) ≤ (x.fSeg)) ∧ ((x.fSeg) < ((K.fSegments.l.length : Nat) : Int))) (by rw [Bool.and_eq_true, p31, p35])
  refine WO.cons (WC.opt (v := .bool c36) 22 (ePick (.bool c31) ((bif c31 then .bool c35 else undef)) (.bool false)) (fun _ _ _ => by kernel_rfl) (by rw [e36]; exact ePick_and (fun h => by obtain rfl : c31 = true := h; rfl)) ?_)
  refine ov 23 (.bool c36) ?_
  refine og 23 (c36) (.pointer (some ⟨(nx + 1), 0 + 2, none⟩)) (.bool c36) (by cases c36 <;> rfl) (fun h => by obtain rfl := h; exact fun _ _ _ => by kernel_rfl) ?_
  refine ogc 23 (c36) (.int .i64 (x.fLo)) (.bool c36) (by cases c36 <;> rfl) (fun h => by obtain rfl := h; exact WC.load1 (nx + 1) (0 + 2) (.int .i64 (x.fLo)) (by kernel_rfl) T_agg3 hb25 rfl rfl) ?_
  obtain ⟨c37, e37, p37⟩ := @nb (leI (-288230376151711744) (x.fLo)) ((-288230376151711744) ≤ (x.fLo)) (leI_iff)
  refine og 23 (c36) (.bool c37) (.bool c36) (by cases c36 <;> rfl) (fun h => by obtain rfl := h; exact fun _ _ _ => by subst e37; kernel_rfl) ?_
  obtain ⟨c38, e38, p38⟩ := @nb ((c36 && c37)) ((((-1) ≤ (x.fSeg)) ∧ ((x.fSeg) < ((K.fSegments.l.length : Nat) : Int))) ∧ ((-288230376151711744) ≤ (x.fLo))) (by rw [Bool.and_eq_true, p36, p37])
  refine WO.cons (WC.opt (v := .bool c38) 27 (ePick (.bool c36) ((bif c36 then .bool c37 else undef)) (.bool false)) (fun _ _ _ => by kernel_rfl) (by rw [e38]; exact ePick_and (fun h => by obtain rfl : c36 = true := h; rfl)) ?_)
  refine ov 28 (.bool c38) ?_
  refine og 28 (c38) (.pointer (some ⟨(nx + 1), 0 + 2, none⟩)) (.bool c38) (by cases c38 <;> rfl) (fun h => by obtain rfl := h; exact fun _ _ _ => by kernel_rfl) ?_
  refine ogc 28 (c38) (.int .i64 (x.fLo)) (.bool c38) (by cases c38 <;> rfl) (fun h => by obtain rfl := h; exact WC.load1 (nx + 1) (0 + 2) (.int .i64 (x.fLo)) (by kernel_rfl) T_agg3 hb25 rfl rfl) ?_
  refine og 28 (c38) (.pointer (some ⟨(nx + 1), 0 + 3, none⟩)) (.bool c38) (by cases c38 <;> rfl) (fun h => by obtain rfl := h; exact fun _ _ _ => by kernel_rfl) ?_
  refine ogc 28 (c38) (.int .i64 (x.fHi)) (.bool c38) (by cases c38 <;> rfl) (fun h => by obtain rfl := h; exact WC.load1 (nx + 1) (0 + 3) (.int .i64 (x.fHi)) (by kernel_rfl) T_agg3 hb25 rfl rfl) ?_
  obtain ⟨c39, e39, p39⟩ := @nb (leI (x.fLo) (x.fHi)) ((x.fLo) ≤ (x.fHi)) (leI_iff)
  refine og 28 (c38) (.bool c39) (.bool c38) (by cases c38 <;> rfl) (fun h => by obtain rfl := h; exact fun _ _ _ => by subst e39; kernel_rfl) ?_
  obtain ⟨c40, e40, p40⟩ := @nb ((c38 && c39)) (((((-1) ≤ (x.fSeg)) ∧ ((x.fSeg) < ((K.fSegments.l.length : Nat) : Int))) ∧ ((-288230376151711744) ≤ (x.fLo))) ∧ ((x.fLo) ≤ (x.fHi))) (by rw [Bool.and_eq_true, p38, p39])
  refine WO.cons (WC.opt (v := .bool c40) 34 (ePick (.bool c38) ((bif c38 then .bool c39 else undef)) (.bool false)) (fun _ _ _ => by kernel_rfl) (by rw [e40]; exact ePick_and (fun h => by obtain rfl : c38 = true := h; rfl)) ?_)
  refine ov 35 (.bool c40) ?_
  refine og 35 (c40) (.pointer (some ⟨(nx + 1), 0 + 3, none⟩)) (.bool c40) (by cases c40 <;> rfl) (fun h => by obtain rfl := h; exact fun _ _ _ => by kernel_rfl) ?_
  refine ogc 35 (c40) (.int .i64 (x.fHi)) (.bool c40) (by cases c40 <;> rfl) (fun h => by obtain rfl := h; exact WC.load1 (nx + 1) (0 + 3) (.int .i64 (x.fHi)) (by kernel_rfl) T_agg3 hb25 rfl rfl) ?_
  obtain ⟨c41, e41, p41⟩ := @nb (leI (x.fHi) (288230376151711744)) ((x.fHi) ≤ (288230376151711744)) (leI_iff)
  refine og 35 (c40) (.bool c41) (.bool c40) (by cases c40 <;> rfl) (fun h => by obtain rfl := h; exact fun _ _ _ => by subst e41; kernel_rfl) ?_
  obtain ⟨c42, e42, p42⟩ := @nb ((c40 && c41)) ((((((-1) ≤ (x.fSeg)) ∧ ((x.fSeg) < ((K.fSegments.l.length : Nat) : Int))) ∧ ((-288230376151711744) ≤ (x.fLo))) ∧ ((x.fLo) ≤ (x.fHi))) ∧ ((x.fHi) ≤ (288230376151711744))) (by rw [Bool.and_eq_true, p40, p41])
  refine WO.cons (WC.opt (v := .bool c42) 39 (ePick (.bool c40) ((bif c40 then .bool c41 else undef)) (.bool false)) (fun _ _ _ => by kernel_rfl) (by rw [e42]; exact ePick_and (fun h => by obtain rfl : c40 = true := h; rfl)) ?_)
  refine ov 6 (.bool c42) ?_
  refine WO.nil ?_
  refine WP.seq ?_
  refine sr ?_
  refine ov 40 (.pointer (some ⟨(nx + 1), 0 + 0, none⟩)) ?_
  obtain ⟨c43, e43, p43⟩ := @nb (x.fOut) (x.fOut = true) (by first | done | exact Iff.rfl)
  refine WO.cons (WC.load1 (nx + 1) (0 + 0) (.bool c43) (by kernel_rfl) T_agg4 hb25 (by rw [e43]; rfl) ?_)
  refine WO.nil ?_
  refine WP.cond c43 (by kernel_rfl) (fun h44 => ?_) (fun h44 => ?_)
  ·
   have q45 := (p43).1 h44
   refine WP.drawS [⟨[0], [0], some 1⟩, ⟨[2], [0, 2], some 3⟩, ⟨[], [], none⟩] (by kernel_rfl) _ rfl ?_
   refine WD.eff ?_
   refine WN.consAt rfl (WC.loadS (nx + 1) (0) (encOutcome x) (by kernel_rfl) T_agg99 T_size99 hb25 rfl ?_)
   refine WN.nil ⟨?_, ?_⟩
   ·
    refine co (.agg (encOutcome x).toArray) (eLoad ex.T hp17.get 99 (.pointer (some ⟨(nx + 1), 0, none⟩))) (eLoad_agg T_agg99 T_size99 hb25 rfl) (encOutcome_vEq x) ?_
    exact Chks.nil
   refine WC.at rfl (WC.call 43 59 ([]) (fun _ _ _ => by kernel_rfl) ((out_wf hp17 (nx18)).mono ?_))
   rintro _ hp46 nx47 ⟨rfl, hn48, he49⟩
   have hE50 := hE22.trans he49 le27
   have hb53 := he49.get hb25 lt26
   have le55 := Nat.le_trans le27 hn48
   refine WD.eff ?_
   obtain ⟨c56, e56, p56⟩ := @nb (@decide (x = (⟨true, -1, 0, 0⟩ : ROutcome)) (Classical.propDecidable _)) (x = (⟨true, -1, 0, 0⟩ : ROutcome)) (@decide_eq_true_iff _ (Classical.propDecidable _))
   refine WN.consAt rfl (WC.opt (v := .bool c56) 44 (eBin ex.T .eql 99 (.tmp 42) (.tmp 43) (.agg (encOutcome x).toArray) (.agg (encOutcome (⟨true, -1, 0, 0⟩ : ROutcome)).toArray)) (fun _ _ _ => by kernel_rfl) (encOutcome_eql _ _ x (⟨true, -1, 0, 0⟩ : ROutcome) e56) ?_)
   refine WN.nil ⟨?_, ?_⟩
   ·
    refine co (.agg (encOutcome x).toArray) (eLoad ex.T hp46.get 99 (.pointer (some ⟨(nx + 1), 0, none⟩))) (eLoad_agg T_agg99 T_size99 hb53 rfl) (encOutcome_vEq x) ?_
    refine co (.bool c56) (eBin ex.T .eql 99 (.tmp 42) (.tmp 43) (.agg (encOutcome x).toArray) (.agg (encOutcome (⟨true, -1, 0, 0⟩ : ROutcome)).toArray)) ((encOutcome_eql _ _ x (⟨true, -1, 0, 0⟩ : ROutcome) e56)) (vEq_bool 8 c56) ?_
    exact Chks.nil
   refine WC.at rfl (WC.val 6 (.bool c56) (fun _ _ _ => by kernel_rfl) ?_)
   refine WD.last ?_
   refine WN.nil ⟨?_, ?_⟩
   ·
    exact Chks.nil
   refine WP.seq ?_
   refine sr ?_
   refine ov 45 (.bool c56) ?_
   obtain ⟨c57, e57, p57⟩ := @nb (!c56) (¬ (x = (⟨true, -1, 0, 0⟩ : ROutcome))) (by rw [Bool.not_eq_true', ← Bool.not_eq_true, p56])
   refine ov 46 (.bool c57) ?_ (fun _ _ _ => by subst e57; kernel_rfl)
   refine WO.nil ?_
   refine WP.cond c57 (by kernel_rfl) (fun h58 => ?_) (fun h58 => ?_)
   ·
    have q59 := (p57).1 h58
    refine sr ?_
    refine ov 4 (.int .i64 (230)) ?_
    refine WO.nil ?_
    refine WP.ret ⟨rfl, rfl, [.int .i64 (230)], by kernel_rfl, ?_⟩
    refine ⟨⟨230, rfl, ⟨fun h => absurd h (by decide), fun hok => ?_⟩⟩, le55, hE50⟩
    exact absurd (hok.2.1 q45) q59
   ·
    have q59 := nq p57 h58
    refine WP.skip ?_
    refine sr ?_
    refine ov 4 (.int .i64 (0)) ?_
    refine WO.nil ?_
    refine WP.ret ⟨rfl, rfl, [.int .i64 (0)], by kernel_rfl, ?_⟩
    refine ⟨⟨0, rfl, ⟨fun _ => ?_, fun _ => rfl⟩⟩, le55, hE50⟩
    exact ⟨(hz21).1 (Classical.not_not.1 q30), fun _ => Classical.not_not.1 q59, fun hf => by rw [q45] at hf; cases hf⟩
  ·
   have q45 := nq p43 h44
   refine WP.skip ?_
   refine WP.seq ?_
   refine sr ?_
   refine ov 45 (.bool c42) ?_
   obtain ⟨c60, e60, p60⟩ := @nb (!c42) (¬ ((((((-1) ≤ (x.fSeg)) ∧ ((x.fSeg) < ((K.fSegments.l.length : Nat) : Int))) ∧ ((-288230376151711744) ≤ (x.fLo))) ∧ ((x.fLo) ≤ (x.fHi))) ∧ ((x.fHi) ≤ (288230376151711744)))) (by rw [Bool.not_eq_true', ← Bool.not_eq_true, p42])
   refine ov 46 (.bool c60) ?_ (fun _ _ _ => by subst e60; kernel_rfl)
   refine WO.nil ?_
   refine WP.cond c60 (by kernel_rfl) (fun h61 => ?_) (fun h61 => ?_)
   ·
    have q62 := (p60).1 h61
    refine sr ?_
    refine ov 4 (.int .i64 (230)) ?_
    refine WO.nil ?_
    refine WP.ret ⟨rfl, rfl, [.int .i64 (230)], by kernel_rfl, ?_⟩
    refine ⟨⟨230, rfl, ⟨fun h => absurd h (by decide), fun hok => ?_⟩⟩, le27, hE22⟩
    exact absurd (by have hh := hok.2.2 (Bool.eq_false_iff.2 q45); omega) q62
   ·
    have q62 := nq p60 h61
    refine WP.skip ?_
    refine sr ?_
    refine ov 4 (.int .i64 (0)) ?_
    refine WO.nil ?_
    refine WP.ret ⟨rfl, rfl, [.int .i64 (0)], by kernel_rfl, ?_⟩
    refine ⟨⟨0, rfl, ⟨fun _ => ?_, fun _ => rfl⟩⟩, le27, hE22⟩
    exact ⟨(hz21).1 (Classical.not_not.1 q30), fun ht => absurd ht q45, fun _ => by have hh := Classical.not_not.1 q62; omega⟩
theorem time16_wf (x : Int) (hp : Ht) (nx : Nat) : WF ex 62 [.int .i64 (x)] hp nx (Stays nx hp (BoolIs (-1099511627776 ≤ x ∧ x ≤ 1099511627776))) := by
 refine WF.body (fi := ⟨Tryz.f62.body.getD .skip, 9, [.tmp 2]⟩) (by kernel_rfl) (by kernel_rfl) (by kernel_rfl) rfl ?_
 have hE := HE.refl nx hp
 refine sr ?_
 refine ov 2 (.bool false) ?_
 refine WO.nil ?_
 refine sr ?_
 refine ov 3 (.int .i64 (x)) ?_
 obtain ⟨c1, e1, p1⟩ := @nb (leI (-1099511627776) (x)) ((-1099511627776) ≤ (x)) (leI_iff)
 refine ov 4 (.bool c1) ?_ (fun _ _ _ => by subst e1; kernel_rfl)
 refine ov 5 (.bool c1) ?_
 refine og 5 (c1) (.int .i64 (x)) (.bool c1) (by cases c1 <;> rfl) (fun h => by obtain rfl := h; exact fun _ _ _ => by kernel_rfl) ?_
 obtain ⟨c2, e2, p2⟩ := @nb (leI (x) (1099511627776)) ((x) ≤ (1099511627776)) (leI_iff)
 refine og 5 (c1) (.bool c2) (.bool c1) (by cases c1 <;> rfl) (fun h => by obtain rfl := h; exact fun _ _ _ => by subst e2; kernel_rfl) ?_
 obtain ⟨c3, e3, p3⟩ := @nb ((c1 && c2)) (((-1099511627776) ≤ (x)) ∧ ((x) ≤ (1099511627776))) (by rw [Bool.and_eq_true, p1, p2])
 refine WO.cons (WC.opt (v := .bool c3) 8 (ePick (.bool c1) ((bif c1 then .bool c2 else undef)) (.bool false)) (fun _ _ _ => by kernel_rfl) (by rw [e3]; exact ePick_and (fun h => by obtain rfl : c1 = true := h; rfl)) ?_)
 refine ov 2 (.bool c3) ?_
 refine WO.nil ?_
 refine WP.ret ⟨rfl, rfl, [.bool c3], by kernel_rfl, ?_⟩
 refine ⟨⟨c3, rfl, ?_⟩, (Nat.le_refl nx), hE⟩
 exact p3
theorem less16_wf (p s : RSegment) (hp : Ht) (nx : Nat) : WF ex 63 [.agg (encSegment p).toArray, .agg (encSegment s).toArray] hp nx (Stays nx hp (BoolIs (segLt p s))) := by
 refine WF.body (fi := ⟨Tryz.f63.body.getD .skip, 24, [.tmp 4]⟩) (by kernel_rfl) (by kernel_rfl) (by kernel_rfl) rfl ?_
 have hE := HE.refl nx hp
 refine sr ?_
 refine WO.cons (WC.box (.agg (encSegment p).toArray) (encSegment p) rfl (by kernel_rfl) rfl ?_)
 obtain ⟨hp2, hx3, he4, hb5⟩ := boxed hp (nx) (encSegment p)
 rw [hx3]; clear hx3
 have hE6 := hE.trans he4 (Nat.le_refl nx)
 have le7 := Nat.le_trans (Nat.le_refl nx) (Nat.le_succ (nx))
 refine WO.cons (WC.box (.agg (encSegment s).toArray) (encSegment s) rfl (by kernel_rfl) rfl ?_)
 obtain ⟨hp9, hx10, he11, hb12⟩ := boxed hp2 (nx + 1) (encSegment s)
 rw [hx10]; clear hx10
 have hE13 := hE6.trans he11 le7
 have hb14 := he11.get hb5 (Nat.lt_succ_self (nx))
 have le16 := Nat.le_trans le7 (Nat.le_succ (nx + 1))
 refine ov 4 (.bool false) ?_
 refine WO.nil ?_
 refine sr ?_
 refine ov 5 (.pointer (some ⟨nx, 0 + 0, none⟩)) ?_
 refine WO.cons (WC.load1 nx (0 + 0) (.int .i64 (p.fMat)) (by kernel_rfl) T_agg3 hb14 rfl ?_)
 refine ov 7 (.pointer (some ⟨(nx + 1), 0 + 0, none⟩)) ?_
 refine WO.cons (WC.load1 (nx + 1) (0 + 0) (.int .i64 (s.fMat)) (by kernel_rfl) T_agg3 hb12 rfl ?_)
 obtain ⟨c17, e17, p17⟩ := @nb (ltI (p.fMat) (s.fMat)) ((p.fMat) < (s.fMat)) (ltI_iff)
 refine ov 9 (.bool c17) ?_ (fun _ _ _ => by subst e17; kernel_rfl)
 refine ov 10 (.bool c17) ?_
 refine og 10 (!c17) (.pointer (some ⟨nx, 0 + 0, none⟩)) (.bool c17) (by cases c17 <;> rfl) (fun h => by obtain rfl := bF h; exact fun _ _ _ => by kernel_rfl) ?_
 refine ogc 10 (!c17) (.int .i64 (p.fMat)) (.bool c17) (by cases c17 <;> rfl) (fun h => by obtain rfl := bF h; exact WC.load1 nx (0 + 0) (.int .i64 (p.fMat)) (by kernel_rfl) T_agg3 hb14 rfl rfl) ?_
 refine og 10 (!c17) (.pointer (some ⟨(nx + 1), 0 + 0, none⟩)) (.bool c17) (by cases c17 <;> rfl) (fun h => by obtain rfl := bF h; exact fun _ _ _ => by kernel_rfl) ?_
 refine ogc 10 (!c17) (.int .i64 (s.fMat)) (.bool c17) (by cases c17 <;> rfl) (fun h => by obtain rfl := bF h; exact WC.load1 (nx + 1) (0 + 0) (.int .i64 (s.fMat)) (by kernel_rfl) T_agg3 hb12 rfl rfl) ?_
 obtain ⟨c18, e18, p18⟩ := @nb (eqI (p.fMat) (s.fMat)) ((p.fMat) = (s.fMat)) (eqI_iff)
 refine og 10 (!c17) (.bool c18) (.bool c17) (by cases c17 <;> rfl) (fun h => by obtain rfl := bF h; exact fun _ _ _ => by subst e18; kernel_rfl) ?_
 refine og 10 (!c17) (.bool c18) (.bool c17) (by cases c17 <;> rfl) (fun h => by obtain rfl := bF h; exact fun _ _ _ => by kernel_rfl) ?_
 refine og 16 (!c17 && c18) (.pointer (some ⟨nx, 0 + 1, none⟩)) ((bif !c17 then .bool c18 else undef)) (by cases c17 <;> cases c18 <;> rfl) (fun h => by obtain ⟨rfl, rfl⟩ := bFT h; exact fun _ _ _ => by kernel_rfl) ?_
 refine ogc 16 (!c17 && c18) (.int .i64 (p.fEpoch)) ((bif !c17 then .bool c18 else undef)) (by cases c17 <;> cases c18 <;> rfl) (fun h => by obtain ⟨rfl, rfl⟩ := bFT h; exact WC.load1 nx (0 + 1) (.int .i64 (p.fEpoch)) (by kernel_rfl) T_agg3 hb14 rfl rfl) ?_
 refine og 16 (!c17 && c18) (.pointer (some ⟨(nx + 1), 0 + 1, none⟩)) ((bif !c17 then .bool c18 else undef)) (by cases c17 <;> cases c18 <;> rfl) (fun h => by obtain ⟨rfl, rfl⟩ := bFT h; exact fun _ _ _ => by kernel_rfl) ?_
 refine ogc 16 (!c17 && c18) (.int .i64 (s.fEpoch)) ((bif !c17 then .bool c18 else undef)) (by cases c17 <;> cases c18 <;> rfl) (fun h => by obtain ⟨rfl, rfl⟩ := bFT h; exact WC.load1 (nx + 1) (0 + 1) (.int .i64 (s.fEpoch)) (by kernel_rfl) T_agg3 hb12 rfl rfl) ?_
 obtain ⟨c19, e19, p19⟩ := @nb (ltI (p.fEpoch) (s.fEpoch)) ((p.fEpoch) < (s.fEpoch)) (ltI_iff)
 refine og 16 (!c17 && c18) (.bool c19) ((bif !c17 then .bool c18 else undef)) (by cases c17 <;> cases c18 <;> rfl) (fun h => by obtain ⟨rfl, rfl⟩ := bFT h; exact fun _ _ _ => by subst e19; kernel_rfl) ?_
 obtain ⟨c20, e20, p20⟩ := @nb ((c18 && c19)) (((p.fMat) = (s.fMat)) ∧ ((p.fEpoch) < (s.fEpoch))) (by rw [Bool.and_eq_true, p18, p19])
 refine ogc 10 (!c17) (.bool c20) (.bool c17) (by cases c17 <;> rfl) (fun h => by obtain rfl := bF h; exact WC.opt (v := .bool c20) 22 (ePick (.bool c18) ((bif !false && c18 then .bool c19 else undef)) (.bool false)) (fun _ _ _ => by kernel_rfl) (by rw [e20]; exact ePick_and (fun h => by obtain rfl : c18 = true := h; rfl)) rfl) ?_
 obtain ⟨c21, e21, p21⟩ := @nb ((c17 || c20)) (((p.fMat) < (s.fMat)) ∨ (((p.fMat) = (s.fMat)) ∧ ((p.fEpoch) < (s.fEpoch)))) (by rw [Bool.or_eq_true, p17, p20])
 refine WO.cons (WC.opt (v := .bool c21) 23 (ePick (.bool c17) (.bool true) ((bif !c17 then .bool c20 else undef))) (fun _ _ _ => by kernel_rfl) (by rw [e21]; exact ePick_or (fun h => by obtain rfl : c17 = false := h; rfl)) ?_)
 refine ov 4 (.bool c21) ?_
 refine WO.nil ?_
 refine WP.ret ⟨rfl, rfl, [.bool c21], by kernel_rfl, ?_⟩
 refine ⟨⟨c21, rfl, ?_⟩, le16, hE13⟩
 exact p21
theorem check16_wf (K : RClocks) (hp : Ht) (nx : Nat) (hK : RClocksOk hp nx K) : WF ex 32 [.agg (encClocks K).toArray] hp nx (Stays nx hp (CodeIs 160 (ClocksOk K))) := by
 refine WF.body (fi := ⟨Tryz.f32.body.getD .skip, 164, [.tmp 2]⟩) (by kernel_rfl) (by kernel_rfl) (by kernel_rfl) rfl ?_
 have hE := HE.refl nx hp
 refine sr ?_
 refine WO.cons (WC.box (.agg (encClocks K).toArray) (encClocks K) rfl (by kernel_rfl) rfl ?_)
 obtain ⟨hp2, hx3, he4, hb5⟩ := boxed hp (nx) (encClocks K)
 rw [hx3]; clear hx3
 have hE6 := hE.trans he4 (Nat.le_refl nx)
 have le7 := Nat.le_trans (Nat.le_refl nx) (Nat.le_succ (nx))
 refine ov 2 (.int .i64 (0)) ?_
 refine WO.nil ?_
 refine sr ?_
 refine ov 11 (.pointer (some ⟨nx, 0 + 0, none⟩)) ?_
 obtain ⟨a8, c9, hv10⟩ := hK.fSegments.shape
 have hsm10 := hK.fSegments.2.2
 refine WO.cons (WC.load1 nx (0 + 0) (.slice a8 (K.fSegments.l.length) c9) (by kernel_rfl) T_agg22 hb5 (by rw [← hv10]; rfl) ?_)
 refine ov 13 (.int .i64 (.ofNat (K.fSegments.l.length))) ?_
 refine ov 3 (.int .i64 (.ofNat (K.fSegments.l.length))) ?_
 refine WO.nil ?_
 refine WP.seq ?_
 refine sr ?_
 refine ov 14 (.int .i64 (.ofNat (K.fSegments.l.length))) ?_
 obtain ⟨c11, e11, p11⟩ := @nb (ltI (511) (.ofNat (K.fSegments.l.length))) ((511) < ((K.fSegments.l.length : Nat) : Int)) (ltI_iff)
 refine ov 15 (.bool c11) ?_ (fun _ _ _ => by subst e11; kernel_rfl)
 refine ov 16 (.bool c11) ?_
 refine og 16 (!c11) (.pointer (some ⟨nx, 0 + 1, none⟩)) (.bool c11) (by cases c11 <;> rfl) (fun h => by obtain rfl := bF h; exact fun _ _ _ => by kernel_rfl) ?_
 obtain ⟨a12, c13, hv14⟩ := hK.fFar.1.shape
 have hsm14 := hK.fFar.1.2.2
 refine ogc 16 (!c11) (.slice a12 (K.fFar.l.length) c13) (.bool c11) (by cases c11 <;> rfl) (fun h => by obtain rfl := bF h; exact WC.load1 nx (0 + 1) (.slice a12 (K.fFar.l.length) c13) (by kernel_rfl) T_agg23 hb5 (by rw [← hv14]; rfl) rfl) ?_
 refine og 16 (!c11) (.int .i64 (.ofNat (K.fFar.l.length))) (.bool c11) (by cases c11 <;> rfl) (fun h => by obtain rfl := bF h; exact fun _ _ _ => by kernel_rfl) ?_
 refine og 16 (!c11) (.int .i64 (.ofNat (K.fSegments.l.length))) (.bool c11) (by cases c11 <;> rfl) (fun h => by obtain rfl := bF h; exact fun _ _ _ => by kernel_rfl) ?_
 refine og 16 (!c11) (.int .i64 (.ofNat (K.fSegments.l.length + 1))) (.bool c11) (by cases c11 <;> rfl) (fun h => by obtain rfl := bF h; have q0 := nf p11; exact fun _ _ _ => by rw [← wrapAdd (show K.fSegments.l.length + 1 < 9223372036854775808 by omega)]; kernel_rfl) ?_
 obtain ⟨c15, e15, p15⟩ := @nb ((!(eqI (.ofNat (K.fFar.l.length)) (.ofNat (K.fSegments.l.length + 1))))) (((K.fFar.l.length : Nat) : Int) ≠ ((K.fSegments.l.length + 1 : Nat) : Int)) (neI_iff)
 refine og 16 (!c11) (.bool c15) (.bool c11) (by cases c11 <;> rfl) (fun h => by obtain rfl := bF h; exact fun _ _ _ => by subst e15; kernel_rfl) ?_
 obtain ⟨c16, e16, p16⟩ := @nb ((c11 || c15)) (((511) < ((K.fSegments.l.length : Nat) : Int)) ∨ (((K.fFar.l.length : Nat) : Int) ≠ ((K.fSegments.l.length + 1 : Nat) : Int))) (by rw [Bool.or_eq_true, p11, p15])
 refine WO.cons (WC.opt (v := .bool c16) 23 (ePick (.bool c11) (.bool true) ((bif !c11 then .bool c15 else undef))) (fun _ _ _ => by kernel_rfl) (by rw [e16]; exact ePick_or (fun h => by obtain rfl : c11 = false := h; rfl)) ?_)
 refine WO.nil ?_
 refine WP.cond c16 (by kernel_rfl) (fun h17 => ?_) (fun h17 => ?_)
 ·
  have q18 := (p16).1 h17
  refine sr ?_
  refine ov 2 (.int .i64 (160)) ?_
  refine WO.nil ?_
  refine WP.ret ⟨rfl, rfl, [.int .i64 (160)], by kernel_rfl, ?_⟩
  refine ⟨⟨160, rfl, ⟨fun h => absurd h (by decide), fun hok => ?_⟩, .inr rfl⟩, le7, hE6⟩
  have h1 := hok.few; have h2 := hok.far; omega
 ·
  have q18 := nq p16 h17
  refine WP.skip ?_
  refine WP.seq ?_
  refine sr ?_
  refine ov 4 (.int .i64 (0)) ?_
  refine WO.nil ?_
  refine WP.block ?_
  have hj20 : ∀ t : Tm, (((t.set 1 (t.get 1)).set 3 (t.get 3)).set 4 (t.get 4)) = t := fun t => by kernel_rfl
  refine WP.loop (fun m s => ∃ (iL19 : Nat), iL19 + m = K.fSegments.l.length ∧ s.to.get 1 = .pointer (some ⟨nx, 0, none⟩) ∧ s.to.get 3 = .int .i64 (.ofNat (K.fSegments.l.length)) ∧ s.to.get 4 = .int .i64 (.ofNat iL19) ∧ s.ds = [] ∧ s.cs = [] ∧ nx + 1 ≤ s.nx ∧ HE (nx + 1) hp2 s.hp ∧ (∀ (j : Nat) (s : RSegment), j < iL19 → K.fSegments.l[j]? = some s → segOk K.fSegments.l j s)) ?_ (K.fSegments.l.length) ?_
  ·
   rintro mL19 ⟨toL19, dsL19, hp21, nx22, csL19⟩ ⟨iL19, him23, gL19_1, gL19_3, gL19_4, hdsL19, hcsL19, hn24, he25, hseg⟩
   simp only at gL19_1 gL19_3 gL19_4 hdsL19 hcsL19 hn24 he25 hseg
   subst hdsL19 hcsL19
   rw [← hj20 toL19, gL19_1, gL19_3, gL19_4]
   clear gL19_1 gL19_3 gL19_4
   have hE26 := hE6.trans he25 le7
   have hb27 := he25.get hb5 (Nat.lt_succ_self (nx))
   have lt28 := Nat.lt_of_lt_of_le (Nat.lt_succ_self (nx)) hn24
   have le29 := Nat.le_trans le7 hn24
   refine WP.seq ?_
   refine sr ?_
   refine ov 24 (.int .i64 (.ofNat iL19)) ?_
   refine ov 25 (.int .i64 (.ofNat (K.fSegments.l.length))) ?_
   obtain ⟨c30, e30, p30⟩ := @nb (ltI (.ofNat iL19) (.ofNat (K.fSegments.l.length))) (((iL19 : Nat) : Int) < ((K.fSegments.l.length : Nat) : Int)) (ltI_iff)
   refine ov 26 (.bool c30) ?_ (fun _ _ _ => by subst e30; kernel_rfl)
   refine WO.nil ?_
   refine WP.cond c30 (by kernel_rfl) (fun h31 => ?_) (fun h31 => ?_)
   ·
    have q32 := (p30).1 h31
    refine WP.skip ?_
    refine WP.seq ?_
    refine WP.block ?_
    refine sr ?_
    refine ov 29 (.pointer (some ⟨nx, 0 + 0, none⟩)) ?_
    refine WO.cons (WC.load1 nx (0 + 0) (.slice a8 (K.fSegments.l.length) c9) (by kernel_rfl) T_agg22 hb27 (by rw [← hv10]; rfl) ?_)
    refine ov 31 (.int .i64 (.ofNat iL19)) ?_
    have hlt33 : iL19 < K.fSegments.l.length := by omega
    refine WO.cons (WC.ix (k := .i64) a8 (K.fSegments.l.length) c9 (iL19) 3 (by kernel_rfl) (by kernel_rfl) T_und22 T_size154 ((hK.fSegments.mono hE26 le29).blkA hv10 (zl hlt33)) (hlt33) ?_)
    obtain ⟨x34, hx35⟩ : ∃ el_, K.fSegments.l[iL19]? = some el_ := ⟨_, List.getElem?_eq_getElem (hlt33)⟩
    refine WO.cons (WC.loadSE (blk a8) (0 + (iL19) * 3) (encSegment x34) (by kernel_rfl) T_agg154 T_size154 ((hK.fSegments.mono hE26 le29).blkB hv10 (zl hlt33)) (flat_at0 (hK.fSegments.mono hE26 le29).1 hx35) ?_)
    refine WO.cons (WC.alloc _ [.int .i64 (0), .int .i64 (0), .int .i64 (0)] rfl T_zero154 rfl ?_)
    obtain ⟨hp37, hx38, he39, hb40⟩ := boxed hp21 (nx22) [.int .i64 (0), .int .i64 (0), .int .i64 (0)]
    rw [hx38]; clear hx38
    have hE41 := hE26.trans he39 le29
    have hb42 := he39.get hb27 lt28
    have lt43 := Nat.lt_of_lt_of_le lt28 (Nat.le_succ (nx22))
    have hr44 := he25.trans he39 hn24
    have rl45 := Nat.le_trans hn24 (Nat.le_succ (nx22))
    have le46 := Nat.le_trans le29 (Nat.le_succ (nx22))
    refine WO.cons (WC.store1 nx22 (0) (.agg (encSegment x34).toArray) [.int .i64 (0), .int .i64 (0), .int .i64 (0)] (encSegment x34) (encSegment x34) 3 rfl (by kernel_rfl) (by kernel_rfl) T_size154 rfl rfl hb40 rfl rfl rfl ?_)
    obtain ⟨hp47, hx48, he49, hb50, ho51⟩ := stored hp37 nx22 (.cells (encSegment x34) CMeta.plain)
    rw [hx48]; clear hx48
    have hE52 := hE41.trans he49 (by omega)
    have hr53 := hr44.trans he49 (by omega)
    have hb54 := (ho51 nx (by omega)).trans hb42
    refine WO.nil ?_
    refine WP.seq ?_
    refine WP.drawS [⟨[0, 1, 2, 3, 4, 5, 6, 7, 8, 9, 10, 11, 12, 13, 14, 15, 16, 17, 18, 19, 20], [0, 1, 2, 3, 4, 5, 6, 7, 8, 9, 10, 11, 12, 13, 14, 15, 16, 17, 18, 19, 20], some 21⟩, ⟨[22, 23, 24, 25, 26, 27, 28, 29, 30, 31, 32, 33, 34], [22, 23, 24, 25, 26, 27, 28, 29, 30, 31, 32, 33, 34], some 35⟩, ⟨[36, 37, 38], [36, 37, 38], none⟩] (by kernel_rfl) _ rfl ?_
    refine WD.eff ?_
    refine nv 34 (.pointer (some ⟨nx22, 0 + 0, none⟩)) ?_
    refine WN.consAt rfl (WC.load1 nx22 (0 + 0) (.int .i64 (x34.fMat)) (by kernel_rfl) T_agg3 hb50 rfl ?_)
    obtain ⟨c55, e55, p55⟩ := @nb (ltI (x34.fMat) (0)) ((x34.fMat) < (0)) (ltI_iff)
    refine nv 36 (.bool c55) ?_ (fun _ _ _ => by subst e55; kernel_rfl)
    refine nv 37 (.bool c55) ?_
    refine ng rfl 37 (!c55) (.pointer (some ⟨nx22, 0 + 0, none⟩)) (.bool c55) (by cases c55 <;> rfl) (fun h => by obtain rfl := bF h; exact fun _ _ _ => by kernel_rfl) ?_
    refine ngc rfl 37 (!c55) (.int .i64 (x34.fMat)) (.bool c55) (by cases c55 <;> rfl) (fun h => by obtain rfl := bF h; exact WC.load1 nx22 (0 + 0) (.int .i64 (x34.fMat)) (by kernel_rfl) T_agg3 hb50 rfl rfl) ?_
    obtain ⟨c56, e56, p56⟩ := @nb (leI (40) (x34.fMat)) ((40) ≤ (x34.fMat)) (leI_iff)
    refine ng rfl 37 (!c55) (.bool c56) (.bool c55) (by cases c55 <;> rfl) (fun h => by obtain rfl := bF h; exact fun _ _ _ => by subst e56; kernel_rfl) ?_
    obtain ⟨c57, e57, p57⟩ := @nb ((c55 || c56)) (((x34.fMat) < (0)) ∨ ((40) ≤ (x34.fMat))) (by rw [Bool.or_eq_true, p55, p56])
    refine WN.consAt rfl (WC.opt (v := .bool c57) 41 (ePick (.bool c55) (.bool true) ((bif !c55 then .bool c56 else undef))) (fun _ _ _ => by kernel_rfl) (by rw [e57]; exact ePick_or (fun h => by obtain rfl : c55 = false := h; rfl)) ?_)
    refine nv 42 (.bool c57) ?_
    refine ng rfl 42 (!c57) (.pointer (some ⟨nx22, 0 + 1, none⟩)) (.bool c57) (by cases c57 <;> rfl) (fun h => by obtain rfl := bF h; exact fun _ _ _ => by kernel_rfl) ?_
    refine ngc rfl 42 (!c57) (.int .i64 (x34.fEpoch)) (.bool c57) (by cases c57 <;> rfl) (fun h => by obtain rfl := bF h; exact WC.load1 nx22 (0 + 1) (.int .i64 (x34.fEpoch)) (by kernel_rfl) T_agg3 hb50 rfl rfl) ?_
    obtain ⟨c58, e58, p58⟩ := @nb (ltI (x34.fEpoch) (0)) ((x34.fEpoch) < (0)) (ltI_iff)
    refine ng rfl 42 (!c57) (.bool c58) (.bool c57) (by cases c57 <;> rfl) (fun h => by obtain rfl := bF h; exact fun _ _ _ => by subst e58; kernel_rfl) ?_
    obtain ⟨c59, e59, p59⟩ := @nb ((c57 || c58)) ((((x34.fMat) < (0)) ∨ ((40) ≤ (x34.fMat))) ∨ ((x34.fEpoch) < (0))) (by rw [Bool.or_eq_true, p57, p58])
    refine WN.consAt rfl (WC.opt (v := .bool c59) 46 (ePick (.bool c57) (.bool true) ((bif !c57 then .bool c58 else undef))) (fun _ _ _ => by kernel_rfl) (by rw [e59]; exact ePick_or (fun h => by obtain rfl : c57 = false := h; rfl)) ?_)
    refine nv 47 (.bool c59) ?_
    refine ng rfl 47 (!c59) (.pointer (some ⟨nx22, 0 + 1, none⟩)) (.bool c59) (by cases c59 <;> rfl) (fun h => by obtain rfl := bF h; exact fun _ _ _ => by kernel_rfl) ?_
    refine ngc rfl 47 (!c59) (.int .i64 (x34.fEpoch)) (.bool c59) (by cases c59 <;> rfl) (fun h => by obtain rfl := bF h; exact WC.load1 nx22 (0 + 1) (.int .i64 (x34.fEpoch)) (by kernel_rfl) T_agg3 hb50 rfl rfl) ?_
    obtain ⟨c60, e60, p60⟩ := @nb (ltI (255) (x34.fEpoch)) ((255) < (x34.fEpoch)) (ltI_iff)
    refine ng rfl 47 (!c59) (.bool c60) (.bool c59) (by cases c59 <;> rfl) (fun h => by obtain rfl := bF h; exact fun _ _ _ => by subst e60; kernel_rfl) ?_
    obtain ⟨c61, e61, p61⟩ := @nb ((c59 || c60)) (((((x34.fMat) < (0)) ∨ ((40) ≤ (x34.fMat))) ∨ ((x34.fEpoch) < (0))) ∨ ((255) < (x34.fEpoch))) (by rw [Bool.or_eq_true, p59, p60])
    refine WN.consAt rfl (WC.opt (v := .bool c61) 51 (ePick (.bool c59) (.bool true) ((bif !c59 then .bool c60 else undef))) (fun _ _ _ => by kernel_rfl) (by rw [e61]; exact ePick_or (fun h => by obtain rfl : c59 = false := h; rfl)) ?_)
    refine nv 52 (.bool c61) ?_
    refine ng rfl 52 (!c61) (.pointer (some ⟨nx22, 0 + 2, none⟩)) (.bool c61) (by cases c61 <;> rfl) (fun h => by obtain rfl := bF h; exact fun _ _ _ => by kernel_rfl) ?_
    refine ngc rfl 52 (!c61) (.int .i64 (x34.fAnchor)) (.bool c61) (by cases c61 <;> rfl) (fun h => by obtain rfl := bF h; exact WC.load1 nx22 (0 + 2) (.int .i64 (x34.fAnchor)) (by kernel_rfl) T_agg3 hb50 rfl rfl) ?_
    refine WN.nil ⟨?_, ?_⟩
    ·
     refine cv (.pointer (some ⟨nx22, 0 + 0, none⟩)) (vEq_ptr ..) ?_
     refine co (.int .i64 (x34.fMat)) (eLoad ex.T hp47.get 3 (.pointer (some ⟨nx22, 0 + 0, none⟩))) (eLoad_one T_agg3 hb50 rfl) (vEq_int ..) ?_
     refine cv (.bool c55) (vEq_bool 8 c55) ?_ (fun _ => by subst e55; kernel_rfl)
     refine cv (.bool c55) (vEq_bool 8 c55) ?_
     refine cg rfl 37 (!c55) (.pointer (some ⟨nx22, 0 + 0, none⟩)) (.bool c55) (by cases c55 <;> rfl) (fun h => by obtain rfl := bF h; exact chkV1 (.pointer (some ⟨nx22, 0 + 0, none⟩)) (fun _ => by kernel_rfl) (vEq_ptr ..)) ?_
     refine cg rfl 37 (!c55) (.int .i64 (x34.fMat)) (.bool c55) (by cases c55 <;> rfl) (fun h => by obtain rfl := bF h; exact chkO1 (.int .i64 (x34.fMat)) (eLoad ex.T hp47.get 3 (.pointer (some ⟨nx22, 0 + 0, none⟩))) (fun _ => by kernel_rfl) (eLoad_one T_agg3 hb50 rfl) (vEq_int ..)) ?_
     refine cg rfl 37 (!c55) (.bool c56) (.bool c55) (by cases c55 <;> rfl) (fun h => by obtain rfl := bF h; exact chkV1 (.bool c56) (fun _ => by subst e56; kernel_rfl) (vEq_bool 8 c56)) ?_
     refine co (.bool c57) (ePick (.bool c55) (.bool true) ((bif !c55 then .bool c56 else undef))) ((by rw [e57]; exact ePick_or (fun h => by obtain rfl : c55 = false := h; rfl))) (vEq_bool 8 c57) ?_
     refine cv (.bool c57) (vEq_bool 8 c57) ?_
     refine cg rfl 42 (!c57) (.pointer (some ⟨nx22, 0 + 1, none⟩)) (.bool c57) (by cases c57 <;> rfl) (fun h => by obtain rfl := bF h; exact chkV1 (.pointer (some ⟨nx22, 0 + 1, none⟩)) (fun _ => by kernel_rfl) (vEq_ptr ..)) ?_
     refine cg rfl 42 (!c57) (.int .i64 (x34.fEpoch)) (.bool c57) (by cases c57 <;> rfl) (fun h => by obtain rfl := bF h; exact chkO1 (.int .i64 (x34.fEpoch)) (eLoad ex.T hp47.get 3 (.pointer (some ⟨nx22, 0 + 1, none⟩))) (fun _ => by kernel_rfl) (eLoad_one T_agg3 hb50 rfl) (vEq_int ..)) ?_
     refine cg rfl 42 (!c57) (.bool c58) (.bool c57) (by cases c57 <;> rfl) (fun h => by obtain rfl := bF h; exact chkV1 (.bool c58) (fun _ => by subst e58; kernel_rfl) (vEq_bool 8 c58)) ?_
     refine co (.bool c59) (ePick (.bool c57) (.bool true) ((bif !c57 then .bool c58 else undef))) ((by rw [e59]; exact ePick_or (fun h => by obtain rfl : c57 = false := h; rfl))) (vEq_bool 8 c59) ?_
     refine cv (.bool c59) (vEq_bool 8 c59) ?_
     refine cg rfl 47 (!c59) (.pointer (some ⟨nx22, 0 + 1, none⟩)) (.bool c59) (by cases c59 <;> rfl) (fun h => by obtain rfl := bF h; exact chkV1 (.pointer (some ⟨nx22, 0 + 1, none⟩)) (fun _ => by kernel_rfl) (vEq_ptr ..)) ?_
     refine cg rfl 47 (!c59) (.int .i64 (x34.fEpoch)) (.bool c59) (by cases c59 <;> rfl) (fun h => by obtain rfl := bF h; exact chkO1 (.int .i64 (x34.fEpoch)) (eLoad ex.T hp47.get 3 (.pointer (some ⟨nx22, 0 + 1, none⟩))) (fun _ => by kernel_rfl) (eLoad_one T_agg3 hb50 rfl) (vEq_int ..)) ?_
     refine cg rfl 47 (!c59) (.bool c60) (.bool c59) (by cases c59 <;> rfl) (fun h => by obtain rfl := bF h; exact chkV1 (.bool c60) (fun _ => by subst e60; kernel_rfl) (vEq_bool 8 c60)) ?_
     refine co (.bool c61) (ePick (.bool c59) (.bool true) ((bif !c59 then .bool c60 else undef))) ((by rw [e61]; exact ePick_or (fun h => by obtain rfl : c59 = false := h; rfl))) (vEq_bool 8 c61) ?_
     refine cv (.bool c61) (vEq_bool 8 c61) ?_
     refine cg rfl 52 (!c61) (.pointer (some ⟨nx22, 0 + 2, none⟩)) (.bool c61) (by cases c61 <;> rfl) (fun h => by obtain rfl := bF h; exact chkV1 (.pointer (some ⟨nx22, 0 + 2, none⟩)) (fun _ => by kernel_rfl) (vEq_ptr ..)) ?_
     refine cg rfl 52 (!c61) (.int .i64 (x34.fAnchor)) (.bool c61) (by cases c61 <;> rfl) (fun h => by obtain rfl := bF h; exact chkO1 (.int .i64 (x34.fAnchor)) (eLoad ex.T hp47.get 3 (.pointer (some ⟨nx22, 0 + 2, none⟩))) (fun _ => by kernel_rfl) (eLoad_one T_agg3 hb50 rfl) (vEq_int ..)) ?_
     exact Chks.nil
    refine WC.at rfl (WC.gq (!c61) (GB (!c61) (-1099511627776 ≤ x34.fAnchor ∧ x34.fAnchor ≤ 1099511627776) (nx22 + 1) hp47) (.bool c61) (g := opd (.tmp 52)) rfl (by kernel_rfl) (by cases c61 <;> rfl) (fun h => by obtain rfl : c61 = false := (by simpa using h); have q0 : ¬ (((((x34.fMat) < (0)) ∨ ((40) ≤ (x34.fMat))) ∨ ((x34.fEpoch) < (0))) ∨ ((255) < (x34.fEpoch))) := (fun k => absurd ((p61).2 k) (by decide)); exact WC.call 55 62 ([.int .i64 (x34.fAnchor)]) (fun _ _ _ => by kernel_rfl) ((time16_wf (x34.fAnchor) hp47 (nx22 + 1)).mono fun v hp' nx' ⟨⟨c, hv, hc⟩, hn, he⟩ => ⟨_, _, _, rfl, ⟨c, hv, hc⟩, hn, he⟩)) (fun h => GB.off h) ?_)
    rintro _ hp62 nx63 ⟨⟨c66, rfl, p66⟩, hn64, he65⟩
    have hE67 := hE52.trans he65 le46
    have hb68 := he65.get hb54 lt43
    have hb70 := he65.get hb50 (Nat.lt_succ_self (nx22))
    have hr72 := hr53.trans he65 rl45
    have rl73 := Nat.le_trans rl45 hn64
    have le74 := Nat.le_trans le46 hn64
    refine WD.eff ?_
    obtain ⟨c75, e75, p75⟩ := @nb (!c66) (¬ (-1099511627776 ≤ x34.fAnchor ∧ x34.fAnchor ≤ 1099511627776)) (by rw [Bool.not_eq_true', ← Bool.not_eq_true, p66])
    refine ng rfl 52 (!c61) (.bool c75) (.bool c61) (by cases c61 <;> rfl) (fun h => by obtain rfl := bF h; exact fun _ _ _ => by subst e75; kernel_rfl) ?_
    obtain ⟨c76, e76, p76⟩ := @nb ((c61 || c75)) ((((((x34.fMat) < (0)) ∨ ((40) ≤ (x34.fMat))) ∨ ((x34.fEpoch) < (0))) ∨ ((255) < (x34.fEpoch))) ∨ (¬ (-1099511627776 ≤ x34.fAnchor ∧ x34.fAnchor ≤ 1099511627776))) (by rw [Bool.or_eq_true, p61, p75])
    refine WN.consAt rfl (WC.opt (v := .bool c76) 57 (ePick (.bool c61) (.bool true) ((bif !c61 then .bool c75 else undef))) (fun _ _ _ => by kernel_rfl) (by rw [e76]; exact ePick_or (fun h => by obtain rfl : c61 = false := h; rfl)) ?_)
    refine nv 58 (.bool c76) ?_
    refine ng rfl 58 (!c76) (.int .i64 (.ofNat iL19)) (.bool c76) (by cases c76 <;> rfl) (fun h => by obtain rfl := bF h; exact fun _ _ _ => by kernel_rfl) ?_
    obtain ⟨c77, e77, p77⟩ := @nb (ltI (0) (.ofNat iL19)) ((0) < ((iL19 : Nat) : Int)) (ltI_iff)
    refine ng rfl 58 (!c76) (.bool c77) (.bool c76) (by cases c76 <;> rfl) (fun h => by obtain rfl := bF h; exact fun _ _ _ => by subst e77; kernel_rfl) ?_
    refine ng rfl 58 (!c76) (.bool c77) (.bool c76) (by cases c76 <;> rfl) (fun h => by obtain rfl := bF h; exact fun _ _ _ => by kernel_rfl) ?_
    refine ng rfl 61 (!c76 && c77) (.pointer (some ⟨nx, 0 + 0, none⟩)) ((bif !c76 then .bool c77 else undef)) (by cases c76 <;> cases c77 <;> rfl) (fun h => by obtain ⟨rfl, rfl⟩ := bFT h; exact fun _ _ _ => by kernel_rfl) ?_
    refine ngc rfl 61 (!c76 && c77) (.slice a8 (K.fSegments.l.length) c9) ((bif !c76 then .bool c77 else undef)) (by cases c76 <;> cases c77 <;> rfl) (fun h => by obtain ⟨rfl, rfl⟩ := bFT h; exact WC.load1 nx (0 + 0) (.slice a8 (K.fSegments.l.length) c9) (by kernel_rfl) T_agg22 hb68 (by rw [← hv10]; rfl) rfl) ?_
    refine ng rfl 61 (!c76 && c77) (.int .i64 (.ofNat iL19)) ((bif !c76 then .bool c77 else undef)) (by cases c76 <;> cases c77 <;> rfl) (fun h => by obtain ⟨rfl, rfl⟩ := bFT h; exact fun _ _ _ => by kernel_rfl) ?_
    refine ng rfl 61 (!c76 && c77) (.int .i64 (.ofNat (iL19 - 1))) ((bif !c76 then .bool c77 else undef)) (by cases c76 <;> cases c77 <;> rfl) (fun h => by obtain ⟨rfl, rfl⟩ := bFT h; have q0 := nf p76; have q1 := (p77).1 rfl; exact fun _ _ _ => by rw [← wrapSub (show iL19 < 9223372036854775808 by omega) (by omega)]; kernel_rfl) ?_
    have hlt78 : (!c76 && c77) = true → iL19 - 1 < K.fSegments.l.length := fun h => by obtain ⟨rfl, rfl⟩ : c76 = false ∧ c77 = true := (by simpa [and_assoc] using h); have q0 : ¬ ((((((x34.fMat) < (0)) ∨ ((40) ≤ (x34.fMat))) ∨ ((x34.fEpoch) < (0))) ∨ ((255) < (x34.fEpoch))) ∨ (¬ (-1099511627776 ≤ x34.fAnchor ∧ x34.fAnchor ≤ 1099511627776))) := (fun k => absurd ((p76).2 k) (by decide)); have q1 := (p77).1 rfl; omega
    refine ngc rfl 61 (!c76 && c77) (.pointer (some ⟨(blk a8), 0 + (iL19 - 1) * 3, none⟩)) ((bif !c76 then .bool c77 else undef)) (by cases c76 <;> cases c77 <;> rfl) (fun h => by obtain ⟨rfl, rfl⟩ := bFT h; exact WC.ix (k := .i64) a8 (K.fSegments.l.length) c9 (iL19 - 1) 3 (by kernel_rfl) (by kernel_rfl) T_und22 T_size154 ((hK.fSegments.mono hE67 le74).blkA hv10 (zl ((hlt78 rfl)))) ((hlt78 rfl)) rfl) ?_
    obtain ⟨x79, hx80⟩ : ∃ el_, (!c76 && c77) = true → K.fSegments.l[iL19 - 1]? = some el_ := ⟨(K.fSegments.l[iL19 - 1]?).getD default, fun h => by rw [List.getElem?_eq_getElem (by obtain ⟨rfl, rfl⟩ : c76 = false ∧ c77 = true := (by simpa [and_assoc] using h); exact (hlt78 rfl))]; rfl⟩
    have hx80p := fun (a0 : ¬ ((((((x34.fMat) < (0)) ∨ ((40) ≤ (x34.fMat))) ∨ ((x34.fEpoch) < (0))) ∨ ((255) < (x34.fEpoch))) ∨ (¬ (-1099511627776 ≤ x34.fAnchor ∧ x34.fAnchor ≤ 1099511627776)))) (a1 : ((0) < ((iL19 : Nat) : Int))) => hx80 (by first | (rw [show c76 = false from Bool.eq_false_iff.2 (fun k => a0 ((p76).1 k)), show c77 = true from (p77).2 a1]; rfl) | rw [show c76 = false from Bool.eq_false_iff.2 (fun k => a0 ((p76).1 k)), show c77 = true from (p77).2 a1])
    refine ngc rfl 61 (!c76 && c77) (.agg (encSegment x79).toArray) ((bif !c76 then .bool c77 else undef)) (by cases c76 <;> cases c77 <;> rfl) (fun h => by obtain ⟨rfl, rfl⟩ := bFT h; exact WC.loadSE (blk a8) (0 + (iL19 - 1) * 3) (encSegment x79) (by kernel_rfl) T_agg154 T_size154 ((hK.fSegments.mono hE67 le74).blkB hv10 (zl ((hlt78 rfl)))) (flat_at0 (hK.fSegments.mono hE67 le74).1 (hx80 rfl)) rfl) ?_
    refine ngc rfl 61 (!c76 && c77) (.agg (encSegment x34).toArray) ((bif !c76 then .bool c77 else undef)) (by cases c76 <;> cases c77 <;> rfl) (fun h => by obtain ⟨rfl, rfl⟩ := bFT h; exact WC.loadS nx22 (0) (encSegment x34) (by kernel_rfl) T_agg154 T_size154 hb70 rfl rfl) ?_
    refine WN.nil ⟨?_, ?_⟩
    ·
     refine cg rfl 52 (!c61) (.bool c75) (.bool c61) (by cases c61 <;> rfl) (fun h => by obtain rfl := bF h; exact chkV1 (.bool c75) (fun _ => by subst e75; kernel_rfl) (vEq_bool 8 c75)) ?_
     refine co (.bool c76) (ePick (.bool c61) (.bool true) ((bif !c61 then .bool c75 else undef))) ((by rw [e76]; exact ePick_or (fun h => by obtain rfl : c61 = false := h; rfl))) (vEq_bool 8 c76) ?_
     refine cv (.bool c76) (vEq_bool 8 c76) ?_
     refine cg rfl 58 (!c76) (.int .i64 (.ofNat iL19)) (.bool c76) (by cases c76 <;> rfl) (fun h => by obtain rfl := bF h; exact chkV1 (.int .i64 (.ofNat iL19)) (fun _ => by kernel_rfl) (vEq_int ..)) ?_
     refine cg rfl 58 (!c76) (.bool c77) (.bool c76) (by cases c76 <;> rfl) (fun h => by obtain rfl := bF h; exact chkV1 (.bool c77) (fun _ => by subst e77; kernel_rfl) (vEq_bool 8 c77)) ?_
     refine cg rfl 58 (!c76) (.bool c77) (.bool c76) (by cases c76 <;> rfl) (fun h => by obtain rfl := bF h; exact chkV1 (.bool c77) (fun _ => by kernel_rfl) (vEq_bool 8 c77)) ?_
     refine cg rfl 61 (!c76 && c77) (.pointer (some ⟨nx, 0 + 0, none⟩)) ((bif !c76 then .bool c77 else undef)) (by cases c76 <;> cases c77 <;> rfl) (fun h => by obtain ⟨rfl, rfl⟩ := bFT h; exact chkV1 (.pointer (some ⟨nx, 0 + 0, none⟩)) (fun _ => by kernel_rfl) (vEq_ptr ..)) ?_
     refine cg rfl 61 (!c76 && c77) (.slice a8 (K.fSegments.l.length) c9) ((bif !c76 then .bool c77 else undef)) (by cases c76 <;> cases c77 <;> rfl) (fun h => by obtain ⟨rfl, rfl⟩ := bFT h; exact chkO1 (.slice a8 (K.fSegments.l.length) c9) (eLoad ex.T hp62.get 22 (.pointer (some ⟨nx, 0 + 0, none⟩))) (fun _ => by kernel_rfl) (eLoad_one T_agg22 hb68 (by rw [← hv10]; rfl)) (hv10 ▸ hK.fSegments.eqSelf 8)) ?_
     refine cg rfl 61 (!c76 && c77) (.int .i64 (.ofNat iL19)) ((bif !c76 then .bool c77 else undef)) (by cases c76 <;> cases c77 <;> rfl) (fun h => by obtain ⟨rfl, rfl⟩ := bFT h; exact chkV1 (.int .i64 (.ofNat iL19)) (fun _ => by kernel_rfl) (vEq_int ..)) ?_
     refine cg rfl 61 (!c76 && c77) (.int .i64 (.ofNat (iL19 - 1))) ((bif !c76 then .bool c77 else undef)) (by cases c76 <;> cases c77 <;> rfl) (fun h => by obtain ⟨rfl, rfl⟩ := bFT h; have q0 := nf p76; have q1 := (p77).1 rfl; exact chkV1 (.int .i64 (.ofNat (iL19 - 1))) (fun _ => by rw [← wrapSub (show iL19 < 9223372036854775808 by omega) (by omega)]; kernel_rfl) (vEq_int ..)) ?_
     refine cg rfl 61 (!c76 && c77) (.pointer (some ⟨(blk a8), 0 + (iL19 - 1) * 3, none⟩)) ((bif !c76 then .bool c77 else undef)) (by cases c76 <;> cases c77 <;> rfl) (fun h => by obtain ⟨rfl, rfl⟩ := bFT h; exact chkO1 (.pointer (some ⟨(blk a8), 0 + (iL19 - 1) * 3, none⟩)) (eIndexAddr ex.T 22 (.slice a8 (K.fSegments.l.length) c9) (.int .i64 (.ofNat (iL19 - 1)))) (fun _ => by kernel_rfl) (eIndexAddr_A (k := .i64) T_und22 T_size154 ((hK.fSegments.mono hE67 le74).blkA hv10 (zl ((hlt78 rfl)))) ((hlt78 rfl))) (vEq_ptr ..)) ?_
     refine cg rfl 61 (!c76 && c77) (.agg (encSegment x79).toArray) ((bif !c76 then .bool c77 else undef)) (by cases c76 <;> cases c77 <;> rfl) (fun h => by obtain ⟨rfl, rfl⟩ := bFT h; exact chkO1 (.agg (encSegment x79).toArray) (eLoad ex.T hp62.get 154 (.pointer (some ⟨(blk a8), 0 + (iL19 - 1) * 3, none⟩))) (fun _ => by kernel_rfl) (eLoad_aggE T_agg154 T_size154 ((hK.fSegments.mono hE67 le74).blkB hv10 (zl ((hlt78 rfl)))) (flat_at0 (hK.fSegments.mono hE67 le74).1 (hx80 rfl))) (encSegment_vEq x79)) ?_
     refine cg rfl 61 (!c76 && c77) (.agg (encSegment x34).toArray) ((bif !c76 then .bool c77 else undef)) (by cases c76 <;> cases c77 <;> rfl) (fun h => by obtain ⟨rfl, rfl⟩ := bFT h; exact chkO1 (.agg (encSegment x34).toArray) (eLoad ex.T hp62.get 154 (.pointer (some ⟨nx22, 0, none⟩))) (fun _ => by kernel_rfl) (eLoad_agg T_agg154 T_size154 hb70 rfl) (encSegment_vEq x34)) ?_
     exact Chks.nil
    refine WC.at rfl (WC.gq (!c76 && c77) (GB (!c76 && c77) (segLt x79 x34) (nx63) hp62) ((bif !c76 then .bool c77 else undef)) (g := opd (.tmp 61)) rfl (by kernel_rfl) (by cases c76 <;> cases c77 <;> rfl) (fun h => by obtain ⟨rfl, rfl⟩ : c76 = false ∧ c77 = true := (by simpa [and_assoc] using h); have q0 : ¬ ((((((x34.fMat) < (0)) ∨ ((40) ≤ (x34.fMat))) ∨ ((x34.fEpoch) < (0))) ∨ ((255) < (x34.fEpoch))) ∨ (¬ (-1099511627776 ≤ x34.fAnchor ∧ x34.fAnchor ≤ 1099511627776))) := (fun k => absurd ((p76).2 k) (by decide)); have q1 := (p77).1 rfl; exact WC.call 69 63 ([.agg (encSegment x79).toArray, .agg (encSegment x34).toArray]) (fun _ _ _ => by kernel_rfl) ((less16_wf x79 x34 hp62 (nx63)).mono fun v hp' nx' ⟨⟨c, hv, hc⟩, hn, he⟩ => ⟨_, _, _, rfl, ⟨c, hv, hc⟩, hn, he⟩)) (fun h => GB.off h) ?_)
    rintro _ hp81 nx82 ⟨⟨c85, rfl, p85⟩, hn83, he84⟩
    have hE86 := hE67.trans he84 le74
    have hr91 := hr72.trans he84 rl73
    have rl92 := Nat.le_trans rl73 hn83
    have le93 := Nat.le_trans le74 hn83
    refine WD.last ?_
    obtain ⟨c94, e94, p94⟩ := @nb (!c85) (¬ (segLt x79 x34)) (by rw [Bool.not_eq_true', ← Bool.not_eq_true, p85])
    refine ng rfl 61 (!c76 && c77) (.bool c94) ((bif !c76 then .bool c77 else undef)) (by cases c76 <;> cases c77 <;> rfl) (fun h => by obtain ⟨rfl, rfl⟩ := bFT h; exact fun _ _ _ => by subst e94; kernel_rfl) ?_
    obtain ⟨c95, e95, p95⟩ := @nb ((c77 && c94)) (((0) < ((iL19 : Nat) : Int)) ∧ (¬ (segLt x79 x34))) (by rw [Bool.and_eq_true, p77, p94])
    refine ngc rfl 58 (!c76) (.bool c95) (.bool c76) (by cases c76 <;> rfl) (fun h => by obtain rfl := bF h; exact WC.opt (v := .bool c95) 71 (ePick (.bool c77) ((bif !false && c77 then .bool c94 else undef)) (.bool false)) (fun _ _ _ => by kernel_rfl) (by rw [e95]; exact ePick_and (fun h => by obtain rfl : c77 = true := h; rfl)) rfl) ?_
    obtain ⟨c96, e96, p96⟩ := @nb ((c76 || c95)) (((((((x34.fMat) < (0)) ∨ ((40) ≤ (x34.fMat))) ∨ ((x34.fEpoch) < (0))) ∨ ((255) < (x34.fEpoch))) ∨ (¬ (-1099511627776 ≤ x34.fAnchor ∧ x34.fAnchor ≤ 1099511627776))) ∨ (((0) < ((iL19 : Nat) : Int)) ∧ (¬ (segLt x79 x34)))) (by rw [Bool.or_eq_true, p76, p95])
    refine WN.consAt rfl (WC.opt (v := .bool c96) 72 (ePick (.bool c76) (.bool true) ((bif !c76 then .bool c95 else undef))) (fun _ _ _ => by kernel_rfl) (by rw [e96]; exact ePick_or (fun h => by obtain rfl : c76 = false := h; rfl)) ?_)
    refine WN.nil ⟨?_, ?_⟩
    ·
     refine cg rfl 61 (!c76 && c77) (.bool c94) ((bif !c76 then .bool c77 else undef)) (by cases c76 <;> cases c77 <;> rfl) (fun h => by obtain ⟨rfl, rfl⟩ := bFT h; exact chkV1 (.bool c94) (fun _ => by subst e94; kernel_rfl) (vEq_bool 8 c94)) ?_
     refine cg rfl 58 (!c76) (.bool c95) (.bool c76) (by cases c76 <;> rfl) (fun h => by obtain rfl := bF h; exact chkO1 (.bool c95) (ePick (.bool c77) ((bif !false && c77 then .bool c94 else undef)) (.bool false)) (fun _ => by kernel_rfl) ((by rw [e95]; exact ePick_and (fun h => by obtain rfl : c77 = true := h; rfl))) (vEq_bool 8 c95)) ?_
     refine co (.bool c96) (ePick (.bool c76) (.bool true) ((bif !c76 then .bool c95 else undef))) ((by rw [e96]; exact ePick_or (fun h => by obtain rfl : c76 = false := h; rfl))) (vEq_bool 8 c96) ?_
     exact Chks.nil
    refine WP.cond c96 (by kernel_rfl) (fun h97 => ?_) (fun h97 => ?_)
    ·
     have q98 := (p96).1 h97
     refine sr ?_
     refine ov 2 (.int .i64 (160)) ?_
     refine WO.nil ?_
     refine WP.ret ⟨rfl, rfl, [.int .i64 (160)], by kernel_rfl, ?_⟩
     refine ⟨⟨160, rfl, ⟨fun h => absurd h (by decide), fun hok => ?_⟩, .inr rfl⟩, le93, hE86⟩
     obtain ⟨h1, h2, h3, h4, h5, h6⟩ := hok.seg _ _ hx35
     rcases q98 with hq | ⟨hq1, hq2⟩
     · omega
     · exact absurd (h6 (by omega) _ (hx80p (by omega) hq1)) hq2
    ·
     have q98 := nq p96 h97
     refine WP.skip ?_
     refine WP.region ?_
     refine ov 27 (.int .i64 (.ofNat iL19)) ?_
     refine ov 28 (.int .i64 (.ofNat (iL19 + 1))) ?_ (fun _ _ _ => by rw [← wrapAdd (show iL19 + 1 < 9223372036854775808 by omega)]; kernel_rfl)
     refine ov 4 (.int .i64 (.ofNat (iL19 + 1))) ?_
     refine WO.nil ?_
     refine ⟨K.fSegments.l.length - (iL19 + 1), by omega, iL19 + 1, by omega, by kernel_rfl, by kernel_rfl, by kernel_rfl, rfl, rfl, ?_, ?_, ?_⟩
     · exact rl92
     · exact hr91
     · intro j s hj hs
       rcases Nat.lt_succ_iff_lt_or_eq.1 hj with hj | rfl
       · exact hseg j s hj hs
       · rw [hx35] at hs; cases hs
         refine ⟨by omega, by omega, by omega, by omega, by omega, fun h0 p' hp' => ?_⟩
         have hpp := hx80p (by omega) (by omega)
         rw [hpp] at hp'; cases hp'
         exact Classical.not_not.1 fun k => q98 (.inr ⟨by omega, k⟩)
   ·
    have q32 := nq p30 h31
    refine WP.exit ?_
    refine WP.seq ?_
    refine sr ?_
    refine ov 6 (.int .i64 (0)) ?_
    refine WO.nil ?_
    refine WP.block ?_
    have hj100 : ∀ t : Tm, (((t.set 1 (t.get 1)).set 3 (t.get 3)).set 6 (t.get 6)) = t := fun t => by kernel_rfl
    refine WP.loop (fun m s => ∃ (iL99 : Nat), iL99 + m = (K.fSegments.l.length + 1) ∧ s.to.get 1 = .pointer (some ⟨nx, 0, none⟩) ∧ s.to.get 3 = .int .i64 (.ofNat (K.fSegments.l.length)) ∧ s.to.get 6 = .int .i64 (.ofNat iL99) ∧ s.ds = [] ∧ s.cs = [] ∧ nx22 ≤ s.nx ∧ HE (nx22) hp21 s.hp ∧ (∀ (j : Nat) (r : SV Int), j < iL99 → K.fFar.l[j]? = some r → farOk K.fSegments.l.length j r)) ?_ ((K.fSegments.l.length + 1)) ?_
    ·
     rintro mL99 ⟨toL99, dsL99, hp101, nx102, csL99⟩ ⟨iL99, him103, gL99_1, gL99_3, gL99_6, hdsL99, hcsL99, hn104, he105, hfar⟩
     simp only at gL99_1 gL99_3 gL99_6 hdsL99 hcsL99 hn104 he105 hfar
     subst hdsL99 hcsL99
     rw [← hj100 toL99, gL99_1, gL99_3, gL99_6]
     clear gL99_1 gL99_3 gL99_6
     have hE106 := hE26.trans he105 le29
     have hb107 := he105.get hb27 lt28
     have lt108 := Nat.lt_of_lt_of_le lt28 hn104
     have le109 := Nat.le_trans le29 hn104
     refine WP.seq ?_
     refine sr ?_
     refine ov 73 (.int .i64 (.ofNat iL99)) ?_
     refine ov 74 (.int .i64 (.ofNat (K.fSegments.l.length))) ?_
     obtain ⟨c110, e110, p110⟩ := @nb (leI (.ofNat iL99) (.ofNat (K.fSegments.l.length))) (((iL99 : Nat) : Int) ≤ ((K.fSegments.l.length : Nat) : Int)) (leI_iff)
     refine ov 75 (.bool c110) ?_ (fun _ _ _ => by subst e110; kernel_rfl)
     refine WO.nil ?_
     refine WP.cond c110 (by kernel_rfl) (fun h111 => ?_) (fun h111 => ?_)
     ·
      have q112 := (p110).1 h111
      refine WP.skip ?_
      refine WP.seq ?_
      refine WP.block ?_
      refine WP.seq ?_
      refine sr ?_
      refine ov 78 (.pointer (some ⟨nx, 0 + 1, none⟩)) ?_
      refine WO.cons (WC.load1 nx (0 + 1) (.slice a12 (K.fFar.l.length) c13) (by kernel_rfl) T_agg23 hb107 (by rw [← hv14]; rfl) ?_)
      refine ov 80 (.int .i64 (.ofNat iL99)) ?_
      have hlt113 : iL99 < K.fFar.l.length := by omega
      refine WO.cons (WC.ix (k := .i64) a12 (K.fFar.l.length) c13 (iL99) 1 (by kernel_rfl) (by kernel_rfl) T_und23 T_size30 ((hK.fFar.1.mono hE106 le109).blkA hv14 (zl hlt113)) (hlt113) ?_)
      obtain ⟨x114, hx115⟩ : ∃ el_, K.fFar.l[iL99]? = some el_ := ⟨_, List.getElem?_eq_getElem (hlt113)⟩
      obtain ⟨a116, c117, hv118⟩ := (hK.fFar.2 x114 (List.mem_of_getElem? hx115)).shape
      have hsm118 := (hK.fFar.2 x114 (List.mem_of_getElem? hx115)).2.2
      refine WO.cons (WC.load1E (blk a12) (0 + (iL99) * 1) (.slice a116 (x114.l.length) c117) (by kernel_rfl) T_agg30 ((hK.fFar.1.mono hE106 le109).blkB hv14 (zl hlt113)) (flat_at1 (hK.fFar.1.mono hE106 le109).1 hx115 (by rw [← hv118]; rfl)) ?_)
      refine ov 83 (.int .i64 (.ofNat (x114.l.length))) ?_
      refine ov 84 (.int .i64 (.ofNat (K.fSegments.l.length))) ?_
      refine ov 85 (.int .i64 (.ofNat (K.fSegments.l.length + 1))) ?_ (fun _ _ _ => by rw [← wrapAdd (show K.fSegments.l.length + 1 < 9223372036854775808 by omega)]; kernel_rfl)
      obtain ⟨c119, e119, p119⟩ := @nb ((!(eqI (.ofNat (x114.l.length)) (.ofNat (K.fSegments.l.length + 1))))) (((x114.l.length : Nat) : Int) ≠ ((K.fSegments.l.length + 1 : Nat) : Int)) (neI_iff)
      refine ov 86 (.bool c119) ?_ (fun _ _ _ => by subst e119; kernel_rfl)
      refine ov 87 (.bool c119) ?_
      refine og 87 (!c119) (.pointer (some ⟨nx, 0 + 1, none⟩)) (.bool c119) (by cases c119 <;> rfl) (fun h => by obtain rfl := bF h; exact fun _ _ _ => by kernel_rfl) ?_
      refine ogc 87 (!c119) (.slice a12 (K.fFar.l.length) c13) (.bool c119) (by cases c119 <;> rfl) (fun h => by obtain rfl := bF h; exact WC.load1 nx (0 + 1) (.slice a12 (K.fFar.l.length) c13) (by kernel_rfl) T_agg23 hb107 (by rw [← hv14]; rfl) rfl) ?_
      refine og 87 (!c119) (.int .i64 (.ofNat iL99)) (.bool c119) (by cases c119 <;> rfl) (fun h => by obtain rfl := bF h; exact fun _ _ _ => by kernel_rfl) ?_
      have hlt120 : (!c119) = true → iL99 < K.fFar.l.length := fun h => by obtain rfl : c119 = false := (by simpa using h); have q0 : ¬ (((x114.l.length : Nat) : Int) ≠ ((K.fSegments.l.length + 1 : Nat) : Int)) := (fun k => absurd ((p119).2 k) (by decide)); omega
      refine ogc 87 (!c119) (.pointer (some ⟨(blk a12), 0 + (iL99) * 1, none⟩)) (.bool c119) (by cases c119 <;> rfl) (fun h => by obtain rfl := bF h; exact WC.ix (k := .i64) a12 (K.fFar.l.length) c13 (iL99) 1 (by kernel_rfl) (by kernel_rfl) T_und23 T_size30 ((hK.fFar.1.mono hE106 le109).blkA hv14 (zl ((hlt120 rfl)))) ((hlt120 rfl)) rfl) ?_
      refine ogc 87 (!c119) (.slice a116 (x114.l.length) c117) (.bool c119) (by cases c119 <;> rfl) (fun h => by obtain rfl := bF h; exact WC.load1E (blk a12) (0 + (iL99) * 1) (.slice a116 (x114.l.length) c117) (by kernel_rfl) T_agg30 ((hK.fFar.1.mono hE106 le109).blkB hv14 (zl ((hlt120 rfl)))) (flat_at1 (hK.fFar.1.mono hE106 le109).1 hx115 (by rw [← hv118]; rfl)) rfl) ?_
      refine og 87 (!c119) (.int .i64 (.ofNat iL99)) (.bool c119) (by cases c119 <;> rfl) (fun h => by obtain rfl := bF h; exact fun _ _ _ => by kernel_rfl) ?_
      have hlt121 : (!c119) = true → iL99 < x114.l.length := fun h => by obtain rfl : c119 = false := (by simpa using h); have q0 : ¬ (((x114.l.length : Nat) : Int) ≠ ((K.fSegments.l.length + 1 : Nat) : Int)) := (fun k => absurd ((p119).2 k) (by decide)); omega
      refine ogc 87 (!c119) (.pointer (some ⟨(blk a116), 0 + (iL99) * 1, none⟩)) (.bool c119) (by cases c119 <;> rfl) (fun h => by obtain rfl := bF h; exact WC.ix (k := .i64) a116 (x114.l.length) c117 (iL99) 1 (by kernel_rfl) (by kernel_rfl) T_und30 T_size3 (((hK.fFar.2 x114 (List.mem_of_getElem? hx115)).mono hE106 le109).blkA hv118 (zl ((hlt121 rfl)))) ((hlt121 rfl)) rfl) ?_
      obtain ⟨x122, hx123⟩ : ∃ el_, (!c119) = true → x114.l[iL99]? = some el_ := ⟨(x114.l[iL99]?).getD default, fun h => by rw [List.getElem?_eq_getElem (by obtain rfl : c119 = false := (by simpa using h); exact (hlt121 rfl))]; rfl⟩
      have hx123p := fun (a0 : ¬ (((x114.l.length : Nat) : Int) ≠ ((K.fSegments.l.length + 1 : Nat) : Int))) => hx123 (by first | (rw [show c119 = false from Bool.eq_false_iff.2 (fun k => a0 ((p119).1 k))]; rfl) | rw [show c119 = false from Bool.eq_false_iff.2 (fun k => a0 ((p119).1 k))])
      refine ogc 87 (!c119) (.int .i64 (x122)) (.bool c119) (by cases c119 <;> rfl) (fun h => by obtain rfl := bF h; exact WC.load1E (blk a116) (0 + (iL99) * 1) (.int .i64 (x122)) (by kernel_rfl) T_agg3 (((hK.fFar.2 x114 (List.mem_of_getElem? hx115)).mono hE106 le109).blkB hv118 (zl ((hlt121 rfl)))) (flat_at1 ((hK.fFar.2 x114 (List.mem_of_getElem? hx115)).mono hE106 le109).1 (hx123 rfl) rfl) rfl) ?_
      obtain ⟨c124, e124, p124⟩ := @nb ((!(eqI (x122) (0)))) ((x122) ≠ (0)) (neI_iff)
      refine og 87 (!c119) (.bool c124) (.bool c119) (by cases c119 <;> rfl) (fun h => by obtain rfl := bF h; exact fun _ _ _ => by subst e124; kernel_rfl) ?_
      obtain ⟨c125, e125, p125⟩ := @nb ((c119 || c124)) ((((x114.l.length : Nat) : Int) ≠ ((K.fSegments.l.length + 1 : Nat) : Int)) ∨ ((x122) ≠ (0))) (by rw [Bool.or_eq_true, p119, p124])
      refine WO.cons (WC.opt (v := .bool c125) 97 (ePick (.bool c119) (.bool true) ((bif !c119 then .bool c124 else undef))) (fun _ _ _ => by kernel_rfl) (by rw [e125]; exact ePick_or (fun h => by obtain rfl : c119 = false := h; rfl)) ?_)
      refine WO.nil ?_
      refine WP.cond c125 (by kernel_rfl) (fun h126 => ?_) (fun h126 => ?_)
      ·
       have q127 := (p125).1 h126
       refine sr ?_
       refine ov 2 (.int .i64 (160)) ?_
       refine WO.nil ?_
       refine WP.ret ⟨rfl, rfl, [.int .i64 (160)], by kernel_rfl, ?_⟩
       refine ⟨⟨160, rfl, ⟨fun h => absurd h (by decide), fun hok => ?_⟩, .inr rfl⟩, le109, hE106⟩
       obtain ⟨h1, h2, h3⟩ := hok.row _ _ hx115
       rcases q127 with hq | hq
       · omega
       · have hw := hx123p (by omega)
         rw [h2] at hw; cases hw; exact absurd rfl hq
      ·
       have q127 := nq p125 h126
       refine WP.skip ?_
       refine sr ?_
       refine ov 7 (.int .i64 (0)) ?_
       refine WO.nil ?_
       refine WP.block ?_
       have hj129 : ∀ t : Tm, ((((t.set 1 (t.get 1)).set 3 (t.get 3)).set 6 (t.get 6)).set 7 (t.get 7)) = t := fun t => by kernel_rfl
       refine WP.loop (fun m s => ∃ (iL128 : Nat), iL128 + m = (K.fSegments.l.length + 1) ∧ s.to.get 1 = .pointer (some ⟨nx, 0, none⟩) ∧ s.to.get 3 = .int .i64 (.ofNat (K.fSegments.l.length)) ∧ s.to.get 6 = .int .i64 (.ofNat iL99) ∧ s.to.get 7 = .int .i64 (.ofNat iL128) ∧ s.ds = [] ∧ s.cs = [] ∧ nx102 ≤ s.nx ∧ HE (nx102) hp101 s.hp ∧ (∀ (j : Nat) (w : Int), j < iL128 → x114.l[j]? = some w → ¬ (w < -2199023255552 ∨ 2199023255552 < w))) ?_ ((K.fSegments.l.length + 1)) ?_
       ·
        rintro mL128 ⟨toL128, dsL128, hp130, nx131, csL128⟩ ⟨iL128, him132, gL128_1, gL128_3, gL128_6, gL128_7, hdsL128, hcsL128, hn133, he134, hww⟩
        simp only at gL128_1 gL128_3 gL128_6 gL128_7 hdsL128 hcsL128 hn133 he134
        subst hdsL128 hcsL128
        rw [← hj129 toL128, gL128_1, gL128_3, gL128_6, gL128_7]
        clear gL128_1 gL128_3 gL128_6 gL128_7
        have hE135 := hE106.trans he134 le109
        have hb136 := he134.get hb107 lt108
        have hr138 := he105.trans he134 hn104
        have rl139 := Nat.le_trans hn104 hn133
        have le140 := Nat.le_trans le109 hn133
        refine WP.seq ?_
        refine sr ?_
        refine ov 98 (.int .i64 (.ofNat iL128)) ?_
        refine ov 99 (.int .i64 (.ofNat (K.fSegments.l.length))) ?_
        obtain ⟨c141, e141, p141⟩ := @nb (leI (.ofNat iL128) (.ofNat (K.fSegments.l.length))) (((iL128 : Nat) : Int) ≤ ((K.fSegments.l.length : Nat) : Int)) (leI_iff)
        refine ov 100 (.bool c141) ?_ (fun _ _ _ => by subst e141; kernel_rfl)
        refine WO.nil ?_
        refine WP.cond c141 (by kernel_rfl) (fun h142 => ?_) (fun h142 => ?_)
        ·
         have q143 := (p141).1 h142
         refine WP.skip ?_
         refine WP.seq ?_
         refine WP.block ?_
         refine sr ?_
         refine ov 103 (.pointer (some ⟨nx, 0 + 1, none⟩)) ?_
         refine WO.cons (WC.load1 nx (0 + 1) (.slice a12 (K.fFar.l.length) c13) (by kernel_rfl) T_agg23 hb136 (by rw [← hv14]; rfl) ?_)
         refine ov 105 (.int .i64 (.ofNat iL99)) ?_
         have hlt144 : iL99 < K.fFar.l.length := by omega
         refine WO.cons (WC.ix (k := .i64) a12 (K.fFar.l.length) c13 (iL99) 1 (by kernel_rfl) (by kernel_rfl) T_und23 T_size30 ((hK.fFar.1.mono hE135 le140).blkA hv14 (zl hlt144)) (hlt144) ?_)
         refine WO.cons (WC.load1E (blk a12) (0 + (iL99) * 1) (.slice a116 (x114.l.length) c117) (by kernel_rfl) T_agg30 ((hK.fFar.1.mono hE135 le140).blkB hv14 (zl hlt144)) (flat_at1 (hK.fFar.1.mono hE135 le140).1 hx115 (by rw [← hv118]; rfl)) ?_)
         refine ov 108 (.int .i64 (.ofNat iL128)) ?_
         have hlt145 : iL128 < x114.l.length := by omega
         refine WO.cons (WC.ix (k := .i64) a116 (x114.l.length) c117 (iL128) 1 (by kernel_rfl) (by kernel_rfl) T_und30 T_size3 (((hK.fFar.2 x114 (List.mem_of_getElem? hx115)).mono hE135 le140).blkA hv118 (zl hlt145)) (hlt145) ?_)
         obtain ⟨x146, hx147⟩ : ∃ el_, x114.l[iL128]? = some el_ := ⟨_, List.getElem?_eq_getElem (hlt145)⟩
         refine WO.cons (WC.load1E (blk a116) (0 + (iL128) * 1) (.int .i64 (x146)) (by kernel_rfl) T_agg3 (((hK.fFar.2 x114 (List.mem_of_getElem? hx115)).mono hE135 le140).blkB hv118 (zl hlt145)) (flat_at1 ((hK.fFar.2 x114 (List.mem_of_getElem? hx115)).mono hE135 le140).1 hx147 rfl) ?_)
         obtain ⟨c148, e148, p148⟩ := @nb (ltI (x146) (-2199023255552)) ((x146) < (-2199023255552)) (ltI_iff)
         refine ov 111 (.bool c148) ?_ (fun _ _ _ => by subst e148; kernel_rfl)
         refine ov 112 (.bool c148) ?_
         refine og 112 (!c148) (.pointer (some ⟨nx, 0 + 1, none⟩)) (.bool c148) (by cases c148 <;> rfl) (fun h => by obtain rfl := bF h; exact fun _ _ _ => by kernel_rfl) ?_
         refine ogc 112 (!c148) (.slice a12 (K.fFar.l.length) c13) (.bool c148) (by cases c148 <;> rfl) (fun h => by obtain rfl := bF h; exact WC.load1 nx (0 + 1) (.slice a12 (K.fFar.l.length) c13) (by kernel_rfl) T_agg23 hb136 (by rw [← hv14]; rfl) rfl) ?_
         refine og 112 (!c148) (.int .i64 (.ofNat iL99)) (.bool c148) (by cases c148 <;> rfl) (fun h => by obtain rfl := bF h; exact fun _ _ _ => by kernel_rfl) ?_
         have hlt149 : (!c148) = true → iL99 < K.fFar.l.length := fun h => by obtain rfl : c148 = false := (by simpa using h); have q0 : ¬ ((x146) < (-2199023255552)) := (fun k => absurd ((p148).2 k) (by decide)); omega
         refine ogc 112 (!c148) (.pointer (some ⟨(blk a12), 0 + (iL99) * 1, none⟩)) (.bool c148) (by cases c148 <;> rfl) (fun h => by obtain rfl := bF h; exact WC.ix (k := .i64) a12 (K.fFar.l.length) c13 (iL99) 1 (by kernel_rfl) (by kernel_rfl) T_und23 T_size30 ((hK.fFar.1.mono hE135 le140).blkA hv14 (zl ((hlt149 rfl)))) ((hlt149 rfl)) rfl) ?_
         refine ogc 112 (!c148) (.slice a116 (x114.l.length) c117) (.bool c148) (by cases c148 <;> rfl) (fun h => by obtain rfl := bF h; exact WC.load1E (blk a12) (0 + (iL99) * 1) (.slice a116 (x114.l.length) c117) (by kernel_rfl) T_agg30 ((hK.fFar.1.mono hE135 le140).blkB hv14 (zl ((hlt149 rfl)))) (flat_at1 (hK.fFar.1.mono hE135 le140).1 hx115 (by rw [← hv118]; rfl)) rfl) ?_
         refine og 112 (!c148) (.int .i64 (.ofNat iL128)) (.bool c148) (by cases c148 <;> rfl) (fun h => by obtain rfl := bF h; exact fun _ _ _ => by kernel_rfl) ?_
         have hlt150 : (!c148) = true → iL128 < x114.l.length := fun h => by obtain rfl : c148 = false := (by simpa using h); have q0 : ¬ ((x146) < (-2199023255552)) := (fun k => absurd ((p148).2 k) (by decide)); omega
         refine ogc 112 (!c148) (.pointer (some ⟨(blk a116), 0 + (iL128) * 1, none⟩)) (.bool c148) (by cases c148 <;> rfl) (fun h => by obtain rfl := bF h; exact WC.ix (k := .i64) a116 (x114.l.length) c117 (iL128) 1 (by kernel_rfl) (by kernel_rfl) T_und30 T_size3 (((hK.fFar.2 x114 (List.mem_of_getElem? hx115)).mono hE135 le140).blkA hv118 (zl ((hlt150 rfl)))) ((hlt150 rfl)) rfl) ?_
         refine ogc 112 (!c148) (.int .i64 (x146)) (.bool c148) (by cases c148 <;> rfl) (fun h => by obtain rfl := bF h; exact WC.load1E (blk a116) (0 + (iL128) * 1) (.int .i64 (x146)) (by kernel_rfl) T_agg3 (((hK.fFar.2 x114 (List.mem_of_getElem? hx115)).mono hE135 le140).blkB hv118 (zl ((hlt150 rfl)))) (flat_at1 ((hK.fFar.2 x114 (List.mem_of_getElem? hx115)).mono hE135 le140).1 hx147 rfl) rfl) ?_
         obtain ⟨c151, e151, p151⟩ := @nb (ltI (2199023255552) (x146)) ((2199023255552) < (x146)) (ltI_iff)
         refine og 112 (!c148) (.bool c151) (.bool c148) (by cases c148 <;> rfl) (fun h => by obtain rfl := bF h; exact fun _ _ _ => by subst e151; kernel_rfl) ?_
         obtain ⟨c152, e152, p152⟩ := @nb ((c148 || c151)) (((x146) < (-2199023255552)) ∨ ((2199023255552) < (x146))) (by rw [Bool.or_eq_true, p148, p151])
         refine WO.cons (WC.opt (v := .bool c152) 122 (ePick (.bool c148) (.bool true) ((bif !c148 then .bool c151 else undef))) (fun _ _ _ => by kernel_rfl) (by rw [e152]; exact ePick_or (fun h => by obtain rfl : c148 = false := h; rfl)) ?_)
         refine WO.nil ?_
         refine WP.cond c152 (by kernel_rfl) (fun h153 => ?_) (fun h153 => ?_)
         ·
          have q154 := (p152).1 h153
          refine sr ?_
          refine ov 2 (.int .i64 (160)) ?_
          refine WO.nil ?_
          refine WP.ret ⟨rfl, rfl, [.int .i64 (160)], by kernel_rfl, ?_⟩
          refine ⟨⟨160, rfl, ⟨fun h => absurd h (by decide), fun hok => ?_⟩, .inr rfl⟩, le140, hE135⟩
          exact absurd q154 ((hok.row _ _ hx115).2.2 _ (List.mem_of_getElem? hx147))
         ·
          have q154 := nq p152 h153
          refine WP.skip ?_
          refine WP.region ?_
          refine ov 101 (.int .i64 (.ofNat iL128)) ?_
          refine ov 102 (.int .i64 (.ofNat (iL128 + 1))) ?_ (fun _ _ _ => by rw [← wrapAdd (show iL128 + 1 < 9223372036854775808 by omega)]; kernel_rfl)
          refine ov 7 (.int .i64 (.ofNat (iL128 + 1))) ?_
          refine WO.nil ?_
          refine ⟨(K.fSegments.l.length + 1) - (iL128 + 1), by omega, iL128 + 1, by omega, by kernel_rfl, by kernel_rfl, by kernel_rfl, by kernel_rfl, rfl, rfl, ?_, ?_, ?_⟩
          · exact hn133
          · exact he134
          · intro j' w' hj hs
            rcases Nat.lt_succ_iff_lt_or_eq.1 hj with hj | rfl
            · exact hww j' w' hj hs
            · rw [hx147] at hs; cases hs; exact q154
        ·
         have q143 := nq p141 h142
         refine WP.exit ?_
         refine WP.region ?_
         refine ov 76 (.int .i64 (.ofNat iL99)) ?_
         refine ov 77 (.int .i64 (.ofNat (iL99 + 1))) ?_ (fun _ _ _ => by rw [← wrapAdd (show iL99 + 1 < 9223372036854775808 by omega)]; kernel_rfl)
         refine ov 6 (.int .i64 (.ofNat (iL99 + 1))) ?_
         refine WO.nil ?_
         refine ⟨(K.fSegments.l.length + 1) - (iL99 + 1), by omega, iL99 + 1, by omega, by kernel_rfl, by kernel_rfl, by kernel_rfl, rfl, rfl, ?_, ?_, ?_⟩
         · exact rl139
         · exact hr138
         · intro j r' hj hs
           rcases Nat.lt_succ_iff_lt_or_eq.1 hj with hj | rfl
           · exact hfar j r' hj hs
           · rw [hx115] at hs; cases hs
             have hlen : x114.l.length = K.fSegments.l.length + 1 := by omega
             refine ⟨hlen, ?_, fun w hw => ?_⟩
             · have hw := hx123p (by omega)
               have : x122 = 0 := Classical.not_not.1 fun k => q127 (.inr k)
               rw [hw, this]
             · obtain ⟨n, hn⟩ := List.getElem?_of_mem hw
               exact hww n w (by have := (List.getElem?_eq_some_iff.1 hn).1; omega) hn
       ·
        exact ⟨0, by omega, by kernel_rfl, by kernel_rfl, by kernel_rfl, by kernel_rfl, rfl, rfl, Nat.le_refl _, HE.refl _ _, (fun _ _ h => absurd h (Nat.not_lt_zero _))⟩
     ·
      have q112 := nq p110 h111
      refine WP.exit ?_
      refine WP.seq ?_
      refine sr ?_
      refine ov 8 (.int .i64 (0)) ?_
      refine WO.nil ?_
      refine WP.block ?_
      have hj156 : ∀ t : Tm, (((t.set 1 (t.get 1)).set 3 (t.get 3)).set 8 (t.get 8)) = t := fun t => by kernel_rfl
      refine WP.loop (fun m s => ∃ (iL155 : Nat), iL155 + m = (K.fSegments.l.length + 1) ∧ s.to.get 1 = .pointer (some ⟨nx, 0, none⟩) ∧ s.to.get 3 = .int .i64 (.ofNat (K.fSegments.l.length)) ∧ s.to.get 8 = .int .i64 (.ofNat iL155) ∧ s.ds = [] ∧ s.cs = [] ∧ nx102 ≤ s.nx ∧ HE (nx102) hp101 s.hp ∧ (∀ i' j m, i' < iL155 → triAt K i' j m)) ?_ ((K.fSegments.l.length + 1)) ?_
      ·
       rintro mL155 ⟨toL155, dsL155, hp157, nx158, csL155⟩ ⟨iL155, him159, gL155_1, gL155_3, gL155_8, hdsL155, hcsL155, hn160, he161, htri⟩
       simp only at gL155_1 gL155_3 gL155_8 hdsL155 hcsL155 hn160 he161
       subst hdsL155 hcsL155
       rw [← hj156 toL155, gL155_1, gL155_3, gL155_8]
       clear gL155_1 gL155_3 gL155_8
       have hE162 := hE106.trans he161 le109
       have hb163 := he161.get hb107 lt108
       have lt164 := Nat.lt_of_lt_of_le lt108 hn160
       have le165 := Nat.le_trans le109 hn160
       refine WP.seq ?_
       refine sr ?_
       refine ov 123 (.int .i64 (.ofNat iL155)) ?_
       refine ov 124 (.int .i64 (.ofNat (K.fSegments.l.length))) ?_
       obtain ⟨c166, e166, p166⟩ := @nb (leI (.ofNat iL155) (.ofNat (K.fSegments.l.length))) (((iL155 : Nat) : Int) ≤ ((K.fSegments.l.length : Nat) : Int)) (leI_iff)
       refine ov 125 (.bool c166) ?_ (fun _ _ _ => by subst e166; kernel_rfl)
       refine WO.nil ?_
       refine WP.cond c166 (by kernel_rfl) (fun h167 => ?_) (fun h167 => ?_)
       ·
        have q168 := (p166).1 h167
        refine WP.skip ?_
        refine WP.seq ?_
        refine WP.block ?_
        refine sr ?_
        refine ov 9 (.int .i64 (0)) ?_
        refine WO.nil ?_
        refine WP.block ?_
        have hj170 : ∀ t : Tm, ((((t.set 1 (t.get 1)).set 3 (t.get 3)).set 8 (t.get 8)).set 9 (t.get 9)) = t := fun t => by kernel_rfl
        refine WP.loop (fun m s => ∃ (iL169 : Nat), iL169 + m = (K.fSegments.l.length + 1) ∧ s.to.get 1 = .pointer (some ⟨nx, 0, none⟩) ∧ s.to.get 3 = .int .i64 (.ofNat (K.fSegments.l.length)) ∧ s.to.get 8 = .int .i64 (.ofNat iL155) ∧ s.to.get 9 = .int .i64 (.ofNat iL169) ∧ s.ds = [] ∧ s.cs = [] ∧ nx158 ≤ s.nx ∧ HE (nx158) hp157 s.hp ∧ (∀ j' m, j' < iL169 → triAt K iL155 j' m)) ?_ ((K.fSegments.l.length + 1)) ?_
        ·
         rintro mL169 ⟨toL169, dsL169, hp171, nx172, csL169⟩ ⟨iL169, him173, gL169_1, gL169_3, gL169_8, gL169_9, hdsL169, hcsL169, hn174, he175, htri6⟩
         simp only at gL169_1 gL169_3 gL169_8 gL169_9 hdsL169 hcsL169 hn174 he175
         subst hdsL169 hcsL169
         rw [← hj170 toL169, gL169_1, gL169_3, gL169_8, gL169_9]
         clear gL169_1 gL169_3 gL169_8 gL169_9
         have hE176 := hE162.trans he175 le165
         have hb177 := he175.get hb163 lt164
         have lt178 := Nat.lt_of_lt_of_le lt164 hn174
         have hr179 := he161.trans he175 hn160
         have rl180 := Nat.le_trans hn160 hn174
         have le181 := Nat.le_trans le165 hn174
         refine WP.seq ?_
         refine sr ?_
         refine ov 128 (.int .i64 (.ofNat iL169)) ?_
         refine ov 129 (.int .i64 (.ofNat (K.fSegments.l.length))) ?_
         obtain ⟨c182, e182, p182⟩ := @nb (leI (.ofNat iL169) (.ofNat (K.fSegments.l.length))) (((iL169 : Nat) : Int) ≤ ((K.fSegments.l.length : Nat) : Int)) (leI_iff)
         refine ov 130 (.bool c182) ?_ (fun _ _ _ => by subst e182; kernel_rfl)
         refine WO.nil ?_
         refine WP.cond c182 (by kernel_rfl) (fun h183 => ?_) (fun h183 => ?_)
         ·
          have q184 := (p182).1 h183
          refine WP.skip ?_
          refine WP.seq ?_
          refine WP.block ?_
          refine sr ?_
          refine ov 10 (.int .i64 (0)) ?_
          refine WO.nil ?_
          refine WP.block ?_
          have hj186 : ∀ t : Tm, (((((t.set 1 (t.get 1)).set 3 (t.get 3)).set 8 (t.get 8)).set 9 (t.get 9)).set 10 (t.get 10)) = t := fun t => by kernel_rfl
          refine WP.loop (fun m s => ∃ (iL185 : Nat), iL185 + m = (K.fSegments.l.length + 1) ∧ s.to.get 1 = .pointer (some ⟨nx, 0, none⟩) ∧ s.to.get 3 = .int .i64 (.ofNat (K.fSegments.l.length)) ∧ s.to.get 8 = .int .i64 (.ofNat iL155) ∧ s.to.get 9 = .int .i64 (.ofNat iL169) ∧ s.to.get 10 = .int .i64 (.ofNat iL185) ∧ s.ds = [] ∧ s.cs = [] ∧ nx172 ≤ s.nx ∧ HE (nx172) hp171 s.hp ∧ (∀ m', m' < iL185 → triAt K iL155 iL169 m')) ?_ ((K.fSegments.l.length + 1)) ?_
          ·
           rintro mL185 ⟨toL185, dsL185, hp187, nx188, csL185⟩ ⟨iL185, him189, gL185_1, gL185_3, gL185_8, gL185_9, gL185_10, hdsL185, hcsL185, hn190, he191, htri8⟩
           simp only at gL185_1 gL185_3 gL185_8 gL185_9 gL185_10 hdsL185 hcsL185 hn190 he191
           subst hdsL185 hcsL185
           rw [← hj186 toL185, gL185_1, gL185_3, gL185_8, gL185_9, gL185_10]
           clear gL185_1 gL185_3 gL185_8 gL185_9 gL185_10
           have hE192 := hE176.trans he191 le181
           have hb193 := he191.get hb177 lt178
           have hr197 := he175.trans he191 hn174
           have rl198 := Nat.le_trans hn174 hn190
           have le199 := Nat.le_trans le181 hn190
           refine WP.seq ?_
           refine sr ?_
           refine ov 133 (.int .i64 (.ofNat iL185)) ?_
           refine ov 134 (.int .i64 (.ofNat (K.fSegments.l.length))) ?_
           obtain ⟨c200, e200, p200⟩ := @nb (leI (.ofNat iL185) (.ofNat (K.fSegments.l.length))) (((iL185 : Nat) : Int) ≤ ((K.fSegments.l.length : Nat) : Int)) (leI_iff)
           refine ov 135 (.bool c200) ?_ (fun _ _ _ => by subst e200; kernel_rfl)
           refine WO.nil ?_
           refine WP.cond c200 (by kernel_rfl) (fun h201 => ?_) (fun h201 => ?_)
           ·
            have q202 := (p200).1 h201
            refine WP.skip ?_
            refine WP.seq ?_
            refine WP.block ?_
            refine WP.seq ?_
            refine WP.drawS [⟨[0, 1, 2, 3, 4, 5, 6, 7, 8, 9, 10, 11, 12, 13, 14, 15, 16, 17, 18, 19, 20, 21, 22, 23, 24, 25], [0, 1, 2, 3, 4, 5, 6, 7, 8, 9, 10, 11, 12, 13, 14, 15, 16, 17, 18, 19, 20, 21, 22, 23, 24, 25], none⟩] (by kernel_rfl) _ rfl ?_
            refine WD.last ?_
            refine nv 138 (.pointer (some ⟨nx, 0 + 1, none⟩)) ?_
            refine WN.consAt rfl (WC.load1 nx (0 + 1) (.slice a12 (K.fFar.l.length) c13) (by kernel_rfl) T_agg23 hb193 (by rw [← hv14]; rfl) ?_)
            refine nv 140 (.int .i64 (.ofNat iL155)) ?_
            have hlt203 : iL155 < K.fFar.l.length := by omega
            refine WN.consAt rfl (WC.ix (k := .i64) a12 (K.fFar.l.length) c13 (iL155) 1 (by kernel_rfl) (by kernel_rfl) T_und23 T_size30 ((hK.fFar.1.mono hE192 le199).blkA hv14 (zl hlt203)) (hlt203) ?_)
            obtain ⟨x204, hx205⟩ : ∃ el_, K.fFar.l[iL155]? = some el_ := ⟨_, List.getElem?_eq_getElem (hlt203)⟩
            have hlx204 : x204.l.length = K.fSegments.l.length + 1 := (hfar iL155 x204 (by omega) hx205).1
            obtain ⟨a206, c207, hv208⟩ := (hK.fFar.2 x204 (List.mem_of_getElem? hx205)).shape
            have hsm208 := (hK.fFar.2 x204 (List.mem_of_getElem? hx205)).2.2
            refine WN.consAt rfl (WC.load1E (blk a12) (0 + (iL155) * 1) (.slice a206 (x204.l.length) c207) (by kernel_rfl) T_agg30 ((hK.fFar.1.mono hE192 le199).blkB hv14 (zl hlt203)) (flat_at1 (hK.fFar.1.mono hE192 le199).1 hx205 (by rw [← hv208]; rfl)) ?_)
            refine nv 143 (.int .i64 (.ofNat iL185)) ?_
            have hlt209 : iL185 < x204.l.length := by omega
            refine WN.consAt rfl (WC.ix (k := .i64) a206 (x204.l.length) c207 (iL185) 1 (by kernel_rfl) (by kernel_rfl) T_und30 T_size3 (((hK.fFar.2 x204 (List.mem_of_getElem? hx205)).mono hE192 le199).blkA hv208 (zl hlt209)) (hlt209) ?_)
            obtain ⟨x210, hx211⟩ : ∃ el_, x204.l[iL185]? = some el_ := ⟨_, List.getElem?_eq_getElem (hlt209)⟩
            refine WN.consAt rfl (WC.load1E (blk a206) (0 + (iL185) * 1) (.int .i64 (x210)) (by kernel_rfl) T_agg3 (((hK.fFar.2 x204 (List.mem_of_getElem? hx205)).mono hE192 le199).blkB hv208 (zl hlt209)) (flat_at1 ((hK.fFar.2 x204 (List.mem_of_getElem? hx205)).mono hE192 le199).1 hx211 rfl) ?_)
            refine nv 146 (.pointer (some ⟨nx, 0 + 1, none⟩)) ?_
            refine WN.consAt rfl (WC.load1 nx (0 + 1) (.slice a12 (K.fFar.l.length) c13) (by kernel_rfl) T_agg23 hb193 (by rw [← hv14]; rfl) ?_)
            refine nv 148 (.int .i64 (.ofNat iL155)) ?_
            have hlt212 : iL155 < K.fFar.l.length := by omega
            refine WN.consAt rfl (WC.ix (k := .i64) a12 (K.fFar.l.length) c13 (iL155) 1 (by kernel_rfl) (by kernel_rfl) T_und23 T_size30 ((hK.fFar.1.mono hE192 le199).blkA hv14 (zl hlt212)) (hlt212) ?_)
            refine WN.consAt rfl (WC.load1E (blk a12) (0 + (iL155) * 1) (.slice a206 (x204.l.length) c207) (by kernel_rfl) T_agg30 ((hK.fFar.1.mono hE192 le199).blkB hv14 (zl hlt212)) (flat_at1 (hK.fFar.1.mono hE192 le199).1 hx205 (by rw [← hv208]; rfl)) ?_)
            refine nv 151 (.int .i64 (.ofNat iL169)) ?_
            have hlt213 : iL169 < x204.l.length := by omega
            refine WN.consAt rfl (WC.ix (k := .i64) a206 (x204.l.length) c207 (iL169) 1 (by kernel_rfl) (by kernel_rfl) T_und30 T_size3 (((hK.fFar.2 x204 (List.mem_of_getElem? hx205)).mono hE192 le199).blkA hv208 (zl hlt213)) (hlt213) ?_)
            obtain ⟨x214, hx215⟩ : ∃ el_, x204.l[iL169]? = some el_ := ⟨_, List.getElem?_eq_getElem (hlt213)⟩
            refine WN.consAt rfl (WC.load1E (blk a206) (0 + (iL169) * 1) (.int .i64 (x214)) (by kernel_rfl) T_agg3 (((hK.fFar.2 x204 (List.mem_of_getElem? hx205)).mono hE192 le199).blkB hv208 (zl hlt213)) (flat_at1 ((hK.fFar.2 x204 (List.mem_of_getElem? hx205)).mono hE192 le199).1 hx215 rfl) ?_)
            refine nv 154 (.pointer (some ⟨nx, 0 + 1, none⟩)) ?_
            refine WN.consAt rfl (WC.load1 nx (0 + 1) (.slice a12 (K.fFar.l.length) c13) (by kernel_rfl) T_agg23 hb193 (by rw [← hv14]; rfl) ?_)
            refine nv 156 (.int .i64 (.ofNat iL169)) ?_
            have hlt216 : iL169 < K.fFar.l.length := by omega
            refine WN.consAt rfl (WC.ix (k := .i64) a12 (K.fFar.l.length) c13 (iL169) 1 (by kernel_rfl) (by kernel_rfl) T_und23 T_size30 ((hK.fFar.1.mono hE192 le199).blkA hv14 (zl hlt216)) (hlt216) ?_)
            obtain ⟨x217, hx218⟩ : ∃ el_, K.fFar.l[iL169]? = some el_ := ⟨_, List.getElem?_eq_getElem (hlt216)⟩
            have hlx217 : x217.l.length = K.fSegments.l.length + 1 := (hfar iL169 x217 (by omega) hx218).1
            obtain ⟨a219, c220, hv221⟩ := (hK.fFar.2 x217 (List.mem_of_getElem? hx218)).shape
            have hsm221 := (hK.fFar.2 x217 (List.mem_of_getElem? hx218)).2.2
            refine WN.consAt rfl (WC.load1E (blk a12) (0 + (iL169) * 1) (.slice a219 (x217.l.length) c220) (by kernel_rfl) T_agg30 ((hK.fFar.1.mono hE192 le199).blkB hv14 (zl hlt216)) (flat_at1 (hK.fFar.1.mono hE192 le199).1 hx218 (by rw [← hv221]; rfl)) ?_)
            refine nv 159 (.int .i64 (.ofNat iL185)) ?_
            have hlt222 : iL185 < x217.l.length := by omega
            refine WN.consAt rfl (WC.ix (k := .i64) a219 (x217.l.length) c220 (iL185) 1 (by kernel_rfl) (by kernel_rfl) T_und30 T_size3 (((hK.fFar.2 x217 (List.mem_of_getElem? hx218)).mono hE192 le199).blkA hv221 (zl hlt222)) (hlt222) ?_)
            obtain ⟨x223, hx224⟩ : ∃ el_, x217.l[iL185]? = some el_ := ⟨_, List.getElem?_eq_getElem (hlt222)⟩
            refine WN.consAt rfl (WC.load1E (blk a219) (0 + (iL185) * 1) (.int .i64 (x223)) (by kernel_rfl) T_agg3 (((hK.fFar.2 x217 (List.mem_of_getElem? hx218)).mono hE192 le199).blkB hv221 (zl hlt222)) (flat_at1 ((hK.fFar.2 x217 (List.mem_of_getElem? hx218)).mono hE192 le199).1 hx224 rfl) ?_)
            refine nv 162 (.int .i64 (wrapE .i64 ((x214) + (x223)))) ?_
            obtain ⟨c225, e225, p225⟩ := @nb (ltI (wrapE .i64 ((x214) + (x223))) (x210)) ((wrapE .i64 ((x214) + (x223))) < (x210)) (ltI_iff)
            refine nv 163 (.bool c225) ?_ (fun _ _ _ => by subst e225; kernel_rfl)
            refine WN.nil ⟨?_, ?_⟩
            ·
             refine cv (.pointer (some ⟨nx, 0 + 1, none⟩)) (vEq_ptr ..) ?_
             refine co (.slice a12 (K.fFar.l.length) c13) (eLoad ex.T hp187.get 23 (.pointer (some ⟨nx, 0 + 1, none⟩))) (eLoad_one T_agg23 hb193 (by rw [← hv14]; rfl)) (hv14 ▸ hK.fFar.1.eqSelf 8) ?_
             refine cv (.int .i64 (.ofNat iL155)) (vEq_int ..) ?_
             refine co (.pointer (some ⟨(blk a12), 0 + (iL155) * 1, none⟩)) (eIndexAddr ex.T 23 (.slice a12 (K.fFar.l.length) c13) (.int .i64 (.ofNat (iL155)))) (eIndexAddr_A (k := .i64) T_und23 T_size30 ((hK.fFar.1.mono hE192 le199).blkA hv14 (zl hlt203)) (hlt203)) (vEq_ptr ..) ?_
             refine co (.slice a206 (x204.l.length) c207) (eLoad ex.T hp187.get 30 (.pointer (some ⟨(blk a12), 0 + (iL155) * 1, none⟩))) (eLoad_oneE T_agg30 ((hK.fFar.1.mono hE192 le199).blkB hv14 (zl hlt203)) (flat_at1 (hK.fFar.1.mono hE192 le199).1 hx205 (by rw [← hv208]; rfl))) (hv208 ▸ (hK.fFar.2 x204 (List.mem_of_getElem? hx205)).eqSelf 8) ?_
             refine cv (.int .i64 (.ofNat iL185)) (vEq_int ..) ?_
             refine co (.pointer (some ⟨(blk a206), 0 + (iL185) * 1, none⟩)) (eIndexAddr ex.T 30 (.slice a206 (x204.l.length) c207) (.int .i64 (.ofNat (iL185)))) (eIndexAddr_A (k := .i64) T_und30 T_size3 (((hK.fFar.2 x204 (List.mem_of_getElem? hx205)).mono hE192 le199).blkA hv208 (zl hlt209)) (hlt209)) (vEq_ptr ..) ?_
             refine co (.int .i64 (x210)) (eLoad ex.T hp187.get 3 (.pointer (some ⟨(blk a206), 0 + (iL185) * 1, none⟩))) (eLoad_oneE T_agg3 (((hK.fFar.2 x204 (List.mem_of_getElem? hx205)).mono hE192 le199).blkB hv208 (zl hlt209)) (flat_at1 ((hK.fFar.2 x204 (List.mem_of_getElem? hx205)).mono hE192 le199).1 hx211 rfl)) (vEq_int ..) ?_
             refine cv (.pointer (some ⟨nx, 0 + 1, none⟩)) (vEq_ptr ..) ?_
             refine co (.slice a12 (K.fFar.l.length) c13) (eLoad ex.T hp187.get 23 (.pointer (some ⟨nx, 0 + 1, none⟩))) (eLoad_one T_agg23 hb193 (by rw [← hv14]; rfl)) (hv14 ▸ hK.fFar.1.eqSelf 8) ?_
             refine cv (.int .i64 (.ofNat iL155)) (vEq_int ..) ?_
             refine co (.pointer (some ⟨(blk a12), 0 + (iL155) * 1, none⟩)) (eIndexAddr ex.T 23 (.slice a12 (K.fFar.l.length) c13) (.int .i64 (.ofNat (iL155)))) (eIndexAddr_A (k := .i64) T_und23 T_size30 ((hK.fFar.1.mono hE192 le199).blkA hv14 (zl hlt212)) (hlt212)) (vEq_ptr ..) ?_
             refine co (.slice a206 (x204.l.length) c207) (eLoad ex.T hp187.get 30 (.pointer (some ⟨(blk a12), 0 + (iL155) * 1, none⟩))) (eLoad_oneE T_agg30 ((hK.fFar.1.mono hE192 le199).blkB hv14 (zl hlt212)) (flat_at1 (hK.fFar.1.mono hE192 le199).1 hx205 (by rw [← hv208]; rfl))) (hv208 ▸ (hK.fFar.2 x204 (List.mem_of_getElem? hx205)).eqSelf 8) ?_
             refine cv (.int .i64 (.ofNat iL169)) (vEq_int ..) ?_
             refine co (.pointer (some ⟨(blk a206), 0 + (iL169) * 1, none⟩)) (eIndexAddr ex.T 30 (.slice a206 (x204.l.length) c207) (.int .i64 (.ofNat (iL169)))) (eIndexAddr_A (k := .i64) T_und30 T_size3 (((hK.fFar.2 x204 (List.mem_of_getElem? hx205)).mono hE192 le199).blkA hv208 (zl hlt213)) (hlt213)) (vEq_ptr ..) ?_
             refine co (.int .i64 (x214)) (eLoad ex.T hp187.get 3 (.pointer (some ⟨(blk a206), 0 + (iL169) * 1, none⟩))) (eLoad_oneE T_agg3 (((hK.fFar.2 x204 (List.mem_of_getElem? hx205)).mono hE192 le199).blkB hv208 (zl hlt213)) (flat_at1 ((hK.fFar.2 x204 (List.mem_of_getElem? hx205)).mono hE192 le199).1 hx215 rfl)) (vEq_int ..) ?_
             refine cv (.pointer (some ⟨nx, 0 + 1, none⟩)) (vEq_ptr ..) ?_
             refine co (.slice a12 (K.fFar.l.length) c13) (eLoad ex.T hp187.get 23 (.pointer (some ⟨nx, 0 + 1, none⟩))) (eLoad_one T_agg23 hb193 (by rw [← hv14]; rfl)) (hv14 ▸ hK.fFar.1.eqSelf 8) ?_
             refine cv (.int .i64 (.ofNat iL169)) (vEq_int ..) ?_
             refine co (.pointer (some ⟨(blk a12), 0 + (iL169) * 1, none⟩)) (eIndexAddr ex.T 23 (.slice a12 (K.fFar.l.length) c13) (.int .i64 (.ofNat (iL169)))) (eIndexAddr_A (k := .i64) T_und23 T_size30 ((hK.fFar.1.mono hE192 le199).blkA hv14 (zl hlt216)) (hlt216)) (vEq_ptr ..) ?_
             refine co (.slice a219 (x217.l.length) c220) (eLoad ex.T hp187.get 30 (.pointer (some ⟨(blk a12), 0 + (iL169) * 1, none⟩))) (eLoad_oneE T_agg30 ((hK.fFar.1.mono hE192 le199).blkB hv14 (zl hlt216)) (flat_at1 (hK.fFar.1.mono hE192 le199).1 hx218 (by rw [← hv221]; rfl))) (hv221 ▸ (hK.fFar.2 x217 (List.mem_of_getElem? hx218)).eqSelf 8) ?_
             refine cv (.int .i64 (.ofNat iL185)) (vEq_int ..) ?_
             refine co (.pointer (some ⟨(blk a219), 0 + (iL185) * 1, none⟩)) (eIndexAddr ex.T 30 (.slice a219 (x217.l.length) c220) (.int .i64 (.ofNat (iL185)))) (eIndexAddr_A (k := .i64) T_und30 T_size3 (((hK.fFar.2 x217 (List.mem_of_getElem? hx218)).mono hE192 le199).blkA hv221 (zl hlt222)) (hlt222)) (vEq_ptr ..) ?_
             refine co (.int .i64 (x223)) (eLoad ex.T hp187.get 3 (.pointer (some ⟨(blk a219), 0 + (iL185) * 1, none⟩))) (eLoad_oneE T_agg3 (((hK.fFar.2 x217 (List.mem_of_getElem? hx218)).mono hE192 le199).blkB hv221 (zl hlt222)) (flat_at1 ((hK.fFar.2 x217 (List.mem_of_getElem? hx218)).mono hE192 le199).1 hx224 rfl)) (vEq_int ..) ?_
             refine cv (.int .i64 (wrapE .i64 ((x214) + (x223)))) (vEq_int ..) ?_
             refine cv (.bool c225) (vEq_bool 8 c225) ?_ (fun _ => by subst e225; kernel_rfl)
             exact Chks.nil
            refine WP.cond c225 (by kernel_rfl) (fun h226 => ?_) (fun h226 => ?_)
            ·
             have q227 := (p225).1 h226
             refine sr ?_
             refine ov 2 (.int .i64 (160)) ?_
             refine WO.nil ?_
             refine WP.ret ⟨rfl, rfl, [.int .i64 (160)], by kernel_rfl, ?_⟩
             refine ⟨⟨160, rfl, ⟨fun h => absurd h (by decide), fun hok => ?_⟩, .inr rfl⟩, le199, hE192⟩
             have := hok.tri iL155 iL169 iL185 _ _ _ _ _ hx205 hx215 hx218 hx224 hx211; omega
            ·
             have q227 := nq p225 h226
             refine WP.skip ?_
             refine WP.region ?_
             refine ov 136 (.int .i64 (.ofNat iL185)) ?_
             refine ov 137 (.int .i64 (.ofNat (iL185 + 1))) ?_ (fun _ _ _ => by rw [← wrapAdd (show iL185 + 1 < 9223372036854775808 by omega)]; kernel_rfl)
             refine ov 10 (.int .i64 (.ofNat (iL185 + 1))) ?_
             refine WO.nil ?_
             refine ⟨(K.fSegments.l.length + 1) - (iL185 + 1), by omega, iL185 + 1, by omega, by kernel_rfl, by kernel_rfl, by kernel_rfl, by kernel_rfl, by kernel_rfl, rfl, rfl, ?_, ?_, ?_⟩
             · exact hn190
             · exact he191
             · intro m' hm
               rcases Nat.lt_succ_iff_lt_or_eq.1 hm with hm | rfl
               · exact htri8 m' hm
               · intro ri rj a b c h1 h2 h3 h4 h5
                 rw [hx205] at h1; cases h1; rw [hx215] at h2; cases h2; rw [hx218] at h3; cases h3; rw [hx224] at h4; cases h4; rw [hx211] at h5; cases h5
                 omega
           ·
            have q202 := nq p200 h201
            refine WP.exit ?_
            refine WP.region ?_
            refine ov 131 (.int .i64 (.ofNat iL169)) ?_
            refine ov 132 (.int .i64 (.ofNat (iL169 + 1))) ?_ (fun _ _ _ => by rw [← wrapAdd (show iL169 + 1 < 9223372036854775808 by omega)]; kernel_rfl)
            refine ov 9 (.int .i64 (.ofNat (iL169 + 1))) ?_
            refine WO.nil ?_
            refine ⟨(K.fSegments.l.length + 1) - (iL169 + 1), by omega, iL169 + 1, by omega, by kernel_rfl, by kernel_rfl, by kernel_rfl, by kernel_rfl, rfl, rfl, ?_, ?_, ?_⟩
            · exact rl198
            · exact hr197
            · intro j' m hj
              rcases Nat.lt_succ_iff_lt_or_eq.1 hj with hj | rfl
              · exact htri6 j' m hj
              · rcases Nat.lt_or_ge m (K.fSegments.l.length + 1) with hm | hm
                · exact htri8 m (by omega)
                · intro ri rj a b c h1 h2 h3 h4
                  have := (hfar _ rj (by omega) h3).1
                  rw [List.getElem?_eq_none (by omega)] at h4; cases h4
          ·
           exact ⟨0, by omega, by kernel_rfl, by kernel_rfl, by kernel_rfl, by kernel_rfl, by kernel_rfl, rfl, rfl, Nat.le_refl _, HE.refl _ _, (fun _ h => absurd h (Nat.not_lt_zero _))⟩
         ·
          have q184 := nq p182 h183
          refine WP.exit ?_
          refine WP.region ?_
          refine ov 126 (.int .i64 (.ofNat iL155)) ?_
          refine ov 127 (.int .i64 (.ofNat (iL155 + 1))) ?_ (fun _ _ _ => by rw [← wrapAdd (show iL155 + 1 < 9223372036854775808 by omega)]; kernel_rfl)
          refine ov 8 (.int .i64 (.ofNat (iL155 + 1))) ?_
          refine WO.nil ?_
          refine ⟨(K.fSegments.l.length + 1) - (iL155 + 1), by omega, iL155 + 1, by omega, by kernel_rfl, by kernel_rfl, by kernel_rfl, rfl, rfl, ?_, ?_, ?_⟩
          · exact rl180
          · exact hr179
          · intro i' j m hi
            rcases Nat.lt_succ_iff_lt_or_eq.1 hi with hi | rfl
            · exact htri i' j m hi
            · rcases Nat.lt_or_ge j (K.fSegments.l.length + 1) with hj | hj
              · exact htri6 j m (by omega)
              · intro ri rj a b c h1 h2
                have := (hfar i' ri (by omega) h1).1
                rw [List.getElem?_eq_none (by omega)] at h2; cases h2
        ·
         exact ⟨0, by omega, by kernel_rfl, by kernel_rfl, by kernel_rfl, by kernel_rfl, rfl, rfl, Nat.le_refl _, HE.refl _ _, (fun _ _ h => absurd h (Nat.not_lt_zero _))⟩
       ·
        have q168 := nq p166 h167
        refine WP.exit ?_
        refine sr ?_
        refine ov 2 (.int .i64 (0)) ?_
        refine WO.nil ?_
        refine WP.ret ⟨rfl, rfl, [.int .i64 (0)], by kernel_rfl, ?_⟩
        refine ⟨⟨0, rfl, ⟨fun _ => ?_, fun _ => rfl⟩, .inl rfl⟩, le165, hE162⟩
        refine ⟨by omega, by omega, fun j s hs => hseg j s (by have := (List.getElem?_eq_some_iff.1 hs).1; omega) hs, fun j r hr => hfar j r (by have := (List.getElem?_eq_some_iff.1 hr).1; omega) hr, fun i j m => ?_⟩
        rcases Nat.lt_or_ge i (K.fSegments.l.length + 1) with hi | hi
        · exact htri i j m (by omega)
        · intro ri rj a b c h1; rw [List.getElem?_eq_none (by omega)] at h1; cases h1
      ·
       exact ⟨0, by omega, by kernel_rfl, by kernel_rfl, by kernel_rfl, rfl, rfl, Nat.le_refl _, HE.refl _ _, (fun _ _ _ h => absurd h (Nat.not_lt_zero _))⟩
    ·
     exact ⟨0, by omega, by kernel_rfl, by kernel_rfl, by kernel_rfl, rfl, rfl, Nat.le_refl _, HE.refl _ _, (fun _ _ h => absurd h (Nat.not_lt_zero _))⟩
  ·
   exact ⟨0, by omega, by kernel_rfl, by kernel_rfl, by kernel_rfl, rfl, rfl, Nat.le_refl _, HE.refl _ _, (fun _ _ h => absurd h (Nat.not_lt_zero _))⟩
end
end Sw
