/- A part of the proof that the law returns true for every input that its row speaks of. No condition is added. -/
import Derived.Test.YtginbleelmnlpaaGreatDoorSwAE
import Derived.Test.YtginbleelmnlpaaGreatDoorProg
import Derived.KernelRfl
import Derived.Lib.IndexMore
namespace Sw
noncomputable section
open Go Go.RowKit
theorem overX_of {α : Type} : ∀ (vs cs : List α), vs.length ≤ cs.length → overX cs vs = some (vs ++ cs.drop vs.length)
  | [], cs, _ => by cases cs <;> rfl
  | v :: vs, [], h => by simp at h
  | v :: vs, c :: cs, h => by simp [overX, overX_of vs cs (by simpa using h)]
theorem spliceX_of {α : Type} : ∀ (xs rest ys : List α), ys.length ≤ rest.length → spliceX (xs ++ rest) xs.length ys = some (xs ++ (ys ++ rest.drop ys.length))
  | [], rest, ys, h => by
    have := overX_of ys rest h
    cases rest <;> simpa [spliceX] using this
  | x :: xs, rest, ys, h => by
    show (spliceX (xs ++ rest) xs.length ys).map (x :: ·) = _
    rw [spliceX_of xs rest ys h]; rfl
inductive Rm (B size N : Nat) (hp : Ht) (nx : Nat) : Value → Nat → List Value → Prop where
  | nil (h : N = 0) : Rm B size N hp nx (.slice none 0 0) 0 []
  | room {b l gr : Nat} {xs rest : List Value} (h0 : 0 < N) (hb : hp.get b = some (.cells (xs ++ rest) ⟨false, some gr, 0, size⟩)) (hg : hp.get gr = some (.group [⟨b, 0, N * size⟩])) (hn : gr ≠ b)
      (h1 : b < nx) (h2 : B ≤ b) (h3 : gr < nx) (h4 : B ≤ gr) (hl : xs.length = l * size) (hr : xs.length + rest.length = N * size) (hle : l ≤ N) : Rm B size N hp nx (.slice (some ⟨b, 0, none⟩) l N) l xs
theorem Rm.mono {B size N nx nx' l : Nat} {hp hp' : Ht} {v : Value} {xs : List Value} (h : Rm B size N hp nx v l xs) (he : HE nx hp hp') (hn : nx ≤ nx') : Rm B size N hp' nx' v l xs := by
  cases h with
  | nil h => exact .nil h
  | room h0 hb hg hne h1 h2 h3 h4 hl hr hle => exact .room h0 (he.get hb h1) (he.get hg h3) hne (by omega) h2 (by omega) h4 hl hr hle
theorem Rm.le {B B' size N nx l : Nat} {hp : Ht} {v : Value} {xs : List Value} (h : Rm B size N hp nx v l xs) (hB : B' ≤ B) : Rm B' size N hp nx v l xs := by
  cases h with
  | nil h => exact .nil h
  | room h0 hb hg hne h1 h2 h3 h4 hl hr hle => exact .room h0 hb hg hne h1 (by omega) h3 (by omega) hl hr hle
def appIn (hp : Hp) (a : Option Addr) (l m c size : Nat) (ys : List Value) : Option Eff :=
  match a, ys with
  | _, [] => some (.slice a (l + m) c, [], 0)
  | some ⟨b, off, none⟩, new => match hp b with
    | some (.cells cs mt) => (storeUps hp b cs mt (off + l * size) new).map fun u => (.slice a (l + m) c, u, 0)
    | _ => none
  | _, _ => none
theorem Rm.append {T : Ty} {B size N nx l m st xt el : Nat} {hp : Ht} {v x z : Value} {inf : TypeInfo} {xs ys : List Value} (h : Rm B size N hp nx v l xs) (hu : T.und st = some (.slice el)) (hs : T.size el = some size) (hz : T.zero el = some z) (hi : T.info el = some inf)
    (hx : appN T xt x = some (m, false)) (hsrc : srcCells hp.get (m * size) x = some ys) (hstr : strOk size x = true) (hys : ys.length = m * size) (hone : ys.all one = true) (hsz : 0 < size) (hlm : l + m ≤ N)
    (b1 : (l + m) * inf.bytes ≤ 70368744177664) (b2 : inf.bytes ≤ 1073741824) (b3 : l + m ≤ 70368744177664) :
    ∃ v' ups, eAppend T hp.get st xt v x nx = some (v', ups, 0) ∧ Rm B size N (setAll ups hp) nx v' (l + m) (xs ++ ys) ∧ HE B hp (setAll ups hp) := by
  have e1 : ∀ a c, l + m ≤ c → eAppend T hp.get st xt (.slice a l c) x nx = appIn hp.get a l m c size ys := fun a c hc => by
    have : (eAppend T hp.get st xt (.slice a l c) x nx) = appIn hp.get a l m c size ys := by
      simp only [eAppend, hu, hs, hz, hi, hx, newCells, cond_false, hstr, cond_true, hsrc, Option.bind_some, hone, Nat.ble_eq_true_of_le b1, Nat.ble_eq_true_of_le b2, Nat.ble_eq_true_of_le b3, Bool.and_true, Nat.ble_eq_true_of_le hc]
      cases a <;> cases ys <;> rfl
    exact this
  cases h with
  | nil h =>
    obtain rfl : m = 0 := by omega
    obtain rfl : ys = [] := List.eq_nil_of_length_eq_zero (by omega)
    refine ⟨_, _, (e1 none 0 (by omega)).trans rfl, .nil h, HE.refl _ _⟩
  | @room b _ gr _ rest h0 hb hg hne h1 h2 h3 h4 hl hr hle =>
    cases ys with
    | nil =>
      obtain rfl : m = 0 := by
        rcases Nat.eq_zero_or_pos m with h | h
        · exact h
        · have := Nat.mul_pos h hsz; simp at hys; omega
      refine ⟨_, _, (e1 (some ⟨b, 0, none⟩) N (by omega)).trans rfl, ?_, HE.refl _ _⟩
      rw [List.append_nil]
      exact .room h0 hb hg hne h1 h2 h3 h4 hl hr hle
    | cons y ys =>
      have hlen : (y :: ys).length ≤ rest.length := by
        have : (l + m) * size ≤ N * size := Nat.mul_le_mul_right _ hlm
        rw [Nat.add_mul] at this; omega
      have hov : ∀ lo hi, overlaps b lo hi ⟨b, 0, N * size⟩ = false := fun lo hi => by
        simp [overlaps]
      have hst : storeUps hp.get b (xs ++ rest) ⟨false, some gr, 0, size⟩ (0 + l * size) (y :: ys) = some [(gr, some (.group [⟨b, 0, N * size⟩])), (b, some (.cells (xs ++ (y :: ys ++ rest.drop (y :: ys).length)) ⟨false, some gr, 0, size⟩))] := by
        have hsp : spliceX (xs ++ rest) (0 + l * size) (y :: ys) = some (xs ++ (y :: ys ++ rest.drop (y :: ys).length)) := by
          rw [Nat.zero_add, ← hl]; exact spliceX_of xs rest (y :: ys) hlen
        simp only [storeUps, hsp, cond_false, Option.bind_some, hg, noGroups, kills, List.filter_cons, List.filter_nil, hov, Bool.false_eq_true, if_false, List.all_nil, cond_true, List.map_nil, List.nil_append, Bool.not_false, if_true]
      refine ⟨.slice (some ⟨b, 0, none⟩) (l + m) N, [(gr, some (.group [⟨b, 0, N * size⟩])), (b, some (.cells (xs ++ (y :: ys ++ rest.drop (y :: ys).length)) ⟨false, some gr, 0, size⟩))], (e1 (some ⟨b, 0, none⟩) N hlm).trans (by simp only [appIn, hb, hst, Option.map_some]), ?_, ?_⟩
      · simp only [setAll]
        refine .room (rest := rest.drop (y :: ys).length) h0 (by rw [List.append_assoc]; exact Tr.get_same ..) ((Tr.get_other _ _ (by omega)).trans (Tr.get_same ..)) hne h1 h2 h3 h4 (by rw [List.length_append, hl, hys, Nat.add_mul]) ?_ hlm
        rw [List.length_append, List.length_drop]; omega
      · exact (HE.set _ _ h4).trans (HE.set _ _ h2) (Nat.le_refl _)
section
variable {e : Env} {fm : Fm} {to : Tm} {ds : List Deferred} {hp : Ht} {nx : Nat} {cs0 : List Nat} {Q : St → Prop} {all : List Oper} {d : Tmp} {ty : TypeId} {pos : String} {aft : Array Edge}
end
theorem zeros_len (c : List Value) : ∀ n, (repC n c).length = n * c.length
  | 0 => by simp [repC]
  | n + 1 => by simp only [repC, List.length_append, zeros_len c n, Nat.succ_mul]; omega
theorem Rm.fresh {hp : Ht} {nx n size : Nat} {c : List Value} (h0 : 0 < n) (hc : c.length = size) : Rm nx size n (setAll [(nx, some (AObj.group [⟨nx + 1, 0, (repC n c).length⟩])), (nx + 1, some (AObj.cells (repC n c) ⟨false, some nx, 0, size⟩))] hp) (nx + 2) (.slice (some ⟨nx + 1, 0, none⟩) 0 n) 0 [] := by
  simp only [setAll]
  have hl : (repC n c).length = n * size := by rw [zeros_len, hc]
  refine .room (gr := nx) (rest := repC n c) h0 (Tr.get_same ..) (by rw [← hl]; exact (Tr.get_other _ _ (by omega)).trans (Tr.get_same ..)) (by omega) (by omega) (by omega) (by omega) (by omega) (by simp) (by simpa using hl) (Nat.zero_le _)
theorem flat_len {α : Type} {enc : α → List Value} {n : Nat} : ∀ (l : List α), (∀ y ∈ l, (enc y).length = n) → (l.flatMap enc).length = l.length * n
  | [], _ => by simp
  | y :: l, h => by
    rw [List.flatMap_cons, List.length_append, flat_len l (fun z hz => h z (List.mem_cons_of_mem _ hz)), h y (List.mem_cons_self ..), List.length_cons, Nat.succ_mul]; omega
theorem Rm.ok {α : Type} {enc : α → List Value} {B n N l : Nat} {hp : Ht} {nx : Nat} {v : Value} {xs : List Value} {L : List α} (h : Rm B n N hp nx v l xs) (hl : l = N) (hx : xs = L.flatMap enc) (hL : L.length = N) (he : ∀ x ∈ L, (enc x).length = n) (hN : N < 281474976710656) : SOk enc n hp nx ⟨v, L⟩ := by
  refine ⟨he, ?_, by show L.length < _; omega⟩
  cases h with
  | nil h => exact .inl ⟨List.eq_nil_of_length_eq_zero (show L.length = 0 by omega), .inl rfl⟩
  | @room b _ gr _ rest h0 hb hg hne h1 h2 h3 h4 hl' hr hle =>
    subst hl
    have : rest = [] := List.eq_nil_of_length_eq_zero (by omega)
    subst this
    rw [List.append_nil, hx] at hb
    exact .inr ⟨b, l, _, by rw [hL], h0, h1, hb⟩
theorem SOk.src {α : Type} {enc : α → List Value} {n : Nat} {hp : Ht} {nx : Nat} {s : SV α} {a : Option Addr} {k c : Nat} (h : SOk enc n hp nx s) (hv : s.v = .slice a k c) : srcCells hp.get (s.l.length * n) (.slice a k c) = some (s.l.flatMap enc) := by
  have hlen := flat_len s.l h.1
  rcases h.2.1 with ⟨h1, h2⟩ | ⟨b, cap, m, h1, h2, h3, h4⟩
  · rw [h1, List.length_nil, Nat.zero_mul]
    rcases h2 with h2 | h2 <;> (rw [hv] at h2; cases h2; rfl)
  · rw [hv] at h1; cases h1
    cases hq : s.l.length * n with
    | zero => rw [hq] at hlen; rw [List.eq_nil_of_length_eq_zero hlen]; rfl
    | succ q =>
      show (match hp.get b with | some (.cells cs _) => takeX (q + 1) (cs.drop 0) | _ => none) = _
      rw [h4]
      exact takeX_all _ _ (by rw [List.drop_zero, hlen, hq])
def Gro {α : Type} (enc : α → List Value) (n B : Nat) (hp : Ht) (nx : Nat) (J : SV α) : Prop := Sl B n hp nx J.v J.l.length (J.l.flatMap enc) ∧ (J.l = [] → J.v = .slice none 0 0)
theorem Sl.view {B n nx l : Nat} {hp : Ht} {v : Value} {xs : List Value} (h : Sl B n hp nx v l xs) : (v = .slice none 0 0 ∧ l = 0 ∧ xs = []) ∨ ∃ b m, v = .slice (some ⟨b, 0, none⟩) l l ∧ hp.get b = some (.cells xs m) ∧ b < nx := by
  cases h with
  | nil => exact .inl ⟨rfl, rfl, rfl⟩
  | plain hb hm h h0 hl => exact .inr ⟨_, _, rfl, hb, h⟩
  | grown hb hg hms h h0 h2 h3 hl => exact .inr ⟨_, _, rfl, hb, h⟩
section
variable {α : Type} {enc : α → List Value} {n B : Nat} {hp hp' : Ht} {nx nx' : Nat} {J : SV α}
theorem Gro.nil : Gro enc n B hp nx ⟨.slice none 0 0, []⟩ := ⟨.nil, fun _ => rfl⟩
theorem Gro.mono (h : Gro enc n B hp nx J) (he : HE nx hp hp') (hn : nx ≤ nx') : Gro enc n B hp' nx' J := ⟨h.1.mono he hn, h.2⟩
theorem Gro.ok (h : Gro enc n B hp nx J) (he : ∀ x ∈ J.l, (enc x).length = n) (hs : J.l.length < 281474976710656) : SOk enc n hp nx J := by
  refine ⟨he, ?_, hs⟩
  rcases Nat.eq_zero_or_pos J.l.length with h0 | h0
  · have := List.eq_nil_of_length_eq_zero h0
    exact .inl ⟨this, .inl (h.2 this)⟩
  · rcases h.1.view with ⟨_, h1, _⟩ | ⟨b, m, h1, h2, h3⟩
    · omega
    · exact .inr ⟨b, _, m, h1, h0, h3, h2⟩
end
section
variable {e : Env} {fm : Fm} {to : Tm} {ds : List Deferred} {hp : Ht} {nx : Nat} {cs0 : List Nat} {Q : St → Prop} {all : List Oper} {d : Tmp} {ty : TypeId} {pos : String} {aft : Array Edge}
end
theorem getRes_cellTmp {T : Ty} {hp : Hp} {t : Tm} {a i : Nat} {ty : TypeId} {v w : Value} (h : eLoad T hp ty ((opd (.tmp a)).run t) = some v) (hw : (opd (.tmp i)).run t = w) : getRes T hp t [.cell a ty, .tmp i] = some [v, w] := by
  simp only [getRes, h, hw]
end
end Sw

namespace Sw
noncomputable section
open Go Go.RowKit
def GroG {α : Type} (enc : α → List Value) (n B gr : Nat) (hp : Ht) (nx : Nat) (J : SV α) : Prop :=
  (J.l = [] ∧ J.v = .slice none 0 0) ∨ ∃ b ms, J.v = .slice (some ⟨b, 0, none⟩) J.l.length J.l.length ∧ 0 < J.l.length ∧ hp.get b = some (.cells (J.l.flatMap enc) ⟨false, some gr, 0, n⟩) ∧ hp.get gr = some (.group ms) ∧ (∀ e ∈ ms, e.base + e.len ≤ (J.l.flatMap enc).length)
    ∧ b < nx ∧ B ≤ b ∧ gr < nx ∧ B ≤ gr
section
variable {α : Type} {enc : α → List Value} {n B gr : Nat} {hp hp' : Ht} {nx nx' : Nat} {J : SV α}
theorem GroG.nil : GroG enc n B gr hp nx ⟨.slice none 0 0, []⟩ := .inl ⟨rfl, rfl⟩
theorem GroG.mono (h : GroG enc n B gr hp nx J) (he : HE nx hp hp') (hn : nx ≤ nx') : GroG enc n B gr hp' nx' J := by
  rcases h with h | ⟨b, ms, h1, h2, h3, h4, h5, h6, h7, h8, h9⟩
  · exact .inl h
  · exact .inr ⟨b, ms, h1, h2, he.get h3 h6, he.get h4 h8, h5, by omega, h7, by omega, h9⟩
theorem GroG.other {g2 : Nat} {E : Prop} (h : GroG enc n B gr hp nx J) (hn : nx ≤ nx') (he : ∀ c, c < nx → (E → c ≠ g2) → hp'.get c = hp.get c) (hg : ∃ ms, E → hp.get g2 = some (.group ms)) (hd : J.l = [] ∨ ¬ E ∨ gr ≠ g2) : GroG enc n B gr hp' nx' J := by
  rcases h with h | ⟨b, ms, h1, h2, h3, h4, h5, h6, h7, h8, h9⟩
  · exact .inl h
  · have hne : J.l ≠ [] := fun k => by rw [k] at h2; simp at h2
    obtain ⟨m2, hg⟩ := hg
    refine .inr ⟨b, ms, h1, h2, (he b h6 fun k e => ?_).trans h3, (he gr h8 fun k e => ?_).trans h4, h5, by omega, h7, by omega, h9⟩
    · rw [e, hg k] at h3; cases h3
    · rcases hd with hd | hd | hd
      · exact hne hd
      · exact hd k
      · exact hd e
theorem GroG.group (h : GroG enc n B gr hp nx J) : ∃ ms, J.l ≠ [] → hp.get gr = some (.group ms) := by
  rcases h with h | ⟨b, ms, h1, h2, h3, h4, _⟩
  · exact ⟨[], fun k => absurd h.1 k⟩
  · exact ⟨ms, fun _ => h4⟩
theorem GroG.ok (h : GroG enc n B gr hp nx J) (he : ∀ x ∈ J.l, (enc x).length = n) (hs : J.l.length < 281474976710656) : SOk enc n hp nx J := by
  refine ⟨he, ?_, hs⟩
  rcases h with h | ⟨b, ms, h1, h2, h3, h4, h5, h6, _⟩
  · exact .inl ⟨h.1, .inl h.2⟩
  · exact .inr ⟨b, _, _, h1, h2, h6, h3⟩
theorem GroG.append {T : Ty} {st el : Nat} {x z : Value} {inf : TypeInfo} (a : α) (h : GroG enc n B gr hp nx J) (hlen : ∀ y ∈ J.l, (enc y).length = n) (hu : T.und st = some (.slice el)) (hs : T.size el = some n) (hz : T.zero el = some z) (hi : T.info el = some inf)
    (hx : appN T st x = some (1, false)) (hsrc : srcCells hp.get (1 * n) x = some (enc a)) (hstr : strOk n x = true) (hys : (enc a).length = n) (hone : (enc a).all one = true)
    (b1 : (J.l.length + 1) * inf.bytes ≤ 70368744177664) (b2 : inf.bytes ≤ 1073741824) (b3 : J.l.length + 1 ≤ 70368744177664) (hB : B ≤ nx) :
    ∃ v' ups k gr', eAppend T hp.get st st J.v x nx = some (v', ups, k) ∧ GroG enc n B gr' (setAll ups hp) (nx + k) ⟨v', J.l ++ [a]⟩ ∧ (∀ c, c < nx → (J.l ≠ [] → c ≠ gr) → (setAll ups hp).get c = hp.get c) ∧ ((J.l ≠ [] ∧ gr' = gr) ∨ nx ≤ gr') := by
  have hble : Nat.ble (J.l.length + 1) J.l.length = false := by
    cases hb : Nat.ble (J.l.length + 1) J.l.length with
    | false => rfl
    | true => have := Nat.le_of_ble_eq_true hb; omega
  have e1 : ∀ a', eAppend T hp.get st st (.slice a' J.l.length J.l.length) x nx = growUps hp.get a' J.l.length n (enc a) 1 nx := fun a' => by
    simp only [eAppend, hu, hs, hz, hi, hx, newCells, cond_false, hstr, cond_true, hsrc, Option.bind_some, hone, Nat.ble_eq_true_of_le b1, Nat.ble_eq_true_of_le b2, Nat.ble_eq_true_of_le b3, Bool.and_true, hble]
  have hl := flat_len J.l hlen
  have hfl : (J.l ++ [a]).flatMap enc = J.l.flatMap enc ++ enc a := by simp
  have hll : (J.l ++ [a]).length = J.l.length + 1 := by simp
  rcases h with ⟨h1, h2⟩ | ⟨b, ms, h1, h2, hb, hg, hms, hlt, hB', h3, h4⟩
  · have h0 : J.l.length = 0 := by rw [h1]; rfl
    have e2 := e1 none
    rw [h0] at e2
    rw [h2]
    refine ⟨_, _, _, nx, e2, .inr ⟨nx + 1, _, by rw [hll, h0], by rw [hll]; omega, ?_, (Tr.get_other _ _ (by omega)).trans (Tr.get_same ..), fun e he => ?_, by omega, by omega, by omega, hB⟩, fun c hc _ => ?_, .inr (Nat.le_refl _)⟩
    · rw [hfl, h1]; exact Tr.get_same ..
    · rw [List.mem_singleton.1 he, hfl, h1]; simp
    · exact (Tr.get_other _ _ (by omega)).trans (Tr.get_other _ _ (by omega))
  · have hbey : ∀ e ∈ ms, beyond (0 + 0 + J.l.length * n) e = false := fun e he => by
      have := hms e he
      cases hq : beyond (0 + 0 + J.l.length * n) e with
      | false => rfl
      | true =>
        unfold beyond at hq
        have := blt_iff.1 hq
        omega
    have f1 : ms.filter (beyond (0 + 0 + J.l.length * n)) = [] := by
      rw [List.filter_eq_nil_iff]; intro e he; rw [hbey e he]; simp
    have f2 : (ms.filter fun e => !(beyond (0 + 0 + J.l.length * n) e)) = ms := by
      rw [List.filter_eq_self]; intro e he; rw [hbey e he]; rfl
    have e2 : growUps hp.get (some ⟨b, 0, none⟩) J.l.length n (enc a) 1 nx = some (.slice (some ⟨nx, 0, none⟩) (J.l.length + 1) (J.l.length + 1),
          [(gr, some (AObj.group (ms ++ [⟨nx, 0, (J.l.flatMap enc ++ enc a).length⟩]))), (nx, some (AObj.cells (J.l.flatMap enc ++ enc a) ⟨false, some gr, 0, n⟩))], 1) := by
      simp only [growUps_eq, hb, old_all _ _ hl, Option.bind_some, hg, noGroups, f1, List.all_nil, Bool.not_false, Nat.beq_refl, Bool.and_true, cond_true, kills, List.map_nil, List.nil_append, f2]
    have hne : J.l ≠ [] := fun k => by rw [k] at h2; simp at h2
    rw [h1]
    refine ⟨_, _, _, gr, (e1 _).trans e2, .inr ⟨nx, _, by rw [hll], by rw [hll]; omega, ?_, (Tr.get_other _ _ (by omega)).trans (Tr.get_same ..), fun e he => ?_, by omega, hB, by omega, h4⟩, fun c hc hd => ?_, .inl ⟨hne, rfl⟩⟩
    · rw [hfl]; exact Tr.get_same ..
    · rw [hfl]
      rcases List.mem_append.1 he with he | he
      · have := hms e he; rw [List.length_append]; omega
      · rw [List.mem_singleton.1 he]; simp
    · exact (Tr.get_other _ _ (by omega)).trans (Tr.get_other _ _ (hd hne))
end
section
variable {e : Env} {fm : Fm} {to : Tm} {ds : List Deferred} {hp : Ht} {nx : Nat} {cs0 : List Nat} {Q : St → Prop} {all : List Oper} {d : Tmp} {ty : TypeId} {pos : String} {aft : Array Edge}
end
end
end Sw

namespace Sw
noncomputable section
open Go Go.RowKit
section
variable {e : Env} {fm : Fm} {to : Tm} {ds : List Deferred} {hp : Ht} {nx : Nat} {cs0 : List Nat} {Q : St → Prop} {all os : List Oper} {o : Oper} {i j : Nat} {w : Bool} {d : Tmp} {op : Op} {ty : TypeId} {pos : String} {aft : Array Edge} {l : List Cl}
theorem ov (d : Nat) (v : Value) (q : WO e fm (compOps all os) ⟨to.set d v, ds, hp, nx, cs0⟩ Q) (h : ∀ rec cs k, (compOp all o).run e rec fm to ds hp nx cs k = k ⟨to.set d v, ds, hp, nx, cs⟩ := by intros; kernel_rfl) : WO e fm (compOps all (o :: os)) ⟨to, ds, hp, nx, cs0⟩ Q := .cons (.val d v h q)
theorem nv (d : Nat) (v : Value) (q : WN e fm l ⟨to.set d v, ds, hp, nx, cs0⟩ Q) (h : ∀ rec cs k, (compAt all i).run e rec fm to ds hp nx cs k = k ⟨to.set d v, ds, hp, nx, cs⟩ := by intros; kernel_rfl) : WN e fm (compAt all i :: l) ⟨to, ds, hp, nx, cs0⟩ Q := .cons (.val d v h q)
theorem ogc (t : Tmp) (b : Bool) (v x : Value) (hw : wantedE w x = b) (h1 : b = true → WC e fm (compOp all ⟨some d, op, ty, pos, aft, none⟩) ⟨to, ds, hp, nx, cs0⟩ fun s => s = ⟨to.set d v, ds, hp, nx, cs0⟩)
    (q : WO e fm (compOps all os) ⟨to.set d (bif b then v else undef), ds, hp, nx, cs0⟩ Q) (hg : guardC all j = some (opd (.tmp t)) := by rfl) (hx : (opd (.tmp t)).run to = x := by kernel_rfl) : WO e fm (compOps all (⟨some d, op, ty, pos, aft, some (j, w)⟩ :: os)) ⟨to, ds, hp, nx, cs0⟩ Q := .cons (.gd b v x hg hx hw h1 q)
theorem og (t : Tmp) (b : Bool) (v x : Value) (hw : wantedE w x = b) (h1 : b = true → ∀ rec cs k, (compOp all ⟨some d, op, ty, pos, aft, none⟩).run e rec fm to ds hp nx cs k = k ⟨to.set d v, ds, hp, nx, cs⟩)
    (q : WO e fm (compOps all os) ⟨to.set d (bif b then v else undef), ds, hp, nx, cs0⟩ Q) (hg : guardC all j = some (opd (.tmp t)) := by rfl) (hx : (opd (.tmp t)).run to = x := by kernel_rfl) : WO e fm (compOps all (⟨some d, op, ty, pos, aft, some (j, w)⟩ :: os)) ⟨to, ds, hp, nx, cs0⟩ Q := .cons (.gd b v x hg hx hw (fun hb => .val d v (h1 hb) rfl) q)
theorem ngc (hn : nthO i all = some ⟨some d, op, ty, pos, aft, some (j, w)⟩) (t : Tmp) (b : Bool) (v x : Value) (hw : wantedE w x = b) (h1 : b = true → WC e fm (compOp all ⟨some d, op, ty, pos, aft, none⟩) ⟨to, ds, hp, nx, cs0⟩ fun s => s = ⟨to.set d v, ds, hp, nx, cs0⟩)
    (q : WN e fm l ⟨to.set d (bif b then v else undef), ds, hp, nx, cs0⟩ Q) (hg : guardC all j = some (opd (.tmp t)) := by rfl) (hx : (opd (.tmp t)).run to = x := by kernel_rfl) : WN e fm (compAt all i :: l) ⟨to, ds, hp, nx, cs0⟩ Q := .consAt hn (.gd b v x hg hx hw h1 q)
theorem ng (hn : nthO i all = some ⟨some d, op, ty, pos, aft, some (j, w)⟩) (t : Tmp) (b : Bool) (v x : Value) (hw : wantedE w x = b) (h1 : b = true → ∀ rec cs k, (compOp all ⟨some d, op, ty, pos, aft, none⟩).run e rec fm to ds hp nx cs k = k ⟨to.set d v, ds, hp, nx, cs⟩)
    (q : WN e fm l ⟨to.set d (bif b then v else undef), ds, hp, nx, cs0⟩ Q) (hg : guardC all j = some (opd (.tmp t)) := by rfl) (hx : (opd (.tmp t)).run to = x := by kernel_rfl) : WN e fm (compAt all i :: l) ⟨to, ds, hp, nx, cs0⟩ Q := .consAt hn (.gd b v x hg hx hw (fun hb => .val d v (h1 hb) rfl) q)
theorem cg {l : List Chk} (hn : nthO i all = some ⟨some d, op, ty, pos, aft, some (j, w)⟩) (t : Tmp) (b : Bool) (v x : Value) (hw : wantedE w x = b) (h1 : b = true → ∀ k, (chkOp ⟨some d, op, ty, pos, aft, none⟩).run e.T hp nx to k = k) (hl : Chks e l ⟨to, ds, hp, nx, cs0⟩)
    (hg : guardC all j = some (opd (.tmp t)) := by rfl) (hx : (opd (.tmp t)).run to = x := by kernel_rfl) (hd : to.get d = (bif b then v else undef) := by kernel_rfl) : Chks e (chkAt all i :: l) ⟨to, ds, hp, nx, cs0⟩ := .cons (chkAtG b v x hn hg hx hw hd h1) hl
theorem cv {c : Chk} {l : List Chk} (v : Value) (hv : vEq 8 v v = true) (hl : Chks e l ⟨to, ds, hp, nx, cs0⟩) (h : ∀ k, c.run e.T hp nx to k = bif vEq 8 v v then k else .need 0 := by intros; kernel_rfl) : Chks e (c :: l) ⟨to, ds, hp, nx, cs0⟩ := .val v h hv hl
theorem co {c : Chk} {l : List Chk} (v : Value) (x : Option Value) (ho : x = some v) (hv : vEq 8 v v = true) (hl : Chks e l ⟨to, ds, hp, nx, cs0⟩) (h : ∀ k, c.run e.T hp nx to k = optV x (fun y => bif vEq 8 y v then k else .need 0) := by intros; kernel_rfl) : Chks e (c :: l) ⟨to, ds, hp, nx, cs0⟩ := .opt v x h ho hv hl
theorem sr {id : Nat} {ops : Array Oper} {b : Code} {s : St} {W : Nat → St → Prop} (h : WO e fm (compOps ops.toList ops.toList) s fun s1 => WP e fm b s1 W) : WP e fm (.seq (.region id ops false) b) s W := .seq (.region h)
end
theorem nb {b : Bool} {P : Prop} (h : b = true ↔ P) : ∃ c : Bool, c = b ∧ (c = true ↔ P) := ⟨b, rfl, h⟩
theorem nq {c : Bool} {P : Prop} (p : c = true ↔ P) (h : c = false) : ¬ P := fun k => by rw [p.2 k] at h; cases h
theorem nf {P : Prop} (p : false = true ↔ P) : ¬ P := fun k => absurd (p.2 k) (by decide)
theorem zl {i n : Nat} (h : i < n) : 0 < n := Nat.lt_of_le_of_lt (Nat.zero_le i) h
theorem bF {a : Bool} (h : (!a) = true) : a = false := by simpa using h
end
end Sw

namespace Sw
noncomputable section
open Go Go.RowKit
theorem GC.off {b : Bool} {k : Int} {P : Prop} {nx : Nat} {hp : Ht} (h : b = false) (hk : k ≠ 0 := by decide) : GC b k P nx hp undef hp nx := by
  refine ⟨?_, Nat.le_refl _, HE.refl _ _⟩
  by_cases hP : P
  · exact ⟨0, by rw [h]; rfl, ⟨fun _ => hP, fun _ => rfl⟩, .inl rfl⟩
  · exact ⟨k, by rw [h]; rfl, ⟨fun e => absurd e hk, fun e => absurd e hP⟩, .inr rfl⟩
end
end Sw

namespace Sw
noncomputable section
open Go Go.RowKit
theorem ble0 (l : Nat) : Nat.ble 0 l = true := by cases l <;> rfl
def WV (e : Env) (fv : Value) (l : List Value) (hp : Ht) (nx : Nat) (Q : Value → Ht → Nat → Prop) : Prop :=
  ∃ v hp' nx', (∃ n0, ∀ n, n0 ≤ n → ∀ cs k, callV e (ev e n) fv l hp nx cs k = k v hp' nx' cs) ∧ Q v hp' nx'
section
variable {e : Env} {fm : Fm} {hp : Ht} {nx : Nat} {A B : Value → Ht → Nat → Prop}
theorem WV.mono {fv : Value} {l : List Value} (h : WV e fv l hp nx A) (k : ∀ v hp nx, A v hp nx → B v hp nx) : WV e fv l hp nx B := by
  obtain ⟨v, hp', nx', h1, h2⟩ := h; exact ⟨v, hp', nx', h1, k _ _ _ h2⟩
theorem WV.func {f : FuncId} {a b : Array Value} {l : List Value} (h : WF e f (a.toList ++ l ++ b.toList) hp nx A) : WV e (.func (.func f) a b) l hp nx A := by
  obtain ⟨v, hp', nx', ⟨n0, h1⟩, h2⟩ := h
  exact ⟨v, hp', nx', ⟨n0, fun n hn cs k => h1 n hn cs k⟩, h2⟩
theorem WV.yield {l : Nat} {r : _} {a b : Array Value} {asg : List Value} {t : Tm} (hl : hp.get l = some (.loop r)) (h0 : e.low = 0) (ht : setParams r.params asg r.tmps = some t)
    (h : WP e ⟨r.fn, r.nt, some l⟩ r.assign ⟨t, [], hp, nx, []⟩ fun o s1 => Nat.beq o 0 = true ∧ ∃ r1, s1.hp.get l = some (.loop r1) ∧ r1.state = .ready ∧
      WP e ⟨r.fn, r.nt, some l⟩ r.body ⟨s1.to, s1.ds, s1.hp.set l (some (.loop { r1 with state := .busy })), s1.nx, []⟩ fun o2 s2 => s2.ds = [] ∧ ∃ r2, s2.hp.get l = some (.loop r2) ∧
        A (.bool (Nat.beq o2 0)) (s2.hp.set l (some (.loop { r2 with state := (bif Nat.beq o2 0 then .ready else .done), pending := jumpOf o2 }))) s2.nx) : WV e (.func (.yield l) a b) asg hp nx A := by
  obtain ⟨o, ⟨to1, ds1, hp1, nx1, c1⟩, ⟨n1, h1⟩, ho, r1, hl1, hs1, o2, ⟨to2, ds2, hp2, nx2, c2⟩, ⟨n2, h2⟩, hd2, r2, hl2, q⟩ := h
  simp only at hl1 hd2 hl2 q
  subst hd2
  refine ⟨_, _, _, ⟨max n1 n2, fun n hn cs k => ?_⟩, q⟩
  have k1 : ev e n ⟨r.fn, r.nt, some l⟩ r.assign ⟨t, [], hp, nx, cs⟩ = .ok (o, ⟨to1, ds1, hp1, nx1, cs⟩) := h1 n (by omega) cs
  have k2 : ev e n ⟨r.fn, r.nt, some l⟩ r.body ⟨to1, ds1, hp1.set l (some (.loop { r1 with state := .busy })), nx1, cs⟩ = .ok (o2, ⟨to2, [], hp2, nx2, cs⟩) := h2 n (by omega) cs
  show roundF e (ev e n) l asg hp nx cs k = _
  simp only [roundF, hl, h0, ble0, cond_true, ht, k1, ho, hl1, hs1, k2, hl2]
end
section
variable {e : Env} {fm : Fm} {to : Tm} {ds : List Deferred} {hp : Ht} {nx : Nat} {cs0 : List Nat} {Q : St → Prop}
theorem WP.rangeFunc {fn : FuncId} {nt : Nat} {f : Operand} {params : Array Tmp} {assign body : Code} {W : Nat → St → Prop}
    (h : WV e ((opd f).run to) [.func (.yield (nx + 1)) #[] #[]] ((hp.set nx (some (.deferred (some [])))).set (nx + 1) (some (.loop ⟨.ready, none, fn, to, nt, params.toList, assign, body, nx⟩))) (nx + 1 + 1)
      fun _ hp' nx' => ∃ r o, hp'.get (nx + 1) = some (.loop r) ∧ r.state ≠ .busy ∧ outOf r.pending = some o ∧ W o ⟨to, ⟨.collected nx, #[]⟩ :: ds, hp'.set (nx + 1) (some (.loop { r with state := .exhausted })), nx', cs0⟩) :
    WP e ⟨fn, nt, none⟩ (.rangeFunc f params assign body) ⟨to, ds, hp, nx, cs0⟩ W := by
  obtain ⟨v, hp', nx', ⟨n0, h1⟩, r, o, hl, hs, ho, q⟩ := h
  refine ⟨o, _, .step ⟨n0, fun n hn cs => ?_⟩, q⟩
  show evF (.rangeFunc f params assign body) e (ev e n) ⟨fn, nt, none⟩ ⟨to, ds, hp, nx, cs⟩ = _
  have : evF (.rangeFunc f params assign body) e (ev e n) ⟨fn, nt, none⟩ ⟨to, ds, hp, nx, cs⟩ = callV e (ev e n) ((opd f).run to) [.func (.yield (nx + 1)) #[] #[]] ((hp.set nx (some (.deferred (some [])))).set (nx + 1) (some (.loop ⟨.ready, none, fn, to, nt, params.toList, assign, body, nx⟩))) (nx + 1 + 1) cs (fun _ hp nx' cs => match hp.get (nx + 1) with
          | some (.loop r) => (match r.state with
            | .busy => .need 0
            | _ => (match outOf r.pending with
              | some o => .ok (o, ⟨to, [⟨.collected nx, #[]⟩] ++ ds, hp.set (nx + 1) (some (.loop { r with state := .exhausted })), nx', cs⟩)
              | none => .need 0))
          | _ => .need 0) := rfl
  rw [this, h1 n hn]
  simp only [hl, ho]
  cases hst : r.state <;> first | rfl | exact absurd hst hs
end
end
end Sw

namespace Sw
noncomputable section
open Go Go.RowKit
theorem setAll_append : ∀ (us vs : Ups) (h : Ht), setAll (us ++ vs) h = setAll vs (setAll us h)
  | [], _, _ => rfl
  | (b, o) :: us, vs, h => setAll_append us vs (h.set b o)
theorem setNone_same {c : Nat} : ∀ (l : List Mem) (h : Ht), (∀ e ∈ l, e.blk ≠ c) → (setAll (l.map fun e => (e.blk, none)) h).get c = h.get c
  | [], _, _ => rfl
  | e :: l, h, k => by
    show (setAll (l.map fun e => (e.blk, none)) (h.set e.blk none)).get c = _
    rw [setNone_same l _ fun x hx => k x (List.mem_cons_of_mem _ hx)]
    exact Tr.get_other _ _ (k e (List.mem_cons_self ..)).symm
theorem setNone_or {c : Nat} : ∀ (l : List Mem) (h : Ht), (setAll (l.map fun e => (e.blk, none)) h).get c = none ∨ (setAll (l.map fun e => (e.blk, none)) h).get c = h.get c
  | [], _ => .inr rfl
  | e :: l, h => by
    show (setAll (l.map fun e => (e.blk, none)) (h.set e.blk none)).get c = none ∨ (setAll (l.map fun e => (e.blk, none)) (h.set e.blk none)).get c = h.get c
    rcases setNone_or (c := c) l (h.set e.blk none) with k | k
    · exact .inl k
    · by_cases hc : c = e.blk
      · subst hc; exact .inl (k.trans (Tr.get_same ..))
      · exact .inr (k.trans (Tr.get_other _ _ hc))
theorem overX_same {α : Type} : ∀ (us bs r : List α), us.length = bs.length → overX (us ++ r) bs = some (bs ++ r)
  | [], [], r, _ => by cases r <;> rfl
  | a :: us, b :: bs, r, h => by
    show (overX (us ++ r) bs).map (b :: ·) = _
    rw [overX_same us bs r (by simpa using h)]; rfl
  | [], _ :: _, _, h => by simp at h
  | _ :: _, [], _, h => by simp at h
theorem spliceX_app {α : Type} : ∀ (us r v : List α) (k : Nat), spliceX (us ++ r) (us.length + k) v = (spliceX r k v).map (us ++ ·)
  | [], r, v, k => by
    simp only [List.nil_append, List.length_nil, Nat.zero_add]
    cases spliceX r k v <;> rfl
  | a :: us, r, v, k => by
    have : (a :: us).length + k = (us.length + k) + 1 := by simp; omega
    rw [this]
    show (spliceX (us ++ r) (us.length + k) v).map (a :: ·) = _
    rw [spliceX_app us r v k]
    cases spliceX r k v <;> rfl
theorem splice_zero {α : Type} (l v : List α) : spliceX l 0 v = overX l v := by cases l <;> rfl
theorem splice_flat {α : Type} {enc : α → List Value} {n : Nat} (y : α) (hy : (enc y).length = n) : ∀ (L : List α) (j : Nat), (∀ x ∈ L, (enc x).length = n) → j < L.length → spliceX (L.flatMap enc) (j * n) (enc y) = some ((L.set j y).flatMap enc)
  | [], _, _, h => by simp at h
  | x :: L, 0, hl, _ => by
    rw [Nat.zero_mul, splice_zero]
    show overX (enc x ++ L.flatMap enc) (enc y) = some (enc y ++ L.flatMap enc)
    exact overX_same _ _ _ ((hl x (List.mem_cons_self ..)).trans hy.symm)
  | x :: L, j + 1, hl, h => by
    have hx := hl x (List.mem_cons_self ..)
    have : (j + 1) * n = (enc x).length + j * n := by rw [hx, Nat.succ_mul]; omega
    rw [this]
    show spliceX (enc x ++ L.flatMap enc) _ _ = some (enc x ++ (L.set j y).flatMap enc)
    rw [spliceX_app, splice_flat y hy L j (fun z hz => hl z (List.mem_cons_of_mem _ hz)) (by simpa using h)]
    rfl
def Arr {α : Type} (enc : α → List Value) (n B b gr : Nat) (hp : Ht) (nx : Nat) (L : List α) : Prop :=
  hp.get b = some (.cells (L.flatMap enc) ⟨false, some gr, 0, n⟩) ∧ (∃ ms, hp.get gr = some (.group ms) ∧ ∀ e ∈ ms, e.base + e.len ≤ (L.flatMap enc).length ∧ B ≤ e.blk ∧ e.blk < nx ∧ e.blk ≠ gr ∧ ∀ l, hp.get e.blk ≠ some (.group l)) ∧ b < nx ∧ B ≤ b ∧ gr < nx ∧ B ≤ gr
section
variable {α : Type} {enc : α → List Value} {n B b gr : Nat} {hp hp' : Ht} {nx nx' : Nat} {L : List α} {J : SV α}
theorem Arr.mono (h : Arr enc n B b gr hp nx L) (he : HE nx hp hp') (hn : nx ≤ nx') : Arr enc n B b gr hp' nx' L := by
  obtain ⟨h1, ⟨ms, h2, h3⟩, h4, h5, h6, h7⟩ := h
  refine ⟨he.get h1 h4, ⟨ms, he.get h2 h6, fun e hm => ?_⟩, by omega, h5, by omega, h7⟩
  obtain ⟨k1, k2, k3, k4, k5⟩ := h3 e hm
  exact ⟨k1, k2, by omega, k4, fun l hl => k5 l (by rw [← he e.blk k3]; exact hl)⟩
theorem Arr.ok {c : Nat} (h : Arr enc n B b gr hp nx L) (hl : ∀ x ∈ L, (enc x).length = n) (h0 : 0 < c) (hs : L.length < 281474976710656) : SOk enc n hp nx ⟨.slice (some ⟨b, 0, none⟩) L.length c, L⟩ :=
  ⟨hl, .inr ⟨b, c, _, rfl, h0, h.2.2.1, h.1⟩, hs⟩
theorem Arr.store {T : Ty} {t : TypeId} {v : Value} {j : Nat} (y : α) (h : Arr enc n B b gr hp nx L) (hl : ∀ x ∈ L, (enc x).length = n) (hj : j < L.length) (hs : T.size t = some n) (hv : v.cells.toList = enc y) (hy : (enc y).length = n) (hone : (enc y).all one = true) :
    ∃ ups, eStore T hp.get t (.pointer (some ⟨b, 0 + j * n, none⟩)) v = some ups ∧ Arr enc n B b gr (setAll ups hp) nx (L.set j y) ∧ HE B hp (setAll ups hp) := by
  obtain ⟨h1, ⟨ms, h2, h3⟩, h4, h5, h6, h7⟩ := h
  have hbg : b ≠ gr := fun e => by rw [e, h2] at h1; cases h1
  let ov := overlaps b (0 + (0 + j * n)) (0 + (0 + j * n) + (enc y).length)
  have hng : noGroups hp.get ov ms = true := List.all_eq_true.2 fun e he => by
    have := (h3 e (List.mem_filter.1 he).1).2.2.2.2
    split
    · rename_i l k; exact absurd k (this l)
    · rfl
  have hsp : spliceX (L.flatMap enc) (0 + j * n) (enc y) = some ((L.set j y).flatMap enc) := by rw [Nat.zero_add]; exact splice_flat y hy L j hl hj
  have hbk : ∀ e ∈ ms.filter ov, e.blk ≠ b := fun e he k => by
    have := (List.mem_filter.1 he).2
    simp only [ov, overlaps, k, Nat.beq_refl, Bool.not_true, Bool.false_and] at this
    cases this
  have hgk : ∀ e ∈ ms.filter ov, e.blk ≠ gr := fun e he => (h3 e (List.mem_filter.1 he).1).2.2.2.1
  have hst : eStore T hp.get t (.pointer (some ⟨b, 0 + j * n, none⟩)) v = some (kills ov ms ++ [(gr, some (.group (ms.filter fun e => !(ov e)))), (b, some (.cells ((L.set j y).flatMap enc) ⟨false, some gr, 0, n⟩))]) := by
    have hbq : (Nat.beq (enc y).length n && (enc y).all one) = true := by rw [hy, Nat.beq_refl, hone]; rfl
    simp only [eStore, h1, hs, hv, hbq, cond_true, storeUps, cond_false, hsp, Option.bind_some, h2]
    show (bif noGroups hp.get ov ms then _ else none) = _
    rw [hng]; rfl
  refine ⟨_, hst, ?_, ?_⟩
  · rw [setAll_append]
    have e0 : ∀ c, c ≠ b → c ≠ gr → (setAll [(gr, some (AObj.group (ms.filter fun e => !(ov e)))), (b, some (.cells ((L.set j y).flatMap enc) ⟨false, some gr, 0, n⟩))] (setAll (kills ov ms) hp)).get c = (setAll (kills ov ms) hp).get c := fun c c1 c2 => (Tr.get_other _ _ c1).trans (Tr.get_other _ _ c2)
    have hfl : ((L.set j y).flatMap enc).length = (L.flatMap enc).length := by
      have hl2 : ∀ x ∈ L.set j y, (enc x).length = n := fun x hx => by
        rcases List.mem_or_eq_of_mem_set hx with k | k
        · exact hl x k
        · exact k ▸ hy
      rw [flat_len L hl, flat_len (L.set j y) hl2, List.length_set]
    refine ⟨Tr.get_same .., ⟨ms.filter fun e => !(ov e), (Tr.get_other _ _ hbg.symm).trans (Tr.get_same ..), fun e he => ?_⟩, h4, h5, h6, h7⟩
    obtain ⟨k1, k2, k3, k4, k5⟩ := h3 e (List.mem_filter.1 he).1
    refine ⟨by rw [hfl]; exact k1, k2, k3, k4, fun l hl' => ?_⟩
    by_cases hb : e.blk = b
    · rw [hb] at hl'
      have : some (AObj.group l) = some (AObj.cells ((L.set j y).flatMap enc) (⟨false, some gr, 0, n⟩ : CMeta)) := hl'.symm.trans (Tr.get_same ..)
      cases this
    · rw [e0 e.blk hb k4] at hl'
      rcases setNone_or (c := e.blk) (ms.filter ov) hp with q | q
      · have := q.symm.trans hl'; cases this
      · exact k5 l (q.symm.trans hl')
  · intro c hc
    rw [setAll_append]
    refine (Tr.get_other _ _ (by omega)).trans ((Tr.get_other _ _ (by omega)).trans ?_)
    exact setNone_same (ms.filter ov) hp fun e he => by have := (h3 e (List.mem_filter.1 he).1).2.1; omega
def GroA (enc : α → List Value) (n B : Nat) (hp : Ht) (nx : Nat) (J : SV α) : Prop :=
  (J.l = [] ∧ J.v = .slice none 0 0) ∨ (0 < J.l.length ∧ ∃ b gr, J.v = .slice (some ⟨b, 0, none⟩) J.l.length J.l.length ∧ Arr enc n B b gr hp nx J.l)
theorem GroA.nil : GroA enc n B hp nx ⟨.slice none 0 0, []⟩ := .inl ⟨rfl, rfl⟩
theorem GroA.mono (h : GroA enc n B hp nx J) (he : HE nx hp hp') (hn : nx ≤ nx') : GroA enc n B hp' nx' J := by
  rcases h with h | ⟨h0, b, gr, h1, h2⟩
  · exact .inl h
  · exact .inr ⟨h0, b, gr, h1, h2.mono he hn⟩
theorem GroA.ok (h : GroA enc n B hp nx J) (he : ∀ x ∈ J.l, (enc x).length = n) (hs : J.l.length < 281474976710656) : SOk enc n hp nx J := by
  refine ⟨he, ?_, hs⟩
  rcases h with h | ⟨h0, b, gr, h1, h2⟩
  · exact .inl ⟨h.1, .inl h.2⟩
  · exact .inr ⟨b, _, _, h1, h0, h2.2.2.1, h2.1⟩
theorem GroA.append {T : Ty} {st el : Nat} {x z : Value} {inf : TypeInfo} (a : α) (h : GroA enc n B hp nx J) (hlen : ∀ y ∈ J.l, (enc y).length = n) (hu : T.und st = some (.slice el)) (hs : T.size el = some n) (hz : T.zero el = some z) (hi : T.info el = some inf)
    (hx : appN T st x = some (1, false)) (hsrc : srcCells hp.get (1 * n) x = some (enc a)) (hstr : strOk n x = true) (hys : (enc a).length = n) (hone : (enc a).all one = true)
    (b1 : (J.l.length + 1) * inf.bytes ≤ 70368744177664) (b2 : inf.bytes ≤ 1073741824) (b3 : J.l.length + 1 ≤ 70368744177664) (hB : B ≤ nx) :
    ∃ v' ups k, eAppend T hp.get st st J.v x nx = some (v', ups, k) ∧ GroA enc n B (setAll ups hp) (nx + k) ⟨v', J.l ++ [a]⟩ ∧ HE B hp (setAll ups hp) := by
  have hble : Nat.ble (J.l.length + 1) J.l.length = false := by
    cases hb : Nat.ble (J.l.length + 1) J.l.length with
    | false => rfl
    | true => have := Nat.le_of_ble_eq_true hb; omega
  have e1 : ∀ a', eAppend T hp.get st st (.slice a' J.l.length J.l.length) x nx = growUps hp.get a' J.l.length n (enc a) 1 nx := fun a' => by
    simp only [eAppend, hu, hs, hz, hi, hx, newCells, cond_false, hstr, cond_true, hsrc, Option.bind_some, hone, Nat.ble_eq_true_of_le b1, Nat.ble_eq_true_of_le b2, Nat.ble_eq_true_of_le b3, Bool.and_true, hble]
  have hl := flat_len J.l hlen
  have hfl : (J.l ++ [a]).flatMap enc = J.l.flatMap enc ++ enc a := by simp
  have hll : (J.l ++ [a]).length = J.l.length + 1 := by simp
  rcases h with ⟨h1, h2⟩ | ⟨h2, b, gr, h1, hb, ⟨ms, hg, hms⟩, hlt, hB', h3, h4⟩
  · have h0 : J.l.length = 0 := by rw [h1]; rfl
    have e2 := e1 none
    rw [h0] at e2
    rw [h2]
    refine ⟨_, _, _, e2, .inr ⟨by rw [hll]; omega, nx + 1, nx, by rw [hll, h0], ?_, ⟨[⟨nx + 1, 0, _⟩], (Tr.get_other _ _ (by omega)).trans (Tr.get_same ..), fun e he => ?_⟩, by omega, by omega, by omega, hB⟩, fun c hc => ?_⟩
    · rw [hfl, h1]; exact Tr.get_same ..
    · rw [List.mem_singleton.1 he, hfl, h1]
      refine ⟨by simp, by show B ≤ nx + 1; omega, by show nx + 1 < _; omega, by show nx + 1 ≠ nx; omega, fun l hl' => ?_⟩
      have := hl'.symm.trans (Tr.get_same ..)
      cases this
    · exact (Tr.get_other _ _ (by omega)).trans (Tr.get_other _ _ (by omega))
  · have hbey : ∀ e ∈ ms, beyond (0 + 0 + J.l.length * n) e = false := fun e he => by
      have := (hms e he).1
      cases hq : beyond (0 + 0 + J.l.length * n) e with
      | false => rfl
      | true =>
        unfold beyond at hq
        have := blt_iff.1 hq
        omega
    have f1 : ms.filter (beyond (0 + 0 + J.l.length * n)) = [] := by
      rw [List.filter_eq_nil_iff]; intro e he; rw [hbey e he]; simp
    have f2 : (ms.filter fun e => !(beyond (0 + 0 + J.l.length * n) e)) = ms := by
      rw [List.filter_eq_self]; intro e he; rw [hbey e he]; rfl
    have e2 : growUps hp.get (some ⟨b, 0, none⟩) J.l.length n (enc a) 1 nx = some (.slice (some ⟨nx, 0, none⟩) (J.l.length + 1) (J.l.length + 1),
          [(gr, some (AObj.group (ms ++ [⟨nx, 0, (J.l.flatMap enc ++ enc a).length⟩]))), (nx, some (AObj.cells (J.l.flatMap enc ++ enc a) ⟨false, some gr, 0, n⟩))], 1) := by
      simp only [growUps_eq, hb, old_all _ _ hl, Option.bind_some, hg, noGroups, f1, List.all_nil, Bool.not_false, Nat.beq_refl, Bool.and_true, cond_true, kills, List.map_nil, List.nil_append, f2]
    rw [h1]
    refine ⟨_, _, _, (e1 _).trans e2, .inr ⟨by rw [hll]; omega, nx, gr, by rw [hll], ?_, ⟨_, (Tr.get_other _ _ (by omega)).trans (Tr.get_same ..), fun e he => ?_⟩, by omega, hB, by omega, h4⟩, fun c hc => (Tr.get_other _ _ (by omega)).trans (Tr.get_other _ _ (by omega))⟩
    · rw [hfl]; exact Tr.get_same ..
    · rcases List.mem_append.1 he with he | he
      · obtain ⟨k1, k2, k3, k4, k5⟩ := hms e he
        refine ⟨by rw [hfl, List.length_append]; omega, k2, by omega, k4, fun l hl' => k5 l ?_⟩
        have : (setAll [(gr, some (AObj.group (ms ++ [⟨nx, 0, (J.l.flatMap enc ++ enc a).length⟩]))), (nx, some (AObj.cells (J.l.flatMap enc ++ enc a) ⟨false, some gr, 0, n⟩))] hp).get e.blk = hp.get e.blk := (Tr.get_other _ _ (by omega)).trans (Tr.get_other _ _ k4)
        exact this.symm.trans hl'
      · rw [List.mem_singleton.1 he]
        refine ⟨by rw [hfl]; simp, hB, by show nx < _; omega, by show nx ≠ gr; omega, fun l hl' => ?_⟩
        have := hl'.symm.trans (Tr.get_same ..)
        cases this
end
section
variable {e : Env} {fm : Fm} {to : Tm} {ds : List Deferred} {hp : Ht} {nx : Nat} {cs0 : List Nat} {Q : St → Prop} {all : List Oper} {d : Tmp} {ty : TypeId} {pos : String} {aft : Array Edge}
end
end
end Sw

namespace Sw
noncomputable section
open Go Go.RowKit
section
variable {e : Env} {fm : Fm} {to : Tm} {ds : List Deferred} {hp : Ht} {nx : Nat} {cs0 : List Nat} {Q : St → Prop} {all : List Oper} {j : Nat} {w : Bool} {d : Tmp} {op : Op} {ty : TypeId} {pos : String} {aft : Array Edge}
theorem WC.gskip {g : Od} {x : Value} (hg : guardC all j = some g) (hx : g.run to = x) (hw : wantedE w x = false) (q : Q ⟨to.set d undef, ds, hp, nx, cs0⟩) : WC e fm (compOp all ⟨some d, op, ty, pos, aft, some (j, w)⟩) ⟨to, ds, hp, nx, cs0⟩ Q :=
  .gq false (fun v hp' nx' => v = undef ∧ hp' = hp ∧ nx' = nx) x hg hx hw (fun h => by cases h) (fun _ => ⟨rfl, rfl, rfl⟩) (fun v hp' nx' ⟨h1, h2, h3⟩ => by subst h1 h2 h3; exact q)
end
def AnyI : Value → Prop := fun v => ∃ z : Int, v = .int .i64 z
def GZ (b : Bool) (nx : Nat) (hp : Ht) : Value → Ht → Nat → Prop := fun v hp' nx' => (∃ z : Int, v = (bif b then .int .i64 z else undef)) ∧ nx ≤ nx' ∧ HE nx hp hp'
theorem GZ.off {b : Bool} {nx : Nat} {hp : Ht} (h : b = false) : GZ b nx hp undef hp nx := ⟨⟨0, by rw [h]; rfl⟩, Nat.le_refl _, HE.refl _ _⟩
def IntImp (P : Prop) : Value → Prop := fun v => ∃ z : Int, v = .int .i64 z ∧ (z = 0 → P)
end
end Sw

namespace Sw
noncomputable section
open Go Go.RowKit
theorem WV.round {e : Env} {hp : Ht} {nx : Nat} {A : Value → Ht → Nat → Prop} {l : Nat} {r : _} {a b : Array Value} {asg : List Value} (t : Tm) (hl : hp.get l = some (.loop r)) (h0 : e.low = 0) (hs : r.state = .ready) (ht : setParams r.params asg r.tmps = some t)
    (h : WP e ⟨r.fn, r.nt, some l⟩ r.assign ⟨t, [], hp, nx, []⟩ fun o s1 => Nat.beq o 0 = true ∧ s1.hp.get l = some (.loop r) ∧ ∀ hpB : Ht, hpB.get l = some (.loop { r with state := .busy }) → (∀ c, c ≠ l → hpB.get c = s1.hp.get c) →
      WP e ⟨r.fn, r.nt, some l⟩ r.body ⟨s1.to, s1.ds, hpB, s1.nx, []⟩ fun o2 s2 => s2.ds = [] ∧ s2.hp.get l = some (.loop { r with state := .busy }) ∧ ∀ hpC : Ht, hpC.get l = some (.loop { r with state := (bif Nat.beq o2 0 then .ready else .done), pending := jumpOf o2 }) → (∀ c, c ≠ l → hpC.get c = s2.hp.get c) → A (.bool (Nat.beq o2 0)) hpC s2.nx) : WV e (.func (.yield l) a b) asg hp nx A := by
  refine WV.yield hl h0 ht (h.mono fun o s1 ⟨k1, k2, k3⟩ => ⟨k1, r, k2, hs, (k3 _ (Tr.get_same ..) (fun c hc => Tr.get_other _ _ hc)).mono fun o2 s2 ⟨q1, q2, q3⟩ => ⟨q1, _, q2, q3 _ (Tr.get_same ..) (fun c hc => Tr.get_other _ _ hc)⟩⟩)
section
variable {α : Type} {enc : α → List Value} {n B b gr : Nat} {hp hp' : Ht} {nx nx' : Nat} {L : List α} {J : SV α}
theorem Arr.above (h : Arr enc n B b gr hp nx L) (he : ∀ c, B ≤ c → hp'.get c = hp.get c) : Arr enc n B b gr hp' nx L := by
  obtain ⟨h1, ⟨ms, h2, h3⟩, h4, h5, h6, h7⟩ := h
  refine ⟨(he _ h5).trans h1, ⟨ms, (he _ h7).trans h2, fun e hm => ?_⟩, h4, h5, h6, h7⟩
  obtain ⟨k1, k2, k3, k4, k5⟩ := h3 e hm
  exact ⟨k1, k2, k3, k4, fun l hl => k5 l (by rw [← he e.blk k2]; exact hl)⟩
theorem GroA.above (h : GroA enc n B hp nx J) (he : ∀ c, B ≤ c → hp'.get c = hp.get c) : GroA enc n B hp' nx J := by
  rcases h with h | ⟨h0, b, gr, h1, h2⟩
  · exact .inl h
  · exact .inr ⟨h0, b, gr, h1, h2.above he⟩
theorem Arr.low {B' : Nat} (h : Arr enc n B b gr hp nx L) (hB : B' ≤ B) : Arr enc n B' b gr hp nx L := by
  obtain ⟨h1, ⟨ms, h2, h3⟩, h4, h5, h6, h7⟩ := h
  exact ⟨h1, ⟨ms, h2, fun e hm => by obtain ⟨k1, k2, k⟩ := h3 e hm; exact ⟨k1, by omega, k⟩⟩, h4, by omega, h6, by omega⟩
theorem GroA.low {B' : Nat} (h : GroA enc n B hp nx J) (hB : B' ≤ B) : GroA enc n B' hp nx J := by
  rcases h with h | ⟨h0, b, gr, h1, h2⟩
  · exact .inl h
  · exact .inr ⟨h0, b, gr, h1, h2.low hB⟩
end
end
end Sw

namespace Sw
noncomputable section
open Go Go.RowKit
section
variable {α : Type} {enc : α → List Value} {n B : Nat} {hp hp' : Ht} {nx nx' : Nat} {J : SV α}
theorem GroA.appendL {T : Ty} {st xt el : Nat} {x z : Value} {inf : TypeInfo} (L2 : List α) (h : GroA enc n B hp nx J) (hlen : ∀ y ∈ J.l, (enc y).length = n) (hu : T.und st = some (.slice el)) (hs : T.size el = some n) (hz : T.zero el = some z) (hi : T.info el = some inf)
    (hx : appN T xt x = some (L2.length, false)) (hsrc : srcCells hp.get (L2.length * n) x = some (L2.flatMap enc)) (hstr : strOk n x = true) (hys : ∀ y ∈ L2, (enc y).length = n) (hone : (L2.flatMap enc).all one = true) (h0n : 0 < n)
    (b1 : (J.l.length + L2.length) * inf.bytes ≤ 70368744177664) (b2 : inf.bytes ≤ 1073741824) (b3 : J.l.length + L2.length ≤ 70368744177664) (hB : B ≤ nx) :
    ∃ v' ups k, eAppend T hp.get st xt J.v x nx = some (v', ups, k) ∧ GroA enc n B (setAll ups hp) (nx + k) ⟨v', J.l ++ L2⟩ ∧ HE B hp (setAll ups hp) := by
  rcases Nat.eq_zero_or_pos L2.length with hm | hm
  · obtain rfl := List.eq_nil_of_length_eq_zero hm
    have e0 : ∀ a', eAppend T hp.get st xt (.slice a' J.l.length J.l.length) x nx = some (.slice a' (J.l.length + 0) J.l.length, [], 0) := fun a' => by
      have b1' : (J.l.length + 0) * inf.bytes ≤ 70368744177664 := b1
      have b3' : J.l.length + 0 ≤ 70368744177664 := b3
      have hx' : appN T xt x = some (0, false) := hx
      have hsrc' : srcCells hp.get (0 * n) x = some [] := hsrc
      simp only [eAppend, hu, hs, hz, hi, hx', newCells, cond_false, hstr, cond_true, hsrc', Option.bind_some, List.all_nil, Nat.ble_eq_true_of_le b1', Nat.ble_eq_true_of_le b2, Nat.ble_eq_true_of_le b3', Bool.and_true, Nat.ble_eq_true_of_le (show J.l.length + 0 ≤ J.l.length by omega)]
    rcases h with ⟨h1, h2⟩ | ⟨h2, b, gr, h1, hb⟩
    · have e2 := e0 none
      rw [h1] at e2
      rw [h2]
      exact ⟨_, _, _, e2, .inl ⟨by rw [h1]; rfl, rfl⟩, HE.refl _ _⟩
    · rw [h1]
      refine ⟨_, _, _, e0 _, .inr ⟨by rw [List.append_nil]; exact h2, b, gr, by rw [List.append_nil]; rfl, ?_⟩, HE.refl _ _⟩
      rw [List.append_nil]; exact hb
  have hble : Nat.ble (J.l.length + L2.length) J.l.length = false := by
    cases hb : Nat.ble (J.l.length + L2.length) J.l.length with
    | false => rfl
    | true => have := Nat.le_of_ble_eq_true hb; omega
  have e1 : ∀ a', eAppend T hp.get st xt (.slice a' J.l.length J.l.length) x nx = growUps hp.get a' J.l.length n (L2.flatMap enc) L2.length nx := fun a' => by
    simp only [eAppend, hu, hs, hz, hi, hx, newCells, cond_false, hstr, cond_true, hsrc, Option.bind_some, hone, Nat.ble_eq_true_of_le b1, Nat.ble_eq_true_of_le b2, Nat.ble_eq_true_of_le b3, Bool.and_true, hble]
  have hl := flat_len J.l hlen
  have hfl : (J.l ++ L2).flatMap enc = J.l.flatMap enc ++ L2.flatMap enc := List.flatMap_append
  have hll : (J.l ++ L2).length = J.l.length + L2.length := by simp
  rcases h with ⟨h1, h2⟩ | ⟨h2, b, gr, h1, hb, ⟨ms, hg, hms⟩, hlt, hB', h3, h4⟩
  · have h0 : J.l.length = 0 := by rw [h1]; rfl
    have e2 := e1 none
    rw [h0] at e2
    rw [h2]
    refine ⟨_, _, _, e2, .inr ⟨by rw [hll]; omega, nx + 1, nx, by rw [hll, h0], ?_, ⟨[⟨nx + 1, 0, _⟩], (Tr.get_other _ _ (by omega)).trans (Tr.get_same ..), fun e he => ?_⟩, by omega, by omega, by omega, hB⟩, fun c hc => ?_⟩
    · rw [hfl, h1]; exact Tr.get_same ..
    · rw [List.mem_singleton.1 he, hfl, h1]
      refine ⟨by simp, by show B ≤ nx + 1; omega, by show nx + 1 < _; omega, by show nx + 1 ≠ nx; omega, fun l hl' => ?_⟩
      have := hl'.symm.trans (Tr.get_same ..)
      cases this
    · exact (Tr.get_other _ _ (by omega)).trans (Tr.get_other _ _ (by omega))
  · have hbey : ∀ e ∈ ms, beyond (0 + 0 + J.l.length * n) e = false := fun e he => by
      have := (hms e he).1
      cases hq : beyond (0 + 0 + J.l.length * n) e with
      | false => rfl
      | true =>
        unfold beyond at hq
        have := blt_iff.1 hq
        omega
    have f1 : ms.filter (beyond (0 + 0 + J.l.length * n)) = [] := by
      rw [List.filter_eq_nil_iff]; intro e he; rw [hbey e he]; simp
    have f2 : (ms.filter fun e => !(beyond (0 + 0 + J.l.length * n) e)) = ms := by
      rw [List.filter_eq_self]; intro e he; rw [hbey e he]; rfl
    have e2 : growUps hp.get (some ⟨b, 0, none⟩) J.l.length n (L2.flatMap enc) L2.length nx = some (.slice (some ⟨nx, 0, none⟩) (J.l.length + L2.length) (J.l.length + L2.length),
          [(gr, some (AObj.group (ms ++ [⟨nx, 0, (J.l.flatMap enc ++ L2.flatMap enc).length⟩]))), (nx, some (AObj.cells (J.l.flatMap enc ++ L2.flatMap enc) ⟨false, some gr, 0, n⟩))], 1) := by
      simp only [growUps_eq, hb, old_all _ _ hl, Option.bind_some, hg, noGroups, f1, List.all_nil, Bool.not_false, Nat.beq_refl, Bool.and_true, cond_true, kills, List.map_nil, List.nil_append, f2]
    rw [h1]
    refine ⟨_, _, _, (e1 _).trans e2, .inr ⟨by rw [hll]; omega, nx, gr, by rw [hll], ?_, ⟨_, (Tr.get_other _ _ (by omega)).trans (Tr.get_same ..), fun e he => ?_⟩, by omega, hB, by omega, h4⟩, fun c hc => (Tr.get_other _ _ (by omega)).trans (Tr.get_other _ _ (by omega))⟩
    · rw [hfl]; exact Tr.get_same ..
    · rcases List.mem_append.1 he with he | he
      · obtain ⟨k1, k2, k3, k4, k5⟩ := hms e he
        refine ⟨by rw [hfl, List.length_append]; omega, k2, by omega, k4, fun l hl' => k5 l ?_⟩
        have : (setAll [(gr, some (AObj.group (ms ++ [⟨nx, 0, (J.l.flatMap enc ++ L2.flatMap enc).length⟩]))), (nx, some (AObj.cells (J.l.flatMap enc ++ L2.flatMap enc) ⟨false, some gr, 0, n⟩))] hp).get e.blk = hp.get e.blk := (Tr.get_other _ _ (by omega)).trans (Tr.get_other _ _ k4)
        exact this.symm.trans hl'
      · rw [List.mem_singleton.1 he]
        refine ⟨by rw [hfl]; simp, hB, by show nx < _; omega, by show nx ≠ gr; omega, fun l hl' => ?_⟩
        have := hl'.symm.trans (Tr.get_same ..)
        cases this
end
section
variable {e : Env} {fm : Fm} {to : Tm} {ds : List Deferred} {hp : Ht} {nx : Nat} {cs0 : List Nat} {Q : St → Prop} {all : List Oper} {d : Tmp} {ty : TypeId} {pos : String} {aft : Array Edge}
theorem WC.appendL {α : Type} {enc : α → List Value} {st xt el : TypeId} {x y : Operand} {B n : Nat} {z w : Value} {inf : TypeInfo} {J : SV α} (L2 : List α) (hl : e.low = 0) (hx : (opd x).run to = J.v) (hy : (opd y).run to = w)
    (h : GroA enc n B hp nx J) (hlen : ∀ y ∈ J.l, (enc y).length = n) (hu : e.T.und st = some (.slice el)) (hs : e.T.size el = some n) (hz : e.T.zero el = some z) (hi : e.T.info el = some inf)
    (ha : appN e.T xt w = some (L2.length, false)) (hsrc : srcCells hp.get (L2.length * n) w = some (L2.flatMap enc)) (hstr : strOk n w = true) (hys : ∀ y ∈ L2, (enc y).length = n) (hone : (L2.flatMap enc).all one = true) (h0n : 0 < n)
    (b1 : (J.l.length + L2.length) * inf.bytes ≤ 70368744177664) (b2 : inf.bytes ≤ 1073741824) (b3 : J.l.length + L2.length ≤ 70368744177664) (hB : B ≤ nx)
    {tys : Array TypeId} (ht : tys = #[st, xt]) (q : ∀ (J' : SV α) hp' nx', J'.l = J.l ++ L2 → nx ≤ nx' → HE B hp hp' → GroA enc n B hp' nx' J' → Q ⟨to.set d J'.v, ds, hp', nx', cs0⟩) :
    WC e fm (compOp all ⟨some d, .call { callee := .builtin .append, args := #[x, y], argTypes := tys }, ty, pos, aft, none⟩) ⟨to, ds, hp, nx, cs0⟩ Q := by
  subst ht
  obtain ⟨v', ups, k, h1, h2, h3⟩ := h.appendL L2 hlen hu hs hz hi ha hsrc hstr hys hone h0n b1 b2 b3 hB
  refine .biO d (eAppend e.T hp.get st xt J.v w nx) hl (fun _ _ _ => ?_) h1 (q ⟨v', J.l ++ L2⟩ _ _ rfl (by omega) h3 h2)
  rw [← hx, ← hy]; rfl
theorem WC.append1L {α : Type} {enc : α → List Value} {st el : TypeId} {x y : Operand} {B n : Nat} {z : Value} {inf : TypeInfo} {ys : List Value} {b : Nat} {cm : CMeta} {J : SV α} (a : α) (hl : e.low = 0) (hx : (opd x).run to = J.v) (hy : (opd y).run to = .slice (some ⟨b, 0, none⟩) 1 1)
    (h : GroA enc n B hp nx J) (hlen : ∀ y ∈ J.l, (enc y).length = n) (hb : hp.get b = some (.cells ys cm)) (hye : ys = enc a) (hu : e.T.und st = some (.slice el)) (hs : e.T.size el = some n) (hz : e.T.zero el = some z) (hi : e.T.info el = some inf) (hys : (enc a).length = n) (hone : (enc a).all one = true) (h0n : 0 < n)
    (b1 : (J.l.length + 1) * inf.bytes ≤ 70368744177664) (b2 : inf.bytes ≤ 1073741824) (b3 : J.l.length + 1 ≤ 70368744177664) (hB : B ≤ nx)
    {tys : Array TypeId} (ht : tys = #[st, st]) (q : ∀ (J' : SV α) hp' nx', J'.l = J.l ++ [a] → nx ≤ nx' → HE B hp hp' → GroA enc n B hp' nx' J' → Q ⟨to.set d J'.v, ds, hp', nx', cs0⟩) :
    WC e fm (compOp all ⟨some d, .call { callee := .builtin .append, args := #[x, y], argTypes := tys }, ty, pos, aft, none⟩) ⟨to, ds, hp, nx, cs0⟩ Q := by
  subst hye
  have h1 : [a].flatMap enc = enc a := by simp
  refine WC.appendL [a] hl hx hy h hlen hu hs hz hi (by simp only [appN, hu]; rfl) ?_ rfl (fun y hy => by rw [List.mem_singleton.1 hy]; exact hys) (by rw [h1]; exact hone) h0n b1 b2 b3 hB ht q
  rw [h1]
  show srcCells hp.get (1 * n) _ = _
  rw [Nat.one_mul]
  cases n with
  | zero => omega
  | succ k =>
    show (match hp.get b with | some (.cells cs _) => takeX (k + 1) (cs.drop 0) | _ => none) = _
    rw [hb]
    exact takeX_all _ _ (by rw [List.drop_zero, hys])
end
section
variable {e : Env} {fm : Fm} {to : Tm} {ds : List Deferred} {hp : Ht} {nx : Nat} {cs0 : List Nat} {Q : St → Prop} {all : List Oper} {j : Nat} {w : Bool} {dst : Option Tmp} {op : Op} {ty : TypeId} {pos : String} {aft : Array Edge}
theorem WC.gmet {g : Od} {x : Value} (hg : guardC all j = some g) (hx : g.run to = x) (hw : wantedE w x = true) (h : WC e fm (compOp all ⟨dst, op, ty, pos, aft, none⟩) ⟨to, ds, hp, nx, cs0⟩ Q) : WC e fm (compOp all ⟨dst, op, ty, pos, aft, some (j, w)⟩) ⟨to, ds, hp, nx, cs0⟩ Q := by
  subst hx
  obtain ⟨s1, ⟨n0, k1⟩, hq⟩ := h
  refine ⟨s1, ⟨n0, fun n hn cs k => ?_⟩, hq⟩
  rw [guard_run dst hg, hw]
  exact k1 n hn cs k
end
theorem takeX_more {α : Type} : ∀ (m : Nat) (xs v r : List α), takeX m xs = some v → takeX m (xs ++ r) = some v
  | 0, xs, v, r, h => by cases xs <;> cases r <;> exact h
  | m + 1, [], v, r, h => by cases h
  | m + 1, x :: xs, v, r, h => by
    have h : (takeX m xs).map (x :: ·) = some v := h
    obtain ⟨w, hw, rfl⟩ := Option.map_eq_some_iff.1 h
    show (takeX m (xs ++ r)).map (x :: ·) = _
    rw [takeX_more m xs w r hw]; rfl
theorem flat_sub {α : Type} {enc : α → List Value} {n : Nat} {l : List α} {i f m : Nat} {x : α} {v : List Value} (hl : ∀ y ∈ l, (enc y).length = n) (h : l[i]? = some x) (hf : f ≤ n) (hv : takeX m ((enc x).drop f) = some v) : takeX m ((l.flatMap enc).drop (0 + i * n + f)) = some v := by
  obtain ⟨r, hr⟩ := flat_split l i x hl h
  have hx := hl x (List.mem_of_getElem? h)
  rw [Nat.zero_add, ← List.drop_drop, hr, List.drop_append_of_le_length (by omega)]
  exact takeX_more _ _ _ _ hv
theorem vEq_fn (n : Nat) (x : Array Value) {f : FuncId} (h : ∀ v ∈ x.toList, vEq n v v = true) : vEq (n + 1) (.func (.func f) #[] x) (.func (.func f) #[] x) = true := by
  simp only [vEq, vEqs_refl _ h, Nat.beq_refl, Bool.and_true]; rfl
section
variable {α : Type} {enc : α → List Value} {n B b c : Nat} {hp h1 h2 : Ht} {nx : Nat} {s : SV α}
theorem HE.er (h : HE B h1 h2) : HE B (h1.set b none) (h2.set b none) := fun q hq => by
  by_cases k : q = b
  · subst k; rw [Tr.get_same, Tr.get_same]
  · rw [Tr.get_other _ _ k, Tr.get_other _ _ k]; exact h q hq
theorem HE.erX (h : ∀ q, q ≠ b → h2.get q = h1.get q) : HE B (h1.set b none) (h2.set b none) := fun q _ => by
  by_cases k : q = b
  · subst k; rw [Tr.get_same, Tr.get_same]
  · rw [Tr.get_other _ _ k, Tr.get_other _ _ k]; exact h q k
theorem HE.erG (h : HE B (h1.set b none) (h2.set b none)) (hc : c < B) (hn : c ≠ b) : h2.get c = h1.get c := by
  have := h c hc
  rwa [Tr.get_other _ _ hn, Tr.get_other _ _ hn] at this
theorem SOk.un (h : SOk enc n (hp.set b none) nx s) : SOk enc n hp nx s := by
  refine ⟨h.1, ?_, h.2.2⟩
  rcases h.2.1 with h | ⟨q, cap, m, h1, h2, h3, h4⟩
  · exact .inl h
  · refine .inr ⟨q, cap, m, h1, h2, h3, ?_⟩
    by_cases k : q = b
    · subst k; rw [Tr.get_same] at h4; cases h4
    · rwa [Tr.get_other _ _ k] at h4
theorem SlOk.un {E : Ht → Nat → α → Prop} (h : SlOk enc n E (hp.set b none) nx s) (hE : ∀ x, E (hp.set b none) nx x → E hp nx x) : SlOk enc n E hp nx s := ⟨h.1.un, fun x hx => hE x (h.2 x hx)⟩
end
def AnyB : Value → Prop := BoolImp True
end
end Sw

namespace Sw
noncomputable section
open Go Go.RowKit
set_option maxRecDepth 100000
inductive RCond where
  | mk (k v n : Int) (pv : Value) (pl : List RCond)
namespace RCond
def fKind : RCond → Int
  | .mk k _ _ _ _ => k
def fVar : RCond → Int
  | .mk _ v _ _ _ => v
def fN : RCond → Int
  | .mk _ _ n _ _ => n
def fParts : RCond → SV RCond
  | .mk _ _ _ pv pl => ⟨pv, pl⟩
end RCond
instance : Inhabited RCond := ⟨.mk 0 0 0 (.slice none 0 0) []⟩
def encCond (x : RCond) : List Value := [.int .i64 x.fKind, .int .i64 x.fVar, .int .i64 x.fN, x.fParts.v]
theorem RCond.part_lt {c x : RCond} (h : x ∈ c.fParts.l) : sizeOf x < sizeOf c := by
  cases c with
  | mk k v n pv pl =>
    have h : x ∈ pl := h
    have := List.sizeOf_lt_of_mem h
    simp only [RCond.mk.sizeOf_spec]; omega
def CondN : Nat → Ht → Nat → RCond → Prop
  | 0, _, _, _ => False
  | n + 1, hp, nx, c => SlOk encCond 4 (CondN n) hp nx c.fParts ∧ c.fParts.l.length * 48 ≤ 140737488351232
theorem CondN.mono : ∀ {n : Nat} {hp hp' : Ht} {nx nx' : Nat} {c : RCond}, CondN n hp nx c → HE nx hp hp' → nx ≤ nx' → CondN n hp' nx' c
  | 0, _, _, _, _, _, h, _, _ => h
  | _ + 1, _, _, _, _, _, h, he, hn => ⟨h.1.mono (fun _ h he hn => CondN.mono h he hn) he hn, h.2⟩
def RCondOk (hp : Ht) (nx : Nat) (c : RCond) : Prop := ∃ n, CondN n hp nx c
theorem RCondOk.mono {hp hp' : Ht} {nx nx' : Nat} {x : RCond} (h : RCondOk hp nx x) (he : HE nx hp hp') (hn : nx ≤ nx') : RCondOk hp' nx' x := by
  obtain ⟨n, h⟩ := h; exact ⟨n, h.mono he hn⟩
theorem RCondOk.fParts {hp : Ht} {nx : Nat} {x : RCond} (h : RCondOk hp nx x) : SlOk encCond 4 (fun hp nx y => RCondOk hp nx y) hp nx x.fParts := by
  obtain ⟨n, h⟩ := h
  cases n with
  | zero => exact h.elim
  | succ n => exact ⟨h.1.1, fun x hx => ⟨n, h.1.2 x hx⟩⟩
theorem RCondOk.len {hp : Ht} {nx : Nat} {x : RCond} (h : RCondOk hp nx x) : x.fParts.l.length * 48 ≤ 140737488351232 := by
  obtain ⟨n, h⟩ := h
  cases n with
  | zero => exact h.elim
  | succ n => exact h.2
theorem encCond_one {hp : Ht} {nx : Nat} (x : RCond) (h : RCondOk hp nx x) : (encCond x).all one = true := by
  simp only [encCond, List.all_cons, List.all_nil, one_int, h.fParts.1.one, Bool.and_true]
theorem encCond_vEqN {hp : Ht} {nx : Nat} (n : Nat) (x : RCond) (h : RCondOk hp nx x) : vEq (n + 1) (.agg (encCond x).toArray) (.agg (encCond x).toArray) = true :=
  vEq_agg n _ (by intro v hv; have hv : v ∈ encCond x := hv; simp only [encCond, List.mem_cons, List.not_mem_nil, or_false] at hv; rcases hv with rfl | rfl | rfl | rfl <;> first | exact vEq_int .. | exact h.fParts.1.eqSelf n)
theorem encCond_vEq {hp : Ht} {nx : Nat} (x : RCond) (h : RCondOk hp nx x) : vEq 8 (.agg (encCond x).toArray) (.agg (encCond x).toArray) = true := encCond_vEqN 7 x h
inductive RStep where
  | mk (k b : Int) (c : RCond) (tv : Value) (tl : List RStep) (ev : Value) (el : List RStep)
namespace RStep
def fKind : RStep → Int
  | .mk k _ _ _ _ _ _ => k
def fBy : RStep → Int
  | .mk _ b _ _ _ _ _ => b
def fCond : RStep → RCond
  | .mk _ _ c _ _ _ _ => c
def fThen : RStep → SV RStep
  | .mk _ _ _ tv tl _ _ => ⟨tv, tl⟩
def fElse : RStep → SV RStep
  | .mk _ _ _ _ _ ev el => ⟨ev, el⟩
end RStep
instance : Inhabited RStep := ⟨.mk 0 0 default (.slice none 0 0) [] (.slice none 0 0) []⟩
def encStep (x : RStep) : List Value := [.int .i64 x.fKind, .int .i64 x.fBy, .int .i64 x.fCond.fKind, .int .i64 x.fCond.fVar, .int .i64 x.fCond.fN, x.fCond.fParts.v, x.fThen.v, x.fElse.v]
theorem RStep.then_lt {s x : RStep} (h : x ∈ s.fThen.l) : sizeOf x < sizeOf s := by
  cases s with
  | mk k b c tv tl ev el =>
    have h : x ∈ tl := h
    have := List.sizeOf_lt_of_mem h
    simp only [RStep.mk.sizeOf_spec]; omega
theorem RStep.else_lt {s x : RStep} (h : x ∈ s.fElse.l) : sizeOf x < sizeOf s := by
  cases s with
  | mk k b c tv tl ev el =>
    have h : x ∈ el := h
    have := List.sizeOf_lt_of_mem h
    simp only [RStep.mk.sizeOf_spec]; omega
theorem RStep.cond_lt (s : RStep) : sizeOf s.fCond < sizeOf s := by
  cases s with
  | mk k b c tv tl ev el => simp only [RStep.mk.sizeOf_spec, RStep.fCond]; omega
def StepN : Nat → Ht → Nat → RStep → Prop
  | 0, _, _, _ => False
  | n + 1, hp, nx, s => RCondOk hp nx s.fCond ∧ SlOk encStep 8 (StepN n) hp nx s.fThen ∧ SlOk encStep 8 (StepN n) hp nx s.fElse ∧ s.fThen.l.length * 112 ≤ 140737488351232 ∧ s.fElse.l.length * 112 ≤ 140737488351232
theorem StepN.mono : ∀ {n : Nat} {hp hp' : Ht} {nx nx' : Nat} {c : RStep}, StepN n hp nx c → HE nx hp hp' → nx ≤ nx' → StepN n hp' nx' c
  | 0, _, _, _, _, _, h, _, _ => h
  | _ + 1, _, _, _, _, _, h, he, hn => ⟨h.1.mono he hn, h.2.1.mono (fun _ h he hn => StepN.mono h he hn) he hn, h.2.2.1.mono (fun _ h he hn => StepN.mono h he hn) he hn, h.2.2.2⟩
def RStepOk (hp : Ht) (nx : Nat) (c : RStep) : Prop := ∃ n, StepN n hp nx c
section
variable {hp hp' : Ht} {nx nx' : Nat} {x : RStep}
theorem RStepOk.mono (h : RStepOk hp nx x) (he : HE nx hp hp') (hn : nx ≤ nx') : RStepOk hp' nx' x := by
  obtain ⟨n, h⟩ := h; exact ⟨n, h.mono he hn⟩
theorem RStepOk.out (h : RStepOk hp nx x) : RCondOk hp nx x.fCond ∧ SlOk encStep 8 (fun hp nx y => RStepOk hp nx y) hp nx x.fThen ∧ SlOk encStep 8 (fun hp nx y => RStepOk hp nx y) hp nx x.fElse ∧ x.fThen.l.length * 112 ≤ 140737488351232 ∧ x.fElse.l.length * 112 ≤ 140737488351232 := by
  obtain ⟨n, h⟩ := h
  cases n with
  | zero => exact h.elim
  | succ n => exact ⟨h.1, ⟨h.2.1.1, fun x hx => ⟨n, h.2.1.2 x hx⟩⟩, ⟨h.2.2.1.1, fun x hx => ⟨n, h.2.2.1.2 x hx⟩⟩, h.2.2.2⟩
theorem RStepOk.fCond (h : RStepOk hp nx x) : RCondOk hp nx x.fCond := h.out.1
theorem RStepOk.fThen (h : RStepOk hp nx x) : SlOk encStep 8 (fun hp nx y => RStepOk hp nx y) hp nx x.fThen := h.out.2.1
theorem RStepOk.fElse (h : RStepOk hp nx x) : SlOk encStep 8 (fun hp nx y => RStepOk hp nx y) hp nx x.fElse := h.out.2.2.1
theorem RStepOk.len (h : RStepOk hp nx x) : x.fThen.l.length * 112 ≤ 140737488351232 ∧ x.fElse.l.length * 112 ≤ 140737488351232 := h.out.2.2.2
end
theorem encStep_one {hp : Ht} {nx : Nat} (x : RStep) (h : RStepOk hp nx x) : (encStep x).all one = true := by
  simp only [encStep, List.all_cons, List.all_nil, one_int, h.fCond.fParts.1.one, h.fThen.1.one, h.fElse.1.one, Bool.and_true]
theorem CondN.un {b : Nat} : ∀ {n : Nat} {hp : Ht} {nx : Nat} {c : RCond}, CondN n (hp.set b none) nx c → CondN n hp nx c
  | 0, _, _, _, h => h
  | _ + 1, _, _, _, h => ⟨h.1.un fun _ h => CondN.un h, h.2⟩
theorem RCondOk.un {b : Nat} {hp : Ht} {nx : Nat} {c : RCond} (h : RCondOk (hp.set b none) nx c) : RCondOk hp nx c := by
  obtain ⟨n, h⟩ := h; exact ⟨n, h.un⟩
theorem StepN.un {b : Nat} : ∀ {n : Nat} {hp : Ht} {nx : Nat} {c : RStep}, StepN n (hp.set b none) nx c → StepN n hp nx c
  | 0, _, _, _, h => h
  | _ + 1, _, _, _, h => ⟨h.1.un, h.2.1.un fun _ h => StepN.un h, h.2.2.1.un fun _ h => StepN.un h, h.2.2.2⟩
theorem RStepOk.un {b : Nat} {hp : Ht} {nx : Nat} {c : RStep} (h : RStepOk (hp.set b none) nx c) : RStepOk hp nx c := by
  obtain ⟨n, h⟩ := h; exact ⟨n, h.un⟩
def CondZero (c : RCond) : Prop := c.fKind = 0 ∧ c.fVar = 0 ∧ c.fN = 0 ∧ c.fParts.l = []
inductive VCond : RCond → Prop where
  | leaf {c : RCond} (k : c.fKind = 1) (v : 1 ≤ c.fVar ∧ c.fVar ≤ 3) (n : 0 ≤ c.fN ∧ c.fN ≤ 10000) (p : c.fParts.l = []) : VCond c
  | neg {c : RCond} (k : c.fKind = 4) (v : c.fVar = 0) (n : c.fN = 0) (p : c.fParts.l.length = 1) (h : ∀ x ∈ c.fParts.l, VCond x) : VCond c
  | many {c : RCond} (k : c.fKind = 2 ∨ c.fKind = 3) (v : c.fVar = 0) (n : c.fN = 0) (p : 0 < c.fParts.l.length ∧ c.fParts.l.length ≤ 16) (h : ∀ x ∈ c.fParts.l, VCond x) : VCond c
inductive VStep : RStep → Prop where
  | one {s : RStep} (k : s.fKind = 1) (b : 1 ≤ s.fBy ∧ s.fBy ≤ 5) (c : CondZero s.fCond) (t : s.fThen.l = []) (e : s.fElse.l = []) : VStep s
  | ife {s : RStep} (k : s.fKind = 2) (b : s.fBy = 0) (c : VCond s.fCond) (t0 : s.fThen.l ≠ []) (t : ∀ x ∈ s.fThen.l, VStep x) (e : ∀ x ∈ s.fElse.l, VStep x) : VStep s
end
end Sw

namespace Sw
noncomputable section
open Go Go.RowKit
structure RStarter where
  fBib : Int
  fDistance : Int
  fWave : Int
  fSlot : Int
  fAge : Int
  fChip : Int
  fTeam : Int
  fLot : Int
instance : Inhabited RStarter := ⟨⟨default, default, default, default, default, default, default, default⟩⟩
def encStarter (x : RStarter) : List Value := [.int .i64 x.fBib, .int .i64 x.fDistance, .int .i64 x.fWave, .int .i64 x.fSlot, .int .i64 x.fAge, .int .i64 x.fChip, .int .i64 x.fTeam, .int .i64 x.fLot]
theorem encStarter_vEq (x : RStarter) : vEq 8 (.agg (encStarter x).toArray) (.agg (encStarter x).toArray) = true := (vEq_agg 7 _ (by intro v hv; have hv : v ∈ encStarter x := hv; simp only [encStarter, List.mem_cons, List.not_mem_nil, or_false] at hv; rcases hv with rfl | rfl | rfl | rfl | rfl | rfl | rfl | rfl <;> first | exact vEq_int .. | exact vEq_bool .. | exact vEq_str ..))
structure REnv where
  fDistance : Int
  fField : Int
  fShort : Int
instance : Inhabited REnv := ⟨⟨default, default, default⟩⟩
def encEnv (x : REnv) : List Value := [.int .i64 x.fDistance, .int .i64 x.fField, .int .i64 x.fShort]
theorem encEnv_vEq (x : REnv) : vEq 8 (.agg (encEnv x).toArray) (.agg (encEnv x).toArray) = true := (vEq_agg 7 _ (by intro v hv; have hv : v ∈ encEnv x := hv; simp only [encEnv, List.mem_cons, List.not_mem_nil, or_false] at hv; rcases hv with rfl | rfl | rfl <;> first | exact vEq_int .. | exact vEq_bool .. | exact vEq_str ..))
end
end Sw

namespace Sw
noncomputable section
open Go Go.Proofs
set_option maxRecDepth 100000
def nd {α : Type} (x : α) (l r : Tr α) : Tr α := .node (some x) l r
def lf {α : Type} (x : α) : Tr α := .node (some x) .nil .nil
noncomputable def TT : Tr TypeInfo := (nd Tryz.t0 (nd Tryz.t1 (nd Tryz.t3 (nd Tryz.t7 (nd Tryz.t15 (nd Tryz.t31 (nd Tryz.t63 (nd Tryz.t127 (nd Tryz.t255 (lf Tryz.t511) .nil) (nd Tryz.t383 (lf Tryz.t639) .nil)) (nd Tryz.t191 (nd Tryz.t319 (lf Tryz.t575) .nil) (lf Tryz.t447))) (nd Tryz.t95 (nd Tryz.t159 (nd Tryz.t287 (lf Tryz.t543) .nil) (lf Tryz.t415)) (nd Tryz.t223 (nd Tryz.t351 (lf Tryz.t607) .nil) (lf Tryz.t479)))) (nd Tryz.t47 (nd Tryz.t79 (nd Tryz.t143 (nd Tryz.t271 (lf Tryz.t527) .nil) (lf Tryz.t399)) (nd Tryz.t207 (nd Tryz.t335 (lf Tryz.t591) .nil) (lf Tryz.t463))) (nd Tryz.t111 (nd Tryz.t175 (nd Tryz.t303 (lf Tryz.t559) .nil) (lf Tryz.t431)) (nd Tryz.t239 (nd Tryz.t367 (lf Tryz.t623) .nil) (lf Tryz.t495))))) (nd Tryz.t23 (nd Tryz.t39 (nd Tryz.t71 (nd Tryz.t135 (nd Tryz.t263 (lf Tryz.t519) .nil) (nd Tryz.t391 (lf Tryz.t647) .nil)) (nd Tryz.t199 (nd Tryz.t327 (lf Tryz.t583) .nil) (lf Tryz.t455))) (nd Tryz.t103 (nd Tryz.t167 (nd Tryz.t295 (lf Tryz.t551) .nil) (lf Tryz.t423)) (nd Tryz.t231 (nd Tryz.t359 (lf Tryz.t615) .nil) (lf Tryz.t487)))) (nd Tryz.t55 (nd Tryz.t87 (nd Tryz.t151 (nd Tryz.t279 (lf Tryz.t535) .nil) (lf Tryz.t407)) (nd Tryz.t215 (nd Tryz.t343 (lf Tryz.t599) .nil) (lf Tryz.t471))) (nd Tryz.t119 (nd Tryz.t183 (nd Tryz.t311 (lf Tryz.t567) .nil) (lf Tryz.t439)) (nd Tryz.t247 (nd Tryz.t375 (lf Tryz.t631) .nil) (lf Tryz.t503)))))) (nd Tryz.t11 (nd Tryz.t19 (nd Tryz.t35 (nd Tryz.t67 (nd Tryz.t131 (nd Tryz.t259 (lf Tryz.t515) .nil) (nd Tryz.t387 (lf Tryz.t643) .nil)) (nd Tryz.t195 (nd Tryz.t323 (lf Tryz.t579) .nil) (lf Tryz.t451))) (nd Tryz.t99 (nd Tryz.t163 (nd Tryz.t291 (lf Tryz.t547) .nil) (lf Tryz.t419)) (nd Tryz.t227 (nd Tryz.t355 (lf Tryz.t611) .nil) (lf Tryz.t483)))) (nd Tryz.t51 (nd Tryz.t83 (nd Tryz.t147 (nd Tryz.t275 (lf Tryz.t531) .nil) (lf Tryz.t403)) (nd Tryz.t211 (nd Tryz.t339 (lf Tryz.t595) .nil) (lf Tryz.t467))) (nd Tryz.t115 (nd Tryz.t179 (nd Tryz.t307 (lf Tryz.t563) .nil) (lf Tryz.t435)) (nd Tryz.t243 (nd Tryz.t371 (lf Tryz.t627) .nil) (lf Tryz.t499))))) (nd Tryz.t27 (nd Tryz.t43 (nd Tryz.t75 (nd Tryz.t139 (nd Tryz.t267 (lf Tryz.t523) .nil) (nd Tryz.t395 (lf Tryz.t651) .nil)) (nd Tryz.t203 (nd Tryz.t331 (lf Tryz.t587) .nil) (lf Tryz.t459))) (nd Tryz.t107 (nd Tryz.t171 (nd Tryz.t299 (lf Tryz.t555) .nil) (lf Tryz.t427)) (nd Tryz.t235 (nd Tryz.t363 (lf Tryz.t619) .nil) (lf Tryz.t491)))) (nd Tryz.t59 (nd Tryz.t91 (nd Tryz.t155 (nd Tryz.t283 (lf Tryz.t539) .nil) (lf Tryz.t411)) (nd Tryz.t219 (nd Tryz.t347 (lf Tryz.t603) .nil) (lf Tryz.t475))) (nd Tryz.t123 (nd Tryz.t187 (nd Tryz.t315 (lf Tryz.t571) .nil) (lf Tryz.t443)) (nd Tryz.t251 (nd Tryz.t379 (lf Tryz.t635) .nil) (lf Tryz.t507))))))) (nd Tryz.t5 (nd Tryz.t9 (nd Tryz.t17 (nd Tryz.t33 (nd Tryz.t65 (nd Tryz.t129 (nd Tryz.t257 (lf Tryz.t513) .nil) (nd Tryz.t385 (lf Tryz.t641) .nil)) (nd Tryz.t193 (nd Tryz.t321 (lf Tryz.t577) .nil) (lf Tryz.t449))) (nd Tryz.t97 (nd Tryz.t161 (nd Tryz.t289 (lf Tryz.t545) .nil) (lf Tryz.t417)) (nd Tryz.t225 (nd Tryz.t353 (lf Tryz.t609) .nil) (lf Tryz.t481)))) (nd Tryz.t49 (nd Tryz.t81 (nd Tryz.t145 (nd Tryz.t273 (lf Tryz.t529) .nil) (lf Tryz.t401)) (nd Tryz.t209 (nd Tryz.t337 (lf Tryz.t593) .nil) (lf Tryz.t465))) (nd Tryz.t113 (nd Tryz.t177 (nd Tryz.t305 (lf Tryz.t561) .nil) (lf Tryz.t433)) (nd Tryz.t241 (nd Tryz.t369 (lf Tryz.t625) .nil) (lf Tryz.t497))))) (nd Tryz.t25 (nd Tryz.t41 (nd Tryz.t73 (nd Tryz.t137 (nd Tryz.t265 (lf Tryz.t521) .nil) (nd Tryz.t393 (lf Tryz.t649) .nil)) (nd Tryz.t201 (nd Tryz.t329 (lf Tryz.t585) .nil) (lf Tryz.t457))) (nd Tryz.t105 (nd Tryz.t169 (nd Tryz.t297 (lf Tryz.t553) .nil) (lf Tryz.t425)) (nd Tryz.t233 (nd Tryz.t361 (lf Tryz.t617) .nil) (lf Tryz.t489)))) (nd Tryz.t57 (nd Tryz.t89 (nd Tryz.t153 (nd Tryz.t281 (lf Tryz.t537) .nil) (lf Tryz.t409)) (nd Tryz.t217 (nd Tryz.t345 (lf Tryz.t601) .nil) (lf Tryz.t473))) (nd Tryz.t121 (nd Tryz.t185 (nd Tryz.t313 (lf Tryz.t569) .nil) (lf Tryz.t441)) (nd Tryz.t249 (nd Tryz.t377 (lf Tryz.t633) .nil) (lf Tryz.t505)))))) (nd Tryz.t13 (nd Tryz.t21 (nd Tryz.t37 (nd Tryz.t69 (nd Tryz.t133 (nd Tryz.t261 (lf Tryz.t517) .nil) (nd Tryz.t389 (lf Tryz.t645) .nil)) (nd Tryz.t197 (nd Tryz.t325 (lf Tryz.t581) .nil) (lf Tryz.t453))) (nd Tryz.t101 (nd Tryz.t165 (nd Tryz.t293 (lf Tryz.t549) .nil) (lf Tryz.t421)) (nd Tryz.t229 (nd Tryz.t357 (lf Tryz.t613) .nil) (lf Tryz.t485)))) (nd Tryz.t53 (nd Tryz.t85 (nd Tryz.t149 (nd Tryz.t277 (lf Tryz.t533) .nil) (lf Tryz.t405)) (nd Tryz.t213 (nd Tryz.t341 (lf Tryz.t597) .nil) (lf Tryz.t469))) (nd Tryz.t117 (nd Tryz.t181 (nd Tryz.t309 (lf Tryz.t565) .nil) (lf Tryz.t437)) (nd Tryz.t245 (nd Tryz.t373 (lf Tryz.t629) .nil) (lf Tryz.t501))))) (nd Tryz.t29 (nd Tryz.t45 (nd Tryz.t77 (nd Tryz.t141 (nd Tryz.t269 (lf Tryz.t525) .nil) (lf Tryz.t397)) (nd Tryz.t205 (nd Tryz.t333 (lf Tryz.t589) .nil) (lf Tryz.t461))) (nd Tryz.t109 (nd Tryz.t173 (nd Tryz.t301 (lf Tryz.t557) .nil) (lf Tryz.t429)) (nd Tryz.t237 (nd Tryz.t365 (lf Tryz.t621) .nil) (lf Tryz.t493)))) (nd Tryz.t61 (nd Tryz.t93 (nd Tryz.t157 (nd Tryz.t285 (lf Tryz.t541) .nil) (lf Tryz.t413)) (nd Tryz.t221 (nd Tryz.t349 (lf Tryz.t605) .nil) (lf Tryz.t477))) (nd Tryz.t125 (nd Tryz.t189 (nd Tryz.t317 (lf Tryz.t573) .nil) (lf Tryz.t445)) (nd Tryz.t253 (nd Tryz.t381 (lf Tryz.t637) .nil) (lf Tryz.t509)))))))) (nd Tryz.t2 (nd Tryz.t4 (nd Tryz.t8 (nd Tryz.t16 (nd Tryz.t32 (nd Tryz.t64 (nd Tryz.t128 (nd Tryz.t256 (lf Tryz.t512) .nil) (nd Tryz.t384 (lf Tryz.t640) .nil)) (nd Tryz.t192 (nd Tryz.t320 (lf Tryz.t576) .nil) (lf Tryz.t448))) (nd Tryz.t96 (nd Tryz.t160 (nd Tryz.t288 (lf Tryz.t544) .nil) (lf Tryz.t416)) (nd Tryz.t224 (nd Tryz.t352 (lf Tryz.t608) .nil) (lf Tryz.t480)))) (nd Tryz.t48 (nd Tryz.t80 (nd Tryz.t144 (nd Tryz.t272 (lf Tryz.t528) .nil) (lf Tryz.t400)) (nd Tryz.t208 (nd Tryz.t336 (lf Tryz.t592) .nil) (lf Tryz.t464))) (nd Tryz.t112 (nd Tryz.t176 (nd Tryz.t304 (lf Tryz.t560) .nil) (lf Tryz.t432)) (nd Tryz.t240 (nd Tryz.t368 (lf Tryz.t624) .nil) (lf Tryz.t496))))) (nd Tryz.t24 (nd Tryz.t40 (nd Tryz.t72 (nd Tryz.t136 (nd Tryz.t264 (lf Tryz.t520) .nil) (nd Tryz.t392 (lf Tryz.t648) .nil)) (nd Tryz.t200 (nd Tryz.t328 (lf Tryz.t584) .nil) (lf Tryz.t456))) (nd Tryz.t104 (nd Tryz.t168 (nd Tryz.t296 (lf Tryz.t552) .nil) (lf Tryz.t424)) (nd Tryz.t232 (nd Tryz.t360 (lf Tryz.t616) .nil) (lf Tryz.t488)))) (nd Tryz.t56 (nd Tryz.t88 (nd Tryz.t152 (nd Tryz.t280 (lf Tryz.t536) .nil) (lf Tryz.t408)) (nd Tryz.t216 (nd Tryz.t344 (lf Tryz.t600) .nil) (lf Tryz.t472))) (nd Tryz.t120 (nd Tryz.t184 (nd Tryz.t312 (lf Tryz.t568) .nil) (lf Tryz.t440)) (nd Tryz.t248 (nd Tryz.t376 (lf Tryz.t632) .nil) (lf Tryz.t504)))))) (nd Tryz.t12 (nd Tryz.t20 (nd Tryz.t36 (nd Tryz.t68 (nd Tryz.t132 (nd Tryz.t260 (lf Tryz.t516) .nil) (nd Tryz.t388 (lf Tryz.t644) .nil)) (nd Tryz.t196 (nd Tryz.t324 (lf Tryz.t580) .nil) (lf Tryz.t452))) (nd Tryz.t100 (nd Tryz.t164 (nd Tryz.t292 (lf Tryz.t548) .nil) (lf Tryz.t420)) (nd Tryz.t228 (nd Tryz.t356 (lf Tryz.t612) .nil) (lf Tryz.t484)))) (nd Tryz.t52 (nd Tryz.t84 (nd Tryz.t148 (nd Tryz.t276 (lf Tryz.t532) .nil) (lf Tryz.t404)) (nd Tryz.t212 (nd Tryz.t340 (lf Tryz.t596) .nil) (lf Tryz.t468))) (nd Tryz.t116 (nd Tryz.t180 (nd Tryz.t308 (lf Tryz.t564) .nil) (lf Tryz.t436)) (nd Tryz.t244 (nd Tryz.t372 (lf Tryz.t628) .nil) (lf Tryz.t500))))) (nd Tryz.t28 (nd Tryz.t44 (nd Tryz.t76 (nd Tryz.t140 (nd Tryz.t268 (lf Tryz.t524) .nil) (lf Tryz.t396)) (nd Tryz.t204 (nd Tryz.t332 (lf Tryz.t588) .nil) (lf Tryz.t460))) (nd Tryz.t108 (nd Tryz.t172 (nd Tryz.t300 (lf Tryz.t556) .nil) (lf Tryz.t428)) (nd Tryz.t236 (nd Tryz.t364 (lf Tryz.t620) .nil) (lf Tryz.t492)))) (nd Tryz.t60 (nd Tryz.t92 (nd Tryz.t156 (nd Tryz.t284 (lf Tryz.t540) .nil) (lf Tryz.t412)) (nd Tryz.t220 (nd Tryz.t348 (lf Tryz.t604) .nil) (lf Tryz.t476))) (nd Tryz.t124 (nd Tryz.t188 (nd Tryz.t316 (lf Tryz.t572) .nil) (lf Tryz.t444)) (nd Tryz.t252 (nd Tryz.t380 (lf Tryz.t636) .nil) (lf Tryz.t508))))))) (nd Tryz.t6 (nd Tryz.t10 (nd Tryz.t18 (nd Tryz.t34 (nd Tryz.t66 (nd Tryz.t130 (nd Tryz.t258 (lf Tryz.t514) .nil) (nd Tryz.t386 (lf Tryz.t642) .nil)) (nd Tryz.t194 (nd Tryz.t322 (lf Tryz.t578) .nil) (lf Tryz.t450))) (nd Tryz.t98 (nd Tryz.t162 (nd Tryz.t290 (lf Tryz.t546) .nil) (lf Tryz.t418)) (nd Tryz.t226 (nd Tryz.t354 (lf Tryz.t610) .nil) (lf Tryz.t482)))) (nd Tryz.t50 (nd Tryz.t82 (nd Tryz.t146 (nd Tryz.t274 (lf Tryz.t530) .nil) (lf Tryz.t402)) (nd Tryz.t210 (nd Tryz.t338 (lf Tryz.t594) .nil) (lf Tryz.t466))) (nd Tryz.t114 (nd Tryz.t178 (nd Tryz.t306 (lf Tryz.t562) .nil) (lf Tryz.t434)) (nd Tryz.t242 (nd Tryz.t370 (lf Tryz.t626) .nil) (lf Tryz.t498))))) (nd Tryz.t26 (nd Tryz.t42 (nd Tryz.t74 (nd Tryz.t138 (nd Tryz.t266 (lf Tryz.t522) .nil) (nd Tryz.t394 (lf Tryz.t650) .nil)) (nd Tryz.t202 (nd Tryz.t330 (lf Tryz.t586) .nil) (lf Tryz.t458))) (nd Tryz.t106 (nd Tryz.t170 (nd Tryz.t298 (lf Tryz.t554) .nil) (lf Tryz.t426)) (nd Tryz.t234 (nd Tryz.t362 (lf Tryz.t618) .nil) (lf Tryz.t490)))) (nd Tryz.t58 (nd Tryz.t90 (nd Tryz.t154 (nd Tryz.t282 (lf Tryz.t538) .nil) (lf Tryz.t410)) (nd Tryz.t218 (nd Tryz.t346 (lf Tryz.t602) .nil) (lf Tryz.t474))) (nd Tryz.t122 (nd Tryz.t186 (nd Tryz.t314 (lf Tryz.t570) .nil) (lf Tryz.t442)) (nd Tryz.t250 (nd Tryz.t378 (lf Tryz.t634) .nil) (lf Tryz.t506)))))) (nd Tryz.t14 (nd Tryz.t22 (nd Tryz.t38 (nd Tryz.t70 (nd Tryz.t134 (nd Tryz.t262 (lf Tryz.t518) .nil) (nd Tryz.t390 (lf Tryz.t646) .nil)) (nd Tryz.t198 (nd Tryz.t326 (lf Tryz.t582) .nil) (lf Tryz.t454))) (nd Tryz.t102 (nd Tryz.t166 (nd Tryz.t294 (lf Tryz.t550) .nil) (lf Tryz.t422)) (nd Tryz.t230 (nd Tryz.t358 (lf Tryz.t614) .nil) (lf Tryz.t486)))) (nd Tryz.t54 (nd Tryz.t86 (nd Tryz.t150 (nd Tryz.t278 (lf Tryz.t534) .nil) (lf Tryz.t406)) (nd Tryz.t214 (nd Tryz.t342 (lf Tryz.t598) .nil) (lf Tryz.t470))) (nd Tryz.t118 (nd Tryz.t182 (nd Tryz.t310 (lf Tryz.t566) .nil) (lf Tryz.t438)) (nd Tryz.t246 (nd Tryz.t374 (lf Tryz.t630) .nil) (lf Tryz.t502))))) (nd Tryz.t30 (nd Tryz.t46 (nd Tryz.t78 (nd Tryz.t142 (nd Tryz.t270 (lf Tryz.t526) .nil) (lf Tryz.t398)) (nd Tryz.t206 (nd Tryz.t334 (lf Tryz.t590) .nil) (lf Tryz.t462))) (nd Tryz.t110 (nd Tryz.t174 (nd Tryz.t302 (lf Tryz.t558) .nil) (lf Tryz.t430)) (nd Tryz.t238 (nd Tryz.t366 (lf Tryz.t622) .nil) (lf Tryz.t494)))) (nd Tryz.t62 (nd Tryz.t94 (nd Tryz.t158 (nd Tryz.t286 (lf Tryz.t542) .nil) (lf Tryz.t414)) (nd Tryz.t222 (nd Tryz.t350 (lf Tryz.t606) .nil) (lf Tryz.t478))) (nd Tryz.t126 (nd Tryz.t190 (nd Tryz.t318 (lf Tryz.t574) .nil) (lf Tryz.t446)) (nd Tryz.t254 (nd Tryz.t382 (lf Tryz.t638) .nil) (lf Tryz.t510)))))))))
noncomputable def FT : Tr Func := (nd Tryz.f0 (nd Tryz.f1 (nd Tryz.f3 (nd Tryz.f7 (nd Tryz.f15 (nd Tryz.f31 (nd Tryz.f63 (nd Tryz.f127 (lf Tryz.f255) (lf Tryz.f383)) (nd Tryz.f191 (lf Tryz.f319) (lf Tryz.f447))) (nd Tryz.f95 (nd Tryz.f159 (lf Tryz.f287) (lf Tryz.f415)) (nd Tryz.f223 (lf Tryz.f351) (lf Tryz.f479)))) (nd Tryz.f47 (nd Tryz.f79 (nd Tryz.f143 (lf Tryz.f271) (lf Tryz.f399)) (nd Tryz.f207 (lf Tryz.f335) (lf Tryz.f463))) (nd Tryz.f111 (nd Tryz.f175 (lf Tryz.f303) (lf Tryz.f431)) (nd Tryz.f239 (lf Tryz.f367) (lf Tryz.f495))))) (nd Tryz.f23 (nd Tryz.f39 (nd Tryz.f71 (nd Tryz.f135 (lf Tryz.f263) (lf Tryz.f391)) (nd Tryz.f199 (lf Tryz.f327) (lf Tryz.f455))) (nd Tryz.f103 (nd Tryz.f167 (lf Tryz.f295) (lf Tryz.f423)) (nd Tryz.f231 (lf Tryz.f359) (lf Tryz.f487)))) (nd Tryz.f55 (nd Tryz.f87 (nd Tryz.f151 (lf Tryz.f279) (lf Tryz.f407)) (nd Tryz.f215 (lf Tryz.f343) (lf Tryz.f471))) (nd Tryz.f119 (nd Tryz.f183 (lf Tryz.f311) (lf Tryz.f439)) (nd Tryz.f247 (lf Tryz.f375) .nil))))) (nd Tryz.f11 (nd Tryz.f19 (nd Tryz.f35 (nd Tryz.f67 (nd Tryz.f131 (lf Tryz.f259) (lf Tryz.f387)) (nd Tryz.f195 (lf Tryz.f323) (lf Tryz.f451))) (nd Tryz.f99 (nd Tryz.f163 (lf Tryz.f291) (lf Tryz.f419)) (nd Tryz.f227 (lf Tryz.f355) (lf Tryz.f483)))) (nd Tryz.f51 (nd Tryz.f83 (nd Tryz.f147 (lf Tryz.f275) (lf Tryz.f403)) (nd Tryz.f211 (lf Tryz.f339) (lf Tryz.f467))) (nd Tryz.f115 (nd Tryz.f179 (lf Tryz.f307) (lf Tryz.f435)) (nd Tryz.f243 (lf Tryz.f371) .nil)))) (nd Tryz.f27 (nd Tryz.f43 (nd Tryz.f75 (nd Tryz.f139 (lf Tryz.f267) (lf Tryz.f395)) (nd Tryz.f203 (lf Tryz.f331) (lf Tryz.f459))) (nd Tryz.f107 (nd Tryz.f171 (lf Tryz.f299) (lf Tryz.f427)) (nd Tryz.f235 (lf Tryz.f363) (lf Tryz.f491)))) (nd Tryz.f59 (nd Tryz.f91 (nd Tryz.f155 (lf Tryz.f283) (lf Tryz.f411)) (nd Tryz.f219 (lf Tryz.f347) (lf Tryz.f475))) (nd Tryz.f123 (nd Tryz.f187 (lf Tryz.f315) (lf Tryz.f443)) (nd Tryz.f251 (lf Tryz.f379) .nil)))))) (nd Tryz.f5 (nd Tryz.f9 (nd Tryz.f17 (nd Tryz.f33 (nd Tryz.f65 (nd Tryz.f129 (lf Tryz.f257) (lf Tryz.f385)) (nd Tryz.f193 (lf Tryz.f321) (lf Tryz.f449))) (nd Tryz.f97 (nd Tryz.f161 (lf Tryz.f289) (lf Tryz.f417)) (nd Tryz.f225 (lf Tryz.f353) (lf Tryz.f481)))) (nd Tryz.f49 (nd Tryz.f81 (nd Tryz.f145 (lf Tryz.f273) (lf Tryz.f401)) (nd Tryz.f209 (lf Tryz.f337) (lf Tryz.f465))) (nd Tryz.f113 (nd Tryz.f177 (lf Tryz.f305) (lf Tryz.f433)) (nd Tryz.f241 (lf Tryz.f369) (lf Tryz.f497))))) (nd Tryz.f25 (nd Tryz.f41 (nd Tryz.f73 (nd Tryz.f137 (lf Tryz.f265) (lf Tryz.f393)) (nd Tryz.f201 (lf Tryz.f329) (lf Tryz.f457))) (nd Tryz.f105 (nd Tryz.f169 (lf Tryz.f297) (lf Tryz.f425)) (nd Tryz.f233 (lf Tryz.f361) (lf Tryz.f489)))) (nd Tryz.f57 (nd Tryz.f89 (nd Tryz.f153 (lf Tryz.f281) (lf Tryz.f409)) (nd Tryz.f217 (lf Tryz.f345) (lf Tryz.f473))) (nd Tryz.f121 (nd Tryz.f185 (lf Tryz.f313) (lf Tryz.f441)) (nd Tryz.f249 (lf Tryz.f377) .nil))))) (nd Tryz.f13 (nd Tryz.f21 (nd Tryz.f37 (nd Tryz.f69 (nd Tryz.f133 (lf Tryz.f261) (lf Tryz.f389)) (nd Tryz.f197 (lf Tryz.f325) (lf Tryz.f453))) (nd Tryz.f101 (nd Tryz.f165 (lf Tryz.f293) (lf Tryz.f421)) (nd Tryz.f229 (lf Tryz.f357) (lf Tryz.f485)))) (nd Tryz.f53 (nd Tryz.f85 (nd Tryz.f149 (lf Tryz.f277) (lf Tryz.f405)) (nd Tryz.f213 (lf Tryz.f341) (lf Tryz.f469))) (nd Tryz.f117 (nd Tryz.f181 (lf Tryz.f309) (lf Tryz.f437)) (nd Tryz.f245 (lf Tryz.f373) .nil)))) (nd Tryz.f29 (nd Tryz.f45 (nd Tryz.f77 (nd Tryz.f141 (lf Tryz.f269) (lf Tryz.f397)) (nd Tryz.f205 (lf Tryz.f333) (lf Tryz.f461))) (nd Tryz.f109 (nd Tryz.f173 (lf Tryz.f301) (lf Tryz.f429)) (nd Tryz.f237 (lf Tryz.f365) (lf Tryz.f493)))) (nd Tryz.f61 (nd Tryz.f93 (nd Tryz.f157 (lf Tryz.f285) (lf Tryz.f413)) (nd Tryz.f221 (lf Tryz.f349) (lf Tryz.f477))) (nd Tryz.f125 (nd Tryz.f189 (lf Tryz.f317) (lf Tryz.f445)) (nd Tryz.f253 (lf Tryz.f381) .nil))))))) (nd Tryz.f2 (nd Tryz.f4 (nd Tryz.f8 (nd Tryz.f16 (nd Tryz.f32 (nd Tryz.f64 (nd Tryz.f128 (lf Tryz.f256) (lf Tryz.f384)) (nd Tryz.f192 (lf Tryz.f320) (lf Tryz.f448))) (nd Tryz.f96 (nd Tryz.f160 (lf Tryz.f288) (lf Tryz.f416)) (nd Tryz.f224 (lf Tryz.f352) (lf Tryz.f480)))) (nd Tryz.f48 (nd Tryz.f80 (nd Tryz.f144 (lf Tryz.f272) (lf Tryz.f400)) (nd Tryz.f208 (lf Tryz.f336) (lf Tryz.f464))) (nd Tryz.f112 (nd Tryz.f176 (lf Tryz.f304) (lf Tryz.f432)) (nd Tryz.f240 (lf Tryz.f368) (lf Tryz.f496))))) (nd Tryz.f24 (nd Tryz.f40 (nd Tryz.f72 (nd Tryz.f136 (lf Tryz.f264) (lf Tryz.f392)) (nd Tryz.f200 (lf Tryz.f328) (lf Tryz.f456))) (nd Tryz.f104 (nd Tryz.f168 (lf Tryz.f296) (lf Tryz.f424)) (nd Tryz.f232 (lf Tryz.f360) (lf Tryz.f488)))) (nd Tryz.f56 (nd Tryz.f88 (nd Tryz.f152 (lf Tryz.f280) (lf Tryz.f408)) (nd Tryz.f216 (lf Tryz.f344) (lf Tryz.f472))) (nd Tryz.f120 (nd Tryz.f184 (lf Tryz.f312) (lf Tryz.f440)) (nd Tryz.f248 (lf Tryz.f376) .nil))))) (nd Tryz.f12 (nd Tryz.f20 (nd Tryz.f36 (nd Tryz.f68 (nd Tryz.f132 (lf Tryz.f260) (lf Tryz.f388)) (nd Tryz.f196 (lf Tryz.f324) (lf Tryz.f452))) (nd Tryz.f100 (nd Tryz.f164 (lf Tryz.f292) (lf Tryz.f420)) (nd Tryz.f228 (lf Tryz.f356) (lf Tryz.f484)))) (nd Tryz.f52 (nd Tryz.f84 (nd Tryz.f148 (lf Tryz.f276) (lf Tryz.f404)) (nd Tryz.f212 (lf Tryz.f340) (lf Tryz.f468))) (nd Tryz.f116 (nd Tryz.f180 (lf Tryz.f308) (lf Tryz.f436)) (nd Tryz.f244 (lf Tryz.f372) .nil)))) (nd Tryz.f28 (nd Tryz.f44 (nd Tryz.f76 (nd Tryz.f140 (lf Tryz.f268) (lf Tryz.f396)) (nd Tryz.f204 (lf Tryz.f332) (lf Tryz.f460))) (nd Tryz.f108 (nd Tryz.f172 (lf Tryz.f300) (lf Tryz.f428)) (nd Tryz.f236 (lf Tryz.f364) (lf Tryz.f492)))) (nd Tryz.f60 (nd Tryz.f92 (nd Tryz.f156 (lf Tryz.f284) (lf Tryz.f412)) (nd Tryz.f220 (lf Tryz.f348) (lf Tryz.f476))) (nd Tryz.f124 (nd Tryz.f188 (lf Tryz.f316) (lf Tryz.f444)) (nd Tryz.f252 (lf Tryz.f380) .nil)))))) (nd Tryz.f6 (nd Tryz.f10 (nd Tryz.f18 (nd Tryz.f34 (nd Tryz.f66 (nd Tryz.f130 (lf Tryz.f258) (lf Tryz.f386)) (nd Tryz.f194 (lf Tryz.f322) (lf Tryz.f450))) (nd Tryz.f98 (nd Tryz.f162 (lf Tryz.f290) (lf Tryz.f418)) (nd Tryz.f226 (lf Tryz.f354) (lf Tryz.f482)))) (nd Tryz.f50 (nd Tryz.f82 (nd Tryz.f146 (lf Tryz.f274) (lf Tryz.f402)) (nd Tryz.f210 (lf Tryz.f338) (lf Tryz.f466))) (nd Tryz.f114 (nd Tryz.f178 (lf Tryz.f306) (lf Tryz.f434)) (nd Tryz.f242 (lf Tryz.f370) .nil)))) (nd Tryz.f26 (nd Tryz.f42 (nd Tryz.f74 (nd Tryz.f138 (lf Tryz.f266) (lf Tryz.f394)) (nd Tryz.f202 (lf Tryz.f330) (lf Tryz.f458))) (nd Tryz.f106 (nd Tryz.f170 (lf Tryz.f298) (lf Tryz.f426)) (nd Tryz.f234 (lf Tryz.f362) (lf Tryz.f490)))) (nd Tryz.f58 (nd Tryz.f90 (nd Tryz.f154 (lf Tryz.f282) (lf Tryz.f410)) (nd Tryz.f218 (lf Tryz.f346) (lf Tryz.f474))) (nd Tryz.f122 (nd Tryz.f186 (lf Tryz.f314) (lf Tryz.f442)) (nd Tryz.f250 (lf Tryz.f378) .nil))))) (nd Tryz.f14 (nd Tryz.f22 (nd Tryz.f38 (nd Tryz.f70 (nd Tryz.f134 (lf Tryz.f262) (lf Tryz.f390)) (nd Tryz.f198 (lf Tryz.f326) (lf Tryz.f454))) (nd Tryz.f102 (nd Tryz.f166 (lf Tryz.f294) (lf Tryz.f422)) (nd Tryz.f230 (lf Tryz.f358) (lf Tryz.f486)))) (nd Tryz.f54 (nd Tryz.f86 (nd Tryz.f150 (lf Tryz.f278) (lf Tryz.f406)) (nd Tryz.f214 (lf Tryz.f342) (lf Tryz.f470))) (nd Tryz.f118 (nd Tryz.f182 (lf Tryz.f310) (lf Tryz.f438)) (nd Tryz.f246 (lf Tryz.f374) .nil)))) (nd Tryz.f30 (nd Tryz.f46 (nd Tryz.f78 (nd Tryz.f142 (lf Tryz.f270) (lf Tryz.f398)) (nd Tryz.f206 (lf Tryz.f334) (lf Tryz.f462))) (nd Tryz.f110 (nd Tryz.f174 (lf Tryz.f302) (lf Tryz.f430)) (nd Tryz.f238 (lf Tryz.f366) (lf Tryz.f494)))) (nd Tryz.f62 (nd Tryz.f94 (nd Tryz.f158 (lf Tryz.f286) (lf Tryz.f414)) (nd Tryz.f222 (lf Tryz.f350) (lf Tryz.f478))) (nd Tryz.f126 (nd Tryz.f190 (lf Tryz.f318) (lf Tryz.f446)) (nd Tryz.f254 (lf Tryz.f382) .nil))))))))
theorem TT_eq : TT = ofL 0 Tryz.types.toList .nil := by kernel_rfl
theorem FT_eq : FT = ofL 0 Tryz.funcs.toList .nil := by kernel_rfl
theorem TT_get (t : Nat) (i : TypeInfo) (h : TT.get t = some i) : Tryz.prog.types[t]? = some i := by
  rw [TT_eq, ofL_nil_get] at h
  have : Tryz.prog.types = Tryz.types := by kernel_rfl
  rw [this]; simpa using h
theorem FT_get (t : Nat) (i : Func) (h : FT.get t = some i) : Tryz.prog.funcs[t]? = some i := by
  rw [FT_eq, ofL_nil_get] at h
  have : Tryz.prog.funcs = Tryz.funcs := rfl
  rw [this]; simpa using h
end
end Sw

namespace Sw
noncomputable section
open Go Go.Proofs
set_option maxRecDepth 100000
def fnMask : Nat := 409173826749160468558196481152293828192663237279894819949700561411524036534099393927125578895593757927108962725297809201206570079662779447830300852220
def tyMask : Nat := 18687756769780511615554238896948393266755765643497766641103659942221563065006245398439500973502955915036646945534788867767131666194686764795861334699737300813434467332270158003244942743136588791806
def eqMask : Nat := 5272167116944295125343055983824197154459075212891149915488706266230228970442885778556255406945490539954422569556184426427485288405715791008805947966885000642560
def TyE : Ty := ⟨fun t => bif has tyMask t then TT.get t else none, fun t => has eqMask t⟩
def FnE : FuncId → Option Func := fun f => bif has fnMask f then FT.get f else none
def kCont : KRun := ⟨fun l hp nx cs k _ => match l with
  | [.string a, .string b] => bif Nat.blt (strs a).length 4294967281 then k (.bool (Lib.contains (strs a) (strs b))) hp nx cs else .need 0
  | _ => .need 0⟩
def MeE : TypeId → String → Option FuncId := fun t n => bif Nat.beq t 215 && (n == "stopwatch/typing.parts") then some 253 else bif Nat.beq t 325 && (n == "stopwatch/typing.parts") then some 252 else (none : Option FuncId)
def e0 : Env := ⟨TyE, fun f => (FnE f).bind fInfo, MeE, fun f => bif Nat.beq f 255 then some kCont else none, 0⟩
def globs : List TB := [⟨0, [(.int .i64 1), (.int .i64 9999)], false, 0⟩, ⟨1, [(.int .i64 (-1099511627776)), (.int .i64 1099511627776)], false, 0⟩, ⟨2, [(.int .i64 0), (.int .i64 1048576)], false, 0⟩, ⟨3, [(.int .i64 0), (.int .i64 39)], false, 0⟩, ⟨4, [(.int .i64 0), (.int .i64 255)], false, 0⟩, ⟨5, [(.int .i64 0), (.int .i64 1099511627776)], false, 0⟩, ⟨6, [(.int .i64 0), (.int .i64 255)], false, 0⟩, ⟨7, [(.int .i64 1), (.int .i64 1048576)], false, 0⟩, ⟨8, [(.int .i64 0), (.int .i64 1)], false, 0⟩, ⟨9, [(.int .i64 0), (.int .i64 31)], false, 0⟩, ⟨10, [(.int .i64 1), (.int .i64 1048576)], false, 0⟩]
def tmClasses0 : Tmpl := ⟨[],
    globs,
    12, (.agg ⟨[(.int .u8 0), (.int .u8 0), (.int .u8 0), (.int .u8 0), (.int .u8 0), (.int .u8 0), (.int .u8 0), (.int .u8 0), (.int .u8 0), (.int .u8 1), (.int .u8 1), (.int .u8 0), (.int .u8 0), (.int .u8 1), (.int .u8 0), (.int .u8 0), (.int .u8 0), (.int .u8 0), (.int .u8 0), (.int .u8 0), (.int .u8 0), (.int .u8 0), (.int .u8 0), (.int .u8 0), (.int .u8 0), (.int .u8 0), (.int .u8 0), (.int .u8 0), (.int .u8 0), (.int .u8 0), (.int .u8 0), (.int .u8 0), (.int .u8 1), (.int .u8 0), (.int .u8 0), (.int .u8 0), (.int .u8 0), (.int .u8 0), (.int .u8 0), (.int .u8 0), (.int .u8 4), (.int .u8 4), (.int .u8 0), (.int .u8 0), (.int .u8 4), (.int .u8 0), (.int .u8 0), (.int .u8 0), (.int .u8 3), (.int .u8 3), (.int .u8 3), (.int .u8 3), (.int .u8 3), (.int .u8 3), (.int .u8 3), (.int .u8 3), (.int .u8 3), (.int .u8 3), (.int .u8 0), (.int .u8 4), (.int .u8 4), (.int .u8 4), (.int .u8 4), (.int .u8 0), (.int .u8 0), (.int .u8 2), (.int .u8 2), (.int .u8 2), (.int .u8 2), (.int .u8 2), (.int .u8 2), (.int .u8 2), (.int .u8 2), (.int .u8 2), (.int .u8 2), (.int .u8 2), (.int .u8 2), (.int .u8 2), (.int .u8 2), (.int .u8 2), (.int .u8 2), (.int .u8 2), (.int .u8 2), (.int .u8 2), (.int .u8 2), (.int .u8 2), (.int .u8 2), (.int .u8 2), (.int .u8 2), (.int .u8 2), (.int .u8 2), (.int .u8 4), (.int .u8 0), (.int .u8 4), (.int .u8 0), (.int .u8 0), (.int .u8 0), (.int .u8 2), (.int .u8 2), (.int .u8 2), (.int .u8 2), (.int .u8 2), (.int .u8 2), (.int .u8 2), (.int .u8 2), (.int .u8 2), (.int .u8 2), (.int .u8 2), (.int .u8 2), (.int .u8 2), (.int .u8 2), (.int .u8 2), (.int .u8 2), (.int .u8 2), (.int .u8 2), (.int .u8 2), (.int .u8 2), (.int .u8 2), (.int .u8 2), (.int .u8 2), (.int .u8 2), (.int .u8 2), (.int .u8 2), (.int .u8 4), (.int .u8 0), (.int .u8 4), (.int .u8 0), (.int .u8 0), (.int .u8 0), (.int .u8 0), (.int .u8 0), (.int .u8 0), (.int .u8 0), (.int .u8 0), (.int .u8 0), (.int .u8 0), (.int .u8 0), (.int .u8 0), (.int .u8 0), (.int .u8 0), (.int .u8 0), (.int .u8 0), (.int .u8 0), (.int .u8 0), (.int .u8 0), (.int .u8 0), (.int .u8 0), (.int .u8 0), (.int .u8 0), (.int .u8 0), (.int .u8 0), (.int .u8 0), (.int .u8 0), (.int .u8 0), (.int .u8 0), (.int .u8 0), (.int .u8 0), (.int .u8 0), (.int .u8 0), (.int .u8 0), (.int .u8 0), (.int .u8 0), (.int .u8 0), (.int .u8 0), (.int .u8 0), (.int .u8 0), (.int .u8 0), (.int .u8 0), (.int .u8 0), (.int .u8 0), (.int .u8 0), (.int .u8 0), (.int .u8 0), (.int .u8 0), (.int .u8 0), (.int .u8 0), (.int .u8 0), (.int .u8 0), (.int .u8 0), (.int .u8 0), (.int .u8 0), (.int .u8 0), (.int .u8 0), (.int .u8 0), (.int .u8 0), (.int .u8 0), (.int .u8 0), (.int .u8 0), (.int .u8 0), (.int .u8 0), (.int .u8 0), (.int .u8 0), (.int .u8 0), (.int .u8 0), (.int .u8 0), (.int .u8 0), (.int .u8 0), (.int .u8 0), (.int .u8 0), (.int .u8 0), (.int .u8 0), (.int .u8 0), (.int .u8 0), (.int .u8 0), (.int .u8 0), (.int .u8 0), (.int .u8 0), (.int .u8 0), (.int .u8 0), (.int .u8 0), (.int .u8 0), (.int .u8 0), (.int .u8 0), (.int .u8 0), (.int .u8 0), (.int .u8 0), (.int .u8 0), (.int .u8 0), (.int .u8 0), (.int .u8 0), (.int .u8 0), (.int .u8 0), (.int .u8 0), (.int .u8 0), (.int .u8 0), (.int .u8 0), (.int .u8 0), (.int .u8 0), (.int .u8 0), (.int .u8 0), (.int .u8 0), (.int .u8 0), (.int .u8 0), (.int .u8 0), (.int .u8 0), (.int .u8 0), (.int .u8 0), (.int .u8 0), (.int .u8 0), (.int .u8 0), (.int .u8 0), (.int .u8 0), (.int .u8 0), (.int .u8 0), (.int .u8 0), (.int .u8 0), (.int .u8 0), (.int .u8 0), (.int .u8 0), (.int .u8 0), (.int .u8 0), (.int .u8 0), (.int .u8 0), (.int .u8 0), (.int .u8 0), (.int .u8 0)]⟩), [], 0⟩
def e1 : Env := { e0 with K := fun f => bif Nat.beq f 331 then some (kOfT 12 [tmClasses0]) else e0.K f }
def tmCourse0 : Tmpl := ⟨[(.agg ⟨[(.string ⟨⟨[99]⟩⟩), (.slice (some ⟨12, 0, none⟩) 2 2), (.slice (some ⟨13, 0, none⟩) 1 1), (.slice (some ⟨14, 0, none⟩) 1 1), (.slice (some ⟨15, 0, none⟩) 1 1), (.slice none 0 0), (.slice (some ⟨16, 0, none⟩) 1 1), (.slice none 0 0), (.slice (some ⟨17, 0, none⟩) 2 2), (.int .i64 0), (.int .i64 0), (.int .i64 0), (.int .i64 0), (.int .i64 0), (.int .i64 0), (.int .i64 0)]⟩)],
    globs ++ [⟨12, [(.string ⟨⟨[97]⟩⟩), (.int .i64 1), (.string ⟨⟨[98]⟩⟩), (.int .i64 3)], false, 0⟩, ⟨13, [(.int .i64 0), (.int .i64 1), (.int .i64 10), (.int .i64 90)], false, 0⟩, ⟨14, [(.string ⟨⟨[100]⟩⟩), (.slice (some ⟨18, 0, none⟩) 2 2), (.int .i64 1), (.slice none 0 0), (.int .i64 (-1))], false, 0⟩, ⟨15, [(.string ⟨⟨[119]⟩⟩), (.int .i64 0)], false, 0⟩, ⟨16, [(.string ⟨⟨[120]⟩⟩), (.int .i64 16), (.int .i64 19)], false, 0⟩, ⟨17, [(.int .i64 1), (.int .i64 1), (.int .i64 0), (.int .i64 0), (.int .i64 0), (.slice none 0 0), (.slice none 0 0), (.slice none 0 0), (.int .i64 1), (.int .i64 4), (.int .i64 0), (.int .i64 0), (.int .i64 0), (.slice none 0 0), (.slice none 0 0), (.slice none 0 0)], false, 0⟩, ⟨18, [(.int .i64 0), (.int .i64 0), (.slice none 0 0), (.int .i64 1), (.int .i64 0), (.slice none 0 0)], false, 0⟩],
    19, (.int .i64 0), [], 0⟩
def e2 : Env := { e1 with K := fun f => bif Nat.beq f 25 then some (kOfT 12 [tmCourse0]) else e1.K f }
def tmStarters0 : Tmpl := ⟨[(.agg ⟨[(.string ⟨⟨[99]⟩⟩), (.slice (some ⟨12, 0, none⟩) 2 2), (.slice (some ⟨13, 0, none⟩) 1 1), (.slice (some ⟨14, 0, none⟩) 1 1), (.slice (some ⟨15, 0, none⟩) 1 1), (.slice none 0 0), (.slice (some ⟨16, 0, none⟩) 1 1), (.slice none 0 0), (.slice (some ⟨17, 0, none⟩) 2 2), (.int .i64 0), (.int .i64 0), (.int .i64 0), (.int .i64 0), (.int .i64 0), (.int .i64 0), (.int .i64 0)]⟩), (.slice (some ⟨18, 0, none⟩) 2 2)],
    globs ++ [⟨12, [(.string ⟨⟨[97]⟩⟩), (.int .i64 1), (.string ⟨⟨[98]⟩⟩), (.int .i64 3)], false, 0⟩, ⟨13, [(.int .i64 0), (.int .i64 1), (.int .i64 10), (.int .i64 90)], false, 0⟩, ⟨14, [(.string ⟨⟨[100]⟩⟩), (.slice (some ⟨19, 0, none⟩) 2 2), (.int .i64 1), (.slice none 0 0), (.int .i64 (-1))], false, 0⟩, ⟨15, [(.string ⟨⟨[119]⟩⟩), (.int .i64 0)], false, 0⟩, ⟨16, [(.string ⟨⟨[120]⟩⟩), (.int .i64 16), (.int .i64 19)], false, 0⟩, ⟨17, [(.int .i64 1), (.int .i64 1), (.int .i64 0), (.int .i64 0), (.int .i64 0), (.slice none 0 0), (.slice none 0 0), (.slice none 0 0), (.int .i64 1), (.int .i64 4), (.int .i64 0), (.int .i64 0), (.int .i64 0), (.slice none 0 0), (.slice none 0 0), (.slice none 0 0)], false, 0⟩, ⟨18, [(.int .i64 0), (.int .i64 7), (.int .i64 0), (.int .i64 1), (.int .i64 7), (.int .i64 0), (.int .i64 0), (.int .i64 0), (.int .i64 30), (.int .i64 7), (.int .i64 0), (.int .i64 0), (.int .i64 0), (.int .i64 0), (.int .i64 0), (.int .i64 0), (.int .i64 0), (.int .i64 0), (.int .i64 0), (.int .i64 0), (.int .i64 0), (.int .i64 0), (.int .i64 0), (.int .i64 0), (.int .i64 0), (.int .i64 0), (.int .i64 0), (.int .i64 0), (.int .i64 0), (.int .i64 0), (.int .i64 0), (.int .i64 0), (.int .i64 0), (.int .i64 0), (.int .i64 0), (.int .i64 0), (.int .i64 0), (.int .i64 0), (.int .i64 0), (.int .i64 0), (.int .i64 0), (.int .i64 0), (.int .i64 0), (.int .i64 0), (.int .i64 0), (.int .i64 0), (.int .i64 0), (.int .i64 0), (.int .i64 0), (.int .i64 0), (.int .i64 0), (.int .i64 0), (.int .i64 0), (.int .i64 0), (.bool false), (.int .i64 0), (.int .i64 0), (.int .i64 0), (.int .i64 5), (.int .i64 0), (.int .i64 1), (.int .i64 5), (.int .i64 0), (.int .i64 0), (.int .i64 0), (.int .i64 18), (.int .i64 5), (.int .i64 0), (.int .i64 0), (.int .i64 0), (.int .i64 0), (.int .i64 0), (.int .i64 0), (.int .i64 0), (.int .i64 0), (.int .i64 0), (.int .i64 0), (.int .i64 0), (.int .i64 0), (.int .i64 0), (.int .i64 0), (.int .i64 0), (.int .i64 0), (.int .i64 0), (.int .i64 0), (.int .i64 0), (.int .i64 0), (.int .i64 0), (.int .i64 0), (.int .i64 0), (.int .i64 0), (.int .i64 0), (.int .i64 0), (.int .i64 0), (.int .i64 0), (.int .i64 0), (.int .i64 0), (.int .i64 0), (.int .i64 0), (.int .i64 0), (.int .i64 0), (.int .i64 0), (.int .i64 0), (.int .i64 0), (.int .i64 0), (.int .i64 0), (.int .i64 0), (.int .i64 0), (.int .i64 0), (.int .i64 0), (.int .i64 0), (.bool false), (.int .i64 0), (.int .i64 0)], false, 0⟩, ⟨19, [(.int .i64 0), (.int .i64 0), (.slice none 0 0), (.int .i64 1), (.int .i64 0), (.slice none 0 0)], false, 0⟩],
    20, (.tuple ⟨[(.slice (some ⟨0, 0, none⟩) 2 2), (.int .i64 0)]⟩), [⟨0, [(.int .i64 5), (.int .i64 0), (.int .i64 0), (.int .i64 0), (.int .i64 18), (.int .i64 5), (.int .i64 0), (.int .i64 0), (.int .i64 7), (.int .i64 0), (.int .i64 0), (.int .i64 0), (.int .i64 30), (.int .i64 7), (.int .i64 0), (.int .i64 0)], true, 8⟩], 2⟩
def tmStarters1 : Tmpl := ⟨[(.agg ⟨[(.string ⟨⟨[99]⟩⟩), (.slice (some ⟨12, 0, none⟩) 2 2), (.slice (some ⟨13, 0, none⟩) 1 1), (.slice (some ⟨14, 0, none⟩) 1 1), (.slice (some ⟨15, 0, none⟩) 1 1), (.slice none 0 0), (.slice (some ⟨16, 0, none⟩) 1 1), (.slice none 0 0), (.slice (some ⟨17, 0, none⟩) 2 2), (.int .i64 0), (.int .i64 0), (.int .i64 0), (.int .i64 0), (.int .i64 0), (.int .i64 0), (.int .i64 0)]⟩), (.slice (some ⟨18, 0, none⟩) 2 2)],
    globs ++ [⟨12, [(.string ⟨⟨[97]⟩⟩), (.int .i64 1), (.string ⟨⟨[98]⟩⟩), (.int .i64 3)], false, 0⟩, ⟨13, [(.int .i64 0), (.int .i64 1), (.int .i64 10), (.int .i64 90)], false, 0⟩, ⟨14, [(.string ⟨⟨[100]⟩⟩), (.slice (some ⟨20, 0, none⟩) 2 2), (.int .i64 1), (.slice none 0 0), (.int .i64 (-1))], false, 0⟩, ⟨15, [(.string ⟨⟨[119]⟩⟩), (.int .i64 0)], false, 0⟩, ⟨16, [(.string ⟨⟨[120]⟩⟩), (.int .i64 16), (.int .i64 19)], false, 0⟩, ⟨17, [(.int .i64 1), (.int .i64 1), (.int .i64 0), (.int .i64 0), (.int .i64 0), (.slice none 0 0), (.slice none 0 0), (.slice none 0 0), (.int .i64 1), (.int .i64 4), (.int .i64 0), (.int .i64 0), (.int .i64 0), (.slice none 0 0), (.slice none 0 0), (.slice none 0 0)], false, 0⟩, ⟨18, [(.int .i64 0), (.int .i64 5), (.int .i64 0), (.int .i64 1), (.int .i64 5), (.int .i64 0), (.int .i64 0), (.int .i64 0), (.int .i64 18), (.int .i64 5), (.int .i64 0), (.int .i64 0), (.int .i64 0), (.int .i64 0), (.int .i64 0), (.int .i64 0), (.int .i64 0), (.int .i64 0), (.int .i64 0), (.int .i64 0), (.int .i64 0), (.int .i64 0), (.int .i64 0), (.int .i64 0), (.int .i64 0), (.int .i64 0), (.int .i64 0), (.int .i64 0), (.int .i64 0), (.int .i64 0), (.int .i64 0), (.int .i64 0), (.int .i64 0), (.int .i64 0), (.int .i64 0), (.int .i64 0), (.int .i64 0), (.int .i64 0), (.int .i64 0), (.int .i64 0), (.int .i64 0), (.int .i64 0), (.int .i64 0), (.int .i64 0), (.int .i64 0), (.int .i64 0), (.int .i64 0), (.int .i64 0), (.int .i64 0), (.int .i64 0), (.int .i64 0), (.int .i64 0), (.int .i64 0), (.int .i64 0), (.bool false), (.int .i64 0), (.int .i64 0), (.int .i64 0), (.int .i64 7), (.int .i64 0), (.int .i64 1), (.int .i64 7), (.int .i64 0), (.int .i64 0), (.int .i64 0), (.int .i64 30), (.int .i64 7), (.int .i64 0), (.int .i64 0), (.int .i64 0), (.int .i64 0), (.int .i64 0), (.int .i64 0), (.int .i64 0), (.int .i64 0), (.int .i64 0), (.int .i64 0), (.int .i64 0), (.int .i64 0), (.int .i64 0), (.int .i64 0), (.int .i64 0), (.int .i64 0), (.int .i64 0), (.int .i64 0), (.int .i64 0), (.int .i64 0), (.int .i64 0), (.int .i64 0), (.int .i64 0), (.int .i64 0), (.int .i64 0), (.int .i64 0), (.int .i64 0), (.int .i64 0), (.int .i64 0), (.int .i64 0), (.int .i64 0), (.int .i64 0), (.int .i64 0), (.int .i64 0), (.int .i64 0), (.int .i64 0), (.int .i64 0), (.int .i64 0), (.int .i64 0), (.int .i64 0), (.int .i64 0), (.int .i64 0), (.int .i64 0), (.int .i64 0), (.bool false), (.int .i64 0), (.int .i64 0)], true, 57⟩, ⟨20, [(.int .i64 0), (.int .i64 0), (.slice none 0 0), (.int .i64 1), (.int .i64 0), (.slice none 0 0)], false, 0⟩],
    21, (.tuple ⟨[(.slice (some ⟨0, 0, none⟩) 2 2), (.int .i64 0)]⟩), [⟨0, [(.int .i64 5), (.int .i64 0), (.int .i64 0), (.int .i64 0), (.int .i64 18), (.int .i64 5), (.int .i64 0), (.int .i64 0), (.int .i64 7), (.int .i64 0), (.int .i64 0), (.int .i64 0), (.int .i64 30), (.int .i64 7), (.int .i64 0), (.int .i64 0)], true, 8⟩], 2⟩
def tmStarters2 : Tmpl := ⟨[(.agg ⟨[(.string ⟨⟨[99]⟩⟩), (.slice (some ⟨12, 0, none⟩) 2 2), (.slice (some ⟨13, 0, none⟩) 1 1), (.slice (some ⟨14, 0, none⟩) 1 1), (.slice (some ⟨15, 0, none⟩) 1 1), (.slice none 0 0), (.slice (some ⟨16, 0, none⟩) 1 1), (.slice none 0 0), (.slice (some ⟨17, 0, none⟩) 2 2), (.int .i64 0), (.int .i64 0), (.int .i64 0), (.int .i64 0), (.int .i64 0), (.int .i64 0), (.int .i64 0)]⟩), (.slice (some ⟨18, 0, none⟩) 6 6)],
    globs ++ [⟨12, [(.string ⟨⟨[97]⟩⟩), (.int .i64 1), (.string ⟨⟨[98]⟩⟩), (.int .i64 3)], false, 0⟩, ⟨13, [(.int .i64 0), (.int .i64 1), (.int .i64 10), (.int .i64 90)], false, 0⟩, ⟨14, [(.string ⟨⟨[100]⟩⟩), (.slice (some ⟨20, 0, none⟩) 2 2), (.int .i64 1), (.slice none 0 0), (.int .i64 (-1))], false, 0⟩, ⟨15, [(.string ⟨⟨[119]⟩⟩), (.int .i64 0)], false, 0⟩, ⟨16, [(.string ⟨⟨[120]⟩⟩), (.int .i64 16), (.int .i64 19)], false, 0⟩, ⟨17, [(.int .i64 1), (.int .i64 1), (.int .i64 0), (.int .i64 0), (.int .i64 0), (.slice none 0 0), (.slice none 0 0), (.slice none 0 0), (.int .i64 1), (.int .i64 4), (.int .i64 0), (.int .i64 0), (.int .i64 0), (.slice none 0 0), (.slice none 0 0), (.slice none 0 0)], false, 0⟩, ⟨18, [(.int .i64 0), (.int .i64 7), (.int .i64 0), (.int .i64 1), (.int .i64 7), (.int .i64 0), (.int .i64 0), (.int .i64 0), (.int .i64 30), (.int .i64 7), (.int .i64 0), (.int .i64 0), (.int .i64 0), (.int .i64 0), (.int .i64 0), (.int .i64 0), (.int .i64 0), (.int .i64 0), (.int .i64 0), (.int .i64 0), (.int .i64 0), (.int .i64 0), (.int .i64 0), (.int .i64 0), (.int .i64 0), (.int .i64 0), (.int .i64 0), (.int .i64 0), (.int .i64 0), (.int .i64 0), (.int .i64 0), (.int .i64 0), (.int .i64 0), (.int .i64 0), (.int .i64 0), (.int .i64 0), (.int .i64 0), (.int .i64 0), (.int .i64 0), (.int .i64 0), (.int .i64 0), (.int .i64 0), (.int .i64 0), (.int .i64 0), (.int .i64 0), (.int .i64 0), (.int .i64 0), (.int .i64 0), (.int .i64 0), (.int .i64 0), (.int .i64 0), (.int .i64 0), (.int .i64 0), (.int .i64 0), (.bool false), (.int .i64 0), (.int .i64 0), (.int .i64 0), (.int .i64 5), (.int .i64 0), (.int .i64 1), (.int .i64 5), (.int .i64 0), (.int .i64 0), (.int .i64 0), (.int .i64 18), (.int .i64 5), (.int .i64 0), (.int .i64 0), (.int .i64 0), (.int .i64 0), (.int .i64 0), (.int .i64 0), (.int .i64 0), (.int .i64 0), (.int .i64 0), (.int .i64 0), (.int .i64 0), (.int .i64 0), (.int .i64 0), (.int .i64 0), (.int .i64 0), (.int .i64 0), (.int .i64 0), (.int .i64 0), (.int .i64 0), (.int .i64 0), (.int .i64 0), (.int .i64 0), (.int .i64 0), (.int .i64 0), (.int .i64 0), (.int .i64 0), (.int .i64 0), (.int .i64 0), (.int .i64 0), (.int .i64 0), (.int .i64 0), (.int .i64 0), (.int .i64 0), (.int .i64 0), (.int .i64 0), (.int .i64 0), (.int .i64 0), (.int .i64 0), (.int .i64 0), (.int .i64 0), (.int .i64 0), (.int .i64 0), (.int .i64 0), (.int .i64 0), (.bool false), (.int .i64 0), (.int .i64 0), (.int .i64 2), (.int .i64 10), (.int .i64 10), (.int .i64 5), (.int .i64 0), (.int .i64 0), (.int .i64 0), (.int .i64 0), (.int .i64 0), (.int .i64 0), (.int .i64 0), (.int .i64 0), (.int .i64 0), (.int .i64 0), (.int .i64 0), (.int .i64 0), (.int .i64 0), (.int .i64 0), (.int .i64 0), (.int .i64 0), (.int .i64 0), (.int .i64 0), (.int .i64 0), (.int .i64 0), (.int .i64 0), (.int .i64 0), (.int .i64 0), (.int .i64 0), (.int .i64 0), (.int .i64 7), (.int .i64 0), (.int .i64 1), (.int .i64 1), (.int .i64 0), (.int .i64 0), (.int .i64 0), (.int .i64 0), (.int .i64 0), (.int .i64 0), (.int .i64 0), (.int .i64 0), (.int .i64 0), (.int .i64 0), (.int .i64 0), (.int .i64 0), (.int .i64 0), (.int .i64 0), (.int .i64 0), (.int .i64 0), (.int .i64 0), (.int .i64 0), (.int .i64 0), (.int .i64 0), (.int .i64 0), (.bool false), (.int .i64 0), (.int .i64 0), (.int .i64 1), (.int .i64 9), (.int .i64 9), (.int .i64 5), (.int .i64 0), (.int .i64 0), (.int .i64 0), (.int .i64 0), (.int .i64 0), (.int .i64 0), (.int .i64 0), (.int .i64 0), (.int .i64 0), (.int .i64 0), (.int .i64 0), (.int .i64 0), (.int .i64 0), (.int .i64 0), (.int .i64 0), (.int .i64 0), (.int .i64 0), (.int .i64 0), (.int .i64 0), (.int .i64 0), (.int .i64 0), (.int .i64 0), (.int .i64 0), (.int .i64 0), (.int .i64 0), (.int .i64 7), (.int .i64 1), (.int .i64 40), (.int .i64 40), (.int .i64 0), (.int .i64 0), (.int .i64 0), (.int .i64 0), (.int .i64 0), (.int .i64 0), (.int .i64 0), (.int .i64 0), (.int .i64 0), (.int .i64 0), (.int .i64 0), (.int .i64 0), (.int .i64 0), (.int .i64 0), (.int .i64 0), (.int .i64 0), (.int .i64 0), (.int .i64 0), (.int .i64 0), (.int .i64 0), (.int .i64 0), (.bool false), (.int .i64 0), (.int .i64 0), (.int .i64 1), (.int .i64 10), (.int .i64 10), (.int .i64 5), (.int .i64 0), (.int .i64 0), (.int .i64 0), (.int .i64 0), (.int .i64 0), (.int .i64 0), (.int .i64 0), (.int .i64 0), (.int .i64 0), (.int .i64 0), (.int .i64 0), (.int .i64 0), (.int .i64 0), (.int .i64 0), (.int .i64 0), (.int .i64 0), (.int .i64 0), (.int .i64 0), (.int .i64 0), (.int .i64 0), (.int .i64 0), (.int .i64 0), (.int .i64 0), (.int .i64 0), (.int .i64 0), (.int .i64 7), (.int .i64 1), (.int .i64 50), (.int .i64 50), (.int .i64 0), (.int .i64 0), (.int .i64 0), (.int .i64 0), (.int .i64 0), (.int .i64 0), (.int .i64 0), (.int .i64 0), (.int .i64 0), (.int .i64 0), (.int .i64 0), (.int .i64 0), (.int .i64 0), (.int .i64 0), (.int .i64 0), (.int .i64 0), (.int .i64 0), (.int .i64 0), (.int .i64 0), (.int .i64 0), (.int .i64 0), (.bool false), (.int .i64 0), (.int .i64 0), (.int .i64 2), (.int .i64 11), (.int .i64 11), (.int .i64 5), (.int .i64 0), (.int .i64 0), (.int .i64 0), (.int .i64 0), (.int .i64 0), (.int .i64 0), (.int .i64 0), (.int .i64 0), (.int .i64 0), (.int .i64 0), (.int .i64 0), (.int .i64 0), (.int .i64 0), (.int .i64 0), (.int .i64 0), (.int .i64 0), (.int .i64 0), (.int .i64 0), (.int .i64 0), (.int .i64 0), (.int .i64 0), (.int .i64 0), (.int .i64 0), (.int .i64 0), (.int .i64 0), (.int .i64 7), (.int .i64 1), (.int .i64 60), (.int .i64 60), (.int .i64 0), (.int .i64 0), (.int .i64 0), (.int .i64 0), (.int .i64 0), (.int .i64 0), (.int .i64 0), (.int .i64 0), (.int .i64 0), (.int .i64 0), (.int .i64 0), (.int .i64 0), (.int .i64 0), (.int .i64 0), (.int .i64 0), (.int .i64 0), (.int .i64 0), (.int .i64 0), (.int .i64 0), (.int .i64 0), (.int .i64 0), (.bool false), (.int .i64 0), (.int .i64 0)], true, 57⟩, ⟨20, [(.int .i64 0), (.int .i64 0), (.slice none 0 0), (.int .i64 1), (.int .i64 0), (.slice none 0 0)], false, 0⟩],
    21, (.tuple ⟨[(.slice (some ⟨0, 0, none⟩) 2 2), (.int .i64 0)]⟩), [⟨0, [(.int .i64 5), (.int .i64 0), (.int .i64 0), (.int .i64 0), (.int .i64 18), (.int .i64 5), (.int .i64 0), (.int .i64 0), (.int .i64 7), (.int .i64 0), (.int .i64 0), (.int .i64 0), (.int .i64 30), (.int .i64 7), (.int .i64 0), (.int .i64 0)], true, 8⟩], 2⟩
def tmStarters3 : Tmpl := ⟨[(.agg ⟨[(.string ⟨⟨[99]⟩⟩), (.slice (some ⟨12, 0, none⟩) 2 2), (.slice (some ⟨13, 0, none⟩) 1 1), (.slice (some ⟨14, 0, none⟩) 1 1), (.slice (some ⟨15, 0, none⟩) 1 1), (.slice none 0 0), (.slice (some ⟨16, 0, none⟩) 1 1), (.slice none 0 0), (.slice (some ⟨17, 0, none⟩) 2 2), (.int .i64 0), (.int .i64 0), (.int .i64 0), (.int .i64 0), (.int .i64 0), (.int .i64 0), (.int .i64 0)]⟩), (.slice (some ⟨18, 0, none⟩) 6 6)],
    globs ++ [⟨12, [(.string ⟨⟨[97]⟩⟩), (.int .i64 1), (.string ⟨⟨[98]⟩⟩), (.int .i64 3)], false, 0⟩, ⟨13, [(.int .i64 0), (.int .i64 1), (.int .i64 10), (.int .i64 90)], false, 0⟩, ⟨14, [(.string ⟨⟨[100]⟩⟩), (.slice (some ⟨20, 0, none⟩) 2 2), (.int .i64 1), (.slice none 0 0), (.int .i64 (-1))], false, 0⟩, ⟨15, [(.string ⟨⟨[119]⟩⟩), (.int .i64 0)], false, 0⟩, ⟨16, [(.string ⟨⟨[120]⟩⟩), (.int .i64 16), (.int .i64 19)], false, 0⟩, ⟨17, [(.int .i64 1), (.int .i64 1), (.int .i64 0), (.int .i64 0), (.int .i64 0), (.slice none 0 0), (.slice none 0 0), (.slice none 0 0), (.int .i64 1), (.int .i64 4), (.int .i64 0), (.int .i64 0), (.int .i64 0), (.slice none 0 0), (.slice none 0 0), (.slice none 0 0)], false, 0⟩, ⟨18, [(.int .i64 0), (.int .i64 5), (.int .i64 0), (.int .i64 1), (.int .i64 5), (.int .i64 0), (.int .i64 0), (.int .i64 0), (.int .i64 18), (.int .i64 5), (.int .i64 0), (.int .i64 0), (.int .i64 0), (.int .i64 0), (.int .i64 0), (.int .i64 0), (.int .i64 0), (.int .i64 0), (.int .i64 0), (.int .i64 0), (.int .i64 0), (.int .i64 0), (.int .i64 0), (.int .i64 0), (.int .i64 0), (.int .i64 0), (.int .i64 0), (.int .i64 0), (.int .i64 0), (.int .i64 0), (.int .i64 0), (.int .i64 0), (.int .i64 0), (.int .i64 0), (.int .i64 0), (.int .i64 0), (.int .i64 0), (.int .i64 0), (.int .i64 0), (.int .i64 0), (.int .i64 0), (.int .i64 0), (.int .i64 0), (.int .i64 0), (.int .i64 0), (.int .i64 0), (.int .i64 0), (.int .i64 0), (.int .i64 0), (.int .i64 0), (.int .i64 0), (.int .i64 0), (.int .i64 0), (.int .i64 0), (.bool false), (.int .i64 0), (.int .i64 0), (.int .i64 0), (.int .i64 7), (.int .i64 0), (.int .i64 1), (.int .i64 7), (.int .i64 0), (.int .i64 0), (.int .i64 0), (.int .i64 30), (.int .i64 7), (.int .i64 0), (.int .i64 0), (.int .i64 0), (.int .i64 0), (.int .i64 0), (.int .i64 0), (.int .i64 0), (.int .i64 0), (.int .i64 0), (.int .i64 0), (.int .i64 0), (.int .i64 0), (.int .i64 0), (.int .i64 0), (.int .i64 0), (.int .i64 0), (.int .i64 0), (.int .i64 0), (.int .i64 0), (.int .i64 0), (.int .i64 0), (.int .i64 0), (.int .i64 0), (.int .i64 0), (.int .i64 0), (.int .i64 0), (.int .i64 0), (.int .i64 0), (.int .i64 0), (.int .i64 0), (.int .i64 0), (.int .i64 0), (.int .i64 0), (.int .i64 0), (.int .i64 0), (.int .i64 0), (.int .i64 0), (.int .i64 0), (.int .i64 0), (.int .i64 0), (.int .i64 0), (.int .i64 0), (.int .i64 0), (.int .i64 0), (.bool false), (.int .i64 0), (.int .i64 0), (.int .i64 1), (.int .i64 9), (.int .i64 9), (.int .i64 5), (.int .i64 0), (.int .i64 0), (.int .i64 0), (.int .i64 0), (.int .i64 0), (.int .i64 0), (.int .i64 0), (.int .i64 0), (.int .i64 0), (.int .i64 0), (.int .i64 0), (.int .i64 0), (.int .i64 0), (.int .i64 0), (.int .i64 0), (.int .i64 0), (.int .i64 0), (.int .i64 0), (.int .i64 0), (.int .i64 0), (.int .i64 0), (.int .i64 0), (.int .i64 0), (.int .i64 0), (.int .i64 0), (.int .i64 7), (.int .i64 1), (.int .i64 40), (.int .i64 40), (.int .i64 0), (.int .i64 0), (.int .i64 0), (.int .i64 0), (.int .i64 0), (.int .i64 0), (.int .i64 0), (.int .i64 0), (.int .i64 0), (.int .i64 0), (.int .i64 0), (.int .i64 0), (.int .i64 0), (.int .i64 0), (.int .i64 0), (.int .i64 0), (.int .i64 0), (.int .i64 0), (.int .i64 0), (.int .i64 0), (.int .i64 0), (.bool false), (.int .i64 0), (.int .i64 0), (.int .i64 1), (.int .i64 10), (.int .i64 10), (.int .i64 5), (.int .i64 0), (.int .i64 0), (.int .i64 0), (.int .i64 0), (.int .i64 0), (.int .i64 0), (.int .i64 0), (.int .i64 0), (.int .i64 0), (.int .i64 0), (.int .i64 0), (.int .i64 0), (.int .i64 0), (.int .i64 0), (.int .i64 0), (.int .i64 0), (.int .i64 0), (.int .i64 0), (.int .i64 0), (.int .i64 0), (.int .i64 0), (.int .i64 0), (.int .i64 0), (.int .i64 0), (.int .i64 0), (.int .i64 7), (.int .i64 1), (.int .i64 50), (.int .i64 50), (.int .i64 0), (.int .i64 0), (.int .i64 0), (.int .i64 0), (.int .i64 0), (.int .i64 0), (.int .i64 0), (.int .i64 0), (.int .i64 0), (.int .i64 0), (.int .i64 0), (.int .i64 0), (.int .i64 0), (.int .i64 0), (.int .i64 0), (.int .i64 0), (.int .i64 0), (.int .i64 0), (.int .i64 0), (.int .i64 0), (.int .i64 0), (.bool false), (.int .i64 0), (.int .i64 0), (.int .i64 2), (.int .i64 10), (.int .i64 10), (.int .i64 5), (.int .i64 0), (.int .i64 0), (.int .i64 0), (.int .i64 0), (.int .i64 0), (.int .i64 0), (.int .i64 0), (.int .i64 0), (.int .i64 0), (.int .i64 0), (.int .i64 0), (.int .i64 0), (.int .i64 0), (.int .i64 0), (.int .i64 0), (.int .i64 0), (.int .i64 0), (.int .i64 0), (.int .i64 0), (.int .i64 0), (.int .i64 0), (.int .i64 0), (.int .i64 0), (.int .i64 0), (.int .i64 0), (.int .i64 7), (.int .i64 0), (.int .i64 1), (.int .i64 1), (.int .i64 0), (.int .i64 0), (.int .i64 0), (.int .i64 0), (.int .i64 0), (.int .i64 0), (.int .i64 0), (.int .i64 0), (.int .i64 0), (.int .i64 0), (.int .i64 0), (.int .i64 0), (.int .i64 0), (.int .i64 0), (.int .i64 0), (.int .i64 0), (.int .i64 0), (.int .i64 0), (.int .i64 0), (.int .i64 0), (.int .i64 0), (.bool false), (.int .i64 0), (.int .i64 0), (.int .i64 2), (.int .i64 11), (.int .i64 11), (.int .i64 5), (.int .i64 0), (.int .i64 0), (.int .i64 0), (.int .i64 0), (.int .i64 0), (.int .i64 0), (.int .i64 0), (.int .i64 0), (.int .i64 0), (.int .i64 0), (.int .i64 0), (.int .i64 0), (.int .i64 0), (.int .i64 0), (.int .i64 0), (.int .i64 0), (.int .i64 0), (.int .i64 0), (.int .i64 0), (.int .i64 0), (.int .i64 0), (.int .i64 0), (.int .i64 0), (.int .i64 0), (.int .i64 0), (.int .i64 7), (.int .i64 1), (.int .i64 60), (.int .i64 60), (.int .i64 0), (.int .i64 0), (.int .i64 0), (.int .i64 0), (.int .i64 0), (.int .i64 0), (.int .i64 0), (.int .i64 0), (.int .i64 0), (.int .i64 0), (.int .i64 0), (.int .i64 0), (.int .i64 0), (.int .i64 0), (.int .i64 0), (.int .i64 0), (.int .i64 0), (.int .i64 0), (.int .i64 0), (.int .i64 0), (.int .i64 0), (.bool false), (.int .i64 0), (.int .i64 0)], true, 57⟩, ⟨20, [(.int .i64 0), (.int .i64 0), (.slice none 0 0), (.int .i64 1), (.int .i64 0), (.slice none 0 0)], false, 0⟩],
    21, (.tuple ⟨[(.slice (some ⟨0, 0, none⟩) 2 2), (.int .i64 0)]⟩), [⟨0, [(.int .i64 5), (.int .i64 0), (.int .i64 0), (.int .i64 0), (.int .i64 18), (.int .i64 5), (.int .i64 0), (.int .i64 0), (.int .i64 7), (.int .i64 0), (.int .i64 0), (.int .i64 0), (.int .i64 30), (.int .i64 7), (.int .i64 0), (.int .i64 0)], true, 8⟩], 2⟩
def tmStarters4 : Tmpl := ⟨[(.agg ⟨[(.string ⟨⟨[99]⟩⟩), (.slice (some ⟨12, 0, none⟩) 2 2), (.slice (some ⟨13, 0, none⟩) 1 1), (.slice (some ⟨14, 0, none⟩) 1 1), (.slice (some ⟨15, 0, none⟩) 1 1), (.slice none 0 0), (.slice (some ⟨16, 0, none⟩) 1 1), (.slice none 0 0), (.slice (some ⟨17, 0, none⟩) 2 2), (.int .i64 0), (.int .i64 0), (.int .i64 0), (.int .i64 0), (.int .i64 0), (.int .i64 0), (.int .i64 0)]⟩), (.slice none 0 0)],
    globs ++ [⟨12, [(.string ⟨⟨[97]⟩⟩), (.int .i64 1), (.string ⟨⟨[98]⟩⟩), (.int .i64 3)], false, 0⟩, ⟨13, [(.int .i64 0), (.int .i64 1), (.int .i64 10), (.int .i64 90)], false, 0⟩, ⟨14, [(.string ⟨⟨[100]⟩⟩), (.slice (some ⟨18, 0, none⟩) 2 2), (.int .i64 1), (.slice none 0 0), (.int .i64 (-1))], false, 0⟩, ⟨15, [(.string ⟨⟨[119]⟩⟩), (.int .i64 0)], false, 0⟩, ⟨16, [(.string ⟨⟨[120]⟩⟩), (.int .i64 16), (.int .i64 19)], false, 0⟩, ⟨17, [(.int .i64 1), (.int .i64 1), (.int .i64 0), (.int .i64 0), (.int .i64 0), (.slice none 0 0), (.slice none 0 0), (.slice none 0 0), (.int .i64 1), (.int .i64 4), (.int .i64 0), (.int .i64 0), (.int .i64 0), (.slice none 0 0), (.slice none 0 0), (.slice none 0 0)], false, 0⟩, ⟨18, [(.int .i64 0), (.int .i64 0), (.slice none 0 0), (.int .i64 1), (.int .i64 0), (.slice none 0 0)], false, 0⟩],
    19, (.tuple ⟨[(.slice none 0 0), (.int .i64 0)]⟩), [], 0⟩
def e3 : Env := { e2 with K := fun f => bif Nat.beq f 64 then some (kOfT 12 [tmStarters0, tmStarters1, tmStarters2, tmStarters3, tmStarters4]) else e2.K f }
def tmOf0 : Tmpl := ⟨[(.agg ⟨[(.string ⟨⟨[99]⟩⟩), (.slice (some ⟨12, 0, none⟩) 2 2), (.slice (some ⟨13, 0, none⟩) 1 1), (.slice (some ⟨14, 0, none⟩) 1 1), (.slice (some ⟨15, 0, none⟩) 1 1), (.slice none 0 0), (.slice (some ⟨16, 0, none⟩) 1 1), (.slice none 0 0), (.slice (some ⟨17, 0, none⟩) 2 2), (.int .i64 0), (.int .i64 0), (.int .i64 0), (.int .i64 0), (.int .i64 0), (.int .i64 0), (.int .i64 0)]⟩), (.slice (some ⟨18, 0, none⟩) 2 2), (.int .i64 0), (.int .i64 (-1)), (.int .i64 (-1))],
    globs ++ [⟨12, [(.string ⟨⟨[97]⟩⟩), (.int .i64 1), (.string ⟨⟨[98]⟩⟩), (.int .i64 3)], false, 0⟩, ⟨13, [(.int .i64 0), (.int .i64 1), (.int .i64 10), (.int .i64 90)], false, 0⟩, ⟨14, [(.string ⟨⟨[100]⟩⟩), (.slice (some ⟨19, 0, none⟩) 2 2), (.int .i64 1), (.slice none 0 0), (.int .i64 (-1))], false, 0⟩, ⟨15, [(.string ⟨⟨[119]⟩⟩), (.int .i64 0)], false, 0⟩, ⟨16, [(.string ⟨⟨[120]⟩⟩), (.int .i64 16), (.int .i64 19)], false, 0⟩, ⟨17, [(.int .i64 1), (.int .i64 1), (.int .i64 0), (.int .i64 0), (.int .i64 0), (.slice none 0 0), (.slice none 0 0), (.slice none 0 0), (.int .i64 1), (.int .i64 4), (.int .i64 0), (.int .i64 0), (.int .i64 0), (.slice none 0 0), (.slice none 0 0), (.slice none 0 0)], false, 0⟩, ⟨18, [(.int .i64 0), (.int .i64 7), (.int .i64 0), (.int .i64 1), (.int .i64 7), (.int .i64 0), (.int .i64 0), (.int .i64 0), (.int .i64 30), (.int .i64 7), (.int .i64 0), (.int .i64 0), (.int .i64 0), (.int .i64 0), (.int .i64 0), (.int .i64 0), (.int .i64 0), (.int .i64 0), (.int .i64 0), (.int .i64 0), (.int .i64 0), (.int .i64 0), (.int .i64 0), (.int .i64 0), (.int .i64 0), (.int .i64 0), (.int .i64 0), (.int .i64 0), (.int .i64 0), (.int .i64 0), (.int .i64 0), (.int .i64 0), (.int .i64 0), (.int .i64 0), (.int .i64 0), (.int .i64 0), (.int .i64 0), (.int .i64 0), (.int .i64 0), (.int .i64 0), (.int .i64 0), (.int .i64 0), (.int .i64 0), (.int .i64 0), (.int .i64 0), (.int .i64 0), (.int .i64 0), (.int .i64 0), (.int .i64 0), (.int .i64 0), (.int .i64 0), (.int .i64 0), (.int .i64 0), (.int .i64 0), (.bool false), (.int .i64 0), (.int .i64 0), (.int .i64 0), (.int .i64 5), (.int .i64 0), (.int .i64 1), (.int .i64 5), (.int .i64 0), (.int .i64 0), (.int .i64 0), (.int .i64 18), (.int .i64 5), (.int .i64 0), (.int .i64 0), (.int .i64 0), (.int .i64 0), (.int .i64 0), (.int .i64 0), (.int .i64 0), (.int .i64 0), (.int .i64 0), (.int .i64 0), (.int .i64 0), (.int .i64 0), (.int .i64 0), (.int .i64 0), (.int .i64 0), (.int .i64 0), (.int .i64 0), (.int .i64 0), (.int .i64 0), (.int .i64 0), (.int .i64 0), (.int .i64 0), (.int .i64 0), (.int .i64 0), (.int .i64 0), (.int .i64 0), (.int .i64 0), (.int .i64 0), (.int .i64 0), (.int .i64 0), (.int .i64 0), (.int .i64 0), (.int .i64 0), (.int .i64 0), (.int .i64 0), (.int .i64 0), (.int .i64 0), (.int .i64 0), (.int .i64 0), (.int .i64 0), (.int .i64 0), (.int .i64 0), (.int .i64 0), (.int .i64 0), (.bool false), (.int .i64 0), (.int .i64 0)], false, 0⟩, ⟨19, [(.int .i64 0), (.int .i64 0), (.slice none 0 0), (.int .i64 1), (.int .i64 0), (.slice none 0 0)], false, 0⟩],
    20, (.tuple ⟨[(.agg ⟨[(.slice none 0 0), (.slice (some ⟨0, 0, none⟩) 1 1), (.slice none 0 0), (.slice (some ⟨2, 0, none⟩) 2 2)]⟩), (.int .i64 0)]⟩), [⟨0, [(.slice (some ⟨4, 0, none⟩) 1 1)], true, 1⟩, ⟨2, [(.int .i64 5), (.slice (some ⟨5, 0, none⟩) 2 2), (.slice (some ⟨7, 0, none⟩) 1 1), (.int .i64 7), (.slice (some ⟨9, 0, none⟩) 2 2), (.slice (some ⟨11, 0, none⟩) 1 1)], true, 3⟩, ⟨4, [(.int .i64 0)], false, 0⟩, ⟨5, [(.int .i64 (-18)), (.int .i64 5)], true, 1⟩, ⟨7, [(.slice (some ⟨13, 0, none⟩) 1 1)], true, 1⟩, ⟨9, [(.int .i64 (-30)), (.int .i64 7)], true, 1⟩, ⟨11, [(.slice (some ⟨15, 0, none⟩) 1 1)], true, 1⟩, ⟨13, [(.bool true), (.int .i64 (-1)), (.int .i64 0), (.int .i64 0)], true, 4⟩, ⟨15, [(.bool true), (.int .i64 (-1)), (.int .i64 0), (.int .i64 0)], true, 4⟩], 17⟩
def tmOf1 : Tmpl := ⟨[(.agg ⟨[(.string ⟨⟨[99]⟩⟩), (.slice (some ⟨12, 0, none⟩) 2 2), (.slice (some ⟨13, 0, none⟩) 1 1), (.slice (some ⟨14, 0, none⟩) 1 1), (.slice (some ⟨15, 0, none⟩) 1 1), (.slice none 0 0), (.slice (some ⟨16, 0, none⟩) 1 1), (.slice none 0 0), (.slice (some ⟨17, 0, none⟩) 2 2), (.int .i64 0), (.int .i64 0), (.int .i64 0), (.int .i64 0), (.int .i64 0), (.int .i64 0), (.int .i64 0)]⟩), (.slice (some ⟨18, 0, none⟩) 6 6), (.int .i64 0), (.int .i64 (-1)), (.int .i64 (-1))],
    globs ++ [⟨12, [(.string ⟨⟨[97]⟩⟩), (.int .i64 1), (.string ⟨⟨[98]⟩⟩), (.int .i64 3)], false, 0⟩, ⟨13, [(.int .i64 0), (.int .i64 1), (.int .i64 10), (.int .i64 90)], false, 0⟩, ⟨14, [(.string ⟨⟨[100]⟩⟩), (.slice (some ⟨20, 0, none⟩) 2 2), (.int .i64 1), (.slice none 0 0), (.int .i64 (-1))], false, 0⟩, ⟨15, [(.string ⟨⟨[119]⟩⟩), (.int .i64 0)], false, 0⟩, ⟨16, [(.string ⟨⟨[120]⟩⟩), (.int .i64 16), (.int .i64 19)], false, 0⟩, ⟨17, [(.int .i64 1), (.int .i64 1), (.int .i64 0), (.int .i64 0), (.int .i64 0), (.slice none 0 0), (.slice none 0 0), (.slice none 0 0), (.int .i64 1), (.int .i64 4), (.int .i64 0), (.int .i64 0), (.int .i64 0), (.slice none 0 0), (.slice none 0 0), (.slice none 0 0)], false, 0⟩, ⟨18, [(.int .i64 0), (.int .i64 7), (.int .i64 0), (.int .i64 1), (.int .i64 7), (.int .i64 0), (.int .i64 0), (.int .i64 0), (.int .i64 30), (.int .i64 7), (.int .i64 0), (.int .i64 0), (.int .i64 0), (.int .i64 0), (.int .i64 0), (.int .i64 0), (.int .i64 0), (.int .i64 0), (.int .i64 0), (.int .i64 0), (.int .i64 0), (.int .i64 0), (.int .i64 0), (.int .i64 0), (.int .i64 0), (.int .i64 0), (.int .i64 0), (.int .i64 0), (.int .i64 0), (.int .i64 0), (.int .i64 0), (.int .i64 0), (.int .i64 0), (.int .i64 0), (.int .i64 0), (.int .i64 0), (.int .i64 0), (.int .i64 0), (.int .i64 0), (.int .i64 0), (.int .i64 0), (.int .i64 0), (.int .i64 0), (.int .i64 0), (.int .i64 0), (.int .i64 0), (.int .i64 0), (.int .i64 0), (.int .i64 0), (.int .i64 0), (.int .i64 0), (.int .i64 0), (.int .i64 0), (.int .i64 0), (.bool false), (.int .i64 0), (.int .i64 0), (.int .i64 0), (.int .i64 5), (.int .i64 0), (.int .i64 1), (.int .i64 5), (.int .i64 0), (.int .i64 0), (.int .i64 0), (.int .i64 18), (.int .i64 5), (.int .i64 0), (.int .i64 0), (.int .i64 0), (.int .i64 0), (.int .i64 0), (.int .i64 0), (.int .i64 0), (.int .i64 0), (.int .i64 0), (.int .i64 0), (.int .i64 0), (.int .i64 0), (.int .i64 0), (.int .i64 0), (.int .i64 0), (.int .i64 0), (.int .i64 0), (.int .i64 0), (.int .i64 0), (.int .i64 0), (.int .i64 0), (.int .i64 0), (.int .i64 0), (.int .i64 0), (.int .i64 0), (.int .i64 0), (.int .i64 0), (.int .i64 0), (.int .i64 0), (.int .i64 0), (.int .i64 0), (.int .i64 0), (.int .i64 0), (.int .i64 0), (.int .i64 0), (.int .i64 0), (.int .i64 0), (.int .i64 0), (.int .i64 0), (.int .i64 0), (.int .i64 0), (.int .i64 0), (.int .i64 0), (.int .i64 0), (.bool false), (.int .i64 0), (.int .i64 0), (.int .i64 2), (.int .i64 10), (.int .i64 10), (.int .i64 5), (.int .i64 0), (.int .i64 0), (.int .i64 0), (.int .i64 0), (.int .i64 0), (.int .i64 0), (.int .i64 0), (.int .i64 0), (.int .i64 0), (.int .i64 0), (.int .i64 0), (.int .i64 0), (.int .i64 0), (.int .i64 0), (.int .i64 0), (.int .i64 0), (.int .i64 0), (.int .i64 0), (.int .i64 0), (.int .i64 0), (.int .i64 0), (.int .i64 0), (.int .i64 0), (.int .i64 0), (.int .i64 0), (.int .i64 7), (.int .i64 0), (.int .i64 1), (.int .i64 1), (.int .i64 0), (.int .i64 0), (.int .i64 0), (.int .i64 0), (.int .i64 0), (.int .i64 0), (.int .i64 0), (.int .i64 0), (.int .i64 0), (.int .i64 0), (.int .i64 0), (.int .i64 0), (.int .i64 0), (.int .i64 0), (.int .i64 0), (.int .i64 0), (.int .i64 0), (.int .i64 0), (.int .i64 0), (.int .i64 0), (.int .i64 0), (.bool false), (.int .i64 0), (.int .i64 0), (.int .i64 1), (.int .i64 9), (.int .i64 9), (.int .i64 5), (.int .i64 0), (.int .i64 0), (.int .i64 0), (.int .i64 0), (.int .i64 0), (.int .i64 0), (.int .i64 0), (.int .i64 0), (.int .i64 0), (.int .i64 0), (.int .i64 0), (.int .i64 0), (.int .i64 0), (.int .i64 0), (.int .i64 0), (.int .i64 0), (.int .i64 0), (.int .i64 0), (.int .i64 0), (.int .i64 0), (.int .i64 0), (.int .i64 0), (.int .i64 0), (.int .i64 0), (.int .i64 0), (.int .i64 7), (.int .i64 1), (.int .i64 40), (.int .i64 40), (.int .i64 0), (.int .i64 0), (.int .i64 0), (.int .i64 0), (.int .i64 0), (.int .i64 0), (.int .i64 0), (.int .i64 0), (.int .i64 0), (.int .i64 0), (.int .i64 0), (.int .i64 0), (.int .i64 0), (.int .i64 0), (.int .i64 0), (.int .i64 0), (.int .i64 0), (.int .i64 0), (.int .i64 0), (.int .i64 0), (.int .i64 0), (.bool false), (.int .i64 0), (.int .i64 0), (.int .i64 1), (.int .i64 10), (.int .i64 10), (.int .i64 5), (.int .i64 0), (.int .i64 0), (.int .i64 0), (.int .i64 0), (.int .i64 0), (.int .i64 0), (.int .i64 0), (.int .i64 0), (.int .i64 0), (.int .i64 0), (.int .i64 0), (.int .i64 0), (.int .i64 0), (.int .i64 0), (.int .i64 0), (.int .i64 0), (.int .i64 0), (.int .i64 0), (.int .i64 0), (.int .i64 0), (.int .i64 0), (.int .i64 0), (.int .i64 0), (.int .i64 0), (.int .i64 0), (.int .i64 7), (.int .i64 1), (.int .i64 50), (.int .i64 50), (.int .i64 0), (.int .i64 0), (.int .i64 0), (.int .i64 0), (.int .i64 0), (.int .i64 0), (.int .i64 0), (.int .i64 0), (.int .i64 0), (.int .i64 0), (.int .i64 0), (.int .i64 0), (.int .i64 0), (.int .i64 0), (.int .i64 0), (.int .i64 0), (.int .i64 0), (.int .i64 0), (.int .i64 0), (.int .i64 0), (.int .i64 0), (.bool false), (.int .i64 0), (.int .i64 0), (.int .i64 2), (.int .i64 11), (.int .i64 11), (.int .i64 5), (.int .i64 0), (.int .i64 0), (.int .i64 0), (.int .i64 0), (.int .i64 0), (.int .i64 0), (.int .i64 0), (.int .i64 0), (.int .i64 0), (.int .i64 0), (.int .i64 0), (.int .i64 0), (.int .i64 0), (.int .i64 0), (.int .i64 0), (.int .i64 0), (.int .i64 0), (.int .i64 0), (.int .i64 0), (.int .i64 0), (.int .i64 0), (.int .i64 0), (.int .i64 0), (.int .i64 0), (.int .i64 0), (.int .i64 7), (.int .i64 1), (.int .i64 60), (.int .i64 60), (.int .i64 0), (.int .i64 0), (.int .i64 0), (.int .i64 0), (.int .i64 0), (.int .i64 0), (.int .i64 0), (.int .i64 0), (.int .i64 0), (.int .i64 0), (.int .i64 0), (.int .i64 0), (.int .i64 0), (.int .i64 0), (.int .i64 0), (.int .i64 0), (.int .i64 0), (.int .i64 0), (.int .i64 0), (.int .i64 0), (.int .i64 0), (.bool false), (.int .i64 0), (.int .i64 0)], true, 57⟩, ⟨20, [(.int .i64 0), (.int .i64 0), (.slice none 0 0), (.int .i64 1), (.int .i64 0), (.slice none 0 0)], false, 0⟩],
    21, (.tuple ⟨[(.agg ⟨[(.slice none 0 0), (.slice (some ⟨0, 0, none⟩) 1 1), (.slice none 0 0), (.slice (some ⟨2, 0, none⟩) 2 2)]⟩), (.int .i64 0)]⟩), [⟨0, [(.slice (some ⟨4, 0, none⟩) 1 1)], true, 1⟩, ⟨2, [(.int .i64 5), (.slice (some ⟨5, 0, none⟩) 2 2), (.slice (some ⟨7, 0, none⟩) 1 1), (.int .i64 7), (.slice (some ⟨9, 0, none⟩) 2 2), (.slice (some ⟨11, 0, none⟩) 1 1)], true, 3⟩, ⟨4, [(.int .i64 0)], false, 0⟩, ⟨5, [(.int .i64 (-18)), (.int .i64 5)], true, 1⟩, ⟨7, [(.slice (some ⟨13, 0, none⟩) 1 1)], true, 1⟩, ⟨9, [(.int .i64 (-30)), (.int .i64 7)], true, 1⟩, ⟨11, [(.slice (some ⟨15, 0, none⟩) 1 1)], true, 1⟩, ⟨13, [(.bool true), (.int .i64 (-1)), (.int .i64 0), (.int .i64 0)], true, 4⟩, ⟨15, [(.bool false), (.int .i64 (-1)), (.int .i64 50), (.int .i64 50)], true, 4⟩], 17⟩
def tmOf2 : Tmpl := ⟨[(.agg ⟨[(.string ⟨⟨[99]⟩⟩), (.slice (some ⟨12, 0, none⟩) 2 2), (.slice (some ⟨13, 0, none⟩) 1 1), (.slice (some ⟨14, 0, none⟩) 1 1), (.slice (some ⟨15, 0, none⟩) 1 1), (.slice none 0 0), (.slice (some ⟨16, 0, none⟩) 1 1), (.slice none 0 0), (.slice (some ⟨17, 0, none⟩) 2 2), (.int .i64 0), (.int .i64 0), (.int .i64 0), (.int .i64 0), (.int .i64 0), (.int .i64 0), (.int .i64 0)]⟩), (.slice (some ⟨18, 0, none⟩) 2 2), (.int .i64 0), (.int .i64 0), (.int .i64 (-1))],
    globs ++ [⟨12, [(.string ⟨⟨[97]⟩⟩), (.int .i64 1), (.string ⟨⟨[98]⟩⟩), (.int .i64 3)], false, 0⟩, ⟨13, [(.int .i64 0), (.int .i64 1), (.int .i64 10), (.int .i64 90)], false, 0⟩, ⟨14, [(.string ⟨⟨[100]⟩⟩), (.slice (some ⟨19, 0, none⟩) 2 2), (.int .i64 1), (.slice none 0 0), (.int .i64 (-1))], false, 0⟩, ⟨15, [(.string ⟨⟨[119]⟩⟩), (.int .i64 0)], false, 0⟩, ⟨16, [(.string ⟨⟨[120]⟩⟩), (.int .i64 16), (.int .i64 19)], false, 0⟩, ⟨17, [(.int .i64 1), (.int .i64 1), (.int .i64 0), (.int .i64 0), (.int .i64 0), (.slice none 0 0), (.slice none 0 0), (.slice none 0 0), (.int .i64 1), (.int .i64 4), (.int .i64 0), (.int .i64 0), (.int .i64 0), (.slice none 0 0), (.slice none 0 0), (.slice none 0 0)], false, 0⟩, ⟨18, [(.int .i64 0), (.int .i64 7), (.int .i64 0), (.int .i64 1), (.int .i64 7), (.int .i64 0), (.int .i64 0), (.int .i64 0), (.int .i64 30), (.int .i64 7), (.int .i64 0), (.int .i64 0), (.int .i64 0), (.int .i64 0), (.int .i64 0), (.int .i64 0), (.int .i64 0), (.int .i64 0), (.int .i64 0), (.int .i64 0), (.int .i64 0), (.int .i64 0), (.int .i64 0), (.int .i64 0), (.int .i64 0), (.int .i64 0), (.int .i64 0), (.int .i64 0), (.int .i64 0), (.int .i64 0), (.int .i64 0), (.int .i64 0), (.int .i64 0), (.int .i64 0), (.int .i64 0), (.int .i64 0), (.int .i64 0), (.int .i64 0), (.int .i64 0), (.int .i64 0), (.int .i64 0), (.int .i64 0), (.int .i64 0), (.int .i64 0), (.int .i64 0), (.int .i64 0), (.int .i64 0), (.int .i64 0), (.int .i64 0), (.int .i64 0), (.int .i64 0), (.int .i64 0), (.int .i64 0), (.int .i64 0), (.bool false), (.int .i64 0), (.int .i64 0), (.int .i64 0), (.int .i64 5), (.int .i64 0), (.int .i64 1), (.int .i64 5), (.int .i64 0), (.int .i64 0), (.int .i64 0), (.int .i64 18), (.int .i64 5), (.int .i64 0), (.int .i64 0), (.int .i64 0), (.int .i64 0), (.int .i64 0), (.int .i64 0), (.int .i64 0), (.int .i64 0), (.int .i64 0), (.int .i64 0), (.int .i64 0), (.int .i64 0), (.int .i64 0), (.int .i64 0), (.int .i64 0), (.int .i64 0), (.int .i64 0), (.int .i64 0), (.int .i64 0), (.int .i64 0), (.int .i64 0), (.int .i64 0), (.int .i64 0), (.int .i64 0), (.int .i64 0), (.int .i64 0), (.int .i64 0), (.int .i64 0), (.int .i64 0), (.int .i64 0), (.int .i64 0), (.int .i64 0), (.int .i64 0), (.int .i64 0), (.int .i64 0), (.int .i64 0), (.int .i64 0), (.int .i64 0), (.int .i64 0), (.int .i64 0), (.int .i64 0), (.int .i64 0), (.int .i64 0), (.int .i64 0), (.bool false), (.int .i64 0), (.int .i64 0)], false, 0⟩, ⟨19, [(.int .i64 0), (.int .i64 0), (.slice none 0 0), (.int .i64 1), (.int .i64 0), (.slice none 0 0)], false, 0⟩],
    20, (.tuple ⟨[(.agg ⟨[(.slice none 0 0), (.slice (some ⟨0, 0, none⟩) 1 1), (.slice none 0 0), (.slice (some ⟨2, 0, none⟩) 1 1)]⟩), (.int .i64 0)]⟩), [⟨0, [(.slice (some ⟨4, 0, none⟩) 1 1)], true, 1⟩, ⟨2, [(.int .i64 5), (.slice (some ⟨5, 0, none⟩) 2 2), (.slice (some ⟨7, 0, none⟩) 1 1)], true, 3⟩, ⟨4, [(.int .i64 0)], false, 0⟩, ⟨5, [(.int .i64 (-18)), (.int .i64 5)], true, 1⟩, ⟨7, [(.slice (some ⟨9, 0, none⟩) 1 1)], true, 1⟩, ⟨9, [(.bool true), (.int .i64 (-1)), (.int .i64 0), (.int .i64 0)], true, 4⟩], 11⟩
def tmOf3 : Tmpl := ⟨[(.agg ⟨[(.string ⟨⟨[99]⟩⟩), (.slice (some ⟨12, 0, none⟩) 2 2), (.slice (some ⟨13, 0, none⟩) 1 1), (.slice (some ⟨14, 0, none⟩) 1 1), (.slice (some ⟨15, 0, none⟩) 1 1), (.slice none 0 0), (.slice (some ⟨16, 0, none⟩) 1 1), (.slice none 0 0), (.slice (some ⟨17, 0, none⟩) 2 2), (.int .i64 0), (.int .i64 0), (.int .i64 0), (.int .i64 0), (.int .i64 0), (.int .i64 0), (.int .i64 0)]⟩), (.slice none 0 0), (.int .i64 0), (.int .i64 (-1)), (.int .i64 (-1))],
    globs ++ [⟨12, [(.string ⟨⟨[97]⟩⟩), (.int .i64 1), (.string ⟨⟨[98]⟩⟩), (.int .i64 3)], false, 0⟩, ⟨13, [(.int .i64 0), (.int .i64 1), (.int .i64 10), (.int .i64 90)], false, 0⟩, ⟨14, [(.string ⟨⟨[100]⟩⟩), (.slice (some ⟨18, 0, none⟩) 2 2), (.int .i64 1), (.slice none 0 0), (.int .i64 (-1))], false, 0⟩, ⟨15, [(.string ⟨⟨[119]⟩⟩), (.int .i64 0)], false, 0⟩, ⟨16, [(.string ⟨⟨[120]⟩⟩), (.int .i64 16), (.int .i64 19)], false, 0⟩, ⟨17, [(.int .i64 1), (.int .i64 1), (.int .i64 0), (.int .i64 0), (.int .i64 0), (.slice none 0 0), (.slice none 0 0), (.slice none 0 0), (.int .i64 1), (.int .i64 4), (.int .i64 0), (.int .i64 0), (.int .i64 0), (.slice none 0 0), (.slice none 0 0), (.slice none 0 0)], false, 0⟩, ⟨18, [(.int .i64 0), (.int .i64 0), (.slice none 0 0), (.int .i64 1), (.int .i64 0), (.slice none 0 0)], false, 0⟩],
    19, (.tuple ⟨[(.agg ⟨[(.slice none 0 0), (.slice none 0 0), (.slice none 0 0), (.slice none 0 0)]⟩), (.int .i64 240)]⟩), [], 0⟩
def e4 : Env := { e3 with K := fun f => bif Nat.beq f 9 then some (kOfT 12 [tmOf0, tmOf1, tmOf2, tmOf3]) else e3.K f }
def tmSane : Tmpl := ⟨[], globs, 12, (.bool true), [], 0⟩
def ex : Env := { e4 with K := fun f => bif Nat.beq f 4 then some (kOfT 12 [tmSane]) else e4.K f }
end
end Sw
