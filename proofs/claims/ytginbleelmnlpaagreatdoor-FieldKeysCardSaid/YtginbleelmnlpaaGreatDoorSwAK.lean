/- A part of the proof that the law returns true for every input that its row speaks of. No condition is added. -/
import Derived.Test.YtginbleelmnlpaaGreatDoorSwAE
import Derived.Deep.Slices
import Derived.OpenShut
import Derived.SizedLaws
import Derived.ProofKit
import Derived.Carry
import Derived.ChangeSlices
import Derived.LaidLaws
import Derived.Handed
import Derived.Test.YtginbleelmnlpaaGreatDoorSwAF
namespace Sw
noncomputable section
open Go Go.RowKit
def AllRo (hp : Ht) : Prop := ∀ b o, hp.get b = some o → ∃ cs m, o = .cells cs m ∧ m.ro = true
def Rp (P : Program) (hp : Ht) (nx : Nat) : Nat → TypeId → List Value → Prop
  | 0, _, _ => False
  | n + 1, t, ls => match P.underlying t with
    | some .bool => ∃ b, ls = [.bool b]
    | some (.int k) => ∃ z, ls = [.int k z] ∧ (Lit.int k z).wf = true
    | some .string => ∃ s, ls = [.string s] ∧ s.size ≤ reachBytes
    | some (.slice e) => ls = [.slice none 0 0] ∨ ls = [.slice (some ⟨0, 0, none⟩) 0 0] ∨ ∃ (b len cap : Nat) (lss : List (List Value)), ls = [.slice (some ⟨b, 0, none⟩) len cap] ∧ 0 < cap ∧ len ≤ cap ∧ (cap ≤ reachBytes ∧ cap * P.bytesOf e ≤ reachBytes) ∧ b < nx ∧
        hp.get b = some (.cells lss.flatten ⟨true, none, 0, 0⟩) ∧ lss.length = len ∧ ∀ l ∈ lss, Rp P hp nx n e l ∧ l.length = P.cellsOf e
    | some (.struct fs) => ∃ lss : List (List Value), ls = lss.flatten ∧ lss.length = fs.size ∧ ∀ (i : Nat) (f : Field) (l : List Value), fs[i]? = some f → lss[i]? = some l → Rp P hp nx n f.type l ∧ l.length = P.cellsOf f.type
    | some (.array m e) => ∃ lss : List (List Value), ls = lss.flatten ∧ lss.length = m ∧ ∀ l ∈ lss, Rp P hp nx n e l ∧ l.length = P.cellsOf e
    | _ => False
theorem Rp.mono {P : Program} {hp hp' : Ht} {nx nx' : Nat} (he : HE nx hp hp') (hn : nx ≤ nx') : ∀ {n : Nat} {t : TypeId} {ls : List Value}, Rp P hp nx n t ls → Rp P hp' nx' n t ls
  | 0, _, _, h => h
  | n + 1, t, ls, h => by
    unfold Rp at h ⊢
    split
    · rename_i e; rw [e] at h; exact h
    · rename_i k e; rw [e] at h; exact h
    · rename_i e; rw [e] at h; exact h
    · rename_i el e
      rw [e] at h
      rcases h with h | h | ⟨b, len, cap, lss, h1, h2, h3, h4, h5, h6, h7, h8⟩
      · exact .inl h
      · exact .inr (.inl h)
      · exact .inr (.inr ⟨b, len, cap, lss, h1, h2, h3, h4, by omega, he.get h6 h5, h7, fun l hl => ⟨Rp.mono he hn (h8 l hl).1, (h8 l hl).2⟩⟩)
    · rename_i fs e
      rw [e] at h
      obtain ⟨lss, h1, h2, h3⟩ := h
      exact ⟨lss, h1, h2, fun i f l a b => ⟨Rp.mono he hn (h3 i f l a b).1, (h3 i f l a b).2⟩⟩
    · rename_i m el e
      rw [e] at h
      obtain ⟨lss, h1, h2, h3⟩ := h
      exact ⟨lss, h1, h2, fun l a => ⟨Rp.mono he hn (h3 l a).1, (h3 l a).2⟩⟩
    · rename_i n1 n2 n3 n4 n5 n6
      split at h
      · rename_i e; exact absurd e n1
      · rename_i k e; exact absurd e (n2 k)
      · rename_i e; exact absurd e n3
      · rename_i el e; exact absurd e (n4 el)
      · rename_i fs e; exact absurd e (n5 fs)
      · rename_i m el e; exact absurd e (n6 m el)
      · exact h
def contig (P : Program) : List Field → Nat → Nat → Bool
  | [], o, tot => Nat.beq o tot
  | f :: fs, o, tot => Nat.beq f.offset o && contig P fs (o + P.cellsOf f.type) tot
def openTy (P : Program) (S : TypeId → Bool) (t : TypeId) : Bool := match P.underlying t with
  | some .bool => Nat.beq (P.cellsOf t) 1
  | some (.int _) => Nat.beq (P.cellsOf t) 1
  | some .string => Nat.beq (P.cellsOf t) 1
  | some (.slice e) => Nat.beq (P.cellsOf t) 1 && (S e && (Nat.blt 0 (P.cellsOf e) && Nat.blt 0 (P.bytesOf e)))
  | some (.struct fs) => fs.toList.all (fun f => S f.type) && contig P fs.toList 0 (P.cellsOf t)
  | some (.array n e) => S e && Nat.beq (P.cellsOf t) (n * P.cellsOf e)
  | _ => false
section
variable {B0 : Nat} {w0 : World} {g : Gm} {hp : Ht} {nx : Nat} {w : World}
theorem HRel.reach (H : HRel B0 w0 g hp.get nx w) {rb ro : Nat} (hr : rb < w.heap.size) : HRel B0 w0 (g.add nx (rb, ro) none) hp.get (nx + 1) w ∧ g.le (g.add nx (rb, ro) none) := by
  have hn : g.blk nx = none := by
    cases h : g.blk nx with
    | none => rfl
    | some x => exact absurd (H.dom nx x.1 x.2 h).1 (Nat.lt_irrefl _)
  have hle := Gm.le_add hn (rb, ro) none
  refine ⟨⟨H.below, H.base, fun b r o e => ?_, fun b o e => ?_, fun b ms e => ?_, H.mem, fun b1 b2 o1 o2 r r1 r2 hne e1 e2 k1 k2 => ?_, fun b x k => ?_⟩, hle⟩
  · by_cases hb : b = nx
    · subst hb
      rw [Gm.add_blk] at e; cases e
      exact ⟨Nat.lt_succ_self _, hr⟩
    · rw [Gm.add_blk_ne _ _ _ hb] at e
      exact ⟨Nat.lt_succ_of_lt (H.dom b r o e).1, (H.dom b r o e).2⟩
  · obtain ⟨h1, h2⟩ := H.live b o e
    refine ⟨Nat.lt_succ_of_lt h1, fun r r1 k => ?_⟩
    rw [Gm.add_blk_ne _ _ _ (by omega)] at k
    obtain ⟨robj, a, c⟩ := h2 r r1 k
    exact ⟨robj, a, c.mono hle k⟩
  · rw [Gm.add_blk_ne _ _ _ (by have := (H.live b _ e).1; omega)]
    exact H.grpfree b ms e
  · rw [Gm.add_blk_ne _ _ _ (by have := (H.live b1 _ e1).1; omega)] at k1
    rw [Gm.add_blk_ne _ _ _ (by have := (H.live b2 _ e2).1; omega)] at k2
    exact H.sep b1 b2 o1 o2 r r1 r2 hne e1 e2 k1 k2
  · by_cases hb : b = nx
    · subst hb; rw [Gm.add_room] at k; cases k
    · have : (g.add nx (rb, ro) none).room b = g.room b := by simp [Gm.add, hb]
      rw [this] at k
      rw [Gm.add_blk_ne _ _ _ hb]
      exact H.room b x k
theorem HRel.layRo (H : HRel B0 w0 g hp.get nx w) (ha : AllRo hp) {rb ro n : Nat} {rc : Array Value} {el : TypeId} {fz : Nat × Nat} {us : List Value} (hh : w.heap[rb]? = some (.cells rc el fz)) (hlen : ro + n ≤ rc.size) (hl : LRel g us ((rc.toList.drop ro).take n)) :
    ∃ g' : Gm, HRel B0 w0 g' (hp.set nx (some (.cells us ⟨true, none, 0, 0⟩))).get (nx + 1) w ∧ AllRo (hp.set nx (some (.cells us ⟨true, none, 0, 0⟩))) ∧ g.le g' ∧ g'.blk nx = some (rb, ro) ∧ HE nx hp (hp.set nx (some (.cells us ⟨true, none, 0, 0⟩))) := by
  obtain ⟨H1, hle⟩ := H.reach (rb := rb) (ro := ro) (getElem?_lt hh)
  have hnone : hp.get nx = none := by
    cases h : hp.get nx with
    | none => rfl
    | some o => exact absurd (H.live nx o h).1 (Nat.lt_irrefl _)
  refine ⟨g.add nx (rb, ro) none, ?_, fun b o e => ?_, hle, Gm.add_blk .., HE.set _ _ (Nat.le_refl _)⟩
  · rw [show (hp.set nx (some (.cells us ⟨true, none, 0, 0⟩))).get = Hp.set hp.get nx (some (.cells us ⟨true, none, 0, 0⟩)) from Tr.get_set ..]
    refine H1.addRo hnone (Nat.lt_succ_self _) fun rb' ro' k => ?_
    rw [Gm.add_blk] at k; cases k
    exact ⟨⟨_, hh, ObjRel.of_list hlen (hl.mono hle) (fun x k => by cases k) (fun _ => Gm.add_room ..)⟩, fun b o r1 e _ => ha b o e⟩
  · rw [Tr.get_set] at e
    by_cases hb : b = nx
    · subst hb; rw [Hp.set_same] at e; cases e; exact ⟨_, _, rfl, rfl⟩
    · rw [Hp.set_other _ _ hb] at e; exact ha b o e
end
section
variable {H : Type} {enc : TypeId × Value → H} {P : Program} {B0 : Nat} {w0 w : World} {S : TypeId → Bool}
def Opens (P : Program) (B0 : Nat) (w0 w : World) (g : Gm) (hp : Ht) (nx : Nat) (cs : List Value) (R : Ht → Nat → List Value → Prop) : Prop :=
  ∃ (g' : Gm) (hp' : Ht) (nx' : Nat) (ls : List Value), HRel B0 w0 g' hp'.get nx' w ∧ AllRo hp' ∧ g.le g' ∧ nx ≤ nx' ∧ HE nx hp hp' ∧ LRel g' ls cs ∧ R hp' nx' ls
def OpensAt (P : Program) (B0 : Nat) (w0 w : World) (n : Nat) (t : TypeId) (cs : List Value) : Prop :=
  ∀ (g : Gm) (hp : Ht) (nx : Nat), HRel B0 w0 g hp.get nx w → AllRo hp → Opens P B0 w0 w g hp nx cs fun hp' nx' ls => Rp P hp' nx' n t ls ∧ ls.length = P.cellsOf t
theorem open_parts {n : Nat} : ∀ (parts : List (TypeId × List Value)), (∀ p ∈ parts, OpensAt P B0 w0 w n p.1 p.2) → ∀ (g : Gm) (hp : Ht) (nx : Nat), HRel B0 w0 g hp.get nx w → AllRo hp →
    ∃ (g' : Gm) (hp' : Ht) (nx' : Nat) (lss : List (List Value)), HRel B0 w0 g' hp'.get nx' w ∧ AllRo hp' ∧ g.le g' ∧ nx ≤ nx' ∧ HE nx hp hp' ∧ LRel g' lss.flatten (parts.map (·.2)).flatten ∧ lss.length = parts.length ∧
      ∀ (i : Nat) (p : TypeId × List Value) (l : List Value), parts[i]? = some p → lss[i]? = some l → Rp P hp' nx' n p.1 l ∧ l.length = P.cellsOf p.1
  | [], _, g, hp, nx, H0, ha => ⟨g, hp, nx, [], H0, ha, Gm.le_refl g, Nat.le_refl _, HE.refl _ _, LRel.nil g, rfl, fun i p l e => by simp at e⟩
  | p :: ps, h, g, hp, nx, H0, ha => by
    obtain ⟨g1, hp1, nx1, l1, H1, a1, e1, n1, he1, r1, q1, q2⟩ := h p (List.mem_cons_self ..) g hp nx H0 ha
    obtain ⟨g2, hp2, nx2, lss, H2, a2, e2, n2, he2, r2, k1, k2⟩ := open_parts ps (fun p' hp' => h p' (List.mem_cons_of_mem _ hp')) g1 hp1 nx1 H1 a1
    refine ⟨g2, hp2, nx2, l1 :: lss, H2, a2, Gm.le_trans e1 e2, by omega, he1.trans he2 n1, ?_, by simp [k1], fun i p' l a b => ?_⟩
    · simp only [List.flatten_cons, List.map_cons]
      exact (r1.mono e2).append r2
    · cases i with
      | zero => simp at a b; subst a; subst b; exact ⟨q1.mono he2 n2, q2⟩
      | succ i => exact k2 i p' l (by simpa using a) (by simpa using b)
theorem fields_flat {cs : List Value} : ∀ (fs : List Field) (o tot : Nat), contig P fs o tot = true → cs.length = tot → o ≤ tot → (fs.map fun f => (cs.drop f.offset).take (P.cellsOf f.type)).flatten = cs.drop o
  | [], o, tot, h, hl, _ => by
    have := beq_eq h
    subst this
    simp [hl]
  | f :: fs, o, tot, h, hl, hle => by
    simp only [contig, Bool.and_eq_true] at h
    have h1 := beq_eq h.1
    have hle2 : o + P.cellsOf f.type ≤ tot := contig_le fs _ _ h.2
    rw [List.map_cons, List.flatten_cons, fields_flat fs _ _ h.2 hl hle2, h1]
    rw [← List.drop_drop, List.take_append_drop]
where
  contig_le : ∀ (fs : List Field) (o tot : Nat), contig P fs o tot = true → o ≤ tot
    | [], o, tot, h => by have := beq_eq h; omega
    | f :: fs, o, tot, h => by
      simp only [contig, Bool.and_eq_true] at h
      have := contig_le fs _ _ h.2
      omega
theorem range_flat {cs : List Value} {s : Nat} : ∀ (k n : Nat), cs.length = n * s → k ≤ n → ((List.range k).map fun i => (cs.drop (i * s)).take s).flatten = cs.take (k * s)
  | 0, _, _, _ => by simp
  | k + 1, n, hl, hk => by
    rw [List.range_succ, List.map_append, List.flatten_append, range_flat k n hl (by omega)]
    simp only [List.map_cons, List.map_nil, List.flatten_cons, List.flatten_nil, List.append_nil]
    rw [Nat.succ_mul, List.take_add]
theorem add_off {ab ao i : Nat} : (Addr.mk ab ao none).add i = ⟨ab, ao + i, none⟩ := by
  unfold Addr.add
  split
  · rename_i h; subst h; rfl
  · rfl
theorem cell_block {a : Addr} {v : Value} (h : w.cell? a = some v) : ∃ rc el fz, w.heap[a.block]? = some (.cells rc el fz) ∧ a.spot = none ∧ rc[a.off]? = some v := by
  unfold World.cell? at h
  split at h
  · rename_i c el fz hh
    cases hs : a.spot with
    | none => rw [hs] at h; exact ⟨c, el, fz, hh, rfl, by simpa using h⟩
    | some _ => simp [hs] at h
  · cases h
theorem trod_scalar {n : Nat} {t : TypeId} {cs : List Value} {x : DataW H × List MemPlace} {held : Bool} (h : DataW.trod enc P w 0 (fun _ => true) held (n + 1) t cs = some x) :
    (P.underlying t = some .bool → ∃ b, cs = [.bool b]) ∧ (∀ k, P.underlying t = some (.int k) → ∃ z, cs = [.int k z] ∧ (Lit.int k z).wf = true) ∧ (P.underlying t = some .string → ∃ s, cs = [.string s] ∧ s.size ≤ maxLen) := by
  refine ⟨fun e => ?_, fun k e => ?_, fun e => ?_⟩
  · unfold DataW.trod at h
    rw [e] at h
    split at h <;> first | (exact ⟨_, rfl⟩) | (simp_all; done)
  · unfold DataW.trod at h
    rw [e] at h
    split at h <;> first | skip | (simp_all; done)
    all_goals first | (simp_all; done) | skip
    all_goals (rename_i k1 k2 z h1; cases h1; simp only at h; split at h; · rename_i h2; obtain ⟨rfl, h3⟩ := h2; exact ⟨_, rfl, h3⟩; · cases h)
  · unfold DataW.trod at h
    rw [e] at h
    split at h <;> first | skip | (simp_all; done)
    all_goals first | (simp_all; done) | skip
    all_goals (rename_i s h1; simp only at h; split at h; · rename_i h2; exact ⟨_, rfl, h2⟩; · cases h)
theorem trod_string {n : Nat} {t : TypeId} {s : ByteArray} {x : DataW H × List MemPlace} {held : Bool} (e : P.underlying t = some .string) (h : DataW.trod enc P w 0 (fun _ => true) held (n + 1) t [.string s] = some x) : x.1 = .lit (.string s.data.toList) := by
  unfold DataW.trod at h
  rw [e] at h
  simp only at h
  split at h
  · cases h; rfl
  · cases h
theorem weights_mem_all {e : TypeId} {d : DataW H} : ∀ {l : List (DataW H)}, d ∈ l → ∀ k ∈ d.weights P e, k ∈ DataW.weightsAll P e l
  | [], h, _, _ => by cases h
  | x :: l, h, k, hk => by
    unfold DataW.weightsAll
    rcases List.mem_cons.1 h with h | h
    · subst h; exact List.mem_append_left _ hk
    · exact List.mem_append_right _ (weights_mem_all h k hk)
theorem open_cells {held : Bool} (hS : ∀ t, S t = true → openTy P S t = true) : ∀ (n : Nat) (t : TypeId) (cs : List Value) (x : DataW H × List MemPlace), DataW.trod enc P w 0 (fun _ => true) held n t cs = some x → (∀ k ∈ x.1.weights P t, k ≤ reachBytes) → S t = true → OpensAt P B0 w0 w n t cs := by
  intro n
  induction n with
  | zero => intro t cs x h; simp [DataW.trod] at h
  | succ n ih =>
    intro t cs x h hwt hs g hp nx H0 ha
    have ht := hS t hs
    unfold openTy at ht
    have scalar : ∀ (v : Value), (∀ g' : Gm, VRel g' v v) → P.cellsOf t = 1 → cs = [v] → (Rp P hp nx (n + 1) t [v]) → Opens P B0 w0 w g hp nx cs fun hp' nx' ls => Rp P hp' nx' (n + 1) t ls ∧ ls.length = P.cellsOf t := fun v hv hc e hr => by
      subst e
      exact ⟨g, hp, nx, [v], H0, ha, Gm.le_refl g, Nat.le_refl _, HE.refl _ _, LRel.cons (hv g) (LRel.nil g), hr, by rw [hc]; rfl⟩
    split at ht
    · rename_i e
      obtain ⟨b, rfl⟩ := (trod_scalar h).1 e
      exact scalar (.bool b) (fun _ => .bool b) (beq_eq ht) rfl (by unfold Rp; rw [e]; exact ⟨b, rfl⟩)
    · rename_i k e
      obtain ⟨z, rfl, hw⟩ := (trod_scalar h).2.1 k e
      exact scalar (.int k z) (fun _ => .int k z) (beq_eq ht) rfl (by unfold Rp; rw [e]; exact ⟨z, rfl, hw⟩)
    · rename_i e
      obtain ⟨s, rfl, _⟩ := (trod_scalar h).2.2 e
      have hx1 := trod_string e h
      have hw : s.size ≤ reachBytes := by
        have := hwt s.data.toList.length (by rw [hx1]; simp [DataW.weights])
        rw [Array.length_toList] at this; exact this
      exact scalar (.string s) (fun _ => .string s) (beq_eq ht) rfl (by unfold Rp; rw [e]; exact ⟨s, rfl, hw⟩)
    · rename_i el e
      simp only [Bool.and_eq_true] at ht
      obtain ⟨hc, hse, hsz, hby⟩ := ht
      have hc := beq_eq hc
      have hsz := blt_iff.1 hsz
      have hby := blt_iff.1 hby
      rcases DataW.trod_slice e h with ⟨rfl, _⟩ | ⟨a, len, cap, elems, rest, n', hfuel, rfl, hx1, _, hlc, hcm, hlen, hel, hsp, _⟩
      · exact scalar (.slice none 0 0) (fun _ => .nilSlice) hc rfl (by unfold Rp; rw [e]; exact .inl rfl)
      · cases hfuel
        rcases Nat.eq_zero_or_pos cap with hz | hz
        · subst hz
          obtain rfl : len = 0 := by omega
          exact ⟨g, hp, nx, [.slice (some ⟨0, 0, none⟩) 0 0], H0, ha, Gm.le_refl g, Nat.le_refl _, HE.refl _ _, LRel.cons (.emptySlice ⟨0, 0, none⟩ a) (LRel.nil g), by unfold Rp; rw [e]; exact .inr (.inl rfl), by rw [hc]; rfl⟩
        · have hx1 : x.1 = .slice (elems.map (·.1)) (rest.map (·.1)) := by rw [hx1]
          have hcr : cap ≤ reachBytes ∧ cap * P.bytesOf el ≤ reachBytes := by
            have h1 := hwt ((elems.length + rest.length) * P.bytesOf el) (by rw [hx1]; simp [DataW.weights, e])
            obtain ⟨h2, _⟩ := hsp rfl
            have h3 := Nat.mul_le_mul_left (elems.length + rest.length) (show 1 ≤ P.bytesOf el by omega)
            have h4 : elems.length + rest.length = cap := by omega
            rw [h4] at h1 h3
            exact ⟨by omega, h1⟩
          have hwe : ∀ (i : Nat) (y : DataW H × List MemPlace), elems[i]? = some y → ∀ k ∈ y.1.weights P el, k ≤ reachBytes := fun i y hy k hk => by
            refine hwt k ?_
            rw [hx1]
            simp only [DataW.weights, e]
            exact List.mem_cons_of_mem _ (List.mem_append_left _ (weights_mem_all (List.mem_map.2 ⟨y, List.mem_of_getElem? hy, rfl⟩) k hk))
          have each : ∀ i, i < cap → ∃ c, w.cells? 0 (a.add (i * P.cellsOf el)) (P.cellsOf el) = some c ∧ (i < len → ∃ x, DataW.trod enc P w 0 (fun _ => true) held n el c = some x ∧ ∀ k ∈ x.1.weights P el, k ≤ reachBytes) := fun i hi => by
            rcases Nat.lt_or_ge i len with hil | hil
            · have k := hel i hil
              rw [List.getElem?_eq_getElem (by omega)] at k
              obtain ⟨c, k1, k2⟩ := Option.bind_eq_some_iff.1 k
              exact ⟨c, k1, fun _ => ⟨_, k2, hwe i _ (List.getElem?_eq_getElem (by omega))⟩⟩
            · obtain ⟨hr, k⟩ := hsp rfl
              have k := k (i - len) (by omega)
              rw [List.getElem?_eq_getElem (by omega), show len + (i - len) = i by omega] at k
              obtain ⟨c, k1, _⟩ := Option.bind_eq_some_iff.1 k
              exact ⟨c, k1, fun h => absurd h (by omega)⟩
          obtain ⟨c0, k0, _⟩ := each 0 hz
          obtain ⟨_, q1, q2⟩ := World.cells?_some k0
          have q3 := q2 0 hsz
          rw [List.getElem?_eq_getElem (by omega)] at q3
          have ha0 : (a.add (0 * P.cellsOf el)).add 0 = a := by simp [Addr.add]
          rw [ha0] at q3
          obtain ⟨rc, rel, fz, hh, hspot, _⟩ := cell_block q3
          obtain ⟨ab, ao, asp⟩ := a
          simp only at hh hspot
          subst hspot
          have cellAt : ∀ i, i < cap → ∃ c, w.cells? 0 ((Addr.mk ab ao none).add (i * P.cellsOf el)) (P.cellsOf el) = some c ∧ c = (rc.toList.drop (ao + i * P.cellsOf el)).take (P.cellsOf el) ∧ ao + (i + 1) * P.cellsOf el ≤ rc.size := fun i hi => by
            obtain ⟨c, k1, _⟩ := each i hi
            obtain ⟨_, p1, p2⟩ := World.cells?_some k1
            have p3 : ∀ j, j < P.cellsOf el → rc[ao + i * P.cellsOf el + j]? = c[j]? := fun j hj => by
              have p4 := p2 j hj
              rw [add_off, add_off] at p4
              unfold World.cell? at p4
              simp only [hh, Option.isSome_none, Bool.false_eq_true, if_false] at p4
              exact p4
            have p5 := p3 (P.cellsOf el - 1) (by omega)
            rw [List.getElem?_eq_getElem (show P.cellsOf el - 1 < c.length by omega)] at p5
            have p6 := getElem?_lt p5
            refine ⟨c, k1, ?_, by rw [Nat.succ_mul]; omega⟩
            refine List.ext_getElem? fun j => ?_
            rcases Nat.lt_or_ge j (P.cellsOf el) with hj | hj
            · rw [List.getElem?_take, if_pos hj, List.getElem?_drop, ← p3 j hj]; simp
            · rw [List.getElem?_eq_none (by omega), List.getElem?_eq_none (by simp; omega)]
          obtain ⟨_, _, _, hsize⟩ := cellAt (len - 1) (by omega)
          obtain ⟨_, _, _, hsize0⟩ := cellAt 0 hz
          have hsize : ao + len * P.cellsOf el ≤ rc.size := by
            rcases Nat.eq_zero_or_pos len with hl0 | hl0
            · subst hl0; simp at hsize0 ⊢; omega
            · rwa [show len - 1 + 1 = len by omega] at hsize
          let parts := (List.range len).map fun i => (el, (rc.toList.drop (ao + i * P.cellsOf el)).take (P.cellsOf el))
          have hparts : ∀ p ∈ parts, OpensAt P B0 w0 w n p.1 p.2 := fun p hp' => by
            obtain ⟨i, hi, rfl⟩ := List.mem_map.1 hp'
            have hi := List.mem_range.1 hi
            obtain ⟨c, k1, k2⟩ := each i (by omega)
            obtain ⟨x', k2, k2w⟩ := k2 hi
            obtain ⟨c', k3, k4, _⟩ := cellAt i (by omega)
            rw [k1] at k3; cases k3
            subst k4
            exact ih el _ x' k2 k2w hse
          obtain ⟨g1, hp1, nx1, lss, H1, a1, e1, n1, he1, r1, l1, v1⟩ := open_parts parts hparts g hp nx H0 ha
          have hflat : (parts.map (·.2)).flatten = (rc.toList.drop ao).take (len * P.cellsOf el) := by
            have := range_flat (cs := (rc.toList.drop ao).take (len * P.cellsOf el)) (s := P.cellsOf el) len len (by simp; omega) (Nat.le_refl _)
            rw [List.take_take, Nat.min_self] at this
            rw [← this]
            simp only [parts, List.map_map]
            congr 1
            refine List.map_congr_left fun i hi => ?_
            have hi := List.mem_range.1 hi
            have hmul : (i + 1) * P.cellsOf el ≤ len * P.cellsOf el := Nat.mul_le_mul_right _ (by omega)
            rw [Nat.succ_mul] at hmul
            simp only [Function.comp]
            refine List.ext_getElem? fun j => ?_
            rw [List.getElem?_take, List.getElem?_take]
            split
            · rw [List.getElem?_drop, List.getElem?_drop, List.getElem?_take, if_pos (by omega), List.getElem?_drop, Nat.add_assoc]
            · rfl
          rw [hflat] at r1
          obtain ⟨g2, H2, a2, e2, b2, he2⟩ := H1.layRo a1 hh hsize r1
          refine ⟨g2, _, _, [.slice (some ⟨nx1, 0, none⟩) len cap], H2, a2, Gm.le_trans e1 e2, by omega, he1.trans he2 n1, LRel.cons (.slice (off := 0) b2 hlc (.inl rfl)) (LRel.nil _), ?_, by rw [hc]; rfl⟩
          unfold Rp
          rw [e]
          refine .inr (.inr ⟨nx1, len, cap, lss, rfl, hz, hlc, hcr, Nat.lt_succ_self _, Tr.get_same .., by simpa [parts] using l1, fun l hl => ?_⟩)
          obtain ⟨i, hi, rfl⟩ := List.mem_iff_getElem.1 hl
          have hi' : i < parts.length := by rw [← l1]; exact hi
          obtain ⟨w1, w2⟩ := v1 i _ _ (List.getElem?_eq_getElem hi') (List.getElem?_eq_getElem hi)
          have hpt : (parts[i]).1 = el := by simp [parts]
          rw [hpt] at w1 w2
          exact ⟨w1.mono he2 (Nat.le_succ _), w2⟩
    · rename_i fs e
      simp only [Bool.and_eq_true] at ht
      obtain ⟨xs, n', hfuel, hx1, hl, hxl, hx⟩ := DataW.trod_struct e h
      cases hfuel
      have hx1 : x.1 = .agg (xs.map (·.1)) := by rw [hx1]
      have hparts : ∀ p ∈ fs.toList.map (fun f => (f.type, (cs.drop f.offset).take (P.cellsOf f.type))), OpensAt P B0 w0 w n p.1 p.2 := fun p hp' => by
        obtain ⟨f, hf, rfl⟩ := List.mem_map.1 hp'
        obtain ⟨i, hi, rfl⟩ := List.mem_iff_getElem.1 hf
        have hi' : i < fs.size := by simpa using hi
        have k := hx i fs[i] (Array.getElem?_eq_getElem hi')
        rw [List.getElem?_eq_getElem (by omega)] at k
        refine ih _ _ _ k (fun q hq => hwt q ?_) (List.all_eq_true.1 ht.1 _ hf)
        rw [hx1]
        simp only [DataW.weights, e]
        exact DataW.weights_mem_each (j := i) (t := fs[i].type) (by rw [List.getElem?_map, Array.getElem?_toList, Array.getElem?_eq_getElem hi']; rfl) (by rw [List.getElem?_map, List.getElem?_eq_getElem (by omega)]; rfl) q hq
      obtain ⟨g1, hp1, nx1, lss, H1, a1, e1, n1, he1, r1, l1, v1⟩ := open_parts _ hparts g hp nx H0 ha
      have hflat := fields_flat (P := P) (cs := cs) fs.toList 0 _ ht.2 hl (Nat.zero_le _)
      rw [List.map_map] at r1
      have hfun : ((fun p : TypeId × List Value => p.2) ∘ fun f : Field => (f.type, (cs.drop f.offset).take (P.cellsOf f.type))) = fun f => (cs.drop f.offset).take (P.cellsOf f.type) := rfl
      rw [hfun, hflat, List.drop_zero] at r1
      refine ⟨g1, hp1, nx1, lss.flatten, H1, a1, e1, n1, he1, r1, ?_, r1.1.trans hl⟩
      unfold Rp
      rw [e]
      refine ⟨lss, rfl, by simpa using l1, fun i f l hf hl' => ?_⟩
      exact v1 i (f.type, (cs.drop f.offset).take (P.cellsOf f.type)) l (by rw [List.getElem?_map, Array.getElem?_toList, hf]; rfl) hl'
    · rename_i m el e
      simp only [Bool.and_eq_true] at ht
      have hcl := beq_eq ht.2
      obtain ⟨xs, n', hfuel, hx1, hl, hxl, hx⟩ := DataW.trod_array e h
      cases hfuel
      have hx1 : x.1 = .agg (xs.map (·.1)) := by rw [hx1]
      have hparts : ∀ p ∈ (List.range m).map (fun i => (el, (cs.drop (i * P.cellsOf el)).take (P.cellsOf el))), OpensAt P B0 w0 w n p.1 p.2 := fun p hp' => by
        obtain ⟨i, hi, rfl⟩ := List.mem_map.1 hp'
        have hi := List.mem_range.1 hi
        have k := hx i hi
        rw [List.getElem?_eq_getElem (by omega)] at k
        refine ih _ _ _ k (fun q hq => hwt q ?_) ht.1
        rw [hx1]
        simp only [DataW.weights, e]
        exact weights_mem_all (List.mem_map.2 ⟨_, List.getElem_mem (by omega), rfl⟩) q hq
      obtain ⟨g1, hp1, nx1, lss, H1, a1, e1, n1, he1, r1, l1, v1⟩ := open_parts _ hparts g hp nx H0 ha
      rw [List.map_map] at r1
      have hfun : ((fun p : TypeId × List Value => p.2) ∘ fun i : Nat => (el, (cs.drop (i * P.cellsOf el)).take (P.cellsOf el))) = fun i => (cs.drop (i * P.cellsOf el)).take (P.cellsOf el) := rfl
      rw [hfun, range_flat m m (hl.trans hcl) (Nat.le_refl _), List.take_of_length_le (by rw [hl, hcl]; exact Nat.le_refl _)] at r1
      refine ⟨g1, hp1, nx1, lss.flatten, H1, a1, e1, n1, he1, r1, ?_, r1.1.trans hl⟩
      unfold Rp
      rw [e]
      refine ⟨lss, rfl, by simpa using l1, fun l hl' => ?_⟩
      obtain ⟨i, hi, rfl⟩ := List.mem_iff_getElem.1 hl'
      have hi' : i < m := by rw [l1] at hi; simpa using hi
      exact v1 i (el, (cs.drop (i * P.cellsOf el)).take (P.cellsOf el)) _ (by rw [List.getElem?_map, List.getElem?_range hi']; rfl) (List.getElem?_eq_getElem hi)
    · cases ht
def argOf (P : Program) (t : TypeId) (ls : List Value) : Value := match P.underlying t with
  | some (.struct _) => .agg ls.toArray
  | some (.array _ _) => .agg ls.toArray
  | _ => ls.headD undef
def ArgsRp (P : Program) (hp : Ht) (nx : Nat) : List TypeId → List Value → Prop
  | [], [] => True
  | t :: ts, v :: vs => (∃ n ls, Rp P hp nx n t ls ∧ ls.length = P.cellsOf t ∧ v = argOf P t ls) ∧ ArgsRp P hp nx ts vs
  | _, _ => False
theorem argOf_rel {g : Gm} {r : Reach} {base n : Nat} {hp : Ht} {nx : Nat} {t : TypeId} {ls : List Value} {v : Value} (hs : openTy P S t = true) (hr : Rp P hp nx n t ls) (hl : LRel g ls v.cells.toList) (hok : Value.okWide P w r base t v) : VRel g (argOf P t ls) v := by
  have one : ∀ x, ls = [x] → (∀ cs, v ≠ .agg cs) → VRel g x v := fun x hx hv => by
    subst hx
    have : v.cells = #[v] := by
      cases v <;> first | rfl | exact absurd rfl (hv _)
    rw [this] at hl
    exact hl.head
  have many : (∃ cs, v = .agg cs) → VRel g (.agg ls.toArray) v := fun ⟨cs, hv⟩ => by
    subst hv
    have h := LRel.toArray hl
    exact .agg h.1 h.2
  cases n with
  | zero => exact hr.elim
  | succ n =>
    unfold openTy at hs
    unfold argOf
    unfold Rp at hr
    unfold Value.okWide at hok
    split at hs
    · rename_i e
      rw [e] at hr hok ⊢
      obtain ⟨b, rfl⟩ := hr
      exact one _ rfl fun cs hc => by subst hc; simp [Cell.okWide, Cell.ok, e] at hok
    · rename_i k e
      rw [e] at hr hok ⊢
      obtain ⟨b, rfl, _⟩ := hr
      exact one _ rfl fun cs hc => by subst hc; simp [Cell.okWide, Cell.ok, e] at hok
    · rename_i e
      rw [e] at hr hok ⊢
      obtain ⟨b, rfl, _⟩ := hr
      exact one _ rfl fun cs hc => by subst hc; simp [Cell.okWide, Cell.ok, e] at hok
    · rename_i el e
      rw [e] at hr hok ⊢
      have hv : ∀ cs, v ≠ .agg cs := fun cs hc => by subst hc; simp [Cell.okWide, Cell.ok, e] at hok
      rcases hr with rfl | rfl | ⟨b, len, cap, lss, rfl, _⟩
      · exact one _ rfl hv
      · exact one _ rfl hv
      · exact one _ rfl hv
    · rename_i fs e
      rw [e] at hok ⊢
      obtain ⟨cs, hc, _⟩ := hok
      exact many ⟨cs, hc⟩
    · rename_i m el e
      rw [e] at hok ⊢
      obtain ⟨cs, hc, _⟩ := hok
      exact many ⟨cs, hc⟩
    · cases hs
theorem open_args {held : Bool} {r : Reach} {base : Nat} (hS : ∀ t, S t = true → openTy P S t = true) : ∀ (ts : List TypeId) (vs : List Value) (ds : List (DataW H)) (ps : List MemPlace), DataW.TrodAll enc P w 0 (fun _ => true) held ts vs ds ps → (∀ k ∈ DataW.weightsEach P ts ds, k ≤ reachBytes) →
    (∀ (j : Nat) t v, ts[j]? = some t → vs[j]? = some v → Value.okWide P w r base t v) → (∀ t ∈ ts, S t = true) → ∀ (g : Gm) (hp : Ht) (nx : Nat), HRel B0 w0 g hp.get nx w → AllRo hp → Opens P B0 w0 w g hp nx vs fun hp' nx' lvs => ArgsRp P hp' nx' ts lvs
  | [], [], [], _, _, _, _, _, g, hp, nx, H0, ha => ⟨g, hp, nx, [], H0, ha, Gm.le_refl g, Nat.le_refl _, HE.refl _ _, LRel.nil g, trivial⟩
  | t :: ts, v :: vs, d :: ds, ps, h, hwt, hok, hts, g, hp, nx, H0, ha => by
    obtain ⟨p, q, ⟨fuel, h1⟩, h2, _⟩ := h
    have hst := hts t (List.mem_cons_self ..)
    obtain ⟨g1, hp1, nx1, ls, H1, a1, e1, n1, he1, r1, k1, k2⟩ := open_cells hS fuel t _ _ h1 (fun k hk => hwt k (by unfold DataW.weightsEach; exact List.mem_append_left _ hk)) hst g hp nx H0 ha
    have hv := argOf_rel (hS t hst) k1 r1 (hok 0 t v rfl rfl)
    obtain ⟨g2, hp2, nx2, lvs, H2, a2, e2, n2, he2, r2, k3⟩ := open_args hS ts vs ds q h2 (fun k hk => hwt k (by unfold DataW.weightsEach; exact List.mem_append_right _ hk)) (fun j t' v' e e' => hok (j + 1) t' v' e e') (fun t' ht' => hts t' (List.mem_cons_of_mem _ ht')) g1 hp1 nx1 H1 a1
    exact ⟨g2, hp2, nx2, argOf P t ls :: lvs, H2, a2, Gm.le_trans e1 e2, by omega, he1.trans he2 n1, LRel.cons (hv.mono e2) r2, ⟨fuel, ls, k1.mono he2 n2, k2, rfl⟩, k3⟩
  | [], _ :: _, _, _, h, _, _, _, _, _, _, _, _ => h.elim
  | [], [], _ :: _, _, h, _, _, _, _, _, _, _, _ => h.elim
  | _ :: _, [], _, _, h, _, _, _, _, _, _, _, _ => h.elim
  | _ :: _, _ :: _, [], _, h, _, _, _, _, _, _, _, _ => h.elim
end
def gLaid (ng : Nat) : Gm := ⟨fun b => if b < ng then some (b, 0) else none, fun _ => none⟩
def LaidAt (tbs : List TB) (w : World) : Prop := ∀ tb ∈ tbs, ∀ (j : Nat) (v : Value), tb.cs[j]? = some v → w.cell? ⟨tb.num, j, none⟩ = some v
def tbPlain (ng : Nat) (tb : TB) : Bool := Nat.blt tb.num ng && (tb.cs.all (plainV 4) && (Nat.blt 0 tb.cs.length && !tb.grp))
theorem allRo_lay0 : ∀ (tbs : List TB) (h : Ht), tbs.all (fun tb => !tb.grp) = true → AllRo h → AllRo (lay0 tbs h)
  | [], _, _, ha => ha
  | tb :: tbs, h, hg, ha => by
    simp only [List.all_cons, Bool.and_eq_true, Bool.not_eq_true'] at hg
    refine allRo_lay0 tbs _ hg.2 fun b o e => ?_
    unfold layB at e
    rw [hg.1, cond_false, Tr.get_set] at e
    by_cases hb : b = 0 + tb.num
    · subst hb; rw [Hp.set_same] at e; cases e; exact ⟨_, _, rfl, rfl⟩
    · rw [Hp.set_other _ _ hb] at e; exact ha b o e
theorem startLaid {tbs : List TB} {ng : Nat} {w : World} (hs : ng ≤ w.heap.size) (hn : numsOk 0 ng tbs = true) (hcb : tbs.all (tbPlain ng) = true) (hl : LaidAt tbs w) : HRel w.heap.size w (gLaid ng) (lay0 tbs .nil).get ng w ∧ AllRo (lay0 tbs .nil) := by
  have Hn : HRel w.heap.size w (gLaid ng) (Tr.nil : Ht).get ng w := by
    refine ⟨Below.refl _ _, Nat.le_refl _, fun b rb ro k => ?_, fun b o k => (by cases k), fun b ms k => (by cases k), fun b cs m gr k => (by cases k), fun b1 b2 o1 o2 r r1 r2 _ k => (by cases k), fun b x k => by cases k⟩
    simp only [gLaid] at k
    split at k
    · cases k; exact ⟨by omega, by omega⟩
    · cases k
  refine ⟨lay0_ok (rbs := fun _ => True) tbs 0 .nil hn Hn (fun rb _ b o r1 k => by cases k) (fun b _ => rfl) (fun tb ht hg => ?_) (fun tb ht rb ro k => ?_), allRo_lay0 tbs _ ?_ fun b o e => by cases e⟩
  · exfalso
    have := List.all_eq_true.1 hcb tb ht
    simp only [tbPlain, Bool.and_eq_true, Bool.not_eq_true'] at this
    rw [this.2.2.2] at hg; cases hg
  · refine ⟨trivial, ?_⟩
    rw [Nat.zero_add] at k ⊢
    have := List.all_eq_true.1 hcb tb ht
    simp only [tbPlain, Bool.and_eq_true, Bool.not_eq_true'] at this
    obtain ⟨c0, c1, c2, c3⟩ := this
    have c0 := blt_iff.1 c0
    have c2 := blt_iff.1 c2
    simp only [gLaid, if_pos c0] at k
    cases k
    have hcell := hl tb ht
    have hex : ∃ rc el fz, w.heap[tb.num]? = some (.cells rc el fz) ∧ tb.cs.length ≤ rc.size := by
      have h1 := hcell (tb.cs.length - 1) tb.cs[tb.cs.length - 1] (List.getElem?_eq_getElem (by omega))
      obtain ⟨rc, el, fz, hh, _, h2⟩ := cell_block h1
      exact ⟨rc, el, fz, hh, by have := getElem?_lt h2; simp only at this; omega⟩
    obtain ⟨rc, el, fz, hh, hsz⟩ := hex
    refine ⟨_, hh, ⟨by omega, fun i v v' e e' => ?_, (fun k => by cases k), (fun gr k => by rw [c3] at k; cases k), (fun _ => rfl)⟩⟩
    have h2 := hcell i v e
    unfold World.cell? at h2
    simp only [hh, Option.isSome_none, Bool.false_eq_true, if_false] at h2
    rw [Nat.zero_add] at e'
    rw [e'] at h2
    cases h2
    exact VRel.of_plain _ 4 v (List.all_eq_true.1 c1 v (List.mem_of_getElem? e))
  · exact List.all_eq_true.2 fun tb ht => by
      have := List.all_eq_true.1 hcb tb ht
      simp only [tbPlain, Bool.and_eq_true] at this
      exact this.2.2.2
theorem globLaid (ng : Nat) : GlobOk (gLaid ng) ng := fun i hi => by simp [gLaid, hi]
end
end Sw

namespace Sw
noncomputable section
open Go Go.RowKit Go.ChangeShapes
section
variable {H : Type} {enc : TypeId × Value → H} {P : Program}
theorem trodAll_stays (hl : laidOutB P = true) {W W' : World} (hb : Below W.heap.size W W') : ∀ {ts : List TypeId} {vs : List Value} {ds : List (DataW H)} {ps : List MemPlace}, (∀ t ∈ ts, P.readableRec t = true ∧ t < P.types.size) →
    DataW.TrodAll enc P W 0 (fun _ => true) true ts vs ds ps → (∀ x ∈ ps, x.block < W.heap.size) → DataW.TrodAll enc P W' 0 (fun b => decide (b < W.heap.size)) true ts vs ds ps
  | [], [], [], _, _, h, _ => h
  | t :: ts, v :: vs, d :: ds, _, hr, h, hlt => by
    obtain ⟨p, q, h1, h2, rfl⟩ := h
    obtain ⟨r1, r2⟩ := hr t (List.mem_cons_self ..)
    exact ⟨p, q, Below.trod hl r1 r2 h1 hb (fun x hx => hlt x (List.mem_append_left _ hx)), trodAll_stays hl hb (fun t ht => hr t (List.mem_cons_of_mem _ ht)) h2 (fun x hx => hlt x (List.mem_append_right _ hx)), rfl⟩
  | [], _ :: _, _, _, _, h, _ => h.elim
  | [], [], _ :: _, _, _, h, _ => h.elim
  | _ :: _, [], _, _, _, h, _ => h.elim
  | _ :: _, _ :: _, [], _, _, h, _ => h.elim
theorem post_true {f : Func} {s : ChangeSpec} {apart fresh handsOn : Bool} {W W' : World} {args : Array Value} {ds gs : List (DataW H)} {before : List MemPlace} {t : TypeId} (hl : laidOutB P = true)
    (hW : DataW.Whole enc P f.params.toList s.vars apart W args.toList ds gs before) (hv : s.vars = []) (hs : s.fn H (ds ++ gs) = { results := [.lit (.bool true)], args := ds }) (hr : f.resultTypes = #[t]) (hu : P.underlying t = some .bool)
    (hp : ∀ t ∈ f.params.toList, P.readableRec t = true ∧ t < P.types.size) (hb : Below W.heap.size W W') : s.post enc P f apart fresh handsOn false W args (.bool true) W' := by
  have hW' := hW
  obtain ⟨p, q, hA, hV, rfl, _, _⟩ := hW
  refine ⟨ds, gs, p ++ q, [], p, [], hW', ?_, ?_, ?_, ?_, fun h => by cases h⟩
  · rw [hs, hr]
    exact trodAll_mk1 (shut_bool hu true)
  · rw [hs]
    exact trodAll_stays hl hb hp hA (fun x hx => hW'.lt x (List.mem_append_left _ hx))
  · rw [hs, hv]; rfl
  · exact hb.frame _
theorem weightsEach_more {us : List TypeId} {gs : List (DataW H)} : ∀ {ts : List TypeId} {ds : List (DataW H)} {k : Nat}, k ∈ DataW.weightsEach P ts ds → k ∈ DataW.weightsEach P (ts ++ us) (ds ++ gs)
  | [], _, _, h => by simp [DataW.weightsEach] at h
  | _ :: _, [], _, h => by simp [DataW.weightsEach] at h
  | t :: ts, d :: ds, k, h => by
    simp only [List.cons_append, DataW.weightsEach] at h ⊢
    rcases List.mem_append.1 h with h | h
    · exact List.mem_append_left _ h
    · exact List.mem_append_right _ (weightsEach_more h)
theorem returns_true {C : Checked} {os : Os} {f : FuncId} {fn : Func} {s : ChangeSpec} {apart fresh handsOn : Bool} {X : World → Array Value → Prop} {t : TypeId}
    (hX : ∀ (w w' : World) (args : Array Value), w.heap = w'.heap → X w args → X w' args)
    (own : ownKnob C.prog.godebug = none) (started : os.Started) (noInit : C.prog.inits.idxOf? f = none) (hfn : C.prog.funcs[f]? = some fn)
    (witness : ∃ (w : World) (tape : Tape) (i : Input), w.os = os ∧ (w.forCall tape i).Shaped C.prog ∧ i.vars = [] ∧ Input.okWide C.prog (w.forCall tape i) .any w.heap.size f i ∧
      ((s.pre enc C.prog fn [] apart (w.forCall tape i).memory i.args ∧ X (w.forCall tape i).memory i.args) ∧ sizedMet enc C.prog fn (OpenSpec.ofChange s) apart (w.forCall tape i).memory i.args) ∧ ({} : Assume).holds C.prog (lone (Frame.enter C.prog f i.args .normal) [] (w.forCall tape i)))
    (hl : laidOutB C.prog = true) (hv : s.vars = []) (hr : fn.resultTypes = #[t]) (hu : C.prog.underlying t = some .bool) (hp : ∀ t ∈ fn.params.toList, C.prog.readableRec t = true ∧ t < C.prog.types.size)
    (contract : ∀ (W : World) (base : Nat) (args : Array Value) (ds gs : List (DataW H)) (before p : List MemPlace),
      (∀ (j : Nat) t v, fn.params[j]? = some t → args[j]? = some v → Value.okWide C.prog W .any base t v) →
      DataW.TrodAll enc C.prog W 0 (fun _ => true) true fn.params.toList args.toList ds p → (∀ k ∈ DataW.weightsEach C.prog fn.params.toList ds, k ≤ reachBytes) → gs = [] →
      X W args → W.ShapedOpen C.prog →
      s.fn H (ds ++ gs) = { results := [.lit (.bool true)], args := ds } ∧ Calls C.prog f args W fun e W' => e = .returned (.bool true) ∧ Below W.heap.size W W') :
    ReturnsInHanded {} C os f .any (fun w args => (s.pre enc C.prog fn [] apart w args ∧ X w args) ∧ sizedMet enc C.prog fn (OpenSpec.ofChange s) apart w args) (s.post enc C.prog fn apart fresh handsOn false) := by
  refine returnsInHanded_of_calls own started noInit witness ?_
  intro w tape i _ hsh _ hok hpre _
  obtain ⟨_, _, _, fn', hfn', _, _, _, _, hval⟩ := hok
  have e : fn' = fn := Option.some.inj (hfn'.symm.trans hfn)
  subst e
  obtain ⟨⟨⟨ds, gs, before, hw, hc⟩, hx⟩, hz⟩ := hpre
  have hw' := DataW.Whole.of_heap (w' := w.forCall tape i) (by rfl) hw
  have hw2 := hw'
  obtain ⟨p, q, hA, hV, _, _, _⟩ := hw2
  have hgs : gs = [] := by
    rw [hv] at hV
    cases gs with
    | nil => rfl
    | cons a b => exact hV.elim
  obtain ⟨hs, hcalls⟩ := contract (w.forCall tape i) w.heap.size i.args ds gs before p hval hA (fun k hk => of_decide_eq_true (List.all_eq_true.1 (sizedMet.weights hz hw) k (weightsEach_more hk))) hgs (hX _ _ _ (by rfl) hx) hsh
  refine hcalls.mono fun e W' ⟨he, hb⟩ => ?_
  subst he
  exact ChangeSpec.post_blind (post_true hl hw' hv hs hr hu hp hb)
end
end
end Sw

namespace Sw
noncomputable section
open Go Go.RowKit Go.ChangeShapes
section
variable {P : Program} {hp : Ht} {nx : Nat}
def structTys (P : Program) (t : TypeId) : Option (List TypeId) := match P.underlying t with
  | some (.struct fs) => some (fs.toList.map (·.type))
  | _ => none
def RpAll (P : Program) (hp : Ht) (nx n : Nat) : List TypeId → List (List Value) → Prop
  | [], [] => True
  | t :: ts, l :: ls => Rp P hp nx n t l ∧ RpAll P hp nx n ts ls
  | _, _ => False
theorem RpAll.of {n : Nat} : ∀ (ts : List TypeId) (lss : List (List Value)), lss.length = ts.length → (∀ (i : Nat) (t : TypeId) (l : List Value), ts[i]? = some t → lss[i]? = some l → Rp P hp nx n t l) → RpAll P hp nx n ts lss
  | [], [], _, _ => trivial
  | t :: ts, l :: ls, h, k => ⟨k 0 t l rfl rfl, RpAll.of ts ls (by simpa using h) fun i t' l' a b => k (i + 1) t' l' a b⟩
  | [], _ :: _, h, _ => by simp at h
  | _ :: _, [], h, _ => by simp at h
theorem Rp.fields {k : Nat} {t : TypeId} {ls : List Value} {ts : List TypeId} (hu : structTys P t = some ts) (h : Rp P hp nx k t ls) : ∃ n lss, ls = lss.flatten ∧ RpAll P hp nx n ts lss := by
  cases k with
  | zero => exact h.elim
  | succ n =>
    unfold structTys at hu
    unfold Rp at h
    split at hu
    · rename_i fs e
      cases hu
      rw [e] at h
      obtain ⟨lss, h1, h2, h3⟩ := h
      refine ⟨n, lss, h1, RpAll.of _ _ (by simpa using h2) fun i t l a b => ?_⟩
      rw [List.getElem?_map, Array.getElem?_toList, Option.map_eq_some_iff] at a
      obtain ⟨f, hf, rfl⟩ := a
      exact (h3 i f l hf b).1
    · cases hu
theorem Rp.int {k : Nat} {t : TypeId} {ls : List Value} {ik : IntKind} (hu : P.underlying t = some (.int ik)) (h : Rp P hp nx k t ls) : ∃ z : Int, ls = [.int ik z] ∧ (Lit.int ik z).wf = true := by
  cases k with
  | zero => exact h.elim
  | succ n => unfold Rp at h; rw [hu] at h; exact h
theorem Rp.bool {k : Nat} {t : TypeId} {ls : List Value} (hu : P.underlying t = some .bool) (h : Rp P hp nx k t ls) : ∃ b : Bool, ls = [.bool b] := by
  cases k with
  | zero => exact h.elim
  | succ n => unfold Rp at h; rw [hu] at h; exact h
theorem Rp.string {k : Nat} {t : TypeId} {ls : List Value} (hu : P.underlying t = some .string) (h : Rp P hp nx k t ls) : ∃ s : ByteArray, ls = [.string s] ∧ s.size ≤ reachBytes := by
  cases k with
  | zero => exact h.elim
  | succ n => unfold Rp at h; rw [hu] at h; exact h
theorem each_enc {α : Type} {enc : α → List Value} {E : α → Prop} : ∀ (lss : List (List Value)), (∀ l ∈ lss, ∃ x, l = enc x ∧ E x) → ∃ xs : List α, lss = xs.map enc ∧ ∀ x ∈ xs, E x
  | [], _ => ⟨[], rfl, fun x h => by cases h⟩
  | l :: lss, h => by
    obtain ⟨x, rfl, hx⟩ := h l (List.mem_cons_self ..)
    obtain ⟨xs, rfl, hxs⟩ := each_enc lss fun l hl => h l (List.mem_cons_of_mem _ hl)
    exact ⟨x :: xs, rfl, fun y hy => by
      rcases List.mem_cons.1 hy with rfl | hy
      · exact hx
      · exact hxs y hy⟩
theorem Rp.slice {α : Type} {enc : α → List Value} {m : Nat} {E : Ht → Nat → α → Prop} {k : Nat} {t e : TypeId} {ls : List Value} (hu : P.underlying t = some (.slice e)) (hlen : ∀ x, (enc x).length = m) (he : ∀ k l, Rp P hp nx k e l → ∃ x : α, l = enc x ∧ E hp nx x) (h : Rp P hp nx k t ls) :
    ∃ s : SV α, ls = [s.v] ∧ SlOk enc m E hp nx s := by
  cases k with
  | zero => exact h.elim
  | succ n =>
    unfold Rp at h; rw [hu] at h
    rcases h with rfl | rfl | ⟨b, len, cap, lss, rfl, h0, hlc, hcm, hb, hh, hl, hr⟩
    · exact ⟨⟨_, []⟩, rfl, ⟨fun x h => (by cases h), .inl ⟨rfl, .inl rfl⟩, by show (0 : Nat) < _; decide⟩, fun x h => (by cases h)⟩
    · exact ⟨⟨_, []⟩, rfl, ⟨fun x h => (by cases h), .inl ⟨rfl, .inr rfl⟩, by show (0 : Nat) < _; decide⟩, fun x h => (by cases h)⟩
    · obtain ⟨xs, rfl, hxs⟩ := each_enc lss fun l hl => he n l (hr l hl).1
      rw [List.length_map] at hl
      refine ⟨⟨_, xs⟩, rfl, ⟨fun x _ => hlen x, .inr ⟨b, cap, _, by rw [← hl], h0, hb, by rw [hh, List.flatMap_def]⟩, ?_⟩, hxs⟩
      have : reachBytes < 281474976710656 := by decide
      have := hcm.1
      show xs.length < _
      omega
end
theorem mtB_keep {hp hp' : Ht} (h : ∀ b o, hp.get b = some o → hp'.get b = some o) : ∀ (tbs : List TB) (A : Assoc) {A1 : Assoc}, mtB hp false tbs A = some A1 → mtB hp' false tbs A = some A1
  | [], A, A1, k => k
  | tb :: tbs, A, A1, k => by
    unfold mtB at k ⊢
    cases hl : look tb.num A with
    | none => rw [hl] at k; cases k
    | some b =>
      rw [hl] at k
      simp only at k ⊢
      cases hb : hp.get b with
      | none => rw [hb] at k; cases k
      | some o =>
        rw [hb] at k
        rw [h b o hb]
        cases o with
        | cells cs m =>
          simp only at k ⊢
          cases hg : grpOk m tb && (!false || !m.ro) with
          | false => rw [hg] at k; cases k
          | true =>
            rw [hg] at k
            simp only [cond_true] at k ⊢
            cases hm : mtL (mtV 8) cs tb.cs A with
            | none => rw [hm] at k; cases k
            | some A2 => rw [hm] at k; exact mtB_keep h tbs A2 k
        | _ => cases k
def useOk (ng : Nat) (tbs : List TB) : Bool := match mtB (lay0 tbs .nil) false tbs (idA ng) with
  | some A1 => grpFree A1 tbs && keysLt ng A1
  | none => false
theorem use_plain {ng : Nat} {tbs : List TB} (hk : useOk ng tbs = true) {hp : Ht} {nx : Nat} (h : ∀ b o, (lay0 tbs .nil).get b = some o → hp.get b = some o) : useTs ng [⟨[], tbs, ng, .bool true, [], 0⟩] [] hp nx = some (.bool true, hp, nx) := by
  unfold useOk at hk
  split at hk
  · rename_i A1 e
    rw [Bool.and_eq_true] at hk
    have e2 := mtB_keep h tbs (idA ng) e
    have : useT ng ⟨[], tbs, ng, .bool true, [], 0⟩ [] hp nx = some (.bool true, hp, nx) := by
      unfold useT
      simp only [mtL, e2, hk.1, hk.2, Bool.and_self, cond_true]
      rfl
    simp only [useTs, this]
  · cases hk
theorem sane_wf {e : Env} {ng : Nat} {tbs : List TB} {f : FuncId} (hK : e.K f = some (kOfT ng [⟨[], tbs, ng, .bool true, [], 0⟩])) (hk : useOk ng tbs = true) {hp : Ht} {nx : Nat} (h : ∀ b o, (lay0 tbs .nil).get b = some o → hp.get b = some o) : WF e f [] hp nx (Stays nx hp (BoolIs True)) :=
  .tmpl hK (use_plain hk h) ⟨⟨true, rfl, fun _ => trivial, fun _ => rfl⟩, Nat.le_refl _, HE.refl _ _⟩
theorem CallLands.of_calls {P : Program} {B0 : Nat} {w0 : World} {g : Gm} {hp : Ht} {nx : Nat} {w : World} {f : FuncId} {args : Array Value} {v v' : Value} (H : HRel B0 w0 g hp.get nx w) (hv : VRel g v v') (h : Calls P f args w fun e w' => e = .returned v' ∧ w' = w) :
    CallLands P B0 w0 .normal g nx f args w v hp nx := by
  refine ⟨v', w, g, H, hv, Ext.refl _ _ _, fun cs => ?_⟩
  obtain ⟨e, w', fr, ⟨rfl, rfl⟩, st, hf, h1, h2, h3, h4⟩ := h cs
  exact ⟨fr, st, h1, h2, h3, hf, h4⟩
theorem below_cell {B0 : Nat} {w0 w : World} (h : Below B0 w0 w) {b o : Nat} (hb : b < B0) : w.cell? ⟨b, o, none⟩ = w0.cell? ⟨b, o, none⟩ := by
  unfold World.cell?
  simp only [h.block b hb]
theorem WF.callsTrue {P : Program} {ng B0 : Nat} {w0 : World} {e : Env} {g : Gm} {hp : Ht} {nx : Nat} {w : World} (ok : EnvOk P ng e) (kok : KOk P ng B0 w0 e) (H : HRel B0 w0 g hp.get nx w) (hg : GlobOk g ng) {f : FuncId} {l : List Value} {args : Array Value} (hl : LRel g l args.toList)
    (h : WF e f l hp nx (fun v _ _ => v = .bool true)) : Calls P f args w fun en w' => en = .returned (.bool true) ∧ Below B0 w0 w' := by
  obtain ⟨v, hp', nx', ⟨n0, h1⟩, rfl⟩ := h
  refine Sw.calls_true ok kok H hg hl n0 1 ?_
  simp only [explore, h1 n0 (Nat.le_refl _)]
  rfl
theorem BoolIs.isTrue {v : Value} (h : BoolIs True v) : v = .bool true := by
  obtain ⟨c, rfl, h⟩ := h
  rw [h.2 trivial]
theorem size_of_cell {w : World} {b o : Nat} {v : Value} (h : w.cell? ⟨b, o, none⟩ = some v) : b < w.heap.size := by
  unfold World.cell? at h
  simp only at h
  split at h
  · rename_i c el fz hh; exact (Array.getElem?_eq_some_iff.1 hh).1
  · cases h
theorem trodAll_len {H : Type} {enc : TypeId × Value → H} {P : Program} {w : World} {low : Nat} {spare : Nat → Bool} {held : Bool} : ∀ {ts : List TypeId} {vs : List Value} {ds : List (DataW H)} {ps : List MemPlace}, DataW.TrodAll enc P w low spare held ts vs ds ps → ds.length = ts.length
  | [], [], [], _, _ => rfl
  | _ :: _, _ :: _, _ :: _, _, h => by obtain ⟨_, _, _, h2, _⟩ := h; simp [trodAll_len h2]
  | [], _ :: _, _, _, h => h.elim
  | [], [], _ :: _, _, h => h.elim
  | _ :: _, [], _, _, h => h.elim
  | _ :: _, _ :: _, [], _, h => h.elim
theorem has_lt {m N t : Nat} (h : Nat.blt m (2 ^ N) = true) (hs : has m t = true) : t < N := by
  rcases Nat.lt_or_ge t N with h' | h'
  · exact h'
  · exfalso
    have : m < 2 ^ t := Nat.lt_of_lt_of_le (blt_iff.1 h) (Nat.pow_le_pow_right (by decide) h')
    unfold has at hs
    rw [Nat.testBit_lt_two_pow this] at hs; cases hs
theorem law_calls {H : Type} {enc : TypeId × Value → H} {P : Program} {ng : Nat} {e : Env} {S : TypeId → Bool} {tbs : List TB} {f : FuncId} {W : World} {base : Nat} {ts : List TypeId} {args : Array Value} {ds : List (DataW H)} {p : List MemPlace}
    (ok : EnvOk P ng e) (kok : KOk P ng W.heap.size W e) (hs : ng ≤ W.heap.size) (hn : numsOk 0 ng tbs = true) (hcb : tbs.all (tbPlain ng) = true) (hl : LaidAt tbs W) (hS : ∀ t, S t = true → openTy P S t = true)
    (hA : DataW.TrodAll enc P W 0 (fun _ => true) true ts args.toList ds p) (hwt : ∀ k ∈ DataW.weightsEach P ts ds, k ≤ reachBytes) (hval : ∀ (j : Nat) t v, ts[j]? = some t → args[j]? = some v → Value.okWide P W .any base t v) (hts : ∀ t ∈ ts, S t = true)
    (h : ∀ (hp : Ht) (nx : Nat) (lvs : List Value), ArgsRp P hp nx ts lvs → (∀ (hp' : Ht) (nx' : Nat), nx ≤ nx' → HE nx hp hp' → ∀ b o, (lay0 tbs .nil).get b = some o → hp'.get b = some o) → WF e f lvs hp nx (Stays nx hp (BoolIs True))) :
    Calls P f args W fun en W' => en = .returned (.bool true) ∧ Below W.heap.size W W' := by
  obtain ⟨H0, a0⟩ := startLaid hs hn hcb hl
  obtain ⟨g, hp, nx, lvs, H1, a1, e1, n1, he, r1, k1⟩ := open_args (B0 := W.heap.size) (w0 := W) hS ts args.toList ds p hA hwt (fun j t v a b => hval j t v a (by simpa using b)) hts (gLaid ng) (lay0 tbs .nil) ng H0 a0
  refine WF.callsTrue ok kok H1 ((globLaid ng).mono e1) r1 ((h hp nx lvs k1 fun hp' nx' hn' he' b o hb => ?_).mono fun v _ _ hv => hv.1.isTrue)
  have hlt : b < ng := (H0.live b o hb).1
  rw [he' b (by omega), he b hlt]; exact hb
end
end Sw

namespace Sw
noncomputable section
open Go Go.RowKit
section
variable {P : Program} {hp : Ht} {nx : Nat}
theorem Rp.fieldsN {k : Nat} {t : TypeId} {ls : List Value} {ts : List TypeId} (hu : structTys P t = some ts) (h : Rp P hp nx k t ls) : ∃ n lss, k = n + 1 ∧ ls = lss.flatten ∧ RpAll P hp nx n ts lss := by
  cases k with
  | zero => exact h.elim
  | succ n =>
    unfold structTys at hu
    unfold Rp at h
    split at hu
    · rename_i fs e
      cases hu
      rw [e] at h
      obtain ⟨lss, h1, h2, h3⟩ := h
      refine ⟨n, lss, rfl, h1, RpAll.of _ _ (by simpa using h2) fun i t l a b => ?_⟩
      rw [List.getElem?_map, Array.getElem?_toList, Option.map_eq_some_iff] at a
      obtain ⟨f, hf, rfl⟩ := a
      exact (h3 i f l hf b).1
    · cases hu
theorem Rp.sliceN {α : Type} {enc : α → List Value} {m : Nat} {E : Nat → α → Prop} {k : Nat} {t e : TypeId} {ls : List Value} (hu : P.underlying t = some (.slice e)) (hlen : ∀ x, (enc x).length = m) (he : ∀ j, k = j + 1 → ∀ l, Rp P hp nx j e l → ∃ x : α, l = enc x ∧ E j x) (h : Rp P hp nx k t ls) :
    ∃ (j : Nat) (s : SV α), k = j + 1 ∧ ls = [s.v] ∧ SOk enc m hp nx s ∧ (∀ x ∈ s.l, E j x) ∧ s.l.length * P.bytesOf e ≤ reachBytes := by
  cases k with
  | zero => exact h.elim
  | succ n =>
    unfold Rp at h; rw [hu] at h
    rcases h with rfl | rfl | ⟨b, len, cap, lss, rfl, h0, hlc, hcm, hb, hh, hl, hr⟩
    · exact ⟨n, ⟨_, []⟩, rfl, rfl, ⟨fun x h => (by cases h), .inl ⟨rfl, .inl rfl⟩, by show (0 : Nat) < _; decide⟩, fun x h => (by cases h), by show (0 : Nat) * _ ≤ _; rw [Nat.zero_mul]; exact Nat.zero_le _⟩
    · exact ⟨n, ⟨_, []⟩, rfl, rfl, ⟨fun x h => (by cases h), .inl ⟨rfl, .inr rfl⟩, by show (0 : Nat) < _; decide⟩, fun x h => (by cases h), by show (0 : Nat) * _ ≤ _; rw [Nat.zero_mul]; exact Nat.zero_le _⟩
    · obtain ⟨xs, rfl, hxs⟩ := each_enc lss fun l hl => he n rfl l (hr l hl).1
      rw [List.length_map] at hl
      refine ⟨n, ⟨_, xs⟩, rfl, rfl, ⟨fun x _ => hlen x, .inr ⟨b, cap, _, by rw [← hl], h0, hb, by rw [hh, List.flatMap_def]⟩, ?_⟩, hxs, ?_⟩
      · have : reachBytes < 281474976710656 := by decide
        have := hcm.1
        show xs.length < _
        omega
      · show xs.length * _ ≤ _
        rw [hl]
        exact Nat.le_trans (Nat.mul_le_mul_right _ hlc) hcm.2
end
theorem CondN.up : ∀ {n : Nat} {hp : Ht} {nx : Nat} {c : RCond}, CondN n hp nx c → CondN (n + 1) hp nx c
  | 0, _, _, _, h => h.elim
  | _ + 1, _, _, _, h => ⟨⟨h.1.1, fun x hx => (h.1.2 x hx).up⟩, h.2⟩
theorem StepN.up : ∀ {n : Nat} {hp : Ht} {nx : Nat} {c : RStep}, StepN n hp nx c → StepN (n + 1) hp nx c
  | 0, _, _, _, h => h.elim
  | _ + 1, _, _, _, h => ⟨h.1, ⟨h.2.1.1, fun x hx => (h.2.1.2 x hx).up⟩, ⟨h.2.2.1.1, fun x hx => (h.2.2.1.2 x hx).up⟩, h.2.2.2⟩
theorem wfI {z : Int} (h : (Lit.int .i64 z).wf = true) : -9223372036854775808 ≤ z ∧ z ≤ 9223372036854775807 := by
  have h : (decide (IntKind.i64.min ≤ z) && decide (z ≤ IntKind.i64.max)) = true := h
  rw [Bool.and_eq_true, decide_eq_true_eq, decide_eq_true_eq] at h
  have h1 : IntKind.i64.min = -9223372036854775808 := by decide
  have h2 : IntKind.i64.max = 9223372036854775807 := by decide
  omega
end
end Sw
