/- A part of the proof that the law returns true for every input that its row speaks of. No condition is added. -/
import Derived.Test.YtnedhhillonniaaGreatDoorSwAD
import Derived.Orders
import Derived.Test.YtnedhhillonniaaGreatDoorProg
import Derived.KernelRfl
/- Regions that draw their order: a step of the right. -/
namespace Sw
noncomputable section
open Go Go.RowKit

section
variable {P : Program} {ng ng' : Nat} {B0 : Nat} {w0 : World} {nt nx0 : Nat} {ops : Array Oper} {L : Nat} {listed : Array Bool} {s : St} {a : Act} {w : World} {g : Gm} {bm : List Nat} {e : Env} {rec : Rec} {b : Frame} {rn : Option Nat}

theorem lst_set {i k : Nat} (hi : i < listed.size) : Lst (listed.setIfInBounds i true) k ↔ k = i ∨ Lst listed k := by
  unfold Lst
  by_cases h : k = i
  · subst h
    simp [hi]
  · rw [Array.getElem?_setIfInBounds_ne (fun e => h e.symm)]
    simp [h]

/-- What a ready operation looks at is related. -/
theorem ready_looks {all : List Oper} (D : DInv B0 w0 nt nx0 all L listed s a w g) (ok : DOk ng' nt all) (pf : PlanFacts all bm) {i : Nat} {o : Oper} (ho : nthO i all = some o)
    (hr : ∀ ed ∈ edgesAt all i, Region.binds .any ed = true → Lst listed ed.on) {t : Nat} (ht : t ∈ looks all o) (hlt : t < nt) : VRel g (s.to.get t) (a.tmps.getD t undef) := by
  have hi := nthO_lt ho
  refine D.tmps t hlt fun k hk hd => ?_
  have : t ∈ looksAt all i := by simp only [looksAt, ho]; exact ht
  rcases pf.looks i hi t this k hk.1 hd with h | h
  · exact D.pend k hk h
  · exact hk.2.2 (bm_listed pf D.closed i hi hr k h)

theorem ready_ops {all : List Oper} (D : DInv B0 w0 nt nx0 all L listed s a w g) (ok : DOk ng' nt all) (pf : PlanFacts all bm) (hg : GlobOk g ng') {i : Nat} {o : Oper} (ho : nthO i all = some o)
    (hr : ∀ ed ∈ edgesAt all i, Region.binds .any ed = true → Lst listed ed.on) : ORels g s.to a.eval o.op.operands.toList := by
  have hoo := List.all_eq_true.1 ok.ops o (nthO_mem ho)
  unfold operOk at hoo
  rw [Bool.and_eq_true] at hoo
  intro x hx
  have hxo := List.all_eq_true.1 hoo.1 x hx
  cases x with
  | tmp t =>
    have hlt : t < nt := Nat.le_of_ble_eq_true hxo
    refine ready_looks D ok pf ho hr (t := t) ?_ hlt
    unfold looks
    refine List.mem_append.2 (.inr ?_)
    exact List.mem_filterMap.2 ⟨.tmp t, hx, rfl⟩
  | const v => exact VRel.of_plain g 4 v hxo
  | global j => exact VRel.ptr (off := 0) (hg j (Nat.le_of_ble_eq_true hxo))
  | func f => exact .func rfl rfl (fun i v v' e => by simp at e) (fun i v v' e => by simp at e)

theorem ready_guard (D : DInv B0 w0 nt nx0 ops.toList L listed s a w g) (ok : DOk ng' nt ops.toList) (pf : PlanFacts ops.toList bm) {i : Nat} {o : Oper} (ho : nthO i ops.toList = some o)
    (hr : ∀ ed ∈ edgesAt ops.toList i, Region.binds .any ed = true → Lst listed ed.on) : GuardRel g ops s.to a o := by
  intro j wn hgd oj d hj hd
  have hdj : dstAt ops.toList j = some d := by
    have : nthO j ops.toList = some oj := by rw [nthO_get]; simpa using hj
    rw [dstAt_o this, hd]
  have hlt := ok.dst hdj
  refine ⟨ready_looks D ok pf ho hr (t := d) ?_ hlt, by rw [D.tsz]; exact hlt⟩
  unfold looks
  rw [hgd]
  simp only [hdj]
  exact List.mem_append.2 (.inl (List.mem_singleton.2 rfl))

/-- The right does an operation that the left has done. -/
theorem DInv.pendStep {all : List Oper} (D : DInv B0 w0 nt nx0 all L listed s a w g) (ok : DOk ng' nt all) (pf : PlanFacts all bm) {i : Nat} {o : Oper} (ho : nthO i all = some o) (hp : Pnd all L listed i) (hsz : i < listed.size)
    (hr : ∀ ed ∈ edgesAt all i, Region.binds .any ed = true → Lst listed ed.on) {v' : Value} {w' : World} {g' : Gm} (H : HRel B0 w0 g' s.hp.get s.nx w') (hv : ∀ d, o.dst = some d → VRel g' (s.to.get d) v') (E : Ext g nx0 w g' s.nx w')
    (hnew : ∀ m, g'.blk m ≠ none → g.blk m ≠ none ∨ (opCls o.op = 1 ∧ ∃ d, o.dst = some d ∧ numV (s.to.get d) = some m)) :
    DInv B0 w0 nt nx0 all L (listed.setIfInBounds i true) s (a.put o.dst v') w' g' := by
  have hpnd : ∀ k, Pnd all L (listed.setIfInBounds i true) k → k ≠ i ∧ Pnd all L listed k := fun k hk => by
    have h3 := hk.2.2
    rw [lst_set hsz] at h3
    exact ⟨fun h => h3 (.inl h), hk.1, hk.2.1, fun h => h3 (.inr h)⟩
  refine ⟨fun k hk => ?_, fun k hk => D.pend k (hpnd k hk).2, fun k hk ed he hb => ?_, H, by rw [put_defers]; exact D.ds.mono E.ext.le, ?_, fun x hx hk => ?_, D.low, fun k hk hck d m hd hm => ?_⟩
  · rcases (lst_set hsz).1 hk with rfl | hk
    · exact hp.2.1
    · exact D.sub k hk
  · rw [lst_set hsz]
    rcases (lst_set hsz).1 hk with rfl | hk
    · exact .inr (hr ed he hb)
    · exact .inr (D.closed k hk ed he hb)
  · cases hd : o.dst with
    | none => simp only [Act.put]; exact D.tsz
    | some d => simp only [Act.put, Array.size_setIfInBounds]; exact D.tsz
  · by_cases hxd : o.dst = some x
    · have h1 := hv x hxd
      have : (a.put o.dst v').tmps.getD x undef = v' := by
        have : x < a.tmps.size := by rw [D.tsz]; exact hx
        rw [hxd]
        simp [Act.put, Array.getD, this]
      rw [this]; exact h1
    · have : (a.put o.dst v').tmps.getD x undef = a.tmps.getD x undef := by
        cases hd : o.dst with
        | none => rfl
        | some d =>
          have hne : d ≠ x := fun h => hxd (by rw [hd, h])
          simp only [Act.put, Array.getD_eq_getD_getElem?]
          rw [Array.getElem?_setIfInBounds_ne hne]
      rw [this]
      refine (D.tmps x hx fun k hk' hd => ?_).mono E.ext.le
      by_cases hki : k = i
      · subst hki; rw [dstAt_o ho] at hd; exact hxd hd
      · refine hk k ⟨hk'.1, hk'.2.1, fun h => ?_⟩ hd
        rcases (lst_set hsz).1 h with h | h
        · exact hki h
        · exact hk'.2.2 h
  · obtain ⟨hne, hk'⟩ := hpnd k hk
    obtain ⟨q1, q2, q3, q4⟩ := D.blk k hk' hck d m hd hm
    refine ⟨?_, q2, q3, fun k2 hk2 hck2 hne2 d2 hd2 => q4 k2 (hpnd k2 hk2).2 hck2 hne2 d2 hd2⟩
    cases hg : g'.blk m with
    | none => rfl
    | some x =>
      rcases hnew m (by rw [hg]; simp) with h | ⟨hc, d', hd', hm'⟩
      · exact absurd q1 h
      · exact absurd hm' (q4 i hp (by rw [clsAt_o ho]; exact hc) (fun h => hne h.symm) d' (by rw [dstAt_o ho]; exact hd'))

/-- Both do an operation that acts. -/
theorem DInv.effStep {all : List Oper} (D : DInv B0 w0 nt nx0 all L listed s a w g) (ok : DOk ng' nt all) (pf : PlanFacts all bm) {i : Nat} {o : Oper} (ho : nthO i all = some o) (hL : has L i = false) (hsz : i < listed.size)
    (hr : ∀ ed ∈ edgesAt all i, Region.binds .any ed = true → Lst listed ed.on) {v v' : Value} {ds' dfs' : List Deferred} {hp' : Ht} {nx' : Nat} {w' : World} {g' : Gm} (H : HRel B0 w0 g' hp'.get nx' w') (hv : VRel g' v v') (hd : DLRel g' ds' dfs') (E : Ext g s.nx w g' nx' w') :
    DInv B0 w0 nt nx0 all (put L i) (listed.setIfInBounds i true) ⟨(dstC o.dst).run s.to v, ds', hp', nx', []⟩ ({ a with defers := dfs' }.put o.dst v') w' g' := by
  have hpnd : ∀ k, Pnd all (put L i) (listed.setIfInBounds i true) k → k ≠ i ∧ Pnd all L listed k := fun k hk => by
    have h3 := hk.2.2
    rw [lst_set hsz] at h3
    have hne : k ≠ i := fun h => h3 (.inl h)
    exact ⟨hne, hk.1, by have := hk.2.1; rwa [has_put_ne (fun e => hne e.symm)] at this, fun h => h3 (.inr h)⟩
  have hi := nthO_lt ho
  have hd512 : ∀ d, o.dst = some d → d < 512 := fun d hd => Nat.lt_of_lt_of_le (ok.dst ((dstAt_o ho).trans hd)) ok.small
  have hget : ∀ x, x < 512 → o.dst ≠ some x → ((dstC o.dst).run s.to v).get x = s.to.get x := fun x hx h => Tm.get_put hd512 hx h
  have hgetk : ∀ k d, k < all.length → k ≠ i → dstAt all k = some d → ((dstC o.dst).run s.to v).get d = s.to.get d := fun k d hk hne hd =>
    hget d (Nat.lt_of_lt_of_le (ok.dst hd) ok.small) (by rw [← dstAt_o ho]; exact pf.dsts k i hk hi hne d hd)
  refine ⟨fun k hk => ?_, fun k hk => D.pend k (hpnd k hk).2, fun k hk ed he hb => ?_, H, by rw [put_defers]; exact hd, ?_, fun x hx hk => ?_, Nat.le_trans D.low E.ext.num, fun k hk hck d m hd hm => ?_⟩
  · rcases (lst_set hsz).1 hk with rfl | hk
    · exact has_put_self _ _
    · exact has_put_mono (D.sub k hk)
  · rw [lst_set hsz]
    rcases (lst_set hsz).1 hk with rfl | hk
    · exact .inr (hr ed he hb)
    · exact .inr (D.closed k hk ed he hb)
  · cases hd : o.dst with
    | none => simp only [Act.put]; exact D.tsz
    | some d => simp only [Act.put, Array.size_setIfInBounds]; exact D.tsz
  · by_cases hxd : o.dst = some x
    · have h0 : ((dstC o.dst).run s.to v).get x = v := by rw [hxd]; exact Tm.get_put_self (hd512 x hxd)
      have h1 : ({ a with defers := dfs' }.put o.dst v').tmps.getD x undef = v' := by
        have : x < a.tmps.size := by rw [D.tsz]; exact hx
        rw [hxd]
        simp [Act.put, Array.getD, this]
      show VRel g' (((dstC o.dst).run s.to v).get x) _
      rw [h0, h1]; exact hv
    · have h1 : ({ a with defers := dfs' }.put o.dst v').tmps.getD x undef = a.tmps.getD x undef := by
        cases hd : o.dst with
        | none => rfl
        | some d =>
          have hne : d ≠ x := fun h => hxd (by rw [hd, h])
          simp only [Act.put, Array.getD_eq_getD_getElem?]
          rw [Array.getElem?_setIfInBounds_ne hne]
      show VRel g' (((dstC o.dst).run s.to v).get x) _
      rw [hget x (Nat.lt_of_lt_of_le hx ok.small) hxd, h1]
      refine (D.tmps x hx fun k hk' hd => ?_).mono E.ext.le
      have hki : k ≠ i := fun h => by subst h; rw [hk'.2.1] at hL; cases hL
      refine hk k ⟨hk'.1, has_put_mono hk'.2.1, fun h => ?_⟩ hd
      rcases (lst_set hsz).1 h with h | h
      · exact hki h
      · exact hk'.2.2 h
  · obtain ⟨hne, hk'⟩ := hpnd k hk
    have hm : numV (((dstC o.dst).run s.to v).get d) = some m := hm
    rw [hgetk k d hk'.1 hne hd] at hm
    obtain ⟨q1, q2, q3, q4⟩ := D.blk k hk' hck d m hd hm
    refine ⟨?_, q2, Nat.lt_of_lt_of_le q3 E.ext.num, fun k2 hk2 hck2 hne2 d2 hd2 hm2 => ?_⟩
    · cases hg : g'.blk m with
      | none => rfl
      | some x =>
        rcases E.ext.new m (by rw [hg]; simp) with h | h
        · exact absurd q1 h
        · omega
    · obtain ⟨hne3, hk3⟩ := hpnd k2 hk2
      have hm2 : numV (((dstC o.dst).run s.to v).get d2) = some m := hm2
      rw [hgetk k2 d2 hk3.1 hne3 hd2] at hm2
      exact q4 k2 hk3 hck2 hne2 d2 hd2 hm2
end
end
end Sw

/- Regions that draw their order: every order comes to what the plan comes to. -/
namespace Sw
noncomputable section
open Go Go.RowKit

theorem count_set : ∀ (l : List Bool) (i : Nat), l[i]? = some false → (l.set i true).count false + 1 = l.count false
  | [], i, h => by simp at h
  | x :: l, 0, h => by
    simp at h
    subst h
    simp
  | x :: l, i + 1, h => by
    simp at h
    have := count_set l i h
    cases x <;> simp [List.count_cons] <;> omega

section
variable {P : Program} {ng ng' : Nat} {B0 : Nat} {w0 : World} {nt nx0 : Nat} {ops : Array Oper} {L : Nat} {listed : Array Bool} {s : St} {a : Act} {w : World} {g : Gm} {bm : List Nat} {e : Env} {rec : Rec} {b : Frame} {rn : Option Nat} {md : Region.Mode}

theorem ready_iff (hsz : listed.size = ops.toList.length) {i : Nat} : i ∈ Region.ready md ops listed ↔ i < ops.toList.length ∧ ¬ Lst listed i ∧ ∀ ed ∈ edgesAt ops.toList i, Region.binds md ed = true → Lst listed ed.on := by
  unfold Region.ready
  rw [List.mem_filter, List.mem_range]
  have hn : ops.toList.length = ops.size := by simp
  rw [hn]
  by_cases hi : i < ops.size
  · have h1 : nthO i ops.toList = some ops[i] := by rw [nthO_get]; simp [hi]
    have h2 : edgesAt ops.toList i = ops[i].after.toList := by simp [edgesAt, h1]
    have h3 : i < listed.size := by omega
    rw [h2]
    simp only [hi, true_and]
    have e1 : listed.getD i true = listed[i] := by simp [Array.getD, h3]
    have e2 : Lst listed i ↔ listed[i] = true := by unfold Lst; rw [Array.getElem?_eq_getElem h3]; simp
    have e3 : ∀ k, listed.getD k false = true ↔ Lst listed k := fun k => by
      unfold Lst
      by_cases hk : k < listed.size
      · simp [Array.getD, hk]
      · simp [Array.getD, hk]
    rw [e1, e2]
    simp only [hi, Array.getElem?_eq_getElem, Option.map_some, Option.getD_some, Bool.and_eq_true, Bool.not_eq_true', ← Array.all_toList, List.all_eq_true, Bool.or_eq_true, e3]
    constructor
    · rintro ⟨q1, q2⟩
      refine ⟨by simpa using q1, fun ed he hb => ?_⟩
      rcases q2 ed he with h | h
      · rw [hb] at h; cases h
      · exact h
    · rintro ⟨q1, q2⟩
      refine ⟨by simpa using q1, fun ed he => ?_⟩
      cases hb : Region.binds md ed with
      | false => exact .inl rfl
      | true => exact .inr (q2 ed he hb)
  · simp [hi]

/-- All is listed. -/
theorem drawn_done (D : DInv B0 w0 nt nx0 ops.toList L listed s a w g) {eff : Option Nat} {rest : List Stage} (SE : StageEnd ops.toList bm L eff rest) (hall : ∀ i, i < ops.toList.length → Lst listed i) (fm : Fm) :
    RegSays P B0 w0 b nt g nx0 ops [] a w fun cs => tailE ops.toList e rec fm eff rest (s.at cs) := by
  cases eff with
  | some y =>
    obtain ⟨h1, _, h3, _⟩ := SE.next y rfl
    rw [D.sub y (hall y h1)] at h3
    cases h3
  | none =>
    refine .here (.inr ⟨s, fun cs => rfl, a, w, g, ⟨D.heap, ⟨D.tsz, fun x hx => D.tmps x hx fun i hi _ => hi.2.2 (hall i hi.1)⟩, D.ds⟩, Ext.low (Ext.refl _ _ _) D.low, fun k cs => .refl ..⟩)

/-- What comes after some steps. -/
theorem RegSays.pre {l : List Nat} {i : Nat} {a' : Act} {w' : World} {g' : Gm} {r : List Nat → R} (h : RegSays P B0 w0 b nt g' nx0 ops l a' w' r) (hE : ∀ nx', nx0 ≤ nx' → Ext g nx0 w g' nx' w') 
    (st : ∀ rest k cs, Steps P (lone (At b a (.inRegion ops (i :: rest) :: k)) cs w) (lone (At b a' (.inRegion ops rest :: k)) cs w')) : RegSays P B0 w0 b nt g nx0 ops (i :: l) a w r := by
  refine h.mono fun f' h => ?_
  rcases h with h | ⟨s', h, a2, w2, g2, S2, E2, st2⟩
  · exact .inl h
  · exact .inr ⟨s', h, a2, w2, g2, S2, (hE nx0 (Nat.le_refl _)).trans0 E2, fun k cs => (st l k cs).trans (st2 k cs)⟩

theorem Ext.atNx {n1 n2 : Nat} {w' : World} {g' : Gm} (h : Ext g nx0 w g' n1 w') (k : nx0 ≤ n2) : Ext g nx0 w g' n2 w' := ⟨⟨h.ext.le, k, h.ext.new⟩, h.kept, h.held⟩

theorem drawn_says (ok : EnvOk P ng e) (kok : KOk P ng B0 w0 e) (ih : RecSays P ng B0 w0 rec) (dok : DOk ng' nt ops.toList) (pf : PlanFacts ops.toList bm) (f : FuncId) {is : List Nat} (ht : topoOk md ops.toList is 0 = true) :
    ∀ (fuel t : Nat) (listed : Array Bool) (L : Nat) (s : St) (a : Act) (w : World) (g : Gm) (eff : Option Nat) (rest : List Stage),
      DInv B0 w0 nt nx0 ops.toList L listed s a w g → (∀ i, Pnd ops.toList L listed i → ∀ o, nthO i ops.toList = some o → Good ops.toList o e.T s.hp s.nx s.to) → StageEnd ops.toList bm L eff rest →
      listed.size = ops.toList.length → listed.toList.count false ≤ fuel → RndOk g b rn → GlobOk g ng → GlobOk g ng' →
      RegSays P B0 w0 b nt g nx0 ops (Region.linearise.go md ops fuel t listed []) a w fun cs => tailE ops.toList e rec ⟨f, nt, rn⟩ eff rest (s.at cs) := by
  intro fuel
  induction fuel with
  | zero =>
    intro t listed L s a w g eff rest D good SE hsz hcount hrn hg hg'
    have hall : ∀ i, i < ops.toList.length → Lst listed i := by
      intro i hi
      have hi' : i < listed.size := by omega
      cases hb : listed[i] with
      | true => unfold Lst; rw [Array.getElem?_eq_getElem hi', hb]
      | false =>
        exfalso
        have : false ∈ listed.toList := by rw [← hb]; simp
        have := List.count_pos_iff.2 this
        omega
    simp only [Region.linearise.go]
    exact drawn_done D SE hall _
  | succ fuel ihf =>
    intro t listed L s a w g eff rest D good SE hsz hcount hrn hg hg'
    simp only [Region.linearise.go]
    change RegSays P B0 w0 b nt g nx0 ops (match (Region.ready md ops listed)[t % (Region.ready md ops listed).length]? with
      | some i => Region.linearise.go md ops fuel (t / (Region.ready md ops listed).length) (listed.setIfInBounds i true) [i]
      | none => [].reverse) a w _
    cases hri : (Region.ready md ops listed)[t % (Region.ready md ops listed).length]? with
    | none =>
      have hnil : Region.ready md ops listed = [] := by
        cases hr : Region.ready md ops listed with
        | nil => rfl
        | cons x xs =>
          rw [hr] at hri
          have hlt : t % (x :: xs).length < (x :: xs).length := Nat.mod_lt _ (by simp)
          simp at hri
          simp at hlt
          omega
      have hall : ∀ i, i < ops.toList.length → Lst listed i := by
        rcases topo_ready (lst := Lst listed) is 0 ht (fun i h => by rw [has_zero] at h; cases h) with h | ⟨i, h1, h2, h3⟩
        · exact h
        · have := (ready_iff hsz).2 ⟨h1, h2, h3⟩
          rw [hnil] at this; cases this
      exact drawn_done D SE hall _
    | some i =>
      simp only []
      rw [linearise_go_acc, List.reverse_singleton, List.singleton_append]
      obtain ⟨hi, hnl, hed⟩ := (ready_iff hsz).1 (List.mem_of_getElem? hri)
      have hed : ∀ ed ∈ edgesAt ops.toList i, Region.binds .any ed = true → Lst listed ed.on := fun ed he hb => hed ed he (binds_any hb)
      obtain ⟨o, ho⟩ := nthO_some (all := ops.toList) hi
      have ho' : ops[i]? = some o := by rw [nthO_get] at ho; simpa using ho
      have hsz' : i < listed.size := by omega
      have hcount' : (listed.setIfInBounds i true).toList.count false ≤ fuel := by
        have hf : listed.toList[i]? = some false := by
          rw [Array.getElem?_toList]
          unfold Lst at hnl
          rw [Array.getElem?_eq_getElem hsz'] at hnl ⊢
          cases hb : listed[i] with
          | false => rfl
          | true => rw [hb] at hnl; exact absurd rfl hnl
        have := count_set _ i hf
        rw [Array.toList_setIfInBounds]
        omega
      have hρ := ready_ops D dok pf hg' ho hed
      have hG := ready_guard D dok pf ho hed
      rcases SE.ready i hi with hL | hL | hL
      · -- the left has done it
        have hp : Pnd ops.toList L listed i := ⟨hi, hL, hnl⟩
        have hcl := D.pend i hp
        obtain ⟨v', w', g', H', hv, E', hnew, st⟩ := pend_step (b := b) (nx0 := nx0) ok D.heap ho' hρ hG D.low (good i hp o ho) (fun hc d m hd hm => by
          obtain ⟨q1, q2, q3, _⟩ := D.blk i hp (by rw [clsAt_o ho]; exact hc) d m (by rw [dstAt_o ho]; exact hd) hm
          exact ⟨q1, q2, q3⟩)
        have D' := D.pendStep dok pf ho hp hsz' hed H' hv E' hnew
        refine RegSays.pre (ihf _ _ L s _ w' g' eff rest D' (fun k hk o' ho' => good k ⟨hk.1, hk.2.1, fun h => hk.2.2 ((lst_set hsz').2 (.inr h))⟩ o' ho') SE (by simpa using hsz) hcount' (hrn.mono E'.ext.le) (hg.mono E'.ext.le) (hg'.mono E'.ext.le)) (fun nx' h => E'.atNx h) st
      · -- the operation that acts
        subst hL
        obtain ⟨_, hcls, hLi, hst⟩ := SE.next i rfl
        have hcomp : compAt ops.toList i = compOp ops.toList o := by simp [compAt, ho]
        have hrun : (fun cs => tailE ops.toList e rec ⟨f, nt, rn⟩ (some i) rest (s.at cs)) = fun cs => (compOp ops.toList o).run e rec ⟨f, nt, rn⟩ s.to s.ds s.hp s.nx cs (fun st2 => evStages (stC ops.toList rest) e rec ⟨f, nt, rn⟩ st2) := by
          funext cs; simp only [tailE, hcomp]; rfl
        rw [hrun]
        have says := compOp_says (to := s.to) (i := i) (ops := ops) (rn := rn) (R := ⟨ok, kok, ih, D.heap, hg, D.ds, hrn⟩) ho' hρ hG f nt
        refine (says _).bind fun f' h => ?_
        rcases h with h | ⟨v, ds', hp', nx', h, v', dfs', w1, g1, H1, V1, D1, E1, st1⟩
        · exact .dead h
        · have D2 := D.effStep dok pf ho hLi hsz' hed H1 V1 D1 E1
          have hrun : f' = fun cs => evStages (stC ops.toList rest) e rec ⟨f, nt, rn⟩ ((⟨(dstC o.dst).run s.to v, ds', hp', nx', []⟩ : St).at cs) := funext h
          rw [hrun]
          cases rest with
          | nil => simp [stagesOk] at hst
          | cons sg rest =>
            rcases stage_inv (e := e) (rec := rec) (fm := ⟨f, nt, rn⟩) dok pf D2 hst (fun y hy => by cases hy; exact ⟨hi, (lst_set hsz').2 (.inl rfl)⟩) with q | ⟨s3, L3, D3, SE3, good3, q⟩
            · exact .dead fun cs => q cs
            · have hrun : (fun cs => evStages (stC ops.toList (sg :: rest)) e rec ⟨f, nt, rn⟩ ((⟨(dstC o.dst).run s.to v, ds', hp', nx', []⟩ : St).at cs)) = fun cs => tailE ops.toList e rec ⟨f, nt, rn⟩ sg.eff rest (s3.at cs) := funext q
              rw [hrun]
              have E1' := (E1.low D.low)
              exact RegSays.pre (ihf _ _ L3 s3 _ w1 g1 sg.eff rest D3 good3 SE3 (by simpa using hsz) hcount' (hrn.mono E1.ext.le) (hg.mono E1.ext.le) (hg'.mono E1.ext.le)) (fun nx' h => E1'.atNx h) st1
      · exfalso
        have : sub (maskAt .any ops.toList i) L = true := sub_of fun x hx => by
          obtain ⟨ed, h1, h2, rfl⟩ := maskAt_has.1 hx
          exact D.sub _ (hed ed h1 h2)
        rw [hL] at this; cases this
end
end
end Sw

/- Regions that draw their order, as a whole. -/
namespace Sw
noncomputable section
open Go Go.RowKit

section
variable {P : Program} {ng ng' : Nat} {B0 : Nat} {w0 : World} {nt : Nat} {ops : Array Oper} {s : St} {a : Act} {w : World} {g : Gm} {e : Env} {rec : Rec} {b : Frame} {rn : Option Nat}

theorem topoOk_any {all : List Oper} : ∀ (is : List Nat) (L : Nat), topoOk .text all is L = true → topoOk .any all is L = true
  | [], L, h => h
  | i :: is, L, h => by
    simp only [topoOk, Bool.and_eq_true] at h ⊢
    refine ⟨h.1, sub_of fun x hx => ?_, topoOk_any is _ h.2.2⟩
    obtain ⟨ed, h1, h2, rfl⟩ := maskAt_has.1 hx
    exact sub_has h.2.1 (maskAt_has.2 ⟨ed, h1, binds_any h2, rfl⟩)

theorem st_region_draw {id : Nat} {k : List Item} {cs : List Frame} :
    step P (lone (At b a (.code (.region id ops true) :: k)) cs w) =
      .next (lone (At b a (.inRegion ops (Region.schedule (P.follows .mixedOrders) ops (w.tape w.drawn (.order b.fn id))) :: k)) cs { w with drawn := w.drawn + 1 }) :=
  step_lone_go (by simp [stepG, stepG.exec, At, choose, Sem.run, Question.forced, Question.cut])

theorem schedule_mode (mixed : Bool) (t : Nat) : ∃ md t', Region.schedule mixed ops t = Region.linearise md ops t' ∧ (md = .any ∨ md = .text ∨ md = .gc) := by
  unfold Region.schedule
  split
  · exact ⟨_, _, rfl, .inl rfl⟩
  · split
    · exact ⟨_, _, rfl, .inr (.inl rfl)⟩
    · exact ⟨_, _, rfl, .inr (.inr rfl)⟩

theorem region_draw (ok : EnvOk P ng e) (kok : KOk P ng B0 w0 e) (ih : RecSays P ng B0 w0 rec) (hn : nt ≤ 512) (hok : ops.toList.all (operOk ng' nt) = true) (hdr : drawOk ops.toList = true) (f : FuncId) (id : Nat) (S : SRel B0 w0 g nt s a w) (hg : GlobOk g ng) (hg' : GlobOk g ng') (hrn : RndOk g b rn) :
    Says P B0 w0 b nt g s.nx (.region id ops true) a w fun cs => evStages (stC ops.toList (mkPlan ops.toList).stages) e rec ⟨f, nt, rn⟩ (s.at cs) := by
  obtain ⟨pf, t1, t2, t3⟩ := planFacts hdr
  have dok : DOk ng' nt ops.toList := ⟨hn, hok⟩
  obtain ⟨md, t', hsch, hmd⟩ := schedule_mode (ops := ops) (P.follows .mixedOrders) (w.tape w.drawn (.order b.fn id))
  have htopo : ∃ is, topoOk md ops.toList is 0 = true := by
    rcases hmd with rfl | rfl | rfl
    · exact ⟨_, topoOk_any _ _ t1⟩
    · exact ⟨_, t1⟩
    · exact ⟨_, t2⟩
  obtain ⟨is, htopo⟩ := htopo
  let w1 : World := { w with drawn := w.drawn + 1 }
  have H1 : HRel B0 w0 g s.hp.get s.nx w1 := S.heap.of_heap rfl rfl rfl rfl
  have E1 : Ext g s.nx w g s.nx w1 := ⟨GExt.refl _ _, ⟨Nat.le_refl _, fun _ _ _ => rfl⟩, Held.refl _ _⟩
  let listed : Array Bool := Array.replicate ops.size false
  have hls : listed.size = ops.toList.length := by simp [listed]
  have hnl : ∀ i, ¬ Lst listed i := fun i h => by
    unfold Lst at h
    simp only [listed, Array.getElem?_replicate] at h
    split at h <;> cases h
  have hnp : ∀ i, ¬ Pnd ops.toList 0 listed i := fun i h => by have := h.2.1; rw [has_zero] at this; cases this
  have D : DInv B0 w0 nt s.nx ops.toList 0 listed s a w1 g :=
    ⟨fun i h => absurd h (hnl i), fun i h => absurd h (hnp i), fun i h => absurd h (hnl i), H1, S.act.2, S.act.1.1, fun x hx _ => S.act.1.2 x hx, Nat.le_refl _, fun i h => absurd h (hnp i)⟩
  cases hst : (mkPlan ops.toList).stages with
  | nil => rw [hst] at t3; simp [stagesOk] at t3
  | cons sg rest =>
    rw [hst] at t3
    rcases stage_inv (e := e) (rec := rec) (fm := ⟨f, nt, rn⟩) dok pf D t3 (fun y hy => by cases hy) with q | ⟨s1, L1, D1, SE1, good1, q⟩
    · exact .dead fun cs => q cs
    · have hrun : (fun cs => evStages (stC ops.toList (sg :: rest)) e rec ⟨f, nt, rn⟩ (s.at cs)) = fun cs => tailE ops.toList e rec ⟨f, nt, rn⟩ sg.eff rest (s1.at cs) := funext q
      rw [hrun]
      have main := drawn_says (b := b) (rn := rn) (nx0 := s.nx) ok kok ih dok pf f htopo ops.size t' listed L1 s1 a w1 g sg.eff rest D1 good1 SE1 hls (by simp [listed]) hrn hg hg'
      refine main.mono fun f' h => ?_
      rcases h with h | ⟨s', h, a', w', g', S', E', st⟩
      · exact .inl h
      · refine .inr ⟨0, s', h, a', w', g', S', E1.trans0 E', fun k cs => ⟨k, rfl, ?_⟩⟩
        have s1 := Steps.one (st_region_draw (P := P) (b := b) (a := a) (w := w) (k := k) (cs := cs) (id := id) (ops := ops))
        rw [hsch] at s1
        exact (s1.trans (st k cs)).trans (.one st_regionEnd)
end
end
end Sw

/- The evaluator is right about all code. -/
namespace Sw
noncomputable section
open Go Go.RowKit

section
variable {P : Program} {ng : Nat} {B0 : Nat} {w0 : World} {e : Env}

theorem Says.dead {b : Frame} {nt : Nat} {g : Gm} {nx : Nat} {c : Code} {a : Act} {w : World} {r : List Nat → R} (h : ∀ cs, ∃ m, r cs = .need m) : Says P B0 w0 b nt g nx c a w r := Plays.dead h

/-- What follows from an answer of a part. -/
theorem Says.part {b : Frame} {nt : Nat} {g : Gm} {nx : Nat} {c c1 : Code} {a : Act} {w : World} {r r2 : List Nat → R} (h : Says P B0 w0 b nt g nx c1 a w r) (hn : ∀ p m, r p = .need m → r2 p = .need m)
    (k : ∀ pre o s', (∀ cs, r (pre ++ cs) = .ok (o, s'.at cs)) → Lands P B0 w0 b nt g nx c1 a w o s' → Says P B0 w0 b nt g nx c a w fun rest => r2 (pre ++ rest)) : Says P B0 w0 b nt g nx c a w r2 := by
  refine Plays.map h hn fun pre h => ?_
  rcases h with h | ⟨o, s', h, L⟩
  · exact .dead fun cs => by obtain ⟨m, h⟩ := h cs; exact ⟨m, hn _ _ h⟩
  · exact k pre o s' h L

theorem CodeOk.seq {g : Gm} {nt : Nat} {a b : Code} (h : CodeOk g nt (.seq a b)) : CodeOk g nt a ∧ CodeOk g nt b := by
  obtain ⟨ng, h1, h2⟩ := h
  simp only [codeOk, Bool.and_eq_true] at h2
  exact ⟨⟨ng, h1, h2.1⟩, ⟨ng, h1, h2.2⟩⟩

theorem ev_step (ok : EnvOk P ng e) (kok : KOk P ng B0 w0 e) {rec : Rec} (ih : RecSays P ng B0 w0 rec) : RecSays P ng B0 w0 (fun fm c s => evF c e rec fm s) := by
  intro fm c s b a w g hfn hrn hg hnt hok S
  obtain ⟨fn, nt, rn⟩ := fm
  simp only at hfn hrn hnt hok ⊢
  have S : SRel B0 w0 g nt s a w := S
  subst hfn
  cases c with
  | skip => exact .here (.inr ⟨0, s, fun cs => rfl, Lands.skip S⟩)
  | label l => exact .here (.inr ⟨0, s, fun cs => rfl, Lands.label S⟩)
  | exit i => exact .here (.inr ⟨i + 2, s, fun cs => rfl, Lands.exit S⟩)
  | ret => exact .here (.inr ⟨1, s, fun cs => rfl, Lands.ret S⟩)
  | seq c1 c2 =>
    obtain ⟨k1, k2⟩ := hok.seq
    have says1 := ih ⟨b.fn, nt, rn⟩ c1 s b a w g rfl hrn hg hnt k1 S
    have hrun : ∀ cs, evF (.seq c1 c2) e rec ⟨b.fn, nt, rn⟩ (s.at cs) = (match rec ⟨b.fn, nt, rn⟩ c1 (s.at cs) with
      | .ok (o, s1) => (match o with
        | 0 => rec ⟨b.fn, nt, rn⟩ c2 s1
        | o + 1 => .ok (o + 1, s1))
      | .need m => .need m) := fun cs => rfl
    refine Says.part (r2 := fun cs => evF (.seq c1 c2) e rec ⟨b.fn, nt, rn⟩ (s.at cs)) says1 (fun p m h => by simp only [hrun, h]) fun pre o s1 h L => ?_
    cases o with
    | succ o => exact .here (.inr ⟨o + 1, s1, fun cs => by simp only [hrun, h], Lands.seqLeave L⟩)
    | zero =>
      obtain ⟨a1, w1, g1, S1, E1, st1⟩ := L
      have says2 := ih ⟨b.fn, nt, rn⟩ c2 s1 b a1 w1 g1 rfl (hrn.mono E1.ext.le) (hg.mono E1.ext.le) hnt (k2.mono E1.ext.le) S1
      have h2 : (fun rest => evF (.seq c1 c2) e rec ⟨b.fn, nt, rn⟩ (s.at (pre ++ rest))) = fun cs => rec ⟨b.fn, nt, rn⟩ c2 (s1.at cs) := by funext cs; rw [hrun, h]
      rw [h2]
      refine Plays.mono says2 fun f' h => ?_
      rcases h with h | ⟨o, s2, h, a2, w2, g2, S2, E2, st2⟩
      · exact .inl h
      · refine .inr ⟨o, s2, h, a2, w2, g2, S2, E1.trans E2, fun k cs => ?_⟩
        obtain ⟨todo1, en1, t1⟩ := st1 (.code c2 :: k) cs
        have en1 : todo1 = .code c2 :: k := en1
        subst en1
        obtain ⟨todo2, en2, t2⟩ := st2 k cs
        exact ⟨todo2, en2, ((Steps.one st_seq).trans t1).trans t2⟩
  | cond x c1 c2 =>
    obtain ⟨ng', h1, h2⟩ := hok
    simp only [codeOk, Bool.and_eq_true] at h2
    have hv := opnd_rel S.act.1 h1 h2.1
    have hrun : ∀ cs, evF (.cond x c1 c2) e rec ⟨b.fn, nt, rn⟩ (s.at cs) = (match (opd x).run s.to with
      | .bool c => (match c with
        | true => rec ⟨b.fn, nt, rn⟩ c1 (s.at cs)
        | false => rec ⟨b.fn, nt, rn⟩ c2 (s.at cs))
      | _ => .need 0) := fun cs => rfl
    generalize hx : (opd x).run s.to = v at hv hrun
    cases v <;> first | (refine Says.dead ?_; intro cs; refine ⟨0, ?_⟩; rw [hrun]; done) | skip
    rename_i t
    have hx' : a.eval x = .bool t := hv.bool_inv
    cases t with
    | true =>
      have says := ih ⟨b.fn, nt, rn⟩ c1 s b a w g rfl hrn hg hnt ⟨ng', h1, h2.2.1⟩ S
      have h3 : (fun cs => evF (.cond x c1 c2) e rec ⟨b.fn, nt, rn⟩ (s.at cs)) = fun cs => rec ⟨b.fn, nt, rn⟩ c1 (s.at cs) := by funext cs; rw [hrun]
      rw [h3]
      exact Plays.mono says fun f' h => h.imp id fun ⟨o, s2, h, L⟩ => ⟨o, s2, h, Lands.cond (t := true) hx' L⟩
    | false =>
      have says := ih ⟨b.fn, nt, rn⟩ c2 s b a w g rfl hrn hg hnt ⟨ng', h1, h2.2.2⟩ S
      have h3 : (fun cs => evF (.cond x c1 c2) e rec ⟨b.fn, nt, rn⟩ (s.at cs)) = fun cs => rec ⟨b.fn, nt, rn⟩ c2 (s.at cs) := by funext cs; rw [hrun]
      rw [h3]
      exact Plays.mono says fun f' h => h.imp id fun ⟨o, s2, h, L⟩ => ⟨o, s2, h, Lands.cond (t := false) hx' L⟩
  | block id c1 =>
    have k1 : CodeOk g nt c1 := by obtain ⟨ng', h1, h2⟩ := hok; exact ⟨ng', h1, h2⟩
    have says1 := ih ⟨b.fn, nt, rn⟩ c1 s b a w g rfl hrn hg hnt k1 S
    have hrun : ∀ cs, evF (.block id c1) e rec ⟨b.fn, nt, rn⟩ (s.at cs) = (match rec ⟨b.fn, nt, rn⟩ c1 (s.at cs) with
      | .ok (o, s1) => bif Nat.beq o (id + 2) then .ok (0, s1) else .ok (o, s1)
      | .need m => .need m) := fun cs => rfl
    refine Says.part (r2 := fun cs => evF (.block id c1) e rec ⟨b.fn, nt, rn⟩ (s.at cs)) says1 (fun p m h => by simp only [hrun, h]) fun pre o s1 h L => ?_
    cases hb : Nat.beq o (id + 2) with
    | true =>
      have := beq_eq hb
      subst this
      exact .here (.inr ⟨0, s1, fun cs => by simp only [hrun, h, hb, cond_true], Lands.blockExit L⟩)
    | false =>
      have hne : o ≠ id + 2 := fun h => by rw [h, Nat.beq_refl] at hb; cases hb
      refine .here (.inr ⟨o, s1, fun cs => by simp only [hrun, h, hb, cond_false], ?_⟩)
      cases o with
      | zero => exact Lands.blockEnd L
      | succ o => exact Lands.blockLeave L hne
  | loop c1 =>
    have k1 : CodeOk g nt c1 := by obtain ⟨ng', h1, h2⟩ := hok; exact ⟨ng', h1, h2⟩
    have says1 := ih ⟨b.fn, nt, rn⟩ c1 s b a w g rfl hrn hg hnt k1 S
    have hrun : ∀ cs, evF (.loop c1) e rec ⟨b.fn, nt, rn⟩ (s.at cs) = (match rec ⟨b.fn, nt, rn⟩ c1 (s.at cs) with
      | .ok (o, s1) => (match o with
        | 0 => rec ⟨b.fn, nt, rn⟩ (.loop c1) s1
        | o + 1 => .ok (o + 1, s1))
      | .need m => .need m) := fun cs => rfl
    refine Says.part (r2 := fun cs => evF (.loop c1) e rec ⟨b.fn, nt, rn⟩ (s.at cs)) says1 (fun p m h => by simp only [hrun, h]) fun pre o s1 h L => ?_
    cases o with
    | succ o => exact .here (.inr ⟨o + 1, s1, fun cs => by simp only [hrun, h], Lands.loopLeave L⟩)
    | zero =>
      have L' := L
      obtain ⟨a1, w1, g1, S1, E1, st1⟩ := L'
      have says2 := ih ⟨b.fn, nt, rn⟩ (.loop c1) s1 b a1 w1 g1 rfl (hrn.mono E1.ext.le) (hg.mono E1.ext.le) hnt (hok.mono E1.ext.le) S1
      have h2 : (fun rest => evF (.loop c1) e rec ⟨b.fn, nt, rn⟩ (s.at (pre ++ rest))) = fun cs => rec ⟨b.fn, nt, rn⟩ (.loop c1) (s1.at cs) := by funext cs; rw [hrun, h]
      rw [h2]
      refine Plays.mono says2 fun f' h => ?_
      rcases h with h | ⟨o, s2, h, L2⟩
      · exact .inl h
      · exact .inr ⟨o, s2, h, Lands.loop1 E1 st1 L2⟩
  | scope c1 =>
    have k1 : CodeOk g nt c1 := by obtain ⟨ng', h1, h2⟩ := hok; exact ⟨ng', h1, h2⟩
    have says1 := ih ⟨b.fn, nt, rn⟩ c1 s b a w g rfl hrn hg hnt k1 S
    refine Plays.mono says1 fun f' h => h.imp id fun ⟨o, s2, h, L⟩ => ⟨o, s2, h, ?_⟩
    cases o with
    | zero => exact Lands.scopeEnd L
    | succ o => exact Lands.scopeLeave L
  | region id ops draw =>
    obtain ⟨ng', h1, h2⟩ := hok
    simp only [codeOk, Bool.and_eq_true, Bool.or_eq_true, Bool.not_eq_true'] at h2
    cases draw with
    | false => exact region_text ok kok ih hnt h2.1 b.fn id S hg h1 hrn
    | true =>
      have hd : drawOk ops.toList = true := by
        rcases h2.2 with h | h
        · cases h
        · exact h
      exact region_draw ok kok ih hnt h2.1 hd b.fn id S hg h1 hrn
  | rangeFunc f ps asg body => exact range_says ok kok ih hnt hok S hg hrn
  | _ => exact Says.dead fun cs => ⟨0, rfl⟩
end
end
end Sw

/- From a run of the evaluator to a call of the machine. -/
namespace Sw
noncomputable section
open Go Go.RowKit

theorem ev_says {P : Program} {ng B0 : Nat} {w0 : World} {e : Env} (ok : EnvOk P ng e) (kok : KOk P ng B0 w0 e) : ∀ n, RecSays P ng B0 w0 (ev e n)
  | 0 => fun fm c s b a w g _ _ _ _ _ _ => Says.dead fun cs => ⟨0, rfl⟩
  | n + 1 => ev_step ok kok (ev_says ok kok n)

/-- All choices are tried. -/
def allBelow (p : Nat → Bool) : Nat → Bool
  | 0 => true
  | n + 1 => p n && allBelow p n
theorem allBelow_of {p : Nat → Bool} : ∀ {n : Nat}, allBelow p n = true → ∀ c, c < n → p c = true
  | 0, _, c, hc => by omega
  | n + 1, h, c, hc => by
    simp only [allBelow, Bool.and_eq_true] at h
    by_cases e : c = n
    · subst e; exact h.1
    · exact allBelow_of h.2 c (by omega)
def explore (r : List Nat → R) : Nat → List Nat → Bool
  | 0, _ => false
  | n + 1, p => match r p with
    | .ok _ => true
    | .need m => (match m with
      | 0 => false
      | m + 1 => allBelow (fun c => explore r n (p ++ [c])) (m + 1))

theorem explore_sound {r : List Nat → R} : ∀ (n : Nat) (p q : List Nat), explore r n p = true → (∀ p' c q', q = p' ++ c :: q' → ∃ m, r (p ++ p') = .need m ∧ c < m) → ∃ rest x, r (p ++ q ++ rest) = .ok x
  | 0, _, _, h, _ => by cases h
  | n + 1, p, q, h, hq => by
    unfold explore at h
    cases q with
    | nil =>
      split at h
      · rename_i x hx; exact ⟨[], x, by simpa using hx⟩
      · rename_i m hm
        cases m with
        | zero => cases h
        | succ m =>
          have := allBelow_of h 0 (by omega)
          obtain ⟨rest, x, hx⟩ := explore_sound n (p ++ [0]) [] this (fun p' c q' e => by cases p' <;> cases e)
          exact ⟨0 :: rest, x, by simpa using hx⟩
    | cons c q =>
      obtain ⟨m, hm, hc⟩ := hq [] c q rfl
      rw [List.append_nil] at hm
      rw [hm] at h
      cases m with
      | zero => omega
      | succ m =>
        have := allBelow_of h c hc
        obtain ⟨rest, x, hx⟩ := explore_sound n (p ++ [c]) q this (fun p' c' q' e => by
          obtain ⟨m', h1, h2⟩ := hq (c :: p') c' q' (by rw [e]; rfl)
          exact ⟨m', by rw [List.append_assoc]; exact h1, h2⟩)
        exact ⟨rest, x, by rw [← hx]; simp⟩

theorem Plays.explored {r : List Nat → R} {good : (List Nat → R) → Prop} (h : Plays r good) {n : Nat} (hx : explore r n [] = true) : ∃ f', good f' ∧ ∃ rest x, f' rest = .ok x := by
  obtain ⟨pre, h1, h2⟩ := h
  obtain ⟨rest, x, hr⟩ := explore_sound n [] pre hx (fun p c q e => by obtain ⟨m, a, b⟩ := h1 p c q e; exact ⟨m, by simpa using a, b⟩)
  exact ⟨_, h2, rest, x, by simpa using hr⟩

/-- The end of a run that has to answer true. -/
def kTrue : KC := fun v h nx cs => match v with
  | .bool b => (match b with
    | true => .ok (0, ⟨Tm.undef, [], h, nx, cs⟩)
    | false => .need 0)
  | _ => .need 0

section
variable {P : Program} {ng : Nat} {e : Env} {B0 : Nat} {w0 : World} {g : Gm} {nx : Nat} {w : World} {hp : Ht}

theorem CallLands.calls {f : FuncId} {args : Array Value} {v : Value} {hp' : Ht} {nx' : Nat} (h : CallLands P B0 w0 .normal g nx f args w v hp' nx') :
    Calls P f args w fun en w' => ∃ v' g', en = .returned v' ∧ HRel B0 w0 g' hp'.get nx' w' ∧ VRel g' v v' ∧ Ext g nx w g' nx' w' := by
  obtain ⟨v', w', g', H, V, E, st⟩ := h
  intro cs
  obtain ⟨fr, s1, m1, d1, k1, f1, fn, q1, r1⟩ := st cs
  exact ⟨.returned v', w', fr, ⟨v', g', rfl, H, V, E⟩, s1, f1, m1, d1, k1, fn, q1, r1⟩

theorem calls_true (ok : EnvOk P ng e) (kok : KOk P ng B0 w0 e) (H : HRel B0 w0 g hp.get nx w) (hg : GlobOk g ng) {f : FuncId} {l : List Value} {args : Array Value} (hl : LRel g l args.toList) (n fuel : Nat)
    (hx : explore (fun cs => enterF e (ev e n) f l hp nx cs kTrue) fuel [] = true) : Calls P f args w fun en w' => en = .returned (.bool true) ∧ Below B0 w0 w' := by
  obtain ⟨f', hf, rest, x, hr⟩ := Plays.explored (enterF_says ok kok (ev_says ok kok n) H hg hl kTrue) hx
  rcases hf with hf | ⟨v, hp', nx', hf, L⟩
  · obtain ⟨m, hf⟩ := hf rest; rw [hr] at hf; cases hf
  · have hv : v = .bool true := by
      have := hf rest
      rw [hr] at this
      unfold kTrue at this
      split at this
      · split at this
        · rfl
        · cases this
      · cases this
    subst hv
    refine L.calls.mono fun en w' h => ?_
    obtain ⟨v', g', rfl, H', V', E'⟩ := h
    rw [V'.bool_inv]
    exact ⟨rfl, H'.below⟩
end
end
end Sw

/- Templates: what a call reads and what it answers, as trees of blocks. -/
namespace Sw
noncomputable section
open Go Go.RowKit

/-- A block of a template: its number (even), its cells, whether capacities are open, the cells of an element. -/
structure TB where
  num : Nat
  cs : List Value
  grp : Bool
  unit : Nat

abbrev Assoc := List (Nat × Nat)
def look (b : Nat) : Assoc → Option Nat
  | [] => none
  | (x, y) :: A => bif Nat.beq b x then some y else look b A
def pairB (bt b : Nat) (A : Assoc) : Option Assoc := match look bt A with
  | some b' => bif Nat.beq b b' then some A else none
  | none => some ((bt, b) :: A)
def mtL (f : Assoc → Value → Value → Option Assoc) : List Value → List Value → Assoc → Option Assoc
  | [], [], A => some A
  | v :: vs, t :: ts, A => (match f A v t with
    | some A1 => mtL f vs ts A1
    | none => none)
  | _, _, _ => none
/-- A value against a template's value. -/
def mtV : Nat → Assoc → Value → Value → Option Assoc
  | _, A, .bool a, .bool b => bif (bif a then b else !b) then some A else none
  | _, A, .int k a, .int k' b => bif sameK k k' && eqI a b then some A else none
  | _, A, .string a, .string b => bif eqB (strs a) (strs b) then some A else none
  | _, A, .pointer none, .pointer none => some A
  | _, A, .pointer (some ⟨b, o, none⟩), .pointer (some ⟨b', o', none⟩) => bif Nat.beq o o' then pairB b' b A else none
  | _, A, .slice none 0 0, .slice none 0 0 => some A
  | _, A, .slice (some ⟨b, o, none⟩) l c, .slice (some ⟨b', o', none⟩) l' c' => bif Nat.beq o o' && (Nat.beq l l' && Nat.beq c c') then pairB b' b A else none
  | _, A, .map none, .map none => some A
  | _, A, .nilFunc, .nilFunc => some A
  | _, A, .nilIface, .nilIface => some A
  | n + 1, A, .func (.func f) x y, .func (.func f') x' y' => bif Nat.beq f f' then (match mtL (mtV n) x.toList x'.toList A with
    | some A1 => mtL (mtV n) y.toList y'.toList A1
    | none => none) else none
  | n + 1, A, .iface t v, .iface t' v' => bif Nat.beq t t' then mtV n A v v' else none
  | n + 1, A, .agg x, .agg y => mtL (mtV n) x.toList y.toList A
  | n + 1, A, .tuple x, .tuple y => mtL (mtV n) x.toList y.toList A
  | _, _, _, _ => none
def grpOk (m : CMeta) (tb : TB) : Bool := match m.grp with
  | none => !tb.grp
  | some _ => tb.grp && Nat.beq m.unit tb.unit
/-- The blocks of a template, in order. -/
def mtB (hp : Ht) (fresh : Bool) : List TB → Assoc → Option Assoc
  | [], A => some A
  | tb :: tbs, A => match look tb.num A with
    | some b => (match hp.get b with
      | some (.cells cs m) => bif grpOk m tb && (!fresh || !m.ro) then (match mtL (mtV 8) cs tb.cs A with
        | some A1 => mtB hp fresh tbs A1
        | none => none) else none
      | _ => none)
    | none => none
def tbMeta (tb : TB) : CMeta := ⟨true, bif tb.grp then some (tb.num + 1) else none, 0, tb.unit⟩
/-- A block of a template is laid, moved by d. -/
def layB (d : Nat) (tb : TB) (cs : List Value) (h : Ht) : Ht :=
  bif tb.grp then (h.set (d + tb.num + 1) (some (.group [⟨d + tb.num, 0, cs.length⟩]))).set (d + tb.num) (some (.cells cs ⟨true, some (d + tb.num + 1), 0, tb.unit⟩))
  else h.set (d + tb.num) (some (.cells cs ⟨true, none, 0, tb.unit⟩))
def lay0 : List TB → Ht → Ht
  | [], h => h
  | tb :: tbs, h => lay0 tbs (layB 0 tb tb.cs h)
/-- Numbers go up, from lo on, below hi; behind a block with open capacities a number is left for its group. -/
def numsOk : Nat → Nat → List TB → Bool
  | lo, hi, [] => Nat.ble lo hi
  | lo, hi, tb :: tbs => Nat.ble lo tb.num && numsOk (tb.num + (bif tb.grp then 2 else 1)) hi tbs
/-- The groups' numbers are no blocks. -/
def grpFree (A : Assoc) : List TB → Bool
  | [] => true
  | tb :: tbs => (!tb.grp || (match look (tb.num + 1) A with | none => true | some _ => false)) && grpFree A tbs

/-- A value moved by d. -/
def shL (f : Value → Option Value) : List Value → Option (List Value)
  | [] => some []
  | v :: vs => (match f v, shL f vs with
    | some u, some us => some (u :: us)
    | _, _ => none)
def shV (d : Nat) : Nat → Value → Option Value
  | _, .bool a => some (.bool a)
  | _, .int k a => some (.int k a)
  | _, .string a => some (.string a)
  | _, .pointer none => some (.pointer none)
  | _, .pointer (some ⟨b, o, none⟩) => some (.pointer (some ⟨d + b, o, none⟩))
  | _, .slice none 0 0 => some (.slice none 0 0)
  | _, .slice (some ⟨b, o, none⟩) l c => some (.slice (some ⟨d + b, o, none⟩) l c)
  | _, .map none => some (.map none)
  | _, .nilFunc => some .nilFunc
  | _, .nilIface => some .nilIface
  | n + 1, .agg x => (shL (shV d n) x.toList).map fun l => .agg l.toArray
  | n + 1, .tuple x => (shL (shV d n) x.toList).map fun l => .tuple l.toArray
  | n + 1, .iface t v => (shV d n v).map fun v => .iface t v
  | _, _ => none
def layR (d : Nat) : List TB → Ht → Option Ht
  | [], h => some h
  | tb :: tbs, h => (match shL (shV d 8) tb.cs with
    | some cs => layR d tbs (layB d tb cs h)
    | none => none)

structure Tmpl where
  args : List Value
  blocks : List TB
  nx : Nat
  res : Value
  rblocks : List TB
  rnx : Nat
def keysLt (n : Nat) : Assoc → Bool
  | [] => true
  | (b, _) :: A => Nat.blt b n && keysLt n A
def idA (ng : Nat) : Assoc := (List.range ng).map fun i => (i, i)
/-- A call against a template: what it answers. -/
def useT (ng : Nat) (tm : Tmpl) (l : List Value) (hp : Ht) (nx : Nat) : Option (Value × Ht × Nat) :=
  match mtL (mtV 8) l tm.args (idA ng) with
  | some A => (match mtB hp false tm.blocks A with
    | some A1 => bif grpFree A1 tm.blocks && keysLt tm.nx A1 then (match shV nx 8 tm.res, layR nx tm.rblocks hp with
      | some v, some h => some (v, h, nx + tm.rnx)
      | _, _ => none) else none
    | none => none)
  | none => none
def useTs (ng : Nat) : List Tmpl → List Value → Ht → Nat → Option (Value × Ht × Nat)
  | [], _, _, _ => none
  | tm :: tms, l, hp, nx => match useT ng tm l hp nx with
    | some r => some r
    | none => useTs ng tms l hp nx
/-- The contract that templates give. -/
def kOfT (ng : Nat) (tms : List Tmpl) : KRun := ⟨fun l hp nx cs k fb => match useTs ng tms l hp nx with
  | some (v, h, n) => k v h n cs
  | none => fb⟩
def keysIn : Assoc → List TB → Bool
  | [], _ => true
  | (b, _) :: A, tbs => tbs.any (fun tb => Nat.beq tb.num b) && keysIn A tbs
/-- The end of a template's own run. -/
def kRes (tm : Tmpl) : KC := fun v h nx cs => match mtV 8 [] v tm.res with
  | some A => (match mtB h true tm.rblocks A with
    | some A1 => bif keysIn A1 tm.rblocks && grpFree A1 tm.rblocks then .ok (0, ⟨Tm.undef, [], h, nx, cs⟩) else .need 0
    | none => .need 0)
  | none => .need 0
def tmOk (ng : Nat) (tm : Tmpl) : Bool := Nat.ble ng tm.nx && (numsOk 0 tm.nx tm.blocks && numsOk 0 tm.rnx tm.rblocks)
/-- A template holds. -/
def holdsT (ng : Nat) (e : Env) (f : FuncId) (n fuel : Nat) (tm : Tmpl) : Bool :=
  tmOk ng tm && explore (fun cs => enterF e (ev e n) f tm.args (lay0 tm.blocks .nil) tm.nx cs (kRes tm)) fuel []
end
end Sw

/- Templates: what a match says. -/
namespace Sw
noncomputable section
open Go Go.RowKit

def AExt (A A' : Assoc) : Prop := ∀ b x, look b A = some x → look b A' = some x
theorem AExt.refl (A : Assoc) : AExt A A := fun _ _ h => h
theorem AExt.trans {A B C : Assoc} (h : AExt A B) (k : AExt B C) : AExt A C := fun b x e => k b x (h b x e)

theorem pairB_ext {bt b : Nat} {A A' : Assoc} (h : pairB bt b A = some A') : AExt A A' ∧ look bt A' = some b := by
  unfold pairB at h
  split at h
  · rename_i b' hb
    cases hq : Nat.beq b b' with
    | false => rw [hq] at h; cases h
    | true =>
      rw [hq] at h; cases h
      exact ⟨AExt.refl _, by rw [hb, beq_eq hq]⟩
  · rename_i hb
    cases h
    refine ⟨fun x y e => ?_, by simp [look, Nat.beq_refl]⟩
    have : Nat.beq x bt = false := by
      cases hq : Nat.beq x bt with
      | false => rfl
      | true => rw [beq_eq hq, hb] at e; cases e
    simp only [look, this, cond_false]; exact e

/-- Blocks of a template's map lie where the matched blocks lie. -/
def Via (gc g : Gm) (A : Assoc) : Prop := ∀ bt b, look bt A = some b → gc.blk bt = g.blk b ∧ gc.room bt = g.room b
theorem Via.sub {gc g : Gm} {A A' : Assoc} (h : Via gc g A') (k : AExt A A') : Via gc g A := fun bt b e => h bt b (k bt b e)

/-- What a match of two values says. -/
def MtOk (f : Assoc → Value → Value → Option Assoc) : Prop := ∀ A v t A', f A v t = some A' → AExt A A' ∧ ∀ gc g v', Via gc g A' → VRel g v v' → VRel gc t v'

theorem mtL_ok {f : Assoc → Value → Value → Option Assoc} (hf : MtOk f) : ∀ (vs ts : List Value) (A A' : Assoc), mtL f vs ts A = some A' → AExt A A' ∧ ∀ gc g vs', Via gc g A' → LRel g vs vs' → LRel gc ts vs'
  | [], [], A, A', h => by
    cases h
    exact ⟨AExt.refl _, fun gc g vs' _ hl => by
      have := hl.1
      cases vs' with
      | nil => exact LRel.nil gc
      | cons => cases this⟩
  | v :: vs, t :: ts, A, A', h => by
    simp only [mtL] at h
    split at h
    · rename_i A1 h1
      obtain ⟨e1, r1⟩ := hf _ _ _ _ h1
      obtain ⟨e2, r2⟩ := mtL_ok hf vs ts A1 A' h
      refine ⟨e1.trans e2, fun gc g vs' hv hl => ?_⟩
      cases vs' with
      | nil => cases hl.1
      | cons v' vs' => exact LRel.cons (r1 gc g v' (hv.sub e2) hl.head) (r2 gc g vs' hv hl.tail)
    · cases h
  | [], _ :: _, _, _, h => by cases h
  | _ :: _, [], _, _, h => by cases h

theorem mtV_ok : ∀ n, MtOk (mtV n) := by
  intro n
  induction n with
  | zero =>
    intro A v t A' h
    unfold mtV at h
    split at h <;> first | (cases h; done) | skip
    · rename_i a b
      cases a <;> cases b <;> first | (cases h; done) | (cases h; exact ⟨AExt.refl _, fun gc g v' _ r => by rw [r.bool_inv]; exact .bool _⟩)
    · rename_i k a k' b
      cases hq : (sameK k k' && eqI a b) with
      | false => rw [hq] at h; cases h
      | true =>
        rw [hq] at h; cases h
        rw [Bool.and_eq_true] at hq
        cases sameK_iff hq.1; cases eqI_iff.1 hq.2
        exact ⟨AExt.refl _, fun gc g v' _ r => by rw [r.int_inv]; exact .int _ _⟩
    · rename_i a b
      cases hq : eqB (strs a) (strs b) with
      | false => rw [hq] at h; cases h
      | true =>
        rw [hq] at h; cases h
        rw [eqB_eq] at hq
        cases strs_inj (a := a) (b := b) (by simpa using hq)
        exact ⟨AExt.refl _, fun gc g v' _ r => by rw [r.string_inv]; exact .string _⟩
    · cases h; exact ⟨AExt.refl _, fun gc g v' _ r => by rw [r.nilPtr_inv]; exact .nilPtr⟩
    · rename_i b o b' o'
      cases hq : Nat.beq o o' with
      | false => rw [hq] at h; cases h
      | true =>
        rw [hq] at h
        cases beq_eq hq
        obtain ⟨e1, e2⟩ := pairB_ext h
        refine ⟨e1, fun gc g v' hv r => ?_⟩
        obtain ⟨_, rb, ro, hg, rfl⟩ := r.ptr_inv
        exact .ptr ((hv _ _ e2).1.trans hg)
    · cases h; exact ⟨AExt.refl _, fun gc g v' _ r => by obtain ⟨_, _, rfl⟩ := r.nilSlice_inv; exact .nilSlice⟩
    · rename_i b o l c b' o' l' c'
      cases hq : (Nat.beq o o' && (Nat.beq l l' && Nat.beq c c')) with
      | false => rw [hq] at h; cases h
      | true =>
        rw [hq] at h
        rw [Bool.and_eq_true, Bool.and_eq_true] at hq
        cases beq_eq hq.1; cases beq_eq hq.2.1; cases beq_eq hq.2.2
        obtain ⟨e1, e2⟩ := pairB_ext h
        refine ⟨e1, fun gc g v' hv r => ?_⟩
        rcases r.slice_inv with ⟨a2, rfl, rfl, rfl⟩ | ⟨_, rb, ro, c2, hg, hl, hc, rfl⟩
        · exact .emptySlice _ _
        · obtain ⟨q1, q2⟩ := hv _ _ e2
          refine .slice (q1.trans hg) hl ?_
          rcases hc with hc | ⟨hc, rs, u, hr, hf⟩
          · exact .inl hc
          · exact .inr ⟨hc, rs, u, q2.trans hr, hf⟩
    · cases h; exact ⟨AExt.refl _, fun gc g v' _ r => by rw [r.nilMap_inv]; exact .nilMap⟩
    · cases h; exact ⟨AExt.refl _, fun gc g v' _ r => by rw [r.nilFunc_inv]; exact .nilFunc⟩
    · cases h; exact ⟨AExt.refl _, fun gc g v' _ r => by rw [r.nilIface_inv]; exact .nilIface⟩
    all_goals (rename_i h0; exact absurd h0 (by simp))
  | succ n ih =>
    intro A v t A' h
    unfold mtV at h
    split at h <;> first | (cases h; done) | skip
    · rename_i a b
      cases a <;> cases b <;> first | (cases h; done) | (cases h; exact ⟨AExt.refl _, fun gc g v' _ r => by rw [r.bool_inv]; exact .bool _⟩)
    · rename_i k a k' b
      cases hq : (sameK k k' && eqI a b) with
      | false => rw [hq] at h; cases h
      | true =>
        rw [hq] at h; cases h
        rw [Bool.and_eq_true] at hq
        cases sameK_iff hq.1; cases eqI_iff.1 hq.2
        exact ⟨AExt.refl _, fun gc g v' _ r => by rw [r.int_inv]; exact .int _ _⟩
    · rename_i a b
      cases hq : eqB (strs a) (strs b) with
      | false => rw [hq] at h; cases h
      | true =>
        rw [hq] at h; cases h
        rw [eqB_eq] at hq
        cases strs_inj (a := a) (b := b) (by simpa using hq)
        exact ⟨AExt.refl _, fun gc g v' _ r => by rw [r.string_inv]; exact .string _⟩
    · cases h; exact ⟨AExt.refl _, fun gc g v' _ r => by rw [r.nilPtr_inv]; exact .nilPtr⟩
    · rename_i b o b' o'
      cases hq : Nat.beq o o' with
      | false => rw [hq] at h; cases h
      | true =>
        rw [hq] at h
        cases beq_eq hq
        obtain ⟨e1, e2⟩ := pairB_ext h
        refine ⟨e1, fun gc g v' hv r => ?_⟩
        obtain ⟨_, rb, ro, hg, rfl⟩ := r.ptr_inv
        exact .ptr ((hv _ _ e2).1.trans hg)
    · cases h; exact ⟨AExt.refl _, fun gc g v' _ r => by obtain ⟨_, _, rfl⟩ := r.nilSlice_inv; exact .nilSlice⟩
    · rename_i b o l c b' o' l' c'
      cases hq : (Nat.beq o o' && (Nat.beq l l' && Nat.beq c c')) with
      | false => rw [hq] at h; cases h
      | true =>
        rw [hq] at h
        rw [Bool.and_eq_true, Bool.and_eq_true] at hq
        cases beq_eq hq.1; cases beq_eq hq.2.1; cases beq_eq hq.2.2
        obtain ⟨e1, e2⟩ := pairB_ext h
        refine ⟨e1, fun gc g v' hv r => ?_⟩
        rcases r.slice_inv with ⟨a2, rfl, rfl, rfl⟩ | ⟨_, rb, ro, c2, hg, hl, hc, rfl⟩
        · exact .emptySlice _ _
        · obtain ⟨q1, q2⟩ := hv _ _ e2
          refine .slice (q1.trans hg) hl ?_
          rcases hc with hc | ⟨hc, rs, u, hr, hf⟩
          · exact .inl hc
          · exact .inr ⟨hc, rs, u, q2.trans hr, hf⟩
    · cases h; exact ⟨AExt.refl _, fun gc g v' _ r => by rw [r.nilMap_inv]; exact .nilMap⟩
    · cases h; exact ⟨AExt.refl _, fun gc g v' _ r => by rw [r.nilFunc_inv]; exact .nilFunc⟩
    · cases h; exact ⟨AExt.refl _, fun gc g v' _ r => by rw [r.nilIface_inv]; exact .nilIface⟩
    · rename_i m f x y f' x' y' hm
      cases hm
      cases hq : Nat.beq f f' with
      | false => rw [hq] at h; cases h
      | true =>
        rw [hq] at h
        cases beq_eq hq
        simp only [cond_true] at h
        split at h
        · rename_i A1 h1
          obtain ⟨e1, r1⟩ := mtL_ok ih _ _ _ _ h1
          obtain ⟨e2, r2⟩ := mtL_ok ih _ _ _ _ h
          refine ⟨e1.trans e2, fun gc g v' hv r => ?_⟩
          obtain ⟨x2, y2, rfl, hx, hy⟩ := r.func_inv
          have k1 := (r1 gc g x2.toList (hv.sub e2) hx.toList).toArray
          have k2 := (r2 gc g y2.toList hv hy.toList).toArray
          exact .func k1.1 k2.1 k1.2 k2.2
        · cases h
    · rename_i m t0 v0 t1 v1 hm
      cases hm
      cases hq : Nat.beq t0 t1 with
      | false => rw [hq] at h; cases h
      | true =>
        rw [hq] at h
        cases beq_eq hq
        obtain ⟨e1, r1⟩ := ih _ _ _ _ h
        refine ⟨e1, fun gc g v' hv r => ?_⟩
        obtain ⟨x2, rfl, hx⟩ := r.iface_inv
        exact .iface (r1 gc g x2 hv hx)
    · rename_i m x y hm
      cases hm
      obtain ⟨e1, r1⟩ := mtL_ok ih _ _ _ _ h
      refine ⟨e1, fun gc g v' hv r => ?_⟩
      obtain ⟨x2, rfl, hx⟩ := r.agg_inv
      have k1 := (r1 gc g x2.toList hv hx.toList).toArray
      exact .agg k1.1 k1.2
    · rename_i m x y hm
      cases hm
      obtain ⟨e1, r1⟩ := mtL_ok ih _ _ _ _ h
      refine ⟨e1, fun gc g v' hv r => ?_⟩
      obtain ⟨x2, rfl, hx⟩ := r.tuple_inv
      have k1 := (r1 gc g x2.toList hv hx.toList).toArray
      exact .tuple k1.1 k1.2

/-- What a match of the blocks says. -/
theorem mtB_ok {hp : Ht} {fresh : Bool} : ∀ (tbs : List TB) (A A' : Assoc), mtB hp fresh tbs A = some A' → AExt A A' ∧ ∀ tb ∈ tbs, ∃ b cs m, look tb.num A' = some b ∧ hp.get b = some (.cells cs m) ∧ grpOk m tb = true ∧ (fresh = true → m.ro = false) ∧
    ∀ gc g cs', Via gc g A' → LRel g cs cs' → LRel gc tb.cs cs'
  | [], A, A', h => by cases h; exact ⟨AExt.refl _, fun tb h => by cases h⟩
  | tb :: tbs, A, A', h => by
    simp only [mtB] at h
    split at h
    · rename_i b hb
      split at h
      · rename_i cs m hc
        cases hq : (grpOk m tb && (!fresh || !m.ro)) with
        | false => rw [hq] at h; cases h
        | true =>
          rw [hq] at h
          simp only [cond_true] at h
          split at h
          · rename_i A1 h1
            obtain ⟨e1, r1⟩ := mtL_ok (mtV_ok 8) _ _ _ _ h1
            obtain ⟨e2, r2⟩ := mtB_ok tbs A1 A' h
            rw [Bool.and_eq_true] at hq
            refine ⟨e1.trans e2, fun tb' htb => ?_⟩
            rcases List.mem_cons.1 htb with rfl | htb
            · refine ⟨b, cs, m, e2 _ _ (e1 _ _ hb), hc, hq.1, fun hf => by have := hq.2; rw [hf] at this; simpa using this, fun gc g cs' hv hl => r1 gc g cs' (hv.sub e2) hl⟩
            · exact r2 tb' htb
          · cases h
      · cases h
    · cases h
end
end Sw

/- Templates: values moved, read-only blocks laid. -/
namespace Sw
noncomputable section
open Go Go.RowKit

def Moved (d : Nat) (gr gf : Gm) : Prop := ∀ b, gr.blk b ≠ none → gf.blk (d + b) = gr.blk b ∧ gf.room (d + b) = gr.room b
def ShOk (d : Nat) (f : Value → Option Value) : Prop := ∀ v u, f v = some u → ∀ gr gf v', Moved d gr gf → VRel gr v v' → VRel gf u v'
theorem shL_ok {d : Nat} {f : Value → Option Value} (hf : ShOk d f) : ∀ (vs us : List Value), shL f vs = some us → ∀ gr gf vs', Moved d gr gf → LRel gr vs vs' → LRel gf us vs'
  | [], us, h, gr, gf, vs', _, hl => by
    cases h
    have := hl.1
    cases vs' with
    | nil => exact LRel.nil gf
    | cons => cases this
  | v :: vs, us, h, gr, gf, vs', hm, hl => by
    simp only [shL] at h
    split at h
    · rename_i u us h1 h2
      cases h
      cases vs' with
      | nil => cases hl.1
      | cons v' vs' => exact LRel.cons (hf v u h1 gr gf v' hm hl.head) (shL_ok hf vs us h2 gr gf vs' hm hl.tail)
    · cases h
theorem shV_ok (d : Nat) : ∀ n, ShOk d (shV d n) := by
  intro n
  induction n with
  | zero =>
    intro v u h gr gf v' hm r
    unfold shV at h
    split at h <;> first | (cases h; done) | skip
    · cases h; rw [r.bool_inv]; exact .bool _
    · cases h; rw [r.int_inv]; exact .int _ _
    · cases h; rw [r.string_inv]; exact .string _
    · cases h; rw [r.nilPtr_inv]; exact .nilPtr
    · cases h
      obtain ⟨_, rb, ro, hg, rfl⟩ := r.ptr_inv
      exact .ptr ((hm _ (by rw [hg]; simp)).1.trans hg)
    · cases h; obtain ⟨_, _, rfl⟩ := r.nilSlice_inv; exact .nilSlice
    · cases h
      rcases r.slice_inv with ⟨a2, rfl, rfl, rfl⟩ | ⟨_, rb, ro, c2, hg, hl, hc, rfl⟩
      · exact .emptySlice _ _
      · obtain ⟨q1, q2⟩ := hm _ (by rw [hg]; simp)
        refine .slice (q1.trans hg) hl ?_
        rcases hc with hc | ⟨hc, rs, u, hr, hf⟩
        · exact .inl hc
        · exact .inr ⟨hc, rs, u, q2.trans hr, hf⟩
    · cases h; rw [r.nilMap_inv]; exact .nilMap
    · cases h; rw [r.nilFunc_inv]; exact .nilFunc
    · cases h; rw [r.nilIface_inv]; exact .nilIface
    all_goals (rename_i h0; exact absurd h0 (by simp))
  | succ n ih =>
    intro v u h gr gf v' hm r
    unfold shV at h
    split at h <;> first | (cases h; done) | skip
    · cases h; rw [r.bool_inv]; exact .bool _
    · cases h; rw [r.int_inv]; exact .int _ _
    · cases h; rw [r.string_inv]; exact .string _
    · cases h; rw [r.nilPtr_inv]; exact .nilPtr
    · cases h
      obtain ⟨_, rb, ro, hg, rfl⟩ := r.ptr_inv
      exact .ptr ((hm _ (by rw [hg]; simp)).1.trans hg)
    · cases h; obtain ⟨_, _, rfl⟩ := r.nilSlice_inv; exact .nilSlice
    · cases h
      rcases r.slice_inv with ⟨a2, rfl, rfl, rfl⟩ | ⟨_, rb, ro, c2, hg, hl, hc, rfl⟩
      · exact .emptySlice _ _
      · obtain ⟨q1, q2⟩ := hm _ (by rw [hg]; simp)
        refine .slice (q1.trans hg) hl ?_
        rcases hc with hc | ⟨hc, rs, u, hr, hf⟩
        · exact .inl hc
        · exact .inr ⟨hc, rs, u, q2.trans hr, hf⟩
    · cases h; rw [r.nilMap_inv]; exact .nilMap
    · cases h; rw [r.nilFunc_inv]; exact .nilFunc
    · cases h; rw [r.nilIface_inv]; exact .nilIface
    · rename_i m x hn
      cases hn
      obtain ⟨l, h1, rfl⟩ := Option.map_eq_some_iff.1 h
      obtain ⟨x2, rfl, hx⟩ := r.agg_inv
      have k1 := (shL_ok ih _ _ h1 gr gf x2.toList hm hx.toList).toArray
      exact .agg k1.1 k1.2
    · rename_i m x hn
      cases hn
      obtain ⟨l, h1, rfl⟩ := Option.map_eq_some_iff.1 h
      obtain ⟨x2, rfl, hx⟩ := r.tuple_inv
      have k1 := (shL_ok ih _ _ h1 gr gf x2.toList hm hx.toList).toArray
      exact .tuple k1.1 k1.2
    · rename_i m t v0 hn
      cases hn
      obtain ⟨u0, h1, rfl⟩ := Option.map_eq_some_iff.1 h
      obtain ⟨x2, rfl, hx⟩ := r.iface_inv
      exact .iface (ih _ _ h1 gr gf x2 hm hx)

section
variable {B0 : Nat} {w0 : World} {g : Gm} {hp : Hp} {nx : Nat} {w : World}

/-- A read-only left block over a right block that is there. -/
theorem HRel.addRo (H : HRel B0 w0 g hp nx w) {n : Nat} (hf : hp n = none) (hn : n < nx) {cs : List Value} {u : Nat}
    (hobj : ∀ rb ro, g.blk n = some (rb, ro) → (∃ robj, w.heap[rb]? = some robj ∧ ObjRel B0 g n (.cells cs ⟨true, none, 0, u⟩) rb ro robj) ∧ ∀ b o r1, hp b = some o → g.blk b = some (rb, r1) → ∃ cs m, o = .cells cs m ∧ m.ro = true) :
    HRel B0 w0 g (hp.set n (some (.cells cs ⟨true, none, 0, u⟩))) nx w := by
  refine ⟨H.below, H.base, H.dom, fun b o e => ?_, fun b ms e => ?_, fun b cs1 m gr e k => ?_, fun b1 b2 o1 o2 r r1 r2 hne e1 e2 k1 k2 => ?_, H.room⟩
  · by_cases hbn : b = n
    · subst hbn
      rw [Hp.set_same] at e; cases e
      exact ⟨hn, fun r1 r2 k => (hobj r1 r2 k).1⟩
    · rw [Hp.set_other _ _ hbn] at e; exact H.live b o e
  · by_cases hbn : b = n
    · subst hbn; rw [Hp.set_same] at e; cases e
    · rw [Hp.set_other _ _ hbn] at e; exact H.grpfree b ms e
  · by_cases hbn : b = n
    · subst hbn; rw [Hp.set_same] at e; cases e; cases k
    · rw [Hp.set_other _ _ hbn] at e
      obtain ⟨ms, a1, a2⟩ := H.mem b cs1 m gr e k
      refine ⟨ms, ?_, a2⟩
      rw [Hp.set_other _ _ (by rintro rfl; rw [hf] at a1; cases a1)]
      exact a1
  · by_cases h1 : b1 = n
    · subst h1
      rw [Hp.set_same] at e1; cases e1
      rw [Hp.set_other _ _ (Ne.symm hne)] at e2
      obtain ⟨cs2, m2, rfl, hr⟩ := (hobj _ _ k1).2 b2 o2 r2 e2 k2
      exact .inl ⟨rfl, hr⟩
    · by_cases h2 : b2 = n
      · subst h2
        rw [Hp.set_same] at e2; cases e2
        rw [Hp.set_other _ _ hne] at e1
        obtain ⟨cs1, m1, rfl, hr⟩ := (hobj _ _ k2).2 b1 o1 r1 e1 k1
        exact .inl ⟨hr, rfl⟩
      · rw [Hp.set_other _ _ h1] at e1
        rw [Hp.set_other _ _ h2] at e2
        exact H.sep b1 b2 o1 o2 r r1 r2 hne e1 e2 k1 k2
theorem HRel.addRoGrp (H : HRel B0 w0 g hp nx w) {n gr : Nat} (hf : hp n = none) (hne0 : n ≠ gr) (hgr : g.blk gr = none) (hfree : hp gr = none) (hn : n < nx) (hn2 : gr < nx) {cs : List Value} {u : Nat}
    (hobj : ∀ rb ro, g.blk n = some (rb, ro) → (∃ robj, w.heap[rb]? = some robj ∧ ObjRel B0 g n (.cells cs ⟨true, some gr, 0, u⟩) rb ro robj) ∧ ∀ b o r1, hp b = some o → g.blk b = some (rb, r1) → ∃ cs m, o = .cells cs m ∧ m.ro = true) :
    HRel B0 w0 g ((hp.set gr (some (.group [⟨n, 0, cs.length⟩]))).set n (some (.cells cs ⟨true, some gr, 0, u⟩))) nx w := by
  have get : ∀ b o, ((hp.set gr (some (.group [⟨n, 0, cs.length⟩]))).set n (some (.cells cs ⟨true, some gr, 0, u⟩))) b = some o → (b = n ∧ o = .cells cs ⟨true, some gr, 0, u⟩) ∨ (b = gr ∧ o = .group [⟨n, 0, cs.length⟩]) ∨ (b ≠ n ∧ b ≠ gr ∧ hp b = some o) := fun b o e => by
    by_cases h1 : b = n
    · subst h1; rw [Hp.set_same] at e; cases e; exact .inl ⟨rfl, rfl⟩
    · rw [Hp.set_other _ _ h1] at e
      by_cases h2 : b = gr
      · subst h2; rw [Hp.set_same] at e; cases e; exact .inr (.inl ⟨rfl, rfl⟩)
      · rw [Hp.set_other _ _ h2] at e; exact .inr (.inr ⟨h1, h2, e⟩)
  refine ⟨H.below, H.base, H.dom, fun b o e => ?_, fun b ms e => ?_, fun b cs1 m gr' e k => ?_, fun b1 b2 o1 o2 r r1 r2 hne e1 e2 k1 k2 => ?_, H.room⟩
  · rcases get b o e with ⟨rfl, rfl⟩ | ⟨rfl, rfl⟩ | ⟨_, _, e⟩
    · exact ⟨hn, fun r1 r2 k => (hobj r1 r2 k).1⟩
    · exact ⟨hn2, fun r1 r2 k => by rw [hgr] at k; cases k⟩
    · exact H.live b o e
  · rcases get b _ e with ⟨rfl, h⟩ | ⟨rfl, _⟩ | ⟨_, _, e⟩
    · cases h
    · exact hgr
    · exact H.grpfree b ms e
  · rcases get b _ e with ⟨rfl, h⟩ | ⟨rfl, h⟩ | ⟨_, _, e⟩
    · cases h; cases k
      exact ⟨_, by rw [Hp.set_other _ _ (Ne.symm hne0), Hp.set_same], List.mem_singleton.2 rfl⟩
    · cases h
    · obtain ⟨ms, a1, a2⟩ := H.mem b cs1 m gr' e k
      refine ⟨ms, ?_, a2⟩
      rw [Hp.set_other _ _ (by rintro rfl; rw [hf] at a1; cases a1), Hp.set_other _ _ (by rintro rfl; rw [hfree] at a1; cases a1)]
      exact a1
  · have key : ∀ b o r1, ((hp.set gr (some (.group [⟨n, 0, cs.length⟩]))).set n (some (.cells cs ⟨true, some gr, 0, u⟩))) b = some o → g.blk b = some (r, r1) → (b = n ∧ o = .cells cs ⟨true, some gr, 0, u⟩) ∨ (b ≠ n ∧ hp b = some o) := fun b o r1 e k => by
      rcases get b o e with ⟨rfl, rfl⟩ | ⟨rfl, _⟩ | ⟨h1, _, e⟩
      · exact .inl ⟨rfl, rfl⟩
      · rw [hgr] at k; cases k
      · exact .inr ⟨h1, e⟩
    rcases key b1 o1 r1 e1 k1 with ⟨h1, rfl⟩ | ⟨h1, f1⟩
    · rcases key b2 o2 r2 e2 k2 with ⟨h2, _⟩ | ⟨_, f2⟩
      · exact absurd (h1.trans h2.symm) hne
      · rw [h1] at k1
        obtain ⟨cs2, m2, rfl, hr⟩ := (hobj _ _ k1).2 b2 o2 r2 f2 k2
        exact .inl ⟨rfl, hr⟩
    · rcases key b2 o2 r2 e2 k2 with ⟨h2, rfl⟩ | ⟨_, f2⟩
      · rw [h2] at k2
        obtain ⟨cs1, m1, rfl, hr⟩ := (hobj _ _ k2).2 b1 o1 r1 f1 k1
        exact .inl ⟨hr, rfl⟩
      · exact H.sep b1 b2 o1 o2 r r1 r2 hne f1 f2 k1 k2

/-- Left blocks in these right blocks are read-only. -/
def RoAt (g : Gm) (hp : Hp) (rbs : Nat → Prop) : Prop := ∀ rb, rbs rb → ∀ b o r1, hp b = some o → g.blk b = some (rb, r1) → ∃ cs m, o = .cells cs m ∧ m.ro = true

/-- A block of a template is laid. -/
theorem HRel.layB {h : Ht} (H : HRel B0 w0 g h.get nx w) {d : Nat} {tb : TB} {cs : List Value} {rbs : Nat → Prop} (hro : RoAt g h.get rbs) (hn : d + tb.num + (bif tb.grp then 2 else 1) ≤ nx) (hf : ∀ b, d + tb.num ≤ b → h.get b = none)
    (hgr : tb.grp = true → g.blk (d + tb.num + 1) = none) (hobj : ∀ rb ro, g.blk (d + tb.num) = some (rb, ro) → rbs rb ∧ ∃ robj, w.heap[rb]? = some robj ∧ ObjRel B0 g (d + tb.num) (.cells cs ⟨true, bif tb.grp then some (d + tb.num + 1) else none, 0, tb.unit⟩) rb ro robj) :
    HRel B0 w0 g (layB d tb cs h).get nx w ∧ RoAt g (layB d tb cs h).get rbs ∧ (∀ b, d + tb.num + (bif tb.grp then 2 else 1) ≤ b → (layB d tb cs h).get b = none) := by
  unfold Sw.layB
  cases hg : tb.grp with
  | false =>
    rw [hg] at hn hobj
    simp only [cond_false] at hn hobj ⊢
    rw [Tr.get_set]
    refine ⟨H.addRo (hf _ (Nat.le_refl _)) (by omega) fun rb ro k => ⟨(hobj rb ro k).2, hro rb (hobj rb ro k).1⟩, fun rb hrb b o r1 e k => ?_, fun b hb => ?_⟩
    · by_cases hbn : b = d + tb.num
      · subst hbn; rw [Hp.set_same] at e; cases e; exact ⟨_, _, rfl, rfl⟩
      · rw [Hp.set_other _ _ hbn] at e; exact hro rb hrb b o r1 e k
    · rw [Hp.set_other _ _ (by omega)]; exact hf b (by omega)
  | true =>
    rw [hg] at hn hobj
    simp only [cond_true] at hn hobj ⊢
    rw [Tr.get_set, Tr.get_set]
    refine ⟨H.addRoGrp (hf _ (Nat.le_refl _)) (by omega) (hgr hg) (hf _ (by omega)) (by omega) (by omega) fun rb ro k => ⟨(hobj rb ro k).2, hro rb (hobj rb ro k).1⟩, fun rb hrb b o r1 e k => ?_, fun b hb => ?_⟩
    · by_cases hbn : b = d + tb.num
      · subst hbn; rw [Hp.set_same] at e; cases e; exact ⟨_, _, rfl, rfl⟩
      · rw [Hp.set_other _ _ hbn] at e
        by_cases hbg : b = d + tb.num + 1
        · subst hbg; rw [hgr hg] at k; cases k
        · rw [Hp.set_other _ _ hbg] at e; exact hro rb hrb b o r1 e k
    · rw [Hp.set_other _ _ (by omega), Hp.set_other _ _ (by omega)]; exact hf b (by omega)

/-- Nothing of before has changed: the relation stays, under a greater map. -/
theorem HRel.later (H : HRel B0 w0 g hp nx w) {g' : Gm} {nx' : Nat} {w' : World} (hw : Below w.heap.size w w') (hg : g.le g') (hnx : nx ≤ nx') (hnew : ∀ b, b < nx → g'.blk b = g.blk b) (hdom : ∀ b rb ro, g'.blk b = some (rb, ro) → b < nx' ∧ rb < w'.heap.size) (hroom : ∀ b x, g'.room b = some x → g'.blk b ≠ none) :
    HRel B0 w0 g' hp nx' w' := by
  have hh : ∀ {rb : Nat} {o : Obj}, w.heap[rb]? = some o → w'.heap[rb]? = some o := fun {rb o} h => by
    have hlt := getElem?_lt h
    rw [hw.block rb hlt]; exact h
  refine ⟨H.below.trans (hw.mono H.base), Nat.le_trans H.base hw.size, hdom, fun b o e => ?_, fun b ms e => ?_, H.mem, fun b1 b2 o1 o2 r r1 r2 hne e1 e2 k1 k2 => ?_, hroom⟩
  · obtain ⟨p, q⟩ := H.live b o e
    refine ⟨by omega, fun rb ro k => ?_⟩
    rw [hnew b p] at k
    obtain ⟨robj, a2, a3⟩ := q rb ro k
    exact ⟨robj, hh a2, a3.mono hg k⟩
  · rw [hnew b (H.live b _ e).1]; exact H.grpfree b ms e
  · rw [hnew b1 (H.live b1 _ e1).1] at k1
    rw [hnew b2 (H.live b2 _ e2).1] at k2
    exact H.sep b1 b2 o1 o2 r r1 r2 hne e1 e2 k1 k2
end
end
end Sw

/- Templates: a call that fits answers as its template says. -/
namespace Sw
noncomputable section
open Go Go.RowKit

theorem look_lt {n : Nat} : ∀ {A : Assoc} {b x : Nat}, keysLt n A = true → look b A = some x → b < n
  | [], _, _, _, h => by cases h
  | (y, z) :: A, b, x, hk, h => by
    simp only [keysLt, Bool.and_eq_true] at hk
    simp only [look] at h
    cases hq : Nat.beq b y with
    | true => rw [beq_eq hq]; exact Nat.le_of_ble_eq_true hk.1
    | false => rw [hq] at h; exact look_lt hk.2 h
theorem look_in {tbs : List TB} : ∀ {A : Assoc} {b x : Nat}, keysIn A tbs = true → look b A = some x → ∃ tb ∈ tbs, tb.num = b
  | [], _, _, _, h => by cases h
  | (y, z) :: A, b, x, hk, h => by
    simp only [keysIn, Bool.and_eq_true] at hk
    simp only [look] at h
    cases hq : Nat.beq b y with
    | true =>
      obtain ⟨tb, h1, h2⟩ := List.any_eq_true.1 hk.1
      exact ⟨tb, h1, (beq_eq h2).trans (beq_eq hq).symm⟩
    | false => rw [hq] at h; exact look_in hk.2 h
theorem look_id {ng i : Nat} (h : i < ng) : look i (idA ng) = some i := by
  have : ∀ (l : List Nat), i ∈ l → look i (l.map fun i => (i, i)) = some i := by
    intro l
    induction l with
    | nil => intro h; cases h
    | cons x l ih =>
      intro hm
      simp only [List.map_cons, look]
      cases hq : Nat.beq i x with
      | true => rw [beq_eq hq]; rfl
      | false =>
        rcases List.mem_cons.1 hm with rfl | hm
        · rw [Nat.beq_refl] at hq; cases hq
        · exact ih hm
  exact this _ (List.mem_range.2 h)
theorem grpFree_mem {A : Assoc} : ∀ {tbs : List TB}, grpFree A tbs = true → ∀ tb ∈ tbs, tb.grp = true → look (tb.num + 1) A = none
  | [], _, tb, h, _ => by cases h
  | t :: tbs, h, tb, hm, hg => by
    simp only [grpFree, Bool.and_eq_true, Bool.or_eq_true, Bool.not_eq_true'] at h
    rcases List.mem_cons.1 hm with rfl | hm
    · rcases h.1 with k | k
      · rw [hg] at k; cases k
      · cases hl : look (tb.num + 1) A with
        | none => rfl
        | some x => rw [hl] at k; cases k
    · exact grpFree_mem h.2 tb hm hg
theorem numsOk_lt {hi : Nat} : ∀ {tbs : List TB} {lo : Nat}, numsOk lo hi tbs = true → ∀ tb ∈ tbs, tb.num + (bif tb.grp then 2 else 1) ≤ hi
  | [], _, _, tb, h => by cases h
  | t :: tbs, lo, h, tb, hm => by
    simp only [numsOk, Bool.and_eq_true] at h
    have mono : ∀ {tbs : List TB} {lo : Nat}, numsOk lo hi tbs = true → lo ≤ hi := by
      intro tbs
      induction tbs with
      | nil => intro lo h; exact Nat.le_of_ble_eq_true h
      | cons t tbs ih =>
        intro lo h
        simp only [numsOk, Bool.and_eq_true] at h
        have := ih h.2
        have := Nat.le_of_ble_eq_true h.1
        cases hg : t.grp <;> simp [hg] at * <;> omega
    rcases List.mem_cons.1 hm with rfl | hm
    · exact mono h.2
    · exact numsOk_lt h.2 tb hm

section
variable {B0 : Nat} {w0 : World} {g : Gm} {nx : Nat} {w : World}

/-- What a laid block has to find on the right. -/
def Found (B0 : Nat) (g : Gm) (w : World) (rbs : Nat → Prop) (d : Nat) (tb : TB) (cs : List Value) : Prop :=
  ∀ rb ro, g.blk (d + tb.num) = some (rb, ro) → rbs rb ∧ ∃ robj, w.heap[rb]? = some robj ∧ ObjRel B0 g (d + tb.num) (.cells cs ⟨true, bif tb.grp then some (d + tb.num + 1) else none, 0, tb.unit⟩) rb ro robj

theorem layR_ok {rbs : Nat → Prop} {d hi : Nat} (hnx : d + hi ≤ nx) : ∀ (tbs : List TB) (lo : Nat) (h h' : Ht), numsOk lo hi tbs = true → HRel B0 w0 g h.get nx w → RoAt g h.get rbs → (∀ b, d + lo ≤ b → h.get b = none) →
    (∀ tb ∈ tbs, tb.grp = true → g.blk (d + tb.num + 1) = none) → (∀ tb ∈ tbs, ∀ cs, shL (shV d 8) tb.cs = some cs → Found B0 g w rbs d tb cs) → layR d tbs h = some h' → HRel B0 w0 g h'.get nx w
  | [], lo, h, h', _, H, _, _, _, _, hl => by cases hl; exact H
  | tb :: tbs, lo, h, h', hn, H, hro, hf, hgr, hobj, hl => by
    have hlt := numsOk_lt hn tb (List.mem_cons_self ..)
    simp only [numsOk, Bool.and_eq_true] at hn
    have hlo := Nat.le_of_ble_eq_true hn.1
    simp only [layR] at hl
    split at hl
    · rename_i cs hcs
      obtain ⟨H1, hro1, hf1⟩ := H.layB (cs := cs) hro (by omega) (fun b hb => hf b (by omega)) (hgr tb (List.mem_cons_self ..)) (hobj tb (List.mem_cons_self ..) cs hcs)
      exact layR_ok hnx tbs _ _ h' hn.2 H1 hro1 (fun b hb => hf1 b (by omega)) (fun t ht => hgr t (List.mem_cons_of_mem _ ht)) (fun t ht => hobj t (List.mem_cons_of_mem _ ht)) hl
    · cases hl
theorem lay0_ok {rbs : Nat → Prop} : ∀ (tbs : List TB) (lo : Nat) (h : Ht), numsOk lo nx tbs = true → HRel B0 w0 g h.get nx w → RoAt g h.get rbs → (∀ b, lo ≤ b → h.get b = none) →
    (∀ tb ∈ tbs, tb.grp = true → g.blk (tb.num + 1) = none) → (∀ tb ∈ tbs, Found B0 g w rbs 0 tb tb.cs) → HRel B0 w0 g (lay0 tbs h).get nx w
  | [], lo, h, _, H, _, _, _, _ => H
  | tb :: tbs, lo, h, hn, H, hro, hf, hgr, hobj => by
    have hlt := numsOk_lt hn tb (List.mem_cons_self ..)
    simp only [numsOk, Bool.and_eq_true] at hn
    have hlo := Nat.le_of_ble_eq_true hn.1
    obtain ⟨H1, hro1, hf1⟩ := H.layB (d := 0) (cs := tb.cs) hro (by omega) (fun b hb => hf b (by omega)) (fun hg => by rw [Nat.zero_add]; exact hgr tb (List.mem_cons_self ..) hg) (hobj tb (List.mem_cons_self ..))
    exact lay0_ok tbs _ _ hn.2 H1 hro1 (fun b hb => hf1 b (by omega)) (fun t ht => hgr t (List.mem_cons_of_mem _ ht)) (fun t ht => hobj t (List.mem_cons_of_mem _ ht))

/-- The cells of a block, as lists on both sides. -/
theorem ObjRel.list {b : Nat} {cs : List Value} {m : CMeta} {rb ro : Nat} {robj : Obj} (h : ObjRel B0 g b (.cells cs m) rb ro robj) :
    ∃ rc el fz, robj = .cells rc el fz ∧ ro + cs.length ≤ rc.size ∧ LRel g cs ((rc.toList.drop ro).take cs.length) ∧ (m.ro = false → B0 ≤ rb) ∧ (∀ gr, m.grp = some gr → g.room b = some (rc.size, m.unit)) ∧ (m.grp = none → g.room b = none) := by
  cases robj <;> first | exact h.elim | skip
  obtain ⟨h1, h2, h3, h4, h5⟩ := h
  refine ⟨_, _, _, rfl, h1, ⟨by simp; omega, fun i v v' e e' => ?_⟩, fun k => (h3 k).1, h4, h5⟩
  rw [List.getElem?_take] at e'
  split at e'
  · rw [List.getElem?_drop] at e'
    exact h2 i v v' e (by simpa using e')
  · cases e'
theorem ObjRel.of_list {B1 : Nat} {g1 : Gm} {b1 : Nat} {us : List Value} {gr : Option Nat} {u : Nat} {rb ro n : Nat} {rc : Array Value} {el : TypeId} {fz : Nat × Nat} (hlen : ro + n ≤ rc.size) (hl : LRel g1 us ((rc.toList.drop ro).take n))
    (h1 : ∀ x, gr = some x → g1.room b1 = some (rc.size, u)) (h2 : gr = none → g1.room b1 = none) : ObjRel B1 g1 b1 (.cells us ⟨true, gr, 0, u⟩) rb ro (.cells rc el fz) := by
  have hn : us.length = n := by have := hl.1; simp at this; omega
  refine ⟨by omega, fun i v v' e e' => ?_, (fun k => by cases k), h1, h2⟩
  have hi : i < n := by have := (List.getElem?_eq_some_iff.1 e).1; omega
  exact hl.2 i v v' e (by rw [List.getElem?_take, if_pos hi, List.getElem?_drop]; simpa using e')
end
end
end Sw

/- Templates: the contract that they give. -/
namespace Sw
noncomputable section
open Go Go.RowKit

section
variable {P : Program} {ng : Nat} {e : Env} {B0 : Nat} {w0 : World} {g : Gm} {nx : Nat} {w : World} {hp : Ht}

/-- The map of a template's blocks. -/
def viaG (g : Gm) (A : Assoc) : Gm := ⟨fun b => (look b A).bind g.blk, fun b => (look b A).bind g.room⟩
theorem viaG_via (g : Gm) (A : Assoc) : Via (viaG g A) g A := fun bt b h => by simp [viaG, h]
/-- The map of before, with new blocks from nx on. -/
def addG (g : Gm) (nx : Nat) (gr : Gm) : Gm := ⟨fun b => if b < nx then g.blk b else gr.blk (b - nx), fun b => if b < nx then g.room b else gr.room (b - nx)⟩

theorem grpOk_none {m : CMeta} {tb : TB} (h : grpOk m tb = true) (hg : tb.grp = false) : m.grp = none := by
  unfold grpOk at h
  cases hm : m.grp with
  | none => rfl
  | some x => rw [hm, hg] at h; cases h
theorem grpOk_some {m : CMeta} {tb : TB} (h : grpOk m tb = true) (hg : tb.grp = true) : (∃ x, m.grp = some x) ∧ m.unit = tb.unit := by
  unfold grpOk at h
  cases hm : m.grp with
  | none => rw [hm, hg] at h; cases h
  | some x =>
    rw [hm, hg] at h
    exact ⟨⟨x, rfl⟩, beq_eq (by simpa using h)⟩

/-- A block of before, seen through a template. -/
theorem found_of {B1 : Nat} {gc : Gm} {d : Nat} {tb : TB} {cs us : List Value} {m : CMeta} {b : Nat} {rbs : Nat → Prop} {w1 : World} (hok : grpOk m tb = true) (hrb : ∀ rb ro robj, g.blk b = some (rb, ro) → ObjRel B0 g b (.cells cs m) rb ro robj → rbs rb)
    (hlive : ∀ rb ro, g.blk b = some (rb, ro) → ∃ robj, w1.heap[rb]? = some robj ∧ ObjRel B0 g b (.cells cs m) rb ro robj) (hblk : ∀ x, gc.blk (d + tb.num) = some x → g.blk b = some x ∧ gc.room (d + tb.num) = g.room b)
    (hcs : ∀ cs', LRel g cs cs' → LRel gc us cs') : Found B1 gc w1 rbs d tb us := by
  intro rb ro k
  obtain ⟨k1, k2⟩ := hblk _ k
  obtain ⟨robj, a2, a3⟩ := hlive rb ro k1
  refine ⟨hrb rb ro robj k1 a3, robj, a2, ?_⟩
  obtain ⟨rc, el, fz, rfl, hlen, hl, hro, h1, h2⟩ := a3.list
  refine ObjRel.of_list hlen (hcs _ hl) (fun x hx => ?_) (fun hx => ?_)
  · cases hg : tb.grp with
    | false => rw [hg] at hx; cases hx
    | true =>
      obtain ⟨⟨y, hy⟩, hu⟩ := grpOk_some hok hg
      rw [k2, h1 y hy, hu]
  · cases hg : tb.grp with
    | true => rw [hg] at hx; cases hx
    | false => rw [k2]; exact h2 (grpOk_none hok hg)

/-- What holds of a world at the start holds of every later one, with all its blocks for old. -/
def Lasts (I : Nat → World → Prop) : Prop := ∀ B0 w0 w, I B0 w0 → Below B0 w0 w → B0 ≤ w.heap.size → I w.heap.size w

theorem useT_lands {I : Nat → World → Prop} (hI : Lasts I) (hi : I B0 w0) (ok : EnvOk P ng e) (kok : ∀ B0 w0, I B0 w0 → KOk P ng B0 w0 e) {f : FuncId} {n fuel : Nat} {tm : Tmpl} (hold : holdsT ng e f n fuel tm = true) (H : HRel B0 w0 g hp.get nx w) (hg : GlobOk g ng) {l : List Value} {args : Array Value} (hl : LRel g l args.toList)
    {v : Value} {h : Ht} {n' : Nat} (hu : useT ng tm l hp nx = some (v, h, n')) : CallLands P B0 w0 .normal g nx f args w v h n' := by
  unfold holdsT at hold
  rw [Bool.and_eq_true] at hold
  obtain ⟨htm, hex⟩ := hold
  unfold tmOk at htm
  simp only [Bool.and_eq_true] at htm
  obtain ⟨t1, t2, t3⟩ := htm
  have t1 := Nat.le_of_ble_eq_true t1
  -- the match of the arguments
  unfold useT at hu
  split at hu
  case h_2 => cases hu
  rename_i A hA
  split at hu
  case h_2 => cases hu
  rename_i A1 hA1
  cases hq : (grpFree A1 tm.blocks && keysLt tm.nx A1) with
  | false => rw [hq] at hu; cases hu
  | true =>
  rw [hq] at hu
  simp only [cond_true] at hu
  split at hu
  case h_2 => cases hu
  rename_i v1 h1 hv1 hh1
  cases hu
  rw [Bool.and_eq_true] at hq
  obtain ⟨eA, rA⟩ := mtL_ok (mtV_ok 8) _ _ _ _ hA
  obtain ⟨eB, rB⟩ := mtB_ok _ _ _ hA1
  let gc := viaG g A1
  have via := viaG_via g A1
  have hlc : LRel gc tm.args args.toList := rA gc g _ (via.sub eB) hl
  have hgc : GlobOk gc ng := fun i hi => by
    have := eB _ _ (eA _ _ (look_id hi))
    exact (via _ _ this).1.trans (hg i hi)
  -- the relation of the template's own run
  have Hn : HRel w.heap.size w gc (Tr.nil : Ht).get tm.nx w := by
    refine ⟨Below.refl _ _, Nat.le_refl _, fun b rb ro k => ?_, fun b o k => (by cases k), fun b ms k => (by cases k), fun b cs m gr k => (by cases k), fun b1 b2 o1 o2 r r1 r2 _ k => (by cases k), fun b x k => ?_⟩
    · simp only [gc, viaG] at k
      obtain ⟨c, k1, k2⟩ := Option.bind_eq_some_iff.1 k
      exact ⟨look_lt hq.2 k1, (H.dom _ _ _ k2).2⟩
    · simp only [gc, viaG] at k ⊢
      obtain ⟨c, k1, k2⟩ := Option.bind_eq_some_iff.1 k
      rw [k1]
      exact H.room _ _ k2
  have Hc : HRel w.heap.size w gc (lay0 tm.blocks .nil).get tm.nx w := by
    refine lay0_ok (rbs := fun _ => True) tm.blocks 0 .nil t2 Hn (fun rb _ b o r1 k => by cases k) (fun b _ => rfl) (fun tb ht hgt => ?_) (fun tb ht => ?_)
    · have := grpFree_mem hq.1 tb ht hgt
      simp [gc, viaG, this]
    · obtain ⟨b, cs, m, q1, q2, q3, _, q5⟩ := rB tb ht
      refine found_of (g := g) (b := b) (cs := cs) (m := m) (B0 := B0) q3 (fun _ _ _ _ _ => trivial) (fun rb ro k => (H.live b _ q2).2 rb ro k) (fun x k => ?_) (fun cs' hcs => q5 gc g cs' via hcs)
      rw [Nat.zero_add] at k ⊢
      obtain ⟨p1, p2⟩ := via _ _ q1
      exact ⟨p1 ▸ k, p2⟩
  -- the run
  have hi2 := hI _ _ _ hi H.below H.base
  obtain ⟨f', hf', rest, x, hr⟩ := Plays.explored (enterF_says ok (kok _ _ hi2) (ev_says ok (kok _ _ hi2) n) Hc hgc hlc (kRes tm)) hex
  rcases hf' with hf' | ⟨vc, hp', nx', hf', L⟩
  · obtain ⟨m, hf'⟩ := hf' rest; rw [hr] at hf'; cases hf'
  have hfr := hf' rest
  rw [hr] at hfr
  unfold kRes at hfr
  split at hfr
  case h_2 => cases hfr
  rename_i A2 hA2
  split at hfr
  case h_2 => cases hfr
  rename_i A3 hA3
  cases hq3 : (keysIn A3 tm.rblocks && grpFree A3 tm.rblocks) with
  | false => rw [hq3] at hfr; cases hfr
  | true =>
  rw [Bool.and_eq_true] at hq3
  obtain ⟨v', w', gc', H', V', E', st⟩ := L
  have hbelow : Below w.heap.size w w' := H'.below
  obtain ⟨eC, rC⟩ := mtV_ok 8 _ _ _ _ hA2
  obtain ⟨eD, rD⟩ := mtB_ok _ _ _ hA3
  let gr := viaG gc' A3
  have viar := viaG_via gc' A3
  have Vr : VRel gr tm.res v' := rC gr gc' v' (viar.sub eD) V'
  let g' := addG g nx gr
  have gold : ∀ b, b < nx → g'.blk b = g.blk b := fun b hb => by simp [g', addG, hb]
  have groom : ∀ b, b < nx → g'.room b = g.room b := fun b hb => by simp [g', addG, hb]
  have gnew : ∀ b, nx ≤ b → g'.blk b = gr.blk (b - nx) := fun b hb => by simp [g', addG, Nat.not_lt.2 hb]
  have gnewr : ∀ b, nx ≤ b → g'.room b = gr.room (b - nx) := fun b hb => by simp [g', addG, Nat.not_lt.2 hb]
  have hle : g.le g' := ⟨fun b x k => by rw [gold b (H.dom b x.1 x.2 k).1]; exact k, fun b x k => groom b (H.dom b x.1 x.2 k).1⟩
  have moved : Moved nx gr g' := fun b _ => by
    have : nx + b - nx = b := by omega
    rw [gnew _ (Nat.le_add_right _ _), gnewr _ (Nat.le_add_right _ _), this]
    exact ⟨rfl, rfl⟩
  have hnumlt : ∀ b c, look b A3 = some c → b < tm.rnx := fun b c k => by
    obtain ⟨tb, h1, h2⟩ := look_in hq3.1 k
    have := numsOk_lt t3 tb h1
    cases hgt : tb.grp <;> simp [hgt] at this <;> omega
  have fresh : ∀ b rb ro, gr.blk b = some (rb, ro) → w.heap.size ≤ rb ∧ rb < w'.heap.size ∧ b < tm.rnx := fun b rb ro k => by
    simp only [gr, viaG] at k
    obtain ⟨c, k1, k2⟩ := Option.bind_eq_some_iff.1 k
    obtain ⟨tb, h1, h2⟩ := look_in hq3.1 k1
    obtain ⟨c2, cs, m, q1, q2, q3, q4, _⟩ := rD tb h1
    rw [h2, k1] at q1; cases q1
    obtain ⟨robj, _, a3⟩ := (H'.live c _ q2).2 rb ro k2
    obtain ⟨_, _, _, _, _, _, hro, _⟩ := a3.list
    exact ⟨hro (q4 rfl), (H'.dom _ _ _ k2).2, hnumlt b c k1⟩
  have H2 : HRel B0 w0 g' hp.get (nx + tm.rnx) w' := by
    refine H.later hbelow hle (Nat.le_add_right _ _) gold (fun b rb ro k => ?_) (fun b x k => ?_)
    · by_cases hb : b < nx
      · rw [gold b hb] at k
        have := (H.dom _ _ _ k).2
        have := hbelow.size
        exact ⟨by omega, by omega⟩
      · rw [gnew b (Nat.not_lt.1 hb)] at k
        obtain ⟨_, p2, p3⟩ := fresh _ _ _ k
        exact ⟨by omega, p2⟩
    · by_cases hb : b < nx
      · rw [groom b hb] at k; rw [gold b hb]; exact H.room b x k
      · rw [gnewr b (Nat.not_lt.1 hb)] at k
        rw [gnew b (Nat.not_lt.1 hb)]
        simp only [gr, viaG] at k ⊢
        obtain ⟨c, k1, k2⟩ := Option.bind_eq_some_iff.1 k
        rw [k1]
        exact H'.room _ _ k2
  have H3 : HRel B0 w0 g' h.get (nx + tm.rnx) w' := by
    refine layR_ok (rbs := fun rb => w.heap.size ≤ rb) (hi := tm.rnx) (Nat.le_refl _) tm.rblocks 0 hp h t3 H2 (fun rb hrb b o r1 k1 k2 => ?_) (fun b hb => ?_) (fun tb ht hgt => ?_) (fun tb ht us hus => ?_) hh1
    · exfalso
      have hb := (H.live b o k1).1
      rw [gold b hb] at k2
      have := (H.dom _ _ _ k2).2
      omega
    · cases hx : hp.get b with
      | none => rfl
      | some o => have := (H.live b o hx).1; omega
    · rw [gnew _ (by omega)]
      have : nx + tb.num + 1 - nx = tb.num + 1 := by omega
      rw [this]
      have := grpFree_mem hq3.2 tb ht hgt
      simp [gr, viaG, this]
    · obtain ⟨c, cs, m, q1, q2, q3, q4, q5⟩ := rD tb ht
      refine found_of (g := gc') (b := c) (cs := cs) (m := m) (B0 := w.heap.size) q3 (fun rb ro robj _ a3 => ?_) (fun rb ro k => (H'.live c _ q2).2 rb ro k) (fun x k => ?_) (fun cs' hcs => ?_)
      · obtain ⟨_, _, _, _, _, _, hro, _⟩ := a3.list
        exact hro (q4 rfl)
      · rw [gnew _ (Nat.le_add_right _ _)] at k
        rw [gnewr _ (Nat.le_add_right _ _)]
        have : nx + tb.num - nx = tb.num := by omega
        rw [this] at k ⊢
        obtain ⟨p1, p2⟩ := viar _ _ q1
        exact ⟨p1 ▸ k, p2⟩
      · exact shL_ok (shV_ok nx 8) _ _ hus gr g' cs' moved (q5 gr gc' cs' viar hcs)
  refine ⟨v', w', g', H3, shV_ok nx 8 _ _ hv1 gr g' v' moved Vr, ⟨⟨hle, Nat.le_add_right _ _, fun b hb => ?_⟩, ⟨hbelow.size, fun rb hlt _ => hbelow.block rb hlt⟩, fun b rb ro k => ?_⟩, st⟩
  · by_cases hbn : b < nx
    · rw [gold b hbn] at hb; exact .inl hb
    · exact .inr (Nat.not_lt.1 hbn)
  · by_cases hbn : b < nx
    · rw [gold b hbn] at k; exact .inl ⟨b, ro, k⟩
    · rw [gnew b (Nat.not_lt.1 hbn)] at k
      exact .inr (fresh _ _ _ k).1

theorem useTs_mem : ∀ {tms : List Tmpl} {l : List Value} {hp : Ht} {nx : Nat} {r : Value × Ht × Nat}, useTs ng tms l hp nx = some r → ∃ tm ∈ tms, useT ng tm l hp nx = some r
  | [], _, _, _, _, h => by cases h
  | tm :: tms, l, hp, nx, r, h => by
    simp only [useTs] at h
    split at h
    · rename_i r' hr
      cases h
      exact ⟨tm, List.mem_cons_self .., hr⟩
    · obtain ⟨t, h1, h2⟩ := useTs_mem h
      exact ⟨t, List.mem_cons_of_mem _ h1, h2⟩

/-- Templates that hold in an environment are a contract. -/
theorem kOfT_ok {I : Nat → World → Prop} (hI : Lasts I) (hi : I B0 w0) (ok : EnvOk P ng e) (kok : ∀ B0 w0, I B0 w0 → KOk P ng B0 w0 e) {f : FuncId} {tms : List Tmpl} (hold : ∀ tm ∈ tms, ∃ n fuel, holdsT ng e f n fuel tm = true) (l : List Value) (args : Array Value) (hp : Ht) (nx : Nat) (g : Gm) (w : World) (H : HRel B0 w0 g hp.get nx w) (hg : GlobOk g ng) (hl : LRel g l args.toList) :
    (∀ cs k fb, (kOfT ng tms).run l hp nx cs k fb = fb) ∨ ∃ r0 : List Nat → KC → R, (∀ cs k fb, (kOfT ng tms).run l hp nx cs k fb = r0 cs k) ∧ CallSays P B0 w0 .normal g nx f args w r0 := by
  cases hu : useTs ng tms l hp nx with
  | none => exact .inl fun cs k fb => by simp only [kOfT, hu]
  | some r =>
    obtain ⟨v, h, n'⟩ := r
    obtain ⟨tm, h1, h2⟩ := useTs_mem hu
    obtain ⟨n, fuel, h3⟩ := hold tm h1
    refine .inr ⟨fun cs k => k v h n' cs, fun cs k fb => by simp only [kOfT, hu], fun k => .here (.inr ⟨v, h, n', fun cs => rfl, ?_⟩)⟩
    exact useT_lands hI hi ok kok h3 H hg hl h2
end
end
end Sw

/- Environments from a program's tables. -/
namespace Sw
noncomputable section
open Go Go.RowKit

/-- A tree of a list. -/
def ofL {α : Type} : Nat → List α → Tr α → Tr α
  | _, [], t => t
  | i, x :: xs, t => ofL (i + 1) xs (t.set i (some x))
theorem ofL_get {α : Type} : ∀ (l : List α) (i : Nat) (t : Tr α) (j : Nat), (ofL i l t).get j = if i ≤ j ∧ j < i + l.length then l[j - i]? else t.get j
  | [], i, t, j => by simp [ofL]; omega
  | x :: xs, i, t, j => by
    have hset : ∀ k, (t.set i (some x)).get k = if k = i then some x else t.get k := fun k => by
      show (t.set1 (i + 1) (some x)).get1 (k + 1) = if k = i then some x else t.get1 (k + 1)
      rw [Tr.get1_set1 t (some x) _ _ (by omega) (by omega)]
      by_cases h : k = i
      · rw [if_pos h, if_pos (by omega)]
      · rw [if_neg h, if_neg (by omega)]
    rw [ofL, ofL_get xs (i + 1)]
    by_cases h : i + 1 ≤ j ∧ j < i + 1 + xs.length
    · rw [if_pos h, if_pos ⟨by omega, by simp; omega⟩]
      have : j - i = (j - (i + 1)) + 1 := by omega
      rw [this]; simp
    · rw [if_neg h, hset]
      by_cases hj : j = i
      · subst hj
        rw [if_pos rfl, if_pos ⟨Nat.le_refl _, by simp⟩]; simp
      · rw [if_neg hj, if_neg (by simp; omega)]
theorem ofL_nil_get {α : Type} (l : List α) (j : Nat) : (ofL 0 l .nil).get j = l[j]? := by
  rw [ofL_get]
  by_cases h : j < l.length
  · rw [if_pos ⟨Nat.zero_le _, by omega⟩]; simp
  · rw [if_neg (by omega)]
    have : (Tr.nil : Tr α).get j = none := rfl
    rw [this]; simp; omega

/-- A function that the evaluator may enter. -/
def resOk (nt : Nat) : ResultVar → Bool
  | .tmp i => Nat.blt i nt
  | .cell i _ => Nat.blt i nt
def fnOk (ng : Nat) (fn : Func) : Bool := match fn.body with
  | none => false
  | some b => Nat.ble fn.ntmps 512 && (codeOk ng fn.ntmps b && (fn.results.toList.all (resOk fn.ntmps) && !(fn.name == "runtime.NumGoroutine")))
def fInfo (fn : Func) : Option FInfo := match fn.body with
  | some b => some ⟨b, fn.ntmps, fn.results.toList⟩
  | none => none

/-- A type that the evaluator may use. -/
def tyOk (i : TypeInfo) : Bool := match i.zero with
  | some z => flat z && Nat.beq z.cells.size i.size
  | none => true
def tyClosed (T : Ty) (i : TypeInfo) : Bool := match i.desc with
  | .struct fs => fs.toList.all fun f => (T.size f.type).isSome
  | _ => true

/-- A method of a type that is no pointer, by its own text. -/
def methOk (T : Ty) (t : TypeId) (name : String) (f : FuncId) : Bool := match T.info t, T.und t with
  | some i, some d => (match i.methods.find? (·.name == name) with
    | some m => m.path.isEmpty && ((match m.func with | some (g, p) => Nat.beq g f && !p | none => false) && (match d with | .pointer _ => false | _ => true))
    | none => false)
  | _, _ => false
theorem methOk_run {P : Program} {T : Ty} (ok : T.Ok P) {t : TypeId} {name : String} {f : FuncId} (h : methOk T t name f = true) (v : Value) (w : World) : (method (P.types.size + Made.depth) t v name).run P w = .ok (f, v) w := by
  unfold methOk at h
  split at h
  · rename_i i d hi hd
    split at h
    · rename_i m hm
      simp only [Bool.and_eq_true] at h
      obtain ⟨h1, h2, h3⟩ := h
      have hpath : m.path = #[] := by simpa using h1
      cases hfn : m.func with
      | none => rw [hfn] at h2; cases h2
      | some gp =>
        obtain ⟨g, p⟩ := gp
        rw [hfn] at h2
        simp only [Bool.and_eq_true, Bool.not_eq_true'] at h2
        obtain ⟨h2, rfl⟩ := h2
        have := beq_eq h2
        subst this
        have hpos : 0 < Made.depth := by decide
        obtain ⟨n, hn⟩ : ∃ n, P.types.size + Made.depth = n + 1 := ⟨P.types.size + Made.depth - 1, by omega⟩
        rw [hn]
        unfold method
        have r1 : (typeInfo t).run P w = .ok i w := ok.run_info hi w
        rw [rBind r1, hm]
        simp only [hpath, hfn]
        have r2 : (follow (#[] : Array FieldStep).toList t (.val v)).run P w = .ok (t, .val v) w := rfl
        rw [rBind r2]
        simp only
        have r3 : (receiverAt t (.val v) false (if (#[] : Array FieldStep).isEmpty then some ((name.splitOn ".").getLastD name) else none)).run P w = .ok v w := by
          unfold receiverAt
          rw [rBind (ok.run_und hd w)]
          cases d <;> first | (cases h3; done) | rfl
        rw [rBind r3]; rfl
    · cases h
  · cases h

theorem envOk {P : Program} {ng : Nat} {T : Ty} {F : FuncId → Option Func} {M : TypeId → String → Option FuncId} {K : FuncId → Option KRun} {low : Nat} (hT : T.Ok P) (hC : T.Closed) (hF : ∀ f fn, F f = some fn → P.funcs[f]? = some fn ∧ fnOk ng fn = true)
    (hM : ∀ t n f, M t n = some f → methOk T t n f = true) : EnvOk P ng ⟨T, fun f => (F f).bind fInfo, M, K, low⟩ := by
  refine ⟨hT, hC, fun f fi h => ?_, fun t n f h => methOk_run hT (hM t n f h)⟩
  obtain ⟨fn, h1, h2⟩ := Option.bind_eq_some_iff.1 h
  obtain ⟨h3, h4⟩ := hF f fn h1
  unfold fInfo at h2
  unfold fnOk at h4
  cases hb : fn.body with
  | none => rw [hb] at h2; cases h2
  | some b =>
    rw [hb] at h2 h4
    cases h2
    simp only [Bool.and_eq_true, Bool.not_eq_true'] at h4
    obtain ⟨k1, k2, k3, k4⟩ := h4
    refine ⟨fn, h3, hb, rfl, rfl, k4, Nat.le_of_ble_eq_true k1, k2, ?_⟩
    rw [List.all_eq_true] at k3 ⊢
    intro r hr
    have := k3 r hr
    cases r <;> exact this

theorem tyEnv {P : Program} {T : Ty} (h : ∀ t i, T.info t = some i → P.info? t = some i ∧ tyOk i = true ∧ tyClosed T i = true)
    (he : ∀ t, T.eqOk t = true → P.stoodInHeld t = false ∧ P.eqGuardType P.depth t = false ∧ ∀ fs, P.underlying t = some (.struct fs) → ∀ f ∈ fs.toList, f.name ≠ "_") : T.Ok P ∧ T.Closed := by
  refine ⟨⟨fun t i k => (h t i k).1, fun t i z k kz => ?_, fun t i z k kz => ?_, he⟩, fun t fs hu f hf => ?_⟩
  · have := (h t i k).2.1
    unfold tyOk at this
    rw [kz] at this
    simp only [Bool.and_eq_true] at this
    exact this.1
  · have := (h t i k).2.1
    unfold tyOk at this
    rw [kz] at this
    simp only [Bool.and_eq_true] at this
    exact beq_eq this.2
  · have key : ∀ i, tyClosed T i = true → i.desc = .struct fs → ∃ n, T.size f.type = some n := fun i hc hd => by
      unfold tyClosed at hc
      rw [hd] at hc
      exact Option.isSome_iff_exists.1 (List.all_eq_true.1 hc f hf)
    unfold Ty.und at hu
    split at hu
    · rename_i i hi
      split at hu
      · rename_i u hd
        obtain ⟨i2, h2, h3⟩ := Option.map_eq_some_iff.1 hu
        exact key i2 (h u i2 h2).2.2 h3
      · exact key i (h t i hi).2.2 (Option.some.inj hu)
    · cases hu
end
end Sw

namespace Sw
noncomputable section
open Go Go.Proofs
set_option maxRecDepth 100000
noncomputable def TT : Tr TypeInfo := (.node (some Tryz.t0) (.node (some Tryz.t1) (.node (some Tryz.t3) (.node (some Tryz.t7) (.node (some Tryz.t15) (.node (some Tryz.t31) (.node (some Tryz.t63) (.node (some Tryz.t127) (.node (some Tryz.t255) (.node (some Tryz.t511) .nil .nil) .nil) (.node (some Tryz.t383) (.node (some Tryz.t639) .nil .nil) .nil)) (.node (some Tryz.t191) (.node (some Tryz.t319) (.node (some Tryz.t575) .nil .nil) .nil) (.node (some Tryz.t447) .nil .nil))) (.node (some Tryz.t95) (.node (some Tryz.t159) (.node (some Tryz.t287) (.node (some Tryz.t543) .nil .nil) .nil) (.node (some Tryz.t415) .nil .nil)) (.node (some Tryz.t223) (.node (some Tryz.t351) (.node (some Tryz.t607) .nil .nil) .nil) (.node (some Tryz.t479) .nil .nil)))) (.node (some Tryz.t47) (.node (some Tryz.t79) (.node (some Tryz.t143) (.node (some Tryz.t271) (.node (some Tryz.t527) .nil .nil) .nil) (.node (some Tryz.t399) .nil .nil)) (.node (some Tryz.t207) (.node (some Tryz.t335) (.node (some Tryz.t591) .nil .nil) .nil) (.node (some Tryz.t463) .nil .nil))) (.node (some Tryz.t111) (.node (some Tryz.t175) (.node (some Tryz.t303) (.node (some Tryz.t559) .nil .nil) .nil) (.node (some Tryz.t431) .nil .nil)) (.node (some Tryz.t239) (.node (some Tryz.t367) (.node (some Tryz.t623) .nil .nil) .nil) (.node (some Tryz.t495) .nil .nil))))) (.node (some Tryz.t23) (.node (some Tryz.t39) (.node (some Tryz.t71) (.node (some Tryz.t135) (.node (some Tryz.t263) (.node (some Tryz.t519) .nil .nil) .nil) (.node (some Tryz.t391) (.node (some Tryz.t647) .nil .nil) .nil)) (.node (some Tryz.t199) (.node (some Tryz.t327) (.node (some Tryz.t583) .nil .nil) .nil) (.node (some Tryz.t455) .nil .nil))) (.node (some Tryz.t103) (.node (some Tryz.t167) (.node (some Tryz.t295) (.node (some Tryz.t551) .nil .nil) .nil) (.node (some Tryz.t423) .nil .nil)) (.node (some Tryz.t231) (.node (some Tryz.t359) (.node (some Tryz.t615) .nil .nil) .nil) (.node (some Tryz.t487) .nil .nil)))) (.node (some Tryz.t55) (.node (some Tryz.t87) (.node (some Tryz.t151) (.node (some Tryz.t279) (.node (some Tryz.t535) .nil .nil) .nil) (.node (some Tryz.t407) .nil .nil)) (.node (some Tryz.t215) (.node (some Tryz.t343) (.node (some Tryz.t599) .nil .nil) .nil) (.node (some Tryz.t471) .nil .nil))) (.node (some Tryz.t119) (.node (some Tryz.t183) (.node (some Tryz.t311) (.node (some Tryz.t567) .nil .nil) .nil) (.node (some Tryz.t439) .nil .nil)) (.node (some Tryz.t247) (.node (some Tryz.t375) (.node (some Tryz.t631) .nil .nil) .nil) (.node (some Tryz.t503) .nil .nil)))))) (.node (some Tryz.t11) (.node (some Tryz.t19) (.node (some Tryz.t35) (.node (some Tryz.t67) (.node (some Tryz.t131) (.node (some Tryz.t259) (.node (some Tryz.t515) .nil .nil) .nil) (.node (some Tryz.t387) (.node (some Tryz.t643) .nil .nil) .nil)) (.node (some Tryz.t195) (.node (some Tryz.t323) (.node (some Tryz.t579) .nil .nil) .nil) (.node (some Tryz.t451) .nil .nil))) (.node (some Tryz.t99) (.node (some Tryz.t163) (.node (some Tryz.t291) (.node (some Tryz.t547) .nil .nil) .nil) (.node (some Tryz.t419) .nil .nil)) (.node (some Tryz.t227) (.node (some Tryz.t355) (.node (some Tryz.t611) .nil .nil) .nil) (.node (some Tryz.t483) .nil .nil)))) (.node (some Tryz.t51) (.node (some Tryz.t83) (.node (some Tryz.t147) (.node (some Tryz.t275) (.node (some Tryz.t531) .nil .nil) .nil) (.node (some Tryz.t403) .nil .nil)) (.node (some Tryz.t211) (.node (some Tryz.t339) (.node (some Tryz.t595) .nil .nil) .nil) (.node (some Tryz.t467) .nil .nil))) (.node (some Tryz.t115) (.node (some Tryz.t179) (.node (some Tryz.t307) (.node (some Tryz.t563) .nil .nil) .nil) (.node (some Tryz.t435) .nil .nil)) (.node (some Tryz.t243) (.node (some Tryz.t371) (.node (some Tryz.t627) .nil .nil) .nil) (.node (some Tryz.t499) .nil .nil))))) (.node (some Tryz.t27) (.node (some Tryz.t43) (.node (some Tryz.t75) (.node (some Tryz.t139) (.node (some Tryz.t267) (.node (some Tryz.t523) .nil .nil) .nil) (.node (some Tryz.t395) .nil .nil)) (.node (some Tryz.t203) (.node (some Tryz.t331) (.node (some Tryz.t587) .nil .nil) .nil) (.node (some Tryz.t459) .nil .nil))) (.node (some Tryz.t107) (.node (some Tryz.t171) (.node (some Tryz.t299) (.node (some Tryz.t555) .nil .nil) .nil) (.node (some Tryz.t427) .nil .nil)) (.node (some Tryz.t235) (.node (some Tryz.t363) (.node (some Tryz.t619) .nil .nil) .nil) (.node (some Tryz.t491) .nil .nil)))) (.node (some Tryz.t59) (.node (some Tryz.t91) (.node (some Tryz.t155) (.node (some Tryz.t283) (.node (some Tryz.t539) .nil .nil) .nil) (.node (some Tryz.t411) .nil .nil)) (.node (some Tryz.t219) (.node (some Tryz.t347) (.node (some Tryz.t603) .nil .nil) .nil) (.node (some Tryz.t475) .nil .nil))) (.node (some Tryz.t123) (.node (some Tryz.t187) (.node (some Tryz.t315) (.node (some Tryz.t571) .nil .nil) .nil) (.node (some Tryz.t443) .nil .nil)) (.node (some Tryz.t251) (.node (some Tryz.t379) (.node (some Tryz.t635) .nil .nil) .nil) (.node (some Tryz.t507) .nil .nil))))))) (.node (some Tryz.t5) (.node (some Tryz.t9) (.node (some Tryz.t17) (.node (some Tryz.t33) (.node (some Tryz.t65) (.node (some Tryz.t129) (.node (some Tryz.t257) (.node (some Tryz.t513) .nil .nil) .nil) (.node (some Tryz.t385) (.node (some Tryz.t641) .nil .nil) .nil)) (.node (some Tryz.t193) (.node (some Tryz.t321) (.node (some Tryz.t577) .nil .nil) .nil) (.node (some Tryz.t449) .nil .nil))) (.node (some Tryz.t97) (.node (some Tryz.t161) (.node (some Tryz.t289) (.node (some Tryz.t545) .nil .nil) .nil) (.node (some Tryz.t417) .nil .nil)) (.node (some Tryz.t225) (.node (some Tryz.t353) (.node (some Tryz.t609) .nil .nil) .nil) (.node (some Tryz.t481) .nil .nil)))) (.node (some Tryz.t49) (.node (some Tryz.t81) (.node (some Tryz.t145) (.node (some Tryz.t273) (.node (some Tryz.t529) .nil .nil) .nil) (.node (some Tryz.t401) .nil .nil)) (.node (some Tryz.t209) (.node (some Tryz.t337) (.node (some Tryz.t593) .nil .nil) .nil) (.node (some Tryz.t465) .nil .nil))) (.node (some Tryz.t113) (.node (some Tryz.t177) (.node (some Tryz.t305) (.node (some Tryz.t561) .nil .nil) .nil) (.node (some Tryz.t433) .nil .nil)) (.node (some Tryz.t241) (.node (some Tryz.t369) (.node (some Tryz.t625) .nil .nil) .nil) (.node (some Tryz.t497) .nil .nil))))) (.node (some Tryz.t25) (.node (some Tryz.t41) (.node (some Tryz.t73) (.node (some Tryz.t137) (.node (some Tryz.t265) (.node (some Tryz.t521) .nil .nil) .nil) (.node (some Tryz.t393) (.node (some Tryz.t649) .nil .nil) .nil)) (.node (some Tryz.t201) (.node (some Tryz.t329) (.node (some Tryz.t585) .nil .nil) .nil) (.node (some Tryz.t457) .nil .nil))) (.node (some Tryz.t105) (.node (some Tryz.t169) (.node (some Tryz.t297) (.node (some Tryz.t553) .nil .nil) .nil) (.node (some Tryz.t425) .nil .nil)) (.node (some Tryz.t233) (.node (some Tryz.t361) (.node (some Tryz.t617) .nil .nil) .nil) (.node (some Tryz.t489) .nil .nil)))) (.node (some Tryz.t57) (.node (some Tryz.t89) (.node (some Tryz.t153) (.node (some Tryz.t281) (.node (some Tryz.t537) .nil .nil) .nil) (.node (some Tryz.t409) .nil .nil)) (.node (some Tryz.t217) (.node (some Tryz.t345) (.node (some Tryz.t601) .nil .nil) .nil) (.node (some Tryz.t473) .nil .nil))) (.node (some Tryz.t121) (.node (some Tryz.t185) (.node (some Tryz.t313) (.node (some Tryz.t569) .nil .nil) .nil) (.node (some Tryz.t441) .nil .nil)) (.node (some Tryz.t249) (.node (some Tryz.t377) (.node (some Tryz.t633) .nil .nil) .nil) (.node (some Tryz.t505) .nil .nil)))))) (.node (some Tryz.t13) (.node (some Tryz.t21) (.node (some Tryz.t37) (.node (some Tryz.t69) (.node (some Tryz.t133) (.node (some Tryz.t261) (.node (some Tryz.t517) .nil .nil) .nil) (.node (some Tryz.t389) (.node (some Tryz.t645) .nil .nil) .nil)) (.node (some Tryz.t197) (.node (some Tryz.t325) (.node (some Tryz.t581) .nil .nil) .nil) (.node (some Tryz.t453) .nil .nil))) (.node (some Tryz.t101) (.node (some Tryz.t165) (.node (some Tryz.t293) (.node (some Tryz.t549) .nil .nil) .nil) (.node (some Tryz.t421) .nil .nil)) (.node (some Tryz.t229) (.node (some Tryz.t357) (.node (some Tryz.t613) .nil .nil) .nil) (.node (some Tryz.t485) .nil .nil)))) (.node (some Tryz.t53) (.node (some Tryz.t85) (.node (some Tryz.t149) (.node (some Tryz.t277) (.node (some Tryz.t533) .nil .nil) .nil) (.node (some Tryz.t405) .nil .nil)) (.node (some Tryz.t213) (.node (some Tryz.t341) (.node (some Tryz.t597) .nil .nil) .nil) (.node (some Tryz.t469) .nil .nil))) (.node (some Tryz.t117) (.node (some Tryz.t181) (.node (some Tryz.t309) (.node (some Tryz.t565) .nil .nil) .nil) (.node (some Tryz.t437) .nil .nil)) (.node (some Tryz.t245) (.node (some Tryz.t373) (.node (some Tryz.t629) .nil .nil) .nil) (.node (some Tryz.t501) .nil .nil))))) (.node (some Tryz.t29) (.node (some Tryz.t45) (.node (some Tryz.t77) (.node (some Tryz.t141) (.node (some Tryz.t269) (.node (some Tryz.t525) .nil .nil) .nil) (.node (some Tryz.t397) .nil .nil)) (.node (some Tryz.t205) (.node (some Tryz.t333) (.node (some Tryz.t589) .nil .nil) .nil) (.node (some Tryz.t461) .nil .nil))) (.node (some Tryz.t109) (.node (some Tryz.t173) (.node (some Tryz.t301) (.node (some Tryz.t557) .nil .nil) .nil) (.node (some Tryz.t429) .nil .nil)) (.node (some Tryz.t237) (.node (some Tryz.t365) (.node (some Tryz.t621) .nil .nil) .nil) (.node (some Tryz.t493) .nil .nil)))) (.node (some Tryz.t61) (.node (some Tryz.t93) (.node (some Tryz.t157) (.node (some Tryz.t285) (.node (some Tryz.t541) .nil .nil) .nil) (.node (some Tryz.t413) .nil .nil)) (.node (some Tryz.t221) (.node (some Tryz.t349) (.node (some Tryz.t605) .nil .nil) .nil) (.node (some Tryz.t477) .nil .nil))) (.node (some Tryz.t125) (.node (some Tryz.t189) (.node (some Tryz.t317) (.node (some Tryz.t573) .nil .nil) .nil) (.node (some Tryz.t445) .nil .nil)) (.node (some Tryz.t253) (.node (some Tryz.t381) (.node (some Tryz.t637) .nil .nil) .nil) (.node (some Tryz.t509) .nil .nil)))))))) (.node (some Tryz.t2) (.node (some Tryz.t4) (.node (some Tryz.t8) (.node (some Tryz.t16) (.node (some Tryz.t32) (.node (some Tryz.t64) (.node (some Tryz.t128) (.node (some Tryz.t256) (.node (some Tryz.t512) .nil .nil) .nil) (.node (some Tryz.t384) (.node (some Tryz.t640) .nil .nil) .nil)) (.node (some Tryz.t192) (.node (some Tryz.t320) (.node (some Tryz.t576) .nil .nil) .nil) (.node (some Tryz.t448) .nil .nil))) (.node (some Tryz.t96) (.node (some Tryz.t160) (.node (some Tryz.t288) (.node (some Tryz.t544) .nil .nil) .nil) (.node (some Tryz.t416) .nil .nil)) (.node (some Tryz.t224) (.node (some Tryz.t352) (.node (some Tryz.t608) .nil .nil) .nil) (.node (some Tryz.t480) .nil .nil)))) (.node (some Tryz.t48) (.node (some Tryz.t80) (.node (some Tryz.t144) (.node (some Tryz.t272) (.node (some Tryz.t528) .nil .nil) .nil) (.node (some Tryz.t400) .nil .nil)) (.node (some Tryz.t208) (.node (some Tryz.t336) (.node (some Tryz.t592) .nil .nil) .nil) (.node (some Tryz.t464) .nil .nil))) (.node (some Tryz.t112) (.node (some Tryz.t176) (.node (some Tryz.t304) (.node (some Tryz.t560) .nil .nil) .nil) (.node (some Tryz.t432) .nil .nil)) (.node (some Tryz.t240) (.node (some Tryz.t368) (.node (some Tryz.t624) .nil .nil) .nil) (.node (some Tryz.t496) .nil .nil))))) (.node (some Tryz.t24) (.node (some Tryz.t40) (.node (some Tryz.t72) (.node (some Tryz.t136) (.node (some Tryz.t264) (.node (some Tryz.t520) .nil .nil) .nil) (.node (some Tryz.t392) (.node (some Tryz.t648) .nil .nil) .nil)) (.node (some Tryz.t200) (.node (some Tryz.t328) (.node (some Tryz.t584) .nil .nil) .nil) (.node (some Tryz.t456) .nil .nil))) (.node (some Tryz.t104) (.node (some Tryz.t168) (.node (some Tryz.t296) (.node (some Tryz.t552) .nil .nil) .nil) (.node (some Tryz.t424) .nil .nil)) (.node (some Tryz.t232) (.node (some Tryz.t360) (.node (some Tryz.t616) .nil .nil) .nil) (.node (some Tryz.t488) .nil .nil)))) (.node (some Tryz.t56) (.node (some Tryz.t88) (.node (some Tryz.t152) (.node (some Tryz.t280) (.node (some Tryz.t536) .nil .nil) .nil) (.node (some Tryz.t408) .nil .nil)) (.node (some Tryz.t216) (.node (some Tryz.t344) (.node (some Tryz.t600) .nil .nil) .nil) (.node (some Tryz.t472) .nil .nil))) (.node (some Tryz.t120) (.node (some Tryz.t184) (.node (some Tryz.t312) (.node (some Tryz.t568) .nil .nil) .nil) (.node (some Tryz.t440) .nil .nil)) (.node (some Tryz.t248) (.node (some Tryz.t376) (.node (some Tryz.t632) .nil .nil) .nil) (.node (some Tryz.t504) .nil .nil)))))) (.node (some Tryz.t12) (.node (some Tryz.t20) (.node (some Tryz.t36) (.node (some Tryz.t68) (.node (some Tryz.t132) (.node (some Tryz.t260) (.node (some Tryz.t516) .nil .nil) .nil) (.node (some Tryz.t388) (.node (some Tryz.t644) .nil .nil) .nil)) (.node (some Tryz.t196) (.node (some Tryz.t324) (.node (some Tryz.t580) .nil .nil) .nil) (.node (some Tryz.t452) .nil .nil))) (.node (some Tryz.t100) (.node (some Tryz.t164) (.node (some Tryz.t292) (.node (some Tryz.t548) .nil .nil) .nil) (.node (some Tryz.t420) .nil .nil)) (.node (some Tryz.t228) (.node (some Tryz.t356) (.node (some Tryz.t612) .nil .nil) .nil) (.node (some Tryz.t484) .nil .nil)))) (.node (some Tryz.t52) (.node (some Tryz.t84) (.node (some Tryz.t148) (.node (some Tryz.t276) (.node (some Tryz.t532) .nil .nil) .nil) (.node (some Tryz.t404) .nil .nil)) (.node (some Tryz.t212) (.node (some Tryz.t340) (.node (some Tryz.t596) .nil .nil) .nil) (.node (some Tryz.t468) .nil .nil))) (.node (some Tryz.t116) (.node (some Tryz.t180) (.node (some Tryz.t308) (.node (some Tryz.t564) .nil .nil) .nil) (.node (some Tryz.t436) .nil .nil)) (.node (some Tryz.t244) (.node (some Tryz.t372) (.node (some Tryz.t628) .nil .nil) .nil) (.node (some Tryz.t500) .nil .nil))))) (.node (some Tryz.t28) (.node (some Tryz.t44) (.node (some Tryz.t76) (.node (some Tryz.t140) (.node (some Tryz.t268) (.node (some Tryz.t524) .nil .nil) .nil) (.node (some Tryz.t396) .nil .nil)) (.node (some Tryz.t204) (.node (some Tryz.t332) (.node (some Tryz.t588) .nil .nil) .nil) (.node (some Tryz.t460) .nil .nil))) (.node (some Tryz.t108) (.node (some Tryz.t172) (.node (some Tryz.t300) (.node (some Tryz.t556) .nil .nil) .nil) (.node (some Tryz.t428) .nil .nil)) (.node (some Tryz.t236) (.node (some Tryz.t364) (.node (some Tryz.t620) .nil .nil) .nil) (.node (some Tryz.t492) .nil .nil)))) (.node (some Tryz.t60) (.node (some Tryz.t92) (.node (some Tryz.t156) (.node (some Tryz.t284) (.node (some Tryz.t540) .nil .nil) .nil) (.node (some Tryz.t412) .nil .nil)) (.node (some Tryz.t220) (.node (some Tryz.t348) (.node (some Tryz.t604) .nil .nil) .nil) (.node (some Tryz.t476) .nil .nil))) (.node (some Tryz.t124) (.node (some Tryz.t188) (.node (some Tryz.t316) (.node (some Tryz.t572) .nil .nil) .nil) (.node (some Tryz.t444) .nil .nil)) (.node (some Tryz.t252) (.node (some Tryz.t380) (.node (some Tryz.t636) .nil .nil) .nil) (.node (some Tryz.t508) .nil .nil))))))) (.node (some Tryz.t6) (.node (some Tryz.t10) (.node (some Tryz.t18) (.node (some Tryz.t34) (.node (some Tryz.t66) (.node (some Tryz.t130) (.node (some Tryz.t258) (.node (some Tryz.t514) .nil .nil) .nil) (.node (some Tryz.t386) (.node (some Tryz.t642) .nil .nil) .nil)) (.node (some Tryz.t194) (.node (some Tryz.t322) (.node (some Tryz.t578) .nil .nil) .nil) (.node (some Tryz.t450) .nil .nil))) (.node (some Tryz.t98) (.node (some Tryz.t162) (.node (some Tryz.t290) (.node (some Tryz.t546) .nil .nil) .nil) (.node (some Tryz.t418) .nil .nil)) (.node (some Tryz.t226) (.node (some Tryz.t354) (.node (some Tryz.t610) .nil .nil) .nil) (.node (some Tryz.t482) .nil .nil)))) (.node (some Tryz.t50) (.node (some Tryz.t82) (.node (some Tryz.t146) (.node (some Tryz.t274) (.node (some Tryz.t530) .nil .nil) .nil) (.node (some Tryz.t402) .nil .nil)) (.node (some Tryz.t210) (.node (some Tryz.t338) (.node (some Tryz.t594) .nil .nil) .nil) (.node (some Tryz.t466) .nil .nil))) (.node (some Tryz.t114) (.node (some Tryz.t178) (.node (some Tryz.t306) (.node (some Tryz.t562) .nil .nil) .nil) (.node (some Tryz.t434) .nil .nil)) (.node (some Tryz.t242) (.node (some Tryz.t370) (.node (some Tryz.t626) .nil .nil) .nil) (.node (some Tryz.t498) .nil .nil))))) (.node (some Tryz.t26) (.node (some Tryz.t42) (.node (some Tryz.t74) (.node (some Tryz.t138) (.node (some Tryz.t266) (.node (some Tryz.t522) .nil .nil) .nil) (.node (some Tryz.t394) .nil .nil)) (.node (some Tryz.t202) (.node (some Tryz.t330) (.node (some Tryz.t586) .nil .nil) .nil) (.node (some Tryz.t458) .nil .nil))) (.node (some Tryz.t106) (.node (some Tryz.t170) (.node (some Tryz.t298) (.node (some Tryz.t554) .nil .nil) .nil) (.node (some Tryz.t426) .nil .nil)) (.node (some Tryz.t234) (.node (some Tryz.t362) (.node (some Tryz.t618) .nil .nil) .nil) (.node (some Tryz.t490) .nil .nil)))) (.node (some Tryz.t58) (.node (some Tryz.t90) (.node (some Tryz.t154) (.node (some Tryz.t282) (.node (some Tryz.t538) .nil .nil) .nil) (.node (some Tryz.t410) .nil .nil)) (.node (some Tryz.t218) (.node (some Tryz.t346) (.node (some Tryz.t602) .nil .nil) .nil) (.node (some Tryz.t474) .nil .nil))) (.node (some Tryz.t122) (.node (some Tryz.t186) (.node (some Tryz.t314) (.node (some Tryz.t570) .nil .nil) .nil) (.node (some Tryz.t442) .nil .nil)) (.node (some Tryz.t250) (.node (some Tryz.t378) (.node (some Tryz.t634) .nil .nil) .nil) (.node (some Tryz.t506) .nil .nil)))))) (.node (some Tryz.t14) (.node (some Tryz.t22) (.node (some Tryz.t38) (.node (some Tryz.t70) (.node (some Tryz.t134) (.node (some Tryz.t262) (.node (some Tryz.t518) .nil .nil) .nil) (.node (some Tryz.t390) (.node (some Tryz.t646) .nil .nil) .nil)) (.node (some Tryz.t198) (.node (some Tryz.t326) (.node (some Tryz.t582) .nil .nil) .nil) (.node (some Tryz.t454) .nil .nil))) (.node (some Tryz.t102) (.node (some Tryz.t166) (.node (some Tryz.t294) (.node (some Tryz.t550) .nil .nil) .nil) (.node (some Tryz.t422) .nil .nil)) (.node (some Tryz.t230) (.node (some Tryz.t358) (.node (some Tryz.t614) .nil .nil) .nil) (.node (some Tryz.t486) .nil .nil)))) (.node (some Tryz.t54) (.node (some Tryz.t86) (.node (some Tryz.t150) (.node (some Tryz.t278) (.node (some Tryz.t534) .nil .nil) .nil) (.node (some Tryz.t406) .nil .nil)) (.node (some Tryz.t214) (.node (some Tryz.t342) (.node (some Tryz.t598) .nil .nil) .nil) (.node (some Tryz.t470) .nil .nil))) (.node (some Tryz.t118) (.node (some Tryz.t182) (.node (some Tryz.t310) (.node (some Tryz.t566) .nil .nil) .nil) (.node (some Tryz.t438) .nil .nil)) (.node (some Tryz.t246) (.node (some Tryz.t374) (.node (some Tryz.t630) .nil .nil) .nil) (.node (some Tryz.t502) .nil .nil))))) (.node (some Tryz.t30) (.node (some Tryz.t46) (.node (some Tryz.t78) (.node (some Tryz.t142) (.node (some Tryz.t270) (.node (some Tryz.t526) .nil .nil) .nil) (.node (some Tryz.t398) .nil .nil)) (.node (some Tryz.t206) (.node (some Tryz.t334) (.node (some Tryz.t590) .nil .nil) .nil) (.node (some Tryz.t462) .nil .nil))) (.node (some Tryz.t110) (.node (some Tryz.t174) (.node (some Tryz.t302) (.node (some Tryz.t558) .nil .nil) .nil) (.node (some Tryz.t430) .nil .nil)) (.node (some Tryz.t238) (.node (some Tryz.t366) (.node (some Tryz.t622) .nil .nil) .nil) (.node (some Tryz.t494) .nil .nil)))) (.node (some Tryz.t62) (.node (some Tryz.t94) (.node (some Tryz.t158) (.node (some Tryz.t286) (.node (some Tryz.t542) .nil .nil) .nil) (.node (some Tryz.t414) .nil .nil)) (.node (some Tryz.t222) (.node (some Tryz.t350) (.node (some Tryz.t606) .nil .nil) .nil) (.node (some Tryz.t478) .nil .nil))) (.node (some Tryz.t126) (.node (some Tryz.t190) (.node (some Tryz.t318) (.node (some Tryz.t574) .nil .nil) .nil) (.node (some Tryz.t446) .nil .nil)) (.node (some Tryz.t254) (.node (some Tryz.t382) (.node (some Tryz.t638) .nil .nil) .nil) (.node (some Tryz.t510) .nil .nil)))))))))
noncomputable def FT : Tr Func := (.node (some Tryz.f0) (.node (some Tryz.f1) (.node (some Tryz.f3) (.node (some Tryz.f7) (.node (some Tryz.f15) (.node (some Tryz.f31) (.node (some Tryz.f63) (.node (some Tryz.f127) (.node (some Tryz.f255) .nil .nil) (.node (some Tryz.f383) .nil .nil)) (.node (some Tryz.f191) (.node (some Tryz.f319) .nil .nil) (.node (some Tryz.f447) .nil .nil))) (.node (some Tryz.f95) (.node (some Tryz.f159) (.node (some Tryz.f287) .nil .nil) (.node (some Tryz.f415) .nil .nil)) (.node (some Tryz.f223) (.node (some Tryz.f351) .nil .nil) (.node (some Tryz.f479) .nil .nil)))) (.node (some Tryz.f47) (.node (some Tryz.f79) (.node (some Tryz.f143) (.node (some Tryz.f271) .nil .nil) (.node (some Tryz.f399) .nil .nil)) (.node (some Tryz.f207) (.node (some Tryz.f335) .nil .nil) (.node (some Tryz.f463) .nil .nil))) (.node (some Tryz.f111) (.node (some Tryz.f175) (.node (some Tryz.f303) .nil .nil) (.node (some Tryz.f431) .nil .nil)) (.node (some Tryz.f239) (.node (some Tryz.f367) .nil .nil) (.node (some Tryz.f495) .nil .nil))))) (.node (some Tryz.f23) (.node (some Tryz.f39) (.node (some Tryz.f71) (.node (some Tryz.f135) (.node (some Tryz.f263) .nil .nil) (.node (some Tryz.f391) .nil .nil)) (.node (some Tryz.f199) (.node (some Tryz.f327) .nil .nil) (.node (some Tryz.f455) .nil .nil))) (.node (some Tryz.f103) (.node (some Tryz.f167) (.node (some Tryz.f295) .nil .nil) (.node (some Tryz.f423) .nil .nil)) (.node (some Tryz.f231) (.node (some Tryz.f359) .nil .nil) (.node (some Tryz.f487) .nil .nil)))) (.node (some Tryz.f55) (.node (some Tryz.f87) (.node (some Tryz.f151) (.node (some Tryz.f279) .nil .nil) (.node (some Tryz.f407) .nil .nil)) (.node (some Tryz.f215) (.node (some Tryz.f343) .nil .nil) (.node (some Tryz.f471) .nil .nil))) (.node (some Tryz.f119) (.node (some Tryz.f183) (.node (some Tryz.f311) .nil .nil) (.node (some Tryz.f439) .nil .nil)) (.node (some Tryz.f247) (.node (some Tryz.f375) .nil .nil) .nil))))) (.node (some Tryz.f11) (.node (some Tryz.f19) (.node (some Tryz.f35) (.node (some Tryz.f67) (.node (some Tryz.f131) (.node (some Tryz.f259) .nil .nil) (.node (some Tryz.f387) .nil .nil)) (.node (some Tryz.f195) (.node (some Tryz.f323) .nil .nil) (.node (some Tryz.f451) .nil .nil))) (.node (some Tryz.f99) (.node (some Tryz.f163) (.node (some Tryz.f291) .nil .nil) (.node (some Tryz.f419) .nil .nil)) (.node (some Tryz.f227) (.node (some Tryz.f355) .nil .nil) (.node (some Tryz.f483) .nil .nil)))) (.node (some Tryz.f51) (.node (some Tryz.f83) (.node (some Tryz.f147) (.node (some Tryz.f275) .nil .nil) (.node (some Tryz.f403) .nil .nil)) (.node (some Tryz.f211) (.node (some Tryz.f339) .nil .nil) (.node (some Tryz.f467) .nil .nil))) (.node (some Tryz.f115) (.node (some Tryz.f179) (.node (some Tryz.f307) .nil .nil) (.node (some Tryz.f435) .nil .nil)) (.node (some Tryz.f243) (.node (some Tryz.f371) .nil .nil) .nil)))) (.node (some Tryz.f27) (.node (some Tryz.f43) (.node (some Tryz.f75) (.node (some Tryz.f139) (.node (some Tryz.f267) .nil .nil) (.node (some Tryz.f395) .nil .nil)) (.node (some Tryz.f203) (.node (some Tryz.f331) .nil .nil) (.node (some Tryz.f459) .nil .nil))) (.node (some Tryz.f107) (.node (some Tryz.f171) (.node (some Tryz.f299) .nil .nil) (.node (some Tryz.f427) .nil .nil)) (.node (some Tryz.f235) (.node (some Tryz.f363) .nil .nil) (.node (some Tryz.f491) .nil .nil)))) (.node (some Tryz.f59) (.node (some Tryz.f91) (.node (some Tryz.f155) (.node (some Tryz.f283) .nil .nil) (.node (some Tryz.f411) .nil .nil)) (.node (some Tryz.f219) (.node (some Tryz.f347) .nil .nil) (.node (some Tryz.f475) .nil .nil))) (.node (some Tryz.f123) (.node (some Tryz.f187) (.node (some Tryz.f315) .nil .nil) (.node (some Tryz.f443) .nil .nil)) (.node (some Tryz.f251) (.node (some Tryz.f379) .nil .nil) .nil)))))) (.node (some Tryz.f5) (.node (some Tryz.f9) (.node (some Tryz.f17) (.node (some Tryz.f33) (.node (some Tryz.f65) (.node (some Tryz.f129) (.node (some Tryz.f257) .nil .nil) (.node (some Tryz.f385) .nil .nil)) (.node (some Tryz.f193) (.node (some Tryz.f321) .nil .nil) (.node (some Tryz.f449) .nil .nil))) (.node (some Tryz.f97) (.node (some Tryz.f161) (.node (some Tryz.f289) .nil .nil) (.node (some Tryz.f417) .nil .nil)) (.node (some Tryz.f225) (.node (some Tryz.f353) .nil .nil) (.node (some Tryz.f481) .nil .nil)))) (.node (some Tryz.f49) (.node (some Tryz.f81) (.node (some Tryz.f145) (.node (some Tryz.f273) .nil .nil) (.node (some Tryz.f401) .nil .nil)) (.node (some Tryz.f209) (.node (some Tryz.f337) .nil .nil) (.node (some Tryz.f465) .nil .nil))) (.node (some Tryz.f113) (.node (some Tryz.f177) (.node (some Tryz.f305) .nil .nil) (.node (some Tryz.f433) .nil .nil)) (.node (some Tryz.f241) (.node (some Tryz.f369) .nil .nil) .nil)))) (.node (some Tryz.f25) (.node (some Tryz.f41) (.node (some Tryz.f73) (.node (some Tryz.f137) (.node (some Tryz.f265) .nil .nil) (.node (some Tryz.f393) .nil .nil)) (.node (some Tryz.f201) (.node (some Tryz.f329) .nil .nil) (.node (some Tryz.f457) .nil .nil))) (.node (some Tryz.f105) (.node (some Tryz.f169) (.node (some Tryz.f297) .nil .nil) (.node (some Tryz.f425) .nil .nil)) (.node (some Tryz.f233) (.node (some Tryz.f361) .nil .nil) (.node (some Tryz.f489) .nil .nil)))) (.node (some Tryz.f57) (.node (some Tryz.f89) (.node (some Tryz.f153) (.node (some Tryz.f281) .nil .nil) (.node (some Tryz.f409) .nil .nil)) (.node (some Tryz.f217) (.node (some Tryz.f345) .nil .nil) (.node (some Tryz.f473) .nil .nil))) (.node (some Tryz.f121) (.node (some Tryz.f185) (.node (some Tryz.f313) .nil .nil) (.node (some Tryz.f441) .nil .nil)) (.node (some Tryz.f249) (.node (some Tryz.f377) .nil .nil) .nil))))) (.node (some Tryz.f13) (.node (some Tryz.f21) (.node (some Tryz.f37) (.node (some Tryz.f69) (.node (some Tryz.f133) (.node (some Tryz.f261) .nil .nil) (.node (some Tryz.f389) .nil .nil)) (.node (some Tryz.f197) (.node (some Tryz.f325) .nil .nil) (.node (some Tryz.f453) .nil .nil))) (.node (some Tryz.f101) (.node (some Tryz.f165) (.node (some Tryz.f293) .nil .nil) (.node (some Tryz.f421) .nil .nil)) (.node (some Tryz.f229) (.node (some Tryz.f357) .nil .nil) (.node (some Tryz.f485) .nil .nil)))) (.node (some Tryz.f53) (.node (some Tryz.f85) (.node (some Tryz.f149) (.node (some Tryz.f277) .nil .nil) (.node (some Tryz.f405) .nil .nil)) (.node (some Tryz.f213) (.node (some Tryz.f341) .nil .nil) (.node (some Tryz.f469) .nil .nil))) (.node (some Tryz.f117) (.node (some Tryz.f181) (.node (some Tryz.f309) .nil .nil) (.node (some Tryz.f437) .nil .nil)) (.node (some Tryz.f245) (.node (some Tryz.f373) .nil .nil) .nil)))) (.node (some Tryz.f29) (.node (some Tryz.f45) (.node (some Tryz.f77) (.node (some Tryz.f141) (.node (some Tryz.f269) .nil .nil) (.node (some Tryz.f397) .nil .nil)) (.node (some Tryz.f205) (.node (some Tryz.f333) .nil .nil) (.node (some Tryz.f461) .nil .nil))) (.node (some Tryz.f109) (.node (some Tryz.f173) (.node (some Tryz.f301) .nil .nil) (.node (some Tryz.f429) .nil .nil)) (.node (some Tryz.f237) (.node (some Tryz.f365) .nil .nil) (.node (some Tryz.f493) .nil .nil)))) (.node (some Tryz.f61) (.node (some Tryz.f93) (.node (some Tryz.f157) (.node (some Tryz.f285) .nil .nil) (.node (some Tryz.f413) .nil .nil)) (.node (some Tryz.f221) (.node (some Tryz.f349) .nil .nil) (.node (some Tryz.f477) .nil .nil))) (.node (some Tryz.f125) (.node (some Tryz.f189) (.node (some Tryz.f317) .nil .nil) (.node (some Tryz.f445) .nil .nil)) (.node (some Tryz.f253) (.node (some Tryz.f381) .nil .nil) .nil))))))) (.node (some Tryz.f2) (.node (some Tryz.f4) (.node (some Tryz.f8) (.node (some Tryz.f16) (.node (some Tryz.f32) (.node (some Tryz.f64) (.node (some Tryz.f128) (.node (some Tryz.f256) .nil .nil) (.node (some Tryz.f384) .nil .nil)) (.node (some Tryz.f192) (.node (some Tryz.f320) .nil .nil) (.node (some Tryz.f448) .nil .nil))) (.node (some Tryz.f96) (.node (some Tryz.f160) (.node (some Tryz.f288) .nil .nil) (.node (some Tryz.f416) .nil .nil)) (.node (some Tryz.f224) (.node (some Tryz.f352) .nil .nil) (.node (some Tryz.f480) .nil .nil)))) (.node (some Tryz.f48) (.node (some Tryz.f80) (.node (some Tryz.f144) (.node (some Tryz.f272) .nil .nil) (.node (some Tryz.f400) .nil .nil)) (.node (some Tryz.f208) (.node (some Tryz.f336) .nil .nil) (.node (some Tryz.f464) .nil .nil))) (.node (some Tryz.f112) (.node (some Tryz.f176) (.node (some Tryz.f304) .nil .nil) (.node (some Tryz.f432) .nil .nil)) (.node (some Tryz.f240) (.node (some Tryz.f368) .nil .nil) .nil)))) (.node (some Tryz.f24) (.node (some Tryz.f40) (.node (some Tryz.f72) (.node (some Tryz.f136) (.node (some Tryz.f264) .nil .nil) (.node (some Tryz.f392) .nil .nil)) (.node (some Tryz.f200) (.node (some Tryz.f328) .nil .nil) (.node (some Tryz.f456) .nil .nil))) (.node (some Tryz.f104) (.node (some Tryz.f168) (.node (some Tryz.f296) .nil .nil) (.node (some Tryz.f424) .nil .nil)) (.node (some Tryz.f232) (.node (some Tryz.f360) .nil .nil) (.node (some Tryz.f488) .nil .nil)))) (.node (some Tryz.f56) (.node (some Tryz.f88) (.node (some Tryz.f152) (.node (some Tryz.f280) .nil .nil) (.node (some Tryz.f408) .nil .nil)) (.node (some Tryz.f216) (.node (some Tryz.f344) .nil .nil) (.node (some Tryz.f472) .nil .nil))) (.node (some Tryz.f120) (.node (some Tryz.f184) (.node (some Tryz.f312) .nil .nil) (.node (some Tryz.f440) .nil .nil)) (.node (some Tryz.f248) (.node (some Tryz.f376) .nil .nil) .nil))))) (.node (some Tryz.f12) (.node (some Tryz.f20) (.node (some Tryz.f36) (.node (some Tryz.f68) (.node (some Tryz.f132) (.node (some Tryz.f260) .nil .nil) (.node (some Tryz.f388) .nil .nil)) (.node (some Tryz.f196) (.node (some Tryz.f324) .nil .nil) (.node (some Tryz.f452) .nil .nil))) (.node (some Tryz.f100) (.node (some Tryz.f164) (.node (some Tryz.f292) .nil .nil) (.node (some Tryz.f420) .nil .nil)) (.node (some Tryz.f228) (.node (some Tryz.f356) .nil .nil) (.node (some Tryz.f484) .nil .nil)))) (.node (some Tryz.f52) (.node (some Tryz.f84) (.node (some Tryz.f148) (.node (some Tryz.f276) .nil .nil) (.node (some Tryz.f404) .nil .nil)) (.node (some Tryz.f212) (.node (some Tryz.f340) .nil .nil) (.node (some Tryz.f468) .nil .nil))) (.node (some Tryz.f116) (.node (some Tryz.f180) (.node (some Tryz.f308) .nil .nil) (.node (some Tryz.f436) .nil .nil)) (.node (some Tryz.f244) (.node (some Tryz.f372) .nil .nil) .nil)))) (.node (some Tryz.f28) (.node (some Tryz.f44) (.node (some Tryz.f76) (.node (some Tryz.f140) (.node (some Tryz.f268) .nil .nil) (.node (some Tryz.f396) .nil .nil)) (.node (some Tryz.f204) (.node (some Tryz.f332) .nil .nil) (.node (some Tryz.f460) .nil .nil))) (.node (some Tryz.f108) (.node (some Tryz.f172) (.node (some Tryz.f300) .nil .nil) (.node (some Tryz.f428) .nil .nil)) (.node (some Tryz.f236) (.node (some Tryz.f364) .nil .nil) (.node (some Tryz.f492) .nil .nil)))) (.node (some Tryz.f60) (.node (some Tryz.f92) (.node (some Tryz.f156) (.node (some Tryz.f284) .nil .nil) (.node (some Tryz.f412) .nil .nil)) (.node (some Tryz.f220) (.node (some Tryz.f348) .nil .nil) (.node (some Tryz.f476) .nil .nil))) (.node (some Tryz.f124) (.node (some Tryz.f188) (.node (some Tryz.f316) .nil .nil) (.node (some Tryz.f444) .nil .nil)) (.node (some Tryz.f252) (.node (some Tryz.f380) .nil .nil) .nil)))))) (.node (some Tryz.f6) (.node (some Tryz.f10) (.node (some Tryz.f18) (.node (some Tryz.f34) (.node (some Tryz.f66) (.node (some Tryz.f130) (.node (some Tryz.f258) .nil .nil) (.node (some Tryz.f386) .nil .nil)) (.node (some Tryz.f194) (.node (some Tryz.f322) .nil .nil) (.node (some Tryz.f450) .nil .nil))) (.node (some Tryz.f98) (.node (some Tryz.f162) (.node (some Tryz.f290) .nil .nil) (.node (some Tryz.f418) .nil .nil)) (.node (some Tryz.f226) (.node (some Tryz.f354) .nil .nil) (.node (some Tryz.f482) .nil .nil)))) (.node (some Tryz.f50) (.node (some Tryz.f82) (.node (some Tryz.f146) (.node (some Tryz.f274) .nil .nil) (.node (some Tryz.f402) .nil .nil)) (.node (some Tryz.f210) (.node (some Tryz.f338) .nil .nil) (.node (some Tryz.f466) .nil .nil))) (.node (some Tryz.f114) (.node (some Tryz.f178) (.node (some Tryz.f306) .nil .nil) (.node (some Tryz.f434) .nil .nil)) (.node (some Tryz.f242) (.node (some Tryz.f370) .nil .nil) .nil)))) (.node (some Tryz.f26) (.node (some Tryz.f42) (.node (some Tryz.f74) (.node (some Tryz.f138) (.node (some Tryz.f266) .nil .nil) (.node (some Tryz.f394) .nil .nil)) (.node (some Tryz.f202) (.node (some Tryz.f330) .nil .nil) (.node (some Tryz.f458) .nil .nil))) (.node (some Tryz.f106) (.node (some Tryz.f170) (.node (some Tryz.f298) .nil .nil) (.node (some Tryz.f426) .nil .nil)) (.node (some Tryz.f234) (.node (some Tryz.f362) .nil .nil) (.node (some Tryz.f490) .nil .nil)))) (.node (some Tryz.f58) (.node (some Tryz.f90) (.node (some Tryz.f154) (.node (some Tryz.f282) .nil .nil) (.node (some Tryz.f410) .nil .nil)) (.node (some Tryz.f218) (.node (some Tryz.f346) .nil .nil) (.node (some Tryz.f474) .nil .nil))) (.node (some Tryz.f122) (.node (some Tryz.f186) (.node (some Tryz.f314) .nil .nil) (.node (some Tryz.f442) .nil .nil)) (.node (some Tryz.f250) (.node (some Tryz.f378) .nil .nil) .nil))))) (.node (some Tryz.f14) (.node (some Tryz.f22) (.node (some Tryz.f38) (.node (some Tryz.f70) (.node (some Tryz.f134) (.node (some Tryz.f262) .nil .nil) (.node (some Tryz.f390) .nil .nil)) (.node (some Tryz.f198) (.node (some Tryz.f326) .nil .nil) (.node (some Tryz.f454) .nil .nil))) (.node (some Tryz.f102) (.node (some Tryz.f166) (.node (some Tryz.f294) .nil .nil) (.node (some Tryz.f422) .nil .nil)) (.node (some Tryz.f230) (.node (some Tryz.f358) .nil .nil) (.node (some Tryz.f486) .nil .nil)))) (.node (some Tryz.f54) (.node (some Tryz.f86) (.node (some Tryz.f150) (.node (some Tryz.f278) .nil .nil) (.node (some Tryz.f406) .nil .nil)) (.node (some Tryz.f214) (.node (some Tryz.f342) .nil .nil) (.node (some Tryz.f470) .nil .nil))) (.node (some Tryz.f118) (.node (some Tryz.f182) (.node (some Tryz.f310) .nil .nil) (.node (some Tryz.f438) .nil .nil)) (.node (some Tryz.f246) (.node (some Tryz.f374) .nil .nil) .nil)))) (.node (some Tryz.f30) (.node (some Tryz.f46) (.node (some Tryz.f78) (.node (some Tryz.f142) (.node (some Tryz.f270) .nil .nil) (.node (some Tryz.f398) .nil .nil)) (.node (some Tryz.f206) (.node (some Tryz.f334) .nil .nil) (.node (some Tryz.f462) .nil .nil))) (.node (some Tryz.f110) (.node (some Tryz.f174) (.node (some Tryz.f302) .nil .nil) (.node (some Tryz.f430) .nil .nil)) (.node (some Tryz.f238) (.node (some Tryz.f366) .nil .nil) (.node (some Tryz.f494) .nil .nil)))) (.node (some Tryz.f62) (.node (some Tryz.f94) (.node (some Tryz.f158) (.node (some Tryz.f286) .nil .nil) (.node (some Tryz.f414) .nil .nil)) (.node (some Tryz.f222) (.node (some Tryz.f350) .nil .nil) (.node (some Tryz.f478) .nil .nil))) (.node (some Tryz.f126) (.node (some Tryz.f190) (.node (some Tryz.f318) .nil .nil) (.node (some Tryz.f446) .nil .nil)) (.node (some Tryz.f254) (.node (some Tryz.f382) .nil .nil) .nil))))))))

theorem TT_eq : TT = ofL 0 Tryz.types.toList .nil := by kernel_rfl
theorem FT_eq : FT = ofL 0 Tryz.funcs.toList .nil := by kernel_rfl
theorem TT_get (t : Nat) (i : TypeInfo) (h : TT.get t = some i) : Tryz.prog.types[t]? = some i := by
  rw [TT_eq, ofL_nil_get] at h
  have : Tryz.prog.types = Tryz.types := by kernel_rfl
  rw [this]; simpa using h
theorem FT_get (t : Nat) (i : Func) (h : FT.get t = some i) : Tryz.prog.funcs[t]? = some i := by
  rw [FT_eq, ofL_nil_get] at h
  have : Tryz.prog.funcs = Tryz.funcs := rfl
  rw [this]; simpa using h
end
end Sw
