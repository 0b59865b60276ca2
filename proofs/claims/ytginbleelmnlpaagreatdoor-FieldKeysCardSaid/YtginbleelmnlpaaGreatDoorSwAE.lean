/- A part of the proof that the law returns true for every input that its row speaks of. No condition is added. -/
import Derived.Test.YtginbleelmnlpaaGreatDoorSwAD
import Derived.Orders
import Derived.KernelRfl
namespace Sw
noncomputable section
open Go Go.RowKit
theorem count_set : ∀ (l : List Bool) (i : Nat), l[i]? = some false → (l.set i true).count false + 1 = l.count false
  | [], i, h => by simp at h
  | x :: l, 0, h => by
    simp at h
    subst h
    simp
  | x :: l, i + 1, h => by
    simp at h
    have := count_set l i h
    cases x <;> simp [List.count_cons] <;> omega
section
variable {P : Program} {ng ng' : Nat} {B0 : Nat} {w0 : World} {nt nx0 : Nat} {ops : Array Oper} {L : Nat} {listed : Array Bool} {s : St} {a : Act} {w : World} {g : Gm} {bm : List Nat} {e : Env} {rec : Rec} {b : Frame} {rn : Option Nat} {md : Region.Mode}
theorem ready_iff (hsz : listed.size = ops.toList.length) {i : Nat} : i ∈ Region.ready md ops listed ↔ i < ops.toList.length ∧ ¬ Lst listed i ∧ ∀ ed ∈ edgesAt ops.toList i, Region.binds md ed = true → Lst listed ed.on := by
  unfold Region.ready
  rw [List.mem_filter, List.mem_range]
  have hn : ops.toList.length = ops.size := by simp
  rw [hn]
  by_cases hi : i < ops.size
  · have h1 : nthO i ops.toList = some ops[i] := by rw [nthO_get]; simp [hi]
    have h2 : edgesAt ops.toList i = ops[i].after.toList := by simp [edgesAt, h1]
    have h3 : i < listed.size := by omega
    rw [h2]
    simp only [hi, true_and]
    have e1 : listed.getD i true = listed[i] := by simp [Array.getD, h3]
    have e2 : Lst listed i ↔ listed[i] = true := by unfold Lst; rw [Array.getElem?_eq_getElem h3]; simp
    have e3 : ∀ k, listed.getD k false = true ↔ Lst listed k := fun k => by
      unfold Lst
      by_cases hk : k < listed.size
      · simp [Array.getD, hk]
      · simp [Array.getD, hk]
    rw [e1, e2]
    simp only [hi, Array.getElem?_eq_getElem, Option.map_some, Option.getD_some, Bool.and_eq_true, Bool.not_eq_true', ← Array.all_toList, List.all_eq_true, Bool.or_eq_true, e3]
    constructor
    · rintro ⟨q1, q2⟩
      refine ⟨by simpa using q1, fun ed he hb => ?_⟩
      rcases q2 ed he with h | h
      · rw [hb] at h; cases h
      · exact h
    · rintro ⟨q1, q2⟩
      refine ⟨by simpa using q1, fun ed he => ?_⟩
      cases hb : Region.binds md ed with
      | false => exact .inl rfl
      | true => exact .inr (q2 ed he hb)
  · simp [hi]
theorem drawn_done (D : DInv B0 w0 nt nx0 ops.toList L listed s a w g) {eff : Option Nat} {rest : List Stage} (SE : StageEnd ops.toList bm L eff rest) (hall : ∀ i, i < ops.toList.length → Lst listed i) (fm : Fm) :
    RegSays P B0 w0 b nt g nx0 ops [] a w fun cs => tailE ops.toList e rec fm eff rest (s.at cs) := by
  cases eff with
  | some y =>
    obtain ⟨h1, _, h3, _⟩ := SE.next y rfl
    rw [D.sub y (hall y h1)] at h3
    cases h3
  | none =>
    refine .here (.inr ⟨s, fun cs => rfl, a, w, g, ⟨D.heap, ⟨D.tsz, fun x hx => D.tmps x hx fun i hi _ => hi.2.2 (hall i hi.1)⟩, D.ds⟩, Ext.low (Ext.refl _ _ _) D.low, fun k cs => .refl ..⟩)
theorem RegSays.pre {l : List Nat} {i : Nat} {a' : Act} {w' : World} {g' : Gm} {r : List Nat → R} (h : RegSays P B0 w0 b nt g' nx0 ops l a' w' r) (hE : ∀ nx', nx0 ≤ nx' → Ext g nx0 w g' nx' w')
    (st : ∀ rest k cs, Steps P (lone (At b a (.inRegion ops (i :: rest) :: k)) cs w) (lone (At b a' (.inRegion ops rest :: k)) cs w')) : RegSays P B0 w0 b nt g nx0 ops (i :: l) a w r := by
  refine h.mono fun f' h => ?_
  rcases h with h | ⟨s', h, a2, w2, g2, S2, E2, st2⟩
  · exact .inl h
  · exact .inr ⟨s', h, a2, w2, g2, S2, (hE nx0 (Nat.le_refl _)).trans0 E2, fun k cs => (st l k cs).trans (st2 k cs)⟩
theorem Ext.atNx {n1 n2 : Nat} {w' : World} {g' : Gm} (h : Ext g nx0 w g' n1 w') (k : nx0 ≤ n2) : Ext g nx0 w g' n2 w' := ⟨⟨h.ext.le, k, h.ext.new⟩, h.kept, h.held⟩
theorem drawn_says (ok : EnvOk P ng e) (kok : KOk P ng B0 w0 e) (ih : RecSays P ng B0 w0 rec) (dok : DOk ng' nt ops.toList) (pf : PlanFacts ops.toList bm) (f : FuncId) {is : List Nat} (ht : topoOk md ops.toList is 0 = true) :
    ∀ (fuel t : Nat) (listed : Array Bool) (L : Nat) (s : St) (a : Act) (w : World) (g : Gm) (eff : Option Nat) (rest : List Stage),
      DInv B0 w0 nt nx0 ops.toList L listed s a w g → (∀ i, Pnd ops.toList L listed i → ∀ o, nthO i ops.toList = some o → Good ops.toList o e.T s.hp s.nx s.to) → StageEnd ops.toList bm L eff rest →
      listed.size = ops.toList.length → listed.toList.count false ≤ fuel → RndOk g b rn → GlobOk g ng → GlobOk g ng' →
      RegSays P B0 w0 b nt g nx0 ops (Region.linearise.go md ops fuel t listed []) a w fun cs => tailE ops.toList e rec ⟨f, nt, rn⟩ eff rest (s.at cs) := by
  intro fuel
  induction fuel with
  | zero =>
    intro t listed L s a w g eff rest D good SE hsz hcount hrn hg hg'
    have hall : ∀ i, i < ops.toList.length → Lst listed i := by
      intro i hi
      have hi' : i < listed.size := by omega
      cases hb : listed[i] with
      | true => unfold Lst; rw [Array.getElem?_eq_getElem hi', hb]
      | false =>
        exfalso
        have : false ∈ listed.toList := by rw [← hb]; simp
        have := List.count_pos_iff.2 this
        omega
    simp only [Region.linearise.go]
    exact drawn_done D SE hall _
  | succ fuel ihf =>
    intro t listed L s a w g eff rest D good SE hsz hcount hrn hg hg'
    simp only [Region.linearise.go]
    change RegSays P B0 w0 b nt g nx0 ops (match (Region.ready md ops listed)[t % (Region.ready md ops listed).length]? with
      | some i => Region.linearise.go md ops fuel (t / (Region.ready md ops listed).length) (listed.setIfInBounds i true) [i]
      | none => [].reverse) a w _
    cases hri : (Region.ready md ops listed)[t % (Region.ready md ops listed).length]? with
    | none =>
      have hnil : Region.ready md ops listed = [] := by
        cases hr : Region.ready md ops listed with
        | nil => rfl
        | cons x xs =>
          rw [hr] at hri
          have hlt : t % (x :: xs).length < (x :: xs).length := Nat.mod_lt _ (by simp)
          simp at hri
          simp at hlt
          omega
      have hall : ∀ i, i < ops.toList.length → Lst listed i := by
        rcases topo_ready (lst := Lst listed) is 0 ht (fun i h => by rw [has_zero] at h; cases h) with h | ⟨i, h1, h2, h3⟩
        · exact h
        · have := (ready_iff hsz).2 ⟨h1, h2, h3⟩
          rw [hnil] at this; cases this
      exact drawn_done D SE hall _
    | some i =>
      simp only []
      rw [linearise_go_acc, List.reverse_singleton, List.singleton_append]
      obtain ⟨hi, hnl, hed⟩ := (ready_iff hsz).1 (List.mem_of_getElem? hri)
      have hed : ∀ ed ∈ edgesAt ops.toList i, Region.binds .any ed = true → Lst listed ed.on := fun ed he hb => hed ed he (binds_any hb)
      obtain ⟨o, ho⟩ := nthO_some (all := ops.toList) hi
      have ho' : ops[i]? = some o := by rw [nthO_get] at ho; simpa using ho
      have hsz' : i < listed.size := by omega
      have hcount' : (listed.setIfInBounds i true).toList.count false ≤ fuel := by
        have hf : listed.toList[i]? = some false := by
          rw [Array.getElem?_toList]
          unfold Lst at hnl
          rw [Array.getElem?_eq_getElem hsz'] at hnl ⊢
          cases hb : listed[i] with
          | false => rfl
          | true => rw [hb] at hnl; exact absurd rfl hnl
        have := count_set _ i hf
        rw [Array.toList_setIfInBounds]
        omega
      have hρ := ready_ops D dok pf hg' ho hed
      have hG := ready_guard D dok pf ho hed
      rcases SE.ready i hi with hL | hL | hL
      ·
        have hp : Pnd ops.toList L listed i := ⟨hi, hL, hnl⟩
        have hcl := D.pend i hp
        obtain ⟨v', w', g', H', hv, E', hnew, st⟩ := pend_step (b := b) (nx0 := nx0) ok D.heap ho' hρ hG D.low (good i hp o ho) (fun hc d m hd hm => by
          obtain ⟨q1, q2, q3, _⟩ := D.blk i hp (by rw [clsAt_o ho]; exact hc) d m (by rw [dstAt_o ho]; exact hd) hm
          exact ⟨q1, q2, q3⟩)
        have D' := D.pendStep dok pf ho hp hsz' hed H' hv E' hnew
        refine RegSays.pre (ihf _ _ L s _ w' g' eff rest D' (fun k hk o' ho' => good k ⟨hk.1, hk.2.1, fun h => hk.2.2 ((lst_set hsz').2 (.inr h))⟩ o' ho') SE (by simpa using hsz) hcount' (hrn.mono E'.ext.le) (hg.mono E'.ext.le) (hg'.mono E'.ext.le)) (fun nx' h => E'.atNx h) st
      ·
        subst hL
        obtain ⟨_, hcls, hLi, hst⟩ := SE.next i rfl
        have hcomp : compAt ops.toList i = compOp ops.toList o := by simp [compAt, ho]
        have hrun : (fun cs => tailE ops.toList e rec ⟨f, nt, rn⟩ (some i) rest (s.at cs)) = fun cs => (compOp ops.toList o).run e rec ⟨f, nt, rn⟩ s.to s.ds s.hp s.nx cs (fun st2 => evStages (stC ops.toList rest) e rec ⟨f, nt, rn⟩ st2) := by
          funext cs; simp only [tailE, hcomp]; rfl
        rw [hrun]
        have says := compOp_says (to := s.to) (i := i) (ops := ops) (rn := rn) (R := ⟨ok, kok, ih, D.heap, hg, D.ds, hrn⟩) ho' hρ hG f nt
        refine (says _).bind fun f' h => ?_
        rcases h with h | ⟨v, ds', hp', nx', h, v', dfs', w1, g1, H1, V1, D1, E1, st1⟩
        · exact .dead h
        · have D2 := D.effStep dok pf ho hLi hsz' hed H1 V1 D1 E1
          have hrun : f' = fun cs => evStages (stC ops.toList rest) e rec ⟨f, nt, rn⟩ ((⟨(dstC o.dst).run s.to v, ds', hp', nx', []⟩ : St).at cs) := funext h
          rw [hrun]
          cases rest with
          | nil => simp [stagesOk] at hst
          | cons sg rest =>
            rcases stage_inv (e := e) (rec := rec) (fm := ⟨f, nt, rn⟩) dok pf D2 hst (fun y hy => by cases hy; exact ⟨hi, (lst_set hsz').2 (.inl rfl)⟩) with q | ⟨s3, L3, D3, SE3, good3, q⟩
            · exact .dead fun cs => q cs
            · have hrun : (fun cs => evStages (stC ops.toList (sg :: rest)) e rec ⟨f, nt, rn⟩ ((⟨(dstC o.dst).run s.to v, ds', hp', nx', []⟩ : St).at cs)) = fun cs => tailE ops.toList e rec ⟨f, nt, rn⟩ sg.eff rest (s3.at cs) := funext q
              rw [hrun]
              have E1' := (E1.low D.low)
              exact RegSays.pre (ihf _ _ L3 s3 _ w1 g1 sg.eff rest D3 good3 SE3 (by simpa using hsz) hcount' (hrn.mono E1.ext.le) (hg.mono E1.ext.le) (hg'.mono E1.ext.le)) (fun nx' h => E1'.atNx h) st1
      · exfalso
        have : sub (maskAt .any ops.toList i) L = true := sub_of fun x hx => by
          obtain ⟨ed, h1, h2, rfl⟩ := maskAt_has.1 hx
          exact D.sub _ (hed ed h1 h2)
        rw [hL] at this; cases this
end
end
end Sw

namespace Sw
noncomputable section
open Go Go.RowKit
section
variable {P : Program} {ng ng' : Nat} {B0 : Nat} {w0 : World} {nt : Nat} {ops : Array Oper} {s : St} {a : Act} {w : World} {g : Gm} {e : Env} {rec : Rec} {b : Frame} {rn : Option Nat}
theorem topoOk_any {all : List Oper} : ∀ (is : List Nat) (L : Nat), topoOk .text all is L = true → topoOk .any all is L = true
  | [], L, h => h
  | i :: is, L, h => by
    simp only [topoOk, Bool.and_eq_true] at h ⊢
    refine ⟨h.1, sub_of fun x hx => ?_, topoOk_any is _ h.2.2⟩
    obtain ⟨ed, h1, h2, rfl⟩ := maskAt_has.1 hx
    exact sub_has h.2.1 (maskAt_has.2 ⟨ed, h1, binds_any h2, rfl⟩)
theorem st_region_draw {id : Nat} {k : List Item} {cs : List Frame} :
    step P (lone (At b a (.code (.region id ops true) :: k)) cs w) =
      .next (lone (At b a (.inRegion ops (Region.schedule (P.follows .mixedOrders) ops (w.tape w.drawn (.order b.fn id))) :: k)) cs { w with drawn := w.drawn + 1 }) :=
  step_lone_go (by simp [stepG, stepG.exec, At, choose, Sem.run, Question.forced, Question.cut])
theorem schedule_mode (mixed : Bool) (t : Nat) : ∃ md t', Region.schedule mixed ops t = Region.linearise md ops t' ∧ (md = .any ∨ md = .text ∨ md = .gc) := by
  unfold Region.schedule
  split
  · exact ⟨_, _, rfl, .inl rfl⟩
  · split
    · exact ⟨_, _, rfl, .inr (.inl rfl)⟩
    · exact ⟨_, _, rfl, .inr (.inr rfl)⟩
theorem region_draw (ok : EnvOk P ng e) (kok : KOk P ng B0 w0 e) (ih : RecSays P ng B0 w0 rec) (hn : nt ≤ 512) (hok : ops.toList.all (operOk ng' nt) = true) (hdr : drawOk ops.toList = true) (f : FuncId) (id : Nat) (S : SRel B0 w0 g nt s a w) (hg : GlobOk g ng) (hg' : GlobOk g ng') (hrn : RndOk g b rn) :
    Says P B0 w0 b nt g s.nx (.region id ops true) a w fun cs => evStages (stC ops.toList (mkPlan ops.toList).stages) e rec ⟨f, nt, rn⟩ (s.at cs) := by
  obtain ⟨pf, t1, t2, t3⟩ := planFacts hdr
  have dok : DOk ng' nt ops.toList := ⟨hn, hok⟩
  obtain ⟨md, t', hsch, hmd⟩ := schedule_mode (ops := ops) (P.follows .mixedOrders) (w.tape w.drawn (.order b.fn id))
  have htopo : ∃ is, topoOk md ops.toList is 0 = true := by
    rcases hmd with rfl | rfl | rfl
    · exact ⟨_, topoOk_any _ _ t1⟩
    · exact ⟨_, t1⟩
    · exact ⟨_, t2⟩
  obtain ⟨is, htopo⟩ := htopo
  let w1 : World := { w with drawn := w.drawn + 1 }
  have H1 : HRel B0 w0 g s.hp.get s.nx w1 := S.heap.of_heap rfl rfl rfl rfl
  have E1 : Ext g s.nx w g s.nx w1 := ⟨GExt.refl _ _, ⟨Nat.le_refl _, fun _ _ _ => rfl⟩, Held.refl _ _⟩
  let listed : Array Bool := Array.replicate ops.size false
  have hls : listed.size = ops.toList.length := by simp [listed]
  have hnl : ∀ i, ¬ Lst listed i := fun i h => by
    unfold Lst at h
    simp only [listed, Array.getElem?_replicate] at h
    split at h <;> cases h
  have hnp : ∀ i, ¬ Pnd ops.toList 0 listed i := fun i h => by have := h.2.1; rw [has_zero] at this; cases this
  have D : DInv B0 w0 nt s.nx ops.toList 0 listed s a w1 g :=
    ⟨fun i h => absurd h (hnl i), fun i h => absurd h (hnp i), fun i h => absurd h (hnl i), H1, S.act.2, S.act.1.1, fun x hx _ => S.act.1.2 x hx, Nat.le_refl _, fun i h => absurd h (hnp i)⟩
  cases hst : (mkPlan ops.toList).stages with
  | nil => rw [hst] at t3; simp [stagesOk] at t3
  | cons sg rest =>
    rw [hst] at t3
    rcases stage_inv (e := e) (rec := rec) (fm := ⟨f, nt, rn⟩) dok pf D t3 (fun y hy => by cases hy) with q | ⟨s1, L1, D1, SE1, good1, q⟩
    · exact .dead fun cs => q cs
    · have hrun : (fun cs => evStages (stC ops.toList (sg :: rest)) e rec ⟨f, nt, rn⟩ (s.at cs)) = fun cs => tailE ops.toList e rec ⟨f, nt, rn⟩ sg.eff rest (s1.at cs) := funext q
      rw [hrun]
      have main := drawn_says (b := b) (rn := rn) (nx0 := s.nx) ok kok ih dok pf f htopo ops.size t' listed L1 s1 a w1 g sg.eff rest D1 good1 SE1 hls (by simp [listed]) hrn hg hg'
      refine main.mono fun f' h => ?_
      rcases h with h | ⟨s', h, a', w', g', S', E', st⟩
      · exact .inl h
      · refine .inr ⟨0, s', h, a', w', g', S', E1.trans0 E', fun k cs => ⟨k, rfl, ?_⟩⟩
        have s1 := Steps.one (st_region_draw (P := P) (b := b) (a := a) (w := w) (k := k) (cs := cs) (id := id) (ops := ops))
        rw [hsch] at s1
        exact (s1.trans (st k cs)).trans (.one st_regionEnd)
end
end
end Sw

namespace Sw
noncomputable section
open Go Go.RowKit
section
variable {P : Program} {ng : Nat} {B0 : Nat} {w0 : World} {e : Env}
theorem Says.dead {b : Frame} {nt : Nat} {g : Gm} {nx : Nat} {c : Code} {a : Act} {w : World} {r : List Nat → R} (h : ∀ cs, ∃ m, r cs = .need m) : Says P B0 w0 b nt g nx c a w r := Plays.dead h
theorem Says.part {b : Frame} {nt : Nat} {g : Gm} {nx : Nat} {c c1 : Code} {a : Act} {w : World} {r r2 : List Nat → R} (h : Says P B0 w0 b nt g nx c1 a w r) (hn : ∀ p m, r p = .need m → r2 p = .need m)
    (k : ∀ pre o s', (∀ cs, r (pre ++ cs) = .ok (o, s'.at cs)) → Lands P B0 w0 b nt g nx c1 a w o s' → Says P B0 w0 b nt g nx c a w fun rest => r2 (pre ++ rest)) : Says P B0 w0 b nt g nx c a w r2 := by
  refine Plays.map h hn fun pre h => ?_
  rcases h with h | ⟨o, s', h, L⟩
  · exact .dead fun cs => by obtain ⟨m, h⟩ := h cs; exact ⟨m, hn _ _ h⟩
  · exact k pre o s' h L
theorem CodeOk.seq {g : Gm} {nt : Nat} {a b : Code} (h : CodeOk g nt (.seq a b)) : CodeOk g nt a ∧ CodeOk g nt b := by
  obtain ⟨ng, h1, h2⟩ := h
  simp only [codeOk, Bool.and_eq_true] at h2
  exact ⟨⟨ng, h1, h2.1⟩, ⟨ng, h1, h2.2⟩⟩
theorem ev_step (ok : EnvOk P ng e) (kok : KOk P ng B0 w0 e) {rec : Rec} (ih : RecSays P ng B0 w0 rec) : RecSays P ng B0 w0 (fun fm c s => evF c e rec fm s) := by
  intro fm c s b a w g hfn hrn hg hnt hok S
  obtain ⟨fn, nt, rn⟩ := fm
  simp only at hfn hrn hnt hok ⊢
  have S : SRel B0 w0 g nt s a w := S
  subst hfn
  cases c with
  | skip => exact .here (.inr ⟨0, s, fun cs => rfl, Lands.skip S⟩)
  | label l => exact .here (.inr ⟨0, s, fun cs => rfl, Lands.label S⟩)
  | exit i => exact .here (.inr ⟨i + 2, s, fun cs => rfl, Lands.exit S⟩)
  | ret => exact .here (.inr ⟨1, s, fun cs => rfl, Lands.ret S⟩)
  | seq c1 c2 =>
    obtain ⟨k1, k2⟩ := hok.seq
    have says1 := ih ⟨b.fn, nt, rn⟩ c1 s b a w g rfl hrn hg hnt k1 S
    have hrun : ∀ cs, evF (.seq c1 c2) e rec ⟨b.fn, nt, rn⟩ (s.at cs) = (match rec ⟨b.fn, nt, rn⟩ c1 (s.at cs) with
      | .ok (o, s1) => (match o with
        | 0 => rec ⟨b.fn, nt, rn⟩ c2 s1
        | o + 1 => .ok (o + 1, s1))
      | .need m => .need m) := fun cs => rfl
    refine Says.part (r2 := fun cs => evF (.seq c1 c2) e rec ⟨b.fn, nt, rn⟩ (s.at cs)) says1 (fun p m h => by simp only [hrun, h]) fun pre o s1 h L => ?_
    cases o with
    | succ o => exact .here (.inr ⟨o + 1, s1, fun cs => by simp only [hrun, h], Lands.seqLeave L⟩)
    | zero =>
      obtain ⟨a1, w1, g1, S1, E1, st1⟩ := L
      have says2 := ih ⟨b.fn, nt, rn⟩ c2 s1 b a1 w1 g1 rfl (hrn.mono E1.ext.le) (hg.mono E1.ext.le) hnt (k2.mono E1.ext.le) S1
      have h2 : (fun rest => evF (.seq c1 c2) e rec ⟨b.fn, nt, rn⟩ (s.at (pre ++ rest))) = fun cs => rec ⟨b.fn, nt, rn⟩ c2 (s1.at cs) := by funext cs; rw [hrun, h]
      rw [h2]
      refine Plays.mono says2 fun f' h => ?_
      rcases h with h | ⟨o, s2, h, a2, w2, g2, S2, E2, st2⟩
      · exact .inl h
      · refine .inr ⟨o, s2, h, a2, w2, g2, S2, E1.trans E2, fun k cs => ?_⟩
        obtain ⟨todo1, en1, t1⟩ := st1 (.code c2 :: k) cs
        have en1 : todo1 = .code c2 :: k := en1
        subst en1
        obtain ⟨todo2, en2, t2⟩ := st2 k cs
        exact ⟨todo2, en2, ((Steps.one st_seq).trans t1).trans t2⟩
  | cond x c1 c2 =>
    obtain ⟨ng', h1, h2⟩ := hok
    simp only [codeOk, Bool.and_eq_true] at h2
    have hv := opnd_rel S.act.1 h1 h2.1
    have hrun : ∀ cs, evF (.cond x c1 c2) e rec ⟨b.fn, nt, rn⟩ (s.at cs) = (match (opd x).run s.to with
      | .bool c => (match c with
        | true => rec ⟨b.fn, nt, rn⟩ c1 (s.at cs)
        | false => rec ⟨b.fn, nt, rn⟩ c2 (s.at cs))
      | _ => .need 0) := fun cs => rfl
    generalize hx : (opd x).run s.to = v at hv hrun
    cases v <;> first | (refine Says.dead ?_; intro cs; refine ⟨0, ?_⟩; rw [hrun]; done) | skip
    rename_i t
    have hx' : a.eval x = .bool t := hv.bool_inv
    cases t with
    | true =>
      have says := ih ⟨b.fn, nt, rn⟩ c1 s b a w g rfl hrn hg hnt ⟨ng', h1, h2.2.1⟩ S
      have h3 : (fun cs => evF (.cond x c1 c2) e rec ⟨b.fn, nt, rn⟩ (s.at cs)) = fun cs => rec ⟨b.fn, nt, rn⟩ c1 (s.at cs) := by funext cs; rw [hrun]
      rw [h3]
      exact Plays.mono says fun f' h => h.imp id fun ⟨o, s2, h, L⟩ => ⟨o, s2, h, Lands.cond (t := true) hx' L⟩
    | false =>
      have says := ih ⟨b.fn, nt, rn⟩ c2 s b a w g rfl hrn hg hnt ⟨ng', h1, h2.2.2⟩ S
      have h3 : (fun cs => evF (.cond x c1 c2) e rec ⟨b.fn, nt, rn⟩ (s.at cs)) = fun cs => rec ⟨b.fn, nt, rn⟩ c2 (s.at cs) := by funext cs; rw [hrun]
      rw [h3]
      exact Plays.mono says fun f' h => h.imp id fun ⟨o, s2, h, L⟩ => ⟨o, s2, h, Lands.cond (t := false) hx' L⟩
  | block id c1 =>
    have k1 : CodeOk g nt c1 := by obtain ⟨ng', h1, h2⟩ := hok; exact ⟨ng', h1, h2⟩
    have says1 := ih ⟨b.fn, nt, rn⟩ c1 s b a w g rfl hrn hg hnt k1 S
    have hrun : ∀ cs, evF (.block id c1) e rec ⟨b.fn, nt, rn⟩ (s.at cs) = (match rec ⟨b.fn, nt, rn⟩ c1 (s.at cs) with
      | .ok (o, s1) => bif Nat.beq o (id + 2) then .ok (0, s1) else .ok (o, s1)
      | .need m => .need m) := fun cs => rfl
    refine Says.part (r2 := fun cs => evF (.block id c1) e rec ⟨b.fn, nt, rn⟩ (s.at cs)) says1 (fun p m h => by simp only [hrun, h]) fun pre o s1 h L => ?_
    cases hb : Nat.beq o (id + 2) with
    | true =>
      have := beq_eq hb
      subst this
      exact .here (.inr ⟨0, s1, fun cs => by simp only [hrun, h, hb, cond_true], Lands.blockExit L⟩)
    | false =>
      have hne : o ≠ id + 2 := fun h => by rw [h, Nat.beq_refl] at hb; cases hb
      refine .here (.inr ⟨o, s1, fun cs => by simp only [hrun, h, hb, cond_false], ?_⟩)
      cases o with
      | zero => exact Lands.blockEnd L
      | succ o => exact Lands.blockLeave L hne
  | loop c1 =>
    have k1 : CodeOk g nt c1 := by obtain ⟨ng', h1, h2⟩ := hok; exact ⟨ng', h1, h2⟩
    have says1 := ih ⟨b.fn, nt, rn⟩ c1 s b a w g rfl hrn hg hnt k1 S
    have hrun : ∀ cs, evF (.loop c1) e rec ⟨b.fn, nt, rn⟩ (s.at cs) = (match rec ⟨b.fn, nt, rn⟩ c1 (s.at cs) with
      | .ok (o, s1) => (match o with
        | 0 => rec ⟨b.fn, nt, rn⟩ (.loop c1) s1
        | o + 1 => .ok (o + 1, s1))
      | .need m => .need m) := fun cs => rfl
    refine Says.part (r2 := fun cs => evF (.loop c1) e rec ⟨b.fn, nt, rn⟩ (s.at cs)) says1 (fun p m h => by simp only [hrun, h]) fun pre o s1 h L => ?_
    cases o with
    | succ o => exact .here (.inr ⟨o + 1, s1, fun cs => by simp only [hrun, h], Lands.loopLeave L⟩)
    | zero =>
      have L' := L
      obtain ⟨a1, w1, g1, S1, E1, st1⟩ := L'
      have says2 := ih ⟨b.fn, nt, rn⟩ (.loop c1) s1 b a1 w1 g1 rfl (hrn.mono E1.ext.le) (hg.mono E1.ext.le) hnt (hok.mono E1.ext.le) S1
      have h2 : (fun rest => evF (.loop c1) e rec ⟨b.fn, nt, rn⟩ (s.at (pre ++ rest))) = fun cs => rec ⟨b.fn, nt, rn⟩ (.loop c1) (s1.at cs) := by funext cs; rw [hrun, h]
      rw [h2]
      refine Plays.mono says2 fun f' h => ?_
      rcases h with h | ⟨o, s2, h, L2⟩
      · exact .inl h
      · exact .inr ⟨o, s2, h, Lands.loop1 E1 st1 L2⟩
  | scope c1 =>
    have k1 : CodeOk g nt c1 := by obtain ⟨ng', h1, h2⟩ := hok; exact ⟨ng', h1, h2⟩
    have says1 := ih ⟨b.fn, nt, rn⟩ c1 s b a w g rfl hrn hg hnt k1 S
    refine Plays.mono says1 fun f' h => h.imp id fun ⟨o, s2, h, L⟩ => ⟨o, s2, h, ?_⟩
    cases o with
    | zero => exact Lands.scopeEnd L
    | succ o => exact Lands.scopeLeave L
  | region id ops draw =>
    obtain ⟨ng', h1, h2⟩ := hok
    simp only [codeOk, Bool.and_eq_true, Bool.or_eq_true, Bool.not_eq_true'] at h2
    cases draw with
    | false => exact region_text ok kok ih hnt h2.1 b.fn id S hg h1 hrn
    | true =>
      have hd : drawOk ops.toList = true := by
        rcases h2.2 with h | h
        · cases h
        · exact h
      exact region_draw ok kok ih hnt h2.1 hd b.fn id S hg h1 hrn
  | rangeFunc f ps asg body => exact range_says ok kok ih hnt hok S hg hrn
  | _ => exact Says.dead fun cs => ⟨0, rfl⟩
end
end
end Sw

namespace Sw
noncomputable section
open Go Go.RowKit
theorem ev_says {P : Program} {ng B0 : Nat} {w0 : World} {e : Env} (ok : EnvOk P ng e) (kok : KOk P ng B0 w0 e) : ∀ n, RecSays P ng B0 w0 (ev e n)
  | 0 => fun fm c s b a w g _ _ _ _ _ _ => Says.dead fun cs => ⟨0, rfl⟩
  | n + 1 => ev_step ok kok (ev_says ok kok n)
def allBelow (p : Nat → Bool) : Nat → Bool
  | 0 => true
  | n + 1 => p n && allBelow p n
theorem allBelow_of {p : Nat → Bool} : ∀ {n : Nat}, allBelow p n = true → ∀ c, c < n → p c = true
  | 0, _, c, hc => by omega
  | n + 1, h, c, hc => by
    simp only [allBelow, Bool.and_eq_true] at h
    by_cases e : c = n
    · subst e; exact h.1
    · exact allBelow_of h.2 c (by omega)
def explore (r : List Nat → R) : Nat → List Nat → Bool
  | 0, _ => false
  | n + 1, p => match r p with
    | .ok _ => true
    | .need m => (match m with
      | 0 => false
      | m + 1 => allBelow (fun c => explore r n (p ++ [c])) (m + 1))
theorem explore_sound {r : List Nat → R} : ∀ (n : Nat) (p q : List Nat), explore r n p = true → (∀ p' c q', q = p' ++ c :: q' → ∃ m, r (p ++ p') = .need m ∧ c < m) → ∃ rest x, r (p ++ q ++ rest) = .ok x
  | 0, _, _, h, _ => by cases h
  | n + 1, p, q, h, hq => by
    unfold explore at h
    cases q with
    | nil =>
      split at h
      · rename_i x hx; exact ⟨[], x, by simpa using hx⟩
      · rename_i m hm
        cases m with
        | zero => cases h
        | succ m =>
          have := allBelow_of h 0 (by omega)
          obtain ⟨rest, x, hx⟩ := explore_sound n (p ++ [0]) [] this (fun p' c q' e => by cases p' <;> cases e)
          exact ⟨0 :: rest, x, by simpa using hx⟩
    | cons c q =>
      obtain ⟨m, hm, hc⟩ := hq [] c q rfl
      rw [List.append_nil] at hm
      rw [hm] at h
      cases m with
      | zero => omega
      | succ m =>
        have := allBelow_of h c hc
        obtain ⟨rest, x, hx⟩ := explore_sound n (p ++ [c]) q this (fun p' c' q' e => by
          obtain ⟨m', h1, h2⟩ := hq (c :: p') c' q' (by rw [e]; rfl)
          exact ⟨m', by rw [List.append_assoc]; exact h1, h2⟩)
        exact ⟨rest, x, by rw [← hx]; simp⟩
theorem Plays.explored {r : List Nat → R} {good : (List Nat → R) → Prop} (h : Plays r good) {n : Nat} (hx : explore r n [] = true) : ∃ f', good f' ∧ ∃ rest x, f' rest = .ok x := by
  obtain ⟨pre, h1, h2⟩ := h
  obtain ⟨rest, x, hr⟩ := explore_sound n [] pre hx (fun p c q e => by obtain ⟨m, a, b⟩ := h1 p c q e; exact ⟨m, by simpa using a, b⟩)
  exact ⟨_, h2, rest, x, by simpa using hr⟩
def kTrue : KC := fun v h nx cs => match v with
  | .bool b => (match b with
    | true => .ok (0, ⟨Tm.undef, [], h, nx, cs⟩)
    | false => .need 0)
  | _ => .need 0
section
variable {P : Program} {ng : Nat} {e : Env} {B0 : Nat} {w0 : World} {g : Gm} {nx : Nat} {w : World} {hp : Ht}
theorem CallLands.calls {f : FuncId} {args : Array Value} {v : Value} {hp' : Ht} {nx' : Nat} (h : CallLands P B0 w0 .normal g nx f args w v hp' nx') :
    Calls P f args w fun en w' => ∃ v' g', en = .returned v' ∧ HRel B0 w0 g' hp'.get nx' w' ∧ VRel g' v v' ∧ Ext g nx w g' nx' w' := by
  obtain ⟨v', w', g', H, V, E, st⟩ := h
  intro cs
  obtain ⟨fr, s1, m1, d1, k1, f1, fn, q1, r1⟩ := st cs
  exact ⟨.returned v', w', fr, ⟨v', g', rfl, H, V, E⟩, s1, f1, m1, d1, k1, fn, q1, r1⟩
theorem calls_true (ok : EnvOk P ng e) (kok : KOk P ng B0 w0 e) (H : HRel B0 w0 g hp.get nx w) (hg : GlobOk g ng) {f : FuncId} {l : List Value} {args : Array Value} (hl : LRel g l args.toList) (n fuel : Nat)
    (hx : explore (fun cs => enterF e (ev e n) f l hp nx cs kTrue) fuel [] = true) : Calls P f args w fun en w' => en = .returned (.bool true) ∧ Below B0 w0 w' := by
  obtain ⟨f', hf, rest, x, hr⟩ := Plays.explored (enterF_says ok kok (ev_says ok kok n) H hg hl kTrue) hx
  rcases hf with hf | ⟨v, hp', nx', hf, L⟩
  · obtain ⟨m, hf⟩ := hf rest; rw [hr] at hf; cases hf
  · have hv : v = .bool true := by
      have := hf rest
      rw [hr] at this
      unfold kTrue at this
      split at this
      · split at this
        · rfl
        · cases this
      · cases this
    subst hv
    refine L.calls.mono fun en w' h => ?_
    obtain ⟨v', g', rfl, H', V', E'⟩ := h
    rw [V'.bool_inv]
    exact ⟨rfl, H'.below⟩
end
end
end Sw

namespace Sw
noncomputable section
open Go Go.RowKit
structure TB where
  num : Nat
  cs : List Value
  grp : Bool
  unit : Nat
abbrev Assoc := List (Nat × Nat)
def look (b : Nat) : Assoc → Option Nat
  | [] => none
  | (x, y) :: A => bif Nat.beq b x then some y else look b A
def pairB (bt b : Nat) (A : Assoc) : Option Assoc := match look bt A with
  | some b' => bif Nat.beq b b' then some A else none
  | none => some ((bt, b) :: A)
def mtL (f : Assoc → Value → Value → Option Assoc) : List Value → List Value → Assoc → Option Assoc
  | [], [], A => some A
  | v :: vs, t :: ts, A => (match f A v t with
    | some A1 => mtL f vs ts A1
    | none => none)
  | _, _, _ => none
def mtV : Nat → Assoc → Value → Value → Option Assoc
  | _, A, .bool a, .bool b => bif (bif a then b else !b) then some A else none
  | _, A, .int k a, .int k' b => bif sameK k k' && eqI a b then some A else none
  | _, A, .string a, .string b => bif eqB (strs a) (strs b) then some A else none
  | _, A, .pointer none, .pointer none => some A
  | _, A, .pointer (some ⟨b, o, none⟩), .pointer (some ⟨b', o', none⟩) => bif Nat.beq o o' then pairB b' b A else none
  | _, A, .slice none 0 0, .slice none 0 0 => some A
  | _, A, .slice (some ⟨b, o, none⟩) l c, .slice (some ⟨b', o', none⟩) l' c' => bif Nat.beq o o' && (Nat.beq l l' && Nat.beq c c') then pairB b' b A else none
  | _, A, .map none, .map none => some A
  | _, A, .nilFunc, .nilFunc => some A
  | _, A, .nilIface, .nilIface => some A
  | n + 1, A, .func (.func f) x y, .func (.func f') x' y' => bif Nat.beq f f' then (match mtL (mtV n) x.toList x'.toList A with
    | some A1 => mtL (mtV n) y.toList y'.toList A1
    | none => none) else none
  | n + 1, A, .iface t v, .iface t' v' => bif Nat.beq t t' then mtV n A v v' else none
  | n + 1, A, .agg x, .agg y => mtL (mtV n) x.toList y.toList A
  | n + 1, A, .tuple x, .tuple y => mtL (mtV n) x.toList y.toList A
  | _, _, _, _ => none
def grpOk (m : CMeta) (tb : TB) : Bool := match m.grp with
  | none => !tb.grp
  | some _ => tb.grp && Nat.beq m.unit tb.unit
def mtB (hp : Ht) (fresh : Bool) : List TB → Assoc → Option Assoc
  | [], A => some A
  | tb :: tbs, A => match look tb.num A with
    | some b => (match hp.get b with
      | some (.cells cs m) => bif grpOk m tb && (!fresh || !m.ro) then (match mtL (mtV 8) cs tb.cs A with
        | some A1 => mtB hp fresh tbs A1
        | none => none) else none
      | _ => none)
    | none => none
def layB (d : Nat) (tb : TB) (cs : List Value) (h : Ht) : Ht :=
  bif tb.grp then (h.set (d + tb.num + 1) (some (.group [⟨d + tb.num, 0, cs.length⟩]))).set (d + tb.num) (some (.cells cs ⟨true, some (d + tb.num + 1), 0, tb.unit⟩))
  else h.set (d + tb.num) (some (.cells cs ⟨true, none, 0, tb.unit⟩))
def lay0 : List TB → Ht → Ht
  | [], h => h
  | tb :: tbs, h => lay0 tbs (layB 0 tb tb.cs h)
def numsOk : Nat → Nat → List TB → Bool
  | lo, hi, [] => Nat.ble lo hi
  | lo, hi, tb :: tbs => Nat.ble lo tb.num && numsOk (tb.num + (bif tb.grp then 2 else 1)) hi tbs
def grpFree (A : Assoc) : List TB → Bool
  | [] => true
  | tb :: tbs => (!tb.grp || (match look (tb.num + 1) A with | none => true | some _ => false)) && grpFree A tbs
def shL (f : Value → Option Value) : List Value → Option (List Value)
  | [] => some []
  | v :: vs => (match f v, shL f vs with
    | some u, some us => some (u :: us)
    | _, _ => none)
def shV (d : Nat) : Nat → Value → Option Value
  | _, .bool a => some (.bool a)
  | _, .int k a => some (.int k a)
  | _, .string a => some (.string a)
  | _, .pointer none => some (.pointer none)
  | _, .pointer (some ⟨b, o, none⟩) => some (.pointer (some ⟨d + b, o, none⟩))
  | _, .slice none 0 0 => some (.slice none 0 0)
  | _, .slice (some ⟨b, o, none⟩) l c => some (.slice (some ⟨d + b, o, none⟩) l c)
  | _, .map none => some (.map none)
  | _, .nilFunc => some .nilFunc
  | _, .nilIface => some .nilIface
  | n + 1, .agg x => (shL (shV d n) x.toList).map fun l => .agg l.toArray
  | n + 1, .tuple x => (shL (shV d n) x.toList).map fun l => .tuple l.toArray
  | n + 1, .iface t v => (shV d n v).map fun v => .iface t v
  | _, _ => none
def layR (d : Nat) : List TB → Ht → Option Ht
  | [], h => some h
  | tb :: tbs, h => (match shL (shV d 8) tb.cs with
    | some cs => layR d tbs (layB d tb cs h)
    | none => none)
structure Tmpl where
  args : List Value
  blocks : List TB
  nx : Nat
  res : Value
  rblocks : List TB
  rnx : Nat
def keysLt (n : Nat) : Assoc → Bool
  | [] => true
  | (b, _) :: A => Nat.blt b n && keysLt n A
def idA (ng : Nat) : Assoc := (List.range ng).map fun i => (i, i)
def useT (ng : Nat) (tm : Tmpl) (l : List Value) (hp : Ht) (nx : Nat) : Option (Value × Ht × Nat) :=
  match mtL (mtV 8) l tm.args (idA ng) with
  | some A => (match mtB hp false tm.blocks A with
    | some A1 => bif grpFree A1 tm.blocks && keysLt tm.nx A1 then (match shV nx 8 tm.res, layR nx tm.rblocks hp with
      | some v, some h => some (v, h, nx + tm.rnx)
      | _, _ => none) else none
    | none => none)
  | none => none
def useTs (ng : Nat) : List Tmpl → List Value → Ht → Nat → Option (Value × Ht × Nat)
  | [], _, _, _ => none
  | tm :: tms, l, hp, nx => match useT ng tm l hp nx with
    | some r => some r
    | none => useTs ng tms l hp nx
def kOfT (ng : Nat) (tms : List Tmpl) : KRun := ⟨fun l hp nx cs k fb => match useTs ng tms l hp nx with
  | some (v, h, n) => k v h n cs
  | none => fb⟩
def keysIn : Assoc → List TB → Bool
  | [], _ => true
  | (b, _) :: A, tbs => tbs.any (fun tb => Nat.beq tb.num b) && keysIn A tbs
def kRes (tm : Tmpl) : KC := fun v h nx cs => match mtV 8 [] v tm.res with
  | some A => (match mtB h true tm.rblocks A with
    | some A1 => bif keysIn A1 tm.rblocks && grpFree A1 tm.rblocks then .ok (0, ⟨Tm.undef, [], h, nx, cs⟩) else .need 0
    | none => .need 0)
  | none => .need 0
def tmOk (ng : Nat) (tm : Tmpl) : Bool := Nat.ble ng tm.nx && (numsOk 0 tm.nx tm.blocks && numsOk 0 tm.rnx tm.rblocks)
def holdsT (ng : Nat) (e : Env) (f : FuncId) (n fuel : Nat) (tm : Tmpl) : Bool :=
  tmOk ng tm && explore (fun cs => enterF e (ev e n) f tm.args (lay0 tm.blocks .nil) tm.nx cs (kRes tm)) fuel []
end
end Sw

namespace Sw
noncomputable section
open Go Go.RowKit
def AExt (A A' : Assoc) : Prop := ∀ b x, look b A = some x → look b A' = some x
theorem AExt.refl (A : Assoc) : AExt A A := fun _ _ h => h
theorem AExt.trans {A B C : Assoc} (h : AExt A B) (k : AExt B C) : AExt A C := fun b x e => k b x (h b x e)
theorem pairB_ext {bt b : Nat} {A A' : Assoc} (h : pairB bt b A = some A') : AExt A A' ∧ look bt A' = some b := by
  unfold pairB at h
  split at h
  · rename_i b' hb
    cases hq : Nat.beq b b' with
    | false => rw [hq] at h; cases h
    | true =>
      rw [hq] at h; cases h
      exact ⟨AExt.refl _, by rw [hb, beq_eq hq]⟩
  · rename_i hb
    cases h
    refine ⟨fun x y e => ?_, by simp [look, Nat.beq_refl]⟩
    have : Nat.beq x bt = false := by
      cases hq : Nat.beq x bt with
      | false => rfl
      | true => rw [beq_eq hq, hb] at e; cases e
    simp only [look, this, cond_false]; exact e
def Via (gc g : Gm) (A : Assoc) : Prop := ∀ bt b, look bt A = some b → gc.blk bt = g.blk b ∧ gc.room bt = g.room b
theorem Via.sub {gc g : Gm} {A A' : Assoc} (h : Via gc g A') (k : AExt A A') : Via gc g A := fun bt b e => h bt b (k bt b e)
def MtOk (f : Assoc → Value → Value → Option Assoc) : Prop := ∀ A v t A', f A v t = some A' → AExt A A' ∧ ∀ gc g v', Via gc g A' → VRel g v v' → VRel gc t v'
theorem mtL_ok {f : Assoc → Value → Value → Option Assoc} (hf : MtOk f) : ∀ (vs ts : List Value) (A A' : Assoc), mtL f vs ts A = some A' → AExt A A' ∧ ∀ gc g vs', Via gc g A' → LRel g vs vs' → LRel gc ts vs'
  | [], [], A, A', h => by
    cases h
    exact ⟨AExt.refl _, fun gc g vs' _ hl => by
      have := hl.1
      cases vs' with
      | nil => exact LRel.nil gc
      | cons => cases this⟩
  | v :: vs, t :: ts, A, A', h => by
    simp only [mtL] at h
    split at h
    · rename_i A1 h1
      obtain ⟨e1, r1⟩ := hf _ _ _ _ h1
      obtain ⟨e2, r2⟩ := mtL_ok hf vs ts A1 A' h
      refine ⟨e1.trans e2, fun gc g vs' hv hl => ?_⟩
      cases vs' with
      | nil => cases hl.1
      | cons v' vs' => exact LRel.cons (r1 gc g v' (hv.sub e2) hl.head) (r2 gc g vs' hv hl.tail)
    · cases h
  | [], _ :: _, _, _, h => by cases h
  | _ :: _, [], _, _, h => by cases h
theorem mtV_ok : ∀ n, MtOk (mtV n) := by
  intro n
  induction n with
  | zero =>
    intro A v t A' h
    unfold mtV at h
    split at h <;> first | (cases h; done) | skip
    · rename_i a b
      cases a <;> cases b <;> first | (cases h; done) | (cases h; exact ⟨AExt.refl _, fun gc g v' _ r => by rw [r.bool_inv]; exact .bool _⟩)
    · rename_i k a k' b
      cases hq : (sameK k k' && eqI a b) with
      | false => rw [hq] at h; cases h
      | true =>
        rw [hq] at h; cases h
        rw [Bool.and_eq_true] at hq
        cases sameK_iff hq.1; cases eqI_iff.1 hq.2
        exact ⟨AExt.refl _, fun gc g v' _ r => by rw [r.int_inv]; exact .int _ _⟩
    · rename_i a b
      cases hq : eqB (strs a) (strs b) with
      | false => rw [hq] at h; cases h
      | true =>
        rw [hq] at h; cases h
        rw [eqB_eq] at hq
        cases strs_inj (a := a) (b := b) (by simpa using hq)
        exact ⟨AExt.refl _, fun gc g v' _ r => by rw [r.string_inv]; exact .string _⟩
    · cases h; exact ⟨AExt.refl _, fun gc g v' _ r => by rw [r.nilPtr_inv]; exact .nilPtr⟩
    · rename_i b o b' o'
      cases hq : Nat.beq o o' with
      | false => rw [hq] at h; cases h
      | true =>
        rw [hq] at h
        cases beq_eq hq
        obtain ⟨e1, e2⟩ := pairB_ext h
        refine ⟨e1, fun gc g v' hv r => ?_⟩
        obtain ⟨_, rb, ro, hg, rfl⟩ := r.ptr_inv
        exact .ptr ((hv _ _ e2).1.trans hg)
    · cases h; exact ⟨AExt.refl _, fun gc g v' _ r => by obtain ⟨_, _, rfl⟩ := r.nilSlice_inv; exact .nilSlice⟩
    · rename_i b o l c b' o' l' c'
      cases hq : (Nat.beq o o' && (Nat.beq l l' && Nat.beq c c')) with
      | false => rw [hq] at h; cases h
      | true =>
        rw [hq] at h
        rw [Bool.and_eq_true, Bool.and_eq_true] at hq
        cases beq_eq hq.1; cases beq_eq hq.2.1; cases beq_eq hq.2.2
        obtain ⟨e1, e2⟩ := pairB_ext h
        refine ⟨e1, fun gc g v' hv r => ?_⟩
        rcases r.slice_inv with ⟨a2, rfl, rfl, rfl⟩ | ⟨_, rb, ro, c2, hg, hl, hc, rfl⟩
        · exact .emptySlice _ _
        · obtain ⟨q1, q2⟩ := hv _ _ e2
          refine .slice (q1.trans hg) hl ?_
          rcases hc with hc | ⟨hc, rs, u, hr, hf⟩
          · exact .inl hc
          · exact .inr ⟨hc, rs, u, q2.trans hr, hf⟩
    · cases h; exact ⟨AExt.refl _, fun gc g v' _ r => by rw [r.nilMap_inv]; exact .nilMap⟩
    · cases h; exact ⟨AExt.refl _, fun gc g v' _ r => by rw [r.nilFunc_inv]; exact .nilFunc⟩
    · cases h; exact ⟨AExt.refl _, fun gc g v' _ r => by rw [r.nilIface_inv]; exact .nilIface⟩
    all_goals (rename_i h0; exact absurd h0 (by simp))
  | succ n ih =>
    intro A v t A' h
    unfold mtV at h
    split at h <;> first | (cases h; done) | skip
    · rename_i a b
      cases a <;> cases b <;> first | (cases h; done) | (cases h; exact ⟨AExt.refl _, fun gc g v' _ r => by rw [r.bool_inv]; exact .bool _⟩)
    · rename_i k a k' b
      cases hq : (sameK k k' && eqI a b) with
      | false => rw [hq] at h; cases h
      | true =>
        rw [hq] at h; cases h
        rw [Bool.and_eq_true] at hq
        cases sameK_iff hq.1; cases eqI_iff.1 hq.2
        exact ⟨AExt.refl _, fun gc g v' _ r => by rw [r.int_inv]; exact .int _ _⟩
    · rename_i a b
      cases hq : eqB (strs a) (strs b) with
      | false => rw [hq] at h; cases h
      | true =>
        rw [hq] at h; cases h
        rw [eqB_eq] at hq
        cases strs_inj (a := a) (b := b) (by simpa using hq)
        exact ⟨AExt.refl _, fun gc g v' _ r => by rw [r.string_inv]; exact .string _⟩
    · cases h; exact ⟨AExt.refl _, fun gc g v' _ r => by rw [r.nilPtr_inv]; exact .nilPtr⟩
    · rename_i b o b' o'
      cases hq : Nat.beq o o' with
      | false => rw [hq] at h; cases h
      | true =>
        rw [hq] at h
        cases beq_eq hq
        obtain ⟨e1, e2⟩ := pairB_ext h
        refine ⟨e1, fun gc g v' hv r => ?_⟩
        obtain ⟨_, rb, ro, hg, rfl⟩ := r.ptr_inv
        exact .ptr ((hv _ _ e2).1.trans hg)
    · cases h; exact ⟨AExt.refl _, fun gc g v' _ r => by obtain ⟨_, _, rfl⟩ := r.nilSlice_inv; exact .nilSlice⟩
    · rename_i b o l c b' o' l' c'
      cases hq : (Nat.beq o o' && (Nat.beq l l' && Nat.beq c c')) with
      | false => rw [hq] at h; cases h
      | true =>
        rw [hq] at h
        rw [Bool.and_eq_true, Bool.and_eq_true] at hq
        cases beq_eq hq.1; cases beq_eq hq.2.1; cases beq_eq hq.2.2
        obtain ⟨e1, e2⟩ := pairB_ext h
        refine ⟨e1, fun gc g v' hv r => ?_⟩
        rcases r.slice_inv with ⟨a2, rfl, rfl, rfl⟩ | ⟨_, rb, ro, c2, hg, hl, hc, rfl⟩
        · exact .emptySlice _ _
        · obtain ⟨q1, q2⟩ := hv _ _ e2
          refine .slice (q1.trans hg) hl ?_
          rcases hc with hc | ⟨hc, rs, u, hr, hf⟩
          · exact .inl hc
          · exact .inr ⟨hc, rs, u, q2.trans hr, hf⟩
    · cases h; exact ⟨AExt.refl _, fun gc g v' _ r => by rw [r.nilMap_inv]; exact .nilMap⟩
    · cases h; exact ⟨AExt.refl _, fun gc g v' _ r => by rw [r.nilFunc_inv]; exact .nilFunc⟩
    · cases h; exact ⟨AExt.refl _, fun gc g v' _ r => by rw [r.nilIface_inv]; exact .nilIface⟩
    · rename_i m f x y f' x' y' hm
      cases hm
      cases hq : Nat.beq f f' with
      | false => rw [hq] at h; cases h
      | true =>
        rw [hq] at h
        cases beq_eq hq
        simp only [cond_true] at h
        split at h
        · rename_i A1 h1
          obtain ⟨e1, r1⟩ := mtL_ok ih _ _ _ _ h1
          obtain ⟨e2, r2⟩ := mtL_ok ih _ _ _ _ h
          refine ⟨e1.trans e2, fun gc g v' hv r => ?_⟩
          obtain ⟨x2, y2, rfl, hx, hy⟩ := r.func_inv
          have k1 := (r1 gc g x2.toList (hv.sub e2) hx.toList).toArray
          have k2 := (r2 gc g y2.toList hv hy.toList).toArray
          exact .func k1.1 k2.1 k1.2 k2.2
        · cases h
    · rename_i m t0 v0 t1 v1 hm
      cases hm
      cases hq : Nat.beq t0 t1 with
      | false => rw [hq] at h; cases h
      | true =>
        rw [hq] at h
        cases beq_eq hq
        obtain ⟨e1, r1⟩ := ih _ _ _ _ h
        refine ⟨e1, fun gc g v' hv r => ?_⟩
        obtain ⟨x2, rfl, hx⟩ := r.iface_inv
        exact .iface (r1 gc g x2 hv hx)
    · rename_i m x y hm
      cases hm
      obtain ⟨e1, r1⟩ := mtL_ok ih _ _ _ _ h
      refine ⟨e1, fun gc g v' hv r => ?_⟩
      obtain ⟨x2, rfl, hx⟩ := r.agg_inv
      have k1 := (r1 gc g x2.toList hv hx.toList).toArray
      exact .agg k1.1 k1.2
    · rename_i m x y hm
      cases hm
      obtain ⟨e1, r1⟩ := mtL_ok ih _ _ _ _ h
      refine ⟨e1, fun gc g v' hv r => ?_⟩
      obtain ⟨x2, rfl, hx⟩ := r.tuple_inv
      have k1 := (r1 gc g x2.toList hv hx.toList).toArray
      exact .tuple k1.1 k1.2
theorem mtB_ok {hp : Ht} {fresh : Bool} : ∀ (tbs : List TB) (A A' : Assoc), mtB hp fresh tbs A = some A' → AExt A A' ∧ ∀ tb ∈ tbs, ∃ b cs m, look tb.num A' = some b ∧ hp.get b = some (.cells cs m) ∧ grpOk m tb = true ∧ (fresh = true → m.ro = false) ∧
    ∀ gc g cs', Via gc g A' → LRel g cs cs' → LRel gc tb.cs cs'
  | [], A, A', h => by cases h; exact ⟨AExt.refl _, fun tb h => by cases h⟩
  | tb :: tbs, A, A', h => by
    simp only [mtB] at h
    split at h
    · rename_i b hb
      split at h
      · rename_i cs m hc
        cases hq : (grpOk m tb && (!fresh || !m.ro)) with
        | false => rw [hq] at h; cases h
        | true =>
          rw [hq] at h
          simp only [cond_true] at h
          split at h
          · rename_i A1 h1
            obtain ⟨e1, r1⟩ := mtL_ok (mtV_ok 8) _ _ _ _ h1
            obtain ⟨e2, r2⟩ := mtB_ok tbs A1 A' h
            rw [Bool.and_eq_true] at hq
            refine ⟨e1.trans e2, fun tb' htb => ?_⟩
            rcases List.mem_cons.1 htb with rfl | htb
            · refine ⟨b, cs, m, e2 _ _ (e1 _ _ hb), hc, hq.1, fun hf => by have := hq.2; rw [hf] at this; simpa using this, fun gc g cs' hv hl => r1 gc g cs' (hv.sub e2) hl⟩
            · exact r2 tb' htb
          · cases h
      · cases h
    · cases h
end
end Sw

namespace Sw
noncomputable section
open Go Go.RowKit
def Moved (d : Nat) (gr gf : Gm) : Prop := ∀ b, gr.blk b ≠ none → gf.blk (d + b) = gr.blk b ∧ gf.room (d + b) = gr.room b
def ShOk (d : Nat) (f : Value → Option Value) : Prop := ∀ v u, f v = some u → ∀ gr gf v', Moved d gr gf → VRel gr v v' → VRel gf u v'
theorem shL_ok {d : Nat} {f : Value → Option Value} (hf : ShOk d f) : ∀ (vs us : List Value), shL f vs = some us → ∀ gr gf vs', Moved d gr gf → LRel gr vs vs' → LRel gf us vs'
  | [], us, h, gr, gf, vs', _, hl => by
    cases h
    have := hl.1
    cases vs' with
    | nil => exact LRel.nil gf
    | cons => cases this
  | v :: vs, us, h, gr, gf, vs', hm, hl => by
    simp only [shL] at h
    split at h
    · rename_i u us h1 h2
      cases h
      cases vs' with
      | nil => cases hl.1
      | cons v' vs' => exact LRel.cons (hf v u h1 gr gf v' hm hl.head) (shL_ok hf vs us h2 gr gf vs' hm hl.tail)
    · cases h
theorem shV_ok (d : Nat) : ∀ n, ShOk d (shV d n) := by
  intro n
  induction n with
  | zero =>
    intro v u h gr gf v' hm r
    unfold shV at h
    split at h <;> first | (cases h; done) | skip
    · cases h; rw [r.bool_inv]; exact .bool _
    · cases h; rw [r.int_inv]; exact .int _ _
    · cases h; rw [r.string_inv]; exact .string _
    · cases h; rw [r.nilPtr_inv]; exact .nilPtr
    · cases h
      obtain ⟨_, rb, ro, hg, rfl⟩ := r.ptr_inv
      exact .ptr ((hm _ (by rw [hg]; simp)).1.trans hg)
    · cases h; obtain ⟨_, _, rfl⟩ := r.nilSlice_inv; exact .nilSlice
    · cases h
      rcases r.slice_inv with ⟨a2, rfl, rfl, rfl⟩ | ⟨_, rb, ro, c2, hg, hl, hc, rfl⟩
      · exact .emptySlice _ _
      · obtain ⟨q1, q2⟩ := hm _ (by rw [hg]; simp)
        refine .slice (q1.trans hg) hl ?_
        rcases hc with hc | ⟨hc, rs, u, hr, hf⟩
        · exact .inl hc
        · exact .inr ⟨hc, rs, u, q2.trans hr, hf⟩
    · cases h; rw [r.nilMap_inv]; exact .nilMap
    · cases h; rw [r.nilFunc_inv]; exact .nilFunc
    · cases h; rw [r.nilIface_inv]; exact .nilIface
    all_goals (rename_i h0; exact absurd h0 (by simp))
  | succ n ih =>
    intro v u h gr gf v' hm r
    unfold shV at h
    split at h <;> first | (cases h; done) | skip
    · cases h; rw [r.bool_inv]; exact .bool _
    · cases h; rw [r.int_inv]; exact .int _ _
    · cases h; rw [r.string_inv]; exact .string _
    · cases h; rw [r.nilPtr_inv]; exact .nilPtr
    · cases h
      obtain ⟨_, rb, ro, hg, rfl⟩ := r.ptr_inv
      exact .ptr ((hm _ (by rw [hg]; simp)).1.trans hg)
    · cases h; obtain ⟨_, _, rfl⟩ := r.nilSlice_inv; exact .nilSlice
    · cases h
      rcases r.slice_inv with ⟨a2, rfl, rfl, rfl⟩ | ⟨_, rb, ro, c2, hg, hl, hc, rfl⟩
      · exact .emptySlice _ _
      · obtain ⟨q1, q2⟩ := hm _ (by rw [hg]; simp)
        refine .slice (q1.trans hg) hl ?_
        rcases hc with hc | ⟨hc, rs, u, hr, hf⟩
        · exact .inl hc
        · exact .inr ⟨hc, rs, u, q2.trans hr, hf⟩
    · cases h; rw [r.nilMap_inv]; exact .nilMap
    · cases h; rw [r.nilFunc_inv]; exact .nilFunc
    · cases h; rw [r.nilIface_inv]; exact .nilIface
    · rename_i m x hn
      cases hn
      obtain ⟨l, h1, rfl⟩ := Option.map_eq_some_iff.1 h
      obtain ⟨x2, rfl, hx⟩ := r.agg_inv
      have k1 := (shL_ok ih _ _ h1 gr gf x2.toList hm hx.toList).toArray
      exact .agg k1.1 k1.2
    · rename_i m x hn
      cases hn
      obtain ⟨l, h1, rfl⟩ := Option.map_eq_some_iff.1 h
      obtain ⟨x2, rfl, hx⟩ := r.tuple_inv
      have k1 := (shL_ok ih _ _ h1 gr gf x2.toList hm hx.toList).toArray
      exact .tuple k1.1 k1.2
    · rename_i m t v0 hn
      cases hn
      obtain ⟨u0, h1, rfl⟩ := Option.map_eq_some_iff.1 h
      obtain ⟨x2, rfl, hx⟩ := r.iface_inv
      exact .iface (ih _ _ h1 gr gf x2 hm hx)
section
variable {B0 : Nat} {w0 : World} {g : Gm} {hp : Hp} {nx : Nat} {w : World}
theorem HRel.addRo (H : HRel B0 w0 g hp nx w) {n : Nat} (hf : hp n = none) (hn : n < nx) {cs : List Value} {u : Nat}
    (hobj : ∀ rb ro, g.blk n = some (rb, ro) → (∃ robj, w.heap[rb]? = some robj ∧ ObjRel B0 g n (.cells cs ⟨true, none, 0, u⟩) rb ro robj) ∧ ∀ b o r1, hp b = some o → g.blk b = some (rb, r1) → ∃ cs m, o = .cells cs m ∧ m.ro = true) :
    HRel B0 w0 g (hp.set n (some (.cells cs ⟨true, none, 0, u⟩))) nx w := by
  refine ⟨H.below, H.base, H.dom, fun b o e => ?_, fun b ms e => ?_, fun b cs1 m gr e k => ?_, fun b1 b2 o1 o2 r r1 r2 hne e1 e2 k1 k2 => ?_, H.room⟩
  · by_cases hbn : b = n
    · subst hbn
      rw [Hp.set_same] at e; cases e
      exact ⟨hn, fun r1 r2 k => (hobj r1 r2 k).1⟩
    · rw [Hp.set_other _ _ hbn] at e; exact H.live b o e
  · by_cases hbn : b = n
    · subst hbn; rw [Hp.set_same] at e; cases e
    · rw [Hp.set_other _ _ hbn] at e; exact H.grpfree b ms e
  · by_cases hbn : b = n
    · subst hbn; rw [Hp.set_same] at e; cases e; cases k
    · rw [Hp.set_other _ _ hbn] at e
      obtain ⟨ms, a1, a2⟩ := H.mem b cs1 m gr e k
      refine ⟨ms, ?_, a2⟩
      rw [Hp.set_other _ _ (by rintro rfl; rw [hf] at a1; cases a1)]
      exact a1
  · by_cases h1 : b1 = n
    · subst h1
      rw [Hp.set_same] at e1; cases e1
      rw [Hp.set_other _ _ (Ne.symm hne)] at e2
      obtain ⟨cs2, m2, rfl, hr⟩ := (hobj _ _ k1).2 b2 o2 r2 e2 k2
      exact .inl ⟨rfl, hr⟩
    · by_cases h2 : b2 = n
      · subst h2
        rw [Hp.set_same] at e2; cases e2
        rw [Hp.set_other _ _ hne] at e1
        obtain ⟨cs1, m1, rfl, hr⟩ := (hobj _ _ k2).2 b1 o1 r1 e1 k1
        exact .inl ⟨hr, rfl⟩
      · rw [Hp.set_other _ _ h1] at e1
        rw [Hp.set_other _ _ h2] at e2
        exact H.sep b1 b2 o1 o2 r r1 r2 hne e1 e2 k1 k2
theorem HRel.addRoGrp (H : HRel B0 w0 g hp nx w) {n gr : Nat} (hf : hp n = none) (hne0 : n ≠ gr) (hgr : g.blk gr = none) (hfree : hp gr = none) (hn : n < nx) (hn2 : gr < nx) {cs : List Value} {u : Nat}
    (hobj : ∀ rb ro, g.blk n = some (rb, ro) → (∃ robj, w.heap[rb]? = some robj ∧ ObjRel B0 g n (.cells cs ⟨true, some gr, 0, u⟩) rb ro robj) ∧ ∀ b o r1, hp b = some o → g.blk b = some (rb, r1) → ∃ cs m, o = .cells cs m ∧ m.ro = true) :
    HRel B0 w0 g ((hp.set gr (some (.group [⟨n, 0, cs.length⟩]))).set n (some (.cells cs ⟨true, some gr, 0, u⟩))) nx w := by
  have get : ∀ b o, ((hp.set gr (some (.group [⟨n, 0, cs.length⟩]))).set n (some (.cells cs ⟨true, some gr, 0, u⟩))) b = some o → (b = n ∧ o = .cells cs ⟨true, some gr, 0, u⟩) ∨ (b = gr ∧ o = .group [⟨n, 0, cs.length⟩]) ∨ (b ≠ n ∧ b ≠ gr ∧ hp b = some o) := fun b o e => by
    by_cases h1 : b = n
    · subst h1; rw [Hp.set_same] at e; cases e; exact .inl ⟨rfl, rfl⟩
    · rw [Hp.set_other _ _ h1] at e
      by_cases h2 : b = gr
      · subst h2; rw [Hp.set_same] at e; cases e; exact .inr (.inl ⟨rfl, rfl⟩)
      · rw [Hp.set_other _ _ h2] at e; exact .inr (.inr ⟨h1, h2, e⟩)
  refine ⟨H.below, H.base, H.dom, fun b o e => ?_, fun b ms e => ?_, fun b cs1 m gr' e k => ?_, fun b1 b2 o1 o2 r r1 r2 hne e1 e2 k1 k2 => ?_, H.room⟩
  · rcases get b o e with ⟨rfl, rfl⟩ | ⟨rfl, rfl⟩ | ⟨_, _, e⟩
    · exact ⟨hn, fun r1 r2 k => (hobj r1 r2 k).1⟩
    · exact ⟨hn2, fun r1 r2 k => by rw [hgr] at k; cases k⟩
    · exact H.live b o e
  · rcases get b _ e with ⟨rfl, h⟩ | ⟨rfl, _⟩ | ⟨_, _, e⟩
    · cases h
    · exact hgr
    · exact H.grpfree b ms e
  · rcases get b _ e with ⟨rfl, h⟩ | ⟨rfl, h⟩ | ⟨_, _, e⟩
    · cases h; cases k
      exact ⟨_, by rw [Hp.set_other _ _ (Ne.symm hne0), Hp.set_same], List.mem_singleton.2 rfl⟩
    · cases h
    · obtain ⟨ms, a1, a2⟩ := H.mem b cs1 m gr' e k
      refine ⟨ms, ?_, a2⟩
      rw [Hp.set_other _ _ (by rintro rfl; rw [hf] at a1; cases a1), Hp.set_other _ _ (by rintro rfl; rw [hfree] at a1; cases a1)]
      exact a1
  · have key : ∀ b o r1, ((hp.set gr (some (.group [⟨n, 0, cs.length⟩]))).set n (some (.cells cs ⟨true, some gr, 0, u⟩))) b = some o → g.blk b = some (r, r1) → (b = n ∧ o = .cells cs ⟨true, some gr, 0, u⟩) ∨ (b ≠ n ∧ hp b = some o) := fun b o r1 e k => by
      rcases get b o e with ⟨rfl, rfl⟩ | ⟨rfl, _⟩ | ⟨h1, _, e⟩
      · exact .inl ⟨rfl, rfl⟩
      · rw [hgr] at k; cases k
      · exact .inr ⟨h1, e⟩
    rcases key b1 o1 r1 e1 k1 with ⟨h1, rfl⟩ | ⟨h1, f1⟩
    · rcases key b2 o2 r2 e2 k2 with ⟨h2, _⟩ | ⟨_, f2⟩
      · exact absurd (h1.trans h2.symm) hne
      · rw [h1] at k1
        obtain ⟨cs2, m2, rfl, hr⟩ := (hobj _ _ k1).2 b2 o2 r2 f2 k2
        exact .inl ⟨rfl, hr⟩
    · rcases key b2 o2 r2 e2 k2 with ⟨h2, rfl⟩ | ⟨_, f2⟩
      · rw [h2] at k2
        obtain ⟨cs1, m1, rfl, hr⟩ := (hobj _ _ k2).2 b1 o1 r1 f1 k1
        exact .inl ⟨hr, rfl⟩
      · exact H.sep b1 b2 o1 o2 r r1 r2 hne f1 f2 k1 k2
def RoAt (g : Gm) (hp : Hp) (rbs : Nat → Prop) : Prop := ∀ rb, rbs rb → ∀ b o r1, hp b = some o → g.blk b = some (rb, r1) → ∃ cs m, o = .cells cs m ∧ m.ro = true
theorem HRel.layB {h : Ht} (H : HRel B0 w0 g h.get nx w) {d : Nat} {tb : TB} {cs : List Value} {rbs : Nat → Prop} (hro : RoAt g h.get rbs) (hn : d + tb.num + (bif tb.grp then 2 else 1) ≤ nx) (hf : ∀ b, d + tb.num ≤ b → h.get b = none)
    (hgr : tb.grp = true → g.blk (d + tb.num + 1) = none) (hobj : ∀ rb ro, g.blk (d + tb.num) = some (rb, ro) → rbs rb ∧ ∃ robj, w.heap[rb]? = some robj ∧ ObjRel B0 g (d + tb.num) (.cells cs ⟨true, bif tb.grp then some (d + tb.num + 1) else none, 0, tb.unit⟩) rb ro robj) :
    HRel B0 w0 g (layB d tb cs h).get nx w ∧ RoAt g (layB d tb cs h).get rbs ∧ (∀ b, d + tb.num + (bif tb.grp then 2 else 1) ≤ b → (layB d tb cs h).get b = none) := by
  unfold Sw.layB
  cases hg : tb.grp with
  | false =>
    rw [hg] at hn hobj
    simp only [cond_false] at hn hobj ⊢
    rw [Tr.get_set]
    refine ⟨H.addRo (hf _ (Nat.le_refl _)) (by omega) fun rb ro k => ⟨(hobj rb ro k).2, hro rb (hobj rb ro k).1⟩, fun rb hrb b o r1 e k => ?_, fun b hb => ?_⟩
    · by_cases hbn : b = d + tb.num
      · subst hbn; rw [Hp.set_same] at e; cases e; exact ⟨_, _, rfl, rfl⟩
      · rw [Hp.set_other _ _ hbn] at e; exact hro rb hrb b o r1 e k
    · rw [Hp.set_other _ _ (by omega)]; exact hf b (by omega)
  | true =>
    rw [hg] at hn hobj
    simp only [cond_true] at hn hobj ⊢
    rw [Tr.get_set, Tr.get_set]
    refine ⟨H.addRoGrp (hf _ (Nat.le_refl _)) (by omega) (hgr hg) (hf _ (by omega)) (by omega) (by omega) fun rb ro k => ⟨(hobj rb ro k).2, hro rb (hobj rb ro k).1⟩, fun rb hrb b o r1 e k => ?_, fun b hb => ?_⟩
    · by_cases hbn : b = d + tb.num
      · subst hbn; rw [Hp.set_same] at e; cases e; exact ⟨_, _, rfl, rfl⟩
      · rw [Hp.set_other _ _ hbn] at e
        by_cases hbg : b = d + tb.num + 1
        · subst hbg; rw [hgr hg] at k; cases k
        · rw [Hp.set_other _ _ hbg] at e; exact hro rb hrb b o r1 e k
    · rw [Hp.set_other _ _ (by omega), Hp.set_other _ _ (by omega)]; exact hf b (by omega)
theorem HRel.later (H : HRel B0 w0 g hp nx w) {g' : Gm} {nx' : Nat} {w' : World} (hw : Below w.heap.size w w') (hg : g.le g') (hnx : nx ≤ nx') (hnew : ∀ b, b < nx → g'.blk b = g.blk b) (hdom : ∀ b rb ro, g'.blk b = some (rb, ro) → b < nx' ∧ rb < w'.heap.size) (hroom : ∀ b x, g'.room b = some x → g'.blk b ≠ none) :
    HRel B0 w0 g' hp nx' w' := by
  have hh : ∀ {rb : Nat} {o : Obj}, w.heap[rb]? = some o → w'.heap[rb]? = some o := fun {rb o} h => by
    have hlt := getElem?_lt h
    rw [hw.block rb hlt]; exact h
  refine ⟨H.below.trans (hw.mono H.base), Nat.le_trans H.base hw.size, hdom, fun b o e => ?_, fun b ms e => ?_, H.mem, fun b1 b2 o1 o2 r r1 r2 hne e1 e2 k1 k2 => ?_, hroom⟩
  · obtain ⟨p, q⟩ := H.live b o e
    refine ⟨by omega, fun rb ro k => ?_⟩
    rw [hnew b p] at k
    obtain ⟨robj, a2, a3⟩ := q rb ro k
    exact ⟨robj, hh a2, a3.mono hg k⟩
  · rw [hnew b (H.live b _ e).1]; exact H.grpfree b ms e
  · rw [hnew b1 (H.live b1 _ e1).1] at k1
    rw [hnew b2 (H.live b2 _ e2).1] at k2
    exact H.sep b1 b2 o1 o2 r r1 r2 hne e1 e2 k1 k2
end
end
end Sw

namespace Sw
noncomputable section
open Go Go.RowKit
theorem look_lt {n : Nat} : ∀ {A : Assoc} {b x : Nat}, keysLt n A = true → look b A = some x → b < n
  | [], _, _, _, h => by cases h
  | (y, z) :: A, b, x, hk, h => by
    simp only [keysLt, Bool.and_eq_true] at hk
    simp only [look] at h
    cases hq : Nat.beq b y with
    | true => rw [beq_eq hq]; exact Nat.le_of_ble_eq_true hk.1
    | false => rw [hq] at h; exact look_lt hk.2 h
theorem look_in {tbs : List TB} : ∀ {A : Assoc} {b x : Nat}, keysIn A tbs = true → look b A = some x → ∃ tb ∈ tbs, tb.num = b
  | [], _, _, _, h => by cases h
  | (y, z) :: A, b, x, hk, h => by
    simp only [keysIn, Bool.and_eq_true] at hk
    simp only [look] at h
    cases hq : Nat.beq b y with
    | true =>
      obtain ⟨tb, h1, h2⟩ := List.any_eq_true.1 hk.1
      exact ⟨tb, h1, (beq_eq h2).trans (beq_eq hq).symm⟩
    | false => rw [hq] at h; exact look_in hk.2 h
theorem look_id {ng i : Nat} (h : i < ng) : look i (idA ng) = some i := by
  have : ∀ (l : List Nat), i ∈ l → look i (l.map fun i => (i, i)) = some i := by
    intro l
    induction l with
    | nil => intro h; cases h
    | cons x l ih =>
      intro hm
      simp only [List.map_cons, look]
      cases hq : Nat.beq i x with
      | true => rw [beq_eq hq]; rfl
      | false =>
        rcases List.mem_cons.1 hm with rfl | hm
        · rw [Nat.beq_refl] at hq; cases hq
        · exact ih hm
  exact this _ (List.mem_range.2 h)
theorem grpFree_mem {A : Assoc} : ∀ {tbs : List TB}, grpFree A tbs = true → ∀ tb ∈ tbs, tb.grp = true → look (tb.num + 1) A = none
  | [], _, tb, h, _ => by cases h
  | t :: tbs, h, tb, hm, hg => by
    simp only [grpFree, Bool.and_eq_true, Bool.or_eq_true, Bool.not_eq_true'] at h
    rcases List.mem_cons.1 hm with rfl | hm
    · rcases h.1 with k | k
      · rw [hg] at k; cases k
      · cases hl : look (tb.num + 1) A with
        | none => rfl
        | some x => rw [hl] at k; cases k
    · exact grpFree_mem h.2 tb hm hg
theorem numsOk_lt {hi : Nat} : ∀ {tbs : List TB} {lo : Nat}, numsOk lo hi tbs = true → ∀ tb ∈ tbs, tb.num + (bif tb.grp then 2 else 1) ≤ hi
  | [], _, _, tb, h => by cases h
  | t :: tbs, lo, h, tb, hm => by
    simp only [numsOk, Bool.and_eq_true] at h
    have mono : ∀ {tbs : List TB} {lo : Nat}, numsOk lo hi tbs = true → lo ≤ hi := by
      intro tbs
      induction tbs with
      | nil => intro lo h; exact Nat.le_of_ble_eq_true h
      | cons t tbs ih =>
        intro lo h
        simp only [numsOk, Bool.and_eq_true] at h
        have := ih h.2
        have := Nat.le_of_ble_eq_true h.1
        cases hg : t.grp <;> simp [hg] at * <;> omega
    rcases List.mem_cons.1 hm with rfl | hm
    · exact mono h.2
    · exact numsOk_lt h.2 tb hm
section
variable {B0 : Nat} {w0 : World} {g : Gm} {nx : Nat} {w : World}
def Found (B0 : Nat) (g : Gm) (w : World) (rbs : Nat → Prop) (d : Nat) (tb : TB) (cs : List Value) : Prop :=
  ∀ rb ro, g.blk (d + tb.num) = some (rb, ro) → rbs rb ∧ ∃ robj, w.heap[rb]? = some robj ∧ ObjRel B0 g (d + tb.num) (.cells cs ⟨true, bif tb.grp then some (d + tb.num + 1) else none, 0, tb.unit⟩) rb ro robj
theorem layR_ok {rbs : Nat → Prop} {d hi : Nat} (hnx : d + hi ≤ nx) : ∀ (tbs : List TB) (lo : Nat) (h h' : Ht), numsOk lo hi tbs = true → HRel B0 w0 g h.get nx w → RoAt g h.get rbs → (∀ b, d + lo ≤ b → h.get b = none) →
    (∀ tb ∈ tbs, tb.grp = true → g.blk (d + tb.num + 1) = none) → (∀ tb ∈ tbs, ∀ cs, shL (shV d 8) tb.cs = some cs → Found B0 g w rbs d tb cs) → layR d tbs h = some h' → HRel B0 w0 g h'.get nx w
  | [], lo, h, h', _, H, _, _, _, _, hl => by cases hl; exact H
  | tb :: tbs, lo, h, h', hn, H, hro, hf, hgr, hobj, hl => by
    have hlt := numsOk_lt hn tb (List.mem_cons_self ..)
    simp only [numsOk, Bool.and_eq_true] at hn
    have hlo := Nat.le_of_ble_eq_true hn.1
    simp only [layR] at hl
    split at hl
    · rename_i cs hcs
      obtain ⟨H1, hro1, hf1⟩ := H.layB (cs := cs) hro (by omega) (fun b hb => hf b (by omega)) (hgr tb (List.mem_cons_self ..)) (hobj tb (List.mem_cons_self ..) cs hcs)
      exact layR_ok hnx tbs _ _ h' hn.2 H1 hro1 (fun b hb => hf1 b (by omega)) (fun t ht => hgr t (List.mem_cons_of_mem _ ht)) (fun t ht => hobj t (List.mem_cons_of_mem _ ht)) hl
    · cases hl
theorem lay0_ok {rbs : Nat → Prop} : ∀ (tbs : List TB) (lo : Nat) (h : Ht), numsOk lo nx tbs = true → HRel B0 w0 g h.get nx w → RoAt g h.get rbs → (∀ b, lo ≤ b → h.get b = none) →
    (∀ tb ∈ tbs, tb.grp = true → g.blk (tb.num + 1) = none) → (∀ tb ∈ tbs, Found B0 g w rbs 0 tb tb.cs) → HRel B0 w0 g (lay0 tbs h).get nx w
  | [], lo, h, _, H, _, _, _, _ => H
  | tb :: tbs, lo, h, hn, H, hro, hf, hgr, hobj => by
    have hlt := numsOk_lt hn tb (List.mem_cons_self ..)
    simp only [numsOk, Bool.and_eq_true] at hn
    have hlo := Nat.le_of_ble_eq_true hn.1
    obtain ⟨H1, hro1, hf1⟩ := H.layB (d := 0) (cs := tb.cs) hro (by omega) (fun b hb => hf b (by omega)) (fun hg => by rw [Nat.zero_add]; exact hgr tb (List.mem_cons_self ..) hg) (hobj tb (List.mem_cons_self ..))
    exact lay0_ok tbs _ _ hn.2 H1 hro1 (fun b hb => hf1 b (by omega)) (fun t ht => hgr t (List.mem_cons_of_mem _ ht)) (fun t ht => hobj t (List.mem_cons_of_mem _ ht))
theorem ObjRel.list {b : Nat} {cs : List Value} {m : CMeta} {rb ro : Nat} {robj : Obj} (h : ObjRel B0 g b (.cells cs m) rb ro robj) :
    ∃ rc el fz, robj = .cells rc el fz ∧ ro + cs.length ≤ rc.size ∧ LRel g cs ((rc.toList.drop ro).take cs.length) ∧ (m.ro = false → B0 ≤ rb) ∧ (∀ gr, m.grp = some gr → g.room b = some (rc.size, m.unit)) ∧ (m.grp = none → g.room b = none) := by
  cases robj <;> first | exact h.elim | skip
  obtain ⟨h1, h2, h3, h4, h5⟩ := h
  refine ⟨_, _, _, rfl, h1, ⟨by simp; omega, fun i v v' e e' => ?_⟩, fun k => (h3 k).1, h4, h5⟩
  rw [List.getElem?_take] at e'
  split at e'
  · rw [List.getElem?_drop] at e'
    exact h2 i v v' e (by simpa using e')
  · cases e'
theorem ObjRel.of_list {B1 : Nat} {g1 : Gm} {b1 : Nat} {us : List Value} {gr : Option Nat} {u : Nat} {rb ro n : Nat} {rc : Array Value} {el : TypeId} {fz : Nat × Nat} (hlen : ro + n ≤ rc.size) (hl : LRel g1 us ((rc.toList.drop ro).take n))
    (h1 : ∀ x, gr = some x → g1.room b1 = some (rc.size, u)) (h2 : gr = none → g1.room b1 = none) : ObjRel B1 g1 b1 (.cells us ⟨true, gr, 0, u⟩) rb ro (.cells rc el fz) := by
  have hn : us.length = n := by have := hl.1; simp at this; omega
  refine ⟨by omega, fun i v v' e e' => ?_, (fun k => by cases k), h1, h2⟩
  have hi : i < n := by have := (List.getElem?_eq_some_iff.1 e).1; omega
  exact hl.2 i v v' e (by rw [List.getElem?_take, if_pos hi, List.getElem?_drop]; simpa using e')
end
end
end Sw

namespace Sw
noncomputable section
open Go Go.RowKit
section
variable {P : Program} {ng : Nat} {e : Env} {B0 : Nat} {w0 : World} {g : Gm} {nx : Nat} {w : World} {hp : Ht}
def viaG (g : Gm) (A : Assoc) : Gm := ⟨fun b => (look b A).bind g.blk, fun b => (look b A).bind g.room⟩
theorem viaG_via (g : Gm) (A : Assoc) : Via (viaG g A) g A := fun bt b h => by simp [viaG, h]
def addG (g : Gm) (nx : Nat) (gr : Gm) : Gm := ⟨fun b => if b < nx then g.blk b else gr.blk (b - nx), fun b => if b < nx then g.room b else gr.room (b - nx)⟩
theorem grpOk_none {m : CMeta} {tb : TB} (h : grpOk m tb = true) (hg : tb.grp = false) : m.grp = none := by
  unfold grpOk at h
  cases hm : m.grp with
  | none => rfl
  | some x => rw [hm, hg] at h; cases h
theorem grpOk_some {m : CMeta} {tb : TB} (h : grpOk m tb = true) (hg : tb.grp = true) : (∃ x, m.grp = some x) ∧ m.unit = tb.unit := by
  unfold grpOk at h
  cases hm : m.grp with
  | none => rw [hm, hg] at h; cases h
  | some x =>
    rw [hm, hg] at h
    exact ⟨⟨x, rfl⟩, beq_eq (by simpa using h)⟩
theorem found_of {B1 : Nat} {gc : Gm} {d : Nat} {tb : TB} {cs us : List Value} {m : CMeta} {b : Nat} {rbs : Nat → Prop} {w1 : World} (hok : grpOk m tb = true) (hrb : ∀ rb ro robj, g.blk b = some (rb, ro) → ObjRel B0 g b (.cells cs m) rb ro robj → rbs rb)
    (hlive : ∀ rb ro, g.blk b = some (rb, ro) → ∃ robj, w1.heap[rb]? = some robj ∧ ObjRel B0 g b (.cells cs m) rb ro robj) (hblk : ∀ x, gc.blk (d + tb.num) = some x → g.blk b = some x ∧ gc.room (d + tb.num) = g.room b)
    (hcs : ∀ cs', LRel g cs cs' → LRel gc us cs') : Found B1 gc w1 rbs d tb us := by
  intro rb ro k
  obtain ⟨k1, k2⟩ := hblk _ k
  obtain ⟨robj, a2, a3⟩ := hlive rb ro k1
  refine ⟨hrb rb ro robj k1 a3, robj, a2, ?_⟩
  obtain ⟨rc, el, fz, rfl, hlen, hl, hro, h1, h2⟩ := a3.list
  refine ObjRel.of_list hlen (hcs _ hl) (fun x hx => ?_) (fun hx => ?_)
  · cases hg : tb.grp with
    | false => rw [hg] at hx; cases hx
    | true =>
      obtain ⟨⟨y, hy⟩, hu⟩ := grpOk_some hok hg
      rw [k2, h1 y hy, hu]
  · cases hg : tb.grp with
    | true => rw [hg] at hx; cases hx
    | false => rw [k2]; exact h2 (grpOk_none hok hg)
def Lasts (I : Nat → World → Prop) : Prop := ∀ B0 w0 w, I B0 w0 → Below B0 w0 w → B0 ≤ w.heap.size → I w.heap.size w
theorem useT_lands {I : Nat → World → Prop} (hI : Lasts I) (hi : I B0 w0) (ok : EnvOk P ng e) (kok : ∀ B0 w0, I B0 w0 → KOk P ng B0 w0 e) {f : FuncId} {n fuel : Nat} {tm : Tmpl} (hold : holdsT ng e f n fuel tm = true) (H : HRel B0 w0 g hp.get nx w) (hg : GlobOk g ng) {l : List Value} {args : Array Value} (hl : LRel g l args.toList)
    {v : Value} {h : Ht} {n' : Nat} (hu : useT ng tm l hp nx = some (v, h, n')) : CallLands P B0 w0 .normal g nx f args w v h n' := by
  unfold holdsT at hold
  rw [Bool.and_eq_true] at hold
  obtain ⟨htm, hex⟩ := hold
  unfold tmOk at htm
  simp only [Bool.and_eq_true] at htm
  obtain ⟨t1, t2, t3⟩ := htm
  have t1 := Nat.le_of_ble_eq_true t1
  unfold useT at hu
  split at hu
  case h_2 => cases hu
  rename_i A hA
  split at hu
  case h_2 => cases hu
  rename_i A1 hA1
  cases hq : (grpFree A1 tm.blocks && keysLt tm.nx A1) with
  | false => rw [hq] at hu; cases hu
  | true =>
  rw [hq] at hu
  simp only [cond_true] at hu
  split at hu
  case h_2 => cases hu
  rename_i v1 h1 hv1 hh1
  cases hu
  rw [Bool.and_eq_true] at hq
  obtain ⟨eA, rA⟩ := mtL_ok (mtV_ok 8) _ _ _ _ hA
  obtain ⟨eB, rB⟩ := mtB_ok _ _ _ hA1
  let gc := viaG g A1
  have via := viaG_via g A1
  have hlc : LRel gc tm.args args.toList := rA gc g _ (via.sub eB) hl
  have hgc : GlobOk gc ng := fun i hi => by
    have := eB _ _ (eA _ _ (look_id hi))
    exact (via _ _ this).1.trans (hg i hi)
  have Hn : HRel w.heap.size w gc (Tr.nil : Ht).get tm.nx w := by
    refine ⟨Below.refl _ _, Nat.le_refl _, fun b rb ro k => ?_, fun b o k => (by cases k), fun b ms k => (by cases k), fun b cs m gr k => (by cases k), fun b1 b2 o1 o2 r r1 r2 _ k => (by cases k), fun b x k => ?_⟩
    · simp only [gc, viaG] at k
      obtain ⟨c, k1, k2⟩ := Option.bind_eq_some_iff.1 k
      exact ⟨look_lt hq.2 k1, (H.dom _ _ _ k2).2⟩
    · simp only [gc, viaG] at k ⊢
      obtain ⟨c, k1, k2⟩ := Option.bind_eq_some_iff.1 k
      rw [k1]
      exact H.room _ _ k2
  have Hc : HRel w.heap.size w gc (lay0 tm.blocks .nil).get tm.nx w := by
    refine lay0_ok (rbs := fun _ => True) tm.blocks 0 .nil t2 Hn (fun rb _ b o r1 k => by cases k) (fun b _ => rfl) (fun tb ht hgt => ?_) (fun tb ht => ?_)
    · have := grpFree_mem hq.1 tb ht hgt
      simp [gc, viaG, this]
    · obtain ⟨b, cs, m, q1, q2, q3, _, q5⟩ := rB tb ht
      refine found_of (g := g) (b := b) (cs := cs) (m := m) (B0 := B0) q3 (fun _ _ _ _ _ => trivial) (fun rb ro k => (H.live b _ q2).2 rb ro k) (fun x k => ?_) (fun cs' hcs => q5 gc g cs' via hcs)
      rw [Nat.zero_add] at k ⊢
      obtain ⟨p1, p2⟩ := via _ _ q1
      exact ⟨p1 ▸ k, p2⟩
  have hi2 := hI _ _ _ hi H.below H.base
  obtain ⟨f', hf', rest, x, hr⟩ := Plays.explored (enterF_says ok (kok _ _ hi2) (ev_says ok (kok _ _ hi2) n) Hc hgc hlc (kRes tm)) hex
  rcases hf' with hf' | ⟨vc, hp', nx', hf', L⟩
  · obtain ⟨m, hf'⟩ := hf' rest; rw [hr] at hf'; cases hf'
  have hfr := hf' rest
  rw [hr] at hfr
  unfold kRes at hfr
  split at hfr
  case h_2 => cases hfr
  rename_i A2 hA2
  split at hfr
  case h_2 => cases hfr
  rename_i A3 hA3
  cases hq3 : (keysIn A3 tm.rblocks && grpFree A3 tm.rblocks) with
  | false => rw [hq3] at hfr; cases hfr
  | true =>
  rw [Bool.and_eq_true] at hq3
  obtain ⟨v', w', gc', H', V', E', st⟩ := L
  have hbelow : Below w.heap.size w w' := H'.below
  obtain ⟨eC, rC⟩ := mtV_ok 8 _ _ _ _ hA2
  obtain ⟨eD, rD⟩ := mtB_ok _ _ _ hA3
  let gr := viaG gc' A3
  have viar := viaG_via gc' A3
  have Vr : VRel gr tm.res v' := rC gr gc' v' (viar.sub eD) V'
  let g' := addG g nx gr
  have gold : ∀ b, b < nx → g'.blk b = g.blk b := fun b hb => by simp [g', addG, hb]
  have groom : ∀ b, b < nx → g'.room b = g.room b := fun b hb => by simp [g', addG, hb]
  have gnew : ∀ b, nx ≤ b → g'.blk b = gr.blk (b - nx) := fun b hb => by simp [g', addG, Nat.not_lt.2 hb]
  have gnewr : ∀ b, nx ≤ b → g'.room b = gr.room (b - nx) := fun b hb => by simp [g', addG, Nat.not_lt.2 hb]
  have hle : g.le g' := ⟨fun b x k => by rw [gold b (H.dom b x.1 x.2 k).1]; exact k, fun b x k => groom b (H.dom b x.1 x.2 k).1⟩
  have moved : Moved nx gr g' := fun b _ => by
    have : nx + b - nx = b := by omega
    rw [gnew _ (Nat.le_add_right _ _), gnewr _ (Nat.le_add_right _ _), this]
    exact ⟨rfl, rfl⟩
  have hnumlt : ∀ b c, look b A3 = some c → b < tm.rnx := fun b c k => by
    obtain ⟨tb, h1, h2⟩ := look_in hq3.1 k
    have := numsOk_lt t3 tb h1
    cases hgt : tb.grp <;> simp [hgt] at this <;> omega
  have fresh : ∀ b rb ro, gr.blk b = some (rb, ro) → w.heap.size ≤ rb ∧ rb < w'.heap.size ∧ b < tm.rnx := fun b rb ro k => by
    simp only [gr, viaG] at k
    obtain ⟨c, k1, k2⟩ := Option.bind_eq_some_iff.1 k
    obtain ⟨tb, h1, h2⟩ := look_in hq3.1 k1
    obtain ⟨c2, cs, m, q1, q2, q3, q4, _⟩ := rD tb h1
    rw [h2, k1] at q1; cases q1
    obtain ⟨robj, _, a3⟩ := (H'.live c _ q2).2 rb ro k2
    obtain ⟨_, _, _, _, _, _, hro, _⟩ := a3.list
    exact ⟨hro (q4 rfl), (H'.dom _ _ _ k2).2, hnumlt b c k1⟩
  have H2 : HRel B0 w0 g' hp.get (nx + tm.rnx) w' := by
    refine H.later hbelow hle (Nat.le_add_right _ _) gold (fun b rb ro k => ?_) (fun b x k => ?_)
    · by_cases hb : b < nx
      · rw [gold b hb] at k
        have := (H.dom _ _ _ k).2
        have := hbelow.size
        exact ⟨by omega, by omega⟩
      · rw [gnew b (Nat.not_lt.1 hb)] at k
        obtain ⟨_, p2, p3⟩ := fresh _ _ _ k
        exact ⟨by omega, p2⟩
    · by_cases hb : b < nx
      · rw [groom b hb] at k; rw [gold b hb]; exact H.room b x k
      · rw [gnewr b (Nat.not_lt.1 hb)] at k
        rw [gnew b (Nat.not_lt.1 hb)]
        simp only [gr, viaG] at k ⊢
        obtain ⟨c, k1, k2⟩ := Option.bind_eq_some_iff.1 k
        rw [k1]
        exact H'.room _ _ k2
  have H3 : HRel B0 w0 g' h.get (nx + tm.rnx) w' := by
    refine layR_ok (rbs := fun rb => w.heap.size ≤ rb) (hi := tm.rnx) (Nat.le_refl _) tm.rblocks 0 hp h t3 H2 (fun rb hrb b o r1 k1 k2 => ?_) (fun b hb => ?_) (fun tb ht hgt => ?_) (fun tb ht us hus => ?_) hh1
    · exfalso
      have hb := (H.live b o k1).1
      rw [gold b hb] at k2
      have := (H.dom _ _ _ k2).2
      omega
    · cases hx : hp.get b with
      | none => rfl
      | some o => have := (H.live b o hx).1; omega
    · rw [gnew _ (by omega)]
      have : nx + tb.num + 1 - nx = tb.num + 1 := by omega
      rw [this]
      have := grpFree_mem hq3.2 tb ht hgt
      simp [gr, viaG, this]
    · obtain ⟨c, cs, m, q1, q2, q3, q4, q5⟩ := rD tb ht
      refine found_of (g := gc') (b := c) (cs := cs) (m := m) (B0 := w.heap.size) q3 (fun rb ro robj _ a3 => ?_) (fun rb ro k => (H'.live c _ q2).2 rb ro k) (fun x k => ?_) (fun cs' hcs => ?_)
      · obtain ⟨_, _, _, _, _, _, hro, _⟩ := a3.list
        exact hro (q4 rfl)
      · rw [gnew _ (Nat.le_add_right _ _)] at k
        rw [gnewr _ (Nat.le_add_right _ _)]
        have : nx + tb.num - nx = tb.num := by omega
        rw [this] at k ⊢
        obtain ⟨p1, p2⟩ := viar _ _ q1
        exact ⟨p1 ▸ k, p2⟩
      · exact shL_ok (shV_ok nx 8) _ _ hus gr g' cs' moved (q5 gr gc' cs' viar hcs)
  refine ⟨v', w', g', H3, shV_ok nx 8 _ _ hv1 gr g' v' moved Vr, ⟨⟨hle, Nat.le_add_right _ _, fun b hb => ?_⟩, ⟨hbelow.size, fun rb hlt _ => hbelow.block rb hlt⟩, fun b rb ro k => ?_⟩, st⟩
  · by_cases hbn : b < nx
    · rw [gold b hbn] at hb; exact .inl hb
    · exact .inr (Nat.not_lt.1 hbn)
  · by_cases hbn : b < nx
    · rw [gold b hbn] at k; exact .inl ⟨b, ro, k⟩
    · rw [gnew b (Nat.not_lt.1 hbn)] at k
      exact .inr (fresh _ _ _ k).1
theorem useTs_mem : ∀ {tms : List Tmpl} {l : List Value} {hp : Ht} {nx : Nat} {r : Value × Ht × Nat}, useTs ng tms l hp nx = some r → ∃ tm ∈ tms, useT ng tm l hp nx = some r
  | [], _, _, _, _, h => by cases h
  | tm :: tms, l, hp, nx, r, h => by
    simp only [useTs] at h
    split at h
    · rename_i r' hr
      cases h
      exact ⟨tm, List.mem_cons_self .., hr⟩
    · obtain ⟨t, h1, h2⟩ := useTs_mem h
      exact ⟨t, List.mem_cons_of_mem _ h1, h2⟩
theorem kOfT_ok {I : Nat → World → Prop} (hI : Lasts I) (hi : I B0 w0) (ok : EnvOk P ng e) (kok : ∀ B0 w0, I B0 w0 → KOk P ng B0 w0 e) {f : FuncId} {tms : List Tmpl} (hold : ∀ tm ∈ tms, ∃ n fuel, holdsT ng e f n fuel tm = true) (l : List Value) (args : Array Value) (hp : Ht) (nx : Nat) (g : Gm) (w : World) (H : HRel B0 w0 g hp.get nx w) (hg : GlobOk g ng) (hl : LRel g l args.toList) :
    (∀ cs k fb, (kOfT ng tms).run l hp nx cs k fb = fb) ∨ ∃ r0 : List Nat → KC → R, (∀ cs k fb, (kOfT ng tms).run l hp nx cs k fb = r0 cs k) ∧ CallSays P B0 w0 .normal g nx f args w r0 := by
  cases hu : useTs ng tms l hp nx with
  | none => exact .inl fun cs k fb => by simp only [kOfT, hu]
  | some r =>
    obtain ⟨v, h, n'⟩ := r
    obtain ⟨tm, h1, h2⟩ := useTs_mem hu
    obtain ⟨n, fuel, h3⟩ := hold tm h1
    refine .inr ⟨fun cs k => k v h n' cs, fun cs k fb => by simp only [kOfT, hu], fun k => .here (.inr ⟨v, h, n', fun cs => rfl, ?_⟩)⟩
    exact useT_lands hI hi ok kok h3 H hg hl h2
end
end
end Sw

namespace Sw
noncomputable section
open Go Go.RowKit
def ofL {α : Type} : Nat → List α → Tr α → Tr α
  | _, [], t => t
  | i, x :: xs, t => ofL (i + 1) xs (t.set i (some x))
theorem ofL_get {α : Type} : ∀ (l : List α) (i : Nat) (t : Tr α) (j : Nat), (ofL i l t).get j = if i ≤ j ∧ j < i + l.length then l[j - i]? else t.get j
  | [], i, t, j => by simp [ofL]; omega
  | x :: xs, i, t, j => by
    have hset : ∀ k, (t.set i (some x)).get k = if k = i then some x else t.get k := fun k => by
      show (t.set1 (i + 1) (some x)).get1 (k + 1) = if k = i then some x else t.get1 (k + 1)
      rw [Tr.get1_set1 t (some x) _ _ (by omega) (by omega)]
      by_cases h : k = i
      · rw [if_pos h, if_pos (by omega)]
      · rw [if_neg h, if_neg (by omega)]
    rw [ofL, ofL_get xs (i + 1)]
    by_cases h : i + 1 ≤ j ∧ j < i + 1 + xs.length
    · rw [if_pos h, if_pos ⟨by omega, by simp; omega⟩]
      have : j - i = (j - (i + 1)) + 1 := by omega
      rw [this]; simp
    · rw [if_neg h, hset]
      by_cases hj : j = i
      · subst hj
        rw [if_pos rfl, if_pos ⟨Nat.le_refl _, by simp⟩]; simp
      · rw [if_neg hj, if_neg (by simp; omega)]
theorem ofL_nil_get {α : Type} (l : List α) (j : Nat) : (ofL 0 l .nil).get j = l[j]? := by
  rw [ofL_get]
  by_cases h : j < l.length
  · rw [if_pos ⟨Nat.zero_le _, by omega⟩]; simp
  · rw [if_neg (by omega)]
    have : (Tr.nil : Tr α).get j = none := rfl
    rw [this]; simp; omega
def resOk (nt : Nat) : ResultVar → Bool
  | .tmp i => Nat.blt i nt
  | .cell i _ => Nat.blt i nt
def fnOk (ng : Nat) (fn : Func) : Bool := match fn.body with
  | none => false
  | some b => Nat.ble fn.ntmps 512 && (codeOk ng fn.ntmps b && (fn.results.toList.all (resOk fn.ntmps) && !(fn.name == "runtime.NumGoroutine")))
def fInfo (fn : Func) : Option FInfo := match fn.body with
  | some b => some ⟨b, fn.ntmps, fn.results.toList⟩
  | none => none
def tyOk (i : TypeInfo) : Bool := match i.zero with
  | some z => flat z && Nat.beq z.cells.size i.size
  | none => true
def tyClosed (T : Ty) (i : TypeInfo) : Bool := match i.desc with
  | .struct fs => fs.toList.all fun f => (T.size f.type).isSome
  | _ => true
def methOk (T : Ty) (t : TypeId) (name : String) (f : FuncId) : Bool := match T.info t, T.und t with
  | some i, some d => (match i.methods.find? (·.name == name) with
    | some m => m.path.isEmpty && ((match m.func with | some (g, p) => Nat.beq g f && !p | none => false) && (match d with | .pointer _ => false | _ => true))
    | none => false)
  | _, _ => false
theorem methOk_run {P : Program} {T : Ty} (ok : T.Ok P) {t : TypeId} {name : String} {f : FuncId} (h : methOk T t name f = true) (v : Value) (w : World) : (method (P.types.size + Made.depth) t v name).run P w = .ok (f, v) w := by
  unfold methOk at h
  split at h
  · rename_i i d hi hd
    split at h
    · rename_i m hm
      simp only [Bool.and_eq_true] at h
      obtain ⟨h1, h2, h3⟩ := h
      have hpath : m.path = #[] := by simpa using h1
      cases hfn : m.func with
      | none => rw [hfn] at h2; cases h2
      | some gp =>
        obtain ⟨g, p⟩ := gp
        rw [hfn] at h2
        simp only [Bool.and_eq_true, Bool.not_eq_true'] at h2
        obtain ⟨h2, rfl⟩ := h2
        have := beq_eq h2
        subst this
        have hpos : 0 < Made.depth := by decide
        obtain ⟨n, hn⟩ : ∃ n, P.types.size + Made.depth = n + 1 := ⟨P.types.size + Made.depth - 1, by omega⟩
        rw [hn]
        unfold method
        have r1 : (typeInfo t).run P w = .ok i w := ok.run_info hi w
        rw [rBind r1, hm]
        simp only [hpath, hfn]
        have r2 : (follow (#[] : Array FieldStep).toList t (.val v)).run P w = .ok (t, .val v) w := rfl
        rw [rBind r2]
        simp only
        have r3 : (receiverAt t (.val v) false (if (#[] : Array FieldStep).isEmpty then some ((name.splitOn ".").getLastD name) else none)).run P w = .ok v w := by
          unfold receiverAt
          rw [rBind (ok.run_und hd w)]
          cases d <;> first | (cases h3; done) | rfl
        rw [rBind r3]; rfl
    · cases h
  · cases h
theorem envOk {P : Program} {ng : Nat} {T : Ty} {F : FuncId → Option Func} {M : TypeId → String → Option FuncId} {K : FuncId → Option KRun} {low : Nat} (hT : T.Ok P) (hC : T.Closed) (hF : ∀ f fn, F f = some fn → P.funcs[f]? = some fn ∧ fnOk ng fn = true)
    (hM : ∀ t n f, M t n = some f → methOk T t n f = true) : EnvOk P ng ⟨T, fun f => (F f).bind fInfo, M, K, low⟩ := by
  refine ⟨hT, hC, fun f fi h => ?_, fun t n f h => methOk_run hT (hM t n f h)⟩
  obtain ⟨fn, h1, h2⟩ := Option.bind_eq_some_iff.1 h
  obtain ⟨h3, h4⟩ := hF f fn h1
  unfold fInfo at h2
  unfold fnOk at h4
  cases hb : fn.body with
  | none => rw [hb] at h2; cases h2
  | some b =>
    rw [hb] at h2 h4
    cases h2
    simp only [Bool.and_eq_true, Bool.not_eq_true'] at h4
    obtain ⟨k1, k2, k3, k4⟩ := h4
    refine ⟨fn, h3, hb, rfl, rfl, k4, Nat.le_of_ble_eq_true k1, k2, ?_⟩
    rw [List.all_eq_true] at k3 ⊢
    intro r hr
    have := k3 r hr
    cases r <;> exact this
theorem tyEnv {P : Program} {T : Ty} (h : ∀ t i, T.info t = some i → P.info? t = some i ∧ tyOk i = true ∧ tyClosed T i = true)
    (he : ∀ t, T.eqOk t = true → P.stoodInHeld t = false ∧ P.eqGuardType P.depth t = false ∧ ∀ fs, P.underlying t = some (.struct fs) → ∀ f ∈ fs.toList, f.name ≠ "_") : T.Ok P ∧ T.Closed := by
  refine ⟨⟨fun t i k => (h t i k).1, fun t i z k kz => ?_, fun t i z k kz => ?_, he⟩, fun t fs hu f hf => ?_⟩
  · have := (h t i k).2.1
    unfold tyOk at this
    rw [kz] at this
    simp only [Bool.and_eq_true] at this
    exact this.1
  · have := (h t i k).2.1
    unfold tyOk at this
    rw [kz] at this
    simp only [Bool.and_eq_true] at this
    exact beq_eq this.2
  · have key : ∀ i, tyClosed T i = true → i.desc = .struct fs → ∃ n, T.size f.type = some n := fun i hc hd => by
      unfold tyClosed at hc
      rw [hd] at hc
      exact Option.isSome_iff_exists.1 (List.all_eq_true.1 hc f hf)
    unfold Ty.und at hu
    split at hu
    · rename_i i hi
      split at hu
      · rename_i u hd
        obtain ⟨i2, h2, h3⟩ := Option.map_eq_some_iff.1 hu
        exact key i2 (h u i2 h2).2.2 h3
      · exact key i (h t i hi).2.2 (Option.some.inj hu)
    · cases hu
end
end Sw

namespace Sw
noncomputable section
open Go Go.RowKit
def Runs (e : Env) (fm : Fm) (c : Code) (s : St) (o : Nat) (s' : St) : Prop := ∃ n0, ∀ n, n0 ≤ n → ∀ cs, ev e n fm c (s.at cs) = .ok (o, s'.at cs)
def RunsCall (e : Env) (f : FuncId) (l : List Value) (hp : Ht) (nx : Nat) (v : Value) (hp' : Ht) (nx' : Nat) : Prop :=
  ∃ n0, ∀ n, n0 ≤ n → ∀ cs k, enterF e (ev e n) f l hp nx cs k = k v hp' nx' cs
theorem ev_succ (e : Env) (n : Nat) (fm : Fm) (c : Code) (s : St) : ev e (n + 1) fm c s = evF c e (ev e n) fm s := rfl
section
variable {e : Env} {fm : Fm} {s s1 s2 : St} {o : Nat}
theorem Runs.step {c : Code} (h : ∃ n0, ∀ n, n0 ≤ n → ∀ cs, evF c e (ev e n) fm (s.at cs) = .ok (o, s1.at cs)) : Runs e fm c s o s1 := by
  obtain ⟨n0, h⟩ := h
  refine ⟨n0 + 1, fun n hn cs => ?_⟩
  obtain ⟨m, rfl⟩ : ∃ m, n = m + 1 := ⟨n - 1, by omega⟩
  rw [ev_succ]
  exact h m (by omega) cs
theorem Runs.skip : Runs e fm .skip s 0 s := .step ⟨0, fun _ _ _ => rfl⟩
theorem Runs.exit {i : Nat} : Runs e fm (.exit i) s (i + 2) s := .step ⟨0, fun _ _ _ => rfl⟩
theorem Runs.ret : Runs e fm .ret s 1 s := .step ⟨0, fun _ _ _ => rfl⟩
theorem evF_seq (a b : Code) (e : Env) (rec : Rec) (fm : Fm) (s : St) : evF (.seq a b) e rec fm s = (match rec fm a s with
    | .ok (o, s1) => (match o with
      | 0 => rec fm b s1
      | o + 1 => .ok (o + 1, s1))
    | .need m => .need m) := rfl
theorem Runs.seq {a b : Code} (h : Runs e fm a s 0 s1) (k : Runs e fm b s1 o s2) : Runs e fm (.seq a b) s o s2 := by
  obtain ⟨n1, h⟩ := h
  obtain ⟨n2, k⟩ := k
  refine .step ⟨max n1 n2, fun n hn cs => ?_⟩
  rw [evF_seq, h n (by omega) cs]
  exact k n (by omega) cs
theorem Runs.seqLeave {a b : Code} (h : Runs e fm a s (o + 1) s1) : Runs e fm (.seq a b) s (o + 1) s1 := by
  obtain ⟨n1, h⟩ := h
  refine .step ⟨n1, fun n hn cs => ?_⟩
  rw [evF_seq, h n hn cs]
theorem evF_cond (x : Operand) (a b : Code) (e : Env) (rec : Rec) (fm : Fm) (s : St) : evF (.cond x a b) e rec fm s = (match (opd x).run s.to with
      | .bool c => (match c with
        | true => rec fm a s
        | false => rec fm b s)
      | _ => .need 0) := rfl
theorem Runs.cond {x : Operand} {a b : Code} {t : Bool} (hx : (opd x).run s.to = .bool t) (h : Runs e fm (if t then a else b) s o s1) : Runs e fm (.cond x a b) s o s1 := by
  obtain ⟨n1, h⟩ := h
  refine .step ⟨n1, fun n hn cs => ?_⟩
  have hx : (opd x).run (s.at cs).to = .bool t := hx
  rw [evF_cond, hx]
  cases t with
  | true => exact h n hn cs
  | false => exact h n hn cs
theorem Runs.condT {x : Operand} {a b : Code} (hx : (opd x).run s.to = .bool true) (h : Runs e fm a s o s1) : Runs e fm (.cond x a b) s o s1 := .cond hx h
theorem Runs.condF {x : Operand} {a b : Code} (hx : (opd x).run s.to = .bool false) (h : Runs e fm b s o s1) : Runs e fm (.cond x a b) s o s1 := .cond hx h
theorem evF_block (id : Nat) (b : Code) (e : Env) (rec : Rec) (fm : Fm) (s : St) : evF (.block id b) e rec fm s = (match rec fm b s with
    | .ok (o, s1) => bif Nat.beq o (id + 2) then .ok (0, s1) else .ok (o, s1)
    | .need m => .need m) := rfl
theorem Runs.blockExit {id : Nat} {b : Code} (h : Runs e fm b s (id + 2) s1) : Runs e fm (.block id b) s 0 s1 := by
  obtain ⟨n1, h⟩ := h
  refine .step ⟨n1, fun n hn cs => ?_⟩
  rw [evF_block, h n hn cs]
  simp only [Nat.beq_refl, cond_true]
theorem Runs.block {id : Nat} {b : Code} (h : Runs e fm b s o s1) (hne : Nat.beq o (id + 2) = false) : Runs e fm (.block id b) s o s1 := by
  obtain ⟨n1, h⟩ := h
  refine .step ⟨n1, fun n hn cs => ?_⟩
  rw [evF_block, h n hn cs]
  simp only [hne, cond_false]
theorem evF_loop (b : Code) (e : Env) (rec : Rec) (fm : Fm) (s : St) : evF (.loop b) e rec fm s = (match rec fm b s with
    | .ok (o, s1) => (match o with
      | 0 => rec fm (.loop b) s1
      | o + 1 => .ok (o + 1, s1))
    | .need m => .need m) := rfl
theorem Runs.loop {b : Code} (h : Runs e fm b s 0 s1) (k : Runs e fm (.loop b) s1 o s2) : Runs e fm (.loop b) s o s2 := by
  obtain ⟨n1, h⟩ := h
  obtain ⟨n2, k⟩ := k
  refine .step ⟨max n1 n2, fun n hn cs => ?_⟩
  rw [evF_loop, h n (by omega) cs]
  exact k n (by omega) cs
theorem Runs.loopLeave {b : Code} (h : Runs e fm b s (o + 1) s1) : Runs e fm (.loop b) s (o + 1) s1 := by
  obtain ⟨n1, h⟩ := h
  refine .step ⟨n1, fun n hn cs => ?_⟩
  rw [evF_loop, h n hn cs]
theorem Runs.scope {b : Code} (h : Runs e fm b s o s1) : Runs e fm (.scope b) s o s1 := by
  obtain ⟨n1, h⟩ := h
  exact .step ⟨n1, fun n hn cs => h n hn cs⟩
theorem Runs.region {id : Nat} {ops : Array Oper} (h : ∃ n0, ∀ n, n0 ≤ n → ∀ cs, evOps (compOps ops.toList ops.toList) e (ev e n) fm (s.at cs) = .ok (0, s1.at cs)) : Runs e fm (.region id ops false) s 0 s1 := by
  obtain ⟨n1, h⟩ := h
  exact .step ⟨n1, fun n hn cs => h n hn cs⟩
theorem Runs.draw {id : Nat} {ops : Array Oper} (h : ∃ n0, ∀ n, n0 ≤ n → ∀ cs, evStages (stC ops.toList (mkPlan ops.toList).stages) e (ev e n) fm (s.at cs) = .ok (0, s1.at cs)) : Runs e fm (.region id ops true) s 0 s1 := by
  obtain ⟨n1, h⟩ := h
  exact .step ⟨n1, fun n hn cs => h n hn cs⟩
theorem RunsCall.of_body {f : FuncId} {fi : FInfo} {l : List Value} {hp : Ht} {nx : Nat} {t : Tm} {s' : St} {vs : List Value} {o : Nat} (hk : e.K f = none) (hf : e.F f = some fi) (hl : Nat.ble l.length fi.nt = true) (ht : setArgs argPl l Tm.undef = some t)
    (hb : Runs e ⟨f, fi.nt, none⟩ fi.body ⟨t, [], hp, nx, []⟩ o s') (ho : Nat.ble o 1 = true) (hd : s'.ds = []) (hr : getRes e.T s'.hp.get s'.to fi.res = some vs) : RunsCall e f l hp nx (tupleOf vs) s'.hp s'.nx := by
  obtain ⟨n0, hb⟩ := hb
  refine ⟨n0, fun n hn cs k => ?_⟩
  have hb := hb n hn cs
  simp only [enterF, hk, enterN, hf, enterB, hl, cond_true, ht]
  have hb : ev e n ⟨f, fi.nt, none⟩ fi.body ⟨t, [], hp, nx, cs⟩ = .ok (o, s'.at cs) := hb
  rw [hb]
  simp only [St.at, ho, cond_true, hd, unwindF, resF, hr]
theorem RunsCall.of_tmpl {ng : Nat} {f : FuncId} {tms : List Tmpl} {l : List Value} {hp hp' : Ht} {nx nx' : Nat} {v : Value} (hk : e.K f = some (kOfT ng tms)) (hu : useTs ng tms l hp nx = some (v, hp', nx')) : RunsCall e f l hp nx v hp' nx' :=
  ⟨0, fun n _ cs k => by simp only [enterF, hk, kOfT, hu]⟩
end
section
variable {all : List Oper} {e : Env} {rec : Rec} {fm : Fm} {to : Tm} {ds : List Deferred} {hp : Ht} {nx : Nat} {cs : List Nat} {k : St → R} {d : Option Tmp} {ty : TypeId} {pos : String} {aft : Array Edge}
end
theorem compOps_cons (all : List Oper) (o : Oper) (os : List Oper) : compOps all (o :: os) = compOp all o :: compOps all os := rfl
theorem evOps_at (c : Cl) (l : List Cl) (e : Env) (rec : Rec) (fm : Fm) (s : St) (cs : List Nat) : evOps (c :: l) e rec fm (s.at cs) = c.run e rec fm s.to s.ds s.hp s.nx cs fun s => evOps l e rec fm s := rfl
end
end Sw

namespace Sw
noncomputable section
open Go Go.RowKit
def WP (e : Env) (fm : Fm) (c : Code) (s : St) (Q : Nat → St → Prop) : Prop := ∃ o s', Runs e fm c s o s' ∧ Q o s'
def WC (e : Env) (fm : Fm) (c : Cl) (s : St) (Q : St → Prop) : Prop := ∃ s1, (∃ n0, ∀ n, n0 ≤ n → ∀ cs k, c.run e (ev e n) fm s.to s.ds s.hp s.nx cs k = k (s1.at cs)) ∧ Q s1
def WO (e : Env) (fm : Fm) (l : List Cl) (s : St) (Q : St → Prop) : Prop := ∃ s1, (∃ n0, ∀ n, n0 ≤ n → ∀ cs, evOps l e (ev e n) fm (s.at cs) = .ok (0, s1.at cs)) ∧ Q s1
def WN (e : Env) (fm : Fm) (l : List Cl) (s : St) (Q : St → Prop) : Prop := ∃ s1, (∃ n0, ∀ n, n0 ≤ n → ∀ cs k, evNe l e (ev e n) fm (s.at cs) k = k (s1.at cs)) ∧ Q s1
def WD (e : Env) (fm : Fm) (l : List SCl) (s : St) (Q : St → Prop) : Prop := ∃ s1, (∃ n0, ∀ n, n0 ≤ n → ∀ cs, evStages l e (ev e n) fm (s.at cs) = .ok (0, s1.at cs)) ∧ Q s1
def Chks (e : Env) (l : List Chk) (s : St) : Prop := ∀ cs k, evChk l e (s.at cs) k = k
def WF (e : Env) (f : FuncId) (l : List Value) (hp : Ht) (nx : Nat) (Q : Value → Ht → Nat → Prop) : Prop := ∃ v hp' nx', RunsCall e f l hp nx v hp' nx' ∧ Q v hp' nx'
section
variable {e : Env} {fm : Fm} {s s1 : St} {Q : St → Prop} {W : Nat → St → Prop}
theorem WP.mono {c : Code} {W' : Nat → St → Prop} (h : WP e fm c s W) (k : ∀ o s, W o s → W' o s) : WP e fm c s W' := by
  obtain ⟨o, s', h1, h2⟩ := h; exact ⟨o, s', h1, k _ _ h2⟩
theorem WF.mono {f : FuncId} {l : List Value} {hp : Ht} {nx : Nat} {A B : Value → Ht → Nat → Prop} (h : WF e f l hp nx A) (k : ∀ v hp nx, A v hp nx → B v hp nx) : WF e f l hp nx B := by
  obtain ⟨v, hp', nx', h1, h2⟩ := h; exact ⟨v, hp', nx', h1, k _ _ _ h2⟩
theorem WP.seq {a b : Code} (h : WP e fm a s fun o s1 => match o with
    | 0 => WP e fm b s1 W
    | o + 1 => W (o + 1) s1) : WP e fm (.seq a b) s W := by
  obtain ⟨o, s1, h1, h2⟩ := h
  cases o with
  | zero => obtain ⟨o2, s2, h3, h4⟩ := h2; exact ⟨o2, s2, h1.seq h3, h4⟩
  | succ o => exact ⟨o + 1, s1, h1.seqLeave, h2⟩
theorem WP.skip (h : W 0 s) : WP e fm .skip s W := ⟨0, s, .skip, h⟩
theorem WP.ret (h : W 1 s) : WP e fm .ret s W := ⟨1, s, .ret, h⟩
theorem WP.exit {i : Nat} (h : W (i + 2) s) : WP e fm (.exit i) s W := ⟨_, s, .exit, h⟩
theorem WP.cond {x : Operand} {a b : Code} (t : Bool) (hx : (opd x).run s.to = .bool t) (h1 : t = true → WP e fm a s W) (h2 : t = false → WP e fm b s W) : WP e fm (.cond x a b) s W := by
  cases t with
  | true => obtain ⟨o, s', h, k⟩ := h1 rfl; exact ⟨o, s', .condT hx h, k⟩
  | false => obtain ⟨o, s', h, k⟩ := h2 rfl; exact ⟨o, s', .condF hx h, k⟩
theorem WP.block {id : Nat} {b : Code} (h : WP e fm b s fun o s1 => W (bif Nat.beq o (id + 2) then 0 else o) s1) : WP e fm (.block id b) s W := by
  obtain ⟨o, s1, h1, h2⟩ := h
  cases hb : Nat.beq o (id + 2) with
  | true =>
    rw [hb] at h2
    obtain rfl := Nat.eq_of_beq_eq_true hb
    exact ⟨0, s1, .blockExit h1, h2⟩
  | false => rw [hb] at h2; exact ⟨o, s1, .block h1 hb, h2⟩
theorem WP.loop {b : Code} (I : Nat → St → Prop) (hb : ∀ m s, I m s → WP e fm b s fun o s1 => match o with
    | 0 => ∃ m', m' < m ∧ I m' s1
    | o + 1 => W (o + 1) s1) : ∀ (m : Nat) {s : St}, I m s → WP e fm (.loop b) s W := by
  intro m
  induction m using Nat.strongRecOn with
  | _ m ih =>
    intro s hs
    obtain ⟨o, s1, h1, h2⟩ := hb m s hs
    cases o with
    | zero =>
      obtain ⟨m', hm, hi⟩ := h2
      obtain ⟨o2, s2, h3, h4⟩ := ih m' hm hi
      exact ⟨o2, s2, .loop h1 h3, h4⟩
    | succ o => exact ⟨o + 1, s1, .loopLeave h1, h2⟩
theorem WP.region {id : Nat} {ops : Array Oper} (h : WO e fm (compOps ops.toList ops.toList) s (W 0)) : WP e fm (.region id ops false) s W := by
  obtain ⟨s1, h1, h2⟩ := h; exact ⟨0, s1, .region h1, h2⟩
theorem WP.draw {id : Nat} {ops : Array Oper} (h : WD e fm (stC ops.toList (mkPlan ops.toList).stages) s (W 0)) : WP e fm (.region id ops true) s W := by
  obtain ⟨s1, h1, h2⟩ := h; exact ⟨0, s1, .draw h1, h2⟩
theorem WO.nil {all : List Oper} (h : Q s) : WO e fm (compOps all []) s Q := ⟨s, ⟨0, fun _ _ _ => rfl⟩, h⟩
theorem WO.cons {all : List Oper} {o : Oper} {os : List Oper} (h : WC e fm (compOp all o) s fun s1 => WO e fm (compOps all os) s1 Q) : WO e fm (compOps all (o :: os)) s Q := by
  obtain ⟨s1, ⟨n1, h1⟩, s2, ⟨n2, h2⟩, q⟩ := h
  exact ⟨s2, ⟨max n1 n2, fun n hn cs => by rw [compOps_cons, evOps_at, h1 n (by omega)]; exact h2 n (by omega) cs⟩, q⟩
theorem WN.nil (h : Q s) : WN e fm [] s Q := ⟨s, ⟨0, fun _ _ _ _ => rfl⟩, h⟩
theorem evNe_at (c : Cl) (l : List Cl) (e : Env) (rec : Rec) (fm : Fm) (s : St) (cs : List Nat) (k : St → R) : evNe (c :: l) e rec fm (s.at cs) k = c.run e rec fm s.to s.ds s.hp s.nx cs fun s => evNe l e rec fm s k := rfl
theorem WN.cons {c : Cl} {l : List Cl} (h : WC e fm c s fun s1 => WN e fm l s1 Q) : WN e fm (c :: l) s Q := by
  obtain ⟨s1, ⟨n1, h1⟩, s2, ⟨n2, h2⟩, q⟩ := h
  exact ⟨s2, ⟨max n1 n2, fun n hn cs k => by rw [evNe_at, h1 n (by omega)]; exact h2 n (by omega) cs k⟩, q⟩
theorem evStages_some (ne : List Cl) (chk : List Chk) (c : Cl) (ss : List SCl) (e : Env) (rec : Rec) (fm : Fm) (s : St) : evStages (⟨ne, chk, some c⟩ :: ss) e rec fm s =
    evNe ne e rec fm s (fun st1 => evChk chk e st1 (c.run e rec fm st1.to st1.ds st1.hp st1.nx st1.cs (fun st2 => evStages ss e rec fm st2))) := rfl
theorem evStages_none (ne : List Cl) (chk : List Chk) (ss : List SCl) (e : Env) (rec : Rec) (fm : Fm) (s : St) : evStages (⟨ne, chk, none⟩ :: ss) e rec fm s =
    evNe ne e rec fm s (fun st1 => evChk chk e st1 (.ok (0, st1))) := rfl
theorem WD.eff {ne : List Cl} {chk : List Chk} {c : Cl} {ss : List SCl} (h : WN e fm ne s fun s1 => Chks e chk s1 ∧ WC e fm c s1 fun s2 => WD e fm ss s2 Q) : WD e fm (⟨ne, chk, some c⟩ :: ss) s Q := by
  obtain ⟨s1, ⟨n1, h1⟩, hk, s2, ⟨n2, h2⟩, s3, ⟨n3, h3⟩, q⟩ := h
  refine ⟨s3, ⟨max n1 (max n2 n3), fun n hn cs => ?_⟩, q⟩
  rw [evStages_some, h1 n (by omega), hk]
  show c.run e (ev e n) fm s1.to s1.ds s1.hp s1.nx cs _ = _
  rw [h2 n (by omega)]
  exact h3 n (by omega) cs
theorem WD.last {ne : List Cl} {chk : List Chk} {ss : List SCl} (h : WN e fm ne s fun s1 => Chks e chk s1 ∧ Q s1) : WD e fm (⟨ne, chk, none⟩ :: ss) s Q := by
  obtain ⟨s1, ⟨n1, h1⟩, hk, q⟩ := h
  refine ⟨s1, ⟨n1, fun n hn cs => ?_⟩, q⟩
  rw [evStages_none, h1 n hn, hk]
theorem Chks.nil : Chks e [] s := fun _ _ => rfl
theorem Chks.cons {c : Chk} {l : List Chk} (h : ∀ k, c.run e.T s.hp s.nx s.to k = k) (hl : Chks e l s) : Chks e (c :: l) s := fun cs k => by
  have : evChk (c :: l) e (s.at cs) k = c.run e.T s.hp s.nx s.to (evChk l e (s.at cs) k) := rfl
  rw [this, h, hl]
end
section
variable {e : Env} {fm : Fm} {c : Cl} {to : Tm} {ds : List Deferred} {hp : Ht} {nx : Nat} {cs0 : List Nat} {Q : St → Prop}
theorem WC.val (d : Nat) (v : Value) (h : ∀ rec cs k, c.run e rec fm to ds hp nx cs k = k ⟨to.set d v, ds, hp, nx, cs⟩) (q : Q ⟨to.set d v, ds, hp, nx, cs0⟩) : WC e fm c ⟨to, ds, hp, nx, cs0⟩ Q :=
  ⟨⟨to.set d v, ds, hp, nx, cs0⟩, ⟨0, fun n _ cs k => h (ev e n) cs k⟩, q⟩
theorem WC.opt (d : Nat) (o : Option Value) {v : Value} (h : ∀ rec cs k, c.run e rec fm to ds hp nx cs k = optV o (fun v => k ⟨to.set d v, ds, hp, nx, cs⟩)) (ho : o = some v) (q : Q ⟨to.set d v, ds, hp, nx, cs0⟩) : WC e fm c ⟨to, ds, hp, nx, cs0⟩ Q :=
  .val d v (fun rec cs k => by rw [h, ho]; rfl) q
def setAll : Ups → Ht → Ht
  | [], h => h
  | (b, o) :: us, h => setAll us (h.set b o)
theorem updT0 : ∀ (us : Ups) (h : Ht), updT 0 us h = some (setAll us h)
  | [], h => rfl
  | (b, o) :: us, h => by
    show (bif Nat.ble 0 b then updT 0 us (h.set b o) else none) = _
    rw [Nat.ble_eq_true_of_le (Nat.zero_le b), cond_true, updT0 us]; rfl
theorem WC.eff (d : Nat) (v : Value) (ups : Ups) (m : Nat) (hl : e.low = 0) (h : ∀ rec cs k, c.run e rec fm to ds hp nx cs k = keOf (fun t v => t.set d v) e.low to ds hp nx cs k (v, ups, m)) (q : Q ⟨to.set d v, ds, setAll ups hp, nx + m, cs0⟩) : WC e fm c ⟨to, ds, hp, nx, cs0⟩ Q :=
  ⟨⟨to.set d v, ds, setAll ups hp, nx + m, cs0⟩, ⟨0, fun n _ cs k => by show c.run e (ev e n) fm to ds hp nx cs k = _; rw [h (ev e n) cs k, hl]; simp only [keOf, updT0, St.at]⟩, q⟩
theorem WC.effO (d : Nat) (o : Option Eff) {v : Value} {ups : Ups} {m : Nat} (hl : e.low = 0) (h : ∀ rec cs k, c.run e rec fm to ds hp nx cs k = optE o (keOf (fun t v => t.set d v) e.low to ds hp nx cs k)) (ho : o = some (v, ups, m)) (q : Q ⟨to.set d v, ds, setAll ups hp, nx + m, cs0⟩) : WC e fm c ⟨to, ds, hp, nx, cs0⟩ Q :=
  .eff d v ups m hl (fun rec cs k => by rw [h, ho]; rfl) q
theorem WC.biO (d : Nat) (o : Option Eff) {v : Value} {ups : Ups} {m : Nat} (hl : e.low = 0) (h : ∀ rec cs k, c.run e rec fm to ds hp nx cs k = optE o (fun f => match f with
      | (v, ups, m) => match updT e.low ups hp with
        | some h => k ⟨to.set d v, ds, h, nx + m, cs⟩
        | none => .need 0)) (ho : o = some (v, ups, m)) (q : Q ⟨to.set d v, ds, setAll ups hp, nx + m, cs0⟩) : WC e fm c ⟨to, ds, hp, nx, cs0⟩ Q :=
  ⟨⟨to.set d v, ds, setAll ups hp, nx + m, cs0⟩, ⟨0, fun n _ cs k => by show c.run e (ev e n) fm to ds hp nx cs k = _; rw [h (ev e n) cs k, ho, hl]; simp only [optE, updT0, St.at]⟩, q⟩
theorem WC.call (d : Nat) (f : FuncId) (l : List Value) (h : ∀ rec cs k, c.run e rec fm to ds hp nx cs k = enterF e rec f l hp nx cs (fun v hp nx cs => k ⟨to.set d v, ds, hp, nx, cs⟩))
    (hf : WF e f l hp nx fun v hp nx => Q ⟨to.set d v, ds, hp, nx, cs0⟩) : WC e fm c ⟨to, ds, hp, nx, cs0⟩ Q := by
  obtain ⟨v, hp', nx', ⟨n0, h1⟩, q⟩ := hf
  exact ⟨⟨to.set d v, ds, hp', nx', cs0⟩, ⟨n0, fun n hn cs k => by show c.run e (ev e n) fm to ds hp nx cs k = _; rw [h (ev e n) cs k, h1 n hn]; rfl⟩, q⟩
theorem WF.body {f : FuncId} {fi : FInfo} {l : List Value} {t : Tm} {R : Value → Ht → Nat → Prop} (hk : e.K f = none) (hf : e.F f = some fi) (hl : Nat.ble l.length fi.nt = true) (ht : setArgs argPl l Tm.undef = some t)
    (hb : WP e ⟨f, fi.nt, none⟩ fi.body ⟨t, [], hp, nx, []⟩ fun o s' => Nat.ble o 1 = true ∧ s'.ds = [] ∧ ∃ vs, getRes e.T s'.hp.get s'.to fi.res = some vs ∧ R (tupleOf vs) s'.hp s'.nx) : WF e f l hp nx R := by
  obtain ⟨o, s', h1, h2, h3, vs, h4, h5⟩ := hb
  exact ⟨_, _, _, .of_body hk hf hl ht h1 h2 h3 h4, h5⟩
theorem WF.tmpl {ng : Nat} {f : FuncId} {tms : List Tmpl} {l : List Value} {v : Value} {hp' : Ht} {nx' : Nat} {R : Value → Ht → Nat → Prop} (hk : e.K f = some (kOfT ng tms)) (hu : useTs ng tms l hp nx = some (v, hp', nx')) (q : R v hp' nx') : WF e f l hp nx R :=
  ⟨_, _, _, .of_tmpl hk hu, q⟩
end
theorem eLoad_one {T : Ty} {hp : Hp} {t : TypeId} {b o : Nat} {cells : List Value} {m : CMeta} {v : Value} (ha : T.agg t = some false) (hb : hp b = some (.cells cells m)) (hc : cells[o]? = some v) : eLoad T hp t (.pointer (some ⟨b, o, none⟩)) = some v := by
  simp only [eLoad, hb, ha, hc]
theorem eLoad_agg {T : Ty} {hp : Hp} {t : TypeId} {b o n : Nat} {cells l : List Value} {m : CMeta} (ha : T.agg t = some true) (hs : T.size t = some n) (hb : hp b = some (.cells cells m)) (hc : takeX n (cells.drop o) = some l) : eLoad T hp t (.pointer (some ⟨b, o, none⟩)) = some (.agg l.toArray) := by
  simp only [eLoad, hb, ha, hs, Option.bind_some, hc, Option.map_some]
theorem eIndexAddr_sl {T : Ty} {t el : TypeId} {b o len c i s : Nat} {k : IntKind} (hu : T.und t = some (.slice el)) (hs : T.size el = some s) (hi : i < len) : eIndexAddr T t (.slice (some ⟨b, o, none⟩) len c) (.int k (.ofNat i)) = some (.pointer (some ⟨b, o + i * s, none⟩)) := by
  simp only [eIndexAddr, hu, inRange, blt_iff.2 hi, cond_true, hs, Option.map_some, Int.toNat]
theorem vEqs_refl {f : Value → Value → Bool} : ∀ (l : List Value), (∀ v ∈ l, f v v = true) → vEqs f l l = true
  | [], _ => rfl
  | x :: xs, h => by
    simp only [vEqs, h x (List.mem_cons_self ..), vEqs_refl xs (fun v hv => h v (List.mem_cons_of_mem _ hv)), Bool.and_true]
theorem vEq_int (n : Nat) (k : IntKind) (i : Int) : vEq n (.int k i) (.int k i) = true := by
  have h1 : sameK k k = true := by cases k <;> rfl
  have h2 : eqI i i = true := eqI_iff.2 rfl
  cases n <;> simp only [vEq, h1, h2, Bool.and_true]
theorem vEq_ptr (n b o : Nat) : vEq n (.pointer (some ⟨b, o, none⟩)) (.pointer (some ⟨b, o, none⟩)) = true := by
  cases n <;> simp only [vEq, Nat.beq_refl, Bool.and_true]
theorem vEq_sl (n b o l c : Nat) : vEq n (.slice (some ⟨b, o, none⟩) l c) (.slice (some ⟨b, o, none⟩) l c) = true := by
  cases n <;> simp only [vEq, Nat.beq_refl, Bool.and_true]
theorem vEq_nilsl (n l c : Nat) : vEq n (.slice none l c) (.slice none l c) = true := by
  cases n <;> simp only [vEq, Nat.beq_refl, Bool.and_true]
theorem vEq_agg (n : Nat) (x : Array Value) (h : ∀ v ∈ x.toList, vEq n v v = true) : vEq (n + 1) (.agg x) (.agg x) = true := by
  simp only [vEq, vEqs_refl _ h]
theorem Tr.get_same (t : Ht) (n : Nat) (o : Option (AObj Tm)) : (t.set n o).get n = o := by rw [Tr.get_set]; simp [Hp.set]
theorem Tr.get_other (t : Ht) {n m : Nat} (o : Option (AObj Tm)) (h : m ≠ n) : (t.set n o).get m = t.get m := by rw [Tr.get_set]; simp [Hp.set, h]
def HE (B : Nat) (hp hp' : Ht) : Prop := ∀ b, b < B → hp'.get b = hp.get b
theorem HE.refl (B : Nat) (hp : Ht) : HE B hp hp := fun _ _ => rfl
theorem HE.trans {B B' : Nat} {h1 h2 h3 : Ht} (a : HE B h1 h2) (b : HE B' h2 h3) (hb : B ≤ B') : HE B h1 h3 := fun x hx => (b x (by omega)).trans (a x hx)
theorem HE.set {B n : Nat} (hp : Ht) (o : Option (AObj Tm)) (h : B ≤ n) : HE B hp (hp.set n o) := fun b hb => Tr.get_other _ _ (by omega)
theorem HE.get {B b : Nat} {h1 h2 : Ht} (a : HE B h1 h2) {o : Option (AObj Tm)} (h : h1.get b = o) (hb : b < B) : h2.get b = o := (a b hb).trans h
inductive Sl (B size : Nat) (hp : Ht) (nx : Nat) : Value → Nat → List Value → Prop where
  | nil : Sl B size hp nx (.slice none 0 0) 0 []
  | plain {b l : Nat} {xs : List Value} {m : CMeta} (hb : hp.get b = some (.cells xs m)) (hm : m.grp = none) (h : b < nx) (h0 : B ≤ b) (hl : xs.length = l * size) : Sl B size hp nx (.slice (some ⟨b, 0, none⟩) l l) l xs
  | grown {b l gr : Nat} {xs : List Value} {ms : List Mem} (hb : hp.get b = some (.cells xs ⟨false, some gr, 0, size⟩)) (hg : hp.get gr = some (.group ms)) (hms : ∀ e ∈ ms, e.base + e.len ≤ xs.length)
      (h : b < nx) (h0 : B ≤ b) (h2 : gr < nx) (h3 : B ≤ gr) (hl : xs.length = l * size) : Sl B size hp nx (.slice (some ⟨b, 0, none⟩) l l) l xs
theorem Sl.mono {B size nx nx' l : Nat} {hp hp' : Ht} {v : Value} {xs : List Value} (h : Sl B size hp nx v l xs) (he : HE nx hp hp') (hn : nx ≤ nx') : Sl B size hp' nx' v l xs := by
  cases h with
  | nil => exact .nil
  | plain hb hm h h0 hl => exact .plain (he.get hb h) hm (by omega) h0 hl
  | grown hb hg hms h h0 h2 h3 hl => exact .grown (he.get hb h) (he.get hg h2) hms (by omega) h0 (by omega) h3 hl
theorem Sl.le {B B' size nx l : Nat} {hp : Ht} {v : Value} {xs : List Value} (h : Sl B size hp nx v l xs) (hb : B' ≤ B) : Sl B' size hp nx v l xs := by
  cases h with
  | nil => exact .nil
  | plain h1 hm h h0 hl => exact .plain h1 hm h (by omega) hl
  | grown h1 hg hms h h0 h2 h3 hl => exact .grown h1 hg hms h (by omega) h2 (by omega) hl
theorem Sl.len {B size nx l : Nat} {hp : Ht} {v : Value} {xs : List Value} (h : Sl B size hp nx v l xs) : xs.length = l * size := by
  cases h with
  | nil => simp
  | plain hb hm h h0 hl => exact hl
  | grown hb hg hms h h0 h2 h3 hl => exact hl
theorem Sl.lenV {B size nx l : Nat} {hp : Ht} {v : Value} {xs : List Value} (h : Sl B size hp nx v l xs) : ∃ a, v = .slice a l l := by
  cases h <;> exact ⟨_, rfl⟩
theorem takeX_all {α : Type} : ∀ (l : List α) (n : Nat), l.length = n → takeX n l = some l
  | [], 0, _ => rfl
  | x :: xs, n + 1, h => by simp only [takeX, takeX_all xs n (by simpa using h), Option.map_some]
  | [], n + 1, h => by simp at h
  | x :: xs, 0, h => by simp at h
def oldCells (xs : List Value) (off : Nat) : Nat → Option (List Value)
  | 0 => some []
  | k => takeX k (xs.drop off)
theorem growUps_eq (hp : Hp) (b off l size : Nat) (new : List Value) (m n : Nat) : growUps hp (some ⟨b, off, none⟩) l size new m n = (match hp b with
    | some (.cells cs mt) => (oldCells cs off (l * size)).bind fun old => match mt.grp with
      | none => some (.slice (some ⟨n + 1, 0, none⟩) (l + m) (l + m),
          [(n, some (AObj.group [⟨n + 1, 0, (old ++ new).length⟩])), (n + 1, some (AObj.cells (old ++ new) ⟨false, some n, 0, size⟩))], 2)
      | some gr => match hp gr with
        | some (.group ms) =>
          bif (!mt.ro && Nat.beq mt.unit size) && noGroups hp (beyond (mt.base + off + l * size)) ms then
            some (.slice (some ⟨n, 0, none⟩) (l + m) (l + m),
              kills (beyond (mt.base + off + l * size)) ms ++ [(gr, some (AObj.group ((ms.filter fun e => !(beyond (mt.base + off + l * size) e)) ++ ([⟨n, mt.base + off, (old ++ new).length⟩] : List Mem)))),
                (n, some (AObj.cells (old ++ new) ⟨false, some gr, mt.base + off, size⟩))], 1)
          else none
        | _ => none
    | _ => none) := rfl
theorem old_all (xs : List Value) : ∀ l, xs.length = l → oldCells xs 0 l = some xs
  | 0, h => by rw [List.length_eq_zero_iff.1 h]; rfl
  | l + 1, h => takeX_all xs _ h
theorem Sl.append {T : Ty} {B size nx l m st xt el : Nat} {hp : Ht} {v x z : Value} {inf : TypeInfo} {xs ys : List Value} (h : Sl B size hp nx v l xs) (hu : T.und st = some (.slice el)) (hs : T.size el = some size) (hz : T.zero el = some z) (hi : T.info el = some inf)
    (hx : appN T xt x = some (m, false)) (hsrc : srcCells hp.get (m * size) x = some ys) (hstr : strOk size x = true) (hys : ys.length = m * size) (hone : ys.all one = true) (hm : 0 < m)
    (b1 : (l + m) * inf.bytes ≤ 70368744177664) (b2 : inf.bytes ≤ 1073741824) (b3 : l + m ≤ 70368744177664) (hB : B ≤ nx) :
    ∃ v' ups k, eAppend T hp.get st xt v x nx = some (v', ups, k) ∧ Sl B size (setAll ups hp) (nx + k) v' (l + m) (xs ++ ys) ∧ HE B hp (setAll ups hp) := by
  have hlm : ¬ (l + m ≤ l) := by omega
  have hble : Nat.ble (l + m) l = false := by
    cases hb : Nat.ble (l + m) l with
    | false => rfl
    | true => exact absurd (Nat.le_of_ble_eq_true hb) hlm
  have e1 : ∀ a, eAppend T hp.get st xt (.slice a l l) x nx = growUps hp.get a l size ys m nx := fun a => by
    simp only [eAppend, hu, hs, hz, hi, hx, newCells, cond_false, hstr, cond_true, hsrc, Option.bind_some, hone, Nat.ble_eq_true_of_le b1, Nat.ble_eq_true_of_le b2, Nat.ble_eq_true_of_le b3, Bool.and_true, hble]
  have hlen : (xs ++ ys).length = (l + m) * size := by rw [List.length_append, h.len, hys, Nat.add_mul]
  cases h with
  | nil =>
    rw [e1]
    refine ⟨_, _, _, rfl, ?_, ?_⟩
    · simp only [setAll, List.nil_append]
      refine .grown (gr := nx) (Tr.get_same ..) ((Tr.get_other _ _ (by omega)).trans (Tr.get_same ..)) (fun e he => ?_) (by omega) (by omega) (by omega) hB (by simpa using hlen)
      rw [List.mem_singleton.1 he]; simp
    · exact (HE.set _ _ hB).trans (HE.set _ _ (show B ≤ nx + 1 by omega)) (Nat.le_refl _)
  | @plain b _ _ mt hb hm' hlt hB' hl =>
    rw [e1]
    have : growUps hp.get (some ⟨b, 0, none⟩) l size ys m nx = some (.slice (some ⟨nx + 1, 0, none⟩) (l + m) (l + m),
          [(nx, some (AObj.group [⟨nx + 1, 0, (xs ++ ys).length⟩])), (nx + 1, some (AObj.cells (xs ++ ys) ⟨false, some nx, 0, size⟩))], 2) := by
      simp only [growUps_eq, hb, old_all _ _ hl, Option.bind_some, hm']
    refine ⟨_, _, _, this, ?_, ?_⟩
    · simp only [setAll]
      refine .grown (gr := nx) (Tr.get_same ..) ((Tr.get_other _ _ (by omega)).trans (Tr.get_same ..)) (fun e he => ?_) (by omega) (by omega) (by omega) hB hlen
      rw [List.mem_singleton.1 he]; simp
    · exact (HE.set _ _ hB).trans (HE.set _ _ (show B ≤ nx + 1 by omega)) (Nat.le_refl _)
  | @grown b _ gr _ ms hb hg hms hlt hB' h2 h3 hl =>
    rw [e1]
    have hbey : ∀ e ∈ ms, beyond (0 + 0 + l * size) e = false := fun e he => by
      have := hms e he
      cases hq : beyond (0 + 0 + l * size) e with
      | false => rfl
      | true =>
        unfold beyond at hq
        have := blt_iff.1 hq
        omega
    have f1 : ms.filter (beyond (0 + 0 + l * size)) = [] := by
      rw [List.filter_eq_nil_iff]; intro e he; rw [hbey e he]; simp
    have f2 : (ms.filter fun e => !(beyond (0 + 0 + l * size) e)) = ms := by
      rw [List.filter_eq_self]; intro e he; rw [hbey e he]; rfl
    have : growUps hp.get (some ⟨b, 0, none⟩) l size ys m nx = some (.slice (some ⟨nx, 0, none⟩) (l + m) (l + m),
          [(gr, some (AObj.group (ms ++ [⟨nx, 0, (xs ++ ys).length⟩]))), (nx, some (AObj.cells (xs ++ ys) ⟨false, some gr, 0, size⟩))], 1) := by
      simp only [growUps_eq, hb, old_all _ _ hl, Option.bind_some, hg, noGroups, f1, List.all_nil, Bool.not_false, Nat.beq_refl, Bool.and_true, cond_true, kills, List.map_nil, List.nil_append, f2]
    refine ⟨_, _, _, this, ?_, ?_⟩
    · simp only [setAll]
      refine .grown (gr := gr) (Tr.get_same ..) ((Tr.get_other _ _ (by omega)).trans (Tr.get_same ..)) (fun e he => ?_) (by omega) (by omega) (by omega) h3 hlen
      rcases List.mem_append.1 he with he | he
      · have := hms e he; rw [List.length_append]; omega
      · rw [List.mem_singleton.1 he]; simp
    · exact (HE.set _ _ h3).trans (HE.set _ _ hB) (Nat.le_refl _)
section
variable {e : Env} {fm : Fm} {to : Tm} {ds : List Deferred} {hp : Ht} {nx : Nat} {cs0 : List Nat} {Q : St → Prop} {all : List Oper} {d : Tmp} {ty : TypeId} {pos : String} {aft : Array Edge}
theorem WC.box {t : TypeId} {x : Operand} (v : Value) (cells : List Value) (hl : e.low = 0) (hx : (opd x).run to = v) (hv : v.cells.toList = cells) (q : Q ⟨to.set d (.pointer (some ⟨nx, 0, none⟩)), ds, hp.set nx (some (.cells cells CMeta.plain)), nx + 1, cs0⟩) :
    WC e fm (compOp all ⟨some d, .box t x, ty, pos, aft, none⟩) ⟨to, ds, hp, nx, cs0⟩ Q := by
  subst hx hv
  exact .eff d _ [(nx, some (.cells ((opd x).run to).cells.toList CMeta.plain))] 1 hl (fun _ _ _ => rfl) q
theorem WC.load1 {t : TypeId} {a : Operand} (b o : Nat) (v : Value) {cells : List Value} {m : CMeta} (hx : (opd a).run to = .pointer (some ⟨b, o, none⟩)) (ha : e.T.agg t = some false) (hb : hp.get b = some (.cells cells m)) (hc : cells[o]? = some v) (q : Q ⟨to.set d v, ds, hp, nx, cs0⟩) :
    WC e fm (compOp all ⟨some d, .load t a, ty, pos, aft, none⟩) ⟨to, ds, hp, nx, cs0⟩ Q :=
  .opt d (eLoad e.T hp.get t ((opd a).run to)) (fun _ _ _ => rfl) (by rw [hx]; exact eLoad_one ha hb hc) q
theorem WC.loadS {t : TypeId} {a : Operand} (b o : Nat) (l : List Value) {n : Nat} {cells : List Value} {m : CMeta} (hx : (opd a).run to = .pointer (some ⟨b, o, none⟩)) (ha : e.T.agg t = some true) (hs : e.T.size t = some n) (hb : hp.get b = some (.cells cells m)) (hc : takeX n (cells.drop o) = some l) (q : Q ⟨to.set d (.agg l.toArray), ds, hp, nx, cs0⟩) :
    WC e fm (compOp all ⟨some d, .load t a, ty, pos, aft, none⟩) ⟨to, ds, hp, nx, cs0⟩ Q :=
  .opt d (eLoad e.T hp.get t ((opd a).run to)) (fun _ _ _ => rfl) (by rw [hx]; exact eLoad_agg ha hs hb hc) q
theorem WC.buildSlice {t : TypeId} {n : Nat} {ps : Array (Nat × Operand)} (cells : List Value) (hl : e.low = 0) (h : eBuildSlice e.T t n (runParts (partC ps.toList) to) nx = some (eNewSlice nx cells n n)) (q : Q ⟨to.set d (.slice (some ⟨nx, 0, none⟩) n n), ds, hp.set nx (some (.cells cells CMeta.plain)), nx + 1, cs0⟩) :
    WC e fm (compOp all ⟨some d, .buildSlice t n ps, ty, pos, aft, none⟩) ⟨to, ds, hp, nx, cs0⟩ Q :=
  .effO d (eBuildSlice e.T t n (runParts (partC ps.toList) to) nx) hl (fun _ _ _ => rfl) h q
end
end
end Sw

namespace Sw
noncomputable section
open Go Go.RowKit
section
variable {e : Env} {fm : Fm} {to : Tm} {ds : List Deferred} {hp : Ht} {nx : Nat} {cs cs0 : List Nat} {Q : St → Prop} {all : List Oper} {d : Tmp} {op : Op} {ty : TypeId} {pos : String} {aft : Array Edge} {j : Nat} {w : Bool}
theorem guard_run {rec : Rec} {k : St → R} (dst : Option Tmp) {g : Od} (hg : guardC all j = some g) : (compOp all ⟨dst, op, ty, pos, aft, some (j, w)⟩).run e rec fm to ds hp nx cs k =
    Bool.casesOn (wantedE w (g.run to)) (k ⟨(dstC dst).run to undef, ds, hp, nx, cs⟩) ((compOp all ⟨dst, op, ty, pos, aft, none⟩).run e rec fm to ds hp nx cs k) := by
  unfold compOp
  simp only [hg]
theorem WC.gq (b : Bool) (R : Value → Ht → Nat → Prop) (x : Value) {g : Od} (hg : guardC all j = some g) (hx : g.run to = x) (hw : wantedE w x = b)
    (h1 : b = true → WC e fm (compOp all ⟨some d, op, ty, pos, aft, none⟩) ⟨to, ds, hp, nx, cs0⟩ fun s => ∃ v hp' nx', s = ⟨to.set d v, ds, hp', nx', cs0⟩ ∧ R v hp' nx') (h0 : b = false → R undef hp nx)
    (q : ∀ v hp' nx', R v hp' nx' → Q ⟨to.set d v, ds, hp', nx', cs0⟩) : WC e fm (compOp all ⟨some d, op, ty, pos, aft, some (j, w)⟩) ⟨to, ds, hp, nx, cs0⟩ Q := by
  subst hx
  cases hb : b with
  | true =>
    obtain ⟨s1, ⟨n0, k1⟩, v, hp', nx', rfl, hr⟩ := h1 hb
    refine ⟨_, ⟨n0, fun n hn cs k => ?_⟩, q v hp' nx' hr⟩
    rw [guard_run _ hg, hw, hb]
    exact k1 n hn cs k
  | false =>
    refine ⟨_, ⟨0, fun n _ cs k => ?_⟩, q undef hp nx (h0 hb)⟩
    rw [guard_run _ hg, hw, hb]
    rfl
theorem WC.gd (b : Bool) (v x : Value) {g : Od} (hg : guardC all j = some g) (hx : g.run to = x) (hw : wantedE w x = b)
    (h1 : b = true → WC e fm (compOp all ⟨some d, op, ty, pos, aft, none⟩) ⟨to, ds, hp, nx, cs0⟩ fun s => s = ⟨to.set d v, ds, hp, nx, cs0⟩)
    (q : Q ⟨to.set d (bif b then v else undef), ds, hp, nx, cs0⟩) : WC e fm (compOp all ⟨some d, op, ty, pos, aft, some (j, w)⟩) ⟨to, ds, hp, nx, cs0⟩ Q := by
  refine .gq b (fun v' hp' nx' => v' = (bif b then v else undef) ∧ hp' = hp ∧ nx' = nx) x hg hx hw (fun hb => ?_) (fun hb => ⟨by rw [hb]; rfl, rfl, rfl⟩) (fun v' hp' nx' h => ?_)
  · obtain ⟨s1, k1, rfl⟩ := h1 hb
    exact ⟨_, k1, v, hp, nx, rfl, by rw [hb]; rfl, rfl, rfl⟩
  · obtain ⟨rfl, rfl, rfl⟩ := h
    exact q
end
def Stays (nx : Nat) (hp : Ht) (A : Value → Prop) : Value → Ht → Nat → Prop := fun v hp' nx' => A v ∧ nx ≤ nx' ∧ HE nx hp hp'
structure SV (α : Type) where
  v : Value
  l : List α
def SOk {α : Type} (enc : α → List Value) (n : Nat) (hp : Ht) (nx : Nat) (s : SV α) : Prop :=
  (∀ x ∈ s.l, (enc x).length = n) ∧ ((s.l = [] ∧ (s.v = .slice none 0 0 ∨ s.v = .slice (some ⟨0, 0, none⟩) 0 0)) ∨ ∃ b cap m, s.v = .slice (some ⟨b, 0, none⟩) s.l.length cap ∧ 0 < cap ∧ b < nx ∧ hp.get b = some (.cells (s.l.flatMap enc) m)) ∧ s.l.length < 281474976710656
section
variable {α : Type} {enc : α → List Value} {n : Nat} {hp hp' : Ht} {nx nx' : Nat} {s : SV α}
theorem SOk.mono (h : SOk enc n hp nx s) (he : HE nx hp hp') (hn : nx ≤ nx') : SOk enc n hp' nx' s := by
  refine ⟨h.1, ?_, h.2.2⟩
  rcases h.2.1 with h | ⟨b, cap, m, h1, h2, h3, h4⟩
  · exact .inl h
  · exact .inr ⟨b, cap, m, h1, h2, by omega, he.get h4 h3⟩
theorem SOk.shape (h : SOk enc n hp nx s) : ∃ a c, s.v = .slice a s.l.length c := by
  rcases h.2.1 with ⟨h, h1 | h1⟩ | ⟨b, cap, m, h1, _⟩
  · exact ⟨none, 0, by rw [h1, h]; rfl⟩
  · exact ⟨some ⟨0, 0, none⟩, 0, by rw [h1, h]; rfl⟩
  · exact ⟨_, cap, h1⟩
theorem SOk.block {a : Option Addr} {k c : Nat} (h : SOk enc n hp nx s) (hv : s.v = .slice a k c) (hk : 0 < s.l.length) : ∃ b m, a = some ⟨b, 0, none⟩ ∧ b < nx ∧ hp.get b = some (.cells (s.l.flatMap enc) m) := by
  rcases h.2.1 with ⟨h, _⟩ | ⟨b, cap, m, h1, h2, h3, h4⟩
  · rw [h] at hk; simp at hk
  · rw [hv] at h1; cases h1; exact ⟨b, m, rfl, h3, h4⟩
theorem SOk.eqSelf (h : SOk enc n hp nx s) (k : Nat) : vEq k s.v s.v = true := by
  rcases h.2.1 with ⟨_, h1 | h1⟩ | ⟨b, cap, m, h1, _⟩
  · rw [h1]; exact vEq_nilsl ..
  · rw [h1]; exact vEq_sl ..
  · rw [h1]; exact vEq_sl ..
end
theorem one_int (k : IntKind) (z : Int) : Sw.one (.int k z) = true := rfl
theorem SOk.one {α : Type} {enc : α → List Value} {n : Nat} {hp : Ht} {nx : Nat} {s : SV α} (h : SOk enc n hp nx s) : Sw.one s.v = true := by
  obtain ⟨a, c, e⟩ := h.shape
  rw [e]; rfl
theorem takeX_append {α : Type} : ∀ (xs ys : List α), takeX xs.length (xs ++ ys) = some xs
  | [], ys => by cases ys <;> rfl
  | x :: xs, ys => by
    show (takeX xs.length (xs ++ ys)).map (x :: ·) = _
    rw [takeX_append xs ys]; rfl
theorem flat_split {α : Type} {enc : α → List Value} {n : Nat} : ∀ (l : List α) (i : Nat) (x : α), (∀ y ∈ l, (enc y).length = n) → l[i]? = some x → ∃ r, (l.flatMap enc).drop (i * n) = enc x ++ r
  | [], i, x, _, h => by simp at h
  | y :: l, 0, x, _, h => by
    simp at h; subst h
    exact ⟨l.flatMap enc, by simp⟩
  | y :: l, i + 1, x, hl, h => by
    obtain ⟨r, hr⟩ := flat_split l i x (fun z hz => hl z (List.mem_cons_of_mem _ hz)) (by simpa using h)
    refine ⟨r, ?_⟩
    rw [List.flatMap_cons, show (i + 1) * n = (enc y).length + i * n by rw [hl y (List.mem_cons_self ..), Nat.succ_mul]; omega, ← List.drop_drop, List.drop_left, hr]
theorem flat_take {α : Type} {enc : α → List Value} {n : Nat} {l : List α} {i : Nat} {x : α} (hl : ∀ y ∈ l, (enc y).length = n) (h : l[i]? = some x) : takeX n ((l.flatMap enc).drop (i * n)) = some (enc x) := by
  obtain ⟨r, hr⟩ := flat_split l i x hl h
  have := hl x (List.mem_of_getElem? h)
  rw [hr]
  subst this
  exact takeX_append _ _
theorem flat_cell {α : Type} {enc : α → List Value} {n : Nat} {l : List α} {i f : Nat} {x : α} (hl : ∀ y ∈ l, (enc y).length = n) (h : l[i]? = some x) (hf : f < n) : (l.flatMap enc)[i * n + f]? = (enc x)[f]? := by
  obtain ⟨r, hr⟩ := flat_split l i x hl h
  have := hl x (List.mem_of_getElem? h)
  have e : (l.flatMap enc)[i * n + f]? = ((l.flatMap enc).drop (i * n))[f]? := by rw [List.getElem?_drop]
  rw [e, hr, List.getElem?_append_left (by omega)]
theorem boxed (hp : Ht) (nx : Nat) (cells : List Value) : ∃ hp1, hp.set nx (some (.cells cells CMeta.plain)) = hp1 ∧ HE nx hp hp1 ∧ hp1.get nx = some (.cells cells CMeta.plain) :=
  ⟨_, rfl, HE.set _ _ (Nat.le_refl _), Tr.get_same ..⟩
theorem stored (hp : Ht) (b : Nat) (o : AObj Tm) : ∃ hp1, hp.set b (some o) = hp1 ∧ HE b hp hp1 ∧ hp1.get b = some o ∧ ∀ c, c ≠ b → hp1.get c = hp.get c :=
  ⟨_, rfl, HE.set _ _ (Nat.le_refl _), Tr.get_same .., fun c hc => Tr.get_other _ _ hc⟩
theorem HE.le {B B' : Nat} {h1 h2 : Ht} (h : HE B h1 h2) (hb : B' ≤ B) : HE B' h1 h2 := fun b k => h b (by omega)
section
variable {e : Env} {fm : Fm} {to : Tm} {ds : List Deferred} {hp : Ht} {nx : Nat} {cs0 : List Nat} {Q : St → Prop} {all : List Oper} {d : Tmp} {ty : TypeId} {pos : String} {aft : Array Edge}
theorem WC.eff0 {c : Cl} (ups : Ups) (hl : e.low = 0) (h : ∀ rec cs k, c.run e rec fm to ds hp nx cs k = keOf (fun t _ => t) e.low to ds hp nx cs k (undef, ups, 0)) (q : Q ⟨to, ds, setAll ups hp, nx, cs0⟩) : WC e fm c ⟨to, ds, hp, nx, cs0⟩ Q :=
  ⟨⟨to, ds, setAll ups hp, nx, cs0⟩, ⟨0, fun n _ cs k => by show c.run e (ev e n) fm to ds hp nx cs k = _; rw [h (ev e n) cs k, hl]; simp only [keOf, updT0, St.at, Nat.add_zero]⟩, q⟩
theorem WC.alloc {el : TypeId} (z : Value) (cells : List Value) (hl : e.low = 0) (hz : e.T.zero el = some z) (hc : z.cells.toList = cells) (q : Q ⟨to.set d (.pointer (some ⟨nx, 0, none⟩)), ds, hp.set nx (some (.cells cells CMeta.plain)), nx + 1, cs0⟩) :
    WC e fm (compOp all ⟨some d, .alloc el, ty, pos, aft, none⟩) ⟨to, ds, hp, nx, cs0⟩ Q := by
  subst hc
  refine .eff d _ [(nx, some (.cells z.cells.toList CMeta.plain))] 1 hl (fun rec cs k => ?_) q
  have : (compOp all ⟨some d, .alloc el, ty, pos, aft, none⟩).run e rec fm to ds hp nx cs k = (match e.T.zero el with | some z => keOf (fun t v => t.set d v) e.low to ds hp nx cs k (eNew nx z.cells.toList) | none => .need 0) := rfl
  rw [this, hz]; rfl
theorem WC.store1 {t : TypeId} {a v : Operand} (b off : Nat) (val : Value) (cells new vs : List Value) (n : Nat) {m : CMeta} (hl : e.low = 0) (ha : (opd a).run to = .pointer (some ⟨b, off, none⟩)) (hv : (opd v).run to = val) (hs : e.T.size t = some n) (hvs : val.cells.toList = vs)
    (hn : (Nat.beq vs.length n && vs.all one) = true) (hb : hp.get b = some (.cells cells m)) (hm : m.ro = false) (hg : m.grp = none) (hnew : spliceX cells off vs = some new) (q : Q ⟨to, ds, hp.set b (some (.cells new m)), nx, cs0⟩) :
    WC e fm (compOp all ⟨none, .store t a v, ty, pos, aft, none⟩) ⟨to, ds, hp, nx, cs0⟩ Q := by
  subst hv hvs
  refine .eff0 [(b, some (.cells new m))] hl (fun rec cs k => ?_) q
  have : (compOp all ⟨none, .store t a v, ty, pos, aft, none⟩).run e rec fm to ds hp nx cs k = optU (eStore e.T hp.get t ((opd a).run to) ((opd v).run to)) (keOf (fun t _ => t) e.low to ds hp nx cs k) := rfl
  rw [this, ha]
  have : eStore e.T hp.get t (.pointer (some ⟨b, off, none⟩)) ((opd v).run to) = some [(b, some (.cells new m))] := by
    simp only [eStore, hb, hs, hn, cond_true, storeUps, hm, cond_false, hnew, Option.bind_some, hg]
  rw [this]; rfl
end
theorem vEq_bool (n : Nat) (b : Bool) : vEq n (.bool b) (.bool b) = true := by cases n <;> cases b <;> rfl
theorem vEq_str (n : Nat) (s : ByteArray) : vEq n (.string s) (.string s) = true := by
  have : eqB (strs s) (strs s) = true := by rw [eqB_eq]; simp
  cases n <;> simp only [vEq, this]
theorem leI_iff {x y : Int} : leI x y = true ↔ x ≤ y := by rw [leI_eq]; simp
theorem neI_iff {x y : Int} : (!(eqI x y)) = true ↔ x ≠ y := by rw [eqI_eq]; simp
theorem WP.scope {e : Env} {fm : Fm} {s : St} {W : Nat → St → Prop} {c : Code} (h : WP e fm c s W) : WP e fm (.scope c) s W := by
  obtain ⟨o, s', h1, h2⟩ := h; exact ⟨o, s', h1.scope, h2⟩
def blk (a : Option Addr) : Nat := (a.map (·.block)).getD 0
section
variable {α : Type} {enc : α → List Value} {n : Nat} {hp hp' : Ht} {nx nx' : Nat} {s : SV α}
theorem SOk.blkA {a : Option Addr} {k c : Nat} (h : SOk enc n hp nx s) (hv : s.v = .slice a k c) (hk : 0 < s.l.length) : a = some ⟨blk a, 0, none⟩ := by
  obtain ⟨b, m, rfl, _⟩ := h.block hv hk; rfl
theorem SOk.blkB {a : Option Addr} {k c : Nat} (h : SOk enc n hp nx s) (hv : s.v = .slice a k c) (hk : 0 < s.l.length) : ∃ m, hp.get (blk a) = some (.cells (s.l.flatMap enc) m) := by
  obtain ⟨b, m, rfl, _, h1⟩ := h.block hv hk; exact ⟨m, h1⟩
end
theorem flat_at {α : Type} {enc : α → List Value} {n : Nat} {l : List α} {i f : Nat} {x : α} {v : Value} (hl : ∀ y ∈ l, (enc y).length = n) (h : l[i]? = some x) (hf : f < n) (hv : (enc x)[f]? = some v) : (l.flatMap enc)[0 + i * n + f]? = some v := by
  rw [Nat.zero_add, flat_cell hl h hf, hv]
theorem flat_at1 {α : Type} {enc : α → List Value} {l : List α} {i : Nat} {x : α} {v : Value} (hl : ∀ y ∈ l, (enc y).length = 1) (h : l[i]? = some x) (hv : (enc x)[0]? = some v) : (l.flatMap enc)[0 + i * 1]? = some v := by
  have := flat_at hl h (by decide) hv
  rwa [Nat.add_zero] at this
theorem flat_at0 {α : Type} {enc : α → List Value} {n : Nat} {l : List α} {i : Nat} {x : α} (hl : ∀ y ∈ l, (enc y).length = n) (h : l[i]? = some x) : takeX n ((l.flatMap enc).drop (0 + i * n)) = some (enc x) := by
  rw [Nat.zero_add]; exact flat_take hl h
theorem eLoad_oneE {T : Ty} {hp : Hp} {t : TypeId} {b o : Nat} {cells : List Value} {v : Value} (ha : T.agg t = some false) (hb : ∃ m, hp b = some (.cells cells m)) (hc : cells[o]? = some v) : eLoad T hp t (.pointer (some ⟨b, o, none⟩)) = some v := by
  obtain ⟨m, hb⟩ := hb; exact eLoad_one ha hb hc
theorem eLoad_aggE {T : Ty} {hp : Hp} {t : TypeId} {b o n : Nat} {cells l : List Value} (ha : T.agg t = some true) (hs : T.size t = some n) (hb : ∃ m, hp b = some (.cells cells m)) (hc : takeX n (cells.drop o) = some l) : eLoad T hp t (.pointer (some ⟨b, o, none⟩)) = some (.agg l.toArray) := by
  obtain ⟨m, hb⟩ := hb; exact eLoad_agg ha hs hb hc
theorem eIndexAddr_A {T : Ty} {t el : TypeId} {a : Option Addr} {len c i s : Nat} {k : IntKind} (hu : T.und t = some (.slice el)) (hs : T.size el = some s) (ha : a = some ⟨blk a, 0, none⟩) (hi : i < len) : eIndexAddr T t (.slice a len c) (.int k (.ofNat i)) = some (.pointer (some ⟨blk a, 0 + i * s, none⟩)) := by
  generalize hb : blk a = b at ha
  subst ha
  exact eIndexAddr_sl hu hs hi
section
variable {e : Env} {fm : Fm} {to : Tm} {ds : List Deferred} {hp : Ht} {nx : Nat} {cs0 : List Nat} {Q : St → Prop} {all : List Oper} {d : Tmp} {ty : TypeId} {pos : String} {aft : Array Edge}
theorem WC.load1E {t : TypeId} {a : Operand} (b o : Nat) (v : Value) {cells : List Value} (hx : (opd a).run to = .pointer (some ⟨b, o, none⟩)) (ha : e.T.agg t = some false) (hb : ∃ m, hp.get b = some (.cells cells m)) (hc : cells[o]? = some v) (q : Q ⟨to.set d v, ds, hp, nx, cs0⟩) :
    WC e fm (compOp all ⟨some d, .load t a, ty, pos, aft, none⟩) ⟨to, ds, hp, nx, cs0⟩ Q := by
  obtain ⟨m, hb⟩ := hb; exact .load1 b o v hx ha hb hc q
theorem WC.loadSE {t : TypeId} {a : Operand} (b o : Nat) (l : List Value) {n : Nat} {cells : List Value} (hx : (opd a).run to = .pointer (some ⟨b, o, none⟩)) (ha : e.T.agg t = some true) (hs : e.T.size t = some n) (hb : ∃ m, hp.get b = some (.cells cells m)) (hc : takeX n (cells.drop o) = some l) (q : Q ⟨to.set d (.agg l.toArray), ds, hp, nx, cs0⟩) :
    WC e fm (compOp all ⟨some d, .load t a, ty, pos, aft, none⟩) ⟨to, ds, hp, nx, cs0⟩ Q := by
  obtain ⟨m, hb⟩ := hb; exact .loadS b o l hx ha hs hb hc q
theorem WC.ix {t el : TypeId} {x j : Operand} (a : Option Addr) (len c i s : Nat) {k : IntKind} (hx : (opd x).run to = .slice a len c) (hj : (opd j).run to = .int k (.ofNat i)) (hu : e.T.und t = some (.slice el)) (hs : e.T.size el = some s) (ha : a = some ⟨blk a, 0, none⟩) (hi : i < len) (q : Q ⟨to.set d (.pointer (some ⟨blk a, 0 + i * s, none⟩)), ds, hp, nx, cs0⟩) :
    WC e fm (compOp all ⟨some d, .indexAddr t x j, ty, pos, aft, none⟩) ⟨to, ds, hp, nx, cs0⟩ Q :=
  .opt d (eIndexAddr e.T t ((opd x).run to) ((opd j).run to)) (fun _ _ _ => rfl) (by rw [hx, hj]; exact eIndexAddr_A hu hs ha hi) q
end
section
variable {T : Ty} {hp : Ht} {nx : Nat} {to : Tm} {c : Chk}
theorem chkV1 (v : Value) (h : ∀ k, c.run T hp nx to k = bif vEq 8 v v then k else .need 0) (hv : vEq 8 v v = true) (k : R) : c.run T hp nx to k = k := by
  rw [h, hv]; rfl
theorem chkO1 (v : Value) (o : Option Value) (h : ∀ k, c.run T hp nx to k = optV o (fun x => bif vEq 8 x v then k else .need 0)) (ho : o = some v) (hv : vEq 8 v v = true) (k : R) : c.run T hp nx to k = k := by
  rw [h, ho]; simp only [optV, hv, cond_true]
end
def BoolIs (P : Prop) : Value → Prop := fun v => ∃ c : Bool, v = .bool c ∧ (c = true ↔ P)
def IntIs (z : Int) : Value → Prop := fun v => v = .int .i64 z
def GB (b : Bool) (P : Prop) (nx : Nat) (hp : Ht) : Value → Ht → Nat → Prop := fun v hp' nx' => (∃ c : Bool, v = (bif b then .bool c else undef) ∧ (c = true ↔ P)) ∧ nx ≤ nx' ∧ HE nx hp hp'
theorem GB.off {b : Bool} {P : Prop} {nx : Nat} {hp : Ht} (h : b = false) : GB b P nx hp undef hp nx :=
  ⟨⟨@decide P (Classical.propDecidable P), by rw [h]; rfl, by simp⟩, Nat.le_refl _, HE.refl _ _⟩
def GV (b : Bool) (x : Value) (nx : Nat) (hp : Ht) : Value → Ht → Nat → Prop := fun v hp' nx' => v = (bif b then x else undef) ∧ nx ≤ nx' ∧ HE nx hp hp'
theorem GV.off {b : Bool} {x : Value} {nx : Nat} {hp : Ht} (h : b = false) : GV b x nx hp undef hp nx :=
  ⟨by rw [h]; rfl, Nat.le_refl _, HE.refl _ _⟩
def encI (z : Int) : List Value := [.int .i64 z]
def encSl {α : Type} (s : SV α) : List Value := [s.v]
instance {α : Type} : Inhabited (SV α) := ⟨⟨.nilIface, []⟩⟩
def SlOk {α : Type} (enc : α → List Value) (n : Nat) (E : Ht → Nat → α → Prop) (hp : Ht) (nx : Nat) (s : SV α) : Prop := SOk enc n hp nx s ∧ ∀ x ∈ s.l, E hp nx x
theorem SlOk.mono {α : Type} {enc : α → List Value} {n : Nat} {E : Ht → Nat → α → Prop} {hp hp' : Ht} {nx nx' : Nat} {s : SV α} (h : SlOk enc n E hp nx s) (hE : ∀ x, E hp nx x → HE nx hp hp' → nx ≤ nx' → E hp' nx' x) (he : HE nx hp hp') (hn : nx ≤ nx') : SlOk enc n E hp' nx' s :=
  ⟨h.1.mono he hn, fun x hx => hE x (h.2 x hx) he hn⟩
theorem wrapN {n : Nat} (h : n < 9223372036854775808) : wrapE .i64 (.ofNat n) = .ofNat n := by
  have h1 : resK .i64 (.ofNat n) = n := Nat.mod_eq_of_lt (show n < 18446744073709551616 by omega)
  have h2 : Nat.ble 9223372036854775808 n = false := by
    cases hb : Nat.ble 9223372036854775808 n with
    | false => rfl
    | true => have := Nat.le_of_ble_eq_true hb; omega
  unfold wrapE
  rw [h1]
  unfold signK
  show (bif Nat.ble 9223372036854775808 n then _ else Int.ofNat n) = _
  rw [h2]; rfl
theorem wrapAdd {i j : Nat} (h : i + j < 9223372036854775808) : wrapE .i64 (.ofNat i + .ofNat j) = .ofNat (i + j) := wrapN h
def IdxIs {α : Type} (l : List α) (A : α → Prop) : Value → Prop := fun v => (v = .int .i64 (-1) ∧ ∀ x ∈ l, ¬ A x) ∨ ∃ (i : Nat) (x : α), v = .int .i64 (.ofNat i) ∧ l[i]? = some x ∧ A x ∧ ∀ (j : Nat) (y : α), j < i → l[j]? = some y → ¬ A y
theorem IdxIs.sign {α : Type} {l : List α} {A : α → Prop} {v : Value} (h : IdxIs l A v) : ∃ z : Int, v = .int .i64 z ∧ (0 ≤ z ↔ ∃ x ∈ l, A x) := by
  rcases h with ⟨rfl, h⟩ | ⟨i, x, rfl, h1, h2, _⟩
  · exact ⟨-1, rfl, by simp; exact h⟩
  · exact ⟨.ofNat i, rfl, ⟨fun _ => ⟨x, List.mem_of_getElem? h1, h2⟩, fun _ => Int.natCast_nonneg i⟩⟩
def GC (b : Bool) (k : Int) (P : Prop) (nx : Nat) (hp : Ht) : Value → Ht → Nat → Prop := fun v hp' nx' => (∃ z : Int, v = (bif b then .int .i64 z else undef) ∧ (z = 0 ↔ P) ∧ (z = 0 ∨ z = k)) ∧ nx ≤ nx' ∧ HE nx hp hp'
theorem SOk.ofBox {α : Type} {enc : α → List Value} {n : Nat} {l : List α} {hp : Ht} {nx b c : Nat} {m : CMeta} {cells : List Value} (hl : ∀ x ∈ l, (enc x).length = n) (hb : hp.get b = some (.cells cells m)) (hc : cells = l.flatMap enc) (h0 : 0 < c) (hlt : b < nx) (hs : l.length < 281474976710656) :
    SOk enc n hp nx ⟨.slice (some ⟨b, 0, none⟩) l.length c, l⟩ :=
  ⟨hl, .inr ⟨b, c, m, rfl, h0, hlt, by rw [hb, hc]⟩, hs⟩
theorem ePick_or {c y : Bool} {b : Value} (h : c = false → b = .bool y) : ePick (.bool c) (.bool true) b = some (.bool (c || y)) := by
  cases c with
  | true => rfl
  | false => rw [h rfl]; rfl
theorem ePick_and {c x : Bool} {a : Value} (h : c = true → a = .bool x) : ePick (.bool c) a (.bool false) = some (.bool (c && x)) := by
  cases c with
  | true => rw [h rfl]; rfl
  | false => rfl
theorem chkAtG {T : Ty} {hp : Ht} {nx : Nat} {to : Tm} {all : List Oper} {i j : Nat} {w : Bool} {d : Tmp} {op : Op} {ty : TypeId} {pos : String} {aft : Array Edge} (b : Bool) (v x : Value) {g : Od} (hn : nthO i all = some ⟨some d, op, ty, pos, aft, some (j, w)⟩) (hg : guardC all j = some g) (hx : g.run to = x) (hw : wantedE w x = b)
    (hd : to.get d = (bif b then v else undef)) (h1 : b = true → ∀ k, (chkOp ⟨some d, op, ty, pos, aft, none⟩).run T hp nx to k = k) (k : R) : (chkAt all i).run T hp nx to k = k := by
  subst hx
  unfold chkAt
  simp only [hn]
  unfold chkG
  simp only [hg]
  show (Bool.casesOn (wantedE w (g.run to)) (bif undefAt (some d) to then k else .need 0) ((chkOp ⟨some d, op, ty, pos, aft, some (j, w)⟩).run T hp nx to k) : R) = k
  rw [hw]
  cases b with
  | true => exact h1 rfl k
  | false =>
    have : undefAt (some d) to = true := by show vEq 8 undef (to.get d) = true; rw [hd]; rfl
    show (bif undefAt (some d) to then k else .need 0) = k
    rw [this]; rfl
end
end Sw

namespace Sw
noncomputable section
open Go Go.RowKit
theorem Chks.val {e : Env} {c : Chk} {l : List Chk} {to : Tm} {ds : List Deferred} {hp : Ht} {nx : Nat} {cs0 : List Nat} (v : Value) (h : ∀ k, c.run e.T hp nx to k = bif vEq 8 v v then k else .need 0) (hv : vEq 8 v v = true) (hl : Chks e l ⟨to, ds, hp, nx, cs0⟩) : Chks e (c :: l) ⟨to, ds, hp, nx, cs0⟩ :=
  .cons (fun k => by show c.run e.T hp nx to k = k; rw [h, hv]; rfl) hl
theorem Chks.opt {e : Env} {c : Chk} {l : List Chk} {to : Tm} {ds : List Deferred} {hp : Ht} {nx : Nat} {cs0 : List Nat} (v : Value) (o : Option Value) (h : ∀ k, c.run e.T hp nx to k = optV o (fun x => bif vEq 8 x v then k else .need 0)) (ho : o = some v) (hv : vEq 8 v v = true) (hl : Chks e l ⟨to, ds, hp, nx, cs0⟩) : Chks e (c :: l) ⟨to, ds, hp, nx, cs0⟩ :=
  .cons (fun k => by show c.run e.T hp nx to k = k; rw [h, ho]; simp only [optV, hv, cond_true]) hl
theorem Chks.new {e : Env} {c : Chk} {l : List Chk} {to : Tm} {ds : List Deferred} {hp : Ht} {nx : Nat} {cs0 : List Nat} (m : Nat) (v : Value) (cs : List Value) (h : ∀ k, c.run e.T hp nx to k = (match hp.get m with | some (.cells cs' m') => bif vEq 8 v v && (vEqs (vEq 8) cs cs' && plainM m') then k else .need 0 | _ => .need 0)) (hm : hp.get m = some (.cells cs CMeta.plain)) (hv : vEq 8 v v = true) (hc : vEqs (vEq 8) cs cs = true) (hl : Chks e l ⟨to, ds, hp, nx, cs0⟩) : Chks e (c :: l) ⟨to, ds, hp, nx, cs0⟩ :=
  .cons (fun k => by show c.run e.T hp nx to k = k; rw [h, hm]; simp only [hv, hc]; rfl) hl
theorem Sl.vEq {B size nx l : Nat} {hp : Ht} {v : Value} {xs : List Value} (h : Sl B size hp nx v l xs) : vEq 8 v v = true := by
  cases h with
  | nil => exact vEq_nilsl ..
  | plain => exact vEq_sl ..
  | grown => exact vEq_sl ..
theorem WP.drawP {e : Env} {fm : Fm} {s : St} {W : Nat → St → Prop} {id : Nat} {ops : Array Oper} (stages : List Stage) (hs : (mkPlan ops.toList).stages = stages) (h : WD e fm (stC ops.toList stages) s (W 0)) : WP e fm (.region id ops true) s W := by
  subst hs; exact .draw h
theorem WP.drawS {e : Env} {fm : Fm} {s : St} {W : Nat → St → Prop} {id : Nat} {ops : Array Oper} (stages : List Stage) (hs : (mkPlan ops.toList).stages = stages) (cls : List SCl) (hc : stC ops.toList stages = cls) (h : WD e fm cls s (W 0)) : WP e fm (.region id ops true) s W := by
  subst hc; exact .drawP stages hs h
theorem WN.consAt {e : Env} {fm : Fm} {s : St} {Q : St → Prop} {all : List Oper} {i : Nat} {o : Oper} {l : List Cl} (h : nthO i all = some o) (k : WC e fm (compOp all o) s fun s1 => WN e fm l s1 Q) : WN e fm (compAt all i :: l) s Q := by
  refine .cons ?_
  have : compAt all i = compOp all o := by unfold compAt; rw [h]
  rw [this]; exact k
theorem WC.at {e : Env} {fm : Fm} {s : St} {Q : St → Prop} {all : List Oper} {i : Nat} {o : Oper} (h : nthO i all = some o) (k : WC e fm (compOp all o) s Q) : WC e fm (compAt all i) s Q := by
  have : compAt all i = compOp all o := by unfold compAt; rw [h]
  rw [this]; exact k
def BoolImp (P : Prop) : Value → Prop := fun v => ∃ c : Bool, v = .bool c ∧ (c = true → P)
def GI (b : Bool) (P : Prop) (nx : Nat) (hp : Ht) : Value → Ht → Nat → Prop := fun v hp' nx' => (∃ c : Bool, v = (bif b then .bool c else undef) ∧ (c = true → P)) ∧ nx ≤ nx' ∧ HE nx hp hp'
theorem GI.off {b : Bool} {P : Prop} {nx : Nat} {hp : Ht} (h : b = false) : GI b P nx hp undef hp nx :=
  ⟨⟨false, by rw [h]; rfl, fun h => by cases h⟩, Nat.le_refl _, HE.refl _ _⟩
def IdxZ {α : Type} (l : List α) (A : α → Prop) (z : Int) : Prop := (z = -1 ∧ ∀ x ∈ l, ¬ A x) ∨ ∃ (i : Nat) (x : α), z = .ofNat i ∧ l[i]? = some x ∧ A x ∧ ∀ (j : Nat) (y : α), j < i → l[j]? = some y → ¬ A y
theorem IdxIs.num {α : Type} {l : List α} {A : α → Prop} {v : Value} (h : IdxIs l A v) : ∃ z : Int, v = .int .i64 z ∧ IdxZ l A z := by
  rcases h with ⟨rfl, h⟩ | ⟨i, x, rfl, h⟩
  · exact ⟨_, rfl, .inl ⟨rfl, h⟩⟩
  · exact ⟨_, rfl, .inr ⟨i, x, rfl, h⟩⟩
end
end Sw
