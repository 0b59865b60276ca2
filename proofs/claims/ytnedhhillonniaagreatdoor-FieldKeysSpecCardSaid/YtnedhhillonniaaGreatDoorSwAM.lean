/- A part of the proof that the law returns true for every input that its row speaks of. No condition is added. -/
import Derived.Test.YtnedhhillonniaaGreatDoorSwAL
import Derived.ProofKit
import Derived.Carry
import Derived.ChangeSlices
import Derived.LaidLaws
import Derived.Handed
import Derived.Test.YtnedhhillonniaaGreatDoorRows
/- Chapter 24: the law FieldKeysSpec, on open data. -/
namespace Sw
noncomputable section
open Go Go.Proofs Go.RowKit
set_option maxRecDepth 100000

/-- The heap of the start: the package variables, and the list. -/
noncomputable def hpBy (xs : List Int) (m : CMeta) : Ht := h24.set 12 (some (.cells (ints xs) m))
theorem fieldKeysSpec_wf (x0 x1 x2 x3 x4 x5 x6 x7 : Int) (a : Option Addr) (l c : Nat) (xs : List Int) (m : CMeta) (hlen : xs.length = l) (hcells : 0 < l → a = some ⟨12, 0, none⟩) (heq : vEq 8 (.slice a l c) (.slice a l c) = true) : WF e5 3 [sV x0 x1 x2 x3 x4 x5 x6 x7, .slice a l c] (hpBy xs m) 13 (fun v _ _ => v = .bool true) := by
  refine WF.body (fi := ⟨Tryz.f3.body.getD .skip, 17, [.tmp 4]⟩) (by kernel_rfl) (by kernel_rfl) (by kernel_rfl) rfl ?_
  refine WP.seq (WP.region ?_)
  refine WO.cons (WC.box (sV x0 x1 x2 x3 x4 x5 x6 x7) (sC x0 x1 x2 x3 x4 x5 x6 x7) rfl rfl rfl ?_)
  refine WO.cons (WC.val 4 (.bool false) (fun _ _ _ => by kernel_rfl) ?_)
  refine WO.nil ?_
  refine WP.seq (WP.seq (WP.region ?_))
  refine WO.cons (WC.call 5 4 [] (fun _ _ _ => by kernel_rfl) (WF.tmpl (v := .bool true) (hp' := (hpBy xs m).set 13 (some (.cells (sC x0 x1 x2 x3 x4 x5 x6 x7) CMeta.plain))) (nx' := 14) rfl (by kernel_rfl) ?_))
  refine WO.cons (WC.val 6 (.bool false) (fun _ _ _ => by kernel_rfl) ?_)
  refine WO.nil ?_
  refine WP.cond false (by kernel_rfl) (fun h => by cases h) (fun _ => WP.skip ?_)
  refine WP.seq (WP.seq (WP.region ?_))
  refine WO.cons (WC.val 7 (.slice a l c) (fun _ _ _ => by kernel_rfl) ?_)
  refine WO.cons (WC.val 8 (.int .i64 (.ofNat l)) (fun _ _ _ => by kernel_rfl) ?_)
  refine WO.cons (WC.val 9 (.bool (ltI 50 (.ofNat l))) (fun _ _ _ => by kernel_rfl) ?_)
  refine WO.nil ?_
  refine WP.cond (ltI 50 (.ofNat l)) (by kernel_rfl) (fun _ => ?_) (fun h => WP.skip ?_)
  · refine WP.seq (WP.region ?_)
    refine WO.cons (WC.val 4 (.bool true) (fun _ _ _ => by kernel_rfl) ?_)
    refine WO.nil ?_
    exact WP.ret ⟨rfl, rfl, [.bool true], by kernel_rfl, rfl⟩
  have hfew : l ≤ 50 := by
    have e : ltI 50 (.ofNat l) = Nat.blt 50 l := rfl
    rw [e] at h; exact blt_false h
  have hby : ByOk ((hpBy xs m).set 13 (some (.cells (sC x0 x1 x2 x3 x4 x5 x6 x7) CMeta.plain))) 14 a l c xs := ⟨hlen, fun k => ⟨12, m, hcells k, by decide, by rw [Tr.get_other _ _ (by decide)]; exact Tr.get_same ..⟩, heq, hfew⟩
  have hs := Tr.get_same (hpBy xs m) 13 (some (.cells (sC x0 x1 x2 x3 x4 x5 x6 x7) CMeta.plain))
  generalize (hpBy xs m).set 13 (some (.cells (sC x0 x1 x2 x3 x4 x5 x6 x7) CMeta.plain)) = hp0 at *
  refine WP.seq (WP.drawS [⟨[0, 1, 3, 4], [0, 1, 3, 4], some 2⟩, ⟨[], [3, 4], some 5⟩, ⟨[], [], some 6⟩, ⟨[], [], some 7⟩, ⟨[], [], none⟩] (by kernel_rfl) _ rfl ?_)
  refine WD.eff ?_
  refine WN.consAt rfl (WC.loadS 13 0 (sC x0 x1 x2 x3 x4 x5 x6 x7) (by kernel_rfl) T24_agg23 T24_size23 hs rfl ?_)
  refine WN.consAt rfl (WC.val 11 (.slice a l c) (fun _ _ _ => by kernel_rfl) ?_)
  refine WN.consAt rfl (WC.loadS 13 0 (sC x0 x1 x2 x3 x4 x5 x6 x7) (by kernel_rfl) T24_agg23 T24_size23 hs rfl ?_)
  refine WN.consAt rfl (WC.val 14 (.slice a l c) (fun _ _ _ => by kernel_rfl) ?_)
  refine WN.nil ⟨?_, ?_⟩
  · refine Chks.opt (sV x0 x1 x2 x3 x4 x5 x6 x7) (eLoad e5.T hp0.get 23 (.pointer (some ⟨13, 0, none⟩))) (fun _ => by kernel_rfl) (eLoad_agg T24_agg23 T24_size23 hs rfl) (sV_vEq ..) (Chks.val (.slice a l c) (fun _ => by kernel_rfl) heq ?_)
    exact Chks.opt (sV x0 x1 x2 x3 x4 x5 x6 x7) (eLoad e5.T hp0.get 23 (.pointer (some ⟨13, 0, none⟩))) (fun _ => by kernel_rfl) (eLoad_agg T24_agg23 T24_size23 hs rfl) (sV_vEq ..) (Chks.val (.slice a l c) (fun _ => by kernel_rfl) heq Chks.nil)
  refine WC.call 12 6 [sV x0 x1 x2 x3 x4 x5 x6 x7, .slice a l c] (fun _ _ _ => by kernel_rfl) ((keys_wf x0 x1 x2 x3 x4 x5 x6 x7 a l c xs hp0 14 hby).mono ?_)
  rintro v1 hp1 nx1 ⟨hn1, he1, hsl1⟩
  have hs1 := he1.get hs (by omega)
  refine WD.eff (WN.nil ⟨?_, ?_⟩)
  · exact Chks.opt (sV x0 x1 x2 x3 x4 x5 x6 x7) (eLoad e5.T hp1.get 23 (.pointer (some ⟨13, 0, none⟩))) (fun _ => by kernel_rfl) (eLoad_agg T24_agg23 T24_size23 hs1 rfl) (sV_vEq ..) (Chks.val (.slice a l c) (fun _ => by kernel_rfl) heq Chks.nil)
  refine WC.call 15 7 [sV x0 x1 x2 x3 x4 x5 x6 x7, .slice a l c] (fun _ _ _ => by kernel_rfl) ((refKeys_wf x0 x1 x2 x3 x4 x5 x6 x7 a l c xs hp1 nx1 (hby.mono he1 hn1)).mono ?_)
  rintro v2 hp2 nx2 ⟨hn2, he2, hsl2⟩
  obtain ⟨a1, rfl, hb1⟩ := (hsl1.mono he2 hn2).by hfew
  obtain ⟨a2, rfl, hb2⟩ := hsl2.by hfew
  refine WD.eff (WN.nil ⟨Chks.nil, WC.call 16 5 [.slice a1 l l, .slice a2 l l] (fun _ _ _ => by kernel_rfl) ((same_wf a1 a2 l l l _ hp2 nx2 hb1 hb2).mono ?_)⟩)
  rintro _ hp3 nx3 rfl
  refine WD.eff (WN.nil ⟨Chks.nil, WC.at rfl (WC.val 4 (.bool true) (fun _ _ _ => by kernel_rfl) (WD.last (WN.nil ⟨Chks.nil, ?_⟩)))⟩)
  exact WP.ret ⟨rfl, rfl, [.bool true], by kernel_rfl, rfl⟩
end
end Sw

/- Chapter 24: the law FieldKeysSpec returns true, in every world that holds the package variables as laid. -/
namespace Sw
noncomputable section
open Go Go.Proofs Go.RowKit
set_option maxRecDepth 100000

theorem WF.callsTrue {P : Program} {ng B0 : Nat} {w0 : World} {e : Env} {g : Gm} {hp : Ht} {nx : Nat} {w : World} (ok : EnvOk P ng e) (kok : KOk P ng B0 w0 e) (H : HRel B0 w0 g hp.get nx w) (hg : GlobOk g ng) {f : FuncId} {l : List Value} {args : Array Value} (hl : LRel g l args.toList)
    (h : WF e f l hp nx (fun v _ _ => v = .bool true)) : Calls P f args w fun en w' => en = .returned (.bool true) ∧ Below B0 w0 w' := by
  obtain ⟨v, hp', nx', ⟨n0, h1⟩, rfl⟩ := h
  refine Sw.calls_true ok kok H hg hl n0 1 ?_
  simp only [explore, h1 n0 (Nat.le_refl _)]
  rfl
theorem lay0_snoc (tb : TB) : ∀ (tbs : List TB) (h : Ht), lay0 (tbs ++ [tb]) h = layB 0 tb tb.cs (lay0 tbs h)
  | [], _ => rfl
  | _ :: tbs, _ => lay0_snoc tb tbs _

/-- The map of the package variables and of one block more. -/
def gBy (b' off : Nat) : Gm := ⟨fun b => if b < 12 then some (b, 0) else if b = 12 then some (b', off) else none, fun _ => none⟩
theorem startBy (w : World) (hl : Laid24 w) (hs : 11 < w.heap.size) (b' off : Nat) (xs : List Int) {rc : Array Value} {el : TypeId} {fz : Nat × Nat} (hh : w.heap[b']? = some (.cells rc el fz)) (hsz : off + xs.length ≤ rc.size) (hc : ∀ (i : Nat) (x : Int), xs[i]? = some x → rc[off + i]? = some (.int .i64 x)) :
    HRel w.heap.size w (gBy b' off) (hpBy xs ⟨true, none, 0, 0⟩).get 13 w := by
  have hb' : b' < w.heap.size := (Array.getElem?_eq_some_iff.1 hh).1
  have Hn : HRel w.heap.size w (gBy b' off) (Tr.nil : Ht).get 13 w := by
    refine ⟨Below.refl _ _, Nat.le_refl _, fun b rb ro k => ?_, fun b o k => (by cases k), fun b ms k => (by cases k), fun b cs m gr k => (by cases k), fun b1 b2 o1 o2 r r1 r2 _ k => (by cases k), fun b x k => by cases k⟩
    simp only [gBy] at k
    split at k
    · cases k; exact ⟨by omega, by omega⟩
    · split at k
      · cases k; exact ⟨by omega, hb'⟩
      · cases k
  have e : hpBy xs ⟨true, none, 0, 0⟩ = lay0 (tmClasses0.blocks ++ [⟨12, ints xs, false, 0⟩]) .nil := by
    rw [lay0_snoc]; kernel_rfl
  rw [e]
  refine lay0_ok (rbs := fun _ => True) (tmClasses0.blocks ++ [⟨12, ints xs, false, 0⟩]) 0 .nil (by kernel_rfl) Hn (fun rb _ b o r1 k => by cases k) (fun b _ => rfl) (fun tb ht hg => ?_) (fun tb ht rb ro k => ?_)
  · exfalso
    rcases List.mem_append.1 ht with ht | ht
    · have : (tmClasses0.blocks.all fun tb => !tb.grp) = true := by kernel_rfl
      have := List.all_eq_true.1 this tb ht
      rw [hg] at this; cases this
    · rw [List.mem_singleton.1 ht] at hg; cases hg
  · refine ⟨trivial, ?_⟩
    rw [Nat.zero_add] at k ⊢
    rcases List.mem_append.1 ht with ht | ht
    · have hcb : (tmClasses0.blocks.all fun tb => Nat.blt tb.num 12 && ((tb.cs.all (plainV 4)) && (Nat.beq tb.cs.length 2 && !tb.grp))) = true := by kernel_rfl
      have := List.all_eq_true.1 hcb tb ht
      simp only [Bool.and_eq_true, Bool.not_eq_true'] at this
      obtain ⟨c0, c1, c2, c3⟩ := this
      have c2 := beq_eq c2
      have c0 := blt_iff.1 c0
      simp only [gBy, if_pos c0] at k
      cases k
      have hcell := hl tb ht
      have h1 := hcell 1 tb.cs[1] (List.getElem?_eq_getElem (by omega))
      have hex : ∃ rc el fz, w.heap[tb.num]? = some (.cells rc el fz) ∧ 2 ≤ rc.size := by
        unfold World.cell? at h1
        simp only at h1
        split at h1
        · rename_i c el fz hh
          simp only [Option.isSome_none, Bool.false_eq_true, if_false] at h1
          exact ⟨c, el, fz, hh, by have := getElem?_lt h1; omega⟩
        · cases h1
      obtain ⟨rc, el, fz, hh, hsz⟩ := hex
      refine ⟨_, hh, ⟨by omega, fun i v v' e e' => ?_, (fun k => by cases k), (fun gr k => by rw [c3] at k; cases k), (fun _ => rfl)⟩⟩
      have h2 := hcell i v e
      unfold World.cell? at h2
      simp only [hh, Option.isSome_none, Bool.false_eq_true, if_false] at h2
      rw [Nat.zero_add] at e'
      rw [e'] at h2
      cases h2
      exact VRel.of_plain _ 4 v (List.all_eq_true.1 c1 v (List.mem_of_getElem? e))
    · rw [List.mem_singleton.1 ht] at k ⊢
      have k : some (b', off) = some (rb, ro) := k
      cases k
      refine ⟨_, hh, ⟨by rw [ints, List.length_map]; exact hsz, fun i v v' e e' => ?_, (fun k => by cases k), (fun gr k => by cases k), (fun _ => rfl)⟩⟩
      have e : (xs.map (Value.int .i64))[i]? = some v := e
      rw [List.getElem?_map, Option.map_eq_some_iff] at e
      obtain ⟨x, e1, rfl⟩ := e
      rw [hc i x e1] at e'
      cases e'
      exact .int _ _
theorem globBy (b' off : Nat) : GlobOk (gBy b' off) 12 := fun i hi => by simp [gBy, hi]

theorem law_slice (x0 x1 x2 x3 x4 x5 x6 x7 : Int) (w : World) (hl : Laid24 w) (hs : 11 < w.heap.size) (hm : ∃ m, w.cell? ⟨11, 0, none⟩ = some (.int .i64 m)) (b' off l c : Nat) (hlc : l ≤ c) (xs : List Int) (hxs : xs.length = l) {rc : Array Value} {el : TypeId} {fz : Nat × Nat} (hh : w.heap[b']? = some (.cells rc el fz)) (hsz : off + xs.length ≤ rc.size) (hc : ∀ (i : Nat) (x : Int), xs[i]? = some x → rc[off + i]? = some (.int .i64 x)) :
    Calls Tryz.prog 3 #[sV x0 x1 x2 x3 x4 x5 x6 x7, .slice (some ⟨b', off, none⟩) l c] w fun en w' => en = .returned (.bool true) ∧ Below w.heap.size w w' :=
  (fieldKeysSpec_wf x0 x1 x2 x3 x4 x5 x6 x7 (some ⟨12, 0, none⟩) l c xs ⟨true, none, 0, 0⟩ hxs (fun _ => rfl) (vEq_sl ..)  ).callsTrue (ok_any _) (kok5 _ _ ⟨hs, hm⟩) (startBy w hl hs b' off xs hh hsz hc) (globBy b' off)
    (LRel.cons (VRel.of_plain _ 4 _ (by kernel_rfl)) (LRel.cons (.slice (ro := off) (off := 0) rfl hlc (.inl rfl)) (LRel.nil _)))
theorem law_nil (x0 x1 x2 x3 x4 x5 x6 x7 : Int) (w : World) (hl : Laid24 w) (hs : 11 < w.heap.size) (hm : ∃ m, w.cell? ⟨11, 0, none⟩ = some (.int .i64 m)) :
    Calls Tryz.prog 3 #[sV x0 x1 x2 x3 x4 x5 x6 x7, .slice none 0 0] w fun en w' => en = .returned (.bool true) ∧ Below w.heap.size w w' := by
  have hex : ∃ rc el fz, w.heap[0]? = some (.cells rc el fz) := by
    have h1 := hl ⟨0, [(.int .i64 1), (.int .i64 9999)], false, 0⟩ (by exact List.mem_cons_self ..) 0 (.int .i64 1) rfl
    unfold World.cell? at h1
    simp only at h1
    split at h1
    · rename_i c el fz hh; exact ⟨c, el, fz, hh⟩
    · cases h1
  obtain ⟨rc, el, fz, hh⟩ := hex
  exact (fieldKeysSpec_wf x0 x1 x2 x3 x4 x5 x6 x7 none 0 0 [] ⟨true, none, 0, 0⟩ rfl (fun k => absurd k (by omega)) rfl  ).callsTrue (ok_any _) (kok5 _ _ ⟨hs, hm⟩) (startBy w hl hs 0 0 [] hh (Nat.zero_le _) (fun i x k => by cases k)) (globBy 0 0)
    (LRel.cons (VRel.of_plain _ 4 _ (by kernel_rfl)) (LRel.cons .nilSlice (LRel.nil _)))
end
end Sw

/- The row of a law: it returns true, and each argument reads as it did. -/
namespace Sw
noncomputable section
open Go Go.RowKit Go.ChangeShapes

section
variable {H : Type} {enc : TypeId × Value → H} {P : Program}

theorem trodAll_stays (hl : laidOutB P = true) {W W' : World} (hb : Below W.heap.size W W') : ∀ {ts : List TypeId} {vs : List Value} {ds : List (DataW H)} {ps : List MemPlace}, (∀ t ∈ ts, P.readableRec t = true ∧ t < P.types.size) →
    DataW.TrodAll enc P W 0 (fun _ => true) true ts vs ds ps → (∀ x ∈ ps, x.block < W.heap.size) → DataW.TrodAll enc P W' 0 (fun b => decide (b < W.heap.size)) true ts vs ds ps
  | [], [], [], _, _, h, _ => h
  | t :: ts, v :: vs, d :: ds, _, hr, h, hlt => by
    obtain ⟨p, q, h1, h2, rfl⟩ := h
    obtain ⟨r1, r2⟩ := hr t (List.mem_cons_self ..)
    exact ⟨p, q, Below.trod hl r1 r2 h1 hb (fun x hx => hlt x (List.mem_append_left _ hx)), trodAll_stays hl hb (fun t ht => hr t (List.mem_cons_of_mem _ ht)) h2 (fun x hx => hlt x (List.mem_append_right _ hx)), rfl⟩
  | [], _ :: _, _, _, _, h, _ => h.elim
  | [], [], _ :: _, _, _, h, _ => h.elim
  | _ :: _, [], _, _, _, h, _ => h.elim
  | _ :: _, _ :: _, [], _, _, h, _ => h.elim

/-- What a law's row asks of the end of a call. -/
theorem post_true {f : Func} {s : ChangeSpec} {apart fresh handsOn : Bool} {W W' : World} {args : Array Value} {ds gs : List (DataW H)} {before : List MemPlace} {t : TypeId} (hl : laidOutB P = true)
    (hW : DataW.Whole enc P f.params.toList s.vars apart W args.toList ds gs before) (hv : s.vars = []) (hs : s.fn H (ds ++ gs) = { results := [.lit (.bool true)], args := ds }) (hr : f.resultTypes = #[t]) (hu : P.underlying t = some .bool)
    (hp : ∀ t ∈ f.params.toList, P.readableRec t = true ∧ t < P.types.size) (hb : Below W.heap.size W W') : s.post enc P f apart fresh handsOn false W args (.bool true) W' := by
  have hW' := hW
  obtain ⟨p, q, hA, hV, rfl, _, _⟩ := hW
  refine ⟨ds, gs, p ++ q, [], p, [], hW', ?_, ?_, ?_, ?_, fun h => by cases h⟩
  · rw [hs, hr]
    exact trodAll_mk1 (shut_bool hu true)
  · rw [hs]
    exact trodAll_stays hl hb hp hA (fun x hx => hW'.lt x (List.mem_append_left _ hx))
  · rw [hs, hv]; rfl
  · exact hb.frame _

/-- A law's row, by what its calls do. -/
theorem returns_true {C : Checked} {os : Os} {f : FuncId} {fn : Func} {s : ChangeSpec} {apart fresh handsOn : Bool} {X : World → Array Value → Prop} {t : TypeId}
    (hX : ∀ (w w' : World) (args : Array Value), w.heap = w'.heap → X w args → X w' args)
    (own : ownKnob C.prog.godebug = none) (started : os.Started) (noInit : C.prog.inits.idxOf? f = none) (hfn : C.prog.funcs[f]? = some fn)
    (witness : ∃ (w : World) (tape : Tape) (i : Input), w.os = os ∧ (w.forCall tape i).Shaped C.prog ∧ i.vars = [] ∧ Input.okWide C.prog (w.forCall tape i) .any w.heap.size f i ∧
      ((s.pre enc C.prog fn [] apart (w.forCall tape i).memory i.args ∧ X (w.forCall tape i).memory i.args) ∧ sizedMet enc C.prog fn (OpenSpec.ofChange s) apart (w.forCall tape i).memory i.args) ∧ ({} : Assume).holds C.prog (lone (Frame.enter C.prog f i.args .normal) [] (w.forCall tape i)))
    (hl : laidOutB C.prog = true) (hv : s.vars = []) (hr : fn.resultTypes = #[t]) (hu : C.prog.underlying t = some .bool) (hp : ∀ t ∈ fn.params.toList, C.prog.readableRec t = true ∧ t < C.prog.types.size)
    (contract : ∀ (W : World) (base : Nat) (args : Array Value) (ds gs : List (DataW H)) (before p : List MemPlace),
      (∀ (j : Nat) t v, fn.params[j]? = some t → args[j]? = some v → Value.okWide C.prog W .any base t v) →
      DataW.TrodAll enc C.prog W 0 (fun _ => true) true fn.params.toList args.toList ds p → gs = [] →
      X W args → W.ShapedOpen C.prog →
      s.fn H (ds ++ gs) = { results := [.lit (.bool true)], args := ds } ∧ Calls C.prog f args W fun e W' => e = .returned (.bool true) ∧ Below W.heap.size W W') :
    ReturnsInHanded {} C os f .any (fun w args => (s.pre enc C.prog fn [] apart w args ∧ X w args) ∧ sizedMet enc C.prog fn (OpenSpec.ofChange s) apart w args) (s.post enc C.prog fn apart fresh handsOn false) := by
  refine returnsInHanded_of_calls own started noInit witness ?_
  intro w tape i _ hsh _ hok hpre _
  obtain ⟨_, _, _, fn', hfn', _, _, _, _, hval⟩ := hok
  have e : fn' = fn := Option.some.inj (hfn'.symm.trans hfn)
  subst e
  obtain ⟨⟨⟨ds, gs, before, hw, hc⟩, hx⟩, hz⟩ := hpre
  have hw' := DataW.Whole.of_heap (w' := w.forCall tape i) (by rfl) hw
  have hw2 := hw'
  obtain ⟨p, q, hA, hV, _, _, _⟩ := hw2
  have hgs : gs = [] := by
    rw [hv] at hV
    cases gs with
    | nil => rfl
    | cons a b => exact hV.elim
  obtain ⟨hs, hcalls⟩ := contract (w.forCall tape i) w.heap.size i.args ds gs before p hval hA hgs (hX _ _ _ (by rfl) hx) hsh
  refine hcalls.mono fun e W' ⟨he, hb⟩ => ?_
  subst he
  exact ChangeSpec.post_blind (post_true hl hw' hv hs hr hu hp hb)
end
end
end Sw

/- Chapter 24: from the row's hypotheses to the laid world. -/
namespace Sw
noncomputable section
open Go Go.Proofs Go.Proofs.YtnedhhillonniaaGreatDoor Go.RowKit Go.ChangeShapes
set_option maxRecDepth 100000

def numOf : Value → Int
  | .int _ z => z
  | _ => 0
/-- A struct of numbers, each in one cell: the cells. -/
theorem trod_ints {H : Type} {enc : TypeId × Value → H} {P : Program} {w : World} {base : Nat} {spare : Nat → Bool} {held : Bool} {fuel : Nat} {t e : TypeId} {fs : Array Field} {cs : List Value} {x : DataW H × List MemPlace} (ht : P.underlying t = some (.struct fs)) (he : P.underlying e = some (.int .i64)) (hc : P.cellsOf e = 1)
    (hf : ∀ (i : Nat) (f : Field), fs[i]? = some f → f.type = e ∧ f.offset = i) (hn : P.cellsOf t = fs.size) (h : DataW.trod enc P w base spare held fuel t cs = some x) :
    ∃ zs : List Int, zs.length = fs.size ∧ cs = ints zs ∧ x = (.agg (zs.map fun z => .lit (.int .i64 z)), []) ∧ ∀ z ∈ zs, (Lit.int .i64 z).wf = true := by
  obtain ⟨xs, n, _, rfl, hl, hlen, hx⟩ := DataW.trod_struct ht h
  have each : ∀ (i : Nat), i < fs.size → ∃ z, cs[i]? = some (.int .i64 z) ∧ xs[i]? = some (.lit (.int .i64 z), []) ∧ (Lit.int .i64 z).wf = true := fun i hi => by
    have hfi := Array.getElem?_eq_getElem hi
    have h1 := hx i _ hfi
    obtain ⟨h2, h3⟩ := hf i _ hfi
    rw [h2, h3, hc] at h1
    have hcs : cs[i]? = some (cs[i]'(by omega)) := List.getElem?_eq_getElem (by omega)
    have h4 : (cs.drop i).take 1 = [cs[i]'(by omega)] := by
      rw [List.drop_eq_getElem_cons (by omega)]; rfl
    rw [h4] at h1
    have h5 : xs[i]? = some (xs[i]'(by omega)) := List.getElem?_eq_getElem (by omega)
    rw [h5] at h1
    cases n with
    | zero => simp [DataW.trod] at h1
    | succ n =>
      generalize cs[i]'(by omega) = v at *
      unfold DataW.trod at h1
      rw [he] at h1
      cases v <;> simp only [reduceCtorEq] at h1
      rename_i k z
      split at h1
      · rename_i hk
        obtain ⟨rfl, hwf⟩ := hk
        exact ⟨z, hcs, by rw [h5, ← h1], hwf⟩
      · cases h1
  have hl : cs.length = fs.size := hl.trans hn
  have e1 : cs = ints (cs.map numOf) := by
    refine List.ext_getElem? fun i => ?_
    rcases Nat.lt_or_ge i fs.size with hi | hi
    · obtain ⟨z, h1, _⟩ := each i hi
      simp only [ints, List.getElem?_map, h1, Option.map_some, numOf]
    · rw [List.getElem?_eq_none (by omega), List.getElem?_eq_none (by rw [ints, List.length_map, List.length_map]; omega)]
  have e2 : xs = (cs.map numOf).map fun z => (.lit (.int .i64 z), []) := by
    refine List.ext_getElem? fun i => ?_
    rcases Nat.lt_or_ge i fs.size with hi | hi
    · obtain ⟨z, h1, h2, _⟩ := each i hi
      simp only [List.getElem?_map, h1, h2, Option.map_some, numOf]
    · rw [List.getElem?_eq_none (by omega), List.getElem?_eq_none (by rw [List.length_map, List.length_map]; omega)]
  refine ⟨cs.map numOf, by rw [List.length_map, hl], e1, ?_, fun z hz => ?_⟩
  · rw [e2]
    congr 1
    · rw [List.map_map]; rfl
    · rw [List.flatMap_map]; induction cs.map numOf with
      | nil => rfl
      | cons a l ih => simp
  · obtain ⟨v, hv, rfl⟩ := List.mem_map.1 hz
    obtain ⟨i, hi, rfl⟩ := List.mem_iff_getElem.1 hv
    obtain ⟨z, h1, _, h3⟩ := each i (by omega)
    rw [List.getElem?_eq_getElem hi] at h1
    rw [Option.some.inj h1]; exact h3

theorem u3 : Tryz.prog.underlying 3 = some (.int .i64) := by kernel_rfl
theorem c3 : Tryz.prog.cellsOf 3 = 1 := by kernel_rfl
theorem c364 : Tryz.prog.cellsOf 364 = 2 := by kernel_rfl
theorem c23 : Tryz.prog.cellsOf 23 = 8 := by kernel_rfl
def plainFs (fs : Array Field) : Bool := (List.range fs.size).all fun i => match fs[i]? with
  | some f => Nat.beq f.type 3 && Nat.beq f.offset i
  | none => false
theorem plainFs_spec {fs : Array Field} (h : plainFs fs = true) : ∀ (i : Nat) (f : Field), fs[i]? = some f → f.type = 3 ∧ f.offset = i := fun i f hf => by
  have := List.all_eq_true.1 h i (List.mem_range.2 (Array.getElem?_eq_some_iff.1 hf).1)
  rw [hf] at this
  simp only [Bool.and_eq_true] at this
  exact ⟨beq_eq this.1, beq_eq this.2⟩
theorem s364 : ∃ fs, Tryz.prog.underlying 364 = some (.struct fs) ∧ plainFs fs = true ∧ fs.size = 2 := by
  have h : (match Tryz.prog.underlying 364 with | some (.struct fs) => plainFs fs && Nat.beq fs.size 2 | _ => false) = true := by kernel_rfl
  split at h
  · rename_i fs hu
    rw [Bool.and_eq_true] at h
    exact ⟨fs, hu, h.1, beq_eq h.2⟩
  · cases h
theorem s23 : ∃ fs, Tryz.prog.underlying 23 = some (.struct fs) ∧ plainFs fs = true ∧ fs.size = 8 := by
  have h : (match Tryz.prog.underlying 23 with | some (.struct fs) => plainFs fs && Nat.beq fs.size 8 | _ => false) = true := by kernel_rfl
  split at h
  · rename_i fs hu
    rw [Bool.and_eq_true] at h
    exact ⟨fs, hu, h.1, beq_eq h.2⟩
  · cases h

/-- One of the laid variables. -/
theorem laid_one {W : World} {laid : List (String × DataW Unit)} {ps : List MemPlace} (h : DataW.LaidVars Tryz.prog W laid ps) {n : String} {a b : Int} (hm : (n, .agg [.lit (.int .i64 a), .lit (.int .i64 b)]) ∈ laid) {g : Nat} (hg : Tryz.prog.globalNamed n = some g) (ht : (Tryz.prog.globals[g]?).map (·.type) = some 364) :
    ∀ (j : Nat) (v : Value), ([.int .i64 a, .int .i64 b] : List Value)[j]? = some v → W.cell? ⟨g, j, none⟩ = some v := by
  induction laid generalizing ps with
  | nil => cases hm
  | cons x r ih =>
    obtain ⟨n', d⟩ := x
    obtain ⟨g', t, cs, fuel, p, q, h1, h2, h3, h4, h5, _⟩ := h
    rcases List.mem_cons.1 hm with hm | hm
    · cases hm
      obtain rfl := Option.some.inj (hg.symm.trans h1)
      obtain rfl := Option.some.inj (ht.symm.trans h2)
      obtain ⟨fs, k1, k2, k3⟩ := s364
      obtain ⟨zs, z1, z2, z3, _⟩ := trod_ints k1 u3 c3 (plainFs_spec k2) (by rw [c364, k3]) h4
      intro j v hv
      rw [World.var?_cell hg h3 j]
      rw [k3] at z1
      match zs, z1 with
      | [z0, z1], _ =>
        simp only [Prod.mk.injEq, DataW.agg.injEq, List.map_cons, List.map_nil, List.cons.injEq, DataW.lit.injEq, Lit.int.injEq, true_and, and_true] at z3
        obtain ⟨⟨rfl, rfl⟩, rfl⟩ := z3
        rw [← Array.getElem?_toList, z2]
        exact hv
    · exact ih h5 hm
end
end Sw

/- Chapter 24: the row of FieldKeysSpec. -/
namespace Sw
noncomputable section
open Go Go.Proofs Go.Proofs.YtnedhhillonniaaGreatDoor Go.RowKit Go.ChangeShapes Go.WideShapes
set_option maxRecDepth 100000

theorem u24 : Tryz.prog.underlying 24 = some (.slice 3) := by kernel_rfl
theorem own24 : ownKnob Tryz.prog.godebug = none := by kernel_rfl
theorem laidOut24 : laidOutB Tryz.prog = true := by kernel_rfl

theorem laid24_of {W : World} (h : laidMetH Tryz.prog Rows.fieldKeysSpecRow.laid W) : Laid24 W := by
  have h : laidMet Tryz.prog Rows.fieldKeysSpecRow.laid W := h
  obtain ⟨ps, h, _, _⟩ := h
  have key : ∀ (n : String) (g : Nat) (a b : Int), (n, .agg [.lit (.int .i64 a), .lit (.int .i64 b)]) ∈ Rows.fieldKeysSpecRow.laid → Tryz.prog.globalNamed n = some g → (Tryz.prog.globals[g]?).map (·.type) = some 364 → ∀ tb : TB, tb = ⟨g, [.int .i64 a, .int .i64 b], false, 0⟩ → ∀ (j : Nat) (v : Value), tb.cs[j]? = some v → W.cell? ⟨tb.num, j, none⟩ = some v := fun n g a b hm hg ht tb e => by
    subst e; exact laid_one h hm hg ht
  intro tb ht
  simp only [tmClasses0, List.mem_cons, List.not_mem_nil, or_false] at ht
  rcases ht with e | e | e | e | e | e | e | e | e | e | e
  · exact key "stopwatch/facts.bibS" 0 1 9999 (by simp [Rows.fieldKeysSpecRow, Rows.laid_stopwatch_facts_bibS]) (by kernel_rfl) (by kernel_rfl) tb e
  · exact key "stopwatch/facts.timeS" 1 (-1099511627776) 1099511627776 (by simp [Rows.fieldKeysSpecRow, Rows.laid_stopwatch_facts_timeS]) (by kernel_rfl) (by kernel_rfl) tb e
  · exact key "stopwatch/facts.chipS" 2 0 1048576 (by simp [Rows.fieldKeysSpecRow, Rows.laid_stopwatch_facts_chipS]) (by kernel_rfl) (by kernel_rfl) tb e
  · exact key "stopwatch/facts.matS" 3 0 39 (by simp [Rows.fieldKeysSpecRow, Rows.laid_stopwatch_facts_matS]) (by kernel_rfl) (by kernel_rfl) tb e
  · exact key "stopwatch/facts.epochS" 4 0 255 (by simp [Rows.fieldKeysSpecRow, Rows.laid_stopwatch_facts_epochS]) (by kernel_rfl) (by kernel_rfl) tb e
  · exact key "stopwatch/facts.lengthS" 5 0 1099511627776 (by simp [Rows.fieldKeysSpecRow, Rows.laid_stopwatch_facts_lengthS]) (by kernel_rfl) (by kernel_rfl) tb e
  · exact key "stopwatch/facts.positionS" 6 0 255 (by simp [Rows.fieldKeysSpecRow, Rows.laid_stopwatch_facts_positionS]) (by kernel_rfl) (by kernel_rfl) tb e
  · exact key "stopwatch/facts.caseS" 7 1 1048576 (by simp [Rows.fieldKeysSpecRow, Rows.laid_stopwatch_facts_caseS]) (by kernel_rfl) (by kernel_rfl) tb e
  · exact key "stopwatch/facts.bitS" 8 0 1 (by simp [Rows.fieldKeysSpecRow, Rows.laid_stopwatch_facts_bitS]) (by kernel_rfl) (by kernel_rfl) tb e
  · exact key "stopwatch/facts.crewS" 9 0 31 (by simp [Rows.fieldKeysSpecRow, Rows.laid_stopwatch_facts_crewS]) (by kernel_rfl) (by kernel_rfl) tb e
  · exact key "stopwatch/facts.numberS" 10 1 1048576 (by simp [Rows.fieldKeysSpecRow, Rows.laid_stopwatch_facts_numberS]) (by kernel_rfl) (by kernel_rfl) tb e

theorem maxLen24 {w : World} (h : w.ShapedOpen Tryz.prog) : ∃ m, w.cell? ⟨11, 0, none⟩ = some (.int .i64 m) :=
  Go.Proofs.cell_of_shapedOpen_int (zero := #[.int .i64 0]) (t := 3) h (of_decide_eq_true (by kernel_rfl)) (by kernel_rfl) rfl (by kernel_rfl) (by kernel_rfl) u3
theorem size_of_cell {w : World} {b o : Nat} {v : Value} (h : w.cell? ⟨b, o, none⟩ = some v) : b < w.heap.size := by
  unfold World.cell? at h
  simp only at h
  split at h
  · rename_i c el fz hh; exact (Array.getElem?_eq_some_iff.1 hh).1
  · cases h

/-- A slice over whatever block, of no length and no capacity. -/
theorem law_empty (x0 x1 x2 x3 x4 x5 x6 x7 : Int) (w : World) (hl : Laid24 w) (hs : 11 < w.heap.size) (hm : ∃ m, w.cell? ⟨11, 0, none⟩ = some (.int .i64 m)) (a : Addr) :
    Calls Tryz.prog 3 #[sV x0 x1 x2 x3 x4 x5 x6 x7, .slice (some a) 0 0] w fun en w' => en = .returned (.bool true) ∧ Below w.heap.size w w' := by
  have hex : ∃ rc el fz, w.heap[0]? = some (.cells rc el fz) := by
    have h1 := hl ⟨0, [(.int .i64 1), (.int .i64 9999)], false, 0⟩ (by exact List.mem_cons_self ..) 0 (.int .i64 1) rfl
    unfold World.cell? at h1
    simp only at h1
    split at h1
    · rename_i c el fz hh; exact ⟨c, el, fz, hh⟩
    · cases h1
  obtain ⟨rc, el, fz, hh⟩ := hex
  exact (fieldKeysSpec_wf x0 x1 x2 x3 x4 x5 x6 x7 (some ⟨12, 0, none⟩) 0 0 [] ⟨true, none, 0, 0⟩ rfl (fun _ => rfl) rfl).callsTrue (ok_any _) (kok5 _ _ ⟨hs, hm⟩) (startBy w hl hs 0 0 [] hh (Nat.zero_le _) (fun i x k => by cases k)) (globBy 0 0)
    (LRel.cons (VRel.of_plain _ 4 _ (by kernel_rfl)) (LRel.cons (.emptySlice _ _) (LRel.nil _)))

/-- Every call that the row speaks of. -/
theorem law_any {H : Type} {enc : TypeId × Value → H} (W : World) (base : Nat) (args : Array Value) (ds : List (DataW H)) (p : List MemPlace)
    (hval : ∀ (j : Nat) t v, Tryz.f3.params[j]? = some t → args[j]? = some v → Value.okWide Tryz.prog W .any base t v)
    (hA : DataW.TrodAll enc Tryz.prog W 0 (fun _ => true) true Tryz.f3.params.toList args.toList ds p) (hl : Laid24 W) (hsh : W.ShapedOpen Tryz.prog) :
    (∃ d1 d2, ds = [d1, d2]) ∧ Calls Tryz.prog 3 args W fun e W' => e = .returned (.bool true) ∧ Below W.heap.size W W' := by
  have hm := maxLen24 hsh
  have hs : 11 < W.heap.size := by obtain ⟨m, hm⟩ := hm; exact size_of_cell hm
  rw [Tryz.params3] at hA hval
  obtain ⟨v0, v1, d0, d1, p0, p1, rfl, rfl, rfl, h0, h1⟩ := trodAll_two hA
  refine ⟨⟨_, _, rfl⟩, ?_⟩
  have k0 := hval 0 23 v0 rfl rfl
  have k1 := hval 1 24 v1 rfl rfl
  obtain ⟨fs, s1, s2, s3⟩ := s23
  have e0 : ∃ cs, v0 = .agg cs := by
    unfold Value.okWide at k0
    rw [s1] at k0
    obtain ⟨cs, h, _⟩ := k0
    exact ⟨cs, h⟩
  obtain ⟨cs, rfl⟩ := e0
  obtain ⟨f0, h0⟩ := h0
  obtain ⟨zs, z1, z2, _, _⟩ := trod_ints s1 u3 c3 (plainFs_spec s2) (by rw [c23, s3]) h0
  rw [s3] at z1
  obtain ⟨x0, x1, x2, x3, x4, x5, x6, x7, rfl⟩ : ∃ x0 x1 x2 x3 x4 x5 x6 x7, zs = [x0, x1, x2, x3, x4, x5, x6, x7] := by
    match zs, z1 with
    | [x0, x1, x2, x3, x4, x5, x6, x7], _ => exact ⟨_, _, _, _, _, _, _, _, rfl⟩
  have e : (Value.agg cs) = sV x0 x1 x2 x3 x4 x5 x6 x7 := by
    have z2 : cs.toList = sC x0 x1 x2 x3 x4 x5 x6 x7 := z2
    show Value.agg cs = .agg (sC x0 x1 x2 x3 x4 x5 x6 x7).toArray
    rw [← z2]
  rw [e]
  obtain ⟨f1, h1⟩ := h1
  have e1 : ∀ c, v1.cells.toList = [c] → v1 = c := fun c hc => by
    cases v1 <;> first | (simpa [Value.cells] using hc) | skip
    exfalso
    simp [Value.okWide, u24, Cell.okWide, Cell.ok] at k1
  rcases Go.ChangeShapes.open_ints u24 u3 c3 h1 with ⟨hc, _⟩ | ⟨a, len, cap, ws, hc, _, hlc, _, hlen, _, hcell, _⟩
  · rw [e1 _ hc]; exact law_nil x0 x1 x2 x3 x4 x5 x6 x7 W hl hs hm
  · rw [e1 _ hc]
    rw [if_pos rfl] at hlen
    rcases Nat.eq_zero_or_pos cap with hz | hz
    · subst hz
      obtain rfl : len = 0 := by omega
      exact law_empty x0 x1 x2 x3 x4 x5 x6 x7 W hl hs hm a
    · have c0 := hcell 0 (by omega)
      obtain ⟨ab, ao, asp⟩ := a
      obtain ⟨rc, el, fz, hh, hsp⟩ : ∃ rc el fz, W.heap[ab]? = some (.cells rc el fz) ∧ asp = none := by
        unfold World.cell? at c0
        simp only [Addr.add] at c0
        split at c0
        · rename_i c el fz hh
          cases asp with
          | none => exact ⟨c, el, fz, hh, rfl⟩
          | some _ => simp at c0
        · cases c0
      subst hsp
      have each : ∀ i, i < ws.length → rc[ao + i]? = some (.int .i64 (ws.getD i 0)) := fun i hi => by
        have := hcell i hi
        have hadd : (Addr.mk ab ao none).add i = ⟨ab, ao + i, none⟩ := by
          unfold Addr.add
          split
          · rename_i h; subst h; rfl
          · rfl
        rw [hadd] at this
        unfold World.cell? at this
        simp only [hh, Option.isSome_none, Bool.false_eq_true, if_false] at this
        exact this
      have hsz : ao + cap ≤ rc.size := by
        have h9 := each (cap - 1) (by omega)
        have := getElem?_lt h9
        omega
      have hwl : (ws.take len).length = len := by rw [List.length_take]; omega
      refine law_slice x0 x1 x2 x3 x4 x5 x6 x7 W hl hs hm ab ao len cap hlc (ws.take len) hwl hh (by omega) (fun i x hx => ?_)
      have hi : i < len := by
        have := (List.getElem?_eq_some_iff.1 hx).1
        omega
      rw [each i (by omega)]
      rw [List.getElem?_take_of_lt hi] at hx
      rw [List.getD_eq_getElem?_getD, hx]
      rfl
end
end Sw
