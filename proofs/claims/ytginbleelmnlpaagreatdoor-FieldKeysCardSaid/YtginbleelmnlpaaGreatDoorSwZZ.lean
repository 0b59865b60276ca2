/- A part of the proof that the law returns true for every input that its row speaks of. No condition is added. -/
import Derived.Test.YtginbleelmnlpaaGreatDoorSwAJ
import Derived.Test.YtginbleelmnlpaaGreatDoorSwAK
import Derived.Test.YtginbleelmnlpaaGreatDoorSwBD
import Derived.Test.YtginbleelmnlpaaGreatDoorRows
import Derived.Test.YtginbleelmnlpaaGreatDoorSwBE
import Derived.Test.YtginbleelmnlpaaGreatDoorSwBF
import Derived.Test.YtginbleelmnlpaaGreatDoorSwBG
import Derived.Test.YtginbleelmnlpaaGreatDoorSwBH
import Derived.Test.YtginbleelmnlpaaGreatDoorSwBI
import Derived.Test.YtginbleelmnlpaaGreatDoorSwBJ
import Derived.Lay
import Derived.SevenTiedAt
import Derived.Test.YtginbleelmnlpaaGreatDoorTie
import Derived.Test.YtginbleelmnlpaaGreatDoorCards
import Derived.JoinedOf
namespace Sw
noncomputable section
open Go Go.Proofs Go.Proofs.YtginbleelmnlpaaGreatDoor Go.RowKit Go.ChangeShapes Go.WideShapes
set_option maxRecDepth 100000
theorem rp3i {hp : Ht} {nx k : Nat} {ls : List Value} (h : Rp Tryz.prog hp nx k 3 ls) : ∃ x : Int, ls = encI x ∧ (-9223372036854775808 ≤ x ∧ x ≤ 9223372036854775807) := by
  obtain ⟨z, rfl, hw⟩ := Rp.int (ik := .i64) (by kernel_rfl) h
  exact ⟨z, rfl, wfI hw⟩
theorem rp23 {hp : Ht} {nx k : Nat} {ls : List Value} (h : Rp Tryz.prog hp nx k 23 ls) : ∃ x : RStarter, ls = encStarter x ∧ InR x := by
  obtain ⟨n, lss, rfl, g⟩ := Rp.fields (ts := [3, 3, 3, 3, 3, 3, 3, 3]) (by kernel_rfl) h
  obtain ⟨l0, lss0, rfl, h0, g0⟩ := g.cons
  obtain ⟨x0, rfl, q0⟩ := rp3i h0
  obtain ⟨l1, lss1, rfl, h1, g1⟩ := g0.cons
  obtain ⟨x1, rfl, q1⟩ := rp3i h1
  obtain ⟨l2, lss2, rfl, h2, g2⟩ := g1.cons
  obtain ⟨x2, rfl, q2⟩ := rp3i h2
  obtain ⟨l3, lss3, rfl, h3, g3⟩ := g2.cons
  obtain ⟨x3, rfl, q3⟩ := rp3i h3
  obtain ⟨l4, lss4, rfl, h4, g4⟩ := g3.cons
  obtain ⟨x4, rfl, q4⟩ := rp3i h4
  obtain ⟨l5, lss5, rfl, h5, g5⟩ := g4.cons
  obtain ⟨x5, rfl, q5⟩ := rp3i h5
  obtain ⟨l6, lss6, rfl, h6, g6⟩ := g5.cons
  obtain ⟨x6, rfl, q6⟩ := rp3i h6
  obtain ⟨l7, lss7, rfl, h7, g7⟩ := g6.cons
  obtain ⟨x7, rfl, q7⟩ := rp3i h7
  obtain rfl := g7.nil
  exact ⟨⟨x0, x1, x2, x3, x4, x5, x6, x7⟩, rfl, q4, q2⟩
theorem rpCond {hp : Ht} {nx : Nat} : ∀ (k : Nat) {ls : List Value}, Rp Tryz.prog hp nx k 104 ls → ∃ x : RCond, ls = encCond x ∧ CondN k hp nx x := by
  intro k
  induction k using Nat.strongRecOn with
  | _ k ih =>
    intro ls h
    obtain ⟨n, lss, rfl, rfl, g⟩ := Rp.fieldsN (ts := [3, 3, 3, 102]) (by kernel_rfl) h
    obtain ⟨l0, lss0, rfl, h0, g0⟩ := g.cons
    obtain ⟨x0, rfl, _⟩ := rp3i h0
    obtain ⟨l1, lss1, rfl, h1, g1⟩ := g0.cons
    obtain ⟨x1, rfl, _⟩ := rp3i h1
    obtain ⟨l2, lss2, rfl, h2, g2⟩ := g1.cons
    obtain ⟨x2, rfl, _⟩ := rp3i h2
    obtain ⟨l3, lss3, rfl, h3, g3⟩ := g2.cons
    obtain rfl := g3.nil
    obtain ⟨j, s, rfl, rfl, q1, q2, q3⟩ := Rp.sliceN (enc := encCond) (m := 4) (E := fun j x => CondN j hp nx x) (by kernel_rfl) (fun _ => rfl) (fun j e l hl => ih j (by omega) hl) h3
    rw [show Tryz.prog.bytesOf 104 = 48 from by kernel_rfl] at q3
    exact ⟨.mk x0 x1 x2 s.v s.l, rfl, CondN.up (show CondN (j + 1) hp nx _ from ⟨⟨q1, q2⟩, q3⟩)⟩
theorem rpStep {hp : Ht} {nx : Nat} : ∀ (k : Nat) {ls : List Value}, Rp Tryz.prog hp nx k 106 ls → ∃ x : RStep, ls = encStep x ∧ StepN k hp nx x := by
  intro k
  induction k using Nat.strongRecOn with
  | _ k ih =>
    intro ls h
    obtain ⟨n, lss, rfl, rfl, g⟩ := Rp.fieldsN (ts := [3, 3, 104, 24, 24]) (by kernel_rfl) h
    obtain ⟨l0, lss0, rfl, h0, g0⟩ := g.cons
    obtain ⟨x0, rfl, _⟩ := rp3i h0
    obtain ⟨l1, lss1, rfl, h1, g1⟩ := g0.cons
    obtain ⟨x1, rfl, _⟩ := rp3i h1
    obtain ⟨l2, lss2, rfl, h2, g2⟩ := g1.cons
    obtain ⟨x2, rfl, c2⟩ := rpCond _ h2
    obtain ⟨l3, lss3, rfl, h3, g3⟩ := g2.cons
    obtain ⟨l4, lss4, rfl, h4, g4⟩ := g3.cons
    obtain rfl := g4.nil
    obtain ⟨j, s, rfl, rfl, q1, q2, q3⟩ := Rp.sliceN (enc := encStep) (m := 8) (E := fun j x => StepN j hp nx x) (by kernel_rfl) (fun _ => rfl) (fun j e l hl => ih j (by omega) hl) h3
    obtain ⟨j', s', hj, rfl, r1, r2, r3⟩ := Rp.sliceN (enc := encStep) (m := 8) (E := fun j x => StepN j hp nx x) (by kernel_rfl) (fun _ => rfl) (fun j e l hl => ih j (by omega) hl) h4
    obtain rfl : j' = j := by omega
    rw [show Tryz.prog.bytesOf 106 = 112 from by kernel_rfl] at q3 r3
    exact ⟨.mk x0 x1 x2 s.v s.l s'.v s'.l, rfl, StepN.up (show StepN (j' + 1) hp nx _ from ⟨⟨_, c2⟩, ⟨q1, q2⟩, ⟨r1, r2⟩, q3, r3⟩)⟩
theorem rp24 {hp : Ht} {nx k : Nat} {ls : List Value} (h : Rp Tryz.prog hp nx k 24 ls) : ∃ x : SV RStep, ls = encSl x ∧ SlOk encStep 8 (fun hp nx y => RStepOk hp nx y) hp nx x ∧ x.l.length ≤ 2932031007403 := by
  obtain ⟨j, s, rfl, rfl, q1, q2, q3⟩ := Rp.sliceN (enc := encStep) (m := 8) (E := fun j x => RStepOk hp nx x) (by kernel_rfl) (fun _ => rfl) (fun j e l hl => by obtain ⟨x, e, hx⟩ := rpStep j hl; exact ⟨x, e, _, hx⟩) h
  rw [show Tryz.prog.bytesOf 106 = 112 from by kernel_rfl] at q3
  have : reachBytes = 140737488351232 := by decide
  exact ⟨s, rfl, ⟨q1, q2⟩, by omega⟩
theorem rp3 {hp : Ht} {nx k : Nat} {ls : List Value} (h : Rp Tryz.prog hp nx k 3 ls) : ∃ x : Int, ls = encI x := by
  obtain ⟨z, rfl, _⟩ := Rp.int (ik := .i64) (by kernel_rfl) h
  exact ⟨z, rfl⟩
theorem rp26 {hp : Ht} {nx k : Nat} {ls : List Value} (h : Rp Tryz.prog hp nx k 26 ls) : ∃ x : REnv, ls = encEnv x := by
  obtain ⟨n, lss, rfl, g⟩ := Rp.fields (ts := [3, 3, 3]) (by kernel_rfl) h
  obtain ⟨l0, lss0, rfl, h0, g0⟩ := g.cons
  obtain ⟨x0, rfl⟩ := rp3 h0
  obtain ⟨l1, lss1, rfl, h1, g1⟩ := g0.cons
  obtain ⟨x1, rfl⟩ := rp3 h1
  obtain ⟨l2, lss2, rfl, h2, g2⟩ := g1.cons
  obtain ⟨x2, rfl⟩ := rp3 h2
  obtain rfl := g2.nil
  exact ⟨⟨x0, x1, x2⟩, rfl⟩
def inS (t : TypeId) : Bool := has 106482650419171269725723161526280 t
theorem openS (t : TypeId) (h : inS t = true) : openTy Tryz.prog inS t = true := by
  have hlt : t < 107 := has_lt (m := 106482650419171269725723161526280) (N := 107) (by kernel_rfl) h
  have key : ((List.range 107).all fun t => !(inS t) || openTy Tryz.prog inS t) = true := by kernel_rfl
  have := allRange key hlt
  rw [h] at this
  simpa using this
theorem globsOk : numsOk 0 12 globs = true ∧ globs.all (tbPlain 12) = true := ⟨by kernel_rfl, by kernel_rfl⟩
theorem hu3 : Tryz.prog.underlying 3 = some (.int .i64) := by kernel_rfl
theorem hpr : pairTy Tryz.prog 3 371 = true := by kernel_rfl
theorem laid_of {W : World} (h : laidMetH Tryz.prog Rows.fieldKeysRow.laid W) : LaidAt globs W := by
  have h : laidMet Tryz.prog Rows.fieldKeysRow.laid W := h
  obtain ⟨ps, h, _, _⟩ := h
  have key : ∀ (n : String) (g : Nat) (a b : Int), (n, .agg [.lit (.int .i64 a), .lit (.int .i64 b)]) ∈ Rows.fieldKeysRow.laid → Tryz.prog.globalNamed n = some g → (Tryz.prog.globals[g]?).map (·.type) = some 371 → ∀ tb : TB, tb = ⟨g, [.int .i64 a, .int .i64 b], false, 0⟩ → ∀ (j : Nat) (v : Value), tb.cs[j]? = some v → W.cell? ⟨tb.num, j, none⟩ = some v := fun n g a b hm hg ht tb e => by
    subst e; exact laid_one hu3 hpr h hm hg ht
  intro tb ht
  simp only [globs, List.mem_cons, List.not_mem_nil, or_false] at ht
  rcases ht with e | e | e | e | e | e | e | e | e | e | e
  · exact key "stopwatch/facts.bibS" 0 1 9999 (by simp [Rows.fieldKeysRow, Rows.laid_stopwatch_facts_bibS]) (by kernel_rfl) (by kernel_rfl) tb e
  · exact key "stopwatch/facts.timeS" 1 (-1099511627776) 1099511627776 (by simp [Rows.fieldKeysRow, Rows.laid_stopwatch_facts_timeS]) (by kernel_rfl) (by kernel_rfl) tb e
  · exact key "stopwatch/facts.chipS" 2 0 1048576 (by simp [Rows.fieldKeysRow, Rows.laid_stopwatch_facts_chipS]) (by kernel_rfl) (by kernel_rfl) tb e
  · exact key "stopwatch/facts.matS" 3 0 39 (by simp [Rows.fieldKeysRow, Rows.laid_stopwatch_facts_matS]) (by kernel_rfl) (by kernel_rfl) tb e
  · exact key "stopwatch/facts.epochS" 4 0 255 (by simp [Rows.fieldKeysRow, Rows.laid_stopwatch_facts_epochS]) (by kernel_rfl) (by kernel_rfl) tb e
  · exact key "stopwatch/facts.lengthS" 5 0 1099511627776 (by simp [Rows.fieldKeysRow, Rows.laid_stopwatch_facts_lengthS]) (by kernel_rfl) (by kernel_rfl) tb e
  · exact key "stopwatch/facts.positionS" 6 0 255 (by simp [Rows.fieldKeysRow, Rows.laid_stopwatch_facts_positionS]) (by kernel_rfl) (by kernel_rfl) tb e
  · exact key "stopwatch/facts.caseS" 7 1 1048576 (by simp [Rows.fieldKeysRow, Rows.laid_stopwatch_facts_caseS]) (by kernel_rfl) (by kernel_rfl) tb e
  · exact key "stopwatch/facts.bitS" 8 0 1 (by simp [Rows.fieldKeysRow, Rows.laid_stopwatch_facts_bitS]) (by kernel_rfl) (by kernel_rfl) tb e
  · exact key "stopwatch/facts.crewS" 9 0 31 (by simp [Rows.fieldKeysRow, Rows.laid_stopwatch_facts_crewS]) (by kernel_rfl) (by kernel_rfl) tb e
  · exact key "stopwatch/facts.numberS" 10 1 1048576 (by simp [Rows.fieldKeysRow, Rows.laid_stopwatch_facts_numberS]) (by kernel_rfl) (by kernel_rfl) tb e
theorem maxLenE {w : World} (h : w.ShapedOpen Tryz.prog) : ∃ m, w.cell? ⟨11, 0, none⟩ = some (.int .i64 m) :=
  Go.Proofs.cell_of_shapedOpen_int (zero := #[.int .i64 0]) (t := 3) h (of_decide_eq_true (by kernel_rfl)) (by kernel_rfl) rfl (by kernel_rfl) (by kernel_rfl) hu3
theorem law_open {hp : Ht} {nx : Nat} {lvs : List Value} (h : ArgsRp Tryz.prog hp nx [23, 23, 24, 26] lvs) (hf : ∀ (hp' : Ht) (nx' : Nat), nx ≤ nx' → HE nx hp hp' → ∀ b o, (lay0 globs .nil).get b = some o → hp'.get b = some o) : WF ex 3 lvs hp nx (Stays nx hp (BoolIs True)) := by
  obtain ⟨v0, lvs0, rfl, ⟨n0, ls0, h0, _, rfl⟩, g0⟩ := h.cons
  obtain ⟨x0, rfl, q0⟩ := rp23 h0
  obtain ⟨v1, lvs1, rfl, ⟨n1, ls1, h1, _, rfl⟩, g1⟩ := g0.cons
  obtain ⟨x1, rfl, q1⟩ := rp23 h1
  obtain ⟨v2, lvs2, rfl, ⟨n2, ls2, h2, _, rfl⟩, g2⟩ := g1.cons
  obtain ⟨x2, rfl, q2⟩ := rp24 h2
  obtain ⟨v3, lvs3, rfl, ⟨n3, ls3, h3, _, rfl⟩, g3⟩ := g2.cons
  obtain ⟨x3, rfl⟩ := rp26 h3
  obtain rfl := g3.nil
  rw [show argOf Tryz.prog 23 (encStarter x0) = .agg (encStarter x0).toArray from by kernel_rfl]
  rw [show argOf Tryz.prog 23 (encStarter x1) = .agg (encStarter x1).toArray from by kernel_rfl]
  rw [show argOf Tryz.prog 24 (encSl x2) = x2.v from by kernel_rfl]
  rw [show argOf Tryz.prog 26 (encEnv x3) = .agg (encEnv x3).toArray from by kernel_rfl]
  exact fieldKeys_wf x0 x1 x2 x3 hp nx q0 q1 q2.1 q2.2 fun hp' nx' hn he => saneWf (hf hp' nx' hn he)
theorem law_any {H : Type} {enc : TypeId × Value → H} (W : World) (base : Nat) (args : Array Value) (ds : List (DataW H)) (p : List MemPlace)
    (hval : ∀ (j : Nat) t v, Tryz.f3.params[j]? = some t → args[j]? = some v → Value.okWide Tryz.prog W .any base t v)
    (hA : DataW.TrodAll enc Tryz.prog W 0 (fun _ => true) true Tryz.f3.params.toList args.toList ds p) (hwt : ∀ k ∈ DataW.weightsEach Tryz.prog Tryz.f3.params.toList ds, k ≤ reachBytes) (hl : LaidAt globs W) (hsh : W.ShapedOpen Tryz.prog) :
    (∃ d0 d1 d2 d3, ds = [d0, d1, d2, d3]) ∧ Calls Tryz.prog 3 args W fun e W' => e = .returned (.bool true) ∧ Below W.heap.size W W' := by
  have hm := maxLenE hsh
  have hs : 11 < W.heap.size := by obtain ⟨m, hm⟩ := hm; exact size_of_cell hm
  have hg : 12 ≤ W.heap.size := hs
  rw [Tryz.params3] at hA hval hwt
  have hlen := trodAll_len hA
  refine ⟨?_, law_calls ok_ex (kokE _ _ ⟨hs, hm⟩) hg globsOk.1 globsOk.2 hl openS hA hwt (fun j t v a b => hval j t v (by simpa using a) b) (fun t ht => ?_) fun hp nx lvs h hf => law_open h hf⟩
  · match ds, hlen with
    | [d0, d1, d2, d3], _ => exact ⟨_, _, _, _, rfl⟩
  · have : ([23, 23, 24, 26] : List TypeId).all inS = true := by kernel_rfl
    exact List.all_eq_true.1 this t ht
def argW : Array Value := #[(.agg ⟨[.int .i64 0, .int .i64 0, .int .i64 0, .int .i64 0, .int .i64 0, .int .i64 0, .int .i64 0, .int .i64 0]⟩), (.agg ⟨[.int .i64 0, .int .i64 0, .int .i64 0, .int .i64 0, .int .i64 0, .int .i64 0, .int .i64 0, .int .i64 0]⟩), (.slice none 0 0), (.agg ⟨[.int .i64 0, .int .i64 0, .int .i64 0]⟩)]
theorem laid_met (os : Os) (args : Array Value) : laidMetH Tryz.prog Rows.fieldKeysRow.laid ((World.laidAll Tryz.prog os Rows.fieldKeysRow.laid).forCall (fun _ _ => 0) ⟨#[], args, []⟩).memory := by
  rw [MakeChecks.laidMetH_plain _ _ _ (by kernel_rfl)]
  exact laidMet_laidAll _ (by kernel_rfl) (by kernel_rfl)
theorem paramsRd : ∀ t ∈ Tryz.f3.params.toList, Tryz.prog.readableRec t = true ∧ t < Tryz.prog.types.size := fun t ht => by
  have h : (Tryz.f3.params.toList.all fun t => Tryz.prog.readableRec t && Nat.blt t Tryz.prog.types.size) = true := by kernel_rfl
  have := List.all_eq_true.1 h t ht
  rw [Bool.and_eq_true] at this
  exact ⟨this.1, blt_iff.1 this.2⟩
theorem law_lifted (os : Os) (started : os.Started) (H : Type) (enc : TypeId × Value → H) :
    ReturnsInHanded {} Tryz.checked os 3 .any (fun w args => (Rows.fieldKeysSpec.pre enc Tryz.prog Tryz.f3 [] false w args ∧ laidMetH Tryz.prog Rows.fieldKeysRow.laid w) ∧ sizedMet enc Tryz.prog Tryz.f3 (OpenSpec.ofChange Rows.fieldKeysSpec) false w args)
      (Rows.fieldKeysSpec.post enc Tryz.prog Tryz.f3 false true false false) := by
  refine returns_true (C := Tryz.checked) (t := 4) (X := fun w _ => laidMetH Tryz.prog Rows.fieldKeysRow.laid w) (fun _ _ _ hh h => h.of_heap hh) (by kernel_rfl) started (by kernel_rfl) Tryz.func3
    (ChangeSpec.witness_shaped (enc := enc) (C := Tryz.checked) (os := os) (X := fun w _ => laidMetH Tryz.prog Rows.fieldKeysRow.laid w) false (World.laidAll Tryz.prog os Rows.fieldKeysRow.laid) argW 8 (World.laidAll_os _ _ _)
      (World.shaped_of_ZipB (by kernel_rfl) (by kernel_rfl)) (by kernel_rfl) (by kernel_rfl) (by kernel_rfl) (laid_met os _))
    (by kernel_rfl) rfl (by kernel_rfl) (by kernel_rfl) paramsRd ?_
  · intro W base args ds gs before p hval hA hwt hgs hL hsh
    subst hgs
    obtain ⟨⟨d0, d1, d2, d3, rfl⟩, hc⟩ := law_any W base args ds p hval hA hwt (laid_of hL) hsh
    exact ⟨rfl, hc⟩
theorem law_facts : joinedFacts Tryz.prog 3 Tryz.f3 Rows.fieldKeysSpec Rows.fieldKeysRow = true := by
  unfold joinedFacts
  exact (ba (ba (ba (ba (ba (ba (ba (ba (ba (ba (ba (ba (ba (ba (ba (ba (ba (ba (ba (ba (ba (ba (ba (ba (ba (ba (ba (ba (ba (ba (ba jk_wf jk_laidOut) jk_mapsRowed) jk_readable) jk_namedTie) jk_stops) jk_pstops) jk_knobs) jk_stopKnobs) jk_inPlace) jk_unfollowed) jk_recurses) jk_named) jk_maps) jk_ifaces) jk_mapsOut) jk_loops) jk_wideKeys) jk_varRd) jk_resRd) jk_ifacesOut) jk_loopsOut) jk_plainKeys) jk_shortTexts) jk_stopsHeard) jk_mayEnter) jk_lifted) jk_make) jk_kinds) jk_pinned) jk_veiled) jk_fits)
theorem law_holds : Rows.FieldKeysSaid :=
  OpenClaim.holds_of_wide 3 Tryz.f3 rfl rfl rfl rfl rfl rfl rfl ⟨rfl, rfl, rfl, rfl, rfl⟩ rfl rfl rfl rfl rfl (by kernel_rfl) Tryz.func3 law_facts
    (of_decide_eq_true (by kernel_rfl)) (by unfold Func.isWrapper; rw [if_neg (of_decide_eq_false (by kernel_rfl))]; exact ⟨rfl, rfl⟩)
    (fun os started H enc _ => law_lifted os started H enc)
theorem pinnedE : Tryz.pinned.checked.prog = Tryz.prog := rfl
theorem goesE : false = Rows.fieldKeysRow.goesBy Tryz.pinned.checked.prog := noGoes_by (by rw [pinnedE]; exact jk_noGoes) rfl
theorem looksE : ∀ f fn, Tryz.pinned.checked.prog.funcNamed Rows.fieldKeysRow.func = some f → Tryz.pinned.checked.prog.funcs[f]? = some fn → true = Tryz.pinned.checked.prog.looks [] ∧ ∀ (j : Nat) t, fn.params[j]? = some t → Tryz.pinned.checked.prog.wantsStandIn t = false :=
  looks_of (f0 := 3) (fn0 := Tryz.f3) (by kernel_rfl) (by kernel_rfl) (by kernel_rfl) (by kernel_rfl)
theorem byTextE : Rows.fieldKeysRow.wfByText (OpenSpec.ofChange Rows.fieldKeysSpec) = true := by kernel_rfl
theorem mainE : Tryz.pinned.checked.prog.mainIs = some (true, ("dc501607843f2f9f2002e196650b715d44d70f81b39c308469b199601f21f2b2" : String).toList) := by kernel_rfl
end
end Sw
namespace Go.Proofs.YtginbleelmnlpaaGreatDoor
open Go
set_option maxRecDepth 100000
theorem fieldKeys_card : Rows.FieldKeysCardSaid :=
  Claim7.holds_tied_plain_at (p := Tryz.pinned) (s := OpenSpec.ofChange Rows.fieldKeysSpec) (c := Rows.fieldKeysRow) .later [] [.data, .data, .data, .data, .data, .data, .data, .data, .data, .data, .data] true (true, "dc501607843f2f9f2002e196650b715d44d70f81b39c308469b199601f21f2b2") true
    Sw.law_holds (fun _ h => by cases h) Sw.byTextE (fun _ h => by cases h) fieldKeys_row_tie rfl ⟨rfl, rfl⟩ Sw.mainE rfl Sw.looksE Sw.goesE
end Go.Proofs.YtginbleelmnlpaaGreatDoor
