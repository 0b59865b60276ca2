/- A part of the proof that the law returns true for every input that its row speaks of. No condition is added. -/
import Derived.Test.YtcocjehgbbmpgaaGreatDoorSwAH
import Derived.Test.YtcocjehgbbmpgaaGreatDoorSwAT
import Derived.Test.YtcocjehgbbmpgaaGreatDoorRows
import Derived.Test.YtcocjehgbbmpgaaGreatDoorSwAU
import Derived.Test.YtcocjehgbbmpgaaGreatDoorSwAV
import Derived.Test.YtcocjehgbbmpgaaGreatDoorSwAW
import Derived.Test.YtcocjehgbbmpgaaGreatDoorSwAX
import Derived.Test.YtcocjehgbbmpgaaGreatDoorSwAY
import Derived.Test.YtcocjehgbbmpgaaGreatDoorSwAZ
import Derived.Lay
import Derived.SevenTiedAt
import Derived.Test.YtcocjehgbbmpgaaGreatDoorTie
import Derived.Test.YtcocjehgbbmpgaaGreatDoorCards
import Derived.JoinedOf
namespace Sw
noncomputable section
open Go Go.Proofs Go.Proofs.YtcocjehgbbmpgaaGreatDoor Go.RowKit Go.ChangeShapes Go.WideShapes
set_option maxRecDepth 100000
theorem rp3 {hp : Ht} {nx k : Nat} {ls : List Value} (h : Rp Tryz.prog hp nx k 3 ls) : ∃ x : Int, ls = encI x := by
  obtain ⟨z, rfl, _⟩ := Rp.int (ik := .i64) (by kernel_rfl) h
  exact ⟨z, rfl⟩
theorem rp95 {hp : Ht} {nx k : Nat} {ls : List Value} (h : Rp Tryz.prog hp nx k 95 ls) : ∃ x : RSpan, ls = encSpan x := by
  obtain ⟨n, lss, rfl, g⟩ := Rp.fields (ts := [3, 3]) (by kernel_rfl) h
  obtain ⟨l0, lss0, rfl, h0, g0⟩ := g.cons
  obtain ⟨x0, rfl⟩ := rp3 h0
  obtain ⟨l1, lss1, rfl, h1, g1⟩ := g0.cons
  obtain ⟨x1, rfl⟩ := rp3 h1
  obtain rfl := g1.nil
  exact ⟨⟨x0, x1⟩, rfl⟩
theorem rp32 {hp : Ht} {nx k : Nat} {ls : List Value} (h : Rp Tryz.prog hp nx k 32 ls) : ∃ x : SV RSpan, ls = encSl x ∧ SOk encSpan 2 hp nx x :=
  Rp.slice1 (enc := encSpan) (m := 2) (by kernel_rfl) (fun _ => rfl) (fun _ _ h => rp95 h) h
theorem rp4 {hp : Ht} {nx k : Nat} {ls : List Value} (h : Rp Tryz.prog hp nx k 4 ls) : ∃ x : Bool, ls = encB x := by
  obtain ⟨z, rfl⟩ := Rp.bool (by kernel_rfl) h
  exact ⟨z, rfl⟩
theorem rp34 {hp : Ht} {nx k : Nat} {ls : List Value} (h : Rp Tryz.prog hp nx k 34 ls) : ∃ x : RTotal, ls = encTotal x ∧ RTotalOk hp nx x := by
  obtain ⟨n, lss, rfl, g⟩ := Rp.fields (ts := [3, 32, 4]) (by kernel_rfl) h
  obtain ⟨l0, lss0, rfl, h0, g0⟩ := g.cons
  obtain ⟨x0, rfl⟩ := rp3 h0
  obtain ⟨l1, lss1, rfl, h1, g1⟩ := g0.cons
  obtain ⟨x1, rfl, q1⟩ := rp32 h1
  obtain ⟨l2, lss2, rfl, h2, g2⟩ := g1.cons
  obtain ⟨x2, rfl⟩ := rp4 h2
  obtain rfl := g2.nil
  exact ⟨⟨x0, x1, x2⟩, rfl, ⟨q1⟩⟩
theorem rp22 {hp : Ht} {nx k : Nat} {ls : List Value} (h : Rp Tryz.prog hp nx k 22 ls) : ∃ x : SV RTotal, ls = encSl x ∧ SlOk encTotal 3 (fun hp nx y => RTotalOk hp nx y) hp nx x :=
  Rp.slice (E := fun hp nx y => RTotalOk hp nx y) (enc := encTotal) (m := 3) (by kernel_rfl) (fun _ => rfl) (fun _ _ h => rp34 h) h
theorem rp23 {hp : Ht} {nx k : Nat} {ls : List Value} (h : Rp Tryz.prog hp nx k 23 ls) : ∃ x : SV Int, ls = encSl x ∧ SOk encI 1 hp nx x :=
  Rp.slice1 (enc := encI) (m := 1) (by kernel_rfl) (fun _ => rfl) (fun _ _ h => rp3 h) h
theorem rp24 {hp : Ht} {nx k : Nat} {ls : List Value} (h : Rp Tryz.prog hp nx k 24 ls) : ∃ x : SV Bool, ls = encSl x ∧ SOk encB 1 hp nx x :=
  Rp.slice1 (enc := encB) (m := 1) (by kernel_rfl) (fun _ => rfl) (fun _ _ h => rp4 h) h
def inS (t : TypeId) : Bool := has 39614081257132168818276171800 t
theorem openS (t : TypeId) (h : inS t = true) : openTy Tryz.prog inS t = true := by
  have hlt : t < 96 := has_lt (m := 39614081257132168818276171800) (N := 96) (by kernel_rfl) h
  have key : ((List.range 96).all fun t => !(inS t) || openTy Tryz.prog inS t) = true := by kernel_rfl
  have := allRange key hlt
  rw [h] at this
  simpa using this
theorem globsOk : numsOk 0 12 globs = true ∧ globs.all (tbPlain 12) = true := ⟨by kernel_rfl, by kernel_rfl⟩
theorem hu3 : Tryz.prog.underlying 3 = some (.int .i64) := by kernel_rfl
theorem hpr : pairTy Tryz.prog 3 380 = true := by kernel_rfl
theorem laid_of {W : World} (h : laidMetH Tryz.prog Rows.relayRankRow.laid W) : LaidAt globs W := by
  have h : laidMet Tryz.prog Rows.relayRankRow.laid W := h
  obtain ⟨ps, h, _, _⟩ := h
  have key : ∀ (n : String) (g : Nat) (a b : Int), (n, .agg [.lit (.int .i64 a), .lit (.int .i64 b)]) ∈ Rows.relayRankRow.laid → Tryz.prog.globalNamed n = some g → (Tryz.prog.globals[g]?).map (·.type) = some 380 → ∀ tb : TB, tb = ⟨g, [.int .i64 a, .int .i64 b], false, 0⟩ → ∀ (j : Nat) (v : Value), tb.cs[j]? = some v → W.cell? ⟨tb.num, j, none⟩ = some v := fun n g a b hm hg ht tb e => by
    subst e; exact laid_one hu3 hpr h hm hg ht
  intro tb ht
  simp only [globs, List.mem_cons, List.not_mem_nil, or_false] at ht
  rcases ht with e | e | e | e | e | e | e | e | e | e | e
  · exact key "stopwatch/facts.bibS" 0 1 9999 (by simp [Rows.relayRankRow, Rows.laid_stopwatch_facts_bibS]) (by kernel_rfl) (by kernel_rfl) tb e
  · exact key "stopwatch/facts.timeS" 1 (-1099511627776) 1099511627776 (by simp [Rows.relayRankRow, Rows.laid_stopwatch_facts_timeS]) (by kernel_rfl) (by kernel_rfl) tb e
  · exact key "stopwatch/facts.chipS" 2 0 1048576 (by simp [Rows.relayRankRow, Rows.laid_stopwatch_facts_chipS]) (by kernel_rfl) (by kernel_rfl) tb e
  · exact key "stopwatch/facts.matS" 3 0 39 (by simp [Rows.relayRankRow, Rows.laid_stopwatch_facts_matS]) (by kernel_rfl) (by kernel_rfl) tb e
  · exact key "stopwatch/facts.epochS" 4 0 255 (by simp [Rows.relayRankRow, Rows.laid_stopwatch_facts_epochS]) (by kernel_rfl) (by kernel_rfl) tb e
  · exact key "stopwatch/facts.lengthS" 5 0 1099511627776 (by simp [Rows.relayRankRow, Rows.laid_stopwatch_facts_lengthS]) (by kernel_rfl) (by kernel_rfl) tb e
  · exact key "stopwatch/facts.positionS" 6 0 255 (by simp [Rows.relayRankRow, Rows.laid_stopwatch_facts_positionS]) (by kernel_rfl) (by kernel_rfl) tb e
  · exact key "stopwatch/facts.caseS" 7 1 1048576 (by simp [Rows.relayRankRow, Rows.laid_stopwatch_facts_caseS]) (by kernel_rfl) (by kernel_rfl) tb e
  · exact key "stopwatch/facts.bitS" 8 0 1 (by simp [Rows.relayRankRow, Rows.laid_stopwatch_facts_bitS]) (by kernel_rfl) (by kernel_rfl) tb e
  · exact key "stopwatch/facts.crewS" 9 0 31 (by simp [Rows.relayRankRow, Rows.laid_stopwatch_facts_crewS]) (by kernel_rfl) (by kernel_rfl) tb e
  · exact key "stopwatch/facts.numberS" 10 1 1048576 (by simp [Rows.relayRankRow, Rows.laid_stopwatch_facts_numberS]) (by kernel_rfl) (by kernel_rfl) tb e
theorem maxLenE {w : World} (h : w.ShapedOpen Tryz.prog) : ∃ m, w.cell? ⟨11, 0, none⟩ = some (.int .i64 m) :=
  Go.Proofs.cell_of_shapedOpen_int (zero := #[.int .i64 0]) (t := 3) h (of_decide_eq_true (by kernel_rfl)) (by kernel_rfl) rfl (by kernel_rfl) (by kernel_rfl) hu3
theorem law_open {hp : Ht} {nx : Nat} {lvs : List Value} (h : ArgsRp Tryz.prog hp nx [22, 3, 23, 24] lvs) (hf : ∀ (hp' : Ht) (nx' : Nat), nx ≤ nx' → HE nx hp hp' → ∀ b o, (lay0 globs .nil).get b = some o → hp'.get b = some o) : WF ex 3 lvs hp nx (Stays nx hp (BoolIs True)) := by
  obtain ⟨v0, lvs0, rfl, ⟨n0, ls0, h0, _, rfl⟩, g0⟩ := h.cons
  obtain ⟨x0, rfl, q0⟩ := rp22 h0
  obtain ⟨v1, lvs1, rfl, ⟨n1, ls1, h1, _, rfl⟩, g1⟩ := g0.cons
  obtain ⟨x1, rfl⟩ := rp3 h1
  obtain ⟨v2, lvs2, rfl, ⟨n2, ls2, h2, _, rfl⟩, g2⟩ := g1.cons
  obtain ⟨x2, rfl, q2⟩ := rp23 h2
  obtain ⟨v3, lvs3, rfl, ⟨n3, ls3, h3, _, rfl⟩, g3⟩ := g2.cons
  obtain ⟨x3, rfl, q3⟩ := rp24 h3
  obtain rfl := g3.nil
  rw [show argOf Tryz.prog 22 (encSl x0) = x0.v from by kernel_rfl]
  rw [show argOf Tryz.prog 3 (encI x1) = .int .i64 (x1) from by kernel_rfl]
  rw [show argOf Tryz.prog 23 (encSl x2) = x2.v from by kernel_rfl]
  rw [show argOf Tryz.prog 24 (encSl x3) = x3.v from by kernel_rfl]
  exact relayRank_wf x0 x1 x2 x3 hp nx q0 q2 q3 fun hp' nx' hn he => saneWf (hf hp' nx' hn he)
theorem law_any {H : Type} {enc : TypeId × Value → H} (W : World) (base : Nat) (args : Array Value) (ds : List (DataW H)) (p : List MemPlace)
    (hval : ∀ (j : Nat) t v, Tryz.f3.params[j]? = some t → args[j]? = some v → Value.okWide Tryz.prog W .any base t v)
    (hA : DataW.TrodAll enc Tryz.prog W 0 (fun _ => true) true Tryz.f3.params.toList args.toList ds p) (hwt : ∀ k ∈ DataW.weightsEach Tryz.prog Tryz.f3.params.toList ds, k ≤ reachBytes) (hl : LaidAt globs W) (hsh : W.ShapedOpen Tryz.prog) :
    (∃ d0 d1 d2 d3, ds = [d0, d1, d2, d3]) ∧ Calls Tryz.prog 3 args W fun e W' => e = .returned (.bool true) ∧ Below W.heap.size W W' := by
  have hm := maxLenE hsh
  have hs : 11 < W.heap.size := by obtain ⟨m, hm⟩ := hm; exact size_of_cell hm
  have hg : 12 ≤ W.heap.size := hs
  rw [Tryz.params3] at hA hval hwt
  have hlen := trodAll_len hA
  refine ⟨?_, law_calls ok_ex (kokE _ _ ⟨hs, hm⟩) hg globsOk.1 globsOk.2 hl openS hA hwt (fun j t v a b => hval j t v (by simpa using a) b) (fun t ht => ?_) fun hp nx lvs h hf => law_open h hf⟩
  · match ds, hlen with
    | [d0, d1, d2, d3], _ => exact ⟨_, _, _, _, rfl⟩
  · have : ([22, 3, 23, 24] : List TypeId).all inS = true := by kernel_rfl
    exact List.all_eq_true.1 this t ht
def argW : Array Value := #[(.slice none 0 0), (.int .i64 0), (.slice none 0 0), (.slice none 0 0)]
theorem laid_met (os : Os) (args : Array Value) : laidMetH Tryz.prog Rows.relayRankRow.laid ((World.laidAll Tryz.prog os Rows.relayRankRow.laid).forCall (fun _ _ => 0) ⟨#[], args, []⟩).memory := by
  rw [MakeChecks.laidMetH_plain _ _ _ (by kernel_rfl)]
  exact laidMet_laidAll _ (by kernel_rfl) (by kernel_rfl)
theorem paramsRd : ∀ t ∈ Tryz.f3.params.toList, Tryz.prog.readableRec t = true ∧ t < Tryz.prog.types.size := fun t ht => by
  have h : (Tryz.f3.params.toList.all fun t => Tryz.prog.readableRec t && Nat.blt t Tryz.prog.types.size) = true := by kernel_rfl
  have := List.all_eq_true.1 h t ht
  rw [Bool.and_eq_true] at this
  exact ⟨this.1, blt_iff.1 this.2⟩
theorem law_lifted (os : Os) (started : os.Started) (H : Type) (enc : TypeId × Value → H) :
    ReturnsInHanded {} Tryz.checked os 3 .any (fun w args => (Rows.relayRankSpec.pre enc Tryz.prog Tryz.f3 [] false w args ∧ laidMetH Tryz.prog Rows.relayRankRow.laid w) ∧ sizedMet enc Tryz.prog Tryz.f3 (OpenSpec.ofChange Rows.relayRankSpec) false w args)
      (Rows.relayRankSpec.post enc Tryz.prog Tryz.f3 false true false false) := by
  refine returns_true (C := Tryz.checked) (t := 4) (X := fun w _ => laidMetH Tryz.prog Rows.relayRankRow.laid w) (fun _ _ _ hh h => h.of_heap hh) (by kernel_rfl) started (by kernel_rfl) Tryz.func3
    (ChangeSpec.witness_shaped (enc := enc) (C := Tryz.checked) (os := os) (X := fun w _ => laidMetH Tryz.prog Rows.relayRankRow.laid w) false (World.laidAll Tryz.prog os Rows.relayRankRow.laid) argW 8 (World.laidAll_os _ _ _)
      (World.shaped_of_ZipB (by kernel_rfl) (by kernel_rfl)) (by kernel_rfl) (by kernel_rfl) (by kernel_rfl) (laid_met os _))
    (by kernel_rfl) rfl (by kernel_rfl) (by kernel_rfl) paramsRd ?_
  · intro W base args ds gs before p hval hA hwt hgs hL hsh
    subst hgs
    obtain ⟨⟨d0, d1, d2, d3, rfl⟩, hc⟩ := law_any W base args ds p hval hA hwt (laid_of hL) hsh
    exact ⟨rfl, hc⟩
theorem law_facts : joinedFacts Tryz.prog 3 Tryz.f3 Rows.relayRankSpec Rows.relayRankRow = true := by
  unfold joinedFacts
  exact (ba (ba (ba (ba (ba (ba (ba (ba (ba (ba (ba (ba (ba (ba (ba (ba (ba (ba (ba (ba (ba (ba (ba (ba (ba (ba (ba (ba (ba (ba (ba jr_wf jr_laidOut) jr_mapsRowed) jr_readable) jr_namedTie) jr_stops) jr_pstops) jr_knobs) jr_stopKnobs) jr_inPlace) jr_unfollowed) jr_recurses) jr_named) jr_maps) jr_ifaces) jr_mapsOut) jr_loops) jr_wideKeys) jr_varRd) jr_resRd) jr_ifacesOut) jr_loopsOut) jr_plainKeys) jr_shortTexts) jr_stopsHeard) jr_mayEnter) jr_lifted) jr_make) jr_kinds) jr_pinned) jr_veiled) jr_fits)
theorem law_holds : Rows.RelayRankSaid :=
  OpenClaim.holds_of_wide 3 Tryz.f3 rfl rfl rfl rfl rfl rfl rfl ⟨rfl, rfl, rfl, rfl, rfl⟩ rfl rfl rfl rfl rfl (by kernel_rfl) Tryz.func3 law_facts
    (of_decide_eq_true (by kernel_rfl)) (by unfold Func.isWrapper; rw [if_neg (of_decide_eq_false (by kernel_rfl))]; exact ⟨rfl, rfl⟩)
    (fun os started H enc _ => law_lifted os started H enc)
theorem pinnedE : Tryz.pinned.checked.prog = Tryz.prog := rfl
theorem goesE : false = Rows.relayRankRow.goesBy Tryz.pinned.checked.prog := noGoes_by (by rw [pinnedE]; exact jr_noGoes) rfl
theorem looksE : ∀ f fn, Tryz.pinned.checked.prog.funcNamed Rows.relayRankRow.func = some f → Tryz.pinned.checked.prog.funcs[f]? = some fn → true = Tryz.pinned.checked.prog.looks [] ∧ ∀ (j : Nat) t, fn.params[j]? = some t → Tryz.pinned.checked.prog.wantsStandIn t = false :=
  looks_of (f0 := 3) (fn0 := Tryz.f3) (by kernel_rfl) (by kernel_rfl) (by kernel_rfl) (by kernel_rfl)
theorem byTextE : Rows.relayRankRow.wfByText (OpenSpec.ofChange Rows.relayRankSpec) = true := by kernel_rfl
theorem mainE : Tryz.pinned.checked.prog.mainIs = some (true, ("86c563430b3e86605da0503559c29f276b5a37e3d5177b65aadbe11fd108ef8a" : String).toList) := by kernel_rfl
end
end Sw
namespace Go.Proofs.YtcocjehgbbmpgaaGreatDoor
open Go
set_option maxRecDepth 100000
theorem relayRank_card : Rows.RelayRankCardSaid :=
  Claim7.holds_tied_plain_at (p := Tryz.pinned) (s := OpenSpec.ofChange Rows.relayRankSpec) (c := Rows.relayRankRow) .later [] [.data, .data, .data, .data, .data, .data, .data, .data, .data, .data, .data] true (true, "86c563430b3e86605da0503559c29f276b5a37e3d5177b65aadbe11fd108ef8a") true
    Sw.law_holds (fun _ h => by cases h) Sw.byTextE (fun _ h => by cases h) relayRank_row_tie rfl ⟨rfl, rfl⟩ Sw.mainE rfl Sw.looksE Sw.goesE
end Go.Proofs.YtcocjehgbbmpgaaGreatDoor
