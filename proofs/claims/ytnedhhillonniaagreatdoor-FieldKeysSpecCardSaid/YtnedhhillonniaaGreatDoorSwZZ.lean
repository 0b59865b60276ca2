/- A part of the proof that the law returns true for every input that its row speaks of. No condition is added. -/
import Derived.Test.YtnedhhillonniaaGreatDoorSwAS
/- Chapter 24: the card of FieldKeysSpec. -/
namespace Sw
noncomputable section
open Go Go.Proofs Go.Proofs.YtnedhhillonniaaGreatDoor
set_option maxRecDepth 100000
theorem noGoes_goes {P : Program} (h : P.funcs.any Func.goes = false) (f : FuncId) : P.goes f = false := by
  have h1 : ∀ g : Nat, ((P.funcs[g]?).any Func.goes) = false := fun g => by
    cases hg : P.funcs[g]? with
    | none => rfl
    | some fn =>
      rw [Array.any_eq_false] at h
      obtain ⟨hlt, rfl⟩ := Array.getElem?_eq_some_iff.1 hg
      simpa using h g hlt
  unfold Program.goes
  rw [h, Bool.and_false, Bool.or_false, List.any_eq_false]
  intro g _
  rw [h1]; simp
theorem noGoes_by {P : Program} {c : OpenClaim} (h : P.funcs.any Func.goes = false) (hs : c.start = .entering) : false = c.goesBy P := by
  unfold OpenClaim.goesBy Program.goesAt Program.goesFrom
  have h : ∀ o : Option FuncId, o.any P.goes = false := fun o => by
    cases o with
    | none => rfl
    | some f => exact noGoes_goes h f
  rw [h, hs]; rfl
theorem looks_of {p : Pinned} {c : OpenClaim} {f0 : FuncId} {fn0 : Func} {lk : Bool} (h1 : p.checked.prog.funcNamed c.func = some f0) (h2 : p.checked.prog.funcs[f0]? = some fn0) (h3 : lk = p.checked.prog.looks [])
    (h4 : (fn0.params.toList.all fun t => !(p.checked.prog.wantsStandIn t)) = true) :
    ∀ f fn, p.checked.prog.funcNamed c.func = some f → p.checked.prog.funcs[f]? = some fn → lk = p.checked.prog.looks [] ∧ ∀ (j : Nat) t, fn.params[j]? = some t → p.checked.prog.wantsStandIn t = false := by
  intro f fn hf hfn
  obtain rfl := Option.some.inj (h1.symm.trans hf)
  obtain rfl := Option.some.inj (h2.symm.trans hfn)
  refine ⟨h3, fun j t ht => ?_⟩
  have := List.all_eq_true.1 h4 t (List.mem_of_getElem? (by rw [Array.getElem?_toList]; exact ht))
  simpa using this
theorem pinned24 : Tryz.pinned.checked.prog = Tryz.prog := rfl
theorem goes24 : false = Rows.fieldKeysSpecRow.goesBy Tryz.pinned.checked.prog := noGoes_by (by rw [pinned24]; exact j_noGoes) rfl
theorem looks24 : ∀ f fn, Tryz.pinned.checked.prog.funcNamed Rows.fieldKeysSpecRow.func = some f → Tryz.pinned.checked.prog.funcs[f]? = some fn → true = Tryz.pinned.checked.prog.looks [] ∧ ∀ (j : Nat) t, fn.params[j]? = some t → Tryz.pinned.checked.prog.wantsStandIn t = false :=
  looks_of (f0 := 3) (fn0 := Tryz.f3) (by kernel_rfl) (by kernel_rfl) (by kernel_rfl) (by kernel_rfl)
theorem byText24 : Rows.fieldKeysSpecRow.wfByText (OpenSpec.ofChange Rows.fieldKeysSpecSpec) = true := by kernel_rfl
theorem main24 : Tryz.pinned.checked.prog.mainIs = some (true, ("7ccb8cbcff6415841f57a838d5969a49e97f77be86376166baacbe968050db93" : String).toList) := by kernel_rfl
end
end Sw
namespace Go.Proofs.YtnedhhillonniaaGreatDoor
open Go
set_option maxRecDepth 100000
theorem fieldKeysSpec_card : Rows.FieldKeysSpecCardSaid :=
  Claim7.holds_tied_plain_at (p := Tryz.pinned) (s := OpenSpec.ofChange Rows.fieldKeysSpecSpec) (c := Rows.fieldKeysSpecRow) .later [] [.data, .data, .data, .data, .data, .data, .data, .data, .data, .data, .data] true (true, "7ccb8cbcff6415841f57a838d5969a49e97f77be86376166baacbe968050db93") true
    Sw.fieldKeysSpec_holds (fun _ h => by cases h) Sw.byText24 (fun _ h => by cases h) fieldKeysSpec_row_tie rfl ⟨rfl, rfl⟩ Sw.main24 rfl Sw.looks24 Sw.goes24
end Go.Proofs.YtnedhhillonniaaGreatDoor
