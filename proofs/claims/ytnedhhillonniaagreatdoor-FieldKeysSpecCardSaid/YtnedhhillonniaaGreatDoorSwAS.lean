/- A part of the proof that the law returns true for every input that its row speaks of. No condition is added. -/
import Derived.Test.YtnedhhillonniaaGreatDoorSwAM
import Derived.Test.YtnedhhillonniaaGreatDoorSwAN
import Derived.Test.YtnedhhillonniaaGreatDoorSwAO
import Derived.Test.YtnedhhillonniaaGreatDoorSwAP
import Derived.Test.YtnedhhillonniaaGreatDoorSwAQ
import Derived.Test.YtnedhhillonniaaGreatDoorSwAR
import Derived.Lay
import Derived.SevenTiedAt
import Derived.Test.YtnedhhillonniaaGreatDoorTie
import Derived.Test.YtnedhhillonniaaGreatDoorCards
import Derived.JoinedOf
/- Chapter 24: the row of FieldKeysSpec holds. -/
namespace Sw
noncomputable section
open Go Go.Proofs Go.Proofs.YtnedhhillonniaaGreatDoor Go.RowKit Go.ChangeShapes Go.WideShapes
set_option maxRecDepth 100000

def arg24 : Array Value := #[sV 0 0 0 0 0 0 0 0, .slice none 0 0]
theorem laid24_met (os : Os) (args : Array Value) : laidMetH Tryz.prog Rows.fieldKeysSpecRow.laid ((World.laidAll Tryz.prog os Rows.fieldKeysSpecRow.laid).forCall (fun _ _ => 0) ⟨#[], args, []⟩).memory := by
  rw [MakeChecks.laidMetH_plain _ _ _ (by kernel_rfl)]
  exact laidMet_laidAll _ (by kernel_rfl) (by kernel_rfl)
theorem params24 : ∀ t ∈ Tryz.f3.params.toList, Tryz.prog.readableRec t = true ∧ t < Tryz.prog.types.size := fun t ht => by
  have h : (Tryz.f3.params.toList.all fun t => Tryz.prog.readableRec t && Nat.blt t Tryz.prog.types.size) = true := by kernel_rfl
  have := List.all_eq_true.1 h t ht
  rw [Bool.and_eq_true] at this
  exact ⟨this.1, blt_iff.1 this.2⟩

theorem fieldKeysSpec_lifted (os : Os) (started : os.Started) (H : Type) (enc : TypeId × Value → H) :
    ReturnsInHanded {} Tryz.checked os 3 .any (fun w args => (Rows.fieldKeysSpecSpec.pre enc Tryz.prog Tryz.f3 [] false w args ∧ laidMetH Tryz.prog Rows.fieldKeysSpecRow.laid w) ∧ sizedMet enc Tryz.prog Tryz.f3 (OpenSpec.ofChange Rows.fieldKeysSpecSpec) false w args)
      (Rows.fieldKeysSpecSpec.post enc Tryz.prog Tryz.f3 false true false false) := by
  refine returns_true (C := Tryz.checked) (t := 4) (X := fun w _ => laidMetH Tryz.prog Rows.fieldKeysSpecRow.laid w) (fun _ _ _ hh h => h.of_heap hh) own24 started (by kernel_rfl) Tryz.func3
    (ChangeSpec.witness_shaped (enc := enc) (C := Tryz.checked) (os := os) (X := fun w _ => laidMetH Tryz.prog Rows.fieldKeysSpecRow.laid w) false (World.laidAll Tryz.prog os Rows.fieldKeysSpecRow.laid) arg24 8 (World.laidAll_os _ _ _)
      (World.shaped_of_ZipB (by kernel_rfl) (by kernel_rfl)) (by kernel_rfl) (by kernel_rfl) (by kernel_rfl) (laid24_met os _))
    laidOut24 rfl (by kernel_rfl) (by kernel_rfl) params24 ?_
  · intro W base args ds gs before p hval hA hgs hL hsh
    subst hgs
    obtain ⟨⟨d1, d2, rfl⟩, hc⟩ := law_any W base args ds p hval hA (laid24_of hL) hsh
    exact ⟨rfl, hc⟩

theorem fieldKeysSpec_facts : joinedFacts Tryz.prog 3 Tryz.f3 Rows.fieldKeysSpecSpec Rows.fieldKeysSpecRow = true := by
  unfold joinedFacts
  rw [j_inPlace, j_unfollowed, j_recurses, j_named]
  kernel_rfl
theorem fieldKeysSpec_holds : Rows.FieldKeysSpecSaid :=
  OpenClaim.holds_of_wide 3 Tryz.f3 rfl rfl rfl rfl rfl rfl rfl ⟨rfl, rfl, rfl, rfl, rfl⟩ rfl rfl rfl rfl rfl (by kernel_rfl) Tryz.func3 fieldKeysSpec_facts
    (of_decide_eq_true (by kernel_rfl)) (by unfold Func.isWrapper; rw [if_neg (of_decide_eq_false (by kernel_rfl))]; exact ⟨rfl, rfl⟩)
    (fun os started H enc _ => fieldKeysSpec_lifted os started H enc)
end
end Sw
