/- A part of the proof that the law returns true for every input that its row speaks of. No condition is added. -/
import Derived.Shelf.Strings.Search1
import Derived.Shelf.Strings.Search2
import Derived.Shelf.Strings.Search3
import Derived.Shelf.LaysM
import Derived.Shelf.Strings.Shaped
import Derived.Shelf.Bits.Mul64
import Derived.Test.YtginbleelmnlpaaGreatDoorProg
import Derived.Test.YtginbleelmnlpaaGreatDoorSwAF
import Derived.Test.YtginbleelmnlpaaGreatDoorSwAK
import Derived.Test.YtginbleelmnlpaaGreatDoorSwAL
import Derived.Test.YtginbleelmnlpaaGreatDoorSwAM
import Derived.Test.YtginbleelmnlpaaGreatDoorSwAN
import Derived.Test.YtginbleelmnlpaaGreatDoorSwAO
import Derived.Test.YtginbleelmnlpaaGreatDoorSwAP
import Derived.Test.YtginbleelmnlpaaGreatDoorSwAQ
import Derived.Test.YtginbleelmnlpaaGreatDoorSwAR
import Derived.Test.YtginbleelmnlpaaGreatDoorSwAS
import Derived.Test.YtginbleelmnlpaaGreatDoorSwAT
import Derived.Test.YtginbleelmnlpaaGreatDoorSwAU
import Derived.Test.YtginbleelmnlpaaGreatDoorSwAV
import Derived.Test.YtginbleelmnlpaaGreatDoorSwAW
import Derived.Test.YtginbleelmnlpaaGreatDoorSwAX
import Derived.Test.YtginbleelmnlpaaGreatDoorSwAY
import Derived.Test.YtginbleelmnlpaaGreatDoorSwAZ
import Derived.Test.YtginbleelmnlpaaGreatDoorSwBA
import Derived.Test.YtginbleelmnlpaaGreatDoorSwBB
import Derived.Test.YtginbleelmnlpaaGreatDoorSwBC
import Derived.KernelRfl
import Derived.LaidLaws
import Derived.SevenTiedAt
import Derived.JoinedOf
import Derived.Lay
namespace Go.Proofs
open Go.Shelf
def Tryz.lays144_ren : Go.Shelf.Ren := ⟨fun | 144 => 255 | 143 => 332 | 219 => 391 | 217 => 430 | 225 => 431 | 224 => 432 | 267 => 433 | 266 => 450 | 314 => 451 | n => n, fun | 9 => 9 | 4 => 4 | 3 => 3 | 5 => 5 | 46 => 290 | 146 => 450 | 51 => 382 | n => n, fun | 1 => 11 | n => n⟩
theorem Tryz.lays144 : Go.Proofs.Lays.n144 Tryz.prog Tryz.lays144_ren := {
  mixed := by kernel_rfl
  f143 := Tryz.func332.trans (congrArg some (by kernel_rfl))
  f144 := Tryz.func255.trans (congrArg some (by kernel_rfl))
  f217 := Tryz.func430.trans (congrArg some (by kernel_rfl))
  f219 := Tryz.func391.trans (congrArg some (by kernel_rfl))
  f224 := Tryz.func432.trans (congrArg some (by kernel_rfl))
  f225 := Tryz.func431.trans (congrArg some (by kernel_rfl))
  f266 := Tryz.func450.trans (congrArg some (by kernel_rfl))
  f267 := Tryz.func433.trans (congrArg some (by kernel_rfl))
  f314 := Tryz.func451.trans (congrArg some (by kernel_rfl))
  t3 := Tryz.underlying3
  a3 := Tryz.isAgg3
  z3 := Tryz.sizeOf3
  v3 := Tryz.zeroValue3
  t4 := Tryz.underlying4
  a4 := Tryz.isAgg4
  z4 := Tryz.sizeOf4
  v4 := Tryz.zeroValue4
  t5 := Tryz.underlying5
  a5 := Tryz.isAgg5
  z5 := Tryz.sizeOf5
  v5 := Tryz.zeroValue5
  t9 := Tryz.underlying9
  a9 := Tryz.isAgg9
  z9 := Tryz.sizeOf9
  v9 := Tryz.zeroValue9
  t46 := Tryz.underlying290
  a46 := Tryz.isAgg290
  z46 := Tryz.sizeOf290
  v46 := Tryz.zeroValue290
  t51 := Tryz.underlying382
  a51 := Tryz.isAgg382
  z51 := Tryz.sizeOf382
  v51 := Tryz.zeroValue382
  t146 := Tryz.underlying450
  a146 := Tryz.isAgg450
  z146 := Tryz.sizeOf450
  v146 := Tryz.zeroValue450
  g1 := by kernel_rfl }
open Go.RowKit Go.Lib in
theorem Tryz.strings_Contains (s sub : ByteArray) (m : Int) (w : World) (hs : s.size < 4294967281) (hm : w.cell? ⟨11, 0, none⟩ = some (.int .i64 m)) :
    Calls Tryz.prog 255 #[.string s, .string sub] w fun e w' => e = .returned (.bool (Lib.contains s.data.toList sub.data.toList)) ∧ w' = w := Any.strings_Contains Tryz.lays144 s sub m w hs hm
end Go.Proofs

namespace Sw
noncomputable section
open Go Go.Proofs Go.RowKit
set_option maxRecDepth 100000
def IE (B0 : Nat) (w0 : World) : Prop := 11 < B0 ∧ ∃ m, w0.cell? ⟨11, 0, none⟩ = some (.int .i64 m)
theorem IE_lasts : Lasts IE := fun B0 w0 w ⟨h1, m, h2⟩ hb hs => ⟨by omega, m, by rw [below_cell hb h1]; exact h2⟩
theorem TyE_ok : TyE.Ok Tryz.prog ∧ TyE.Closed := by
  have hlist : ∀ t i, TyE.info t = some i → i ∈ Tryz.types.toList ∧ has tyMask t = true ∧ TT.get t = some i := fun t i h => by
    have h : (bif has tyMask t then TT.get t else none) = some i := h
    cases hm : has tyMask t with
    | false => rw [hm] at h; cases h
    | true =>
      rw [hm] at h
      have h : TT.get t = some i := h
      have h2 := h
      rw [TT_eq, ofL_nil_get] at h2
      exact ⟨List.mem_of_getElem? h2, rfl, h⟩
  have hchk : ∀ t i, TT.get t = some i → has tyMask t = true → tyOk i = true ∧ tyClosed TyE i = true := fun t i h hm => by
    have key : (Tryz.types.toList.zipIdx.all fun p => !(has tyMask p.2) || (tyOk p.1 && tyClosed TyE p.1)) = true := by kernel_rfl
    rw [TT_eq, ofL_nil_get] at h
    have := List.all_eq_true.1 key (i, t) (by rw [List.mem_zipIdx_iff_getElem?]; exact h)
    simp only [hm, Bool.not_true, Bool.false_or, Bool.and_eq_true] at this
    exact this
  refine tyEnv (fun t i h => ?_) (fun t h => ?_)
  · obtain ⟨h1, h2, h3⟩ := hlist t i h
    refine ⟨?_, hchk t i h3 h2⟩
    have h4 := TT_get t i h3
    have hlt : t < Tryz.prog.types.size := (Array.getElem?_eq_some_iff.1 h4).1
    show (if t < Tryz.prog.types.size then Tryz.prog.types[t]? else _) = _
    rw [if_pos hlt]; exact h4
  · have h : has eqMask t = true := h
    have hlt : t < 531 := has_lt (m := eqMask) (N := 531) (by kernel_rfl) h
    have key : ((List.range 531).all fun t => !(has eqMask t) || (!(Tryz.prog.stoodInHeld t) && (!(Tryz.prog.eqGuardType Tryz.prog.depth t) && (match Tryz.prog.underlying t with | some (.struct fs) => fs.toList.all (·.name != "_") | _ => true)))) = true := by kernel_rfl
    have := allRange key hlt
    simp only [h, Bool.not_true, Bool.false_or, Bool.and_eq_true, Bool.not_eq_true'] at this
    refine ⟨this.1, this.2.1, fun fs hu f hf => ?_⟩
    have h3 := this.2.2
    rw [hu] at h3
    have := List.all_eq_true.1 h3 f hf
    simpa using this
theorem FnE_ok (f : FuncId) (fn : Func) (h : FnE f = some fn) : Tryz.prog.funcs[f]? = some fn ∧ fnOk 12 fn = true := by
  have h : (bif has fnMask f then FT.get f else none) = some fn := h
  cases hm : has fnMask f with
  | false => rw [hm] at h; cases h
  | true =>
    rw [hm] at h
    have h : FT.get f = some fn := h
    refine ⟨FT_get f fn h, ?_⟩
    rw [FT_eq, ofL_nil_get] at h
    have hlt : f < 498 := by
      have h1 : f < Tryz.funcs.toList.length := (List.getElem?_eq_some_iff.1 h).1
      have h2 : Tryz.funcs.toList.length = 498 := by kernel_rfl
      rw [h2] at h1; exact h1
    have hmem : (fn, f) ∈ Tryz.funcs.toList.zipIdx := by rw [List.mem_zipIdx_iff_getElem?]; exact h
    have use : ∀ lo hi, (Tryz.funcs.toList.zipIdx.all fun p => !(Nat.ble lo p.2 && Nat.blt p.2 hi) || (!(has fnMask p.2) || fnOk 12 p.1)) = true → lo ≤ f → f < hi → fnOk 12 fn = true := fun lo hi key h1 h2 => by
      have := List.all_eq_true.1 key (fn, f) hmem
      simp only [hm, Nat.ble_eq_true_of_le h1, show Nat.blt f hi = true from Nat.ble_eq_true_of_le h2, Bool.and_true, Bool.not_true, Bool.false_or] at this
      exact this
    rcases Nat.lt_or_ge f 85 with h0 | h0
    · exact use _ _ hFn0 (Nat.zero_le _) h0
    rcases Nat.lt_or_ge f 170 with h1 | h1
    · exact use _ _ hFn1 (h0) h1
    rcases Nat.lt_or_ge f 255 with h2 | h2
    · exact use _ _ hFn2 (h1) h2
    rcases Nat.lt_or_ge f 340 with h3 | h3
    · exact use _ _ hFn3 (h2) h3
    rcases Nat.lt_or_ge f 425 with h4 | h4
    · exact use _ _ hFn4 (h3) h4
    exact use _ _ hFn5 (h4) hlt
theorem MeE_ok (t : TypeId) (n : String) (f : FuncId) (h : MeE t n = some f) : methOk TyE t n f = true := by
  unfold MeE at h
  cases hb : (Nat.beq t 215 && (n == "stopwatch/typing.parts")) with
  | true =>
    rw [hb] at h; cases h
    rw [Bool.and_eq_true] at hb
    obtain rfl := beq_eq hb.1
    obtain rfl : n = "stopwatch/typing.parts" := by simpa using hb.2
    kernel_rfl
  | false =>
  rw [hb] at h
  simp only [cond_false] at h
  cases hb : (Nat.beq t 325 && (n == "stopwatch/typing.parts")) with
  | true =>
    rw [hb] at h; cases h
    rw [Bool.and_eq_true] at hb
    obtain rfl := beq_eq hb.1
    obtain rfl : n = "stopwatch/typing.parts" := by simpa using hb.2
    kernel_rfl
  | false =>
  rw [hb] at h
  simp only [cond_false] at h
  cases h
theorem ok_any (K : FuncId → Option KRun) : EnvOk Tryz.prog 12 ⟨TyE, fun f => (FnE f).bind fInfo, MeE, K, 0⟩ := envOk TyE_ok.1 TyE_ok.2 FnE_ok MeE_ok
theorem kok0 (B0 : Nat) (w0 : World) (hi : IE B0 w0) : KOk Tryz.prog 12 B0 w0 e0 := by
  intro f kk h
  have h : (bif Nat.beq f 255 then some kCont else none) = some kk := h
  cases hb : Nat.beq f 255 with
  | false => rw [hb] at h; cases h
  | true =>
    rw [hb] at h; cases h
    obtain rfl := beq_eq hb
    refine ⟨⟨Tryz.f255, _, Tryz.func255, rfl, by kernel_rfl⟩, fun l args hp nx g w H hg hl => ?_⟩
    by_cases hshape : ∃ a b, l = [.string a, .string b]
    · obtain ⟨a, b, rfl⟩ := hshape
      cases hlt : Nat.blt (strs a).length 4294967281 with
      | false => exact .inr ⟨fun _ _ => .need 0, fun cs k fb => by simp only [kCont, hlt, cond_false], CallSays.fail fun _ _ => rfl⟩
      | true =>
        refine .inr ⟨fun cs k => k (.bool (Lib.contains (strs a) (strs b))) hp nx cs, fun cs k fb => by simp only [kCont, hlt, cond_true], fun k => .here (.inr ⟨_, hp, nx, fun cs => rfl, ?_⟩)⟩
        have hargs : args = #[.string a, .string b] := by
          obtain ⟨args⟩ := args
          match args, hl with
          | [x, y], hl =>
            have h1 := hl.head
            have h2 := hl.tail.head
            rw [h1.string_inv, h2.string_inv]
          | [], hl => cases hl.1
          | [_], hl => cases hl.1
          | _ :: _ :: _ :: _, hl => cases hl.1
        subst hargs
        obtain ⟨h1, m, h2⟩ := hi
        have hm : w.cell? ⟨11, 0, none⟩ = some (.int .i64 m) := by rw [below_cell H.below h1]; exact h2
        have hs : a.size < 4294967281 := by
          have := Nat.le_of_ble_eq_true hlt
          have e : (strs a).length = a.size := by unfold strs; rw [Array.length_toList]; rfl
          rw [e] at this; exact this
        exact CallLands.of_calls H (.bool _) (Tryz.strings_Contains a b m w hs hm)
    · refine .inr ⟨fun _ _ => .need 0, fun cs k fb => ?_, CallSays.fail fun _ _ => rfl⟩
      show (match l with | [.string a, .string b] => _ | _ => (.need 0 : Res (Nat × St))) = .need 0
      split
      · rename_i a b; exact absurd ⟨a, b, rfl⟩ hshape
      · rfl
theorem kok_next {e : Env} (ok : EnvOk Tryz.prog 12 e) (kok : ∀ B0 w0, IE B0 w0 → KOk Tryz.prog 12 B0 w0 e) {f : FuncId} {fn : Func} {c : Code} (hfn : Tryz.prog.funcs[f]? = some fn) (hb : fn.body = some c) (hn : (fn.name == "runtime.NumGoroutine") = false)
    {tms : List Tmpl} (hold : ∀ tm ∈ tms, ∃ n fuel, holdsT 12 e f n fuel tm = true) (B0 : Nat) (w0 : World) (hi : IE B0 w0) :
    KOk Tryz.prog 12 B0 w0 { e with K := fun x => bif Nat.beq x f then some (kOfT 12 tms) else e.K x } := by
  intro x kk h
  have h : (bif Nat.beq x f then some (kOfT 12 tms) else e.K x) = some kk := h
  cases hq : Nat.beq x f with
  | false => rw [hq] at h; exact kok B0 w0 hi x kk h
  | true =>
    rw [hq] at h; cases h
    obtain rfl := beq_eq hq
    exact ⟨⟨fn, c, hfn, hb, hn⟩, fun l args hp nx g w H hg hl => kOfT_ok IE_lasts hi ok kok hold l args hp nx g w H hg hl⟩
theorem kok1 : ∀ B0 w0, IE B0 w0 → KOk Tryz.prog 12 B0 w0 e1 :=
  kok_next (ok_any _) kok0 Tryz.func331 rfl (by kernel_rfl) fun tm h => by
    simp only [List.mem_cons, List.not_mem_nil, or_false] at h
    subst h
    exact ⟨_, _, hClasses0⟩
theorem kok2 : ∀ B0 w0, IE B0 w0 → KOk Tryz.prog 12 B0 w0 e2 :=
  kok_next (ok_any _) kok1 Tryz.func25 rfl (by kernel_rfl) fun tm h => by
    simp only [List.mem_cons, List.not_mem_nil, or_false] at h
    subst h
    exact ⟨_, _, hCourse0⟩
theorem kok3 : ∀ B0 w0, IE B0 w0 → KOk Tryz.prog 12 B0 w0 e3 :=
  kok_next (ok_any _) kok2 Tryz.func64 rfl (by kernel_rfl) fun tm h => by
    simp only [List.mem_cons, List.not_mem_nil, or_false] at h
    rcases h with rfl | rfl | rfl | rfl | rfl
    · exact ⟨_, _, hStarters0⟩
    · exact ⟨_, _, hStarters1⟩
    · exact ⟨_, _, hStarters2⟩
    · exact ⟨_, _, hStarters3⟩
    · exact ⟨_, _, hStarters4⟩
theorem kok4 : ∀ B0 w0, IE B0 w0 → KOk Tryz.prog 12 B0 w0 e4 :=
  kok_next (ok_any _) kok3 Tryz.func9 rfl (by kernel_rfl) fun tm h => by
    simp only [List.mem_cons, List.not_mem_nil, or_false] at h
    rcases h with rfl | rfl | rfl | rfl
    · exact ⟨_, _, hOf0⟩
    · exact ⟨_, _, hOf1⟩
    · exact ⟨_, _, hOf2⟩
    · exact ⟨_, _, hOf3⟩
theorem kokE : ∀ B0 w0, IE B0 w0 → KOk Tryz.prog 12 B0 w0 ex :=
  kok_next (ok_any _) kok4 Tryz.func4 rfl (by kernel_rfl) fun tm h => by
    simp only [List.mem_cons, List.not_mem_nil, or_false] at h
    subst h
    exact ⟨_, _, hSane⟩
theorem ok_ex : EnvOk Tryz.prog 12 ex := ok_any _
theorem saneWf {hp : Ht} {nx : Nat} (h : ∀ b o, (lay0 globs .nil).get b = some o → hp.get b = some o) : WF ex 4 [] hp nx (Stays nx hp (BoolIs True)) := sane_wf (ng := 12) (by kernel_rfl) (by kernel_rfl) h
end
end Sw

namespace Sw
noncomputable section
open Go Go.RowKit Go.ChangeShapes
def ints (xs : List Int) : List Value := xs.map (.int .i64)
def numOf : Value → Int
  | .int _ z => z
  | _ => 0
theorem trod_ints {H : Type} {enc : TypeId × Value → H} {P : Program} {w : World} {base : Nat} {spare : Nat → Bool} {held : Bool} {fuel : Nat} {t e : TypeId} {fs : Array Field} {cs : List Value} {x : DataW H × List MemPlace} (ht : P.underlying t = some (.struct fs)) (he : P.underlying e = some (.int .i64)) (hc : P.cellsOf e = 1)
    (hf : ∀ (i : Nat) (f : Field), fs[i]? = some f → f.type = e ∧ f.offset = i) (hn : P.cellsOf t = fs.size) (h : DataW.trod enc P w base spare held fuel t cs = some x) :
    ∃ zs : List Int, zs.length = fs.size ∧ cs = ints zs ∧ x = (.agg (zs.map fun z => .lit (.int .i64 z)), []) ∧ ∀ z ∈ zs, (Lit.int .i64 z).wf = true := by
  obtain ⟨xs, n, _, rfl, hl, hlen, hx⟩ := DataW.trod_struct ht h
  have each : ∀ (i : Nat), i < fs.size → ∃ z, cs[i]? = some (.int .i64 z) ∧ xs[i]? = some (.lit (.int .i64 z), []) ∧ (Lit.int .i64 z).wf = true := fun i hi => by
    have hfi := Array.getElem?_eq_getElem hi
    have h1 := hx i _ hfi
    obtain ⟨h2, h3⟩ := hf i _ hfi
    rw [h2, h3, hc] at h1
    have hcs : cs[i]? = some (cs[i]'(by omega)) := List.getElem?_eq_getElem (by omega)
    have h4 : (cs.drop i).take 1 = [cs[i]'(by omega)] := by
      rw [List.drop_eq_getElem_cons (by omega)]; rfl
    rw [h4] at h1
    have h5 : xs[i]? = some (xs[i]'(by omega)) := List.getElem?_eq_getElem (by omega)
    rw [h5] at h1
    cases n with
    | zero => simp [DataW.trod] at h1
    | succ n =>
      generalize cs[i]'(by omega) = v at *
      unfold DataW.trod at h1
      rw [he] at h1
      cases v <;> simp only [reduceCtorEq] at h1
      rename_i k z
      split at h1
      · rename_i hk
        obtain ⟨rfl, hwf⟩ := hk
        exact ⟨z, hcs, by rw [h5, ← h1], hwf⟩
      · cases h1
  have hl : cs.length = fs.size := hl.trans hn
  have e1 : cs = ints (cs.map numOf) := by
    refine List.ext_getElem? fun i => ?_
    rcases Nat.lt_or_ge i fs.size with hi | hi
    · obtain ⟨z, h1, _⟩ := each i hi
      simp only [ints, List.getElem?_map, h1, Option.map_some, numOf]
    · rw [List.getElem?_eq_none (by omega), List.getElem?_eq_none (by rw [ints, List.length_map, List.length_map]; omega)]
  have e2 : xs = (cs.map numOf).map fun z => (.lit (.int .i64 z), []) := by
    refine List.ext_getElem? fun i => ?_
    rcases Nat.lt_or_ge i fs.size with hi | hi
    · obtain ⟨z, h1, h2, _⟩ := each i hi
      simp only [List.getElem?_map, h1, h2, Option.map_some, numOf]
    · rw [List.getElem?_eq_none (by omega), List.getElem?_eq_none (by rw [List.length_map, List.length_map]; omega)]
  refine ⟨cs.map numOf, by rw [List.length_map, hl], e1, ?_, fun z hz => ?_⟩
  · rw [e2]
    congr 1
    · rw [List.map_map]; rfl
    · rw [List.flatMap_map]; induction cs.map numOf with
      | nil => rfl
      | cons a l ih => simp
  · obtain ⟨v, hv, rfl⟩ := List.mem_map.1 hz
    obtain ⟨i, hi, rfl⟩ := List.mem_iff_getElem.1 hv
    obtain ⟨z, h1, _, h3⟩ := each i (by omega)
    rw [List.getElem?_eq_getElem hi] at h1
    rw [Option.some.inj h1]; exact h3
def plainFs (ti : TypeId) (fs : Array Field) : Bool := (List.range fs.size).all fun i => match fs[i]? with
  | some f => Nat.beq f.type ti && Nat.beq f.offset i
  | none => false
theorem plainFs_spec {ti : TypeId} {fs : Array Field} (h : plainFs ti fs = true) : ∀ (i : Nat) (f : Field), fs[i]? = some f → f.type = ti ∧ f.offset = i := fun i f hf => by
  have := List.all_eq_true.1 h i (List.mem_range.2 (Array.getElem?_eq_some_iff.1 hf).1)
  rw [hf] at this
  simp only [Bool.and_eq_true] at this
  exact ⟨beq_eq this.1, beq_eq this.2⟩
def pairTy (P : Program) (ti ts : TypeId) : Bool := (match P.underlying ts with | some (.struct fs) => plainFs ti fs && Nat.beq fs.size 2 | _ => false) && (Nat.beq (P.cellsOf ti) 1 && Nat.beq (P.cellsOf ts) 2)
theorem laid_one {P : Program} {W : World} {ti ts : TypeId} (hi : P.underlying ti = some (.int .i64)) (hp : pairTy P ti ts = true) {laid : List (String × DataW Unit)} {ps : List MemPlace} (h : DataW.LaidVars P W laid ps) {n : String} {a b : Int} (hm : (n, .agg [.lit (.int .i64 a), .lit (.int .i64 b)]) ∈ laid) {g : Nat} (hg : P.globalNamed n = some g) (ht : (P.globals[g]?).map (·.type) = some ts) :
    ∀ (j : Nat) (v : Value), ([.int .i64 a, .int .i64 b] : List Value)[j]? = some v → W.cell? ⟨g, j, none⟩ = some v := by
  induction laid generalizing ps with
  | nil => cases hm
  | cons x r ih =>
    obtain ⟨n', d⟩ := x
    obtain ⟨g', t, cs, fuel, p, q, h1, h2, h3, h4, h5, _⟩ := h
    rcases List.mem_cons.1 hm with hm | hm
    · cases hm
      obtain rfl := Option.some.inj (hg.symm.trans h1)
      obtain rfl := Option.some.inj (ht.symm.trans h2)
      unfold pairTy at hp
      simp only [Bool.and_eq_true] at hp
      obtain ⟨hp1, hp2, hp3⟩ := hp
      split at hp1
      · rename_i fs k1
        rw [Bool.and_eq_true] at hp1
        have k3 := beq_eq hp1.2
        obtain ⟨zs, z1, z2, z3, _⟩ := trod_ints k1 hi (beq_eq hp2) (plainFs_spec hp1.1) (by rw [beq_eq hp3, k3]) h4
        intro j v hv
        rw [World.var?_cell hg h3 j]
        rw [k3] at z1
        match zs, z1 with
        | [z0, z1], _ =>
          simp only [Prod.mk.injEq, DataW.agg.injEq, List.map_cons, List.map_nil, List.cons.injEq, DataW.lit.injEq, Lit.int.injEq, true_and, and_true] at z3
          obtain ⟨⟨rfl, rfl⟩, rfl⟩ := z3
          rw [← Array.getElem?_toList, z2]
          exact hv
      · cases hp1
    · exact ih h5 hm
theorem RpAll.cons {P : Program} {hp : Ht} {nx n : Nat} {t : TypeId} {ts : List TypeId} {lss : List (List Value)} (h : RpAll P hp nx n (t :: ts) lss) : ∃ l ls, lss = l :: ls ∧ Rp P hp nx n t l ∧ RpAll P hp nx n ts ls := by
  cases lss with
  | nil => exact h.elim
  | cons l ls => exact ⟨l, ls, rfl, h⟩
theorem RpAll.nil {P : Program} {hp : Ht} {nx n : Nat} {lss : List (List Value)} (h : RpAll P hp nx n [] lss) : lss = [] := by
  cases lss with
  | nil => rfl
  | cons l ls => exact h.elim
theorem ArgsRp.cons {P : Program} {hp : Ht} {nx : Nat} {t : TypeId} {ts : List TypeId} {lvs : List Value} (h : ArgsRp P hp nx (t :: ts) lvs) : ∃ v vs, lvs = v :: vs ∧ (∃ n ls, Rp P hp nx n t ls ∧ ls.length = P.cellsOf t ∧ v = argOf P t ls) ∧ ArgsRp P hp nx ts vs := by
  cases lvs with
  | nil => exact h.elim
  | cons v vs => exact ⟨v, vs, rfl, h⟩
theorem ArgsRp.nil {P : Program} {hp : Ht} {nx : Nat} {lvs : List Value} (h : ArgsRp P hp nx [] lvs) : lvs = [] := by
  cases lvs with
  | nil => rfl
  | cons v vs => exact h.elim
theorem ba {a b : Bool} (h : a = true) (k : b = true) : (a && b) = true := by rw [h, k]; rfl
theorem noGoes_goes {P : Program} (h : P.funcs.any Func.goes = false) (f : FuncId) : P.goes f = false := by
  have h1 : ∀ g : Nat, ((P.funcs[g]?).any Func.goes) = false := fun g => by
    cases hg : P.funcs[g]? with
    | none => rfl
    | some fn =>
      rw [Array.any_eq_false] at h
      obtain ⟨hlt, rfl⟩ := Array.getElem?_eq_some_iff.1 hg
      simpa using h g hlt
  unfold Program.goes
  rw [h, Bool.and_false, Bool.or_false, List.any_eq_false]
  intro g _
  rw [h1]; simp
theorem noGoes_by {P : Program} {c : OpenClaim} (h : P.funcs.any Func.goes = false) (hs : c.start = .entering) : false = c.goesBy P := by
  unfold OpenClaim.goesBy Program.goesAt Program.goesFrom
  have h : ∀ o : Option FuncId, o.any P.goes = false := fun o => by
    cases o with
    | none => rfl
    | some f => exact noGoes_goes h f
  rw [h, hs]; rfl
theorem looks_of {p : Pinned} {c : OpenClaim} {f0 : FuncId} {fn0 : Func} {lk : Bool} (h1 : p.checked.prog.funcNamed c.func = some f0) (h2 : p.checked.prog.funcs[f0]? = some fn0) (h3 : lk = p.checked.prog.looks [])
    (h4 : (fn0.params.toList.all fun t => !(p.checked.prog.wantsStandIn t)) = true) :
    ∀ f fn, p.checked.prog.funcNamed c.func = some f → p.checked.prog.funcs[f]? = some fn → lk = p.checked.prog.looks [] ∧ ∀ (j : Nat) t, fn.params[j]? = some t → p.checked.prog.wantsStandIn t = false := by
  intro f fn hf hfn
  obtain rfl := Option.some.inj (h1.symm.trans hf)
  obtain rfl := Option.some.inj (h2.symm.trans hfn)
  refine ⟨h3, fun j t ht => ?_⟩
  have := List.all_eq_true.1 h4 t (List.mem_of_getElem? (by rw [Array.getElem?_toList]; exact ht))
  simpa using this
end
end Sw
