/- A part of the proof that the law returns true for every input that its row speaks of. No condition is added. -/
import Derived.Test.YtnedhhillonniaaGreatDoorSwAF
import Derived.KernelRfl
import Derived.Shelf.Strings.Search1
import Derived.Shelf.Strings.Search2
import Derived.Shelf.Strings.Search3
import Derived.Shelf.LaysM
import Derived.Shelf.Strings.Shaped
import Derived.Shelf.Bits.Mul64
import Derived.Test.YtnedhhillonniaaGreatDoorProg
import Derived.Test.YtnedhhillonniaaGreatDoorSwAG
import Derived.Test.YtnedhhillonniaaGreatDoorSwAH
import Derived.Test.YtnedhhillonniaaGreatDoorSwAI
import Derived.Test.YtnedhhillonniaaGreatDoorSwAJ
import Derived.Test.YtnedhhillonniaaGreatDoorSwAK
import Derived.Test.YtnedhhillonniaaGreatDoorSwAE
namespace Sw
noncomputable section
open Go Go.Proofs
theorem hFn0 : (Tryz.funcs.toList.zipIdx.all fun p => !(Nat.ble 0 p.2 && Nat.blt p.2 85) || (!(has fnMask p.2) || fnOk 12 p.1)) = true := by kernel_rfl
end
end Sw

namespace Sw
noncomputable section
open Go Go.Proofs
theorem hFn1 : (Tryz.funcs.toList.zipIdx.all fun p => !(Nat.ble 85 p.2 && Nat.blt p.2 170) || (!(has fnMask p.2) || fnOk 12 p.1)) = true := by kernel_rfl
end
end Sw

namespace Sw
noncomputable section
open Go Go.Proofs
theorem hFn2 : (Tryz.funcs.toList.zipIdx.all fun p => !(Nat.ble 170 p.2 && Nat.blt p.2 255) || (!(has fnMask p.2) || fnOk 12 p.1)) = true := by kernel_rfl
end
end Sw

namespace Sw
noncomputable section
open Go Go.Proofs
theorem hFn3 : (Tryz.funcs.toList.zipIdx.all fun p => !(Nat.ble 255 p.2 && Nat.blt p.2 340) || (!(has fnMask p.2) || fnOk 12 p.1)) = true := by kernel_rfl
end
end Sw

namespace Sw
noncomputable section
open Go Go.Proofs
theorem hFn4 : (Tryz.funcs.toList.zipIdx.all fun p => !(Nat.ble 340 p.2 && Nat.blt p.2 425) || (!(has fnMask p.2) || fnOk 12 p.1)) = true := by kernel_rfl
end
end Sw

namespace Sw
noncomputable section
open Go Go.Proofs
theorem hFn5 : (Tryz.funcs.toList.zipIdx.all fun p => !(Nat.ble 425 p.2 && Nat.blt p.2 510) || (!(has fnMask p.2) || fnOk 12 p.1)) = true := by kernel_rfl
end
end Sw

/-
  DERIVED: THE SHELF's CONTRACTS AT THIS DUMP, IN PLAIN WORDS (tools/lay-plain.mjs out of 'TryzShelf.lean', which tools/lay-shelf.mjs wrote): THE SAME DECLARATIONS UNDER THE SAME NAMES: 'import', 'namespace', 'open', 'def', 'theorem' AND NOTHING ELSE: no command of the shelf's: FOR A HAND-IN. Each laying: the table of numbers ('.._ren') and one theorem, a field a fact of the dump's own or the kernel's comparison; each contract: ONE APPLICATION.
-/
namespace Go.Proofs
open Go.Shelf
def Tryz.lays217_ren : Go.Shelf.Ren := ⟨fun | 217 => 428 | 266 => 448 | n => n, fun | 9 => 9 | 5 => 5 | 3 => 3 | n => n, fun | n => n⟩
theorem Tryz.lays217 : Go.Proofs.Lays.n217 Tryz.prog Tryz.lays217_ren := {
  mixed := by kernel_rfl
  f217 := Tryz.func428.trans (congrArg some (by kernel_rfl))
  f266 := Tryz.func448.trans (congrArg some (by kernel_rfl))
  t3 := Tryz.underlying3
  a3 := Tryz.isAgg3
  z3 := Tryz.sizeOf3
  v3 := Tryz.zeroValue3
  t5 := Tryz.underlying5
  a5 := Tryz.isAgg5
  z5 := Tryz.sizeOf5
  v5 := Tryz.zeroValue5
  t9 := Tryz.underlying9
  a9 := Tryz.isAgg9
  z9 := Tryz.sizeOf9
  v9 := Tryz.zeroValue9 }
open Go.RowKit Go.Lib in
/-- internal/stringslite.IndexByte (what strings.IndexByte calls): IT RETURNS 'Lib.indexByte s c'; the world is as it was. (LAID: no walk: one application.) -/
theorem Tryz.stringslite_IndexByte (s : ByteArray) (c : Int) (w : World) :
    Calls Tryz.prog 428 #[.string s, .int .u8 c] w fun e w' => e = .returned (.int .i64 (Lib.indexByte s.data.toList c.toNat.toUInt8)) ∧ w' = w := Any.stringslite_IndexByte Tryz.lays217 s c w
def Tryz.lays224_ren : Go.Shelf.Ren := ⟨fun | 224 => 430 | n => n, fun | 3 => 3 | n => n, fun | n => n⟩
theorem Tryz.lays224 : Go.Proofs.Lays.n224 Tryz.prog Tryz.lays224_ren := {
  mixed := by kernel_rfl
  f224 := Tryz.func430.trans (congrArg some (by kernel_rfl))
  t3 := Tryz.underlying3
  a3 := Tryz.isAgg3
  z3 := Tryz.sizeOf3
  v3 := Tryz.zeroValue3 }
open Go.RowKit Go.Lib in
/-- internal/bytealg.Cutover: "Cutover reports the number of failures of IndexByte we should tolerate before switching over to Index. n is the number of bytes processed so far.": on amd64: (n + 16) / 8. (LAID: no walk: one application.) -/
theorem Tryz.bytealg_Cutover (n : Int) (h0 : 0 ≤ n) (h1 : n < 4611686018427387904) (w : World) :
    Calls Tryz.prog 430 #[.int .i64 n] w fun e w' => e = .returned (.int .i64 ((n + 16) / 8)) ∧ w' = w := Any.bytealg_Cutover Tryz.lays224 n h0 h1 w
def Tryz.lays314_ren : Go.Shelf.Ren := ⟨fun | 314 => 449 | n => n, fun | 9 => 9 | 51 => 375 | 3 => 3 | 4 => 4 | 5 => 5 | 46 => 273 | n => n, fun | n => n⟩
theorem Tryz.lays314 : Go.Proofs.Lays.n314 Tryz.prog Tryz.lays314_ren := {
  mixed := by kernel_rfl
  f314 := Tryz.func449.trans (congrArg some (by kernel_rfl))
  t3 := Tryz.underlying3
  a3 := Tryz.isAgg3
  z3 := Tryz.sizeOf3
  v3 := Tryz.zeroValue3
  t4 := Tryz.underlying4
  a4 := Tryz.isAgg4
  z4 := Tryz.sizeOf4
  v4 := Tryz.zeroValue4
  t5 := Tryz.underlying5
  a5 := Tryz.isAgg5
  z5 := Tryz.sizeOf5
  v5 := Tryz.zeroValue5
  t9 := Tryz.underlying9
  a9 := Tryz.isAgg9
  z9 := Tryz.sizeOf9
  v9 := Tryz.zeroValue9
  t46 := Tryz.underlying273
  a46 := Tryz.isAgg273
  z46 := Tryz.sizeOf273
  v46 := Tryz.zeroValue273
  t51 := Tryz.underlying375
  a51 := Tryz.isAgg375
  z51 := Tryz.sizeOf375
  v51 := Tryz.zeroValue375 }
open Go.RowKit Go.Lib in
/-- hashStr: "returns the hash and the appropriate multiplicative factor for use in Rabin-Karp algorithm": THE HASH OF ALL OF sep, AND 16777619 ^ len(sep), both in uint32. (LAID: no walk: one application.) -/
theorem Tryz.bytealg_hashStr (sep : ByteArray) (hs : sep.size < 4294967281) (w : World) :
    Calls Tryz.prog 449 #[.string sep] w fun e w' => e = .returned (.tuple #[.int .u32 (RK.H sep.data.toList % 4294967296), .int .u32 (16777619 ^ sep.size % 4294967296)]) ∧ w' = w := Any.bytealg_hashStr Tryz.lays314 sep hs w
def Tryz.lays267_ren : Go.Shelf.Ren := ⟨fun | 267 => 431 | 314 => 449 | n => n, fun | 9 => 9 | 3 => 3 | 146 => 448 | 51 => 375 | 4 => 4 | 5 => 5 | 46 => 273 | n => n, fun | n => n⟩
theorem Tryz.lays267 : Go.Proofs.Lays.n267 Tryz.prog Tryz.lays267_ren := {
  mixed := by kernel_rfl
  f267 := Tryz.func431.trans (congrArg some (by kernel_rfl))
  f314 := Tryz.func449.trans (congrArg some (by kernel_rfl))
  t3 := Tryz.underlying3
  a3 := Tryz.isAgg3
  z3 := Tryz.sizeOf3
  v3 := Tryz.zeroValue3
  t4 := Tryz.underlying4
  a4 := Tryz.isAgg4
  z4 := Tryz.sizeOf4
  v4 := Tryz.zeroValue4
  t5 := Tryz.underlying5
  a5 := Tryz.isAgg5
  z5 := Tryz.sizeOf5
  v5 := Tryz.zeroValue5
  t9 := Tryz.underlying9
  a9 := Tryz.isAgg9
  z9 := Tryz.sizeOf9
  v9 := Tryz.zeroValue9
  t46 := Tryz.underlying273
  a46 := Tryz.isAgg273
  z46 := Tryz.sizeOf273
  v46 := Tryz.zeroValue273
  t51 := Tryz.underlying375
  a51 := Tryz.isAgg375
  z51 := Tryz.sizeOf375
  v51 := Tryz.zeroValue375
  t146 := Tryz.underlying448
  a146 := Tryz.isAgg448
  z146 := Tryz.sizeOf448
  v146 := Tryz.zeroValue448 }
open Go.RowKit Go.Lib in
theorem Tryz.bytealg_IndexRabinKarp (s sep : ByteArray) (h1 : 1 ≤ sep.size) (h2 : sep.size ≤ s.size) (hs : s.size < 4294967281) (w : World) :
    Calls Tryz.prog 431 #[.string s, .string sep] w fun e w' => e = .returned (.int .i64 (Lib.index s.data.toList sep.data.toList)) ∧ w' = w := Any.bytealg_IndexRabinKarp Tryz.lays267 s sep h1 h2 hs w
def Tryz.lays219_ren : Go.Shelf.Ren := ⟨fun | 219 => 388 | 217 => 428 | 225 => 429 | 224 => 430 | 267 => 431 | 266 => 448 | 314 => 449 | n => n, fun | 9 => 9 | 3 => 3 | 4 => 4 | 5 => 5 | 46 => 273 | 146 => 448 | 51 => 375 | n => n, fun | 1 => 11 | n => n⟩
theorem Tryz.lays219 : Go.Proofs.Lays.n219 Tryz.prog Tryz.lays219_ren := {
  mixed := by kernel_rfl
  f217 := Tryz.func428.trans (congrArg some (by kernel_rfl))
  f219 := Tryz.func388.trans (congrArg some (by kernel_rfl))
  f224 := Tryz.func430.trans (congrArg some (by kernel_rfl))
  f225 := Tryz.func429.trans (congrArg some (by kernel_rfl))
  f266 := Tryz.func448.trans (congrArg some (by kernel_rfl))
  f267 := Tryz.func431.trans (congrArg some (by kernel_rfl))
  f314 := Tryz.func449.trans (congrArg some (by kernel_rfl))
  t3 := Tryz.underlying3
  a3 := Tryz.isAgg3
  z3 := Tryz.sizeOf3
  v3 := Tryz.zeroValue3
  t4 := Tryz.underlying4
  a4 := Tryz.isAgg4
  z4 := Tryz.sizeOf4
  v4 := Tryz.zeroValue4
  t5 := Tryz.underlying5
  a5 := Tryz.isAgg5
  z5 := Tryz.sizeOf5
  v5 := Tryz.zeroValue5
  t9 := Tryz.underlying9
  a9 := Tryz.isAgg9
  z9 := Tryz.sizeOf9
  v9 := Tryz.zeroValue9
  t46 := Tryz.underlying273
  a46 := Tryz.isAgg273
  z46 := Tryz.sizeOf273
  v46 := Tryz.zeroValue273
  t51 := Tryz.underlying375
  a51 := Tryz.isAgg375
  z51 := Tryz.sizeOf375
  v51 := Tryz.zeroValue375
  t146 := Tryz.underlying448
  a146 := Tryz.isAgg448
  z146 := Tryz.sizeOf448
  v146 := Tryz.zeroValue448
  g1 := by kernel_rfl }
open Go.RowKit Go.Lib in
/-- internal/stringslite.Index (what strings.Index calls) AT A substr OF ONE BYTE c: IT RETURNS 'Lib.indexByte s c'; the world is as it was. (LAID: no walk: one application.) -/
theorem Tryz.stringslite_Index_one (s : ByteArray) (c : UInt8) (w : World) :
    Calls Tryz.prog 388 #[.string s, .string ⟨#[c]⟩] w fun e w' => e = .returned (.int .i64 (Lib.indexByte s.data.toList c)) ∧ w' = w := Any.stringslite_Index_one Tryz.lays219 s c w
open Go.RowKit Go.Lib in
/-- internal/stringslite.Index (what strings.Index calls) AT A substr OF WHATEVER LENGTH: IT RETURNS 'Lib.index s substr'; the world is as it was. 'm': what internal/bytealg.MaxLen holds: whatever. (LAID: no walk: one application.) -/
theorem Tryz.stringslite_Index (s sub : ByteArray) (m : Int) (w : World) (hs : s.size < 4294967281) (hm : w.cell? ⟨11, 0, none⟩ = some (.int .i64 m)) :
    Calls Tryz.prog 388 #[.string s, .string sub] w fun e w' => e = .returned (.int .i64 (Lib.index s.data.toList sub.data.toList)) ∧ w' = w := Any.stringslite_Index Tryz.lays219 s sub m w hs hm
def Tryz.lays143_ren : Go.Shelf.Ren := ⟨fun | 143 => 327 | 219 => 388 | 217 => 428 | 225 => 429 | 224 => 430 | 267 => 431 | 266 => 448 | 314 => 449 | n => n, fun | 9 => 9 | 3 => 3 | 4 => 4 | 5 => 5 | 46 => 273 | 146 => 448 | 51 => 375 | n => n, fun | 1 => 11 | n => n⟩
theorem Tryz.lays143 : Go.Proofs.Lays.n143 Tryz.prog Tryz.lays143_ren := {
  mixed := by kernel_rfl
  f143 := Tryz.func327.trans (congrArg some (by kernel_rfl))
  f217 := Tryz.func428.trans (congrArg some (by kernel_rfl))
  f219 := Tryz.func388.trans (congrArg some (by kernel_rfl))
  f224 := Tryz.func430.trans (congrArg some (by kernel_rfl))
  f225 := Tryz.func429.trans (congrArg some (by kernel_rfl))
  f266 := Tryz.func448.trans (congrArg some (by kernel_rfl))
  f267 := Tryz.func431.trans (congrArg some (by kernel_rfl))
  f314 := Tryz.func449.trans (congrArg some (by kernel_rfl))
  t3 := Tryz.underlying3
  a3 := Tryz.isAgg3
  z3 := Tryz.sizeOf3
  v3 := Tryz.zeroValue3
  t4 := Tryz.underlying4
  a4 := Tryz.isAgg4
  z4 := Tryz.sizeOf4
  v4 := Tryz.zeroValue4
  t5 := Tryz.underlying5
  a5 := Tryz.isAgg5
  z5 := Tryz.sizeOf5
  v5 := Tryz.zeroValue5
  t9 := Tryz.underlying9
  a9 := Tryz.isAgg9
  z9 := Tryz.sizeOf9
  v9 := Tryz.zeroValue9
  t46 := Tryz.underlying273
  a46 := Tryz.isAgg273
  z46 := Tryz.sizeOf273
  v46 := Tryz.zeroValue273
  t51 := Tryz.underlying375
  a51 := Tryz.isAgg375
  z51 := Tryz.sizeOf375
  v51 := Tryz.zeroValue375
  t146 := Tryz.underlying448
  a146 := Tryz.isAgg448
  z146 := Tryz.sizeOf448
  v146 := Tryz.zeroValue448
  g1 := by kernel_rfl }
open Go.RowKit Go.Lib in
/-- strings.Index: "Index returns the index of the first instance of substr in s, or -1 if substr is not present in s.": AT A substr OF ONE BYTE c: IT RETURNS 'Lib.indexByte s c'; the world is as it was. (LAID: no walk: one application.) -/
theorem Tryz.strings_Index_one (s : ByteArray) (c : UInt8) (w : World) :
    Calls Tryz.prog 327 #[.string s, .string ⟨#[c]⟩] w fun e w' => e = .returned (.int .i64 (Lib.indexByte s.data.toList c)) ∧ w' = w := Any.strings_Index_one Tryz.lays143 s c w
open Go.RowKit Go.Lib in
/-- strings.Index: "Index returns the index of the first instance of substr in s, or -1 if substr is not present in s.": IT RETURNS 'Lib.index s substr'; the world is as it was. (LAID: no walk: one application.) -/
theorem Tryz.strings_Index (s sub : ByteArray) (m : Int) (w : World) (hs : s.size < 4294967281) (hm : w.cell? ⟨11, 0, none⟩ = some (.int .i64 m)) :
    Calls Tryz.prog 327 #[.string s, .string sub] w fun e w' => e = .returned (.int .i64 (Lib.index s.data.toList sub.data.toList)) ∧ w' = w := Any.strings_Index Tryz.lays143 s sub m w hs hm
def Tryz.lays144_ren : Go.Shelf.Ren := ⟨fun | 144 => 248 | 143 => 327 | 219 => 388 | 217 => 428 | 225 => 429 | 224 => 430 | 267 => 431 | 266 => 448 | 314 => 449 | n => n, fun | 9 => 9 | 4 => 4 | 3 => 3 | 5 => 5 | 46 => 273 | 146 => 448 | 51 => 375 | n => n, fun | 1 => 11 | n => n⟩
theorem Tryz.lays144 : Go.Proofs.Lays.n144 Tryz.prog Tryz.lays144_ren := {
  mixed := by kernel_rfl
  f143 := Tryz.func327.trans (congrArg some (by kernel_rfl))
  f144 := Tryz.func248.trans (congrArg some (by kernel_rfl))
  f217 := Tryz.func428.trans (congrArg some (by kernel_rfl))
  f219 := Tryz.func388.trans (congrArg some (by kernel_rfl))
  f224 := Tryz.func430.trans (congrArg some (by kernel_rfl))
  f225 := Tryz.func429.trans (congrArg some (by kernel_rfl))
  f266 := Tryz.func448.trans (congrArg some (by kernel_rfl))
  f267 := Tryz.func431.trans (congrArg some (by kernel_rfl))
  f314 := Tryz.func449.trans (congrArg some (by kernel_rfl))
  t3 := Tryz.underlying3
  a3 := Tryz.isAgg3
  z3 := Tryz.sizeOf3
  v3 := Tryz.zeroValue3
  t4 := Tryz.underlying4
  a4 := Tryz.isAgg4
  z4 := Tryz.sizeOf4
  v4 := Tryz.zeroValue4
  t5 := Tryz.underlying5
  a5 := Tryz.isAgg5
  z5 := Tryz.sizeOf5
  v5 := Tryz.zeroValue5
  t9 := Tryz.underlying9
  a9 := Tryz.isAgg9
  z9 := Tryz.sizeOf9
  v9 := Tryz.zeroValue9
  t46 := Tryz.underlying273
  a46 := Tryz.isAgg273
  z46 := Tryz.sizeOf273
  v46 := Tryz.zeroValue273
  t51 := Tryz.underlying375
  a51 := Tryz.isAgg375
  z51 := Tryz.sizeOf375
  v51 := Tryz.zeroValue375
  t146 := Tryz.underlying448
  a146 := Tryz.isAgg448
  z146 := Tryz.sizeOf448
  v146 := Tryz.zeroValue448
  g1 := by kernel_rfl }
open Go.RowKit Go.Lib in
/-- strings.Contains: "Contains reports whether substr is within s.": AT A substr OF ONE BYTE c: IT RETURNS 'decide (0 ≤ Lib.indexByte s c)'; the world is as it was. (LAID: no walk: one application.) -/
theorem Tryz.strings_Contains_one (s : ByteArray) (c : UInt8) (w : World) :
    Calls Tryz.prog 248 #[.string s, .string ⟨#[c]⟩] w fun e w' => e = .returned (.bool (decide (0 ≤ Lib.indexByte s.data.toList c))) ∧ w' = w := Any.strings_Contains_one Tryz.lays144 s c w
open Go.RowKit Go.Lib in
/-- strings.Contains: "Contains reports whether substr is within s.": IT RETURNS 'Lib.contains s substr'; the world is as it was. (LAID: no walk: one application.) -/
theorem Tryz.strings_Contains (s sub : ByteArray) (m : Int) (w : World) (hs : s.size < 4294967281) (hm : w.cell? ⟨11, 0, none⟩ = some (.int .i64 m)) :
    Calls Tryz.prog 248 #[.string s, .string sub] w fun e w' => e = .returned (.bool (Lib.contains s.data.toList sub.data.toList)) ∧ w' = w := Any.strings_Contains Tryz.lays144 s sub m w hs hm
def Tryz.laysM219_ren : Go.Shelf.Ren := ⟨fun | 219 => 388 | 217 => 428 | 225 => 429 | 224 => 430 | 267 => 431 | 266 => 448 | 314 => 449 | n => n, fun | 9 => 9 | 3 => 3 | 4 => 4 | 5 => 5 | 46 => 273 | 146 => 448 | 51 => 375 | n => n, fun | 1 => 11 | n => n⟩
theorem Tryz.laysM219 : Go.Proofs.LaysM.n219 Tryz.prog Tryz.laysM219_ren := {
  mixed := by kernel_rfl
  f217 := Tryz.func428.trans (congrArg some (by kernel_rfl))
  f219 := Tryz.func388.trans (congrArg some (by kernel_rfl))
  f224 := Tryz.func430.trans (congrArg some (by kernel_rfl))
  f225 := Tryz.func429.trans (congrArg some (by kernel_rfl))
  f266 := Tryz.func448.trans (congrArg some (by kernel_rfl))
  f267 := Tryz.func431.trans (congrArg some (by kernel_rfl))
  f314 := Tryz.func449.trans (congrArg some (by kernel_rfl))
  t3 := Tryz.underlying3
  a3 := Tryz.isAgg3
  z3 := Tryz.sizeOf3
  v3 := Tryz.zeroValue3
  t4 := Tryz.underlying4
  a4 := Tryz.isAgg4
  z4 := Tryz.sizeOf4
  v4 := Tryz.zeroValue4
  t5 := Tryz.underlying5
  a5 := Tryz.isAgg5
  z5 := Tryz.sizeOf5
  v5 := Tryz.zeroValue5
  t9 := Tryz.underlying9
  a9 := Tryz.isAgg9
  z9 := Tryz.sizeOf9
  v9 := Tryz.zeroValue9
  t46 := Tryz.underlying273
  a46 := Tryz.isAgg273
  z46 := Tryz.sizeOf273
  v46 := Tryz.zeroValue273
  t51 := Tryz.underlying375
  a51 := Tryz.isAgg375
  z51 := Tryz.sizeOf375
  v51 := Tryz.zeroValue375
  t146 := Tryz.underlying448
  a146 := Tryz.isAgg448
  z146 := Tryz.sizeOf448
  v146 := Tryz.zeroValue448
  g1 := by kernel_rfl
  i3 := by kernel_rfl
  i4 := by kernel_rfl
  i5 := by kernel_rfl
  i9 := by kernel_rfl
  i46 := by kernel_rfl
  i51 := by kernel_rfl
  i146 := by kernel_rfl
  m1 := by kernel_rfl
  s1_3 := fun w h => Go.Proofs.cell_of_shapedOpen_int (zero := #[.int .i64 0]) (t := 3) h (of_decide_eq_true (by kernel_rfl)) (by kernel_rfl) rfl (by kernel_rfl) (by kernel_rfl) Tryz.underlying3 }
open Go.RowKit Go.Lib in
theorem Tryz.stringslite_Index_shaped (s sub : ByteArray) (w : World) (h : w.ShapedOpen Tryz.prog) (hs : s.size < 4294967281) :
    Calls Tryz.prog 388 #[.string s, .string sub] w fun e w' => e = .returned (.int .i64 (Lib.index s.data.toList sub.data.toList)) ∧ w' = w := Any.stringslite_Index_shaped Tryz.laysM219 s sub w h hs
def Tryz.laysM143_ren : Go.Shelf.Ren := ⟨fun | 143 => 327 | 219 => 388 | 217 => 428 | 225 => 429 | 224 => 430 | 267 => 431 | 266 => 448 | 314 => 449 | n => n, fun | 9 => 9 | 3 => 3 | 4 => 4 | 5 => 5 | 46 => 273 | 146 => 448 | 51 => 375 | n => n, fun | 1 => 11 | n => n⟩
theorem Tryz.laysM143 : Go.Proofs.LaysM.n143 Tryz.prog Tryz.laysM143_ren := {
  mixed := by kernel_rfl
  f143 := Tryz.func327.trans (congrArg some (by kernel_rfl))
  f217 := Tryz.func428.trans (congrArg some (by kernel_rfl))
  f219 := Tryz.func388.trans (congrArg some (by kernel_rfl))
  f224 := Tryz.func430.trans (congrArg some (by kernel_rfl))
  f225 := Tryz.func429.trans (congrArg some (by kernel_rfl))
  f266 := Tryz.func448.trans (congrArg some (by kernel_rfl))
  f267 := Tryz.func431.trans (congrArg some (by kernel_rfl))
  f314 := Tryz.func449.trans (congrArg some (by kernel_rfl))
  t3 := Tryz.underlying3
  a3 := Tryz.isAgg3
  z3 := Tryz.sizeOf3
  v3 := Tryz.zeroValue3
  t4 := Tryz.underlying4
  a4 := Tryz.isAgg4
  z4 := Tryz.sizeOf4
  v4 := Tryz.zeroValue4
  t5 := Tryz.underlying5
  a5 := Tryz.isAgg5
  z5 := Tryz.sizeOf5
  v5 := Tryz.zeroValue5
  t9 := Tryz.underlying9
  a9 := Tryz.isAgg9
  z9 := Tryz.sizeOf9
  v9 := Tryz.zeroValue9
  t46 := Tryz.underlying273
  a46 := Tryz.isAgg273
  z46 := Tryz.sizeOf273
  v46 := Tryz.zeroValue273
  t51 := Tryz.underlying375
  a51 := Tryz.isAgg375
  z51 := Tryz.sizeOf375
  v51 := Tryz.zeroValue375
  t146 := Tryz.underlying448
  a146 := Tryz.isAgg448
  z146 := Tryz.sizeOf448
  v146 := Tryz.zeroValue448
  g1 := by kernel_rfl
  i3 := by kernel_rfl
  i4 := by kernel_rfl
  i5 := by kernel_rfl
  i9 := by kernel_rfl
  i46 := by kernel_rfl
  i51 := by kernel_rfl
  i146 := by kernel_rfl
  m1 := by kernel_rfl
  s1_3 := fun w h => Go.Proofs.cell_of_shapedOpen_int (zero := #[.int .i64 0]) (t := 3) h (of_decide_eq_true (by kernel_rfl)) (by kernel_rfl) rfl (by kernel_rfl) (by kernel_rfl) Tryz.underlying3 }
open Go.RowKit Go.Lib in
theorem Tryz.strings_Index_shaped (s sub : ByteArray) (w : World) (h : w.ShapedOpen Tryz.prog) (hs : s.size < 4294967281) :
    Calls Tryz.prog 327 #[.string s, .string sub] w fun e w' => e = .returned (.int .i64 (Lib.index s.data.toList sub.data.toList)) ∧ w' = w := Any.strings_Index_shaped Tryz.laysM143 s sub w h hs
def Tryz.laysM144_ren : Go.Shelf.Ren := ⟨fun | 144 => 248 | 143 => 327 | 219 => 388 | 217 => 428 | 225 => 429 | 224 => 430 | 267 => 431 | 266 => 448 | 314 => 449 | n => n, fun | 9 => 9 | 4 => 4 | 3 => 3 | 5 => 5 | 46 => 273 | 146 => 448 | 51 => 375 | n => n, fun | 1 => 11 | n => n⟩
theorem Tryz.laysM144 : Go.Proofs.LaysM.n144 Tryz.prog Tryz.laysM144_ren := {
  mixed := by kernel_rfl
  f143 := Tryz.func327.trans (congrArg some (by kernel_rfl))
  f144 := Tryz.func248.trans (congrArg some (by kernel_rfl))
  f217 := Tryz.func428.trans (congrArg some (by kernel_rfl))
  f219 := Tryz.func388.trans (congrArg some (by kernel_rfl))
  f224 := Tryz.func430.trans (congrArg some (by kernel_rfl))
  f225 := Tryz.func429.trans (congrArg some (by kernel_rfl))
  f266 := Tryz.func448.trans (congrArg some (by kernel_rfl))
  f267 := Tryz.func431.trans (congrArg some (by kernel_rfl))
  f314 := Tryz.func449.trans (congrArg some (by kernel_rfl))
  t3 := Tryz.underlying3
  a3 := Tryz.isAgg3
  z3 := Tryz.sizeOf3
  v3 := Tryz.zeroValue3
  t4 := Tryz.underlying4
  a4 := Tryz.isAgg4
  z4 := Tryz.sizeOf4
  v4 := Tryz.zeroValue4
  t5 := Tryz.underlying5
  a5 := Tryz.isAgg5
  z5 := Tryz.sizeOf5
  v5 := Tryz.zeroValue5
  t9 := Tryz.underlying9
  a9 := Tryz.isAgg9
  z9 := Tryz.sizeOf9
  v9 := Tryz.zeroValue9
  t46 := Tryz.underlying273
  a46 := Tryz.isAgg273
  z46 := Tryz.sizeOf273
  v46 := Tryz.zeroValue273
  t51 := Tryz.underlying375
  a51 := Tryz.isAgg375
  z51 := Tryz.sizeOf375
  v51 := Tryz.zeroValue375
  t146 := Tryz.underlying448
  a146 := Tryz.isAgg448
  z146 := Tryz.sizeOf448
  v146 := Tryz.zeroValue448
  g1 := by kernel_rfl
  i3 := by kernel_rfl
  i4 := by kernel_rfl
  i5 := by kernel_rfl
  i9 := by kernel_rfl
  i46 := by kernel_rfl
  i51 := by kernel_rfl
  i146 := by kernel_rfl
  m1 := by kernel_rfl
  s1_3 := fun w h => Go.Proofs.cell_of_shapedOpen_int (zero := #[.int .i64 0]) (t := 3) h (of_decide_eq_true (by kernel_rfl)) (by kernel_rfl) rfl (by kernel_rfl) (by kernel_rfl) Tryz.underlying3 }
open Go.RowKit Go.Lib in
theorem Tryz.strings_Contains_shaped (s sub : ByteArray) (w : World) (h : w.ShapedOpen Tryz.prog) (hs : s.size < 4294967281) :
    Calls Tryz.prog 248 #[.string s, .string sub] w fun e w' => e = .returned (.bool (Lib.contains s.data.toList sub.data.toList)) ∧ w' = w := Any.strings_Contains_shaped Tryz.laysM144 s sub w h hs
def Tryz.lays264_ren : Go.Shelf.Ren := ⟨fun | 264 => 262 | n => n, fun | 53 => 377 | 46 => 273 | n => n, fun | n => n⟩
theorem Tryz.lays264 : Go.Proofs.Lays.n264 Tryz.prog Tryz.lays264_ren := {
  mixed := by kernel_rfl
  f264 := Tryz.func262.trans (congrArg some (by kernel_rfl))
  t46 := Tryz.underlying273
  a46 := Tryz.isAgg273
  z46 := Tryz.sizeOf273
  v46 := Tryz.zeroValue273
  t53 := Tryz.underlying377
  a53 := Tryz.isAgg377
  z53 := Tryz.sizeOf377
  v53 := Tryz.zeroValue377 }
open Go.RowKit Go.Lib in
theorem Tryz.bits_Mul64 (x y : Nat) (hx : x < 18446744073709551616) (hy : y < 18446744073709551616) (w : World) :
    Calls Tryz.prog 262 #[.int .u64 x, .int .u64 y] w fun e w' => e = .returned (.tuple #[.int .u64 ((x * y / 18446744073709551616 : Nat) : Int), .int .u64 ((x * y % 18446744073709551616 : Nat) : Int)]) ∧ w' = w := Any.bits_Mul64 Tryz.lays264 x y hx hy w
def Tryz.lays212_ren : Go.Shelf.Ren := ⟨fun | 212 => 185 | 263 => 261 | 264 => 262 | n => n, fun | 46 => 273 | 51 => 375 | 146 => 448 | 53 => 377 | 148 => 450 | n => n, fun | n => n⟩
theorem Tryz.lays212 : Go.Proofs.Lays.n212 Tryz.prog Tryz.lays212_ren := {
  mixed := by kernel_rfl
  f212 := Tryz.func185.trans (congrArg some (by kernel_rfl))
  f263 := Tryz.func261.trans (congrArg some (by kernel_rfl))
  f264 := Tryz.func262.trans (congrArg some (by kernel_rfl))
  t46 := Tryz.underlying273
  a46 := Tryz.isAgg273
  z46 := Tryz.sizeOf273
  v46 := Tryz.zeroValue273
  t51 := Tryz.underlying375
  a51 := Tryz.isAgg375
  z51 := Tryz.sizeOf375
  v51 := Tryz.zeroValue375
  t53 := Tryz.underlying377
  a53 := Tryz.isAgg377
  z53 := Tryz.sizeOf377
  v53 := Tryz.zeroValue377
  t146 := Tryz.underlying448
  a146 := Tryz.isAgg448
  z146 := Tryz.sizeOf448
  v146 := Tryz.zeroValue448
  t148 := Tryz.underlying450
  a148 := Tryz.isAgg450
  z148 := Tryz.sizeOf450
  v148 := Tryz.zeroValue450 }
open Go.RowKit Go.Lib in
/-- math/bits.Mul: "Mul returns the full-width product of x and y": on a machine of 64 bits: Mul64's. (LAID: no walk: one application.) -/
theorem Tryz.bits_Mul (x y : Nat) (hx : x < 18446744073709551616) (hy : y < 18446744073709551616) (w : World) :
    Calls Tryz.prog 185 #[.int .u64 x, .int .u64 y] w fun e w' => e = .returned (.tuple #[.int .u64 ((x * y / 18446744073709551616 : Nat) : Int), .int .u64 ((x * y % 18446744073709551616 : Nat) : Int)]) ∧ w' = w := Any.bits_Mul Tryz.lays212 x y hx hy w
end Go.Proofs

/- sane() of chapter 24 returns true, in every world. -/
namespace Sw
noncomputable section
open Go Go.Proofs Go.RowKit
set_option maxRecDepth 100000

theorem CallLands.of_calls {P : Program} {B0 : Nat} {w0 : World} {g : Gm} {hp : Ht} {nx : Nat} {w : World} {f : FuncId} {args : Array Value} {v v' : Value} (H : HRel B0 w0 g hp.get nx w) (hv : VRel g v v') (h : Calls P f args w fun e w' => e = .returned v' ∧ w' = w) :
    CallLands P B0 w0 .normal g nx f args w v hp nx := by
  refine ⟨v', w, g, H, hv, Ext.refl _ _ _, fun cs => ?_⟩
  obtain ⟨e, w', fr, ⟨rfl, rfl⟩, st, hf, h1, h2, h3, h4⟩ := h cs
  exact ⟨fr, st, h1, h2, h3, hf, h4⟩

/-- The world holds some number at MaxLen. -/
def I24 (B0 : Nat) (w0 : World) : Prop := 11 < B0 ∧ ∃ m, w0.cell? ⟨11, 0, none⟩ = some (.int .i64 m)
theorem below_cell {B0 : Nat} {w0 w : World} (h : Below B0 w0 w) {b o : Nat} (hb : b < B0) : w.cell? ⟨b, o, none⟩ = w0.cell? ⟨b, o, none⟩ := by
  unfold World.cell?
  simp only [h.block b hb]
theorem I24_lasts : Lasts I24 := fun B0 w0 w ⟨h1, m, h2⟩ hb hs => ⟨by omega, m, by rw [below_cell hb h1]; exact h2⟩

theorem T24_ok : T24.Ok Tryz.prog ∧ T24.Closed := by
  have hlist : ∀ t i, T24.info t = some i → i ∈ Tryz.types.toList ∧ has tyMask t = true ∧ TT.get t = some i := fun t i h => by
    have h : (bif has tyMask t then TT.get t else none) = some i := h
    cases hm : has tyMask t with
    | false => rw [hm] at h; cases h
    | true =>
      rw [hm] at h
      have h : TT.get t = some i := h
      have h2 := h
      rw [TT_eq, ofL_nil_get] at h2
      exact ⟨List.mem_of_getElem? h2, rfl, h⟩
  have hchk : ∀ t i, TT.get t = some i → has tyMask t = true → tyOk i = true ∧ tyClosed T24 i = true := fun t i h hm => by
    have key : (Tryz.types.toList.zipIdx.all fun p => !(has tyMask p.2) || (tyOk p.1 && tyClosed T24 p.1)) = true := by kernel_rfl
    rw [TT_eq, ofL_nil_get] at h
    have := List.all_eq_true.1 key (i, t) (by rw [List.mem_zipIdx_iff_getElem?]; exact h)
    simp only [hm, Bool.not_true, Bool.false_or, Bool.and_eq_true] at this
    exact this
  refine tyEnv (fun t i h => ?_) (fun t h => ?_)
  · obtain ⟨h1, h2, h3⟩ := hlist t i h
    refine ⟨?_, hchk t i h3 h2⟩
    have h4 := TT_get t i h3
    have hlt : t < Tryz.prog.types.size := (Array.getElem?_eq_some_iff.1 h4).1
    show (if t < Tryz.prog.types.size then Tryz.prog.types[t]? else _) = _
    rw [if_pos hlt]; exact h4
  · have h : has eqMask t = true := h
    have hlt : t < 200 := by
      rcases Nat.lt_or_ge t 200 with h' | h'
      · exact h'
      · exfalso
        have : eqMask < 2 ^ t := Nat.lt_of_lt_of_le (show eqMask < 2 ^ 200 by decide) (Nat.pow_le_pow_right (by decide) h')
        unfold has at h
        rw [Nat.testBit_lt_two_pow this] at h; cases h
    have key : ((List.range 200).all fun t => !(has eqMask t) || (!(Tryz.prog.stoodInHeld t) && (!(Tryz.prog.eqGuardType Tryz.prog.depth t) && (match Tryz.prog.underlying t with | some (.struct fs) => fs.toList.all (·.name != "_") | _ => true)))) = true := by kernel_rfl
    have := allRange key hlt
    simp only [h, Bool.not_true, Bool.false_or, Bool.and_eq_true, Bool.not_eq_true'] at this
    refine ⟨this.1, this.2.1, fun fs hu f hf => ?_⟩
    have h3 := this.2.2
    rw [hu] at h3
    have := List.all_eq_true.1 h3 f hf
    simpa using this

theorem F24_ok (f : FuncId) (fn : Func) (h : F24 f = some fn) : Tryz.prog.funcs[f]? = some fn ∧ fnOk 12 fn = true := by
  have h : (bif has fnMask f then FT.get f else none) = some fn := h
  cases hm : has fnMask f with
  | false => rw [hm] at h; cases h
  | true =>
    rw [hm] at h
    have h : FT.get f = some fn := h
    refine ⟨FT_get f fn h, ?_⟩
    rw [FT_eq, ofL_nil_get] at h
    have hlt : f < 496 := by
      have h1 : f < Tryz.funcs.toList.length := (List.getElem?_eq_some_iff.1 h).1
      have h2 : Tryz.funcs.toList.length = 496 := by kernel_rfl
      rw [h2] at h1; exact h1
    have hmem : (fn, f) ∈ Tryz.funcs.toList.zipIdx := by rw [List.mem_zipIdx_iff_getElem?]; exact h
    have use : ∀ lo hi, (Tryz.funcs.toList.zipIdx.all fun p => !(Nat.ble lo p.2 && Nat.blt p.2 hi) || (!(has fnMask p.2) || fnOk 12 p.1)) = true → lo ≤ f → f < hi → fnOk 12 fn = true := fun lo hi key h1 h2 => by
      have := List.all_eq_true.1 key (fn, f) hmem
      simp only [hm, Nat.ble_eq_true_of_le h1, show Nat.blt f hi = true from Nat.ble_eq_true_of_le h2, Bool.and_true, Bool.not_true, Bool.false_or] at this
      exact this
    rcases Nat.lt_or_ge f 85 with h1 | h1
    · exact use _ _ hFn0 (by omega) h1
    rcases Nat.lt_or_ge f 170 with h2 | h2
    · exact use _ _ hFn1 h1 h2
    rcases Nat.lt_or_ge f 255 with h3 | h3
    · exact use _ _ hFn2 h2 h3
    rcases Nat.lt_or_ge f 340 with h4 | h4
    · exact use _ _ hFn3 h3 h4
    rcases Nat.lt_or_ge f 425 with h5 | h5
    · exact use _ _ hFn4 h4 h5
    · exact use _ _ hFn5 h5 (Nat.lt_of_lt_of_le hlt (by decide))
theorem M24_ok (t : TypeId) (n : String) (f : FuncId) (h : M24 t n = some f) : methOk T24 t n f = true := by
  unfold M24 at h
  cases hb : (Nat.beq t 322 && (n == "stopwatch/typing.parts")) with
  | false => rw [hb] at h; cases h
  | true =>
    rw [hb] at h; cases h
    rw [Bool.and_eq_true] at hb
    obtain rfl := beq_eq hb.1
    obtain rfl : n = "stopwatch/typing.parts" := by simpa using hb.2
    kernel_rfl

theorem ok_any (K : FuncId → Option KRun) : EnvOk Tryz.prog 12 ⟨T24, fun f => (F24 f).bind fInfo, M24, K, 0⟩ := envOk T24_ok.1 T24_ok.2 F24_ok M24_ok

theorem kok0 (B0 : Nat) (w0 : World) (hi : I24 B0 w0) : KOk Tryz.prog 12 B0 w0 e0 := by
  intro f kk h
  have h : (bif Nat.beq f 248 then some kCont else none) = some kk := h
  cases hb : Nat.beq f 248 with
  | false => rw [hb] at h; cases h
  | true =>
    rw [hb] at h; cases h
    obtain rfl := beq_eq hb
    refine ⟨⟨Tryz.f248, _, Tryz.func248, rfl, by kernel_rfl⟩, fun l args hp nx g w H hg hl => ?_⟩
    by_cases hshape : ∃ a b, l = [.string a, .string b]
    · obtain ⟨a, b, rfl⟩ := hshape
      cases hlt : Nat.blt (strs a).length 4294967281 with
      | false => exact .inr ⟨fun _ _ => .need 0, fun cs k fb => by simp only [kCont, hlt, cond_false], CallSays.fail fun _ _ => rfl⟩
      | true =>
        refine .inr ⟨fun cs k => k (.bool (Lib.contains (strs a) (strs b))) hp nx cs, fun cs k fb => by simp only [kCont, hlt, cond_true], fun k => .here (.inr ⟨_, hp, nx, fun cs => rfl, ?_⟩)⟩
        have hargs : args = #[.string a, .string b] := by
          obtain ⟨args⟩ := args
          match args, hl with
          | [x, y], hl =>
            have h1 := hl.head
            have h2 := hl.tail.head
            rw [h1.string_inv, h2.string_inv]
          | [], hl => cases hl.1
          | [_], hl => cases hl.1
          | _ :: _ :: _ :: _, hl => cases hl.1
        subst hargs
        obtain ⟨h1, m, h2⟩ := hi
        have hm : w.cell? ⟨11, 0, none⟩ = some (.int .i64 m) := by rw [below_cell H.below h1]; exact h2
        have hs : a.size < 4294967281 := by
          have := Nat.le_of_ble_eq_true hlt
          have e : (strs a).length = a.size := by unfold strs; rw [Array.length_toList]; rfl
          rw [e] at this; exact this
        exact CallLands.of_calls H (.bool _) (Tryz.strings_Contains a b m w hs hm)
    · refine .inr ⟨fun _ _ => .need 0, fun cs k fb => ?_, CallSays.fail fun _ _ => rfl⟩
      show (match l with | [.string a, .string b] => _ | _ => (.need 0 : Res (Nat × St))) = .need 0
      split
      · rename_i a b; exact absurd ⟨a, b, rfl⟩ hshape
      · rfl

/-- One layer more of templates. -/
theorem kok_next {e : Env} (ok : EnvOk Tryz.prog 12 e) (kok : ∀ B0 w0, I24 B0 w0 → KOk Tryz.prog 12 B0 w0 e) {f : FuncId} {fn : Func} {c : Code} (hfn : Tryz.prog.funcs[f]? = some fn) (hb : fn.body = some c) (hn : (fn.name == "runtime.NumGoroutine") = false)
    {tms : List Tmpl} (hold : ∀ tm ∈ tms, ∃ n fuel, holdsT 12 e f n fuel tm = true) (B0 : Nat) (w0 : World) (hi : I24 B0 w0) :
    KOk Tryz.prog 12 B0 w0 { e with K := fun x => bif Nat.beq x f then some (kOfT 12 tms) else e.K x } := by
  intro x kk h
  have h : (bif Nat.beq x f then some (kOfT 12 tms) else e.K x) = some kk := h
  cases hq : Nat.beq x f with
  | false => rw [hq] at h; exact kok B0 w0 hi x kk h
  | true =>
    rw [hq] at h; cases h
    obtain rfl := beq_eq hq
    exact ⟨⟨fn, c, hfn, hb, hn⟩, fun l args hp nx g w H hg hl => kOfT_ok I24_lasts hi ok kok hold l args hp nx g w H hg hl⟩

theorem kok1 : ∀ B0 w0, I24 B0 w0 → KOk Tryz.prog 12 B0 w0 e1 :=
  kok_next (ok_any _) kok0 Tryz.func326 rfl (by kernel_rfl) fun tm h => by
    rcases List.mem_cons.1 h with rfl | h
    · exact ⟨_, _, hClasses⟩
    · cases h
theorem kok2 : ∀ B0 w0, I24 B0 w0 → KOk Tryz.prog 12 B0 w0 e2 :=
  kok_next (ok_any _) kok1 Tryz.func19 rfl (by kernel_rfl) fun tm h => by
    rcases List.mem_cons.1 h with rfl | h
    · exact ⟨_, _, hCourse⟩
    · cases h
theorem kok3 : ∀ B0 w0, I24 B0 w0 → KOk Tryz.prog 12 B0 w0 e3 :=
  kok_next (ok_any _) kok2 Tryz.func50 rfl (by kernel_rfl) fun tm h => by
    simp only [List.mem_cons, List.not_mem_nil, or_false] at h
    rcases h with rfl | rfl | rfl | rfl | rfl
    · exact ⟨_, _, hStarters0⟩
    · exact ⟨_, _, hStarters1⟩
    · exact ⟨_, _, hStarters2⟩
    · exact ⟨_, _, hStarters3⟩
    · exact ⟨_, _, hStarters4⟩
theorem kok4 : ∀ B0 w0, I24 B0 w0 → KOk Tryz.prog 12 B0 w0 e4 :=
  kok_next (ok_any _) kok3 Tryz.func9 rfl (by kernel_rfl) fun tm h => by
    simp only [List.mem_cons, List.not_mem_nil, or_false] at h
    rcases h with rfl | rfl | rfl | rfl
    · exact ⟨_, _, hOf0⟩
    · exact ⟨_, _, hOf1⟩
    · exact ⟨_, _, hOf2⟩
    · exact ⟨_, _, hOf3⟩

theorem kok5 : ∀ B0 w0, I24 B0 w0 → KOk Tryz.prog 12 B0 w0 e5 :=
  kok_next (ok_any _) kok4 Tryz.func4 rfl (by kernel_rfl) fun tm h => by
    rcases List.mem_cons.1 h with rfl | h
    · exact ⟨_, _, hSane⟩
    · cases h

/-- The package variables as the program's text lays them. -/
def Laid24 (w : World) : Prop := ∀ tb ∈ tmClasses0.blocks, ∀ (j : Nat) (v : Value), tb.cs[j]? = some v → w.cell? ⟨tb.num, j, none⟩ = some v

/-- The map of the package variables. -/
def g24 : Gm := ⟨fun b => if b < 12 then some (b, 0) else none, fun _ => none⟩
theorem start24 (w : World) (hl : Laid24 w) (hs : 11 < w.heap.size) : HRel w.heap.size w g24 h24.get 12 w := by
  have Hn : HRel w.heap.size w g24 (Tr.nil : Ht).get 12 w := by
    refine ⟨Below.refl _ _, Nat.le_refl _, fun b rb ro k => ?_, fun b o k => (by cases k), fun b ms k => (by cases k), fun b cs m gr k => (by cases k), fun b1 b2 o1 o2 r r1 r2 _ k => (by cases k), fun b x k => by cases k⟩
    simp only [g24] at k
    split at k
    · cases k; exact ⟨by assumption, by omega⟩
    · cases k
  refine lay0_ok (rbs := fun _ => True) tmClasses0.blocks 0 .nil (by kernel_rfl) Hn (fun rb _ b o r1 k => by cases k) (fun b _ => rfl) (fun tb ht hg => ?_) (fun tb ht rb ro k => ?_)
  · exfalso
    have : (tmClasses0.blocks.all fun tb => !tb.grp) = true := by kernel_rfl
    have := List.all_eq_true.1 this tb ht
    rw [hg] at this; cases this
  · refine ⟨trivial, ?_⟩
    rw [Nat.zero_add] at k ⊢
    simp only [g24] at k
    split at k
    · rename_i hlt
      cases k
      have hc : (tmClasses0.blocks.all fun tb => (tb.cs.all (plainV 4)) && (Nat.beq tb.cs.length 2 && !tb.grp)) = true := by kernel_rfl
      have := List.all_eq_true.1 hc tb ht
      simp only [Bool.and_eq_true, Bool.not_eq_true'] at this
      obtain ⟨c1, c2, c3⟩ := this
      have c2 := beq_eq c2
      have hcell := hl tb ht
      -- the block on the right
      have h1 := hcell 1 tb.cs[1] (List.getElem?_eq_getElem (by omega))
      have hex : ∃ rc el fz, w.heap[tb.num]? = some (.cells rc el fz) ∧ 2 ≤ rc.size := by
        unfold World.cell? at h1
        simp only at h1
        split at h1
        · rename_i c el fz hh
          simp only [Option.isSome_none, Bool.false_eq_true, if_false] at h1
          exact ⟨c, el, fz, hh, by have := getElem?_lt h1; omega⟩
        · cases h1
      obtain ⟨rc, el, fz, hh, hsz⟩ := hex
      refine ⟨_, hh, ⟨by omega, fun i v v' e e' => ?_, (fun k => by cases k), (fun gr k => by rw [c3] at k; cases k), (fun _ => rfl)⟩⟩
      have h2 := hcell i v e
      unfold World.cell? at h2
      simp only [hh, Option.isSome_none, Bool.false_eq_true, if_false] at h2
      rw [Nat.zero_add] at e'
      rw [e'] at h2
      cases h2
      exact VRel.of_plain g24 4 v (List.all_eq_true.1 c1 v (List.mem_of_getElem? e))
    · cases k
theorem glob24 : GlobOk g24 12 := fun i hi => by simp [g24, hi]
end
end Sw

/- Runs of the evaluator on open data. -/
namespace Sw
noncomputable section
open Go Go.RowKit

/-- With enough fuel the evaluator comes to this end. -/
def Runs (e : Env) (fm : Fm) (c : Code) (s : St) (o : Nat) (s' : St) : Prop := ∃ n0, ∀ n, n0 ≤ n → ∀ cs, ev e n fm c (s.at cs) = .ok (o, s'.at cs)
def RunsCall (e : Env) (f : FuncId) (l : List Value) (hp : Ht) (nx : Nat) (v : Value) (hp' : Ht) (nx' : Nat) : Prop :=
  ∃ n0, ∀ n, n0 ≤ n → ∀ cs k, enterF e (ev e n) f l hp nx cs k = k v hp' nx' cs

theorem ev_succ (e : Env) (n : Nat) (fm : Fm) (c : Code) (s : St) : ev e (n + 1) fm c s = evF c e (ev e n) fm s := rfl
section
variable {e : Env} {fm : Fm} {s s1 s2 : St} {o : Nat}

/-- One step of fuel: what the evaluator's function says. -/
theorem Runs.step {c : Code} (h : ∃ n0, ∀ n, n0 ≤ n → ∀ cs, evF c e (ev e n) fm (s.at cs) = .ok (o, s1.at cs)) : Runs e fm c s o s1 := by
  obtain ⟨n0, h⟩ := h
  refine ⟨n0 + 1, fun n hn cs => ?_⟩
  obtain ⟨m, rfl⟩ : ∃ m, n = m + 1 := ⟨n - 1, by omega⟩
  rw [ev_succ]
  exact h m (by omega) cs
theorem Runs.skip : Runs e fm .skip s 0 s := .step ⟨0, fun _ _ _ => rfl⟩
theorem Runs.exit {i : Nat} : Runs e fm (.exit i) s (i + 2) s := .step ⟨0, fun _ _ _ => rfl⟩
theorem Runs.ret : Runs e fm .ret s 1 s := .step ⟨0, fun _ _ _ => rfl⟩
theorem evF_seq (a b : Code) (e : Env) (rec : Rec) (fm : Fm) (s : St) : evF (.seq a b) e rec fm s = (match rec fm a s with
    | .ok (o, s1) => (match o with
      | 0 => rec fm b s1
      | o + 1 => .ok (o + 1, s1))
    | .need m => .need m) := rfl
theorem Runs.seq {a b : Code} (h : Runs e fm a s 0 s1) (k : Runs e fm b s1 o s2) : Runs e fm (.seq a b) s o s2 := by
  obtain ⟨n1, h⟩ := h
  obtain ⟨n2, k⟩ := k
  refine .step ⟨max n1 n2, fun n hn cs => ?_⟩
  rw [evF_seq, h n (by omega) cs]
  exact k n (by omega) cs
theorem Runs.seqLeave {a b : Code} (h : Runs e fm a s (o + 1) s1) : Runs e fm (.seq a b) s (o + 1) s1 := by
  obtain ⟨n1, h⟩ := h
  refine .step ⟨n1, fun n hn cs => ?_⟩
  rw [evF_seq, h n hn cs]
theorem evF_cond (x : Operand) (a b : Code) (e : Env) (rec : Rec) (fm : Fm) (s : St) : evF (.cond x a b) e rec fm s = (match (opd x).run s.to with
      | .bool c => (match c with
        | true => rec fm a s
        | false => rec fm b s)
      | _ => .need 0) := rfl
theorem Runs.cond {x : Operand} {a b : Code} {t : Bool} (hx : (opd x).run s.to = .bool t) (h : Runs e fm (if t then a else b) s o s1) : Runs e fm (.cond x a b) s o s1 := by
  obtain ⟨n1, h⟩ := h
  refine .step ⟨n1, fun n hn cs => ?_⟩
  have hx : (opd x).run (s.at cs).to = .bool t := hx
  rw [evF_cond, hx]
  cases t with
  | true => exact h n hn cs
  | false => exact h n hn cs
theorem Runs.condT {x : Operand} {a b : Code} (hx : (opd x).run s.to = .bool true) (h : Runs e fm a s o s1) : Runs e fm (.cond x a b) s o s1 := .cond hx h
theorem Runs.condF {x : Operand} {a b : Code} (hx : (opd x).run s.to = .bool false) (h : Runs e fm b s o s1) : Runs e fm (.cond x a b) s o s1 := .cond hx h
theorem evF_block (id : Nat) (b : Code) (e : Env) (rec : Rec) (fm : Fm) (s : St) : evF (.block id b) e rec fm s = (match rec fm b s with
    | .ok (o, s1) => bif Nat.beq o (id + 2) then .ok (0, s1) else .ok (o, s1)
    | .need m => .need m) := rfl
theorem Runs.blockExit {id : Nat} {b : Code} (h : Runs e fm b s (id + 2) s1) : Runs e fm (.block id b) s 0 s1 := by
  obtain ⟨n1, h⟩ := h
  refine .step ⟨n1, fun n hn cs => ?_⟩
  rw [evF_block, h n hn cs]
  simp only [Nat.beq_refl, cond_true]
theorem Runs.block {id : Nat} {b : Code} (h : Runs e fm b s o s1) (hne : Nat.beq o (id + 2) = false) : Runs e fm (.block id b) s o s1 := by
  obtain ⟨n1, h⟩ := h
  refine .step ⟨n1, fun n hn cs => ?_⟩
  rw [evF_block, h n hn cs]
  simp only [hne, cond_false]
theorem evF_loop (b : Code) (e : Env) (rec : Rec) (fm : Fm) (s : St) : evF (.loop b) e rec fm s = (match rec fm b s with
    | .ok (o, s1) => (match o with
      | 0 => rec fm (.loop b) s1
      | o + 1 => .ok (o + 1, s1))
    | .need m => .need m) := rfl
theorem Runs.loop {b : Code} (h : Runs e fm b s 0 s1) (k : Runs e fm (.loop b) s1 o s2) : Runs e fm (.loop b) s o s2 := by
  obtain ⟨n1, h⟩ := h
  obtain ⟨n2, k⟩ := k
  refine .step ⟨max n1 n2, fun n hn cs => ?_⟩
  rw [evF_loop, h n (by omega) cs]
  exact k n (by omega) cs
theorem Runs.loopLeave {b : Code} (h : Runs e fm b s (o + 1) s1) : Runs e fm (.loop b) s (o + 1) s1 := by
  obtain ⟨n1, h⟩ := h
  refine .step ⟨n1, fun n hn cs => ?_⟩
  rw [evF_loop, h n hn cs]
theorem Runs.scope {b : Code} (h : Runs e fm b s o s1) : Runs e fm (.scope b) s o s1 := by
  obtain ⟨n1, h⟩ := h
  exact .step ⟨n1, fun n hn cs => h n hn cs⟩
/-- A region in the order of its text: with enough fuel the operations come to this state. -/
theorem Runs.region {id : Nat} {ops : Array Oper} (h : ∃ n0, ∀ n, n0 ≤ n → ∀ cs, evOps (compOps ops.toList ops.toList) e (ev e n) fm (s.at cs) = .ok (0, s1.at cs)) : Runs e fm (.region id ops false) s 0 s1 := by
  obtain ⟨n1, h⟩ := h
  exact .step ⟨n1, fun n hn cs => h n hn cs⟩
/-- Without calls the fuel plays no part. -/
theorem Runs.region0 {id : Nat} {ops : Array Oper} (h : ∀ rec cs, evOps (compOps ops.toList ops.toList) e rec fm (s.at cs) = .ok (0, s1.at cs)) : Runs e fm (.region id ops false) s 0 s1 :=
  .region ⟨0, fun n _ cs => h (ev e n) cs⟩
theorem Runs.draw {id : Nat} {ops : Array Oper} (h : ∃ n0, ∀ n, n0 ≤ n → ∀ cs, evStages (stC ops.toList (mkPlan ops.toList).stages) e (ev e n) fm (s.at cs) = .ok (0, s1.at cs)) : Runs e fm (.region id ops true) s 0 s1 := by
  obtain ⟨n1, h⟩ := h
  exact .step ⟨n1, fun n hn cs => h n hn cs⟩
theorem Runs.draw0 {id : Nat} {ops : Array Oper} (h : ∀ rec cs, evStages (stC ops.toList (mkPlan ops.toList).stages) e rec fm (s.at cs) = .ok (0, s1.at cs)) : Runs e fm (.region id ops true) s 0 s1 :=
  .draw ⟨0, fun n _ cs => h (ev e n) cs⟩

/-- A call, by the body's run. -/
theorem RunsCall.of_body {f : FuncId} {fi : FInfo} {l : List Value} {hp : Ht} {nx : Nat} {t : Tm} {s' : St} {vs : List Value} {o : Nat} (hk : e.K f = none) (hf : e.F f = some fi) (hl : Nat.ble l.length fi.nt = true) (ht : setArgs argPl l Tm.undef = some t)
    (hb : Runs e ⟨f, fi.nt, none⟩ fi.body ⟨t, [], hp, nx, []⟩ o s') (ho : Nat.ble o 1 = true) (hd : s'.ds = []) (hr : getRes e.T s'.hp.get s'.to fi.res = some vs) : RunsCall e f l hp nx (tupleOf vs) s'.hp s'.nx := by
  obtain ⟨n0, hb⟩ := hb
  refine ⟨n0, fun n hn cs k => ?_⟩
  have hb := hb n hn cs
  simp only [enterF, hk, enterN, hf, enterB, hl, cond_true, ht]
  have hb : ev e n ⟨f, fi.nt, none⟩ fi.body ⟨t, [], hp, nx, cs⟩ = .ok (o, s'.at cs) := hb
  rw [hb]
  simp only [St.at, ho, cond_true, hd, unwindF, resF, hr]
/-- A call that a template answers. -/
theorem RunsCall.of_tmpl {ng : Nat} {f : FuncId} {tms : List Tmpl} {l : List Value} {hp hp' : Ht} {nx nx' : Nat} {v : Value} (hk : e.K f = some (kOfT ng tms)) (hu : useTs ng tms l hp nx = some (v, hp', nx')) : RunsCall e f l hp nx v hp' nx' :=
  ⟨0, fun n _ cs k => by simp only [enterF, hk, kOfT, hu]⟩
end

/-! operations, made ready -/
section
variable {all : List Oper} {e : Env} {rec : Rec} {fm : Fm} {to : Tm} {ds : List Deferred} {hp : Ht} {nx : Nat} {cs : List Nat} {k : St → R} {d : Option Tmp} {ty : TypeId} {pos : String} {aft : Array Edge}
theorem sy_move {x : Operand} : (compOp all ⟨d, .move x, ty, pos, aft, none⟩).run e rec fm to ds hp nx cs k = k ⟨(dstC d).run to ((opd x).run to), ds, hp, nx, cs⟩ := rfl
theorem sy_assign {x : Operand} : (compOp all ⟨d, .assign x, ty, pos, aft, none⟩).run e rec fm to ds hp nx cs k = k ⟨(dstC d).run to ((opd x).run to), ds, hp, nx, cs⟩ := rfl
theorem sy_v {v : Value} {op : Op} {o : Option Value} (h : (compOp all ⟨d, op, ty, pos, aft, none⟩).run e rec fm to ds hp nx cs k = optV o (fun v => k ⟨(dstC d).run to v, ds, hp, nx, cs⟩)) (ho : o = some v) :
    (compOp all ⟨d, op, ty, pos, aft, none⟩).run e rec fm to ds hp nx cs k = k ⟨(dstC d).run to v, ds, hp, nx, cs⟩ := by rw [h, ho]; rfl
theorem sy_load {t : TypeId} {a : Operand} : (compOp all ⟨d, .load t a, ty, pos, aft, none⟩).run e rec fm to ds hp nx cs k = optV (eLoad e.T hp.get t ((opd a).run to)) (fun v => k ⟨(dstC d).run to v, ds, hp, nx, cs⟩) := rfl
theorem sy_fieldAddr {t : TypeId} {a : Operand} {f : Nat} : (compOp all ⟨d, .fieldAddr t a f, ty, pos, aft, none⟩).run e rec fm to ds hp nx cs k = optV (eFieldAddr e.T t ((opd a).run to) f) (fun v => k ⟨(dstC d).run to v, ds, hp, nx, cs⟩) := rfl
theorem sy_indexAddr {t : TypeId} {a i : Operand} : (compOp all ⟨d, .indexAddr t a i, ty, pos, aft, none⟩).run e rec fm to ds hp nx cs k = optV (eIndexAddr e.T t ((opd a).run to) ((opd i).run to)) (fun v => k ⟨(dstC d).run to v, ds, hp, nx, cs⟩) := rfl
theorem sy_binOp {b : BinOp} {t u : TypeId} {x y : Operand} : (compOp all ⟨d, .binOp b t x y u, ty, pos, aft, none⟩).run e rec fm to ds hp nx cs k = optV (eBin e.T b t x y ((opd x).run to) ((opd y).run to)) (fun v => k ⟨(dstC d).run to v, ds, hp, nx, cs⟩) := rfl
theorem sy_unOp {b : UnOp} {t : TypeId} {x : Operand} : (compOp all ⟨d, .unOp b t x, ty, pos, aft, none⟩).run e rec fm to ds hp nx cs k = optV (eUn b ((opd x).run to)) (fun v => k ⟨(dstC d).run to v, ds, hp, nx, cs⟩) := rfl
theorem sy_extract {x : Operand} {i : Nat} : (compOp all ⟨d, .extract x i, ty, pos, aft, none⟩).run e rec fm to ds hp nx cs k = optV (eExtract ((opd x).run to) i) (fun v => k ⟨(dstC d).run to v, ds, hp, nx, cs⟩) := rfl
theorem sy_lookup {t : TypeId} {x i : Operand} {b : Bool} : (compOp all ⟨d, .lookup t x i b, ty, pos, aft, none⟩).run e rec fm to ds hp nx cs k = optV (eLookup e.T hp.get t ((opd x).run to) ((opd i).run to) b) (fun v => k ⟨(dstC d).run to v, ds, hp, nx, cs⟩) := rfl
theorem sy_box {t : TypeId} {x : Operand} : (compOp all ⟨d, .box t x, ty, pos, aft, none⟩).run e rec fm to ds hp nx cs k = keOf (dstC d).run e.low to ds hp nx cs k (eNew nx ((opd x).run to).cells.toList) := rfl
end
theorem opd_const (v : Value) (to : Tm) : (opd (.const v)).run to = v := rfl
theorem opd_func (f : FuncId) (to : Tm) : (opd (.func f)).run to = .func (.func f) #[] #[] := rfl
theorem compOps_cons (all : List Oper) (o : Oper) (os : List Oper) : compOps all (o :: os) = compOp all o :: compOps all os := rfl
theorem compOps_nil (all : List Oper) : compOps all [] = [] := rfl
theorem evOps_at (c : Cl) (l : List Cl) (e : Env) (rec : Rec) (fm : Fm) (s : St) (cs : List Nat) : evOps (c :: l) e rec fm (s.at cs) = c.run e rec fm s.to s.ds s.hp s.nx cs fun s => evOps l e rec fm s := rfl
theorem evOps_mk (c : Cl) (l : List Cl) (e : Env) (rec : Rec) (fm : Fm) (to : Tm) (ds : List Deferred) (hp : Ht) (nx : Nat) (cs : List Nat) : evOps (c :: l) e rec fm ⟨to, ds, hp, nx, cs⟩ = c.run e rec fm to ds hp nx cs fun s => evOps l e rec fm s := rfl
end
end Sw

/- Runs with what holds at their end. -/
namespace Sw
noncomputable section
open Go Go.RowKit

/-- The code comes to an end, and this holds there. -/
def WP (e : Env) (fm : Fm) (c : Code) (s : St) (Q : Nat → St → Prop) : Prop := ∃ o s', Runs e fm c s o s' ∧ Q o s'
/-- One operation comes to an end, and this holds there. -/
def WC (e : Env) (fm : Fm) (c : Cl) (s : St) (Q : St → Prop) : Prop := ∃ s1, (∃ n0, ∀ n, n0 ≤ n → ∀ cs k, c.run e (ev e n) fm s.to s.ds s.hp s.nx cs k = k (s1.at cs)) ∧ Q s1
def WO (e : Env) (fm : Fm) (l : List Cl) (s : St) (Q : St → Prop) : Prop := ∃ s1, (∃ n0, ∀ n, n0 ≤ n → ∀ cs, evOps l e (ev e n) fm (s.at cs) = .ok (0, s1.at cs)) ∧ Q s1
def WN (e : Env) (fm : Fm) (l : List Cl) (s : St) (Q : St → Prop) : Prop := ∃ s1, (∃ n0, ∀ n, n0 ≤ n → ∀ cs k, evNe l e (ev e n) fm (s.at cs) k = k (s1.at cs)) ∧ Q s1
def WD (e : Env) (fm : Fm) (l : List SCl) (s : St) (Q : St → Prop) : Prop := ∃ s1, (∃ n0, ∀ n, n0 ≤ n → ∀ cs, evStages l e (ev e n) fm (s.at cs) = .ok (0, s1.at cs)) ∧ Q s1
def Chks (e : Env) (l : List Chk) (s : St) : Prop := ∀ cs k, evChk l e (s.at cs) k = k
/-- A call comes to an end, and this holds there. -/
def WF (e : Env) (f : FuncId) (l : List Value) (hp : Ht) (nx : Nat) (Q : Value → Ht → Nat → Prop) : Prop := ∃ v hp' nx', RunsCall e f l hp nx v hp' nx' ∧ Q v hp' nx'

section
variable {e : Env} {fm : Fm} {s s1 : St} {Q : St → Prop} {W : Nat → St → Prop}

theorem WP.mono {c : Code} {W' : Nat → St → Prop} (h : WP e fm c s W) (k : ∀ o s, W o s → W' o s) : WP e fm c s W' := by
  obtain ⟨o, s', h1, h2⟩ := h; exact ⟨o, s', h1, k _ _ h2⟩
theorem WF.mono {f : FuncId} {l : List Value} {hp : Ht} {nx : Nat} {A B : Value → Ht → Nat → Prop} (h : WF e f l hp nx A) (k : ∀ v hp nx, A v hp nx → B v hp nx) : WF e f l hp nx B := by
  obtain ⟨v, hp', nx', h1, h2⟩ := h; exact ⟨v, hp', nx', h1, k _ _ _ h2⟩
theorem WP.seq {a b : Code} (h : WP e fm a s fun o s1 => match o with
    | 0 => WP e fm b s1 W
    | o + 1 => W (o + 1) s1) : WP e fm (.seq a b) s W := by
  obtain ⟨o, s1, h1, h2⟩ := h
  cases o with
  | zero => obtain ⟨o2, s2, h3, h4⟩ := h2; exact ⟨o2, s2, h1.seq h3, h4⟩
  | succ o => exact ⟨o + 1, s1, h1.seqLeave, h2⟩
theorem WP.skip (h : W 0 s) : WP e fm .skip s W := ⟨0, s, .skip, h⟩
theorem WP.ret (h : W 1 s) : WP e fm .ret s W := ⟨1, s, .ret, h⟩
theorem WP.exit {i : Nat} (h : W (i + 2) s) : WP e fm (.exit i) s W := ⟨_, s, .exit, h⟩
theorem WP.cond {x : Operand} {a b : Code} (t : Bool) (hx : (opd x).run s.to = .bool t) (h1 : t = true → WP e fm a s W) (h2 : t = false → WP e fm b s W) : WP e fm (.cond x a b) s W := by
  cases t with
  | true => obtain ⟨o, s', h, k⟩ := h1 rfl; exact ⟨o, s', .condT hx h, k⟩
  | false => obtain ⟨o, s', h, k⟩ := h2 rfl; exact ⟨o, s', .condF hx h, k⟩
theorem WP.block {id : Nat} {b : Code} (h : WP e fm b s fun o s1 => W (bif Nat.beq o (id + 2) then 0 else o) s1) : WP e fm (.block id b) s W := by
  obtain ⟨o, s1, h1, h2⟩ := h
  cases hb : Nat.beq o (id + 2) with
  | true =>
    rw [hb] at h2
    obtain rfl := Nat.eq_of_beq_eq_true hb
    exact ⟨0, s1, .blockExit h1, h2⟩
  | false => rw [hb] at h2; exact ⟨o, s1, .block h1 hb, h2⟩
/-- A loop, by a number that goes down. -/
theorem WP.loop {b : Code} (I : Nat → St → Prop) (hb : ∀ m s, I m s → WP e fm b s fun o s1 => match o with
    | 0 => ∃ m', m' < m ∧ I m' s1
    | o + 1 => W (o + 1) s1) : ∀ (m : Nat) {s : St}, I m s → WP e fm (.loop b) s W := by
  intro m
  induction m using Nat.strongRecOn with
  | _ m ih =>
    intro s hs
    obtain ⟨o, s1, h1, h2⟩ := hb m s hs
    cases o with
    | zero =>
      obtain ⟨m', hm, hi⟩ := h2
      obtain ⟨o2, s2, h3, h4⟩ := ih m' hm hi
      exact ⟨o2, s2, .loop h1 h3, h4⟩
    | succ o => exact ⟨o + 1, s1, .loopLeave h1, h2⟩
theorem WP.region {id : Nat} {ops : Array Oper} (h : WO e fm (compOps ops.toList ops.toList) s (W 0)) : WP e fm (.region id ops false) s W := by
  obtain ⟨s1, h1, h2⟩ := h; exact ⟨0, s1, .region h1, h2⟩
theorem WP.draw {id : Nat} {ops : Array Oper} (h : WD e fm (stC ops.toList (mkPlan ops.toList).stages) s (W 0)) : WP e fm (.region id ops true) s W := by
  obtain ⟨s1, h1, h2⟩ := h; exact ⟨0, s1, .draw h1, h2⟩
theorem WO.nil {all : List Oper} (h : Q s) : WO e fm (compOps all []) s Q := ⟨s, ⟨0, fun _ _ _ => rfl⟩, h⟩
theorem WO.cons {all : List Oper} {o : Oper} {os : List Oper} (h : WC e fm (compOp all o) s fun s1 => WO e fm (compOps all os) s1 Q) : WO e fm (compOps all (o :: os)) s Q := by
  obtain ⟨s1, ⟨n1, h1⟩, s2, ⟨n2, h2⟩, q⟩ := h
  exact ⟨s2, ⟨max n1 n2, fun n hn cs => by rw [compOps_cons, evOps_at, h1 n (by omega)]; exact h2 n (by omega) cs⟩, q⟩
theorem WN.nil (h : Q s) : WN e fm [] s Q := ⟨s, ⟨0, fun _ _ _ _ => rfl⟩, h⟩
theorem evNe_at (c : Cl) (l : List Cl) (e : Env) (rec : Rec) (fm : Fm) (s : St) (cs : List Nat) (k : St → R) : evNe (c :: l) e rec fm (s.at cs) k = c.run e rec fm s.to s.ds s.hp s.nx cs fun s => evNe l e rec fm s k := rfl
theorem WN.cons {c : Cl} {l : List Cl} (h : WC e fm c s fun s1 => WN e fm l s1 Q) : WN e fm (c :: l) s Q := by
  obtain ⟨s1, ⟨n1, h1⟩, s2, ⟨n2, h2⟩, q⟩ := h
  exact ⟨s2, ⟨max n1 n2, fun n hn cs k => by rw [evNe_at, h1 n (by omega)]; exact h2 n (by omega) cs k⟩, q⟩
theorem evStages_some (ne : List Cl) (chk : List Chk) (c : Cl) (ss : List SCl) (e : Env) (rec : Rec) (fm : Fm) (s : St) : evStages (⟨ne, chk, some c⟩ :: ss) e rec fm s =
    evNe ne e rec fm s (fun st1 => evChk chk e st1 (c.run e rec fm st1.to st1.ds st1.hp st1.nx st1.cs (fun st2 => evStages ss e rec fm st2))) := rfl
theorem evStages_none (ne : List Cl) (chk : List Chk) (ss : List SCl) (e : Env) (rec : Rec) (fm : Fm) (s : St) : evStages (⟨ne, chk, none⟩ :: ss) e rec fm s =
    evNe ne e rec fm s (fun st1 => evChk chk e st1 (.ok (0, st1))) := rfl
theorem WD.eff {ne : List Cl} {chk : List Chk} {c : Cl} {ss : List SCl} (h : WN e fm ne s fun s1 => Chks e chk s1 ∧ WC e fm c s1 fun s2 => WD e fm ss s2 Q) : WD e fm (⟨ne, chk, some c⟩ :: ss) s Q := by
  obtain ⟨s1, ⟨n1, h1⟩, hk, s2, ⟨n2, h2⟩, s3, ⟨n3, h3⟩, q⟩ := h
  refine ⟨s3, ⟨max n1 (max n2 n3), fun n hn cs => ?_⟩, q⟩
  rw [evStages_some, h1 n (by omega), hk]
  show c.run e (ev e n) fm s1.to s1.ds s1.hp s1.nx cs _ = _
  rw [h2 n (by omega)]
  exact h3 n (by omega) cs
theorem WD.last {ne : List Cl} {chk : List Chk} {ss : List SCl} (h : WN e fm ne s fun s1 => Chks e chk s1 ∧ Q s1) : WD e fm (⟨ne, chk, none⟩ :: ss) s Q := by
  obtain ⟨s1, ⟨n1, h1⟩, hk, q⟩ := h
  refine ⟨s1, ⟨n1, fun n hn cs => ?_⟩, q⟩
  rw [evStages_none, h1 n hn, hk]
theorem Chks.nil : Chks e [] s := fun _ _ => rfl
theorem Chks.cons {c : Chk} {l : List Chk} (h : ∀ k, c.run e.T s.hp s.nx s.to k = k) (hl : Chks e l s) : Chks e (c :: l) s := fun cs k => by
  have : evChk (c :: l) e (s.at cs) k = c.run e.T s.hp s.nx s.to (evChk l e (s.at cs) k) := rfl
  rw [this, h, hl]
end

section
variable {e : Env} {fm : Fm} {c : Cl} {to : Tm} {ds : List Deferred} {hp : Ht} {nx : Nat} {cs0 : List Nat} {Q : St → Prop}
/-- A value is put into a temporary. -/
theorem WC.val (d : Nat) (v : Value) (h : ∀ rec cs k, c.run e rec fm to ds hp nx cs k = k ⟨to.set d v, ds, hp, nx, cs⟩) (q : Q ⟨to.set d v, ds, hp, nx, cs0⟩) : WC e fm c ⟨to, ds, hp, nx, cs0⟩ Q :=
  ⟨⟨to.set d v, ds, hp, nx, cs0⟩, ⟨0, fun n _ cs k => h (ev e n) cs k⟩, q⟩
theorem WC.opt (d : Nat) (o : Option Value) {v : Value} (h : ∀ rec cs k, c.run e rec fm to ds hp nx cs k = optV o (fun v => k ⟨to.set d v, ds, hp, nx, cs⟩)) (ho : o = some v) (q : Q ⟨to.set d v, ds, hp, nx, cs0⟩) : WC e fm c ⟨to, ds, hp, nx, cs0⟩ Q :=
  .val d v (fun rec cs k => by rw [h, ho]; rfl) q
def setAll : Ups → Ht → Ht
  | [], h => h
  | (b, o) :: us, h => setAll us (h.set b o)
theorem updT0 : ∀ (us : Ups) (h : Ht), updT 0 us h = some (setAll us h)
  | [], h => rfl
  | (b, o) :: us, h => by
    show (bif Nat.ble 0 b then updT 0 us (h.set b o) else none) = _
    rw [Nat.ble_eq_true_of_le (Nat.zero_le b), cond_true, updT0 us]; rfl
/-- An operation that changes the heap. -/
theorem WC.eff (d : Nat) (v : Value) (ups : Ups) (m : Nat) (hl : e.low = 0) (h : ∀ rec cs k, c.run e rec fm to ds hp nx cs k = keOf (fun t v => t.set d v) e.low to ds hp nx cs k (v, ups, m)) (q : Q ⟨to.set d v, ds, setAll ups hp, nx + m, cs0⟩) : WC e fm c ⟨to, ds, hp, nx, cs0⟩ Q :=
  ⟨⟨to.set d v, ds, setAll ups hp, nx + m, cs0⟩, ⟨0, fun n _ cs k => by show c.run e (ev e n) fm to ds hp nx cs k = _; rw [h (ev e n) cs k, hl]; simp only [keOf, updT0, St.at]⟩, q⟩
theorem WC.effO (d : Nat) (o : Option Eff) {v : Value} {ups : Ups} {m : Nat} (hl : e.low = 0) (h : ∀ rec cs k, c.run e rec fm to ds hp nx cs k = optE o (keOf (fun t v => t.set d v) e.low to ds hp nx cs k)) (ho : o = some (v, ups, m)) (q : Q ⟨to.set d v, ds, setAll ups hp, nx + m, cs0⟩) : WC e fm c ⟨to, ds, hp, nx, cs0⟩ Q :=
  .eff d v ups m hl (fun rec cs k => by rw [h, ho]; rfl) q
/-- A builtin that changes the heap. -/
theorem WC.biO (d : Nat) (o : Option Eff) {v : Value} {ups : Ups} {m : Nat} (hl : e.low = 0) (h : ∀ rec cs k, c.run e rec fm to ds hp nx cs k = optE o (fun f => match f with
      | (v, ups, m) => match updT e.low ups hp with
        | some h => k ⟨to.set d v, ds, h, nx + m, cs⟩
        | none => .need 0)) (ho : o = some (v, ups, m)) (q : Q ⟨to.set d v, ds, setAll ups hp, nx + m, cs0⟩) : WC e fm c ⟨to, ds, hp, nx, cs0⟩ Q :=
  ⟨⟨to.set d v, ds, setAll ups hp, nx + m, cs0⟩, ⟨0, fun n _ cs k => by show c.run e (ev e n) fm to ds hp nx cs k = _; rw [h (ev e n) cs k, ho, hl]; simp only [optE, updT0, St.at]⟩, q⟩
/-- A call. -/
theorem WC.call (d : Nat) (f : FuncId) (l : List Value) (h : ∀ rec cs k, c.run e rec fm to ds hp nx cs k = enterF e rec f l hp nx cs (fun v hp nx cs => k ⟨to.set d v, ds, hp, nx, cs⟩))
    (hf : WF e f l hp nx fun v hp nx => Q ⟨to.set d v, ds, hp, nx, cs0⟩) : WC e fm c ⟨to, ds, hp, nx, cs0⟩ Q := by
  obtain ⟨v, hp', nx', ⟨n0, h1⟩, q⟩ := hf
  exact ⟨⟨to.set d v, ds, hp', nx', cs0⟩, ⟨n0, fun n hn cs k => by show c.run e (ev e n) fm to ds hp nx cs k = _; rw [h (ev e n) cs k, h1 n hn]; rfl⟩, q⟩
theorem WF.body {f : FuncId} {fi : FInfo} {l : List Value} {t : Tm} {R : Value → Ht → Nat → Prop} (hk : e.K f = none) (hf : e.F f = some fi) (hl : Nat.ble l.length fi.nt = true) (ht : setArgs argPl l Tm.undef = some t)
    (hb : WP e ⟨f, fi.nt, none⟩ fi.body ⟨t, [], hp, nx, []⟩ fun o s' => Nat.ble o 1 = true ∧ s'.ds = [] ∧ ∃ vs, getRes e.T s'.hp.get s'.to fi.res = some vs ∧ R (tupleOf vs) s'.hp s'.nx) : WF e f l hp nx R := by
  obtain ⟨o, s', h1, h2, h3, vs, h4, h5⟩ := hb
  exact ⟨_, _, _, .of_body hk hf hl ht h1 h2 h3 h4, h5⟩
theorem WF.tmpl {ng : Nat} {f : FuncId} {tms : List Tmpl} {l : List Value} {v : Value} {hp' : Ht} {nx' : Nat} {R : Value → Ht → Nat → Prop} (hk : e.K f = some (kOfT ng tms)) (hu : useTs ng tms l hp nx = some (v, hp', nx')) (q : R v hp' nx') : WF e f l hp nx R :=
  ⟨_, _, _, .of_tmpl hk hu, q⟩
end

/-! values -/
theorem eLoad_one {T : Ty} {hp : Hp} {t : TypeId} {b o : Nat} {cells : List Value} {m : CMeta} {v : Value} (ha : T.agg t = some false) (hb : hp b = some (.cells cells m)) (hc : cells[o]? = some v) : eLoad T hp t (.pointer (some ⟨b, o, none⟩)) = some v := by
  simp only [eLoad, hb, ha, hc]
theorem eLoad_agg {T : Ty} {hp : Hp} {t : TypeId} {b o n : Nat} {cells l : List Value} {m : CMeta} (ha : T.agg t = some true) (hs : T.size t = some n) (hb : hp b = some (.cells cells m)) (hc : takeX n (cells.drop o) = some l) : eLoad T hp t (.pointer (some ⟨b, o, none⟩)) = some (.agg l.toArray) := by
  simp only [eLoad, hb, ha, hs, Option.bind_some, hc, Option.map_some]
theorem eIndexAddr_sl {T : Ty} {t el : TypeId} {b o len c i s : Nat} {k : IntKind} (hu : T.und t = some (.slice el)) (hs : T.size el = some s) (hi : i < len) : eIndexAddr T t (.slice (some ⟨b, o, none⟩) len c) (.int k (.ofNat i)) = some (.pointer (some ⟨b, o + i * s, none⟩)) := by
  simp only [eIndexAddr, hu, inRange, blt_iff.2 hi, cond_true, hs, Option.map_some, Int.toNat]
theorem vEqs_refl {f : Value → Value → Bool} : ∀ (l : List Value), (∀ v ∈ l, f v v = true) → vEqs f l l = true
  | [], _ => rfl
  | x :: xs, h => by
    simp only [vEqs, h x (List.mem_cons_self ..), vEqs_refl xs (fun v hv => h v (List.mem_cons_of_mem _ hv)), Bool.and_true]
theorem vEq_int (n : Nat) (k : IntKind) (i : Int) : vEq n (.int k i) (.int k i) = true := by
  have h1 : sameK k k = true := by cases k <;> rfl
  have h2 : eqI i i = true := eqI_iff.2 rfl
  cases n <;> simp only [vEq, h1, h2, Bool.and_true]
theorem vEq_ptr (n b o : Nat) : vEq n (.pointer (some ⟨b, o, none⟩)) (.pointer (some ⟨b, o, none⟩)) = true := by
  cases n <;> simp only [vEq, Nat.beq_refl, Bool.and_true]
theorem vEq_sl (n b o l c : Nat) : vEq n (.slice (some ⟨b, o, none⟩) l c) (.slice (some ⟨b, o, none⟩) l c) = true := by
  cases n <;> simp only [vEq, Nat.beq_refl, Bool.and_true]
theorem vEq_nilsl (n l c : Nat) : vEq n (.slice none l c) (.slice none l c) = true := by
  cases n <;> simp only [vEq, Nat.beq_refl, Bool.and_true]
theorem vEq_agg (n : Nat) (x : Array Value) (h : ∀ v ∈ x.toList, vEq n v v = true) : vEq (n + 1) (.agg x) (.agg x) = true := by
  simp only [vEq, vEqs_refl _ h]
theorem Tr.get_same (t : Ht) (n : Nat) (o : Option (AObj Tm)) : (t.set n o).get n = o := by rw [Tr.get_set]; simp [Hp.set]
theorem Tr.get_other (t : Ht) {n m : Nat} (o : Option (AObj Tm)) (h : m ≠ n) : (t.set n o).get m = t.get m := by rw [Tr.get_set]; simp [Hp.set, h]
/-- What stays of a heap. -/
def HE (B : Nat) (hp hp' : Ht) : Prop := ∀ b, b < B → hp'.get b = hp.get b
theorem HE.refl (B : Nat) (hp : Ht) : HE B hp hp := fun _ _ => rfl
theorem HE.trans {B B' : Nat} {h1 h2 h3 : Ht} (a : HE B h1 h2) (b : HE B' h2 h3) (hb : B ≤ B') : HE B h1 h3 := fun x hx => (b x (by omega)).trans (a x hx)
theorem HE.set {B n : Nat} (hp : Ht) (o : Option (AObj Tm)) (h : B ≤ n) : HE B hp (hp.set n o) := fun b hb => Tr.get_other _ _ (by omega)
theorem HE.get {B b : Nat} {h1 h2 : Ht} (a : HE B h1 h2) {o : Option (AObj Tm)} (h : h1.get b = o) (hb : b < B) : h2.get b = o := (a b hb).trans h

/-- A slice of l elements that holds these cells, made since B, with no room beyond. -/
inductive Sl (B size : Nat) (hp : Ht) (nx : Nat) : Value → Nat → List Value → Prop where
  | nil : Sl B size hp nx (.slice none 0 0) 0 []
  | plain {b l : Nat} {xs : List Value} {m : CMeta} (hb : hp.get b = some (.cells xs m)) (hm : m.grp = none) (h : b < nx) (h0 : B ≤ b) (hl : xs.length = l * size) : Sl B size hp nx (.slice (some ⟨b, 0, none⟩) l l) l xs
  | grown {b l gr : Nat} {xs : List Value} {ms : List Mem} (hb : hp.get b = some (.cells xs ⟨false, some gr, 0, size⟩)) (hg : hp.get gr = some (.group ms)) (hms : ∀ e ∈ ms, e.base + e.len ≤ xs.length)
      (h : b < nx) (h0 : B ≤ b) (h2 : gr < nx) (h3 : B ≤ gr) (hl : xs.length = l * size) : Sl B size hp nx (.slice (some ⟨b, 0, none⟩) l l) l xs
theorem Sl.mono {B size nx nx' l : Nat} {hp hp' : Ht} {v : Value} {xs : List Value} (h : Sl B size hp nx v l xs) (he : HE nx hp hp') (hn : nx ≤ nx') : Sl B size hp' nx' v l xs := by
  cases h with
  | nil => exact .nil
  | plain hb hm h h0 hl => exact .plain (he.get hb h) hm (by omega) h0 hl
  | grown hb hg hms h h0 h2 h3 hl => exact .grown (he.get hb h) (he.get hg h2) hms (by omega) h0 (by omega) h3 hl
theorem Sl.le {B B' size nx l : Nat} {hp : Ht} {v : Value} {xs : List Value} (h : Sl B size hp nx v l xs) (hb : B' ≤ B) : Sl B' size hp nx v l xs := by
  cases h with
  | nil => exact .nil
  | plain h1 hm h h0 hl => exact .plain h1 hm h (by omega) hl
  | grown h1 hg hms h h0 h2 h3 hl => exact .grown h1 hg hms h (by omega) h2 (by omega) hl
theorem Sl.len {B size nx l : Nat} {hp : Ht} {v : Value} {xs : List Value} (h : Sl B size hp nx v l xs) : xs.length = l * size := by
  cases h with
  | nil => simp
  | plain hb hm h h0 hl => exact hl
  | grown hb hg hms h h0 h2 h3 hl => exact hl
theorem Sl.lenV {B size nx l : Nat} {hp : Ht} {v : Value} {xs : List Value} (h : Sl B size hp nx v l xs) : ∃ a, v = .slice a l l := by
  cases h <;> exact ⟨_, rfl⟩
theorem takeX_all {α : Type} : ∀ (l : List α) (n : Nat), l.length = n → takeX n l = some l
  | [], 0, _ => rfl
  | x :: xs, n + 1, h => by simp only [takeX, takeX_all xs n (by simpa using h), Option.map_some]
  | [], n + 1, h => by simp at h
  | x :: xs, 0, h => by simp at h
def oldCells (xs : List Value) (off : Nat) : Nat → Option (List Value)
  | 0 => some []
  | k => takeX k (xs.drop off)
theorem growUps_eq (hp : Hp) (b off l size : Nat) (new : List Value) (m n : Nat) : growUps hp (some ⟨b, off, none⟩) l size new m n = (match hp b with
    | some (.cells cs mt) => (oldCells cs off (l * size)).bind fun old => match mt.grp with
      | none => some (.slice (some ⟨n + 1, 0, none⟩) (l + m) (l + m),
          [(n, some (AObj.group [⟨n + 1, 0, (old ++ new).length⟩])), (n + 1, some (AObj.cells (old ++ new) ⟨false, some n, 0, size⟩))], 2)
      | some gr => match hp gr with
        | some (.group ms) =>
          bif (!mt.ro && Nat.beq mt.unit size) && noGroups hp (beyond (mt.base + off + l * size)) ms then
            some (.slice (some ⟨n, 0, none⟩) (l + m) (l + m),
              kills (beyond (mt.base + off + l * size)) ms ++ [(gr, some (AObj.group ((ms.filter fun e => !(beyond (mt.base + off + l * size) e)) ++ ([⟨n, mt.base + off, (old ++ new).length⟩] : List Mem)))),
                (n, some (AObj.cells (old ++ new) ⟨false, some gr, mt.base + off, size⟩))], 1)
          else none
        | _ => none
    | _ => none) := rfl
theorem old_all (xs : List Value) : ∀ l, xs.length = l → oldCells xs 0 l = some xs
  | 0, h => by rw [List.length_eq_zero_iff.1 h]; rfl
  | l + 1, h => takeX_all xs _ h
/-- Cells are appended: the slice moves, for it has no room. -/
theorem Sl.append {T : Ty} {B size nx l m st xt el : Nat} {hp : Ht} {v x z : Value} {inf : TypeInfo} {xs ys : List Value} (h : Sl B size hp nx v l xs) (hu : T.und st = some (.slice el)) (hs : T.size el = some size) (hz : T.zero el = some z) (hi : T.info el = some inf)
    (hx : appN T xt x = some (m, false)) (hsrc : srcCells hp.get (m * size) x = some ys) (hstr : strOk size x = true) (hys : ys.length = m * size) (hone : ys.all one = true) (hm : 0 < m)
    (b1 : (l + m) * inf.bytes ≤ 1099511627776) (b2 : inf.bytes ≤ 1073741824) (b3 : l + m ≤ 1099511627776) (hB : B ≤ nx) :
    ∃ v' ups k, eAppend T hp.get st xt v x nx = some (v', ups, k) ∧ Sl B size (setAll ups hp) (nx + k) v' (l + m) (xs ++ ys) ∧ HE B hp (setAll ups hp) := by
  have hlm : ¬ (l + m ≤ l) := by omega
  have hble : Nat.ble (l + m) l = false := by
    cases hb : Nat.ble (l + m) l with
    | false => rfl
    | true => exact absurd (Nat.le_of_ble_eq_true hb) hlm
  have e1 : ∀ a, eAppend T hp.get st xt (.slice a l l) x nx = growUps hp.get a l size ys m nx := fun a => by
    simp only [eAppend, hu, hs, hz, hi, hx, newCells, cond_false, hstr, cond_true, hsrc, Option.bind_some, hone, Nat.ble_eq_true_of_le b1, Nat.ble_eq_true_of_le b2, Nat.ble_eq_true_of_le b3, Bool.and_true, hble]
  have hlen : (xs ++ ys).length = (l + m) * size := by rw [List.length_append, h.len, hys, Nat.add_mul]
  cases h with
  | nil =>
    rw [e1]
    refine ⟨_, _, _, rfl, ?_, ?_⟩
    · simp only [setAll, List.nil_append]
      refine .grown (gr := nx) (Tr.get_same ..) ((Tr.get_other _ _ (by omega)).trans (Tr.get_same ..)) (fun e he => ?_) (by omega) (by omega) (by omega) hB (by simpa using hlen)
      rw [List.mem_singleton.1 he]; simp
    · exact (HE.set _ _ hB).trans (HE.set _ _ (show B ≤ nx + 1 by omega)) (Nat.le_refl _)
  | @plain b _ _ mt hb hm' hlt hB' hl =>
    rw [e1]
    have : growUps hp.get (some ⟨b, 0, none⟩) l size ys m nx = some (.slice (some ⟨nx + 1, 0, none⟩) (l + m) (l + m),
          [(nx, some (AObj.group [⟨nx + 1, 0, (xs ++ ys).length⟩])), (nx + 1, some (AObj.cells (xs ++ ys) ⟨false, some nx, 0, size⟩))], 2) := by
      simp only [growUps_eq, hb, old_all _ _ hl, Option.bind_some, hm']
    refine ⟨_, _, _, this, ?_, ?_⟩
    · simp only [setAll]
      refine .grown (gr := nx) (Tr.get_same ..) ((Tr.get_other _ _ (by omega)).trans (Tr.get_same ..)) (fun e he => ?_) (by omega) (by omega) (by omega) hB hlen
      rw [List.mem_singleton.1 he]; simp
    · exact (HE.set _ _ hB).trans (HE.set _ _ (show B ≤ nx + 1 by omega)) (Nat.le_refl _)
  | @grown b _ gr _ ms hb hg hms hlt hB' h2 h3 hl =>
    rw [e1]
    have hbey : ∀ e ∈ ms, beyond (0 + 0 + l * size) e = false := fun e he => by
      have := hms e he
      cases hq : beyond (0 + 0 + l * size) e with
      | false => rfl
      | true =>
        unfold beyond at hq
        have := blt_iff.1 hq
        omega
    have f1 : ms.filter (beyond (0 + 0 + l * size)) = [] := by
      rw [List.filter_eq_nil_iff]; intro e he; rw [hbey e he]; simp
    have f2 : (ms.filter fun e => !(beyond (0 + 0 + l * size) e)) = ms := by
      rw [List.filter_eq_self]; intro e he; rw [hbey e he]; rfl
    have : growUps hp.get (some ⟨b, 0, none⟩) l size ys m nx = some (.slice (some ⟨nx, 0, none⟩) (l + m) (l + m),
          [(gr, some (AObj.group (ms ++ [⟨nx, 0, (xs ++ ys).length⟩]))), (nx, some (AObj.cells (xs ++ ys) ⟨false, some gr, 0, size⟩))], 1) := by
      simp only [growUps_eq, hb, old_all _ _ hl, Option.bind_some, hg, noGroups, f1, List.all_nil, Bool.not_false, Nat.beq_refl, Bool.and_true, cond_true, kills, List.map_nil, List.nil_append, f2]
    refine ⟨_, _, _, this, ?_, ?_⟩
    · simp only [setAll]
      refine .grown (gr := gr) (Tr.get_same ..) ((Tr.get_other _ _ (by omega)).trans (Tr.get_same ..)) (fun e he => ?_) (by omega) (by omega) (by omega) h3 hlen
      rcases List.mem_append.1 he with he | he
      · have := hms e he; rw [List.length_append]; omega
      · rw [List.mem_singleton.1 he]; simp
    · exact (HE.set _ _ h3).trans (HE.set _ _ hB) (Nat.le_refl _)

/-! operations that look at the heap or change it -/
section
variable {e : Env} {fm : Fm} {to : Tm} {ds : List Deferred} {hp : Ht} {nx : Nat} {cs0 : List Nat} {Q : St → Prop} {all : List Oper} {d : Tmp} {ty : TypeId} {pos : String} {aft : Array Edge}
theorem WC.box {t : TypeId} {x : Operand} (v : Value) (cells : List Value) (hl : e.low = 0) (hx : (opd x).run to = v) (hv : v.cells.toList = cells) (q : Q ⟨to.set d (.pointer (some ⟨nx, 0, none⟩)), ds, hp.set nx (some (.cells cells CMeta.plain)), nx + 1, cs0⟩) :
    WC e fm (compOp all ⟨some d, .box t x, ty, pos, aft, none⟩) ⟨to, ds, hp, nx, cs0⟩ Q := by
  subst hx hv
  exact .eff d _ [(nx, some (.cells ((opd x).run to).cells.toList CMeta.plain))] 1 hl (fun _ _ _ => rfl) q
theorem WC.load1 {t : TypeId} {a : Operand} (b o : Nat) (v : Value) {cells : List Value} {m : CMeta} (hx : (opd a).run to = .pointer (some ⟨b, o, none⟩)) (ha : e.T.agg t = some false) (hb : hp.get b = some (.cells cells m)) (hc : cells[o]? = some v) (q : Q ⟨to.set d v, ds, hp, nx, cs0⟩) :
    WC e fm (compOp all ⟨some d, .load t a, ty, pos, aft, none⟩) ⟨to, ds, hp, nx, cs0⟩ Q :=
  .opt d (eLoad e.T hp.get t ((opd a).run to)) (fun _ _ _ => rfl) (by rw [hx]; exact eLoad_one ha hb hc) q
theorem WC.loadS {t : TypeId} {a : Operand} (b o : Nat) (l : List Value) {n : Nat} {cells : List Value} {m : CMeta} (hx : (opd a).run to = .pointer (some ⟨b, o, none⟩)) (ha : e.T.agg t = some true) (hs : e.T.size t = some n) (hb : hp.get b = some (.cells cells m)) (hc : takeX n (cells.drop o) = some l) (q : Q ⟨to.set d (.agg l.toArray), ds, hp, nx, cs0⟩) :
    WC e fm (compOp all ⟨some d, .load t a, ty, pos, aft, none⟩) ⟨to, ds, hp, nx, cs0⟩ Q :=
  .opt d (eLoad e.T hp.get t ((opd a).run to)) (fun _ _ _ => rfl) (by rw [hx]; exact eLoad_agg ha hs hb hc) q
theorem WC.indexSl {t el : TypeId} {x j : Operand} (b o len c i s : Nat) {k : IntKind} (hx : (opd x).run to = .slice (some ⟨b, o, none⟩) len c) (hj : (opd j).run to = .int k (.ofNat i)) (hu : e.T.und t = some (.slice el)) (hs : e.T.size el = some s) (hi : i < len) (q : Q ⟨to.set d (.pointer (some ⟨b, o + i * s, none⟩)), ds, hp, nx, cs0⟩) :
    WC e fm (compOp all ⟨some d, .indexAddr t x j, ty, pos, aft, none⟩) ⟨to, ds, hp, nx, cs0⟩ Q :=
  .opt d (eIndexAddr e.T t ((opd x).run to) ((opd j).run to)) (fun _ _ _ => rfl) (by rw [hx, hj]; exact eIndexAddr_sl hu hs hi) q
theorem WC.buildSlice {t : TypeId} {n : Nat} {ps : Array (Nat × Operand)} (cells : List Value) (hl : e.low = 0) (h : eBuildSlice e.T t n (runParts (partC ps.toList) to) nx = some (eNewSlice nx cells n n)) (q : Q ⟨to.set d (.slice (some ⟨nx, 0, none⟩) n n), ds, hp.set nx (some (.cells cells CMeta.plain)), nx + 1, cs0⟩) :
    WC e fm (compOp all ⟨some d, .buildSlice t n ps, ty, pos, aft, none⟩) ⟨to, ds, hp, nx, cs0⟩ Q :=
  .effO d (eBuildSlice e.T t n (runParts (partC ps.toList) to) nx) hl (fun _ _ _ => rfl) h q
theorem WC.append1 {st xt el : TypeId} {x y : Operand} {B l : Nat} {v z : Value} {inf : TypeInfo} {xs ys : List Value} {b : Nat} {cm : CMeta} (hl : e.low = 0) (hx : (opd x).run to = v) (hy : (opd y).run to = .slice (some ⟨b, 0, none⟩) 1 1) (h : Sl B 1 hp nx v l xs) (hb : hp.get b = some (.cells ys cm))
    (hu : e.T.und st = some (.slice el)) (hut : e.T.und xt = some (.slice el)) (hs : e.T.size el = some 1) (hz : e.T.zero el = some z) (hi : e.T.info el = some inf) (hys : ys.length = 1) (hone : ys.all one = true) (b1 : inf.bytes ≤ 1024) (b3 : l ≤ 1048576) (hB : B ≤ nx)
    {tys : Array TypeId} (ht : tys = #[st, xt]) (q : ∀ v' hp' nx', nx ≤ nx' → HE B hp hp' → Sl B 1 hp' nx' v' (l + 1) (xs ++ ys) → Q ⟨to.set d v', ds, hp', nx', cs0⟩) :
    WC e fm (compOp all ⟨some d, .call { callee := .builtin .append, args := #[x, y], argTypes := tys }, ty, pos, aft, none⟩) ⟨to, ds, hp, nx, cs0⟩ Q := by
  subst ht
  have hsrc : srcCells hp.get (1 * 1) (.slice (some ⟨b, 0, none⟩) 1 1) = some ys := by
    simp only [srcCells, hb, List.drop_zero]; exact takeX_all ys _ hys
  have happ : appN e.T xt (.slice (some ⟨b, 0, none⟩) 1 1) = some (1, false) := by simp only [appN, hut]
  have b1' : (l + 1) * inf.bytes ≤ 1099511627776 := Nat.le_trans (Nat.mul_le_mul (show l + 1 ≤ 1048577 by omega) b1) (by decide)
  obtain ⟨v', ups, k, h1, h2, h3⟩ := h.append hu hs hz hi happ hsrc rfl hys hone (by omega) b1' (by omega) (by omega) hB
  refine .biO d (eAppend e.T hp.get st xt v (.slice (some ⟨b, 0, none⟩) 1 1) nx) hl (fun _ _ _ => ?_) h1 (q _ _ _ (by omega) h3 h2)
  rw [← hx, ← hy]; rfl
end
end
end Sw

/- Chapter 24: what Key of the reference computes, on open data. -/
namespace Sw
noncomputable section
open Go Go.Proofs Go.RowKit
set_option maxRecDepth 100000

/-- A starter, by its eight numbers. -/
def sC (x0 x1 x2 x3 x4 x5 x6 x7 : Int) : List Value := [.int .i64 x0, .int .i64 x1, .int .i64 x2, .int .i64 x3, .int .i64 x4, .int .i64 x5, .int .i64 x6, .int .i64 x7]
def sV (x0 x1 x2 x3 x4 x5 x6 x7 : Int) : Value := .agg (sC x0 x1 x2 x3 x4 x5 x6 x7).toArray
def negE (x : Int) : Int := wrapE .i64 (0 - x)
def keyR (x0 x2 x4 x7 c : Int) : Int :=
  bif eqI c 1 then negE x4 else bif eqI c 2 then x4 else bif eqI c 3 then negE x2 else bif eqI c 4 then x0 else bif eqI c 5 then x7 else 0
def KeyPost (r : Int) (hp : Ht) (nx : Nat) (v : Value) (hp' : Ht) (nx' : Nat) : Prop := v = .int .i64 r ∧ nx ≤ nx' ∧ HE nx hp hp'
theorem T24_agg3 : e5.T.agg 3 = some false := by kernel_rfl

theorem key_wf (x0 x1 x2 x3 x4 x5 x6 x7 c : Int) (hp : Ht) (nx : Nat) : WF e5 18 [sV x0 x1 x2 x3 x4 x5 x6 x7, .int .i64 c] hp nx (KeyPost (keyR x0 x2 x4 x7 c) hp nx) := by
  refine WF.body (fi := ⟨Tryz.f18.body.getD .skip, 28, [.tmp 4]⟩) (by kernel_rfl) (by kernel_rfl) (by kernel_rfl) rfl ?_
  refine WP.seq (WP.region ?_)
  refine WO.cons (WC.box (sV x0 x1 x2 x3 x4 x5 x6 x7) (sC x0 x1 x2 x3 x4 x5 x6 x7) rfl rfl rfl ?_)
  refine WO.cons (WC.val 4 (.int .i64 0) (fun _ _ _ => by kernel_rfl) ?_)
  refine WO.nil ?_
  have he : HE nx hp (hp.set nx (some (.cells (sC x0 x1 x2 x3 x4 x5 x6 x7) CMeta.plain))) := HE.set _ _ (Nat.le_refl _)
  have hb := Tr.get_same hp nx (some (.cells (sC x0 x1 x2 x3 x4 x5 x6 x7) CMeta.plain))
  refine WP.seq (WP.seq (WP.region ?_))
  refine WO.cons (WC.val 5 (.int .i64 c) (fun _ _ _ => by kernel_rfl) ?_)
  refine WO.nil ?_
  refine WP.block ?_
  refine WP.seq (WP.region ?_)
  refine WO.cons (WC.val 7 (.bool (eqI c 1)) (fun _ _ _ => by kernel_rfl) ?_)
  refine WO.cons (WC.val 6 (.bool (eqI c 1)) (fun _ _ _ => by kernel_rfl) ?_)
  refine WO.nil ?_
  refine WP.cond (eqI c 1) (by kernel_rfl) (fun h1 => ?_) (fun h1 => ?_)
  · refine WP.seq (WP.region ?_)
    refine WO.cons (WC.val 8 (.pointer (some ⟨nx, 4, none⟩)) (fun _ _ _ => by kernel_rfl) ?_)
    refine WO.cons (WC.load1 nx 4 (.int .i64 x4) (by kernel_rfl) T24_agg3 hb rfl ?_)
    refine WO.cons (WC.val 10 (.int .i64 (negE x4)) (fun _ _ _ => by kernel_rfl) ?_)
    refine WO.cons (WC.val 4 (.int .i64 (negE x4)) (fun _ _ _ => by kernel_rfl) ?_)
    refine WO.nil ?_
    refine WP.ret ⟨rfl, rfl, [.int .i64 (negE x4)], by kernel_rfl, ?_, Nat.le_succ _, he⟩
    simp only [keyR, h1, cond_true, cond_false]; rfl
  refine WP.seq (WP.region ?_)
  refine WO.cons (WC.val 12 (.bool (eqI c 2)) (fun _ _ _ => by kernel_rfl) ?_)
  refine WO.cons (WC.val 11 (.bool (eqI c 2)) (fun _ _ _ => by kernel_rfl) ?_)
  refine WO.nil ?_
  refine WP.cond (eqI c 2) (by kernel_rfl) (fun h2 => ?_) (fun h2 => ?_)
  · refine WP.seq (WP.region ?_)
    refine WO.cons (WC.val 13 (.pointer (some ⟨nx, 4, none⟩)) (fun _ _ _ => by kernel_rfl) ?_)
    refine WO.cons (WC.load1 nx 4 (.int .i64 x4) (by kernel_rfl) T24_agg3 hb rfl ?_)
    refine WO.cons (WC.val 4 (.int .i64 (x4)) (fun _ _ _ => by kernel_rfl) ?_)
    refine WO.nil ?_
    refine WP.ret ⟨rfl, rfl, [.int .i64 (x4)], by kernel_rfl, ?_, Nat.le_succ _, he⟩
    simp only [keyR, h1, h2, cond_true, cond_false]; rfl
  refine WP.seq (WP.region ?_)
  refine WO.cons (WC.val 16 (.bool (eqI c 3)) (fun _ _ _ => by kernel_rfl) ?_)
  refine WO.cons (WC.val 15 (.bool (eqI c 3)) (fun _ _ _ => by kernel_rfl) ?_)
  refine WO.nil ?_
  refine WP.cond (eqI c 3) (by kernel_rfl) (fun h3 => ?_) (fun h3 => ?_)
  · refine WP.seq (WP.region ?_)
    refine WO.cons (WC.val 17 (.pointer (some ⟨nx, 2, none⟩)) (fun _ _ _ => by kernel_rfl) ?_)
    refine WO.cons (WC.load1 nx 2 (.int .i64 x2) (by kernel_rfl) T24_agg3 hb rfl ?_)
    refine WO.cons (WC.val 19 (.int .i64 (negE x2)) (fun _ _ _ => by kernel_rfl) ?_)
    refine WO.cons (WC.val 4 (.int .i64 (negE x2)) (fun _ _ _ => by kernel_rfl) ?_)
    refine WO.nil ?_
    refine WP.ret ⟨rfl, rfl, [.int .i64 (negE x2)], by kernel_rfl, ?_, Nat.le_succ _, he⟩
    simp only [keyR, h1, h2, h3, cond_true, cond_false]; rfl
  refine WP.seq (WP.region ?_)
  refine WO.cons (WC.val 21 (.bool (eqI c 4)) (fun _ _ _ => by kernel_rfl) ?_)
  refine WO.cons (WC.val 20 (.bool (eqI c 4)) (fun _ _ _ => by kernel_rfl) ?_)
  refine WO.nil ?_
  refine WP.cond (eqI c 4) (by kernel_rfl) (fun h4 => ?_) (fun h4 => ?_)
  · refine WP.seq (WP.region ?_)
    refine WO.cons (WC.val 22 (.pointer (some ⟨nx, 0, none⟩)) (fun _ _ _ => by kernel_rfl) ?_)
    refine WO.cons (WC.load1 nx 0 (.int .i64 x0) (by kernel_rfl) T24_agg3 hb rfl ?_)
    refine WO.cons (WC.val 4 (.int .i64 (x0)) (fun _ _ _ => by kernel_rfl) ?_)
    refine WO.nil ?_
    refine WP.ret ⟨rfl, rfl, [.int .i64 (x0)], by kernel_rfl, ?_, Nat.le_succ _, he⟩
    simp only [keyR, h1, h2, h3, h4, cond_true, cond_false]; rfl
  refine WP.seq (WP.region ?_)
  refine WO.cons (WC.val 25 (.bool (eqI c 5)) (fun _ _ _ => by kernel_rfl) ?_)
  refine WO.cons (WC.val 24 (.bool (eqI c 5)) (fun _ _ _ => by kernel_rfl) ?_)
  refine WO.nil ?_
  refine WP.cond (eqI c 5) (by kernel_rfl) (fun h5 => ?_) (fun h5 => ?_)
  · refine WP.seq (WP.region ?_)
    refine WO.cons (WC.val 26 (.pointer (some ⟨nx, 7, none⟩)) (fun _ _ _ => by kernel_rfl) ?_)
    refine WO.cons (WC.load1 nx 7 (.int .i64 x7) (by kernel_rfl) T24_agg3 hb rfl ?_)
    refine WO.cons (WC.val 4 (.int .i64 (x7)) (fun _ _ _ => by kernel_rfl) ?_)
    refine WO.nil ?_
    refine WP.ret ⟨rfl, rfl, [.int .i64 (x7)], by kernel_rfl, ?_, Nat.le_succ _, he⟩
    simp only [keyR, h1, h2, h3, h4, h5, cond_true, cond_false]; rfl
  refine WP.skip ?_
  refine WP.seq (WP.region ?_)
  refine WO.cons (WC.val 4 (.int .i64 0) (fun _ _ _ => by kernel_rfl) ?_)
  refine WO.nil ?_
  refine WP.ret ⟨rfl, rfl, [.int .i64 0], by kernel_rfl, ?_, Nat.le_succ _, he⟩
  simp only [keyR, h1, h2, h3, h4, h5, cond_true, cond_false]; rfl

theorem crit1_wf (x0 x1 x2 x3 x4 x5 x6 x7 : Int) (hp : Ht) (nx : Nat) : WF e5 37 [sV x0 x1 x2 x3 x4 x5 x6 x7] hp nx (KeyPost (negE x4) hp nx) := by
  refine WF.body (fi := ⟨Tryz.f37.body.getD .skip, 6, [.tmp 2]⟩) (by kernel_rfl) (by kernel_rfl) (by kernel_rfl) rfl ?_
  have hb := Tr.get_same hp nx (some (.cells (sC x0 x1 x2 x3 x4 x5 x6 x7) CMeta.plain))
  refine WP.seq (WP.region ?_)
  refine WO.cons (WC.box (sV x0 x1 x2 x3 x4 x5 x6 x7) (sC x0 x1 x2 x3 x4 x5 x6 x7) rfl rfl rfl ?_)
  refine WO.cons (WC.val 2 (.int .i64 0) (fun _ _ _ => by kernel_rfl) ?_)
  refine WO.nil ?_
  refine WP.seq (WP.region ?_)
  refine WO.cons (WC.val 3 (.pointer (some ⟨nx, 4, none⟩)) (fun _ _ _ => by kernel_rfl) ?_)
  refine WO.cons (WC.load1 nx 4 (.int .i64 x4) (by kernel_rfl) T24_agg3 hb rfl ?_)
  refine WO.cons (WC.val 5 (.int .i64 (negE x4)) (fun _ _ _ => by kernel_rfl) ?_)
  refine WO.cons (WC.val 2 (.int .i64 (negE x4)) (fun _ _ _ => by kernel_rfl) ?_)
  refine WO.nil ?_
  refine WP.ret ⟨rfl, rfl, [.int .i64 (negE x4)], by kernel_rfl, rfl, Nat.le_succ _, HE.set _ _ (Nat.le_refl _)⟩

theorem crit2_wf (x0 x1 x2 x3 x4 x5 x6 x7 : Int) (hp : Ht) (nx : Nat) : WF e5 38 [sV x0 x1 x2 x3 x4 x5 x6 x7] hp nx (KeyPost (x4) hp nx) := by
  refine WF.body (fi := ⟨Tryz.f38.body.getD .skip, 5, [.tmp 2]⟩) (by kernel_rfl) (by kernel_rfl) (by kernel_rfl) rfl ?_
  have hb := Tr.get_same hp nx (some (.cells (sC x0 x1 x2 x3 x4 x5 x6 x7) CMeta.plain))
  refine WP.seq (WP.region ?_)
  refine WO.cons (WC.box (sV x0 x1 x2 x3 x4 x5 x6 x7) (sC x0 x1 x2 x3 x4 x5 x6 x7) rfl rfl rfl ?_)
  refine WO.cons (WC.val 2 (.int .i64 0) (fun _ _ _ => by kernel_rfl) ?_)
  refine WO.nil ?_
  refine WP.seq (WP.region ?_)
  refine WO.cons (WC.val 3 (.pointer (some ⟨nx, 4, none⟩)) (fun _ _ _ => by kernel_rfl) ?_)
  refine WO.cons (WC.load1 nx 4 (.int .i64 x4) (by kernel_rfl) T24_agg3 hb rfl ?_)
  refine WO.cons (WC.val 2 (.int .i64 (x4)) (fun _ _ _ => by kernel_rfl) ?_)
  refine WO.nil ?_
  refine WP.ret ⟨rfl, rfl, [.int .i64 (x4)], by kernel_rfl, rfl, Nat.le_succ _, HE.set _ _ (Nat.le_refl _)⟩

theorem crit3_wf (x0 x1 x2 x3 x4 x5 x6 x7 : Int) (hp : Ht) (nx : Nat) : WF e5 39 [sV x0 x1 x2 x3 x4 x5 x6 x7] hp nx (KeyPost (negE x2) hp nx) := by
  refine WF.body (fi := ⟨Tryz.f39.body.getD .skip, 6, [.tmp 2]⟩) (by kernel_rfl) (by kernel_rfl) (by kernel_rfl) rfl ?_
  have hb := Tr.get_same hp nx (some (.cells (sC x0 x1 x2 x3 x4 x5 x6 x7) CMeta.plain))
  refine WP.seq (WP.region ?_)
  refine WO.cons (WC.box (sV x0 x1 x2 x3 x4 x5 x6 x7) (sC x0 x1 x2 x3 x4 x5 x6 x7) rfl rfl rfl ?_)
  refine WO.cons (WC.val 2 (.int .i64 0) (fun _ _ _ => by kernel_rfl) ?_)
  refine WO.nil ?_
  refine WP.seq (WP.region ?_)
  refine WO.cons (WC.val 3 (.pointer (some ⟨nx, 2, none⟩)) (fun _ _ _ => by kernel_rfl) ?_)
  refine WO.cons (WC.load1 nx 2 (.int .i64 x2) (by kernel_rfl) T24_agg3 hb rfl ?_)
  refine WO.cons (WC.val 5 (.int .i64 (negE x2)) (fun _ _ _ => by kernel_rfl) ?_)
  refine WO.cons (WC.val 2 (.int .i64 (negE x2)) (fun _ _ _ => by kernel_rfl) ?_)
  refine WO.nil ?_
  refine WP.ret ⟨rfl, rfl, [.int .i64 (negE x2)], by kernel_rfl, rfl, Nat.le_succ _, HE.set _ _ (Nat.le_refl _)⟩

theorem crit4_wf (x0 x1 x2 x3 x4 x5 x6 x7 : Int) (hp : Ht) (nx : Nat) : WF e5 40 [sV x0 x1 x2 x3 x4 x5 x6 x7] hp nx (KeyPost (x0) hp nx) := by
  refine WF.body (fi := ⟨Tryz.f40.body.getD .skip, 5, [.tmp 2]⟩) (by kernel_rfl) (by kernel_rfl) (by kernel_rfl) rfl ?_
  have hb := Tr.get_same hp nx (some (.cells (sC x0 x1 x2 x3 x4 x5 x6 x7) CMeta.plain))
  refine WP.seq (WP.region ?_)
  refine WO.cons (WC.box (sV x0 x1 x2 x3 x4 x5 x6 x7) (sC x0 x1 x2 x3 x4 x5 x6 x7) rfl rfl rfl ?_)
  refine WO.cons (WC.val 2 (.int .i64 0) (fun _ _ _ => by kernel_rfl) ?_)
  refine WO.nil ?_
  refine WP.seq (WP.region ?_)
  refine WO.cons (WC.val 3 (.pointer (some ⟨nx, 0, none⟩)) (fun _ _ _ => by kernel_rfl) ?_)
  refine WO.cons (WC.load1 nx 0 (.int .i64 x0) (by kernel_rfl) T24_agg3 hb rfl ?_)
  refine WO.cons (WC.val 2 (.int .i64 (x0)) (fun _ _ _ => by kernel_rfl) ?_)
  refine WO.nil ?_
  refine WP.ret ⟨rfl, rfl, [.int .i64 (x0)], by kernel_rfl, rfl, Nat.le_succ _, HE.set _ _ (Nat.le_refl _)⟩

theorem crit5_wf (x0 x1 x2 x3 x4 x5 x6 x7 : Int) (hp : Ht) (nx : Nat) : WF e5 41 [sV x0 x1 x2 x3 x4 x5 x6 x7] hp nx (KeyPost (x7) hp nx) := by
  refine WF.body (fi := ⟨Tryz.f41.body.getD .skip, 5, [.tmp 2]⟩) (by kernel_rfl) (by kernel_rfl) (by kernel_rfl) rfl ?_
  have hb := Tr.get_same hp nx (some (.cells (sC x0 x1 x2 x3 x4 x5 x6 x7) CMeta.plain))
  refine WP.seq (WP.region ?_)
  refine WO.cons (WC.box (sV x0 x1 x2 x3 x4 x5 x6 x7) (sC x0 x1 x2 x3 x4 x5 x6 x7) rfl rfl rfl ?_)
  refine WO.cons (WC.val 2 (.int .i64 0) (fun _ _ _ => by kernel_rfl) ?_)
  refine WO.nil ?_
  refine WP.seq (WP.region ?_)
  refine WO.cons (WC.val 3 (.pointer (some ⟨nx, 7, none⟩)) (fun _ _ _ => by kernel_rfl) ?_)
  refine WO.cons (WC.load1 nx 7 (.int .i64 x7) (by kernel_rfl) T24_agg3 hb rfl ?_)
  refine WO.cons (WC.val 2 (.int .i64 (x7)) (fun _ _ _ => by kernel_rfl) ?_)
  refine WO.nil ?_
  refine WP.ret ⟨rfl, rfl, [.int .i64 (x7)], by kernel_rfl, rfl, Nat.le_succ _, HE.set _ _ (Nat.le_refl _)⟩
end
end Sw

/- Chapter 24: Keys of the reference, on open data. -/
namespace Sw
noncomputable section
open Go Go.Proofs Go.RowKit
set_option maxRecDepth 100000

def ints (xs : List Int) : List Value := xs.map (.int .i64)
/-- A list of numbers that can be read. -/
structure ByOk (hp : Ht) (nx : Nat) (a : Option Addr) (l c : Nat) (xs : List Int) : Prop where
  len : xs.length = l
  cells : 0 < l → ∃ b m, a = some ⟨b, 0, none⟩ ∧ b < nx ∧ hp.get b = some (.cells (ints xs) m)
  eq : vEq 8 (.slice a l c) (.slice a l c) = true
  few : l ≤ 50
theorem ByOk.mono {hp hp' : Ht} {nx nx' : Nat} {a : Option Addr} {l c : Nat} {xs : List Int} (h : ByOk hp nx a l c xs) (he : HE nx hp hp') (hn : nx ≤ nx') : ByOk hp' nx' a l c xs :=
  ⟨h.len, fun k => by obtain ⟨b, m, h1, h2, h3⟩ := h.cells k; exact ⟨b, m, h1, by omega, he.get h3 h2⟩, h.eq, h.few⟩
theorem ints_get {xs : List Int} {i : Nat} (h : i < xs.length) : (ints xs)[i]? = some (.int .i64 xs[i]) := by
  simp [ints, h]
theorem wrap_succ {i : Nat} (h : i < 1000000) : wrapE .i64 (.ofNat i + 1) = .ofNat (i + 1) := by
  have e : (Int.ofNat i + 1 : Int) = .ofNat (i + 1) := rfl
  rw [e]
  have h1 : resK .i64 (.ofNat (i + 1)) = i + 1 := Nat.mod_eq_of_lt (show i + 1 < 18446744073709551616 by omega)
  have h2 : Nat.ble 9223372036854775808 (i + 1) = false := by
    cases hb : Nat.ble 9223372036854775808 (i + 1) with
    | false => rfl
    | true => have := Nat.le_of_ble_eq_true hb; omega
  unfold wrapE signK
  rw [h1]
  show (bif Nat.ble 9223372036854775808 (i + 1) then _ else _) = _
  rw [h2]; rfl
theorem ltI_nat (i l : Nat) : ltI (.ofNat i) (.ofNat l) = Nat.blt i l := rfl
theorem blt_false {a b : Nat} (h : Nat.blt a b = false) : b ≤ a := by
  rcases Nat.lt_or_ge a b with k | k
  · rw [blt_iff.2 k] at h; cases h
  · exact k
theorem Chks.val {e : Env} {c : Chk} {l : List Chk} {to : Tm} {ds : List Deferred} {hp : Ht} {nx : Nat} {cs0 : List Nat} (v : Value) (h : ∀ k, c.run e.T hp nx to k = bif vEq 8 v v then k else .need 0) (hv : vEq 8 v v = true) (hl : Chks e l ⟨to, ds, hp, nx, cs0⟩) : Chks e (c :: l) ⟨to, ds, hp, nx, cs0⟩ :=
  .cons (fun k => by show c.run e.T hp nx to k = k; rw [h, hv]; rfl) hl
theorem Chks.opt {e : Env} {c : Chk} {l : List Chk} {to : Tm} {ds : List Deferred} {hp : Ht} {nx : Nat} {cs0 : List Nat} (v : Value) (o : Option Value) (h : ∀ k, c.run e.T hp nx to k = optV o (fun x => bif vEq 8 x v then k else .need 0)) (ho : o = some v) (hv : vEq 8 v v = true) (hl : Chks e l ⟨to, ds, hp, nx, cs0⟩) : Chks e (c :: l) ⟨to, ds, hp, nx, cs0⟩ :=
  .cons (fun k => by show c.run e.T hp nx to k = k; rw [h, ho]; simp only [optV, hv, cond_true]) hl
theorem Chks.new {e : Env} {c : Chk} {l : List Chk} {to : Tm} {ds : List Deferred} {hp : Ht} {nx : Nat} {cs0 : List Nat} (m : Nat) (v : Value) (cs : List Value) (h : ∀ k, c.run e.T hp nx to k = (match hp.get m with | some (.cells cs' m') => bif vEq 8 v v && (vEqs (vEq 8) cs cs' && plainM m') then k else .need 0 | _ => .need 0)) (hm : hp.get m = some (.cells cs CMeta.plain)) (hv : vEq 8 v v = true) (hc : vEqs (vEq 8) cs cs = true) (hl : Chks e l ⟨to, ds, hp, nx, cs0⟩) : Chks e (c :: l) ⟨to, ds, hp, nx, cs0⟩ :=
  .cons (fun k => by show c.run e.T hp nx to k = k; rw [h, hm]; simp only [hv, hc]; rfl) hl
theorem Sl.vEq {B size nx l : Nat} {hp : Ht} {v : Value} {xs : List Value} (h : Sl B size hp nx v l xs) : vEq 8 v v = true := by
  cases h with
  | nil => exact vEq_nilsl ..
  | plain => exact vEq_sl ..
  | grown => exact vEq_sl ..
theorem WP.drawP {e : Env} {fm : Fm} {s : St} {W : Nat → St → Prop} {id : Nat} {ops : Array Oper} (stages : List Stage) (hs : (mkPlan ops.toList).stages = stages) (h : WD e fm (stC ops.toList stages) s (W 0)) : WP e fm (.region id ops true) s W := by
  subst hs; exact .draw h
theorem WP.drawS {e : Env} {fm : Fm} {s : St} {W : Nat → St → Prop} {id : Nat} {ops : Array Oper} (stages : List Stage) (hs : (mkPlan ops.toList).stages = stages) (cls : List SCl) (hc : stC ops.toList stages = cls) (h : WD e fm cls s (W 0)) : WP e fm (.region id ops true) s W := by
  subst hc; exact .drawP stages hs h
theorem WN.consAt {e : Env} {fm : Fm} {s : St} {Q : St → Prop} {all : List Oper} {i : Nat} {o : Oper} {l : List Cl} (h : nthO i all = some o) (k : WC e fm (compOp all o) s fun s1 => WN e fm l s1 Q) : WN e fm (compAt all i :: l) s Q := by
  refine .cons ?_
  have : compAt all i = compOp all o := by unfold compAt; rw [h]
  rw [this]; exact k
theorem WC.at {e : Env} {fm : Fm} {s : St} {Q : St → Prop} {all : List Oper} {i : Nat} {o : Oper} (h : nthO i all = some o) (k : WC e fm (compOp all o) s Q) : WC e fm (compAt all i) s Q := by
  have : compAt all i = compOp all o := by unfold compAt; rw [h]
  rw [this]; exact k
theorem sV_vEq (x0 x1 x2 x3 x4 x5 x6 x7 : Int) : vEq 8 (sV x0 x1 x2 x3 x4 x5 x6 x7) (sV x0 x1 x2 x3 x4 x5 x6 x7) = true :=
  vEq_agg 7 _ fun v hv => by
    simp only [sC, List.mem_cons, List.not_mem_nil, or_false] at hv
    rcases hv with rfl | rfl | rfl | rfl | rfl | rfl | rfl | rfl <;> exact vEq_int ..
theorem T24_und24 : e5.T.und 24 = some (.slice 3) := by kernel_rfl
theorem T24_size3 : e5.T.size 3 = some 1 := by kernel_rfl
theorem T24_agg23 : e5.T.agg 23 = some true := by kernel_rfl
theorem T24_size23 : e5.T.size 23 = some 8 := by kernel_rfl
theorem T24_zero3 : e5.T.zero 3 = some (.int .i64 0) := by kernel_rfl
theorem T24_info3 : ∃ i, e5.T.info 3 = some i ∧ i.bytes ≤ 1024 := by
  have h : (match e5.T.info 3 with | some i => Nat.ble i.bytes 1024 | none => false) = true := by kernel_rfl
  split at h
  · rename_i i hi; exact ⟨i, hi, Nat.le_of_ble_eq_true h⟩
  · cases h

def KeysPost (l : Nat) (ys : List Int) (hp : Ht) (nx : Nat) (v : Value) (hp' : Ht) (nx' : Nat) : Prop := nx ≤ nx' ∧ HE nx hp hp' ∧ Sl nx 1 hp' nx' v l (ints ys)
theorem refKeys_wf (x0 x1 x2 x3 x4 x5 x6 x7 : Int) (a : Option Addr) (l c : Nat) (xs : List Int) (hp : Ht) (nx : Nat) (hby : ByOk hp nx a l c xs) : WF e5 7 [sV x0 x1 x2 x3 x4 x5 x6 x7, .slice a l c] hp nx (KeysPost l (xs.map (keyR x0 x2 x4 x7)) hp nx) := by
  refine WF.body (fi := ⟨Tryz.f7.body.getD .skip, 24, [.tmp 4]⟩) (by kernel_rfl) (by kernel_rfl) (by kernel_rfl) rfl ?_
  refine WP.seq (WP.region ?_)
  refine WO.cons (WC.box (sV x0 x1 x2 x3 x4 x5 x6 x7) (sC x0 x1 x2 x3 x4 x5 x6 x7) rfl rfl rfl ?_)
  refine WO.cons (WC.val 4 (.slice none 0 0) (fun _ _ _ => by kernel_rfl) ?_)
  refine WO.nil ?_
  refine WP.seq (WP.region ?_)
  refine WO.cons (WC.buildSlice [] rfl (by kernel_rfl) ?_)
  refine WO.cons (WC.val 5 (.slice (some ⟨nx + 1, 0, none⟩) 0 0) (fun _ _ _ => by kernel_rfl) ?_)
  refine WO.nil ?_
  refine WP.seq (WP.seq (WP.region ?_))
  refine WO.cons (WC.val 6 (.int .i64 (.ofNat 0)) (fun _ _ _ => by kernel_rfl) ?_)
  refine WO.nil ?_
  generalize hp1d : (hp.set nx (some (.cells (sC x0 x1 x2 x3 x4 x5 x6 x7) CMeta.plain))).set (nx + 1) (some (.cells [] CMeta.plain)) = hp1
  have he1 : HE nx hp hp1 := by subst hp1d; exact (HE.set _ _ (Nat.le_refl _)).trans (HE.set _ _ (Nat.le_succ _)) (Nat.le_refl _)
  have hs1 : hp1.get nx = some (.cells (sC x0 x1 x2 x3 x4 x5 x6 x7) CMeta.plain) := by subst hp1d; rw [Tr.get_other _ _ (by omega)]; exact Tr.get_same ..
  have hv1 : Sl (nx + 1) 1 hp1 (nx + 1 + 1) (.slice (some ⟨nx + 1, 0, none⟩) 0 0) 0 [] := .plain (by subst hp1d; exact Tr.get_same ..) rfl (by omega) (by omega) rfl
  have hby1 := hby.mono he1 (show nx ≤ nx + 1 by omega)
  have hone : 0 < l → ∃ b m, a = some ⟨b, 0, none⟩ ∧ b < nx ∧ hp1.get b = some (.cells (ints xs) m) := fun k => by
    obtain ⟨b, m, h1, h2, h3⟩ := hby.cells k; exact ⟨b, m, h1, h2, he1.get h3 h2⟩
  have hj : ∀ t : Tm, (((t.set 1 (t.get 1)).set 2 (t.get 2)).set 5 (t.get 5)).set 6 (t.get 6) = t := fun t => by kernel_rfl
  refine WP.block (WP.loop (fun m s => ∃ (i : Nat) (v5 : Value), i + m = l ∧ s.to.get 1 = .slice a l c ∧ s.to.get 2 = .pointer (some ⟨nx, 0, none⟩) ∧ s.to.get 5 = v5 ∧ s.to.get 6 = .int .i64 (.ofNat i) ∧ s.ds = [] ∧ s.cs = [] ∧ nx + 1 + 1 ≤ s.nx ∧ HE (nx + 1) hp1 s.hp ∧ Sl (nx + 1) 1 s.hp s.nx v5 i (ints ((xs.map (keyR x0 x2 x4 x7)).take i))) ?_ l ?_)
  · rintro m ⟨to, ds, hp', nx', cs⟩ ⟨i, v5, him, g1, g2, g5, g6, hds, hcs, hnx', he', hsl⟩
    simp only at g1 g2 g5 g6 hds hcs hnx' he' hsl
    subst hds hcs
    rw [← hj to, g1, g2, g5, g6]
    clear g1 g2 g5 g6
    refine WP.seq (WP.seq (WP.region ?_))
    refine WO.cons (WC.val 8 (.int .i64 (.ofNat i)) (fun _ _ _ => by kernel_rfl) ?_)
    refine WO.cons (WC.val 9 (.slice a l c) (fun _ _ _ => by kernel_rfl) ?_)
    refine WO.cons (WC.val 10 (.int .i64 (.ofNat l)) (fun _ _ _ => by kernel_rfl) ?_)
    refine WO.cons (WC.val 11 (.bool (ltI (.ofNat i) (.ofNat l))) (fun _ _ _ => by kernel_rfl) ?_)
    refine WO.nil ?_
    refine WP.cond (ltI (.ofNat i) (.ofNat l)) (by kernel_rfl) (fun h => WP.skip ?_) (fun h => WP.exit ?_)
    · have hil : i < l := blt_iff.1 h
      obtain ⟨b, bm, rfl, hb1, hb2⟩ := hone (by omega)
      have hix : i < xs.length := by rw [hby.len]; exact hil
      have hb3 := he'.get hb2 (by omega)
      have hs3 := he'.get hs1 (by omega)
      have hw := wrap_succ (i := i) (by have := hby.few; omega)
      refine WP.seq (WP.block (WP.drawS [⟨[0, 1, 2, 3, 4, 5], [0, 1, 2, 3, 4, 5], some 6⟩, ⟨[7], [0, 7], some 8⟩, ⟨[], [], some 9⟩, ⟨[], [], none⟩] (by kernel_rfl) _ rfl ?_))
      refine WD.eff ?_
      refine WN.consAt rfl (WC.val 14 (v5) (fun _ _ _ => by kernel_rfl) ?_)
      refine WN.consAt rfl (WC.loadS nx 0 (sC x0 x1 x2 x3 x4 x5 x6 x7) (by kernel_rfl) T24_agg23 T24_size23 hs3 rfl ?_)
      refine WN.consAt rfl (WC.val 16 (.slice (some ⟨b, 0, none⟩) l c) (fun _ _ _ => by kernel_rfl) ?_)
      refine WN.consAt rfl (WC.val 17 (.int .i64 (.ofNat i)) (fun _ _ _ => by kernel_rfl) ?_)
      refine WN.consAt rfl (WC.indexSl (k := .i64) b 0 l c i 1 (by kernel_rfl) (by kernel_rfl) T24_und24 T24_size3 hil ?_)
      refine WN.consAt rfl (WC.load1 b (0 + i * 1) (.int .i64 xs[i]) (by kernel_rfl) T24_agg3 hb3 (by rw [Nat.zero_add, Nat.mul_one]; exact ints_get hix) ?_)
      refine WN.nil ⟨?_, ?_⟩
      · refine Chks.val v5 (fun _ => by kernel_rfl) hsl.vEq ?_
        refine Chks.opt (sV x0 x1 x2 x3 x4 x5 x6 x7) (eLoad e5.T hp'.get 23 (.pointer (some ⟨nx, 0, none⟩))) (fun _ => by kernel_rfl) (eLoad_agg T24_agg23 T24_size23 hs3 rfl) (sV_vEq ..) ?_
        refine Chks.val (.slice (some ⟨b, 0, none⟩) l c) (fun _ => by kernel_rfl) hby.eq ?_
        refine Chks.val (.int .i64 (.ofNat i)) (fun _ => by kernel_rfl) (vEq_int ..) ?_
        refine Chks.opt (.pointer (some ⟨b, 0 + i * 1, none⟩)) (eIndexAddr e5.T 24 (.slice (some ⟨b, 0, none⟩) l c) (.int .i64 (.ofNat i))) (fun _ => by kernel_rfl) (eIndexAddr_sl T24_und24 T24_size3 hil) (vEq_ptr ..) ?_
        refine Chks.opt (.int .i64 xs[i]) (eLoad e5.T hp'.get 3 (.pointer (some ⟨b, 0 + i * 1, none⟩))) (fun _ => by kernel_rfl) (eLoad_one T24_agg3 hb3 (by rw [Nat.zero_add, Nat.mul_one]; exact ints_get hix)) (vEq_int ..) ?_
        exact Chks.nil
      · refine WC.call 20 18 [sV x0 x1 x2 x3 x4 x5 x6 x7, .int .i64 xs[i]] (fun _ _ _ => by kernel_rfl) ((key_wf x0 x1 x2 x3 x4 x5 x6 x7 xs[i] hp' nx').mono ?_)
        rintro _ hp2 nx2 ⟨rfl, hn2, he2⟩
        have hsl2 := hsl.mono he2 hn2
        refine WD.eff ?_
        refine WN.consAt rfl (WC.buildSlice [.int .i64 (keyR x0 x2 x4 x7 xs[i])] rfl (by kernel_rfl) ?_)
        refine WN.nil ⟨?_, ?_⟩
        · refine Chks.val v5 (fun _ => by kernel_rfl) hsl.vEq ?_
          exact Chks.new nx2 (.slice (some ⟨nx2, 0, none⟩) 1 1) [.int .i64 (keyR x0 x2 x4 x7 xs[i])] (fun _ => by kernel_rfl) (Tr.get_same ..) (vEq_sl ..) (vEqs_refl _ fun v hv => by rw [List.mem_singleton.1 hv]; exact vEq_int ..) Chks.nil
        · obtain ⟨inf, hinf, hbytes⟩ := T24_info3
          have he3 : HE nx2 hp2 (hp2.set nx2 (some (.cells [.int .i64 (keyR x0 x2 x4 x7 xs[i])] CMeta.plain))) := HE.set _ _ (Nat.le_refl _)
          refine WC.at rfl (WC.append1 (b := nx2) (B := nx + 1) rfl (by kernel_rfl) (by kernel_rfl) (hsl2.mono he3 (Nat.le_succ _)) (Tr.get_same ..) T24_und24 T24_und24 T24_size3 T24_zero3 hinf rfl rfl hbytes (by have := hby.few; omega) (by omega) rfl ?_)
          intro v6 hp4 nx4 hn4 he4 hsl4
          refine WD.eff (WN.nil ⟨Chks.nil, WC.at rfl (WC.val 5 v6 (fun _ _ _ => by kernel_rfl) (WD.last (WN.nil ⟨Chks.nil, ?_⟩)))⟩)
          refine WP.region ?_
          refine WO.cons (WC.val 12 (.int .i64 (.ofNat i)) (fun _ _ _ => by kernel_rfl) ?_)
          refine WO.cons (WC.val 13 (.int .i64 (.ofNat (i + 1))) (fun _ _ _ => by rw [← hw]; kernel_rfl) ?_)
          refine WO.cons (WC.val 6 (.int .i64 (.ofNat (i + 1))) (fun _ _ _ => by kernel_rfl) ?_)
          refine WO.nil ?_
          refine ⟨l - (i + 1), by omega, i + 1, v6, by omega, by kernel_rfl, by kernel_rfl, by kernel_rfl, by kernel_rfl, rfl, rfl, ?_, ?_, ?_⟩
          · show nx + 1 + 1 ≤ nx4; omega
          · exact ((he'.trans he2 (by omega)).trans he3 (by omega)).trans he4 (by omega)
          · have ht : ints ((xs.map (keyR x0 x2 x4 x7)).take (i + 1)) = ints ((xs.map (keyR x0 x2 x4 x7)).take i) ++ [.int .i64 (keyR x0 x2 x4 x7 xs[i])] := by
              rw [List.take_add_one, ints, ints, List.map_append]; simp [hix]
            rw [ht]; exact hsl4
    · have hil : l ≤ i := blt_false h
      have hie : i = l := by omega
      subst hie
      refine WP.seq (WP.region ?_)
      refine WO.cons (WC.val 23 (v5) (fun _ _ _ => by kernel_rfl) ?_)
      refine WO.cons (WC.val 4 (v5) (fun _ _ _ => by kernel_rfl) ?_)
      refine WO.nil ?_
      refine WP.ret ⟨rfl, rfl, [v5], by kernel_rfl, ?_⟩
      have ht : (xs.map (keyR x0 x2 x4 x7)).take i = xs.map (keyR x0 x2 x4 x7) := List.take_of_length_le (by rw [List.length_map, hby.len]; exact Nat.le_refl _)
      rw [ht] at hsl
      exact ⟨(show nx ≤ nx' by omega), he1.trans he' (by omega), hsl.le (by omega)⟩
  · exact ⟨0, _, by omega, by kernel_rfl, by kernel_rfl, rfl, by kernel_rfl, rfl, rfl, Nat.le_refl _, HE.refl _ _, hv1⟩
end
end Sw

/- Chapter 24: Same and the criteria, on open data. -/
namespace Sw
noncomputable section
open Go Go.Proofs Go.RowKit
set_option maxRecDepth 100000

theorem vEq_bool (n : Nat) (b : Bool) : vEq n (.bool b) (.bool b) = true := by cases n <;> cases b <;> rfl
theorem eqI_refl (x : Int) : eqI x x = true := eqI_iff.2 rfl
theorem Sl.by {B nx l : Nat} {hp : Ht} {v : Value} {xs : List Int} (h : Sl B 1 hp nx v l (ints xs)) (hl : l ≤ 50) : ∃ a, v = .slice a l l ∧ ByOk hp nx a l l xs := by
  have hlen := h.len
  have heq := h.vEq
  have hxs : xs.length = l := by rw [ints, List.length_map] at hlen; omega
  have key : ∀ (v : Value) (l : Nat) (ys : List Value), Sl B 1 hp nx v l ys → ∃ a, v = .slice a l l ∧ (0 < l → ∃ b m, a = some ⟨b, 0, none⟩ ∧ b < nx ∧ hp.get b = some (.cells ys m)) := by
    intro v l ys h
    cases h with
    | nil => exact ⟨none, rfl, fun k => absurd k (by omega)⟩
    | plain hb hm h h0 hl => exact ⟨_, rfl, fun _ => ⟨_, _, rfl, h, hb⟩⟩
    | grown hb hg hms h h0 h2 h3 hl => exact ⟨_, rfl, fun _ => ⟨_, _, rfl, h, hb⟩⟩
  obtain ⟨a, rfl, h3⟩ := key v l (ints xs) h
  exact ⟨a, rfl, hxs, h3, heq, hl⟩
theorem WC.upd {e : Env} {fm : Fm} {c : Cl} {to : Tm} {ds : List Deferred} {hp : Ht} {nx : Nat} {cs0 : List Nat} {Q : St → Prop} (o : Option Ups) {ups : Ups} (hl : e.low = 0) (h : ∀ rec cs k, c.run e rec fm to ds hp nx cs k = optU o (keOf (fun t _ => t) e.low to ds hp nx cs k)) (ho : o = some ups) (q : Q ⟨to, ds, setAll ups hp, nx, cs0⟩) : WC e fm c ⟨to, ds, hp, nx, cs0⟩ Q :=
  ⟨⟨to, ds, setAll ups hp, nx, cs0⟩, ⟨0, fun n _ cs k => by show c.run e (ev e n) fm to ds hp nx cs k = _; rw [h (ev e n) cs k, ho, hl]; simp only [optU, keOf, updT0, St.at, Nat.add_zero]⟩, q⟩
theorem eMapUpdate_at {T : Ty} {hp : Hp} {t : TypeId} {r : Nat} {k v : Value} {o : Option (AObj Tm)} (h : hp r = o) : eMapUpdate T hp t (.map (some r)) k v = eMapUpdate T (fun _ => o) t (.map (some r)) k v := by
  subst h; unfold eMapUpdate; cases T.und t with
  | none => rfl
  | some d => cases d <;> rfl
theorem eLookup_at {T : Ty} {hp : Hp} {t : TypeId} {r : Nat} {k : Value} {b : Bool} {o : Option (AObj Tm)} (h : hp r = o) : eLookup T hp t (.map (some r)) k b = eLookup T (fun _ => o) t (.map (some r)) k b := by
  subst h; rfl
theorem WC.insert {e : Env} {fm : Fm} {to : Tm} {ds : List Deferred} {hp : Ht} {nx : Nat} {cs0 : List Nat} {Q : St → Prop} {all : List Oper} {ty : TypeId} {pos : String} {aft : Array Edge} {t : TypeId} {m k v : Operand} (r : Nat) (kv vv : Value) {o o' : Option (AObj Tm)} (hl : e.low = 0) (hm : (opd m).run to = .map (some r)) (hk : (opd k).run to = kv) (hv : (opd v).run to = vv)
    (hr : hp.get r = o) (hu : eMapUpdate e.T (fun _ => o) t (.map (some r)) kv vv = some [(r, o')]) (q : Q ⟨to, ds, hp.set r o', nx, cs0⟩) : WC e fm (compOp all ⟨none, .insert t m k v, ty, pos, aft, none⟩) ⟨to, ds, hp, nx, cs0⟩ Q := by
  refine .upd (ups := [(r, o')]) (eMapUpdate e.T hp.get t ((opd m).run to) ((opd k).run to) ((opd v).run to)) hl (fun _ _ _ => rfl) ?_ q
  rw [hm, hk, hv, eMapUpdate_at hr, hu]

theorem same_wf (a1 a2 : Option Addr) (l c1 c2 : Nat) (xs : List Int) (hp : Ht) (nx : Nat) (h1 : ByOk hp nx a1 l c1 xs) (h2 : ByOk hp nx a2 l c2 xs) : WF e5 5 [.slice a1 l c1, .slice a2 l c2] hp nx (fun v _ _ => v = .bool true) := by
  refine WF.body (fi := ⟨Tryz.f5.body.getD .skip, 26, [.tmp 4]⟩) (by kernel_rfl) (by kernel_rfl) (by kernel_rfl) rfl ?_
  refine WP.seq (WP.region ?_)
  refine WO.cons (WC.val 4 (.bool false) (fun _ _ _ => by kernel_rfl) ?_)
  refine WO.nil ?_
  refine WP.seq (WP.seq (WP.region ?_))
  refine WO.cons (WC.val 6 (.slice a1 l c1) (fun _ _ _ => by kernel_rfl) ?_)
  refine WO.cons (WC.val 7 (.int .i64 (.ofNat l)) (fun _ _ _ => by kernel_rfl) ?_)
  refine WO.cons (WC.val 8 (.slice a2 l c2) (fun _ _ _ => by kernel_rfl) ?_)
  refine WO.cons (WC.val 9 (.int .i64 (.ofNat l)) (fun _ _ _ => by kernel_rfl) ?_)
  refine WO.cons (WC.val 10 (.bool (!(eqI (.ofNat l) (.ofNat l)))) (fun _ _ _ => by kernel_rfl) ?_)
  refine WO.nil ?_
  refine WP.cond (!(eqI (.ofNat l) (.ofNat l))) (by kernel_rfl) (fun h => by rw [eqI_refl] at h; cases h) (fun _ => WP.skip ?_)
  refine WP.seq (WP.seq (WP.region ?_))
  refine WO.cons (WC.val 5 (.int .i64 (.ofNat 0)) (fun _ _ _ => by kernel_rfl) ?_)
  refine WO.nil ?_
  have hj : ∀ t : Tm, ((t.set 0 (t.get 0)).set 1 (t.get 1)).set 5 (t.get 5) = t := fun t => by kernel_rfl
  refine WP.block (WP.loop (fun m s => ∃ (i : Nat), i + m = l ∧ s.to.get 0 = .slice a1 l c1 ∧ s.to.get 1 = .slice a2 l c2 ∧ s.to.get 5 = .int .i64 (.ofNat i) ∧ s.ds = [] ∧ s.cs = [] ∧ s.hp = hp ∧ s.nx = nx) ?_ l ?_)
  · rintro m ⟨to, ds, hp', nx', cs⟩ ⟨i, him, g0, g1, g5, hds, hcs, hhp, hnx⟩
    simp only at g0 g1 g5 hds hcs hhp hnx
    subst hds hcs hhp hnx
    rw [← hj to, g0, g1, g5]
    clear g0 g1 g5
    refine WP.seq (WP.seq (WP.region ?_))
    refine WO.cons (WC.val 11 (.int .i64 (.ofNat i)) (fun _ _ _ => by kernel_rfl) ?_)
    refine WO.cons (WC.val 12 (.slice a1 l c1) (fun _ _ _ => by kernel_rfl) ?_)
    refine WO.cons (WC.val 13 (.int .i64 (.ofNat l)) (fun _ _ _ => by kernel_rfl) ?_)
    refine WO.cons (WC.val 14 (.bool (ltI (.ofNat i) (.ofNat l))) (fun _ _ _ => by kernel_rfl) ?_)
    refine WO.nil ?_
    refine WP.cond (ltI (.ofNat i) (.ofNat l)) (by kernel_rfl) (fun h => WP.skip ?_) (fun h => WP.exit ?_)
    · have hil : i < l := blt_iff.1 h
      obtain ⟨b1, m1, rfl, hb1, k1⟩ := h1.cells (by omega)
      obtain ⟨b2, m2, rfl, hb2, k2⟩ := h2.cells (by omega)
      have hix : i < xs.length := by rw [h1.len]; exact hil
      have hw := wrap_succ (i := i) (by have := h1.few; omega)
      refine WP.seq (WP.block (WP.seq (WP.drawS [⟨[0, 1, 2, 3, 4, 5, 6, 7, 8], [0, 1, 2, 3, 4, 5, 6, 7, 8], none⟩] (by kernel_rfl) _ rfl ?_)))
      refine WD.last ?_
      refine WN.consAt rfl (WC.val 17 (.slice (some ⟨b1, 0, none⟩) l c1) (fun _ _ _ => by kernel_rfl) ?_)
      refine WN.consAt rfl (WC.val 18 (.int .i64 (.ofNat i)) (fun _ _ _ => by kernel_rfl) ?_)
      refine WN.consAt rfl (WC.indexSl (k := .i64) b1 0 l c1 i 1 (by kernel_rfl) (by kernel_rfl) T24_und24 T24_size3 hil ?_)
      refine WN.consAt rfl (WC.load1 b1 (0 + i * 1) (.int .i64 xs[i]) (by kernel_rfl) T24_agg3 k1 (by rw [Nat.zero_add, Nat.mul_one]; exact ints_get hix) ?_)
      refine WN.consAt rfl (WC.val 21 (.slice (some ⟨b2, 0, none⟩) l c2) (fun _ _ _ => by kernel_rfl) ?_)
      refine WN.consAt rfl (WC.val 22 (.int .i64 (.ofNat i)) (fun _ _ _ => by kernel_rfl) ?_)
      refine WN.consAt rfl (WC.indexSl (k := .i64) b2 0 l c2 i 1 (by kernel_rfl) (by kernel_rfl) T24_und24 T24_size3 hil ?_)
      refine WN.consAt rfl (WC.load1 b2 (0 + i * 1) (.int .i64 xs[i]) (by kernel_rfl) T24_agg3 k2 (by rw [Nat.zero_add, Nat.mul_one]; exact ints_get hix) ?_)
      refine WN.consAt rfl (WC.val 25 (.bool (!(eqI xs[i] xs[i]))) (fun _ _ _ => by kernel_rfl) ?_)
      refine WN.nil ⟨?_, ?_⟩
      · refine Chks.val (.slice (some ⟨b1, 0, none⟩) l c1) (fun _ => by kernel_rfl) h1.eq ?_
        refine Chks.val (.int .i64 (.ofNat i)) (fun _ => by kernel_rfl) (vEq_int ..) ?_
        refine Chks.opt (.pointer (some ⟨b1, 0 + i * 1, none⟩)) (eIndexAddr e5.T 24 (.slice (some ⟨b1, 0, none⟩) l c1) (.int .i64 (.ofNat i))) (fun _ => by kernel_rfl) (eIndexAddr_sl T24_und24 T24_size3 hil) (vEq_ptr ..) ?_
        refine Chks.opt (.int .i64 xs[i]) (eLoad e5.T hp'.get 3 (.pointer (some ⟨b1, 0 + i * 1, none⟩))) (fun _ => by kernel_rfl) (eLoad_one T24_agg3 k1 (by rw [Nat.zero_add, Nat.mul_one]; exact ints_get hix)) (vEq_int ..) ?_
        refine Chks.val (.slice (some ⟨b2, 0, none⟩) l c2) (fun _ => by kernel_rfl) h2.eq ?_
        refine Chks.val (.int .i64 (.ofNat i)) (fun _ => by kernel_rfl) (vEq_int ..) ?_
        refine Chks.opt (.pointer (some ⟨b2, 0 + i * 1, none⟩)) (eIndexAddr e5.T 24 (.slice (some ⟨b2, 0, none⟩) l c2) (.int .i64 (.ofNat i))) (fun _ => by kernel_rfl) (eIndexAddr_sl T24_und24 T24_size3 hil) (vEq_ptr ..) ?_
        refine Chks.opt (.int .i64 xs[i]) (eLoad e5.T hp'.get 3 (.pointer (some ⟨b2, 0 + i * 1, none⟩))) (fun _ => by kernel_rfl) (eLoad_one T24_agg3 k2 (by rw [Nat.zero_add, Nat.mul_one]; exact ints_get hix)) (vEq_int ..) ?_
        exact Chks.val (.bool (!(eqI xs[i] xs[i]))) (fun _ => by kernel_rfl) (vEq_bool ..) Chks.nil
      · refine WP.cond (!(eqI xs[i] xs[i])) (by kernel_rfl) (fun h => by rw [eqI_refl] at h; cases h) (fun _ => WP.skip ?_)
        refine WP.region ?_
        refine WO.cons (WC.val 15 (.int .i64 (.ofNat i)) (fun _ _ _ => by kernel_rfl) ?_)
        refine WO.cons (WC.val 16 (.int .i64 (.ofNat (i + 1))) (fun _ _ _ => by rw [← hw]; kernel_rfl) ?_)
        refine WO.cons (WC.val 5 (.int .i64 (.ofNat (i + 1))) (fun _ _ _ => by kernel_rfl) ?_)
        refine WO.nil ?_
        exact ⟨l - (i + 1), by omega, i + 1, by omega, by kernel_rfl, by kernel_rfl, by kernel_rfl, rfl, rfl, rfl, rfl⟩
    · refine WP.seq (WP.region ?_)
      refine WO.cons (WC.val 4 (.bool true) (fun _ _ _ => by kernel_rfl) ?_)
      refine WO.nil ?_
      exact WP.ret ⟨rfl, rfl, [.bool true], by kernel_rfl, rfl⟩
  · exact ⟨0, by omega, by kernel_rfl, by kernel_rfl, by kernel_rfl, rfl, rfl, rfl, rfl⟩

def crit : List MapEntry := [⟨.int .i64 1, .func (.func 37) #[] #[], 0⟩, ⟨.int .i64 2, .func (.func 38) #[] #[], 1⟩, ⟨.int .i64 3, .func (.func 39) #[] #[], 2⟩, ⟨.int .i64 4, .func (.func 40) #[] #[], 3⟩, ⟨.int .i64 5, .func (.func 41) #[] #[], 4⟩]
theorem criteria_wf (hp : Ht) (nx : Nat) : WF e5 17 [] hp nx (fun v hp' nx' => v = .map (some nx) ∧ nx' = nx + 1 ∧ HE nx hp hp' ∧ hp'.get nx = some (.map crit 5)) := by
  refine WF.body (fi := ⟨Tryz.f17.body.getD .skip, 3, [.tmp 0]⟩) (by kernel_rfl) (by kernel_rfl) (by kernel_rfl) rfl ?_
  refine WP.seq (WP.region ?_)
  refine WO.cons (WC.val 0 (.map none) (fun _ _ _ => by kernel_rfl) ?_)
  refine WO.nil ?_
  refine WP.seq (WP.region ?_)
  refine WO.cons (WC.eff 1 (.map (some nx)) [(nx, some (.map [] 0))] 1 rfl (fun _ _ _ => by kernel_rfl) ?_)
  generalize hh : setAll [(nx, some (.map [] 0))] hp = hp0
  have he0 : HE nx hp hp0 := by subst hh; exact HE.set _ _ (Nat.le_refl _)
  have hr0 : hp0.get nx = (some (.map [] 0)) := by subst hh; exact Tr.get_same ..
  refine WO.cons (WC.insert (o' := (some (.map [⟨.int .i64 1, .func (.func 37) #[] #[], 0⟩] 1))) nx (.int .i64 1) (.func (.func 37) #[] #[]) rfl (by kernel_rfl) (by kernel_rfl) (by kernel_rfl) hr0 (by kernel_rfl) ?_)
  have he1 := he0.trans (HE.set hp0 (some (.map [⟨.int .i64 1, .func (.func 37) #[] #[], 0⟩] 1)) (Nat.le_refl nx)) (Nat.le_refl _)
  have hr1 := Tr.get_same hp0 nx (some (.map [⟨.int .i64 1, .func (.func 37) #[] #[], 0⟩] 1))
  generalize hp0.set nx (some (.map [⟨.int .i64 1, .func (.func 37) #[] #[], 0⟩] 1)) = hp1 at *
  refine WO.cons (WC.insert (o' := (some (.map [⟨.int .i64 1, .func (.func 37) #[] #[], 0⟩, ⟨.int .i64 2, .func (.func 38) #[] #[], 1⟩] 2))) nx (.int .i64 2) (.func (.func 38) #[] #[]) rfl (by kernel_rfl) (by kernel_rfl) (by kernel_rfl) hr1 (by kernel_rfl) ?_)
  have he2 := he1.trans (HE.set hp1 (some (.map [⟨.int .i64 1, .func (.func 37) #[] #[], 0⟩, ⟨.int .i64 2, .func (.func 38) #[] #[], 1⟩] 2)) (Nat.le_refl nx)) (Nat.le_refl _)
  have hr2 := Tr.get_same hp1 nx (some (.map [⟨.int .i64 1, .func (.func 37) #[] #[], 0⟩, ⟨.int .i64 2, .func (.func 38) #[] #[], 1⟩] 2))
  generalize hp1.set nx (some (.map [⟨.int .i64 1, .func (.func 37) #[] #[], 0⟩, ⟨.int .i64 2, .func (.func 38) #[] #[], 1⟩] 2)) = hp2 at *
  refine WO.cons (WC.insert (o' := (some (.map [⟨.int .i64 1, .func (.func 37) #[] #[], 0⟩, ⟨.int .i64 2, .func (.func 38) #[] #[], 1⟩, ⟨.int .i64 3, .func (.func 39) #[] #[], 2⟩] 3))) nx (.int .i64 3) (.func (.func 39) #[] #[]) rfl (by kernel_rfl) (by kernel_rfl) (by kernel_rfl) hr2 (by kernel_rfl) ?_)
  have he3 := he2.trans (HE.set hp2 (some (.map [⟨.int .i64 1, .func (.func 37) #[] #[], 0⟩, ⟨.int .i64 2, .func (.func 38) #[] #[], 1⟩, ⟨.int .i64 3, .func (.func 39) #[] #[], 2⟩] 3)) (Nat.le_refl nx)) (Nat.le_refl _)
  have hr3 := Tr.get_same hp2 nx (some (.map [⟨.int .i64 1, .func (.func 37) #[] #[], 0⟩, ⟨.int .i64 2, .func (.func 38) #[] #[], 1⟩, ⟨.int .i64 3, .func (.func 39) #[] #[], 2⟩] 3))
  generalize hp2.set nx (some (.map [⟨.int .i64 1, .func (.func 37) #[] #[], 0⟩, ⟨.int .i64 2, .func (.func 38) #[] #[], 1⟩, ⟨.int .i64 3, .func (.func 39) #[] #[], 2⟩] 3)) = hp3 at *
  refine WO.cons (WC.insert (o' := (some (.map [⟨.int .i64 1, .func (.func 37) #[] #[], 0⟩, ⟨.int .i64 2, .func (.func 38) #[] #[], 1⟩, ⟨.int .i64 3, .func (.func 39) #[] #[], 2⟩, ⟨.int .i64 4, .func (.func 40) #[] #[], 3⟩] 4))) nx (.int .i64 4) (.func (.func 40) #[] #[]) rfl (by kernel_rfl) (by kernel_rfl) (by kernel_rfl) hr3 (by kernel_rfl) ?_)
  have he4 := he3.trans (HE.set hp3 (some (.map [⟨.int .i64 1, .func (.func 37) #[] #[], 0⟩, ⟨.int .i64 2, .func (.func 38) #[] #[], 1⟩, ⟨.int .i64 3, .func (.func 39) #[] #[], 2⟩, ⟨.int .i64 4, .func (.func 40) #[] #[], 3⟩] 4)) (Nat.le_refl nx)) (Nat.le_refl _)
  have hr4 := Tr.get_same hp3 nx (some (.map [⟨.int .i64 1, .func (.func 37) #[] #[], 0⟩, ⟨.int .i64 2, .func (.func 38) #[] #[], 1⟩, ⟨.int .i64 3, .func (.func 39) #[] #[], 2⟩, ⟨.int .i64 4, .func (.func 40) #[] #[], 3⟩] 4))
  generalize hp3.set nx (some (.map [⟨.int .i64 1, .func (.func 37) #[] #[], 0⟩, ⟨.int .i64 2, .func (.func 38) #[] #[], 1⟩, ⟨.int .i64 3, .func (.func 39) #[] #[], 2⟩, ⟨.int .i64 4, .func (.func 40) #[] #[], 3⟩] 4)) = hp4 at *
  refine WO.cons (WC.insert (o' := (some (.map [⟨.int .i64 1, .func (.func 37) #[] #[], 0⟩, ⟨.int .i64 2, .func (.func 38) #[] #[], 1⟩, ⟨.int .i64 3, .func (.func 39) #[] #[], 2⟩, ⟨.int .i64 4, .func (.func 40) #[] #[], 3⟩, ⟨.int .i64 5, .func (.func 41) #[] #[], 4⟩] 5))) nx (.int .i64 5) (.func (.func 41) #[] #[]) rfl (by kernel_rfl) (by kernel_rfl) (by kernel_rfl) hr4 (by kernel_rfl) ?_)
  have he5 := he4.trans (HE.set hp4 (some (.map [⟨.int .i64 1, .func (.func 37) #[] #[], 0⟩, ⟨.int .i64 2, .func (.func 38) #[] #[], 1⟩, ⟨.int .i64 3, .func (.func 39) #[] #[], 2⟩, ⟨.int .i64 4, .func (.func 40) #[] #[], 3⟩, ⟨.int .i64 5, .func (.func 41) #[] #[], 4⟩] 5)) (Nat.le_refl nx)) (Nat.le_refl _)
  have hr5 := Tr.get_same hp4 nx (some (.map [⟨.int .i64 1, .func (.func 37) #[] #[], 0⟩, ⟨.int .i64 2, .func (.func 38) #[] #[], 1⟩, ⟨.int .i64 3, .func (.func 39) #[] #[], 2⟩, ⟨.int .i64 4, .func (.func 40) #[] #[], 3⟩, ⟨.int .i64 5, .func (.func 41) #[] #[], 4⟩] 5))
  generalize hp4.set nx (some (.map [⟨.int .i64 1, .func (.func 37) #[] #[], 0⟩, ⟨.int .i64 2, .func (.func 38) #[] #[], 1⟩, ⟨.int .i64 3, .func (.func 39) #[] #[], 2⟩, ⟨.int .i64 4, .func (.func 40) #[] #[], 3⟩, ⟨.int .i64 5, .func (.func 41) #[] #[], 4⟩] 5)) = hp5 at *
  refine WO.cons (WC.val 2 (.map (some nx)) (fun _ _ _ => by kernel_rfl) ?_)
  refine WO.cons (WC.val 0 (.map (some nx)) (fun _ _ _ => by kernel_rfl) ?_)
  refine WO.nil ?_
  exact WP.ret ⟨rfl, rfl, [.map (some nx)], by kernel_rfl, rfl, rfl, he5, hr5⟩
end
end Sw

/- Chapter 24: Keys of the program, on open data. -/
namespace Sw
noncomputable section
open Go Go.Proofs Go.RowKit
set_option maxRecDepth 100000

theorem look_none (r : Nat) (c : Int) (h1 : eqI c 1 = false) (h2 : eqI c 2 = false) (h3 : eqI c 3 = false) (h4 : eqI c 4 = false) (h5 : eqI c 5 = false) : eLookup e5.T (fun _ => some (.map crit 5)) 92 (.map (some r)) (.int .i64 c) true = some (.tuple ⟨[.nilFunc, .bool false]⟩) := by
  have hk : ∀ k : Int, eqKey e5.T 3 (.int .i64 c) (.int .i64 k) = some (eqI c k) := fun k => by kernel_rfl
  have e1 : findE (eqKey e5.T 3 (.int .i64 c)) crit 0 = some none := by simp only [crit, findE, hk, h1, h2, h3, h4, h5]
  have e2 : eLookup e5.T (fun _ => some (.map crit 5)) 92 (.map (some r)) (.int .i64 c) true = (match findE (eqKey e5.T 3 (.int .i64 c)) crit 0 with
    | some (some (_, e)) => some (.tuple #[e.val, .bool true])
    | some none => some (.tuple ⟨[.nilFunc, .bool false]⟩)
    | none => none) := by kernel_rfl
  rw [e2, e1]
theorem look1 (r : Nat) : eLookup e5.T (fun _ => some (.map crit 5)) 92 (.map (some r)) (.int .i64 1) true = some (.tuple ⟨[.func (.func 37) #[] #[], .bool true]⟩) := by kernel_rfl
theorem look2 (r : Nat) : eLookup e5.T (fun _ => some (.map crit 5)) 92 (.map (some r)) (.int .i64 2) true = some (.tuple ⟨[.func (.func 38) #[] #[], .bool true]⟩) := by kernel_rfl
theorem look3 (r : Nat) : eLookup e5.T (fun _ => some (.map crit 5)) 92 (.map (some r)) (.int .i64 3) true = some (.tuple ⟨[.func (.func 39) #[] #[], .bool true]⟩) := by kernel_rfl
theorem look4 (r : Nat) : eLookup e5.T (fun _ => some (.map crit 5)) 92 (.map (some r)) (.int .i64 4) true = some (.tuple ⟨[.func (.func 40) #[] #[], .bool true]⟩) := by kernel_rfl
theorem look5 (r : Nat) : eLookup e5.T (fun _ => some (.map crit 5)) 92 (.map (some r)) (.int .i64 5) true = some (.tuple ⟨[.func (.func 41) #[] #[], .bool true]⟩) := by kernel_rfl
theorem five (q : Int) : q = 1 ∨ q = 2 ∨ q = 3 ∨ q = 4 ∨ q = 5 ∨ (eqI q 1 = false ∧ eqI q 2 = false ∧ eqI q 3 = false ∧ eqI q 4 = false ∧ eqI q 5 = false) := by
  have key : ∀ k : Int, q = k ∨ eqI q k = false := fun k => by
    cases h : eqI q k with
    | true => exact .inl (eqI_iff.1 h)
    | false => exact .inr rfl
  rcases key 1 with h1 | h1
  · exact .inl h1
  rcases key 2 with h2 | h2
  · exact .inr (.inl h2)
  rcases key 3 with h3 | h3
  · exact .inr (.inr (.inl h3))
  rcases key 4 with h4 | h4
  · exact .inr (.inr (.inr (.inl h4)))
  rcases key 5 with h5 | h5
  · exact .inr (.inr (.inr (.inr (.inl h5))))
  exact .inr (.inr (.inr (.inr (.inr ⟨h1, h2, h3, h4, h5⟩))))

theorem keys_wf (x0 x1 x2 x3 x4 x5 x6 x7 : Int) (a : Option Addr) (l c : Nat) (xs : List Int) (hp : Ht) (nx : Nat) (hby : ByOk hp nx a l c xs) : WF e5 6 [sV x0 x1 x2 x3 x4 x5 x6 x7, .slice a l c] hp nx (KeysPost l (xs.map (keyR x0 x2 x4 x7)) hp nx) := by
  refine WF.body (fi := ⟨Tryz.f6.body.getD .skip, 34, [.tmp 4]⟩) (by kernel_rfl) (by kernel_rfl) (by kernel_rfl) rfl ?_
  refine WP.seq (WP.region ?_)
  refine WO.cons (WC.box (sV x0 x1 x2 x3 x4 x5 x6 x7) (sC x0 x1 x2 x3 x4 x5 x6 x7) rfl rfl rfl ?_)
  refine WO.cons (WC.val 4 (.slice none 0 0) (fun _ _ _ => by kernel_rfl) ?_)
  refine WO.nil ?_
  have he0 : HE nx hp (hp.set nx (some (.cells (sC x0 x1 x2 x3 x4 x5 x6 x7) CMeta.plain))) := HE.set _ _ (Nat.le_refl _)
  have hs0 := Tr.get_same hp nx (some (.cells (sC x0 x1 x2 x3 x4 x5 x6 x7) CMeta.plain))
  generalize hp.set nx (some (.cells (sC x0 x1 x2 x3 x4 x5 x6 x7) CMeta.plain)) = hp0 at *
  refine WP.seq (WP.region ?_)
  refine WO.cons (WC.call 11 17 [] (fun _ _ _ => by kernel_rfl) ((criteria_wf hp0 (nx + 1)).mono ?_))
  rintro _ hp1 _ ⟨rfl, rfl, he1, hm1⟩
  refine WO.cons (WC.val 5 (.map (some (nx + 1))) (fun _ _ _ => by kernel_rfl) ?_)
  refine WO.nil ?_
  have hs1 := he1.get hs0 (Nat.lt_succ_self _)
  have he2 := he0.trans he1 (Nat.le_succ _)
  have hone : 0 < l → ∃ b m, a = some ⟨b, 0, none⟩ ∧ b < nx ∧ hp1.get b = some (.cells (ints xs) m) := fun k => by
    obtain ⟨b, m, h1, h2, h3⟩ := hby.cells k; exact ⟨b, m, h1, h2, he2.get h3 h2⟩
  refine WP.seq (WP.seq (WP.region ?_))
  refine WO.cons (WC.val 12 (.slice a l c) (fun _ _ _ => by kernel_rfl) ?_)
  refine WO.cons (WC.val 13 (.int .i64 (.ofNat l)) (fun _ _ _ => by kernel_rfl) ?_)
  refine WO.cons (WC.val 14 (.int .i64 (.ofNat 0)) (fun _ _ _ => by kernel_rfl) ?_)
  refine WO.nil ?_
  have hj : ∀ t : Tm, ((((((t.set 2 (t.get 2)).set 4 (t.get 4)).set 5 (t.get 5)).set 12 (t.get 12)).set 13 (t.get 13)).set 14 (t.get 14)) = t := fun t => by kernel_rfl
  refine WP.block (WP.loop (fun m s => ∃ (i : Nat) (v4 : Value), i + m = l ∧ s.to.get 2 = .pointer (some ⟨nx, 0, none⟩) ∧ s.to.get 4 = v4 ∧ s.to.get 5 = .map (some (nx + 1)) ∧ s.to.get 12 = .slice a l c ∧ s.to.get 13 = .int .i64 (.ofNat l) ∧ s.to.get 14 = .int .i64 (.ofNat i) ∧ s.ds = [] ∧ s.cs = [] ∧ nx + 1 + 1 ≤ s.nx ∧ HE (nx + 1 + 1) hp1 s.hp ∧ Sl (nx + 1 + 1) 1 s.hp s.nx v4 i (ints ((xs.map (keyR x0 x2 x4 x7)).take i))) ?_ l ?_)
  · rintro m ⟨to, ds, hp', nx', cs⟩ ⟨i, v4, him, g2, g4, g5, g12, g13, g14, hds, hcs, hnx', he', hsl⟩
    simp only at g2 g4 g5 g12 g13 g14 hds hcs hnx' he' hsl
    subst hds hcs
    rw [← hj to, g2, g4, g5, g12, g13, g14]
    clear g2 g4 g5 g12 g13 g14
    refine WP.seq (WP.region ?_)
    refine WO.cons (WC.val 15 (.bool (ltI (.ofNat i) (.ofNat l))) (fun _ _ _ => by kernel_rfl) ?_)
    refine WO.nil ?_
    refine WP.seq (WP.cond (ltI (.ofNat i) (.ofNat l)) (by kernel_rfl) (fun h => WP.skip ?_) (fun h => WP.exit ?_))
    · have hil : i < l := blt_iff.1 h
      obtain ⟨b, bm, rfl, hb1, hb2⟩ := hone (by omega)
      have hix : i < xs.length := by rw [hby.len]; exact hil
      have hb3 := he'.get hb2 (by omega)
      have hs3 := he'.get hs1 (by omega)
      have hm3 := he'.get hm1 (by omega)
      have hw := wrap_succ (i := i) (by have := hby.few; omega)
      have ht : ints ((xs.map (keyR x0 x2 x4 x7)).take (i + 1)) = ints ((xs.map (keyR x0 x2 x4 x7)).take i) ++ [.int .i64 (keyR x0 x2 x4 x7 xs[i])] := by
        rw [List.take_add_one, ints, ints, List.map_append]; simp [hix]
      have hx := ints_get hix
      obtain ⟨inf, hinf, hbytes⟩ := T24_info3
      generalize xs[i] = q at ht hx
      refine WP.seq (WP.block (WP.seq (WP.region ?_)))
      refine WO.cons (WC.indexSl (k := .i64) b 0 l c i 1 (by kernel_rfl) (by kernel_rfl) T24_und24 T24_size3 hil ?_)
      refine WO.cons (WC.load1 b (0 + i * 1) (.int .i64 q) (by kernel_rfl) T24_agg3 hb3 (by rw [Nat.zero_add, Nat.mul_one]; exact hx) ?_)
      refine WO.cons (WC.val 7 (.int .i64 q) (fun _ _ _ => by kernel_rfl) ?_)
      refine WO.nil ?_
      refine WP.seq (WP.region ?_)
      refine WO.cons (WC.val 8 (.int .i64 0) (fun _ _ _ => by kernel_rfl) ?_)
      refine WO.nil ?_
      refine WP.seq (WP.seq (WP.region ?_))
      refine WO.cons (WC.val 19 (.map (some (nx + 1))) (fun _ _ _ => by kernel_rfl) ?_)
      refine WO.cons (WC.val 20 (.int .i64 q) (fun _ _ _ => by kernel_rfl) ?_)
      rcases five q with rfl | rfl | rfl | rfl | rfl | ⟨h1, h2, h3, h4, h5⟩
      · refine WO.cons (WC.opt 21 (eLookup e5.T hp'.get 92 (.map (some (nx + 1))) (.int .i64 1) true) (fun _ _ _ => by kernel_rfl) ((eLookup_at hm3).trans (look1 (nx + 1))) ?_)
        refine WO.cons (WC.val 18 (.tuple ⟨[.func (.func 37) #[] #[], .bool true]⟩) (fun _ _ _ => by kernel_rfl) ?_)
        refine WO.cons (WC.val 22 (.func (.func 37) #[] #[]) (fun _ _ _ => by kernel_rfl) ?_)
        refine WO.cons (WC.val 23 (.bool true) (fun _ _ _ => by kernel_rfl) ?_)
        refine WO.cons (WC.val 9 (.func (.func 37) #[] #[]) (fun _ _ _ => by kernel_rfl) ?_)
        refine WO.cons (WC.val 10 (.bool true) (fun _ _ _ => by kernel_rfl) ?_)
        refine WO.nil ?_
        refine WP.seq (WP.region ?_)
        refine WO.cons (WC.val 24 (.bool true) (fun _ _ _ => by kernel_rfl) ?_)
        refine WO.nil ?_
        refine WP.cond true (by kernel_rfl) (fun _ => ?_) (fun h => by cases h)
        refine WP.region ?_
        refine WO.cons (WC.val 25 (.func (.func 37) #[] #[]) (fun _ _ _ => by kernel_rfl) ?_)
        refine WO.cons (WC.loadS nx 0 (sC x0 x1 x2 x3 x4 x5 x6 x7) (by kernel_rfl) T24_agg23 T24_size23 hs3 rfl ?_)
        refine WO.cons (WC.call 27 37 [sV x0 x1 x2 x3 x4 x5 x6 x7] (fun _ _ _ => by kernel_rfl) ((crit1_wf x0 x1 x2 x3 x4 x5 x6 x7 hp' nx').mono ?_))
        rintro _ hp2 nx2 ⟨rfl, hnB, heB⟩
        have hslB := hsl.mono heB hnB
        refine WO.cons (WC.val 8 (.int .i64 (negE x4)) (fun _ _ _ => by kernel_rfl) ?_)
        refine WO.nil ?_
        refine WP.region ?_
        refine WO.cons (WC.val 28 (v4) (fun _ _ _ => by kernel_rfl) ?_)
        refine WO.cons (WC.val 29 (.int .i64 (negE x4)) (fun _ _ _ => by kernel_rfl) ?_)
        refine WO.cons (WC.buildSlice [.int .i64 (negE x4)] rfl (by kernel_rfl) ?_)
        refine WO.cons (WC.append1 (b := nx2) (B := nx + 1 + 1) rfl (by kernel_rfl) (by kernel_rfl) (hslB.mono (HE.set _ _ (Nat.le_refl _)) (Nat.le_succ _)) (Tr.get_same ..) T24_und24 T24_und24 T24_size3 T24_zero3 hinf rfl rfl hbytes (by have := hby.few; omega) (by omega) rfl ?_)
        intro v6 hp4 nx4 hn4 he4 hsl4
        refine WO.cons (WC.val 4 (v6) (fun _ _ _ => by kernel_rfl) ?_)
        refine WO.nil ?_
        refine WP.region ?_
        refine WO.cons (WC.val 32 (.int .i64 (.ofNat (i + 1))) (fun _ _ _ => by rw [← hw]; kernel_rfl) ?_)
        refine WO.cons (WC.val 14 (.int .i64 (.ofNat (i + 1))) (fun _ _ _ => by kernel_rfl) ?_)
        refine WO.nil ?_
        refine ⟨l - (i + 1), by omega, i + 1, v6, by omega, by kernel_rfl, by kernel_rfl, by kernel_rfl, by kernel_rfl, by kernel_rfl, by kernel_rfl, rfl, rfl, ?_, ?_, ?_⟩
        · show nx + 1 + 1 ≤ nx4; omega
        · exact ((he'.trans heB (by omega)).trans (HE.set _ (some (.cells [.int .i64 (negE x4)] CMeta.plain)) (Nat.le_refl _)) (by omega)).trans he4 (by omega)
        · rw [ht]; exact hsl4
      · refine WO.cons (WC.opt 21 (eLookup e5.T hp'.get 92 (.map (some (nx + 1))) (.int .i64 2) true) (fun _ _ _ => by kernel_rfl) ((eLookup_at hm3).trans (look2 (nx + 1))) ?_)
        refine WO.cons (WC.val 18 (.tuple ⟨[.func (.func 38) #[] #[], .bool true]⟩) (fun _ _ _ => by kernel_rfl) ?_)
        refine WO.cons (WC.val 22 (.func (.func 38) #[] #[]) (fun _ _ _ => by kernel_rfl) ?_)
        refine WO.cons (WC.val 23 (.bool true) (fun _ _ _ => by kernel_rfl) ?_)
        refine WO.cons (WC.val 9 (.func (.func 38) #[] #[]) (fun _ _ _ => by kernel_rfl) ?_)
        refine WO.cons (WC.val 10 (.bool true) (fun _ _ _ => by kernel_rfl) ?_)
        refine WO.nil ?_
        refine WP.seq (WP.region ?_)
        refine WO.cons (WC.val 24 (.bool true) (fun _ _ _ => by kernel_rfl) ?_)
        refine WO.nil ?_
        refine WP.cond true (by kernel_rfl) (fun _ => ?_) (fun h => by cases h)
        refine WP.region ?_
        refine WO.cons (WC.val 25 (.func (.func 38) #[] #[]) (fun _ _ _ => by kernel_rfl) ?_)
        refine WO.cons (WC.loadS nx 0 (sC x0 x1 x2 x3 x4 x5 x6 x7) (by kernel_rfl) T24_agg23 T24_size23 hs3 rfl ?_)
        refine WO.cons (WC.call 27 38 [sV x0 x1 x2 x3 x4 x5 x6 x7] (fun _ _ _ => by kernel_rfl) ((crit2_wf x0 x1 x2 x3 x4 x5 x6 x7 hp' nx').mono ?_))
        rintro _ hp2 nx2 ⟨rfl, hnB, heB⟩
        have hslB := hsl.mono heB hnB
        refine WO.cons (WC.val 8 (.int .i64 (x4)) (fun _ _ _ => by kernel_rfl) ?_)
        refine WO.nil ?_
        refine WP.region ?_
        refine WO.cons (WC.val 28 (v4) (fun _ _ _ => by kernel_rfl) ?_)
        refine WO.cons (WC.val 29 (.int .i64 (x4)) (fun _ _ _ => by kernel_rfl) ?_)
        refine WO.cons (WC.buildSlice [.int .i64 (x4)] rfl (by kernel_rfl) ?_)
        refine WO.cons (WC.append1 (b := nx2) (B := nx + 1 + 1) rfl (by kernel_rfl) (by kernel_rfl) (hslB.mono (HE.set _ _ (Nat.le_refl _)) (Nat.le_succ _)) (Tr.get_same ..) T24_und24 T24_und24 T24_size3 T24_zero3 hinf rfl rfl hbytes (by have := hby.few; omega) (by omega) rfl ?_)
        intro v6 hp4 nx4 hn4 he4 hsl4
        refine WO.cons (WC.val 4 (v6) (fun _ _ _ => by kernel_rfl) ?_)
        refine WO.nil ?_
        refine WP.region ?_
        refine WO.cons (WC.val 32 (.int .i64 (.ofNat (i + 1))) (fun _ _ _ => by rw [← hw]; kernel_rfl) ?_)
        refine WO.cons (WC.val 14 (.int .i64 (.ofNat (i + 1))) (fun _ _ _ => by kernel_rfl) ?_)
        refine WO.nil ?_
        refine ⟨l - (i + 1), by omega, i + 1, v6, by omega, by kernel_rfl, by kernel_rfl, by kernel_rfl, by kernel_rfl, by kernel_rfl, by kernel_rfl, rfl, rfl, ?_, ?_, ?_⟩
        · show nx + 1 + 1 ≤ nx4; omega
        · exact ((he'.trans heB (by omega)).trans (HE.set _ (some (.cells [.int .i64 (x4)] CMeta.plain)) (Nat.le_refl _)) (by omega)).trans he4 (by omega)
        · rw [ht]; exact hsl4
      · refine WO.cons (WC.opt 21 (eLookup e5.T hp'.get 92 (.map (some (nx + 1))) (.int .i64 3) true) (fun _ _ _ => by kernel_rfl) ((eLookup_at hm3).trans (look3 (nx + 1))) ?_)
        refine WO.cons (WC.val 18 (.tuple ⟨[.func (.func 39) #[] #[], .bool true]⟩) (fun _ _ _ => by kernel_rfl) ?_)
        refine WO.cons (WC.val 22 (.func (.func 39) #[] #[]) (fun _ _ _ => by kernel_rfl) ?_)
        refine WO.cons (WC.val 23 (.bool true) (fun _ _ _ => by kernel_rfl) ?_)
        refine WO.cons (WC.val 9 (.func (.func 39) #[] #[]) (fun _ _ _ => by kernel_rfl) ?_)
        refine WO.cons (WC.val 10 (.bool true) (fun _ _ _ => by kernel_rfl) ?_)
        refine WO.nil ?_
        refine WP.seq (WP.region ?_)
        refine WO.cons (WC.val 24 (.bool true) (fun _ _ _ => by kernel_rfl) ?_)
        refine WO.nil ?_
        refine WP.cond true (by kernel_rfl) (fun _ => ?_) (fun h => by cases h)
        refine WP.region ?_
        refine WO.cons (WC.val 25 (.func (.func 39) #[] #[]) (fun _ _ _ => by kernel_rfl) ?_)
        refine WO.cons (WC.loadS nx 0 (sC x0 x1 x2 x3 x4 x5 x6 x7) (by kernel_rfl) T24_agg23 T24_size23 hs3 rfl ?_)
        refine WO.cons (WC.call 27 39 [sV x0 x1 x2 x3 x4 x5 x6 x7] (fun _ _ _ => by kernel_rfl) ((crit3_wf x0 x1 x2 x3 x4 x5 x6 x7 hp' nx').mono ?_))
        rintro _ hp2 nx2 ⟨rfl, hnB, heB⟩
        have hslB := hsl.mono heB hnB
        refine WO.cons (WC.val 8 (.int .i64 (negE x2)) (fun _ _ _ => by kernel_rfl) ?_)
        refine WO.nil ?_
        refine WP.region ?_
        refine WO.cons (WC.val 28 (v4) (fun _ _ _ => by kernel_rfl) ?_)
        refine WO.cons (WC.val 29 (.int .i64 (negE x2)) (fun _ _ _ => by kernel_rfl) ?_)
        refine WO.cons (WC.buildSlice [.int .i64 (negE x2)] rfl (by kernel_rfl) ?_)
        refine WO.cons (WC.append1 (b := nx2) (B := nx + 1 + 1) rfl (by kernel_rfl) (by kernel_rfl) (hslB.mono (HE.set _ _ (Nat.le_refl _)) (Nat.le_succ _)) (Tr.get_same ..) T24_und24 T24_und24 T24_size3 T24_zero3 hinf rfl rfl hbytes (by have := hby.few; omega) (by omega) rfl ?_)
        intro v6 hp4 nx4 hn4 he4 hsl4
        refine WO.cons (WC.val 4 (v6) (fun _ _ _ => by kernel_rfl) ?_)
        refine WO.nil ?_
        refine WP.region ?_
        refine WO.cons (WC.val 32 (.int .i64 (.ofNat (i + 1))) (fun _ _ _ => by rw [← hw]; kernel_rfl) ?_)
        refine WO.cons (WC.val 14 (.int .i64 (.ofNat (i + 1))) (fun _ _ _ => by kernel_rfl) ?_)
        refine WO.nil ?_
        refine ⟨l - (i + 1), by omega, i + 1, v6, by omega, by kernel_rfl, by kernel_rfl, by kernel_rfl, by kernel_rfl, by kernel_rfl, by kernel_rfl, rfl, rfl, ?_, ?_, ?_⟩
        · show nx + 1 + 1 ≤ nx4; omega
        · exact ((he'.trans heB (by omega)).trans (HE.set _ (some (.cells [.int .i64 (negE x2)] CMeta.plain)) (Nat.le_refl _)) (by omega)).trans he4 (by omega)
        · rw [ht]; exact hsl4
      · refine WO.cons (WC.opt 21 (eLookup e5.T hp'.get 92 (.map (some (nx + 1))) (.int .i64 4) true) (fun _ _ _ => by kernel_rfl) ((eLookup_at hm3).trans (look4 (nx + 1))) ?_)
        refine WO.cons (WC.val 18 (.tuple ⟨[.func (.func 40) #[] #[], .bool true]⟩) (fun _ _ _ => by kernel_rfl) ?_)
        refine WO.cons (WC.val 22 (.func (.func 40) #[] #[]) (fun _ _ _ => by kernel_rfl) ?_)
        refine WO.cons (WC.val 23 (.bool true) (fun _ _ _ => by kernel_rfl) ?_)
        refine WO.cons (WC.val 9 (.func (.func 40) #[] #[]) (fun _ _ _ => by kernel_rfl) ?_)
        refine WO.cons (WC.val 10 (.bool true) (fun _ _ _ => by kernel_rfl) ?_)
        refine WO.nil ?_
        refine WP.seq (WP.region ?_)
        refine WO.cons (WC.val 24 (.bool true) (fun _ _ _ => by kernel_rfl) ?_)
        refine WO.nil ?_
        refine WP.cond true (by kernel_rfl) (fun _ => ?_) (fun h => by cases h)
        refine WP.region ?_
        refine WO.cons (WC.val 25 (.func (.func 40) #[] #[]) (fun _ _ _ => by kernel_rfl) ?_)
        refine WO.cons (WC.loadS nx 0 (sC x0 x1 x2 x3 x4 x5 x6 x7) (by kernel_rfl) T24_agg23 T24_size23 hs3 rfl ?_)
        refine WO.cons (WC.call 27 40 [sV x0 x1 x2 x3 x4 x5 x6 x7] (fun _ _ _ => by kernel_rfl) ((crit4_wf x0 x1 x2 x3 x4 x5 x6 x7 hp' nx').mono ?_))
        rintro _ hp2 nx2 ⟨rfl, hnB, heB⟩
        have hslB := hsl.mono heB hnB
        refine WO.cons (WC.val 8 (.int .i64 (x0)) (fun _ _ _ => by kernel_rfl) ?_)
        refine WO.nil ?_
        refine WP.region ?_
        refine WO.cons (WC.val 28 (v4) (fun _ _ _ => by kernel_rfl) ?_)
        refine WO.cons (WC.val 29 (.int .i64 (x0)) (fun _ _ _ => by kernel_rfl) ?_)
        refine WO.cons (WC.buildSlice [.int .i64 (x0)] rfl (by kernel_rfl) ?_)
        refine WO.cons (WC.append1 (b := nx2) (B := nx + 1 + 1) rfl (by kernel_rfl) (by kernel_rfl) (hslB.mono (HE.set _ _ (Nat.le_refl _)) (Nat.le_succ _)) (Tr.get_same ..) T24_und24 T24_und24 T24_size3 T24_zero3 hinf rfl rfl hbytes (by have := hby.few; omega) (by omega) rfl ?_)
        intro v6 hp4 nx4 hn4 he4 hsl4
        refine WO.cons (WC.val 4 (v6) (fun _ _ _ => by kernel_rfl) ?_)
        refine WO.nil ?_
        refine WP.region ?_
        refine WO.cons (WC.val 32 (.int .i64 (.ofNat (i + 1))) (fun _ _ _ => by rw [← hw]; kernel_rfl) ?_)
        refine WO.cons (WC.val 14 (.int .i64 (.ofNat (i + 1))) (fun _ _ _ => by kernel_rfl) ?_)
        refine WO.nil ?_
        refine ⟨l - (i + 1), by omega, i + 1, v6, by omega, by kernel_rfl, by kernel_rfl, by kernel_rfl, by kernel_rfl, by kernel_rfl, by kernel_rfl, rfl, rfl, ?_, ?_, ?_⟩
        · show nx + 1 + 1 ≤ nx4; omega
        · exact ((he'.trans heB (by omega)).trans (HE.set _ (some (.cells [.int .i64 (x0)] CMeta.plain)) (Nat.le_refl _)) (by omega)).trans he4 (by omega)
        · rw [ht]; exact hsl4
      · refine WO.cons (WC.opt 21 (eLookup e5.T hp'.get 92 (.map (some (nx + 1))) (.int .i64 5) true) (fun _ _ _ => by kernel_rfl) ((eLookup_at hm3).trans (look5 (nx + 1))) ?_)
        refine WO.cons (WC.val 18 (.tuple ⟨[.func (.func 41) #[] #[], .bool true]⟩) (fun _ _ _ => by kernel_rfl) ?_)
        refine WO.cons (WC.val 22 (.func (.func 41) #[] #[]) (fun _ _ _ => by kernel_rfl) ?_)
        refine WO.cons (WC.val 23 (.bool true) (fun _ _ _ => by kernel_rfl) ?_)
        refine WO.cons (WC.val 9 (.func (.func 41) #[] #[]) (fun _ _ _ => by kernel_rfl) ?_)
        refine WO.cons (WC.val 10 (.bool true) (fun _ _ _ => by kernel_rfl) ?_)
        refine WO.nil ?_
        refine WP.seq (WP.region ?_)
        refine WO.cons (WC.val 24 (.bool true) (fun _ _ _ => by kernel_rfl) ?_)
        refine WO.nil ?_
        refine WP.cond true (by kernel_rfl) (fun _ => ?_) (fun h => by cases h)
        refine WP.region ?_
        refine WO.cons (WC.val 25 (.func (.func 41) #[] #[]) (fun _ _ _ => by kernel_rfl) ?_)
        refine WO.cons (WC.loadS nx 0 (sC x0 x1 x2 x3 x4 x5 x6 x7) (by kernel_rfl) T24_agg23 T24_size23 hs3 rfl ?_)
        refine WO.cons (WC.call 27 41 [sV x0 x1 x2 x3 x4 x5 x6 x7] (fun _ _ _ => by kernel_rfl) ((crit5_wf x0 x1 x2 x3 x4 x5 x6 x7 hp' nx').mono ?_))
        rintro _ hp2 nx2 ⟨rfl, hnB, heB⟩
        have hslB := hsl.mono heB hnB
        refine WO.cons (WC.val 8 (.int .i64 (x7)) (fun _ _ _ => by kernel_rfl) ?_)
        refine WO.nil ?_
        refine WP.region ?_
        refine WO.cons (WC.val 28 (v4) (fun _ _ _ => by kernel_rfl) ?_)
        refine WO.cons (WC.val 29 (.int .i64 (x7)) (fun _ _ _ => by kernel_rfl) ?_)
        refine WO.cons (WC.buildSlice [.int .i64 (x7)] rfl (by kernel_rfl) ?_)
        refine WO.cons (WC.append1 (b := nx2) (B := nx + 1 + 1) rfl (by kernel_rfl) (by kernel_rfl) (hslB.mono (HE.set _ _ (Nat.le_refl _)) (Nat.le_succ _)) (Tr.get_same ..) T24_und24 T24_und24 T24_size3 T24_zero3 hinf rfl rfl hbytes (by have := hby.few; omega) (by omega) rfl ?_)
        intro v6 hp4 nx4 hn4 he4 hsl4
        refine WO.cons (WC.val 4 (v6) (fun _ _ _ => by kernel_rfl) ?_)
        refine WO.nil ?_
        refine WP.region ?_
        refine WO.cons (WC.val 32 (.int .i64 (.ofNat (i + 1))) (fun _ _ _ => by rw [← hw]; kernel_rfl) ?_)
        refine WO.cons (WC.val 14 (.int .i64 (.ofNat (i + 1))) (fun _ _ _ => by kernel_rfl) ?_)
        refine WO.nil ?_
        refine ⟨l - (i + 1), by omega, i + 1, v6, by omega, by kernel_rfl, by kernel_rfl, by kernel_rfl, by kernel_rfl, by kernel_rfl, by kernel_rfl, rfl, rfl, ?_, ?_, ?_⟩
        · show nx + 1 + 1 ≤ nx4; omega
        · exact ((he'.trans heB (by omega)).trans (HE.set _ (some (.cells [.int .i64 (x7)] CMeta.plain)) (Nat.le_refl _)) (by omega)).trans he4 (by omega)
        · rw [ht]; exact hsl4
      · refine WO.cons (WC.opt 21 (eLookup e5.T hp'.get 92 (.map (some (nx + 1))) (.int .i64 q) true) (fun _ _ _ => by kernel_rfl) ((eLookup_at hm3).trans (look_none (nx + 1) q h1 h2 h3 h4 h5)) ?_)
        refine WO.cons (WC.val 18 (.tuple ⟨[.nilFunc, .bool false]⟩) (fun _ _ _ => by kernel_rfl) ?_)
        refine WO.cons (WC.val 22 (.nilFunc) (fun _ _ _ => by kernel_rfl) ?_)
        refine WO.cons (WC.val 23 (.bool false) (fun _ _ _ => by kernel_rfl) ?_)
        refine WO.cons (WC.val 9 (.nilFunc) (fun _ _ _ => by kernel_rfl) ?_)
        refine WO.cons (WC.val 10 (.bool false) (fun _ _ _ => by kernel_rfl) ?_)
        refine WO.nil ?_
        refine WP.seq (WP.region ?_)
        refine WO.cons (WC.val 24 (.bool false) (fun _ _ _ => by kernel_rfl) ?_)
        refine WO.nil ?_
        refine WP.cond false (by kernel_rfl) (fun h => by cases h) (fun _ => WP.skip ?_)
        have heB := HE.refl nx' hp'
        have hslB := hsl
        have hq : keyR x0 x2 x4 x7 q = 0 := by simp only [keyR, h1, h2, h3, h4, h5, cond_false]
        rw [hq] at ht
        refine WP.region ?_
        refine WO.cons (WC.val 28 (v4) (fun _ _ _ => by kernel_rfl) ?_)
        refine WO.cons (WC.val 29 (.int .i64 (0)) (fun _ _ _ => by kernel_rfl) ?_)
        refine WO.cons (WC.buildSlice [.int .i64 (0)] rfl (by kernel_rfl) ?_)
        refine WO.cons (WC.append1 (b := nx') (B := nx + 1 + 1) rfl (by kernel_rfl) (by kernel_rfl) (hslB.mono (HE.set _ _ (Nat.le_refl _)) (Nat.le_succ _)) (Tr.get_same ..) T24_und24 T24_und24 T24_size3 T24_zero3 hinf rfl rfl hbytes (by have := hby.few; omega) (by omega) rfl ?_)
        intro v6 hp4 nx4 hn4 he4 hsl4
        refine WO.cons (WC.val 4 (v6) (fun _ _ _ => by kernel_rfl) ?_)
        refine WO.nil ?_
        refine WP.region ?_
        refine WO.cons (WC.val 32 (.int .i64 (.ofNat (i + 1))) (fun _ _ _ => by rw [← hw]; kernel_rfl) ?_)
        refine WO.cons (WC.val 14 (.int .i64 (.ofNat (i + 1))) (fun _ _ _ => by kernel_rfl) ?_)
        refine WO.nil ?_
        refine ⟨l - (i + 1), by omega, i + 1, v6, by omega, by kernel_rfl, by kernel_rfl, by kernel_rfl, by kernel_rfl, by kernel_rfl, by kernel_rfl, rfl, rfl, ?_, ?_, ?_⟩
        · show nx + 1 + 1 ≤ nx4; omega
        · exact ((he'.trans heB (by omega)).trans (HE.set _ (some (.cells [.int .i64 (0)] CMeta.plain)) (Nat.le_refl _)) (by omega)).trans he4 (by omega)
        · rw [ht]; exact hsl4
    · have hil : l ≤ i := blt_false h
      have hie : i = l := by omega
      subst hie
      refine WP.seq (WP.region ?_)
      refine WO.cons (WC.val 33 (v4) (fun _ _ _ => by kernel_rfl) ?_)
      refine WO.cons (WC.val 4 (v4) (fun _ _ _ => by kernel_rfl) ?_)
      refine WO.nil ?_
      refine WP.ret ⟨rfl, rfl, [v4], by kernel_rfl, ?_⟩
      have ht : (xs.map (keyR x0 x2 x4 x7)).take i = xs.map (keyR x0 x2 x4 x7) := List.take_of_length_le (by rw [List.length_map, hby.len]; exact Nat.le_refl _)
      rw [ht] at hsl
      exact ⟨(show nx ≤ nx' by omega), he2.trans he' (by omega), hsl.le (by omega)⟩
  · exact ⟨0, _, by omega, by kernel_rfl, rfl, by kernel_rfl, by kernel_rfl, by kernel_rfl, by kernel_rfl, rfl, rfl, Nat.le_refl _, HE.refl _ _, .nil⟩
end
end Sw
