/- A part of the proof that the law returns true for every input that its row speaks of. No condition is added. -/
import Derived.Test.YthnjglgannbccaaGreatDoorSwAE
import Derived.Lib.IndexMore
namespace Sw
noncomputable section
open Go Go.Proofs
set_option maxRecDepth 100000
def fnMask : Nat := 13407807954916490233714982294398364162217188959187593460111787996332819629149368940204050969250816259755506490582558611905136888370389956946503298325676028
def tyMask : Nat := 1196016433265952743395471289404697169072369001183857065030634236302180036160399705500128062304189178562090930202238192219609560399644224948323503488498398593070095685243651422694672149575659000168446
def eqMask : Nat := 337418695484434888021955582964748617885380813625033594591277200628625143211529996776722259155067349795933448005534171457875000593907774443831319167001380706582528
def TyE : Ty := ⟨fun t => bif has tyMask t then TT.get t else none, fun t => has eqMask t⟩
def FnE : FuncId → Option Func := fun f => bif has fnMask f then FT.get f else none
def kCont : KRun := ⟨fun l hp nx cs k _ => match l with
  | [.string a, .string b] => bif Nat.blt (strs a).length 4294967281 then k (.bool (Lib.contains (strs a) (strs b))) hp nx cs else .need 0
  | _ => .need 0⟩
def MeE : TypeId → String → Option FuncId := fun t n => bif Nat.beq t 225 && (n == "stopwatch/typing.parts") then some 268 else bif Nat.beq t 331 && (n == "stopwatch/typing.parts") then some 267 else (none : Option FuncId)
def e0 : Env := ⟨TyE, fun f => (FnE f).bind fInfo, MeE, fun f => bif Nat.beq f 270 then some kCont else none, 0⟩
def globs : List TB := [⟨0, [(.int .i64 1), (.int .i64 9999)], false, 0⟩, ⟨1, [(.int .i64 (-1099511627776)), (.int .i64 1099511627776)], false, 0⟩, ⟨2, [(.int .i64 0), (.int .i64 1048576)], false, 0⟩, ⟨3, [(.int .i64 0), (.int .i64 39)], false, 0⟩, ⟨4, [(.int .i64 0), (.int .i64 255)], false, 0⟩, ⟨5, [(.int .i64 0), (.int .i64 1099511627776)], false, 0⟩, ⟨6, [(.int .i64 0), (.int .i64 255)], false, 0⟩, ⟨7, [(.int .i64 1), (.int .i64 1048576)], false, 0⟩, ⟨8, [(.int .i64 0), (.int .i64 1)], false, 0⟩, ⟨9, [(.int .i64 0), (.int .i64 31)], false, 0⟩, ⟨10, [(.int .i64 1), (.int .i64 1048576)], false, 0⟩]
def tmClasses0 : Tmpl := ⟨[],
    globs,
    12, (.agg ⟨[(.int .u8 0), (.int .u8 0), (.int .u8 0), (.int .u8 0), (.int .u8 0), (.int .u8 0), (.int .u8 0), (.int .u8 0), (.int .u8 0), (.int .u8 1), (.int .u8 1), (.int .u8 0), (.int .u8 0), (.int .u8 1), (.int .u8 0), (.int .u8 0), (.int .u8 0), (.int .u8 0), (.int .u8 0), (.int .u8 0), (.int .u8 0), (.int .u8 0), (.int .u8 0), (.int .u8 0), (.int .u8 0), (.int .u8 0), (.int .u8 0), (.int .u8 0), (.int .u8 0), (.int .u8 0), (.int .u8 0), (.int .u8 0), (.int .u8 1), (.int .u8 0), (.int .u8 0), (.int .u8 0), (.int .u8 0), (.int .u8 0), (.int .u8 0), (.int .u8 0), (.int .u8 4), (.int .u8 4), (.int .u8 0), (.int .u8 0), (.int .u8 4), (.int .u8 0), (.int .u8 0), (.int .u8 0), (.int .u8 3), (.int .u8 3), (.int .u8 3), (.int .u8 3), (.int .u8 3), (.int .u8 3), (.int .u8 3), (.int .u8 3), (.int .u8 3), (.int .u8 3), (.int .u8 0), (.int .u8 4), (.int .u8 4), (.int .u8 4), (.int .u8 4), (.int .u8 0), (.int .u8 0), (.int .u8 2), (.int .u8 2), (.int .u8 2), (.int .u8 2), (.int .u8 2), (.int .u8 2), (.int .u8 2), (.int .u8 2), (.int .u8 2), (.int .u8 2), (.int .u8 2), (.int .u8 2), (.int .u8 2), (.int .u8 2), (.int .u8 2), (.int .u8 2), (.int .u8 2), (.int .u8 2), (.int .u8 2), (.int .u8 2), (.int .u8 2), (.int .u8 2), (.int .u8 2), (.int .u8 2), (.int .u8 2), (.int .u8 2), (.int .u8 4), (.int .u8 0), (.int .u8 4), (.int .u8 0), (.int .u8 0), (.int .u8 0), (.int .u8 2), (.int .u8 2), (.int .u8 2), (.int .u8 2), (.int .u8 2), (.int .u8 2), (.int .u8 2), (.int .u8 2), (.int .u8 2), (.int .u8 2), (.int .u8 2), (.int .u8 2), (.int .u8 2), (.int .u8 2), (.int .u8 2), (.int .u8 2), (.int .u8 2), (.int .u8 2), (.int .u8 2), (.int .u8 2), (.int .u8 2), (.int .u8 2), (.int .u8 2), (.int .u8 2), (.int .u8 2), (.int .u8 2), (.int .u8 4), (.int .u8 0), (.int .u8 4), (.int .u8 0), (.int .u8 0), (.int .u8 0), (.int .u8 0), (.int .u8 0), (.int .u8 0), (.int .u8 0), (.int .u8 0), (.int .u8 0), (.int .u8 0), (.int .u8 0), (.int .u8 0), (.int .u8 0), (.int .u8 0), (.int .u8 0), (.int .u8 0), (.int .u8 0), (.int .u8 0), (.int .u8 0), (.int .u8 0), (.int .u8 0), (.int .u8 0), (.int .u8 0), (.int .u8 0), (.int .u8 0), (.int .u8 0), (.int .u8 0), (.int .u8 0), (.int .u8 0), (.int .u8 0), (.int .u8 0), (.int .u8 0), (.int .u8 0), (.int .u8 0), (.int .u8 0), (.int .u8 0), (.int .u8 0), (.int .u8 0), (.int .u8 0), (.int .u8 0), (.int .u8 0), (.int .u8 0), (.int .u8 0), (.int .u8 0), (.int .u8 0), (.int .u8 0), (.int .u8 0), (.int .u8 0), (.int .u8 0), (.int .u8 0), (.int .u8 0), (.int .u8 0), (.int .u8 0), (.int .u8 0), (.int .u8 0), (.int .u8 0), (.int .u8 0), (.int .u8 0), (.int .u8 0), (.int .u8 0), (.int .u8 0), (.int .u8 0), (.int .u8 0), (.int .u8 0), (.int .u8 0), (.int .u8 0), (.int .u8 0), (.int .u8 0), (.int .u8 0), (.int .u8 0), (.int .u8 0), (.int .u8 0), (.int .u8 0), (.int .u8 0), (.int .u8 0), (.int .u8 0), (.int .u8 0), (.int .u8 0), (.int .u8 0), (.int .u8 0), (.int .u8 0), (.int .u8 0), (.int .u8 0), (.int .u8 0), (.int .u8 0), (.int .u8 0), (.int .u8 0), (.int .u8 0), (.int .u8 0), (.int .u8 0), (.int .u8 0), (.int .u8 0), (.int .u8 0), (.int .u8 0), (.int .u8 0), (.int .u8 0), (.int .u8 0), (.int .u8 0), (.int .u8 0), (.int .u8 0), (.int .u8 0), (.int .u8 0), (.int .u8 0), (.int .u8 0), (.int .u8 0), (.int .u8 0), (.int .u8 0), (.int .u8 0), (.int .u8 0), (.int .u8 0), (.int .u8 0), (.int .u8 0), (.int .u8 0), (.int .u8 0), (.int .u8 0), (.int .u8 0), (.int .u8 0), (.int .u8 0), (.int .u8 0), (.int .u8 0), (.int .u8 0), (.int .u8 0), (.int .u8 0), (.int .u8 0), (.int .u8 0), (.int .u8 0), (.int .u8 0), (.int .u8 0), (.int .u8 0), (.int .u8 0)]⟩), [], 0⟩
def e1 : Env := { e0 with K := fun f => bif Nat.beq f 346 then some (kOfT 12 [tmClasses0]) else e0.K f }
def tmCourse0 : Tmpl := ⟨[(.agg ⟨[(.string ⟨⟨[99]⟩⟩), (.slice (some ⟨12, 0, none⟩) 2 2), (.slice (some ⟨13, 0, none⟩) 1 1), (.slice (some ⟨14, 0, none⟩) 1 1), (.slice (some ⟨15, 0, none⟩) 1 1), (.slice none 0 0), (.slice (some ⟨16, 0, none⟩) 1 1), (.slice none 0 0), (.slice (some ⟨17, 0, none⟩) 2 2), (.int .i64 0), (.int .i64 0), (.int .i64 0), (.int .i64 0), (.int .i64 0), (.int .i64 0), (.int .i64 0)]⟩)],
    globs ++ [⟨12, [(.string ⟨⟨[97]⟩⟩), (.int .i64 1), (.string ⟨⟨[98]⟩⟩), (.int .i64 3)], false, 0⟩, ⟨13, [(.int .i64 0), (.int .i64 1), (.int .i64 10), (.int .i64 90)], false, 0⟩, ⟨14, [(.string ⟨⟨[100]⟩⟩), (.slice (some ⟨18, 0, none⟩) 2 2), (.int .i64 1), (.slice none 0 0), (.int .i64 (-1))], false, 0⟩, ⟨15, [(.string ⟨⟨[119]⟩⟩), (.int .i64 0)], false, 0⟩, ⟨16, [(.string ⟨⟨[120]⟩⟩), (.int .i64 16), (.int .i64 19)], false, 0⟩, ⟨17, [(.int .i64 1), (.int .i64 1), (.int .i64 0), (.int .i64 0), (.int .i64 0), (.slice none 0 0), (.slice none 0 0), (.slice none 0 0), (.int .i64 1), (.int .i64 4), (.int .i64 0), (.int .i64 0), (.int .i64 0), (.slice none 0 0), (.slice none 0 0), (.slice none 0 0)], false, 0⟩, ⟨18, [(.int .i64 0), (.int .i64 0), (.slice none 0 0), (.int .i64 1), (.int .i64 0), (.slice none 0 0)], false, 0⟩],
    19, (.int .i64 0), [], 0⟩
def e2 : Env := { e1 with K := fun f => bif Nat.beq f 46 then some (kOfT 12 [tmCourse0]) else e1.K f }
def tmStarters0 : Tmpl := ⟨[(.agg ⟨[(.string ⟨⟨[99]⟩⟩), (.slice (some ⟨12, 0, none⟩) 2 2), (.slice (some ⟨13, 0, none⟩) 1 1), (.slice (some ⟨14, 0, none⟩) 1 1), (.slice (some ⟨15, 0, none⟩) 1 1), (.slice none 0 0), (.slice (some ⟨16, 0, none⟩) 1 1), (.slice none 0 0), (.slice (some ⟨17, 0, none⟩) 2 2), (.int .i64 0), (.int .i64 0), (.int .i64 0), (.int .i64 0), (.int .i64 0), (.int .i64 0), (.int .i64 0)]⟩), (.slice (some ⟨18, 0, none⟩) 2 2)],
    globs ++ [⟨12, [(.string ⟨⟨[97]⟩⟩), (.int .i64 1), (.string ⟨⟨[98]⟩⟩), (.int .i64 3)], false, 0⟩, ⟨13, [(.int .i64 0), (.int .i64 1), (.int .i64 10), (.int .i64 90)], false, 0⟩, ⟨14, [(.string ⟨⟨[100]⟩⟩), (.slice (some ⟨19, 0, none⟩) 2 2), (.int .i64 1), (.slice none 0 0), (.int .i64 (-1))], false, 0⟩, ⟨15, [(.string ⟨⟨[119]⟩⟩), (.int .i64 0)], false, 0⟩, ⟨16, [(.string ⟨⟨[120]⟩⟩), (.int .i64 16), (.int .i64 19)], false, 0⟩, ⟨17, [(.int .i64 1), (.int .i64 1), (.int .i64 0), (.int .i64 0), (.int .i64 0), (.slice none 0 0), (.slice none 0 0), (.slice none 0 0), (.int .i64 1), (.int .i64 4), (.int .i64 0), (.int .i64 0), (.int .i64 0), (.slice none 0 0), (.slice none 0 0), (.slice none 0 0)], false, 0⟩, ⟨18, [(.int .i64 0), (.int .i64 7), (.int .i64 0), (.int .i64 1), (.int .i64 7), (.int .i64 0), (.int .i64 0), (.int .i64 0), (.int .i64 30), (.int .i64 7), (.int .i64 0), (.int .i64 0), (.int .i64 0), (.int .i64 0), (.int .i64 0), (.int .i64 0), (.int .i64 0), (.int .i64 0), (.int .i64 0), (.int .i64 0), (.int .i64 0), (.int .i64 0), (.int .i64 0), (.int .i64 0), (.int .i64 0), (.int .i64 0), (.int .i64 0), (.int .i64 0), (.int .i64 0), (.int .i64 0), (.int .i64 0), (.int .i64 0), (.int .i64 0), (.int .i64 0), (.int .i64 0), (.int .i64 0), (.int .i64 0), (.int .i64 0), (.int .i64 0), (.int .i64 0), (.int .i64 0), (.int .i64 0), (.int .i64 0), (.int .i64 0), (.int .i64 0), (.int .i64 0), (.int .i64 0), (.int .i64 0), (.int .i64 0), (.int .i64 0), (.int .i64 0), (.int .i64 0), (.int .i64 0), (.int .i64 0), (.bool false), (.int .i64 0), (.int .i64 0), (.int .i64 0), (.int .i64 5), (.int .i64 0), (.int .i64 1), (.int .i64 5), (.int .i64 0), (.int .i64 0), (.int .i64 0), (.int .i64 18), (.int .i64 5), (.int .i64 0), (.int .i64 0), (.int .i64 0), (.int .i64 0), (.int .i64 0), (.int .i64 0), (.int .i64 0), (.int .i64 0), (.int .i64 0), (.int .i64 0), (.int .i64 0), (.int .i64 0), (.int .i64 0), (.int .i64 0), (.int .i64 0), (.int .i64 0), (.int .i64 0), (.int .i64 0), (.int .i64 0), (.int .i64 0), (.int .i64 0), (.int .i64 0), (.int .i64 0), (.int .i64 0), (.int .i64 0), (.int .i64 0), (.int .i64 0), (.int .i64 0), (.int .i64 0), (.int .i64 0), (.int .i64 0), (.int .i64 0), (.int .i64 0), (.int .i64 0), (.int .i64 0), (.int .i64 0), (.int .i64 0), (.int .i64 0), (.int .i64 0), (.int .i64 0), (.int .i64 0), (.int .i64 0), (.int .i64 0), (.int .i64 0), (.bool false), (.int .i64 0), (.int .i64 0)], false, 0⟩, ⟨19, [(.int .i64 0), (.int .i64 0), (.slice none 0 0), (.int .i64 1), (.int .i64 0), (.slice none 0 0)], false, 0⟩],
    20, (.tuple ⟨[(.slice (some ⟨0, 0, none⟩) 2 2), (.int .i64 0)]⟩), [⟨0, [(.int .i64 5), (.int .i64 0), (.int .i64 0), (.int .i64 0), (.int .i64 18), (.int .i64 5), (.int .i64 0), (.int .i64 0), (.int .i64 7), (.int .i64 0), (.int .i64 0), (.int .i64 0), (.int .i64 30), (.int .i64 7), (.int .i64 0), (.int .i64 0)], true, 8⟩], 2⟩
def tmStarters1 : Tmpl := ⟨[(.agg ⟨[(.string ⟨⟨[99]⟩⟩), (.slice (some ⟨12, 0, none⟩) 2 2), (.slice (some ⟨13, 0, none⟩) 1 1), (.slice (some ⟨14, 0, none⟩) 1 1), (.slice (some ⟨15, 0, none⟩) 1 1), (.slice none 0 0), (.slice (some ⟨16, 0, none⟩) 1 1), (.slice none 0 0), (.slice (some ⟨17, 0, none⟩) 2 2), (.int .i64 0), (.int .i64 0), (.int .i64 0), (.int .i64 0), (.int .i64 0), (.int .i64 0), (.int .i64 0)]⟩), (.slice (some ⟨18, 0, none⟩) 2 2)],
    globs ++ [⟨12, [(.string ⟨⟨[97]⟩⟩), (.int .i64 1), (.string ⟨⟨[98]⟩⟩), (.int .i64 3)], false, 0⟩, ⟨13, [(.int .i64 0), (.int .i64 1), (.int .i64 10), (.int .i64 90)], false, 0⟩, ⟨14, [(.string ⟨⟨[100]⟩⟩), (.slice (some ⟨20, 0, none⟩) 2 2), (.int .i64 1), (.slice none 0 0), (.int .i64 (-1))], false, 0⟩, ⟨15, [(.string ⟨⟨[119]⟩⟩), (.int .i64 0)], false, 0⟩, ⟨16, [(.string ⟨⟨[120]⟩⟩), (.int .i64 16), (.int .i64 19)], false, 0⟩, ⟨17, [(.int .i64 1), (.int .i64 1), (.int .i64 0), (.int .i64 0), (.int .i64 0), (.slice none 0 0), (.slice none 0 0), (.slice none 0 0), (.int .i64 1), (.int .i64 4), (.int .i64 0), (.int .i64 0), (.int .i64 0), (.slice none 0 0), (.slice none 0 0), (.slice none 0 0)], false, 0⟩, ⟨18, [(.int .i64 0), (.int .i64 5), (.int .i64 0), (.int .i64 1), (.int .i64 5), (.int .i64 0), (.int .i64 0), (.int .i64 0), (.int .i64 18), (.int .i64 5), (.int .i64 0), (.int .i64 0), (.int .i64 0), (.int .i64 0), (.int .i64 0), (.int .i64 0), (.int .i64 0), (.int .i64 0), (.int .i64 0), (.int .i64 0), (.int .i64 0), (.int .i64 0), (.int .i64 0), (.int .i64 0), (.int .i64 0), (.int .i64 0), (.int .i64 0), (.int .i64 0), (.int .i64 0), (.int .i64 0), (.int .i64 0), (.int .i64 0), (.int .i64 0), (.int .i64 0), (.int .i64 0), (.int .i64 0), (.int .i64 0), (.int .i64 0), (.int .i64 0), (.int .i64 0), (.int .i64 0), (.int .i64 0), (.int .i64 0), (.int .i64 0), (.int .i64 0), (.int .i64 0), (.int .i64 0), (.int .i64 0), (.int .i64 0), (.int .i64 0), (.int .i64 0), (.int .i64 0), (.int .i64 0), (.int .i64 0), (.bool false), (.int .i64 0), (.int .i64 0), (.int .i64 0), (.int .i64 7), (.int .i64 0), (.int .i64 1), (.int .i64 7), (.int .i64 0), (.int .i64 0), (.int .i64 0), (.int .i64 30), (.int .i64 7), (.int .i64 0), (.int .i64 0), (.int .i64 0), (.int .i64 0), (.int .i64 0), (.int .i64 0), (.int .i64 0), (.int .i64 0), (.int .i64 0), (.int .i64 0), (.int .i64 0), (.int .i64 0), (.int .i64 0), (.int .i64 0), (.int .i64 0), (.int .i64 0), (.int .i64 0), (.int .i64 0), (.int .i64 0), (.int .i64 0), (.int .i64 0), (.int .i64 0), (.int .i64 0), (.int .i64 0), (.int .i64 0), (.int .i64 0), (.int .i64 0), (.int .i64 0), (.int .i64 0), (.int .i64 0), (.int .i64 0), (.int .i64 0), (.int .i64 0), (.int .i64 0), (.int .i64 0), (.int .i64 0), (.int .i64 0), (.int .i64 0), (.int .i64 0), (.int .i64 0), (.int .i64 0), (.int .i64 0), (.int .i64 0), (.int .i64 0), (.bool false), (.int .i64 0), (.int .i64 0)], true, 57⟩, ⟨20, [(.int .i64 0), (.int .i64 0), (.slice none 0 0), (.int .i64 1), (.int .i64 0), (.slice none 0 0)], false, 0⟩],
    21, (.tuple ⟨[(.slice (some ⟨0, 0, none⟩) 2 2), (.int .i64 0)]⟩), [⟨0, [(.int .i64 5), (.int .i64 0), (.int .i64 0), (.int .i64 0), (.int .i64 18), (.int .i64 5), (.int .i64 0), (.int .i64 0), (.int .i64 7), (.int .i64 0), (.int .i64 0), (.int .i64 0), (.int .i64 30), (.int .i64 7), (.int .i64 0), (.int .i64 0)], true, 8⟩], 2⟩
def tmStarters2 : Tmpl := ⟨[(.agg ⟨[(.string ⟨⟨[99]⟩⟩), (.slice (some ⟨12, 0, none⟩) 2 2), (.slice (some ⟨13, 0, none⟩) 1 1), (.slice (some ⟨14, 0, none⟩) 1 1), (.slice (some ⟨15, 0, none⟩) 1 1), (.slice none 0 0), (.slice (some ⟨16, 0, none⟩) 1 1), (.slice none 0 0), (.slice (some ⟨17, 0, none⟩) 2 2), (.int .i64 0), (.int .i64 0), (.int .i64 0), (.int .i64 0), (.int .i64 0), (.int .i64 0), (.int .i64 0)]⟩), (.slice (some ⟨18, 0, none⟩) 6 6)],
    globs ++ [⟨12, [(.string ⟨⟨[97]⟩⟩), (.int .i64 1), (.string ⟨⟨[98]⟩⟩), (.int .i64 3)], false, 0⟩, ⟨13, [(.int .i64 0), (.int .i64 1), (.int .i64 10), (.int .i64 90)], false, 0⟩, ⟨14, [(.string ⟨⟨[100]⟩⟩), (.slice (some ⟨20, 0, none⟩) 2 2), (.int .i64 1), (.slice none 0 0), (.int .i64 (-1))], false, 0⟩, ⟨15, [(.string ⟨⟨[119]⟩⟩), (.int .i64 0)], false, 0⟩, ⟨16, [(.string ⟨⟨[120]⟩⟩), (.int .i64 16), (.int .i64 19)], false, 0⟩, ⟨17, [(.int .i64 1), (.int .i64 1), (.int .i64 0), (.int .i64 0), (.int .i64 0), (.slice none 0 0), (.slice none 0 0), (.slice none 0 0), (.int .i64 1), (.int .i64 4), (.int .i64 0), (.int .i64 0), (.int .i64 0), (.slice none 0 0), (.slice none 0 0), (.slice none 0 0)], false, 0⟩, ⟨18, [(.int .i64 0), (.int .i64 7), (.int .i64 0), (.int .i64 1), (.int .i64 7), (.int .i64 0), (.int .i64 0), (.int .i64 0), (.int .i64 30), (.int .i64 7), (.int .i64 0), (.int .i64 0), (.int .i64 0), (.int .i64 0), (.int .i64 0), (.int .i64 0), (.int .i64 0), (.int .i64 0), (.int .i64 0), (.int .i64 0), (.int .i64 0), (.int .i64 0), (.int .i64 0), (.int .i64 0), (.int .i64 0), (.int .i64 0), (.int .i64 0), (.int .i64 0), (.int .i64 0), (.int .i64 0), (.int .i64 0), (.int .i64 0), (.int .i64 0), (.int .i64 0), (.int .i64 0), (.int .i64 0), (.int .i64 0), (.int .i64 0), (.int .i64 0), (.int .i64 0), (.int .i64 0), (.int .i64 0), (.int .i64 0), (.int .i64 0), (.int .i64 0), (.int .i64 0), (.int .i64 0), (.int .i64 0), (.int .i64 0), (.int .i64 0), (.int .i64 0), (.int .i64 0), (.int .i64 0), (.int .i64 0), (.bool false), (.int .i64 0), (.int .i64 0), (.int .i64 0), (.int .i64 5), (.int .i64 0), (.int .i64 1), (.int .i64 5), (.int .i64 0), (.int .i64 0), (.int .i64 0), (.int .i64 18), (.int .i64 5), (.int .i64 0), (.int .i64 0), (.int .i64 0), (.int .i64 0), (.int .i64 0), (.int .i64 0), (.int .i64 0), (.int .i64 0), (.int .i64 0), (.int .i64 0), (.int .i64 0), (.int .i64 0), (.int .i64 0), (.int .i64 0), (.int .i64 0), (.int .i64 0), (.int .i64 0), (.int .i64 0), (.int .i64 0), (.int .i64 0), (.int .i64 0), (.int .i64 0), (.int .i64 0), (.int .i64 0), (.int .i64 0), (.int .i64 0), (.int .i64 0), (.int .i64 0), (.int .i64 0), (.int .i64 0), (.int .i64 0), (.int .i64 0), (.int .i64 0), (.int .i64 0), (.int .i64 0), (.int .i64 0), (.int .i64 0), (.int .i64 0), (.int .i64 0), (.int .i64 0), (.int .i64 0), (.int .i64 0), (.int .i64 0), (.int .i64 0), (.bool false), (.int .i64 0), (.int .i64 0), (.int .i64 2), (.int .i64 10), (.int .i64 10), (.int .i64 5), (.int .i64 0), (.int .i64 0), (.int .i64 0), (.int .i64 0), (.int .i64 0), (.int .i64 0), (.int .i64 0), (.int .i64 0), (.int .i64 0), (.int .i64 0), (.int .i64 0), (.int .i64 0), (.int .i64 0), (.int .i64 0), (.int .i64 0), (.int .i64 0), (.int .i64 0), (.int .i64 0), (.int .i64 0), (.int .i64 0), (.int .i64 0), (.int .i64 0), (.int .i64 0), (.int .i64 0), (.int .i64 0), (.int .i64 7), (.int .i64 0), (.int .i64 1), (.int .i64 1), (.int .i64 0), (.int .i64 0), (.int .i64 0), (.int .i64 0), (.int .i64 0), (.int .i64 0), (.int .i64 0), (.int .i64 0), (.int .i64 0), (.int .i64 0), (.int .i64 0), (.int .i64 0), (.int .i64 0), (.int .i64 0), (.int .i64 0), (.int .i64 0), (.int .i64 0), (.int .i64 0), (.int .i64 0), (.int .i64 0), (.int .i64 0), (.bool false), (.int .i64 0), (.int .i64 0), (.int .i64 1), (.int .i64 9), (.int .i64 9), (.int .i64 5), (.int .i64 0), (.int .i64 0), (.int .i64 0), (.int .i64 0), (.int .i64 0), (.int .i64 0), (.int .i64 0), (.int .i64 0), (.int .i64 0), (.int .i64 0), (.int .i64 0), (.int .i64 0), (.int .i64 0), (.int .i64 0), (.int .i64 0), (.int .i64 0), (.int .i64 0), (.int .i64 0), (.int .i64 0), (.int .i64 0), (.int .i64 0), (.int .i64 0), (.int .i64 0), (.int .i64 0), (.int .i64 0), (.int .i64 7), (.int .i64 1), (.int .i64 40), (.int .i64 40), (.int .i64 0), (.int .i64 0), (.int .i64 0), (.int .i64 0), (.int .i64 0), (.int .i64 0), (.int .i64 0), (.int .i64 0), (.int .i64 0), (.int .i64 0), (.int .i64 0), (.int .i64 0), (.int .i64 0), (.int .i64 0), (.int .i64 0), (.int .i64 0), (.int .i64 0), (.int .i64 0), (.int .i64 0), (.int .i64 0), (.int .i64 0), (.bool false), (.int .i64 0), (.int .i64 0), (.int .i64 1), (.int .i64 10), (.int .i64 10), (.int .i64 5), (.int .i64 0), (.int .i64 0), (.int .i64 0), (.int .i64 0), (.int .i64 0), (.int .i64 0), (.int .i64 0), (.int .i64 0), (.int .i64 0), (.int .i64 0), (.int .i64 0), (.int .i64 0), (.int .i64 0), (.int .i64 0), (.int .i64 0), (.int .i64 0), (.int .i64 0), (.int .i64 0), (.int .i64 0), (.int .i64 0), (.int .i64 0), (.int .i64 0), (.int .i64 0), (.int .i64 0), (.int .i64 0), (.int .i64 7), (.int .i64 1), (.int .i64 50), (.int .i64 50), (.int .i64 0), (.int .i64 0), (.int .i64 0), (.int .i64 0), (.int .i64 0), (.int .i64 0), (.int .i64 0), (.int .i64 0), (.int .i64 0), (.int .i64 0), (.int .i64 0), (.int .i64 0), (.int .i64 0), (.int .i64 0), (.int .i64 0), (.int .i64 0), (.int .i64 0), (.int .i64 0), (.int .i64 0), (.int .i64 0), (.int .i64 0), (.bool false), (.int .i64 0), (.int .i64 0), (.int .i64 2), (.int .i64 11), (.int .i64 11), (.int .i64 5), (.int .i64 0), (.int .i64 0), (.int .i64 0), (.int .i64 0), (.int .i64 0), (.int .i64 0), (.int .i64 0), (.int .i64 0), (.int .i64 0), (.int .i64 0), (.int .i64 0), (.int .i64 0), (.int .i64 0), (.int .i64 0), (.int .i64 0), (.int .i64 0), (.int .i64 0), (.int .i64 0), (.int .i64 0), (.int .i64 0), (.int .i64 0), (.int .i64 0), (.int .i64 0), (.int .i64 0), (.int .i64 0), (.int .i64 7), (.int .i64 1), (.int .i64 60), (.int .i64 60), (.int .i64 0), (.int .i64 0), (.int .i64 0), (.int .i64 0), (.int .i64 0), (.int .i64 0), (.int .i64 0), (.int .i64 0), (.int .i64 0), (.int .i64 0), (.int .i64 0), (.int .i64 0), (.int .i64 0), (.int .i64 0), (.int .i64 0), (.int .i64 0), (.int .i64 0), (.int .i64 0), (.int .i64 0), (.int .i64 0), (.int .i64 0), (.bool false), (.int .i64 0), (.int .i64 0)], true, 57⟩, ⟨20, [(.int .i64 0), (.int .i64 0), (.slice none 0 0), (.int .i64 1), (.int .i64 0), (.slice none 0 0)], false, 0⟩],
    21, (.tuple ⟨[(.slice (some ⟨0, 0, none⟩) 2 2), (.int .i64 0)]⟩), [⟨0, [(.int .i64 5), (.int .i64 0), (.int .i64 0), (.int .i64 0), (.int .i64 18), (.int .i64 5), (.int .i64 0), (.int .i64 0), (.int .i64 7), (.int .i64 0), (.int .i64 0), (.int .i64 0), (.int .i64 30), (.int .i64 7), (.int .i64 0), (.int .i64 0)], true, 8⟩], 2⟩
def tmStarters3 : Tmpl := ⟨[(.agg ⟨[(.string ⟨⟨[99]⟩⟩), (.slice (some ⟨12, 0, none⟩) 2 2), (.slice (some ⟨13, 0, none⟩) 1 1), (.slice (some ⟨14, 0, none⟩) 1 1), (.slice (some ⟨15, 0, none⟩) 1 1), (.slice none 0 0), (.slice (some ⟨16, 0, none⟩) 1 1), (.slice none 0 0), (.slice (some ⟨17, 0, none⟩) 2 2), (.int .i64 0), (.int .i64 0), (.int .i64 0), (.int .i64 0), (.int .i64 0), (.int .i64 0), (.int .i64 0)]⟩), (.slice (some ⟨18, 0, none⟩) 6 6)],
    globs ++ [⟨12, [(.string ⟨⟨[97]⟩⟩), (.int .i64 1), (.string ⟨⟨[98]⟩⟩), (.int .i64 3)], false, 0⟩, ⟨13, [(.int .i64 0), (.int .i64 1), (.int .i64 10), (.int .i64 90)], false, 0⟩, ⟨14, [(.string ⟨⟨[100]⟩⟩), (.slice (some ⟨20, 0, none⟩) 2 2), (.int .i64 1), (.slice none 0 0), (.int .i64 (-1))], false, 0⟩, ⟨15, [(.string ⟨⟨[119]⟩⟩), (.int .i64 0)], false, 0⟩, ⟨16, [(.string ⟨⟨[120]⟩⟩), (.int .i64 16), (.int .i64 19)], false, 0⟩, ⟨17, [(.int .i64 1), (.int .i64 1), (.int .i64 0), (.int .i64 0), (.int .i64 0), (.slice none 0 0), (.slice none 0 0), (.slice none 0 0), (.int .i64 1), (.int .i64 4), (.int .i64 0), (.int .i64 0), (.int .i64 0), (.slice none 0 0), (.slice none 0 0), (.slice none 0 0)], false, 0⟩, ⟨18, [(.int .i64 0), (.int .i64 5), (.int .i64 0), (.int .i64 1), (.int .i64 5), (.int .i64 0), (.int .i64 0), (.int .i64 0), (.int .i64 18), (.int .i64 5), (.int .i64 0), (.int .i64 0), (.int .i64 0), (.int .i64 0), (.int .i64 0), (.int .i64 0), (.int .i64 0), (.int .i64 0), (.int .i64 0), (.int .i64 0), (.int .i64 0), (.int .i64 0), (.int .i64 0), (.int .i64 0), (.int .i64 0), (.int .i64 0), (.int .i64 0), (.int .i64 0), (.int .i64 0), (.int .i64 0), (.int .i64 0), (.int .i64 0), (.int .i64 0), (.int .i64 0), (.int .i64 0), (.int .i64 0), (.int .i64 0), (.int .i64 0), (.int .i64 0), (.int .i64 0), (.int .i64 0), (.int .i64 0), (.int .i64 0), (.int .i64 0), (.int .i64 0), (.int .i64 0), (.int .i64 0), (.int .i64 0), (.int .i64 0), (.int .i64 0), (.int .i64 0), (.int .i64 0), (.int .i64 0), (.int .i64 0), (.bool false), (.int .i64 0), (.int .i64 0), (.int .i64 0), (.int .i64 7), (.int .i64 0), (.int .i64 1), (.int .i64 7), (.int .i64 0), (.int .i64 0), (.int .i64 0), (.int .i64 30), (.int .i64 7), (.int .i64 0), (.int .i64 0), (.int .i64 0), (.int .i64 0), (.int .i64 0), (.int .i64 0), (.int .i64 0), (.int .i64 0), (.int .i64 0), (.int .i64 0), (.int .i64 0), (.int .i64 0), (.int .i64 0), (.int .i64 0), (.int .i64 0), (.int .i64 0), (.int .i64 0), (.int .i64 0), (.int .i64 0), (.int .i64 0), (.int .i64 0), (.int .i64 0), (.int .i64 0), (.int .i64 0), (.int .i64 0), (.int .i64 0), (.int .i64 0), (.int .i64 0), (.int .i64 0), (.int .i64 0), (.int .i64 0), (.int .i64 0), (.int .i64 0), (.int .i64 0), (.int .i64 0), (.int .i64 0), (.int .i64 0), (.int .i64 0), (.int .i64 0), (.int .i64 0), (.int .i64 0), (.int .i64 0), (.int .i64 0), (.int .i64 0), (.bool false), (.int .i64 0), (.int .i64 0), (.int .i64 1), (.int .i64 9), (.int .i64 9), (.int .i64 5), (.int .i64 0), (.int .i64 0), (.int .i64 0), (.int .i64 0), (.int .i64 0), (.int .i64 0), (.int .i64 0), (.int .i64 0), (.int .i64 0), (.int .i64 0), (.int .i64 0), (.int .i64 0), (.int .i64 0), (.int .i64 0), (.int .i64 0), (.int .i64 0), (.int .i64 0), (.int .i64 0), (.int .i64 0), (.int .i64 0), (.int .i64 0), (.int .i64 0), (.int .i64 0), (.int .i64 0), (.int .i64 0), (.int .i64 7), (.int .i64 1), (.int .i64 40), (.int .i64 40), (.int .i64 0), (.int .i64 0), (.int .i64 0), (.int .i64 0), (.int .i64 0), (.int .i64 0), (.int .i64 0), (.int .i64 0), (.int .i64 0), (.int .i64 0), (.int .i64 0), (.int .i64 0), (.int .i64 0), (.int .i64 0), (.int .i64 0), (.int .i64 0), (.int .i64 0), (.int .i64 0), (.int .i64 0), (.int .i64 0), (.int .i64 0), (.bool false), (.int .i64 0), (.int .i64 0), (.int .i64 1), (.int .i64 10), (.int .i64 10), (.int .i64 5), (.int .i64 0), (.int .i64 0), (.int .i64 0), (.int .i64 0), (.int .i64 0), (.int .i64 0), (.int .i64 0), (.int .i64 0), (.int .i64 0), (.int .i64 0), (.int .i64 0), (.int .i64 0), (.int .i64 0), (.int .i64 0), (.int .i64 0), (.int .i64 0), (.int .i64 0), (.int .i64 0), (.int .i64 0), (.int .i64 0), (.int .i64 0), (.int .i64 0), (.int .i64 0), (.int .i64 0), (.int .i64 0), (.int .i64 7), (.int .i64 1), (.int .i64 50), (.int .i64 50), (.int .i64 0), (.int .i64 0), (.int .i64 0), (.int .i64 0), (.int .i64 0), (.int .i64 0), (.int .i64 0), (.int .i64 0), (.int .i64 0), (.int .i64 0), (.int .i64 0), (.int .i64 0), (.int .i64 0), (.int .i64 0), (.int .i64 0), (.int .i64 0), (.int .i64 0), (.int .i64 0), (.int .i64 0), (.int .i64 0), (.int .i64 0), (.bool false), (.int .i64 0), (.int .i64 0), (.int .i64 2), (.int .i64 10), (.int .i64 10), (.int .i64 5), (.int .i64 0), (.int .i64 0), (.int .i64 0), (.int .i64 0), (.int .i64 0), (.int .i64 0), (.int .i64 0), (.int .i64 0), (.int .i64 0), (.int .i64 0), (.int .i64 0), (.int .i64 0), (.int .i64 0), (.int .i64 0), (.int .i64 0), (.int .i64 0), (.int .i64 0), (.int .i64 0), (.int .i64 0), (.int .i64 0), (.int .i64 0), (.int .i64 0), (.int .i64 0), (.int .i64 0), (.int .i64 0), (.int .i64 7), (.int .i64 0), (.int .i64 1), (.int .i64 1), (.int .i64 0), (.int .i64 0), (.int .i64 0), (.int .i64 0), (.int .i64 0), (.int .i64 0), (.int .i64 0), (.int .i64 0), (.int .i64 0), (.int .i64 0), (.int .i64 0), (.int .i64 0), (.int .i64 0), (.int .i64 0), (.int .i64 0), (.int .i64 0), (.int .i64 0), (.int .i64 0), (.int .i64 0), (.int .i64 0), (.int .i64 0), (.bool false), (.int .i64 0), (.int .i64 0), (.int .i64 2), (.int .i64 11), (.int .i64 11), (.int .i64 5), (.int .i64 0), (.int .i64 0), (.int .i64 0), (.int .i64 0), (.int .i64 0), (.int .i64 0), (.int .i64 0), (.int .i64 0), (.int .i64 0), (.int .i64 0), (.int .i64 0), (.int .i64 0), (.int .i64 0), (.int .i64 0), (.int .i64 0), (.int .i64 0), (.int .i64 0), (.int .i64 0), (.int .i64 0), (.int .i64 0), (.int .i64 0), (.int .i64 0), (.int .i64 0), (.int .i64 0), (.int .i64 0), (.int .i64 7), (.int .i64 1), (.int .i64 60), (.int .i64 60), (.int .i64 0), (.int .i64 0), (.int .i64 0), (.int .i64 0), (.int .i64 0), (.int .i64 0), (.int .i64 0), (.int .i64 0), (.int .i64 0), (.int .i64 0), (.int .i64 0), (.int .i64 0), (.int .i64 0), (.int .i64 0), (.int .i64 0), (.int .i64 0), (.int .i64 0), (.int .i64 0), (.int .i64 0), (.int .i64 0), (.int .i64 0), (.bool false), (.int .i64 0), (.int .i64 0)], true, 57⟩, ⟨20, [(.int .i64 0), (.int .i64 0), (.slice none 0 0), (.int .i64 1), (.int .i64 0), (.slice none 0 0)], false, 0⟩],
    21, (.tuple ⟨[(.slice (some ⟨0, 0, none⟩) 2 2), (.int .i64 0)]⟩), [⟨0, [(.int .i64 5), (.int .i64 0), (.int .i64 0), (.int .i64 0), (.int .i64 18), (.int .i64 5), (.int .i64 0), (.int .i64 0), (.int .i64 7), (.int .i64 0), (.int .i64 0), (.int .i64 0), (.int .i64 30), (.int .i64 7), (.int .i64 0), (.int .i64 0)], true, 8⟩], 2⟩
def tmStarters4 : Tmpl := ⟨[(.agg ⟨[(.string ⟨⟨[99]⟩⟩), (.slice (some ⟨12, 0, none⟩) 2 2), (.slice (some ⟨13, 0, none⟩) 1 1), (.slice (some ⟨14, 0, none⟩) 1 1), (.slice (some ⟨15, 0, none⟩) 1 1), (.slice none 0 0), (.slice (some ⟨16, 0, none⟩) 1 1), (.slice none 0 0), (.slice (some ⟨17, 0, none⟩) 2 2), (.int .i64 0), (.int .i64 0), (.int .i64 0), (.int .i64 0), (.int .i64 0), (.int .i64 0), (.int .i64 0)]⟩), (.slice none 0 0)],
    globs ++ [⟨12, [(.string ⟨⟨[97]⟩⟩), (.int .i64 1), (.string ⟨⟨[98]⟩⟩), (.int .i64 3)], false, 0⟩, ⟨13, [(.int .i64 0), (.int .i64 1), (.int .i64 10), (.int .i64 90)], false, 0⟩, ⟨14, [(.string ⟨⟨[100]⟩⟩), (.slice (some ⟨18, 0, none⟩) 2 2), (.int .i64 1), (.slice none 0 0), (.int .i64 (-1))], false, 0⟩, ⟨15, [(.string ⟨⟨[119]⟩⟩), (.int .i64 0)], false, 0⟩, ⟨16, [(.string ⟨⟨[120]⟩⟩), (.int .i64 16), (.int .i64 19)], false, 0⟩, ⟨17, [(.int .i64 1), (.int .i64 1), (.int .i64 0), (.int .i64 0), (.int .i64 0), (.slice none 0 0), (.slice none 0 0), (.slice none 0 0), (.int .i64 1), (.int .i64 4), (.int .i64 0), (.int .i64 0), (.int .i64 0), (.slice none 0 0), (.slice none 0 0), (.slice none 0 0)], false, 0⟩, ⟨18, [(.int .i64 0), (.int .i64 0), (.slice none 0 0), (.int .i64 1), (.int .i64 0), (.slice none 0 0)], false, 0⟩],
    19, (.tuple ⟨[(.slice none 0 0), (.int .i64 0)]⟩), [], 0⟩
def e3 : Env := { e2 with K := fun f => bif Nat.beq f 89 then some (kOfT 12 [tmStarters0, tmStarters1, tmStarters2, tmStarters3, tmStarters4]) else e2.K f }
def tmOf0 : Tmpl := ⟨[(.agg ⟨[(.string ⟨⟨[99]⟩⟩), (.slice (some ⟨12, 0, none⟩) 2 2), (.slice (some ⟨13, 0, none⟩) 1 1), (.slice (some ⟨14, 0, none⟩) 1 1), (.slice (some ⟨15, 0, none⟩) 1 1), (.slice none 0 0), (.slice (some ⟨16, 0, none⟩) 1 1), (.slice none 0 0), (.slice (some ⟨17, 0, none⟩) 2 2), (.int .i64 0), (.int .i64 0), (.int .i64 0), (.int .i64 0), (.int .i64 0), (.int .i64 0), (.int .i64 0)]⟩), (.slice (some ⟨18, 0, none⟩) 2 2), (.int .i64 0), (.int .i64 (-1)), (.int .i64 (-1))],
    globs ++ [⟨12, [(.string ⟨⟨[97]⟩⟩), (.int .i64 1), (.string ⟨⟨[98]⟩⟩), (.int .i64 3)], false, 0⟩, ⟨13, [(.int .i64 0), (.int .i64 1), (.int .i64 10), (.int .i64 90)], false, 0⟩, ⟨14, [(.string ⟨⟨[100]⟩⟩), (.slice (some ⟨19, 0, none⟩) 2 2), (.int .i64 1), (.slice none 0 0), (.int .i64 (-1))], false, 0⟩, ⟨15, [(.string ⟨⟨[119]⟩⟩), (.int .i64 0)], false, 0⟩, ⟨16, [(.string ⟨⟨[120]⟩⟩), (.int .i64 16), (.int .i64 19)], false, 0⟩, ⟨17, [(.int .i64 1), (.int .i64 1), (.int .i64 0), (.int .i64 0), (.int .i64 0), (.slice none 0 0), (.slice none 0 0), (.slice none 0 0), (.int .i64 1), (.int .i64 4), (.int .i64 0), (.int .i64 0), (.int .i64 0), (.slice none 0 0), (.slice none 0 0), (.slice none 0 0)], false, 0⟩, ⟨18, [(.int .i64 0), (.int .i64 7), (.int .i64 0), (.int .i64 1), (.int .i64 7), (.int .i64 0), (.int .i64 0), (.int .i64 0), (.int .i64 30), (.int .i64 7), (.int .i64 0), (.int .i64 0), (.int .i64 0), (.int .i64 0), (.int .i64 0), (.int .i64 0), (.int .i64 0), (.int .i64 0), (.int .i64 0), (.int .i64 0), (.int .i64 0), (.int .i64 0), (.int .i64 0), (.int .i64 0), (.int .i64 0), (.int .i64 0), (.int .i64 0), (.int .i64 0), (.int .i64 0), (.int .i64 0), (.int .i64 0), (.int .i64 0), (.int .i64 0), (.int .i64 0), (.int .i64 0), (.int .i64 0), (.int .i64 0), (.int .i64 0), (.int .i64 0), (.int .i64 0), (.int .i64 0), (.int .i64 0), (.int .i64 0), (.int .i64 0), (.int .i64 0), (.int .i64 0), (.int .i64 0), (.int .i64 0), (.int .i64 0), (.int .i64 0), (.int .i64 0), (.int .i64 0), (.int .i64 0), (.int .i64 0), (.bool false), (.int .i64 0), (.int .i64 0), (.int .i64 0), (.int .i64 5), (.int .i64 0), (.int .i64 1), (.int .i64 5), (.int .i64 0), (.int .i64 0), (.int .i64 0), (.int .i64 18), (.int .i64 5), (.int .i64 0), (.int .i64 0), (.int .i64 0), (.int .i64 0), (.int .i64 0), (.int .i64 0), (.int .i64 0), (.int .i64 0), (.int .i64 0), (.int .i64 0), (.int .i64 0), (.int .i64 0), (.int .i64 0), (.int .i64 0), (.int .i64 0), (.int .i64 0), (.int .i64 0), (.int .i64 0), (.int .i64 0), (.int .i64 0), (.int .i64 0), (.int .i64 0), (.int .i64 0), (.int .i64 0), (.int .i64 0), (.int .i64 0), (.int .i64 0), (.int .i64 0), (.int .i64 0), (.int .i64 0), (.int .i64 0), (.int .i64 0), (.int .i64 0), (.int .i64 0), (.int .i64 0), (.int .i64 0), (.int .i64 0), (.int .i64 0), (.int .i64 0), (.int .i64 0), (.int .i64 0), (.int .i64 0), (.int .i64 0), (.int .i64 0), (.bool false), (.int .i64 0), (.int .i64 0)], false, 0⟩, ⟨19, [(.int .i64 0), (.int .i64 0), (.slice none 0 0), (.int .i64 1), (.int .i64 0), (.slice none 0 0)], false, 0⟩],
    20, (.tuple ⟨[(.agg ⟨[(.slice none 0 0), (.slice (some ⟨0, 0, none⟩) 1 1), (.slice none 0 0), (.slice (some ⟨2, 0, none⟩) 2 2)]⟩), (.int .i64 0)]⟩), [⟨0, [(.slice (some ⟨4, 0, none⟩) 1 1)], true, 1⟩, ⟨2, [(.int .i64 5), (.slice (some ⟨5, 0, none⟩) 2 2), (.slice (some ⟨7, 0, none⟩) 1 1), (.int .i64 7), (.slice (some ⟨9, 0, none⟩) 2 2), (.slice (some ⟨11, 0, none⟩) 1 1)], true, 3⟩, ⟨4, [(.int .i64 0)], false, 0⟩, ⟨5, [(.int .i64 (-18)), (.int .i64 5)], true, 1⟩, ⟨7, [(.slice (some ⟨13, 0, none⟩) 1 1)], true, 1⟩, ⟨9, [(.int .i64 (-30)), (.int .i64 7)], true, 1⟩, ⟨11, [(.slice (some ⟨15, 0, none⟩) 1 1)], true, 1⟩, ⟨13, [(.bool true), (.int .i64 (-1)), (.int .i64 0), (.int .i64 0)], true, 4⟩, ⟨15, [(.bool true), (.int .i64 (-1)), (.int .i64 0), (.int .i64 0)], true, 4⟩], 17⟩
def tmOf1 : Tmpl := ⟨[(.agg ⟨[(.string ⟨⟨[99]⟩⟩), (.slice (some ⟨12, 0, none⟩) 2 2), (.slice (some ⟨13, 0, none⟩) 1 1), (.slice (some ⟨14, 0, none⟩) 1 1), (.slice (some ⟨15, 0, none⟩) 1 1), (.slice none 0 0), (.slice (some ⟨16, 0, none⟩) 1 1), (.slice none 0 0), (.slice (some ⟨17, 0, none⟩) 2 2), (.int .i64 0), (.int .i64 0), (.int .i64 0), (.int .i64 0), (.int .i64 0), (.int .i64 0), (.int .i64 0)]⟩), (.slice (some ⟨18, 0, none⟩) 6 6), (.int .i64 0), (.int .i64 (-1)), (.int .i64 (-1))],
    globs ++ [⟨12, [(.string ⟨⟨[97]⟩⟩), (.int .i64 1), (.string ⟨⟨[98]⟩⟩), (.int .i64 3)], false, 0⟩, ⟨13, [(.int .i64 0), (.int .i64 1), (.int .i64 10), (.int .i64 90)], false, 0⟩, ⟨14, [(.string ⟨⟨[100]⟩⟩), (.slice (some ⟨20, 0, none⟩) 2 2), (.int .i64 1), (.slice none 0 0), (.int .i64 (-1))], false, 0⟩, ⟨15, [(.string ⟨⟨[119]⟩⟩), (.int .i64 0)], false, 0⟩, ⟨16, [(.string ⟨⟨[120]⟩⟩), (.int .i64 16), (.int .i64 19)], false, 0⟩, ⟨17, [(.int .i64 1), (.int .i64 1), (.int .i64 0), (.int .i64 0), (.int .i64 0), (.slice none 0 0), (.slice none 0 0), (.slice none 0 0), (.int .i64 1), (.int .i64 4), (.int .i64 0), (.int .i64 0), (.int .i64 0), (.slice none 0 0), (.slice none 0 0), (.slice none 0 0)], false, 0⟩, ⟨18, [(.int .i64 0), (.int .i64 7), (.int .i64 0), (.int .i64 1), (.int .i64 7), (.int .i64 0), (.int .i64 0), (.int .i64 0), (.int .i64 30), (.int .i64 7), (.int .i64 0), (.int .i64 0), (.int .i64 0), (.int .i64 0), (.int .i64 0), (.int .i64 0), (.int .i64 0), (.int .i64 0), (.int .i64 0), (.int .i64 0), (.int .i64 0), (.int .i64 0), (.int .i64 0), (.int .i64 0), (.int .i64 0), (.int .i64 0), (.int .i64 0), (.int .i64 0), (.int .i64 0), (.int .i64 0), (.int .i64 0), (.int .i64 0), (.int .i64 0), (.int .i64 0), (.int .i64 0), (.int .i64 0), (.int .i64 0), (.int .i64 0), (.int .i64 0), (.int .i64 0), (.int .i64 0), (.int .i64 0), (.int .i64 0), (.int .i64 0), (.int .i64 0), (.int .i64 0), (.int .i64 0), (.int .i64 0), (.int .i64 0), (.int .i64 0), (.int .i64 0), (.int .i64 0), (.int .i64 0), (.int .i64 0), (.bool false), (.int .i64 0), (.int .i64 0), (.int .i64 0), (.int .i64 5), (.int .i64 0), (.int .i64 1), (.int .i64 5), (.int .i64 0), (.int .i64 0), (.int .i64 0), (.int .i64 18), (.int .i64 5), (.int .i64 0), (.int .i64 0), (.int .i64 0), (.int .i64 0), (.int .i64 0), (.int .i64 0), (.int .i64 0), (.int .i64 0), (.int .i64 0), (.int .i64 0), (.int .i64 0), (.int .i64 0), (.int .i64 0), (.int .i64 0), (.int .i64 0), (.int .i64 0), (.int .i64 0), (.int .i64 0), (.int .i64 0), (.int .i64 0), (.int .i64 0), (.int .i64 0), (.int .i64 0), (.int .i64 0), (.int .i64 0), (.int .i64 0), (.int .i64 0), (.int .i64 0), (.int .i64 0), (.int .i64 0), (.int .i64 0), (.int .i64 0), (.int .i64 0), (.int .i64 0), (.int .i64 0), (.int .i64 0), (.int .i64 0), (.int .i64 0), (.int .i64 0), (.int .i64 0), (.int .i64 0), (.int .i64 0), (.int .i64 0), (.int .i64 0), (.bool false), (.int .i64 0), (.int .i64 0), (.int .i64 2), (.int .i64 10), (.int .i64 10), (.int .i64 5), (.int .i64 0), (.int .i64 0), (.int .i64 0), (.int .i64 0), (.int .i64 0), (.int .i64 0), (.int .i64 0), (.int .i64 0), (.int .i64 0), (.int .i64 0), (.int .i64 0), (.int .i64 0), (.int .i64 0), (.int .i64 0), (.int .i64 0), (.int .i64 0), (.int .i64 0), (.int .i64 0), (.int .i64 0), (.int .i64 0), (.int .i64 0), (.int .i64 0), (.int .i64 0), (.int .i64 0), (.int .i64 0), (.int .i64 7), (.int .i64 0), (.int .i64 1), (.int .i64 1), (.int .i64 0), (.int .i64 0), (.int .i64 0), (.int .i64 0), (.int .i64 0), (.int .i64 0), (.int .i64 0), (.int .i64 0), (.int .i64 0), (.int .i64 0), (.int .i64 0), (.int .i64 0), (.int .i64 0), (.int .i64 0), (.int .i64 0), (.int .i64 0), (.int .i64 0), (.int .i64 0), (.int .i64 0), (.int .i64 0), (.int .i64 0), (.bool false), (.int .i64 0), (.int .i64 0), (.int .i64 1), (.int .i64 9), (.int .i64 9), (.int .i64 5), (.int .i64 0), (.int .i64 0), (.int .i64 0), (.int .i64 0), (.int .i64 0), (.int .i64 0), (.int .i64 0), (.int .i64 0), (.int .i64 0), (.int .i64 0), (.int .i64 0), (.int .i64 0), (.int .i64 0), (.int .i64 0), (.int .i64 0), (.int .i64 0), (.int .i64 0), (.int .i64 0), (.int .i64 0), (.int .i64 0), (.int .i64 0), (.int .i64 0), (.int .i64 0), (.int .i64 0), (.int .i64 0), (.int .i64 7), (.int .i64 1), (.int .i64 40), (.int .i64 40), (.int .i64 0), (.int .i64 0), (.int .i64 0), (.int .i64 0), (.int .i64 0), (.int .i64 0), (.int .i64 0), (.int .i64 0), (.int .i64 0), (.int .i64 0), (.int .i64 0), (.int .i64 0), (.int .i64 0), (.int .i64 0), (.int .i64 0), (.int .i64 0), (.int .i64 0), (.int .i64 0), (.int .i64 0), (.int .i64 0), (.int .i64 0), (.bool false), (.int .i64 0), (.int .i64 0), (.int .i64 1), (.int .i64 10), (.int .i64 10), (.int .i64 5), (.int .i64 0), (.int .i64 0), (.int .i64 0), (.int .i64 0), (.int .i64 0), (.int .i64 0), (.int .i64 0), (.int .i64 0), (.int .i64 0), (.int .i64 0), (.int .i64 0), (.int .i64 0), (.int .i64 0), (.int .i64 0), (.int .i64 0), (.int .i64 0), (.int .i64 0), (.int .i64 0), (.int .i64 0), (.int .i64 0), (.int .i64 0), (.int .i64 0), (.int .i64 0), (.int .i64 0), (.int .i64 0), (.int .i64 7), (.int .i64 1), (.int .i64 50), (.int .i64 50), (.int .i64 0), (.int .i64 0), (.int .i64 0), (.int .i64 0), (.int .i64 0), (.int .i64 0), (.int .i64 0), (.int .i64 0), (.int .i64 0), (.int .i64 0), (.int .i64 0), (.int .i64 0), (.int .i64 0), (.int .i64 0), (.int .i64 0), (.int .i64 0), (.int .i64 0), (.int .i64 0), (.int .i64 0), (.int .i64 0), (.int .i64 0), (.bool false), (.int .i64 0), (.int .i64 0), (.int .i64 2), (.int .i64 11), (.int .i64 11), (.int .i64 5), (.int .i64 0), (.int .i64 0), (.int .i64 0), (.int .i64 0), (.int .i64 0), (.int .i64 0), (.int .i64 0), (.int .i64 0), (.int .i64 0), (.int .i64 0), (.int .i64 0), (.int .i64 0), (.int .i64 0), (.int .i64 0), (.int .i64 0), (.int .i64 0), (.int .i64 0), (.int .i64 0), (.int .i64 0), (.int .i64 0), (.int .i64 0), (.int .i64 0), (.int .i64 0), (.int .i64 0), (.int .i64 0), (.int .i64 7), (.int .i64 1), (.int .i64 60), (.int .i64 60), (.int .i64 0), (.int .i64 0), (.int .i64 0), (.int .i64 0), (.int .i64 0), (.int .i64 0), (.int .i64 0), (.int .i64 0), (.int .i64 0), (.int .i64 0), (.int .i64 0), (.int .i64 0), (.int .i64 0), (.int .i64 0), (.int .i64 0), (.int .i64 0), (.int .i64 0), (.int .i64 0), (.int .i64 0), (.int .i64 0), (.int .i64 0), (.bool false), (.int .i64 0), (.int .i64 0)], true, 57⟩, ⟨20, [(.int .i64 0), (.int .i64 0), (.slice none 0 0), (.int .i64 1), (.int .i64 0), (.slice none 0 0)], false, 0⟩],
    21, (.tuple ⟨[(.agg ⟨[(.slice none 0 0), (.slice (some ⟨0, 0, none⟩) 1 1), (.slice none 0 0), (.slice (some ⟨2, 0, none⟩) 2 2)]⟩), (.int .i64 0)]⟩), [⟨0, [(.slice (some ⟨4, 0, none⟩) 1 1)], true, 1⟩, ⟨2, [(.int .i64 5), (.slice (some ⟨5, 0, none⟩) 2 2), (.slice (some ⟨7, 0, none⟩) 1 1), (.int .i64 7), (.slice (some ⟨9, 0, none⟩) 2 2), (.slice (some ⟨11, 0, none⟩) 1 1)], true, 3⟩, ⟨4, [(.int .i64 0)], false, 0⟩, ⟨5, [(.int .i64 (-18)), (.int .i64 5)], true, 1⟩, ⟨7, [(.slice (some ⟨13, 0, none⟩) 1 1)], true, 1⟩, ⟨9, [(.int .i64 (-30)), (.int .i64 7)], true, 1⟩, ⟨11, [(.slice (some ⟨15, 0, none⟩) 1 1)], true, 1⟩, ⟨13, [(.bool true), (.int .i64 (-1)), (.int .i64 0), (.int .i64 0)], true, 4⟩, ⟨15, [(.bool false), (.int .i64 (-1)), (.int .i64 50), (.int .i64 50)], true, 4⟩], 17⟩
def tmOf2 : Tmpl := ⟨[(.agg ⟨[(.string ⟨⟨[99]⟩⟩), (.slice (some ⟨12, 0, none⟩) 2 2), (.slice (some ⟨13, 0, none⟩) 1 1), (.slice (some ⟨14, 0, none⟩) 1 1), (.slice (some ⟨15, 0, none⟩) 1 1), (.slice none 0 0), (.slice (some ⟨16, 0, none⟩) 1 1), (.slice none 0 0), (.slice (some ⟨17, 0, none⟩) 2 2), (.int .i64 0), (.int .i64 0), (.int .i64 0), (.int .i64 0), (.int .i64 0), (.int .i64 0), (.int .i64 0)]⟩), (.slice (some ⟨18, 0, none⟩) 2 2), (.int .i64 0), (.int .i64 0), (.int .i64 (-1))],
    globs ++ [⟨12, [(.string ⟨⟨[97]⟩⟩), (.int .i64 1), (.string ⟨⟨[98]⟩⟩), (.int .i64 3)], false, 0⟩, ⟨13, [(.int .i64 0), (.int .i64 1), (.int .i64 10), (.int .i64 90)], false, 0⟩, ⟨14, [(.string ⟨⟨[100]⟩⟩), (.slice (some ⟨19, 0, none⟩) 2 2), (.int .i64 1), (.slice none 0 0), (.int .i64 (-1))], false, 0⟩, ⟨15, [(.string ⟨⟨[119]⟩⟩), (.int .i64 0)], false, 0⟩, ⟨16, [(.string ⟨⟨[120]⟩⟩), (.int .i64 16), (.int .i64 19)], false, 0⟩, ⟨17, [(.int .i64 1), (.int .i64 1), (.int .i64 0), (.int .i64 0), (.int .i64 0), (.slice none 0 0), (.slice none 0 0), (.slice none 0 0), (.int .i64 1), (.int .i64 4), (.int .i64 0), (.int .i64 0), (.int .i64 0), (.slice none 0 0), (.slice none 0 0), (.slice none 0 0)], false, 0⟩, ⟨18, [(.int .i64 0), (.int .i64 7), (.int .i64 0), (.int .i64 1), (.int .i64 7), (.int .i64 0), (.int .i64 0), (.int .i64 0), (.int .i64 30), (.int .i64 7), (.int .i64 0), (.int .i64 0), (.int .i64 0), (.int .i64 0), (.int .i64 0), (.int .i64 0), (.int .i64 0), (.int .i64 0), (.int .i64 0), (.int .i64 0), (.int .i64 0), (.int .i64 0), (.int .i64 0), (.int .i64 0), (.int .i64 0), (.int .i64 0), (.int .i64 0), (.int .i64 0), (.int .i64 0), (.int .i64 0), (.int .i64 0), (.int .i64 0), (.int .i64 0), (.int .i64 0), (.int .i64 0), (.int .i64 0), (.int .i64 0), (.int .i64 0), (.int .i64 0), (.int .i64 0), (.int .i64 0), (.int .i64 0), (.int .i64 0), (.int .i64 0), (.int .i64 0), (.int .i64 0), (.int .i64 0), (.int .i64 0), (.int .i64 0), (.int .i64 0), (.int .i64 0), (.int .i64 0), (.int .i64 0), (.int .i64 0), (.bool false), (.int .i64 0), (.int .i64 0), (.int .i64 0), (.int .i64 5), (.int .i64 0), (.int .i64 1), (.int .i64 5), (.int .i64 0), (.int .i64 0), (.int .i64 0), (.int .i64 18), (.int .i64 5), (.int .i64 0), (.int .i64 0), (.int .i64 0), (.int .i64 0), (.int .i64 0), (.int .i64 0), (.int .i64 0), (.int .i64 0), (.int .i64 0), (.int .i64 0), (.int .i64 0), (.int .i64 0), (.int .i64 0), (.int .i64 0), (.int .i64 0), (.int .i64 0), (.int .i64 0), (.int .i64 0), (.int .i64 0), (.int .i64 0), (.int .i64 0), (.int .i64 0), (.int .i64 0), (.int .i64 0), (.int .i64 0), (.int .i64 0), (.int .i64 0), (.int .i64 0), (.int .i64 0), (.int .i64 0), (.int .i64 0), (.int .i64 0), (.int .i64 0), (.int .i64 0), (.int .i64 0), (.int .i64 0), (.int .i64 0), (.int .i64 0), (.int .i64 0), (.int .i64 0), (.int .i64 0), (.int .i64 0), (.int .i64 0), (.int .i64 0), (.bool false), (.int .i64 0), (.int .i64 0)], false, 0⟩, ⟨19, [(.int .i64 0), (.int .i64 0), (.slice none 0 0), (.int .i64 1), (.int .i64 0), (.slice none 0 0)], false, 0⟩],
    20, (.tuple ⟨[(.agg ⟨[(.slice none 0 0), (.slice (some ⟨0, 0, none⟩) 1 1), (.slice none 0 0), (.slice (some ⟨2, 0, none⟩) 1 1)]⟩), (.int .i64 0)]⟩), [⟨0, [(.slice (some ⟨4, 0, none⟩) 1 1)], true, 1⟩, ⟨2, [(.int .i64 5), (.slice (some ⟨5, 0, none⟩) 2 2), (.slice (some ⟨7, 0, none⟩) 1 1)], true, 3⟩, ⟨4, [(.int .i64 0)], false, 0⟩, ⟨5, [(.int .i64 (-18)), (.int .i64 5)], true, 1⟩, ⟨7, [(.slice (some ⟨9, 0, none⟩) 1 1)], true, 1⟩, ⟨9, [(.bool true), (.int .i64 (-1)), (.int .i64 0), (.int .i64 0)], true, 4⟩], 11⟩
def tmOf3 : Tmpl := ⟨[(.agg ⟨[(.string ⟨⟨[99]⟩⟩), (.slice (some ⟨12, 0, none⟩) 2 2), (.slice (some ⟨13, 0, none⟩) 1 1), (.slice (some ⟨14, 0, none⟩) 1 1), (.slice (some ⟨15, 0, none⟩) 1 1), (.slice none 0 0), (.slice (some ⟨16, 0, none⟩) 1 1), (.slice none 0 0), (.slice (some ⟨17, 0, none⟩) 2 2), (.int .i64 0), (.int .i64 0), (.int .i64 0), (.int .i64 0), (.int .i64 0), (.int .i64 0), (.int .i64 0)]⟩), (.slice none 0 0), (.int .i64 0), (.int .i64 (-1)), (.int .i64 (-1))],
    globs ++ [⟨12, [(.string ⟨⟨[97]⟩⟩), (.int .i64 1), (.string ⟨⟨[98]⟩⟩), (.int .i64 3)], false, 0⟩, ⟨13, [(.int .i64 0), (.int .i64 1), (.int .i64 10), (.int .i64 90)], false, 0⟩, ⟨14, [(.string ⟨⟨[100]⟩⟩), (.slice (some ⟨18, 0, none⟩) 2 2), (.int .i64 1), (.slice none 0 0), (.int .i64 (-1))], false, 0⟩, ⟨15, [(.string ⟨⟨[119]⟩⟩), (.int .i64 0)], false, 0⟩, ⟨16, [(.string ⟨⟨[120]⟩⟩), (.int .i64 16), (.int .i64 19)], false, 0⟩, ⟨17, [(.int .i64 1), (.int .i64 1), (.int .i64 0), (.int .i64 0), (.int .i64 0), (.slice none 0 0), (.slice none 0 0), (.slice none 0 0), (.int .i64 1), (.int .i64 4), (.int .i64 0), (.int .i64 0), (.int .i64 0), (.slice none 0 0), (.slice none 0 0), (.slice none 0 0)], false, 0⟩, ⟨18, [(.int .i64 0), (.int .i64 0), (.slice none 0 0), (.int .i64 1), (.int .i64 0), (.slice none 0 0)], false, 0⟩],
    19, (.tuple ⟨[(.agg ⟨[(.slice none 0 0), (.slice none 0 0), (.slice none 0 0), (.slice none 0 0)]⟩), (.int .i64 240)]⟩), [], 0⟩
def e4 : Env := { e3 with K := fun f => bif Nat.beq f 20 then some (kOfT 12 [tmOf0, tmOf1, tmOf2, tmOf3]) else e3.K f }
def tmSane : Tmpl := ⟨[], globs, 12, (.bool true), [], 0⟩
def ex : Env := { e4 with K := fun f => bif Nat.beq f 6 then some (kOfT 12 [tmSane]) else e4.K f }
end
end Sw

namespace Sw
noncomputable section
open Go Go.RowKit
theorem Chks.val {e : Env} {c : Chk} {l : List Chk} {to : Tm} {ds : List Deferred} {hp : Ht} {nx : Nat} {cs0 : List Nat} (v : Value) (h : ∀ k, c.run e.T hp nx to k = bif vEq 8 v v then k else .need 0) (hv : vEq 8 v v = true) (hl : Chks e l ⟨to, ds, hp, nx, cs0⟩) : Chks e (c :: l) ⟨to, ds, hp, nx, cs0⟩ :=
 .cons (fun k => by show c.run e.T hp nx to k = k; rw [h, hv]; rfl) hl
theorem Chks.opt {e : Env} {c : Chk} {l : List Chk} {to : Tm} {ds : List Deferred} {hp : Ht} {nx : Nat} {cs0 : List Nat} (v : Value) (o : Option Value) (h : ∀ k, c.run e.T hp nx to k = optV o (fun x => bif vEq 8 x v then k else .need 0)) (ho : o = some v) (hv : vEq 8 v v = true) (hl : Chks e l ⟨to, ds, hp, nx, cs0⟩) : Chks e (c :: l) ⟨to, ds, hp, nx, cs0⟩ :=
 .cons (fun k => by show c.run e.T hp nx to k = k; rw [h, ho]; simp only [optV, hv, cond_true]) hl
theorem Chks.new {e : Env} {c : Chk} {l : List Chk} {to : Tm} {ds : List Deferred} {hp : Ht} {nx : Nat} {cs0 : List Nat} (m : Nat) (v : Value) (cs : List Value) (h : ∀ k, c.run e.T hp nx to k = (match hp.get m with | some (.cells cs' m') => bif vEq 8 v v && (vEqs (vEq 8) cs cs' && plainM m') then k else .need 0 | _ => .need 0)) (hm : hp.get m = some (.cells cs CMeta.plain)) (hv : vEq 8 v v = true) (hc : vEqs (vEq 8) cs cs = true) (hl : Chks e l ⟨to, ds, hp, nx, cs0⟩) : Chks e (c :: l) ⟨to, ds, hp, nx, cs0⟩ :=
 .cons (fun k => by show c.run e.T hp nx to k = k; rw [h, hm]; simp only [hv, hc]; rfl) hl
theorem Sl.vEq {B size nx l : Nat} {hp : Ht} {v : Value} {xs : List Value} (h : Sl B size hp nx v l xs) : vEq 8 v v = true := by
 cases h with
 | nil => exact vEq_nilsl ..
 | plain => exact vEq_sl ..
 | grown => exact vEq_sl ..
theorem WP.drawP {e : Env} {fm : Fm} {s : St} {W : Nat → St → Prop} {id : Nat} {ops : Array Oper} (stages : List Stage) (hs : (mkPlan ops.toList).stages = stages) (h : WD e fm (stC ops.toList stages) s (W 0)) : WP e fm (.region id ops true) s W := by
 subst hs; exact .draw h
theorem WP.drawS {e : Env} {fm : Fm} {s : St} {W : Nat → St → Prop} {id : Nat} {ops : Array Oper} (stages : List Stage) (hs : (mkPlan ops.toList).stages = stages) (cls : List SCl) (hc : stC ops.toList stages = cls) (h : WD e fm cls s (W 0)) : WP e fm (.region id ops true) s W := by
 subst hc; exact .drawP stages hs h
theorem WN.consAt {e : Env} {fm : Fm} {s : St} {Q : St → Prop} {all : List Oper} {i : Nat} {o : Oper} {l : List Cl} (h : nthO i all = some o) (k : WC e fm (compOp all o) s fun s1 => WN e fm l s1 Q) : WN e fm (compAt all i :: l) s Q := by
 refine .cons ?_
 have : compAt all i = compOp all o := by unfold compAt; rw [h]
 rw [this]; exact k
theorem WC.at {e : Env} {fm : Fm} {s : St} {Q : St → Prop} {all : List Oper} {i : Nat} {o : Oper} (h : nthO i all = some o) (k : WC e fm (compOp all o) s Q) : WC e fm (compAt all i) s Q := by
 have : compAt all i = compOp all o := by unfold compAt; rw [h]
 rw [this]; exact k
theorem getRes_cell1 {T : Ty} {hp : Hp} {t : Tm} {a : Nat} {ty : TypeId} {v : Value} (h : eLoad T hp ty ((opd (.tmp a)).run t) = some v) : getRes T hp t [.cell a ty] = some [v] := by
 simp only [getRes, h]
theorem strEq_iff {a b : ByteArray} : eqB (strs a) (strs b) = true ↔ a = b := by
 rw [eqB_eq]
 simp only [beq_iff_eq]
 constructor
 · intro h
   cases a; cases b
   have h : Array.toList _ = Array.toList _ := h
   exact congrArg ByteArray.mk (Array.toList_inj.1 h)
 · rintro rfl; rfl
def CodeZ (P : Prop) : Value → Prop := fun v => ∃ z : Int, v = .int .i64 z ∧ (z = 0 ↔ P)
def ValIs (x : Value) : Value → Prop := fun v => v = x
def BoolImp (P : Prop) : Value → Prop := fun v => ∃ c : Bool, v = .bool c ∧ (c = true → P)
def GI (b : Bool) (P : Prop) (nx : Nat) (hp : Ht) : Value → Ht → Nat → Prop := fun v hp' nx' => (∃ c : Bool, v = (bif b then .bool c else undef) ∧ (c = true → P)) ∧ nx ≤ nx' ∧ HE nx hp hp'
theorem GI.off {b : Bool} {P : Prop} {nx : Nat} {hp : Ht} (h : b = false) : GI b P nx hp undef hp nx :=
 ⟨⟨false, by rw [h]; rfl, fun h => by cases h⟩, Nat.le_refl _, HE.refl _ _⟩
def IdxZ {α : Type} (l : List α) (A : α → Prop) (z : Int) : Prop := (z = -1 ∧ ∀ x ∈ l, ¬ A x) ∨ ∃ (i : Nat) (x : α), z = .ofNat i ∧ l[i]? = some x ∧ A x ∧ ∀ (j : Nat) (y : α), j < i → l[j]? = some y → ¬ A y
theorem IdxIs.num {α : Type} {l : List α} {A : α → Prop} {v : Value} (h : IdxIs l A v) : ∃ z : Int, v = .int .i64 z ∧ IdxZ l A z := by
 rcases h with ⟨rfl, h⟩ | ⟨i, x, rfl, h⟩
 · exact ⟨_, rfl, .inl ⟨rfl, h⟩⟩
 · exact ⟨_, rfl, .inr ⟨i, x, rfl, h⟩⟩
end
end Sw

namespace Sw
noncomputable section
open Go Go.RowKit
theorem overX_of {α : Type} : ∀ (vs cs : List α), vs.length ≤ cs.length → overX cs vs = some (vs ++ cs.drop vs.length)
 | [], cs, _ => by cases cs <;> rfl
 | v :: vs, [], h => by simp at h
 | v :: vs, c :: cs, h => by simp [overX, overX_of vs cs (by simpa using h)]
theorem spliceX_of {α : Type} : ∀ (xs rest ys : List α), ys.length ≤ rest.length → spliceX (xs ++ rest) xs.length ys = some (xs ++ (ys ++ rest.drop ys.length))
 | [], rest, ys, h => by
  have := overX_of ys rest h
  cases rest <;> simpa [spliceX] using this
 | x :: xs, rest, ys, h => by
  show (spliceX (xs ++ rest) xs.length ys).map (x :: ·) = _
  rw [spliceX_of xs rest ys h]; rfl
inductive Rm (B size N : Nat) (hp : Ht) (nx : Nat) : Value → Nat → List Value → Prop where
 | nil (h : N = 0) : Rm B size N hp nx (.slice none 0 0) 0 []
 | room {b l gr : Nat} {xs rest : List Value} (h0 : 0 < N) (hb : hp.get b = some (.cells (xs ++ rest) ⟨false, some gr, 0, size⟩)) (hg : hp.get gr = some (.group [⟨b, 0, N * size⟩])) (hn : gr ≠ b)
  (h1 : b < nx) (h2 : B ≤ b) (h3 : gr < nx) (h4 : B ≤ gr) (hl : xs.length = l * size) (hr : xs.length + rest.length = N * size) (hle : l ≤ N) : Rm B size N hp nx (.slice (some ⟨b, 0, none⟩) l N) l xs
theorem Rm.mono {B size N nx nx' l : Nat} {hp hp' : Ht} {v : Value} {xs : List Value} (h : Rm B size N hp nx v l xs) (he : HE nx hp hp') (hn : nx ≤ nx') : Rm B size N hp' nx' v l xs := by
 cases h with
 | nil h => exact .nil h
 | room h0 hb hg hne h1 h2 h3 h4 hl hr hle => exact .room h0 (he.get hb h1) (he.get hg h3) hne (by omega) h2 (by omega) h4 hl hr hle
theorem Rm.le {B B' size N nx l : Nat} {hp : Ht} {v : Value} {xs : List Value} (h : Rm B size N hp nx v l xs) (hB : B' ≤ B) : Rm B' size N hp nx v l xs := by
 cases h with
 | nil h => exact .nil h
 | room h0 hb hg hne h1 h2 h3 h4 hl hr hle => exact .room h0 hb hg hne h1 (by omega) h3 (by omega) hl hr hle
def appIn (hp : Hp) (a : Option Addr) (l m c size : Nat) (ys : List Value) : Option Eff :=
 match a, ys with
 | _, [] => some (.slice a (l + m) c, [], 0)
 | some ⟨b, off, none⟩, new => match hp b with
  | some (.cells cs mt) => (storeUps hp b cs mt (off + l * size) new).map fun u => (.slice a (l + m) c, u, 0)
  | _ => none
 | _, _ => none
theorem Rm.append {T : Ty} {B size N nx l m st xt el : Nat} {hp : Ht} {v x z : Value} {inf : TypeInfo} {xs ys : List Value} (h : Rm B size N hp nx v l xs) (hu : T.und st = some (.slice el)) (hs : T.size el = some size) (hz : T.zero el = some z) (hi : T.info el = some inf)
 (hx : appN T xt x = some (m, false)) (hsrc : srcCells hp.get (m * size) x = some ys) (hstr : strOk size x = true) (hys : ys.length = m * size) (hone : ys.all one = true) (hsz : 0 < size) (hlm : l + m ≤ N)
 (b1 : (l + m) * inf.bytes ≤ 1099511627776) (b2 : inf.bytes ≤ 1073741824) (b3 : l + m ≤ 1099511627776) :
 ∃ v' ups, eAppend T hp.get st xt v x nx = some (v', ups, 0) ∧ Rm B size N (setAll ups hp) nx v' (l + m) (xs ++ ys) ∧ HE B hp (setAll ups hp) := by
 have e1 : ∀ a c, l + m ≤ c → eAppend T hp.get st xt (.slice a l c) x nx = appIn hp.get a l m c size ys := fun a c hc => by
  have : (eAppend T hp.get st xt (.slice a l c) x nx) = appIn hp.get a l m c size ys := by
   simp only [eAppend, hu, hs, hz, hi, hx, newCells, cond_false, hstr, cond_true, hsrc, Option.bind_some, hone, Nat.ble_eq_true_of_le b1, Nat.ble_eq_true_of_le b2, Nat.ble_eq_true_of_le b3, Bool.and_true, Nat.ble_eq_true_of_le hc]
   cases a <;> cases ys <;> rfl
  exact this
 cases h with
 | nil h =>
  obtain rfl : m = 0 := by omega
  obtain rfl : ys = [] := List.eq_nil_of_length_eq_zero (by omega)
  refine ⟨_, _, (e1 none 0 (by omega)).trans rfl, .nil h, HE.refl _ _⟩
 | @room b _ gr _ rest h0 hb hg hne h1 h2 h3 h4 hl hr hle =>
  cases ys with
  | nil =>
   obtain rfl : m = 0 := by
    rcases Nat.eq_zero_or_pos m with h | h
    · exact h
    · have := Nat.mul_pos h hsz; simp at hys; omega
   refine ⟨_, _, (e1 (some ⟨b, 0, none⟩) N (by omega)).trans rfl, ?_, HE.refl _ _⟩
   rw [List.append_nil]
   exact .room h0 hb hg hne h1 h2 h3 h4 hl hr hle
  | cons y ys =>
   have hlen : (y :: ys).length ≤ rest.length := by
    have : (l + m) * size ≤ N * size := Nat.mul_le_mul_right _ hlm
    rw [Nat.add_mul] at this; omega
   have hov : ∀ lo hi, overlaps b lo hi ⟨b, 0, N * size⟩ = false := fun lo hi => by
    simp [overlaps]
   have hst : storeUps hp.get b (xs ++ rest) ⟨false, some gr, 0, size⟩ (0 + l * size) (y :: ys) = some [(gr, some (.group [⟨b, 0, N * size⟩])), (b, some (.cells (xs ++ (y :: ys ++ rest.drop (y :: ys).length)) ⟨false, some gr, 0, size⟩))] := by
    have hsp : spliceX (xs ++ rest) (0 + l * size) (y :: ys) = some (xs ++ (y :: ys ++ rest.drop (y :: ys).length)) := by
     rw [Nat.zero_add, ← hl]; exact spliceX_of xs rest (y :: ys) hlen
    simp only [storeUps, hsp, cond_false, Option.bind_some, hg, noGroups, kills, List.filter_cons, List.filter_nil, hov, Bool.false_eq_true, if_false, List.all_nil, cond_true, List.map_nil, List.nil_append, Bool.not_false, if_true]
   refine ⟨.slice (some ⟨b, 0, none⟩) (l + m) N, [(gr, some (.group [⟨b, 0, N * size⟩])), (b, some (.cells (xs ++ (y :: ys ++ rest.drop (y :: ys).length)) ⟨false, some gr, 0, size⟩))], (e1 (some ⟨b, 0, none⟩) N hlm).trans (by simp only [appIn, hb, hst, Option.map_some]), ?_, ?_⟩
   · simp only [setAll]
     refine .room (rest := rest.drop (y :: ys).length) h0 (by rw [List.append_assoc]; exact Tr.get_same ..) ((Tr.get_other _ _ (by omega)).trans (Tr.get_same ..)) hne h1 h2 h3 h4 (by rw [List.length_append, hl, hys, Nat.add_mul]) ?_ hlm
     rw [List.length_append, List.length_drop]; omega
   · exact (HE.set _ _ h4).trans (HE.set _ _ h2) (Nat.le_refl _)
section
variable {e : Env} {fm : Fm} {to : Tm} {ds : List Deferred} {hp : Ht} {nx : Nat} {cs0 : List Nat} {Q : St → Prop} {all : List Oper} {d : Tmp} {ty : TypeId} {pos : String} {aft : Array Edge}
theorem WC.appendR {st xt el : TypeId} {x y : Operand} {B l m size N : Nat} {v w z : Value} {inf : TypeInfo} {xs ys : List Value} (hl : e.low = 0) (hx : (opd x).run to = v) (hy : (opd y).run to = w) (h : Rm B size N hp nx v l xs)
 (hu : e.T.und st = some (.slice el)) (hs : e.T.size el = some size) (hz : e.T.zero el = some z) (hi : e.T.info el = some inf) (ha : appN e.T xt w = some (m, false)) (hsrc : srcCells hp.get (m * size) w = some ys) (hstr : strOk size w = true) (hys : ys.length = m * size) (hone : ys.all one = true)
 (hsz : 0 < size) (hlm : l + m ≤ N) (b1 : inf.bytes ≤ 1024) (b3 : N ≤ 1048576)
 {tys : Array TypeId} (ht : tys = #[st, xt]) (q : ∀ v' hp', HE B hp hp' → Rm B size N hp' nx v' (l + m) (xs ++ ys) → Q ⟨to.set d v', ds, hp', nx, cs0⟩) :
 WC e fm (compOp all ⟨some d, .call { callee := .builtin .append, args := #[x, y], argTypes := tys }, ty, pos, aft, none⟩) ⟨to, ds, hp, nx, cs0⟩ Q := by
 subst ht
 have b1' : (l + m) * inf.bytes ≤ 1099511627776 := Nat.le_trans (Nat.mul_le_mul (show l + m ≤ 1048577 by omega) b1) (by decide)
 obtain ⟨v', ups, h1, h2, h3⟩ := h.append hu hs hz hi ha hsrc hstr hys hone hsz hlm b1' (by omega) (by omega)
 refine .biO d (eAppend e.T hp.get st xt v w nx) hl (fun _ _ _ => ?_) h1 (q _ _ h3 h2)
 rw [← hx, ← hy]; rfl
end
theorem zeros_len (c : List Value) : ∀ n, (repC n c).length = n * c.length
 | 0 => by simp [repC]
 | n + 1 => by simp only [repC, List.length_append, zeros_len c n, Nat.succ_mul]; omega
theorem zeros_one {c : List Value} (h : c.all one = true) : ∀ n, (repC n c).all one = true
 | 0 => rfl
 | n + 1 => by simp only [repC, List.all_append, h, zeros_one h n, Bool.and_self]
theorem eAppend_zeros {T : Ty} {hp : Hp} {st xt el nx n size : Nat} {z : Value} {inf : TypeInfo} (hu : T.und st = some (.slice el)) (hs : T.size el = some size) (hz : T.zero el = some z) (hi : T.info el = some inf) (hx : appN T xt (.int .i64 (.ofNat n)) = some (n, true)) (h0 : 0 < n)
 (hone : z.cells.toList.all one = true) (b1 : inf.bytes ≤ 1024) (b3 : n ≤ 1048576) :
 eAppend T hp st xt (.slice none 0 0) (.int .i64 (.ofNat n)) nx = some (.slice (some ⟨nx + 1, 0, none⟩) n n, [(nx, some (AObj.group [⟨nx + 1, 0, (repC n z.cells.toList).length⟩])), (nx + 1, some (AObj.cells (repC n z.cells.toList) ⟨false, some nx, 0, size⟩))], 2) := by
 have b1' : n * inf.bytes ≤ 1099511627776 := Nat.le_trans (Nat.mul_le_mul (show n ≤ 1048577 by omega) b1) (by decide)
 have hble : Nat.ble n 0 = false := by
  cases hb : Nat.ble n 0 with
  | false => rfl
  | true => have := Nat.le_of_ble_eq_true hb; omega
 simp only [eAppend, hu, hs, hz, hi, hx, newCells, cond_true, Option.bind_some, zeros_one hone, Nat.zero_add, Nat.ble_eq_true_of_le b1', Nat.ble_eq_true_of_le (show inf.bytes ≤ 1073741824 by omega), Nat.ble_eq_true_of_le (show n ≤ 1099511627776 by omega), Bool.and_true, hble, cond_false, growUps]
theorem eSlice_room {T : Ty} {hp : Hp} {t el b l N s gr : Nat} {cells : List Value} (hu : T.und t = some (.slice el)) (hs : T.size el = some s) (hb : hp b = some (.cells cells ⟨false, some gr, 0, s⟩)) (hle : l ≤ N) :
 eSlice T hp t (.slice (some ⟨b, 0, none⟩) l N) none (some (.int .i64 0)) none = some (.slice (some ⟨b, 0, none⟩) 0 N) := by
 have h1 : bounds3 l N none (some (.int .i64 0)) none = some (0, 0, N) := by
  cases N <;> rfl
 simp only [eSlice, hu, hs, unitOk, hb, Nat.ble_eq_true_of_le hle, Nat.beq_refl, Bool.and_self, cond_true, Option.bind_some, h1, Option.map_some, Nat.zero_mul, Nat.add_zero, Nat.sub_zero]
theorem Rm.fresh {hp : Ht} {nx n size : Nat} {c : List Value} (h0 : 0 < n) (hc : c.length = size) : Rm nx size n (setAll [(nx, some (AObj.group [⟨nx + 1, 0, (repC n c).length⟩])), (nx + 1, some (AObj.cells (repC n c) ⟨false, some nx, 0, size⟩))] hp) (nx + 2) (.slice (some ⟨nx + 1, 0, none⟩) 0 n) 0 [] := by
 simp only [setAll]
 have hl : (repC n c).length = n * size := by rw [zeros_len, hc]
 refine .room (gr := nx) (rest := repC n c) h0 (Tr.get_same ..) (by rw [← hl]; exact (Tr.get_other _ _ (by omega)).trans (Tr.get_same ..)) (by omega) (by omega) (by omega) (by omega) (by omega) (by simp) (by simpa using hl) (Nat.zero_le _)
theorem Rm.freshHE {hp : Ht} {nx n size : Nat} {c : List Value} : HE nx hp (setAll [(nx, some (AObj.group [⟨nx + 1, 0, (repC n c).length⟩])), (nx + 1, some (AObj.cells (repC n c) ⟨false, some nx, 0, size⟩))] hp) :=
 (HE.set _ _ (Nat.le_refl _)).trans (HE.set _ _ (Nat.le_succ _)) (Nat.le_refl _)
theorem flat_len {α : Type} {enc : α → List Value} {n : Nat} : ∀ (l : List α), (∀ y ∈ l, (enc y).length = n) → (l.flatMap enc).length = l.length * n
 | [], _ => by simp
 | y :: l, h => by
  rw [List.flatMap_cons, List.length_append, flat_len l (fun z hz => h z (List.mem_cons_of_mem _ hz)), h y (List.mem_cons_self ..), List.length_cons, Nat.succ_mul]; omega
theorem Rm.ok {α : Type} {enc : α → List Value} {B n N l : Nat} {hp : Ht} {nx : Nat} {v : Value} {xs : List Value} {L : List α} (h : Rm B n N hp nx v l xs) (hl : l = N) (hx : xs = L.flatMap enc) (hL : L.length = N) (he : ∀ x ∈ L, (enc x).length = n) (hN : N < 281474976710656) : SOk enc n hp nx ⟨v, L⟩ := by
 refine ⟨he, ?_, by show L.length < _; omega⟩
 cases h with
 | nil h => exact .inl ⟨List.eq_nil_of_length_eq_zero (show L.length = 0 by omega), .inl rfl⟩
 | @room b _ gr _ rest h0 hb hg hne h1 h2 h3 h4 hl' hr hle =>
  subst hl
  have : rest = [] := List.eq_nil_of_length_eq_zero (by omega)
  subst this
  rw [List.append_nil, hx] at hb
  exact .inr ⟨b, l, _, by rw [hL], h0, h1, hb⟩
theorem SOk.src {α : Type} {enc : α → List Value} {n : Nat} {hp : Ht} {nx : Nat} {s : SV α} {a : Option Addr} {k c : Nat} (h : SOk enc n hp nx s) (hv : s.v = .slice a k c) : srcCells hp.get (s.l.length * n) (.slice a k c) = some (s.l.flatMap enc) := by
 have hlen := flat_len s.l h.1
 rcases h.2.1 with ⟨h1, h2⟩ | ⟨b, cap, m, h1, h2, h3, h4⟩
 · rw [h1, List.length_nil, Nat.zero_mul]
   rcases h2 with h2 | h2 <;> (rw [hv] at h2; cases h2; rfl)
 · rw [hv] at h1; cases h1
   cases hq : s.l.length * n with
   | zero => rw [hq] at hlen; rw [List.eq_nil_of_length_eq_zero hlen]; rfl
   | succ q =>
    show (match hp.get b with | some (.cells cs _) => takeX (q + 1) (cs.drop 0) | _ => none) = _
    rw [h4]
    exact takeX_all _ _ (by rw [List.drop_zero, hlen, hq])
theorem take_sum_le : ∀ (l : List Nat) (i : Nat), (l.take i).sum ≤ l.sum
 | [], i => by simp
 | x :: l, 0 => by simp
 | x :: l, i + 1 => by simpa using take_sum_le l i
def Gro {α : Type} (enc : α → List Value) (n B : Nat) (hp : Ht) (nx : Nat) (J : SV α) : Prop := Sl B n hp nx J.v J.l.length (J.l.flatMap enc) ∧ (J.l = [] → J.v = .slice none 0 0)
theorem Sl.view {B n nx l : Nat} {hp : Ht} {v : Value} {xs : List Value} (h : Sl B n hp nx v l xs) : (v = .slice none 0 0 ∧ l = 0 ∧ xs = []) ∨ ∃ b m, v = .slice (some ⟨b, 0, none⟩) l l ∧ hp.get b = some (.cells xs m) ∧ b < nx := by
 cases h with
 | nil => exact .inl ⟨rfl, rfl, rfl⟩
 | plain hb hm h h0 hl => exact .inr ⟨_, _, rfl, hb, h⟩
 | grown hb hg hms h h0 h2 h3 hl => exact .inr ⟨_, _, rfl, hb, h⟩
theorem Sl.same {B n nx l : Nat} {hp hp' : Ht} {v : Value} {xs : List Value} (h : Sl B n hp nx v l xs) (he : ∀ b, B ≤ b → hp'.get b = hp.get b) : Sl B n hp' nx v l xs := by
 cases h with
 | nil => exact .nil
 | plain hb hm h h0 hl => exact .plain ((he _ h0).trans hb) hm h h0 hl
 | grown hb hg hms h h0 h2 h3 hl => exact .grown ((he _ h0).trans hb) ((he _ h3).trans hg) hms h h0 h2 h3 hl
section
variable {α : Type} {enc : α → List Value} {n B : Nat} {hp hp' : Ht} {nx nx' : Nat} {J : SV α}
theorem Gro.nil : Gro enc n B hp nx ⟨.slice none 0 0, []⟩ := ⟨.nil, fun _ => rfl⟩
theorem Gro.mono (h : Gro enc n B hp nx J) (he : HE nx hp hp') (hn : nx ≤ nx') : Gro enc n B hp' nx' J := ⟨h.1.mono he hn, h.2⟩
theorem Gro.same (h : Gro enc n B hp nx J) (he : ∀ b, B ≤ b → hp'.get b = hp.get b) : Gro enc n B hp' nx J := ⟨h.1.same he, h.2⟩
theorem Gro.ok (h : Gro enc n B hp nx J) (he : ∀ x ∈ J.l, (enc x).length = n) (hs : J.l.length < 281474976710656) : SOk enc n hp nx J := by
 refine ⟨he, ?_, hs⟩
 rcases Nat.eq_zero_or_pos J.l.length with h0 | h0
 · have := List.eq_nil_of_length_eq_zero h0
   exact .inl ⟨this, .inl (h.2 this)⟩
 · rcases h.1.view with ⟨_, h1, _⟩ | ⟨b, m, h1, h2, h3⟩
   · omega
   · exact .inr ⟨b, _, m, h1, h0, h3, h2⟩
end
section
variable {e : Env} {fm : Fm} {to : Tm} {ds : List Deferred} {hp : Ht} {nx : Nat} {cs0 : List Nat} {Q : St → Prop} {all : List Oper} {d : Tmp} {ty : TypeId} {pos : String} {aft : Array Edge}
theorem WC.appendG {α : Type} {enc : α → List Value} {st el : TypeId} {x y : Operand} {B n : Nat} {z : Value} {inf : TypeInfo} {ys : List Value} {b : Nat} {cm : CMeta} {J : SV α} (a : α) (hl : e.low = 0) (hx : (opd x).run to = J.v) (hy : (opd y).run to = .slice (some ⟨b, 0, none⟩) 1 1)
 (h : Gro enc n B hp nx J) (hb : hp.get b = some (.cells ys cm)) (hye : ys = enc a) (hu : e.T.und st = some (.slice el)) (hs : e.T.size el = some n) (hz : e.T.zero el = some z) (hi : e.T.info el = some inf) (hys : (enc a).length = n) (hone : (enc a).all one = true) (b1 : inf.bytes ≤ 1024) (b3 : J.l.length ≤ 1048576) (hB : B ≤ nx)
 {tys : Array TypeId} (ht : tys = #[st, st]) (q : ∀ (J' : SV α) hp' nx', J'.l = J.l ++ [a] → nx ≤ nx' → HE B hp hp' → Gro enc n B hp' nx' J' → Q ⟨to.set d J'.v, ds, hp', nx', cs0⟩) :
 WC e fm (compOp all ⟨some d, .call { callee := .builtin .append, args := #[x, y], argTypes := tys }, ty, pos, aft, none⟩) ⟨to, ds, hp, nx, cs0⟩ Q := by
 subst ht hye
 have hsrc : srcCells hp.get (1 * n) (.slice (some ⟨b, 0, none⟩) 1 1) = some (enc a) := by
  rw [Nat.one_mul]
  cases n with
  | zero => rw [List.eq_nil_of_length_eq_zero hys]; rfl
  | succ k =>
   show (match hp.get b with | some (.cells cs _) => takeX (k + 1) (cs.drop 0) | _ => none) = _
   rw [hb]
   exact takeX_all _ _ (by rw [List.drop_zero, hys])
 have happ : appN e.T st (.slice (some ⟨b, 0, none⟩) 1 1) = some (1, false) := by simp only [appN, hu]
 have b1' : (J.l.length + 1) * inf.bytes ≤ 1099511627776 := Nat.le_trans (Nat.mul_le_mul (show J.l.length + 1 ≤ 1048577 by omega) b1) (by decide)
 obtain ⟨v', ups, k, h1, h2, h3⟩ := h.1.append hu hs hz hi happ hsrc rfl (by rw [Nat.one_mul]; exact hys) hone (by omega) b1' (by omega) (by omega) hB
 refine .biO d (eAppend e.T hp.get st st J.v (.slice (some ⟨b, 0, none⟩) 1 1) nx) hl (fun _ _ _ => ?_) h1 (q ⟨v', J.l ++ [a]⟩ _ _ rfl (by omega) h3 ⟨?_, fun h => ?_⟩)
 · rw [← hx, ← hy]; rfl
 · show Sl _ _ _ _ v' (J.l ++ [a]).length ((J.l ++ [a]).flatMap enc)
   rw [List.length_append, List.flatMap_append]
   simpa using h2
 · simp at h
end
theorem getRes_cellTmp {T : Ty} {hp : Hp} {t : Tm} {a i : Nat} {ty : TypeId} {v w : Value} (h : eLoad T hp ty ((opd (.tmp a)).run t) = some v) (hw : (opd (.tmp i)).run t = w) : getRes T hp t [.cell a ty, .tmp i] = some [v, w] := by
 simp only [getRes, h, hw]
end
end Sw

namespace Sw
noncomputable section
open Go Go.RowKit
def GroG {α : Type} (enc : α → List Value) (n B gr : Nat) (hp : Ht) (nx : Nat) (J : SV α) : Prop :=
 (J.l = [] ∧ J.v = .slice none 0 0) ∨ ∃ b ms, J.v = .slice (some ⟨b, 0, none⟩) J.l.length J.l.length ∧ 0 < J.l.length ∧ hp.get b = some (.cells (J.l.flatMap enc) ⟨false, some gr, 0, n⟩) ∧ hp.get gr = some (.group ms) ∧ (∀ e ∈ ms, e.base + e.len ≤ (J.l.flatMap enc).length)
  ∧ b < nx ∧ B ≤ b ∧ gr < nx ∧ B ≤ gr
section
variable {α : Type} {enc : α → List Value} {n B gr : Nat} {hp hp' : Ht} {nx nx' : Nat} {J : SV α}
theorem GroG.nil : GroG enc n B gr hp nx ⟨.slice none 0 0, []⟩ := .inl ⟨rfl, rfl⟩
theorem GroG.mono (h : GroG enc n B gr hp nx J) (he : HE nx hp hp') (hn : nx ≤ nx') : GroG enc n B gr hp' nx' J := by
 rcases h with h | ⟨b, ms, h1, h2, h3, h4, h5, h6, h7, h8, h9⟩
 · exact .inl h
 · exact .inr ⟨b, ms, h1, h2, he.get h3 h6, he.get h4 h8, h5, by omega, h7, by omega, h9⟩
theorem GroG.other {g2 : Nat} {E : Prop} (h : GroG enc n B gr hp nx J) (hn : nx ≤ nx') (he : ∀ c, c < nx → (E → c ≠ g2) → hp'.get c = hp.get c) (hg : ∃ ms, E → hp.get g2 = some (.group ms)) (hd : J.l = [] ∨ ¬ E ∨ gr ≠ g2) : GroG enc n B gr hp' nx' J := by
 rcases h with h | ⟨b, ms, h1, h2, h3, h4, h5, h6, h7, h8, h9⟩
 · exact .inl h
 · have hne : J.l ≠ [] := fun k => by rw [k] at h2; simp at h2
   obtain ⟨m2, hg⟩ := hg
   refine .inr ⟨b, ms, h1, h2, (he b h6 fun k e => ?_).trans h3, (he gr h8 fun k e => ?_).trans h4, h5, by omega, h7, by omega, h9⟩
   · rw [e, hg k] at h3; cases h3
   · rcases hd with hd | hd | hd
     · exact hne hd
     · exact hd k
     · exact hd e
theorem GroG.group (h : GroG enc n B gr hp nx J) : ∃ ms, J.l ≠ [] → hp.get gr = some (.group ms) := by
 rcases h with h | ⟨b, ms, h1, h2, h3, h4, _⟩
 · exact ⟨[], fun k => absurd h.1 k⟩
 · exact ⟨ms, fun _ => h4⟩
theorem GroG.ok (h : GroG enc n B gr hp nx J) (he : ∀ x ∈ J.l, (enc x).length = n) (hs : J.l.length < 281474976710656) : SOk enc n hp nx J := by
 refine ⟨he, ?_, hs⟩
 rcases h with h | ⟨b, ms, h1, h2, h3, h4, h5, h6, _⟩
 · exact .inl ⟨h.1, .inl h.2⟩
 · exact .inr ⟨b, _, _, h1, h2, h6, h3⟩
theorem GroG.append {T : Ty} {st el : Nat} {x z : Value} {inf : TypeInfo} (a : α) (h : GroG enc n B gr hp nx J) (hlen : ∀ y ∈ J.l, (enc y).length = n) (hu : T.und st = some (.slice el)) (hs : T.size el = some n) (hz : T.zero el = some z) (hi : T.info el = some inf)
 (hx : appN T st x = some (1, false)) (hsrc : srcCells hp.get (1 * n) x = some (enc a)) (hstr : strOk n x = true) (hys : (enc a).length = n) (hone : (enc a).all one = true)
 (b1 : (J.l.length + 1) * inf.bytes ≤ 1099511627776) (b2 : inf.bytes ≤ 1073741824) (b3 : J.l.length + 1 ≤ 1099511627776) (hB : B ≤ nx) :
 ∃ v' ups k gr', eAppend T hp.get st st J.v x nx = some (v', ups, k) ∧ GroG enc n B gr' (setAll ups hp) (nx + k) ⟨v', J.l ++ [a]⟩ ∧ (∀ c, c < nx → (J.l ≠ [] → c ≠ gr) → (setAll ups hp).get c = hp.get c) ∧ ((J.l ≠ [] ∧ gr' = gr) ∨ nx ≤ gr') := by
 have hble : Nat.ble (J.l.length + 1) J.l.length = false := by
  cases hb : Nat.ble (J.l.length + 1) J.l.length with
  | false => rfl
  | true => have := Nat.le_of_ble_eq_true hb; omega
 have e1 : ∀ a', eAppend T hp.get st st (.slice a' J.l.length J.l.length) x nx = growUps hp.get a' J.l.length n (enc a) 1 nx := fun a' => by
  simp only [eAppend, hu, hs, hz, hi, hx, newCells, cond_false, hstr, cond_true, hsrc, Option.bind_some, hone, Nat.ble_eq_true_of_le b1, Nat.ble_eq_true_of_le b2, Nat.ble_eq_true_of_le b3, Bool.and_true, hble]
 have hl := flat_len J.l hlen
 have hfl : (J.l ++ [a]).flatMap enc = J.l.flatMap enc ++ enc a := by simp
 have hll : (J.l ++ [a]).length = J.l.length + 1 := by simp
 rcases h with ⟨h1, h2⟩ | ⟨b, ms, h1, h2, hb, hg, hms, hlt, hB', h3, h4⟩
 · have h0 : J.l.length = 0 := by rw [h1]; rfl
   have e2 := e1 none
   rw [h0] at e2
   rw [h2]
   refine ⟨_, _, _, nx, e2, .inr ⟨nx + 1, _, by rw [hll, h0], by rw [hll]; omega, ?_, (Tr.get_other _ _ (by omega)).trans (Tr.get_same ..), fun e he => ?_, by omega, by omega, by omega, hB⟩, fun c hc _ => ?_, .inr (Nat.le_refl _)⟩
   · rw [hfl, h1]; exact Tr.get_same ..
   · rw [List.mem_singleton.1 he, hfl, h1]; simp
   · exact (Tr.get_other _ _ (by omega)).trans (Tr.get_other _ _ (by omega))
 · have hbey : ∀ e ∈ ms, beyond (0 + 0 + J.l.length * n) e = false := fun e he => by
    have := hms e he
    cases hq : beyond (0 + 0 + J.l.length * n) e with
    | false => rfl
    | true =>
     unfold beyond at hq
     have := blt_iff.1 hq
     omega
   have f1 : ms.filter (beyond (0 + 0 + J.l.length * n)) = [] := by
    rw [List.filter_eq_nil_iff]; intro e he; rw [hbey e he]; simp
   have f2 : (ms.filter fun e => !(beyond (0 + 0 + J.l.length * n) e)) = ms := by
    rw [List.filter_eq_self]; intro e he; rw [hbey e he]; rfl
   have e2 : growUps hp.get (some ⟨b, 0, none⟩) J.l.length n (enc a) 1 nx = some (.slice (some ⟨nx, 0, none⟩) (J.l.length + 1) (J.l.length + 1),
    [(gr, some (AObj.group (ms ++ [⟨nx, 0, (J.l.flatMap enc ++ enc a).length⟩]))), (nx, some (AObj.cells (J.l.flatMap enc ++ enc a) ⟨false, some gr, 0, n⟩))], 1) := by
    simp only [growUps_eq, hb, old_all _ _ hl, Option.bind_some, hg, noGroups, f1, List.all_nil, Bool.not_false, Nat.beq_refl, Bool.and_true, cond_true, kills, List.map_nil, List.nil_append, f2]
   have hne : J.l ≠ [] := fun k => by rw [k] at h2; simp at h2
   rw [h1]
   refine ⟨_, _, _, gr, (e1 _).trans e2, .inr ⟨nx, _, by rw [hll], by rw [hll]; omega, ?_, (Tr.get_other _ _ (by omega)).trans (Tr.get_same ..), fun e he => ?_, by omega, hB, by omega, h4⟩, fun c hc hd => ?_, .inl ⟨hne, rfl⟩⟩
   · rw [hfl]; exact Tr.get_same ..
   · rw [hfl]
     rcases List.mem_append.1 he with he | he
     · have := hms e he; rw [List.length_append]; omega
     · rw [List.mem_singleton.1 he]; simp
   · exact (Tr.get_other _ _ (by omega)).trans (Tr.get_other _ _ (hd hne))
end
theorem GroG.keep {α β : Type} {enc : α → List Value} {enc2 : β → List Value} {n n2 B B2 g1 g2 g' : Nat} {hp hp' : Ht} {nx nx' : Nat} {J1 : SV α} {J2 : SV β} (h2 : GroG enc2 n2 B2 g2 hp nx J2) (h1 : GroG enc n B g1 hp nx J1) (d : J1.l = [] ∨ J2.l = [] ∨ g1 ≠ g2) (hn : nx ≤ nx')
 (he : ∀ c, c < nx → (J1.l ≠ [] → c ≠ g1) → hp'.get c = hp.get c) (hgr : (J1.l ≠ [] ∧ g' = g1) ∨ nx ≤ g') : GroG enc2 n2 B2 g2 hp' nx' J2 ∧ (J2.l = [] ∨ g' ≠ g2) := by
 refine ⟨h2.other (E := J1.l ≠ []) hn he h1.group ?_, ?_⟩
 · rcases d with d | d | d
   · exact .inr (.inl fun k => k d)
   · exact .inl d
   · exact .inr (.inr fun k => d k.symm)
 · rcases h2 with h | ⟨b, ms, _, _, _, _, _, _, _, h8, _⟩
   · exact .inl h.1
   · rcases hgr with ⟨k, rfl⟩ | k
     · rcases d with d | d | d
       · exact absurd d k
       · exact .inl d
       · exact .inr d
     · exact .inr (by omega)
section
variable {e : Env} {fm : Fm} {to : Tm} {ds : List Deferred} {hp : Ht} {nx : Nat} {cs0 : List Nat} {Q : St → Prop} {all : List Oper} {d : Tmp} {ty : TypeId} {pos : String} {aft : Array Edge}
theorem WC.appendGG {α : Type} {enc : α → List Value} {st el : TypeId} {x y : Operand} {B n gr : Nat} {z : Value} {inf : TypeInfo} {ys : List Value} {b : Nat} {cm : CMeta} {J : SV α} (a : α) (hl : e.low = 0) (hx : (opd x).run to = J.v) (hy : (opd y).run to = .slice (some ⟨b, 0, none⟩) 1 1)
 (h : GroG enc n B gr hp nx J) (hlen : ∀ y ∈ J.l, (enc y).length = n) (hb : hp.get b = some (.cells ys cm)) (hye : ys = enc a) (hu : e.T.und st = some (.slice el)) (hs : e.T.size el = some n) (hz : e.T.zero el = some z) (hi : e.T.info el = some inf) (hys : (enc a).length = n) (hone : (enc a).all one = true) (b1 : inf.bytes ≤ 1024) (b3 : J.l.length ≤ 1048576) (hB : B ≤ nx)
 {tys : Array TypeId} (ht : tys = #[st, st]) (q : ∀ (J' : SV α) hp' nx' gr', J'.l = J.l ++ [a] → nx ≤ nx' → (∀ c, c < nx → (J.l ≠ [] → c ≠ gr) → hp'.get c = hp.get c) → HE B hp hp' → GroG enc n B gr' hp' nx' J' → ((J.l ≠ [] ∧ gr' = gr) ∨ nx ≤ gr') → Q ⟨to.set d J'.v, ds, hp', nx', cs0⟩) :
 WC e fm (compOp all ⟨some d, .call { callee := .builtin .append, args := #[x, y], argTypes := tys }, ty, pos, aft, none⟩) ⟨to, ds, hp, nx, cs0⟩ Q := by
 subst ht hye
 have hsrc : srcCells hp.get (1 * n) (.slice (some ⟨b, 0, none⟩) 1 1) = some (enc a) := by
  rw [Nat.one_mul]
  cases n with
  | zero => rw [List.eq_nil_of_length_eq_zero hys]; rfl
  | succ k =>
   show (match hp.get b with | some (.cells cs _) => takeX (k + 1) (cs.drop 0) | _ => none) = _
   rw [hb]
   exact takeX_all _ _ (by rw [List.drop_zero, hys])
 have happ : appN e.T st (.slice (some ⟨b, 0, none⟩) 1 1) = some (1, false) := by simp only [appN, hu]
 have b1' : (J.l.length + 1) * inf.bytes ≤ 1099511627776 := Nat.le_trans (Nat.mul_le_mul (show J.l.length + 1 ≤ 1048577 by omega) b1) (by decide)
 obtain ⟨v', ups, k, gr', h1, h2, h3, h4⟩ := h.append a hlen hu hs hz hi happ hsrc rfl hys hone b1' (by omega) (by omega) hB
 refine .biO d (eAppend e.T hp.get st st J.v (.slice (some ⟨b, 0, none⟩) 1 1) nx) hl (fun _ _ _ => ?_) h1 (q ⟨v', J.l ++ [a]⟩ _ _ gr' rfl (by omega) h3 (fun c hc => h3 c (by omega) fun hj => ?_) h2 h4)
 · rw [← hx, ← hy]; rfl
 · rcases h with h | ⟨_, _, _, _, _, _, _, _, _, _, h9⟩
   · exact absurd h.1 hj
   · omega
end
end
end Sw

namespace Sw
noncomputable section
open Go Go.RowKit
section
variable {e : Env} {fm : Fm} {to : Tm} {ds : List Deferred} {hp : Ht} {nx : Nat} {cs0 : List Nat} {Q : St → Prop} {all os : List Oper} {o : Oper} {i j : Nat} {w : Bool} {d : Tmp} {op : Op} {ty : TypeId} {pos : String} {aft : Array Edge} {l : List Cl}
theorem ov (d : Nat) (v : Value) (q : WO e fm (compOps all os) ⟨to.set d v, ds, hp, nx, cs0⟩ Q) (h : ∀ rec cs k, (compOp all o).run e rec fm to ds hp nx cs k = k ⟨to.set d v, ds, hp, nx, cs⟩ := by intros; kernel_rfl) : WO e fm (compOps all (o :: os)) ⟨to, ds, hp, nx, cs0⟩ Q := .cons (.val d v h q)
theorem nv (d : Nat) (v : Value) (q : WN e fm l ⟨to.set d v, ds, hp, nx, cs0⟩ Q) (h : ∀ rec cs k, (compAt all i).run e rec fm to ds hp nx cs k = k ⟨to.set d v, ds, hp, nx, cs⟩ := by intros; kernel_rfl) : WN e fm (compAt all i :: l) ⟨to, ds, hp, nx, cs0⟩ Q := .cons (.val d v h q)
theorem ogc (t : Tmp) (b : Bool) (v x : Value) (hw : wantedE w x = b) (h1 : b = true → WC e fm (compOp all ⟨some d, op, ty, pos, aft, none⟩) ⟨to, ds, hp, nx, cs0⟩ fun s => s = ⟨to.set d v, ds, hp, nx, cs0⟩)
 (q : WO e fm (compOps all os) ⟨to.set d (bif b then v else undef), ds, hp, nx, cs0⟩ Q) (hg : guardC all j = some (opd (.tmp t)) := by rfl) (hx : (opd (.tmp t)).run to = x := by kernel_rfl) : WO e fm (compOps all (⟨some d, op, ty, pos, aft, some (j, w)⟩ :: os)) ⟨to, ds, hp, nx, cs0⟩ Q := .cons (.gd b v x hg hx hw h1 q)
theorem og (t : Tmp) (b : Bool) (v x : Value) (hw : wantedE w x = b) (h1 : b = true → ∀ rec cs k, (compOp all ⟨some d, op, ty, pos, aft, none⟩).run e rec fm to ds hp nx cs k = k ⟨to.set d v, ds, hp, nx, cs⟩)
 (q : WO e fm (compOps all os) ⟨to.set d (bif b then v else undef), ds, hp, nx, cs0⟩ Q) (hg : guardC all j = some (opd (.tmp t)) := by rfl) (hx : (opd (.tmp t)).run to = x := by kernel_rfl) : WO e fm (compOps all (⟨some d, op, ty, pos, aft, some (j, w)⟩ :: os)) ⟨to, ds, hp, nx, cs0⟩ Q := .cons (.gd b v x hg hx hw (fun hb => .val d v (h1 hb) rfl) q)
theorem ngc (hn : nthO i all = some ⟨some d, op, ty, pos, aft, some (j, w)⟩) (t : Tmp) (b : Bool) (v x : Value) (hw : wantedE w x = b) (h1 : b = true → WC e fm (compOp all ⟨some d, op, ty, pos, aft, none⟩) ⟨to, ds, hp, nx, cs0⟩ fun s => s = ⟨to.set d v, ds, hp, nx, cs0⟩)
 (q : WN e fm l ⟨to.set d (bif b then v else undef), ds, hp, nx, cs0⟩ Q) (hg : guardC all j = some (opd (.tmp t)) := by rfl) (hx : (opd (.tmp t)).run to = x := by kernel_rfl) : WN e fm (compAt all i :: l) ⟨to, ds, hp, nx, cs0⟩ Q := .consAt hn (.gd b v x hg hx hw h1 q)
theorem ng (hn : nthO i all = some ⟨some d, op, ty, pos, aft, some (j, w)⟩) (t : Tmp) (b : Bool) (v x : Value) (hw : wantedE w x = b) (h1 : b = true → ∀ rec cs k, (compOp all ⟨some d, op, ty, pos, aft, none⟩).run e rec fm to ds hp nx cs k = k ⟨to.set d v, ds, hp, nx, cs⟩)
 (q : WN e fm l ⟨to.set d (bif b then v else undef), ds, hp, nx, cs0⟩ Q) (hg : guardC all j = some (opd (.tmp t)) := by rfl) (hx : (opd (.tmp t)).run to = x := by kernel_rfl) : WN e fm (compAt all i :: l) ⟨to, ds, hp, nx, cs0⟩ Q := .consAt hn (.gd b v x hg hx hw (fun hb => .val d v (h1 hb) rfl) q)
theorem cg {l : List Chk} (hn : nthO i all = some ⟨some d, op, ty, pos, aft, some (j, w)⟩) (t : Tmp) (b : Bool) (v x : Value) (hw : wantedE w x = b) (h1 : b = true → ∀ k, (chkOp ⟨some d, op, ty, pos, aft, none⟩).run e.T hp nx to k = k) (hl : Chks e l ⟨to, ds, hp, nx, cs0⟩)
 (hg : guardC all j = some (opd (.tmp t)) := by rfl) (hx : (opd (.tmp t)).run to = x := by kernel_rfl) (hd : to.get d = (bif b then v else undef) := by kernel_rfl) : Chks e (chkAt all i :: l) ⟨to, ds, hp, nx, cs0⟩ := .cons (chkAtG b v x hn hg hx hw hd h1) hl
theorem cv {c : Chk} {l : List Chk} (v : Value) (hv : vEq 8 v v = true) (hl : Chks e l ⟨to, ds, hp, nx, cs0⟩) (h : ∀ k, c.run e.T hp nx to k = bif vEq 8 v v then k else .need 0 := by intros; kernel_rfl) : Chks e (c :: l) ⟨to, ds, hp, nx, cs0⟩ := .val v h hv hl
theorem co {c : Chk} {l : List Chk} (v : Value) (x : Option Value) (ho : x = some v) (hv : vEq 8 v v = true) (hl : Chks e l ⟨to, ds, hp, nx, cs0⟩) (h : ∀ k, c.run e.T hp nx to k = optV x (fun y => bif vEq 8 y v then k else .need 0) := by intros; kernel_rfl) : Chks e (c :: l) ⟨to, ds, hp, nx, cs0⟩ := .opt v x h ho hv hl
theorem sr {id : Nat} {ops : Array Oper} {b : Code} {s : St} {W : Nat → St → Prop} (h : WO e fm (compOps ops.toList ops.toList) s fun s1 => WP e fm b s1 W) : WP e fm (.seq (.region id ops false) b) s W := .seq (.region h)
end
theorem nb {b : Bool} {P : Prop} (h : b = true ↔ P) : ∃ c : Bool, c = b ∧ (c = true ↔ P) := ⟨b, rfl, h⟩
theorem nq {c : Bool} {P : Prop} (p : c = true ↔ P) (h : c = false) : ¬ P := fun k => by rw [p.2 k] at h; cases h
theorem nf {P : Prop} (p : false = true ↔ P) : ¬ P := fun k => absurd (p.2 k) (by decide)
theorem zl {i n : Nat} (h : i < n) : 0 < n := Nat.lt_of_le_of_lt (Nat.zero_le i) h
theorem bF {a : Bool} (h : (!a) = true) : a = false := by simpa using h
theorem bFT {a b : Bool} (h : (!a && b) = true) : a = false ∧ b = true := by simpa using h
theorem bTF {a b : Bool} (h : (a && !b) = true) : a = true ∧ b = false := by simpa using h
end
end Sw
