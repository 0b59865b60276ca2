/- A part of the proof that the law returns true for every input that its row speaks of. No condition is added. -/
import Derived.Test.YtginbleelmnlpaaGreatDoorSwAA
namespace Sw
noncomputable section
open Go Go.RowKit
def strs (s : ByteArray) : List UInt8 := s.data.toList
def eqB : List UInt8 → List UInt8 → Bool
  | [], [] => true
  | a :: x, b :: y => Nat.beq a.toNat b.toNat && eqB x y
  | _, _ => false
def ltB : List UInt8 → List UInt8 → Bool
  | _, [] => false
  | [], _ :: _ => true
  | a :: x, b :: y => Nat.blt a.toNat b.toNat || (Nat.beq a.toNat b.toNat && ltB x y)
theorem u8_beq (a b : UInt8) : Nat.beq a.toNat b.toNat = (a == b) := by
  rw [Bool.eq_iff_iff]
  constructor
  · intro h; have := Nat.eq_of_beq_eq_true h; simp; exact UInt8.toNat_inj.1 this
  · intro h; simp at h; subst h; exact Nat.beq_refl _
theorem u8_blt (a b : UInt8) : Nat.blt a.toNat b.toNat = decide (a < b) := by
  rw [Bool.eq_iff_iff, blt_iff]; simp [UInt8.lt_iff_toNat_lt]
theorem eqB_eq (x y : List UInt8) : eqB x y = (x == y) := by
  induction x generalizing y with
  | nil => cases y <;> rfl
  | cons a x ih => cases y with
    | nil => rfl
    | cons b y => simp only [eqB, u8_beq, ih]; rfl
theorem ltB_eq (x y : List UInt8) : ltB x y = Op.bytesLess x y := by
  induction x generalizing y with
  | nil => cases y <;> rfl
  | cons a x ih => cases y with
    | nil => rfl
    | cons b y => simp only [ltB, u8_beq, u8_blt, ih, Op.bytesLess]
theorem ByteArray.toList_eq' (s : ByteArray) : s.toList = s.data.toList := by
  have key : ∀ (n i : Nat) (r : List UInt8), s.size - i = n → ByteArray.toList.loop s i r = r.reverse ++ s.data.toList.drop i := by
    intro n
    induction n with
    | zero =>
      intro i r h
      rw [ByteArray.toList.loop, if_neg (by omega), List.drop_eq_nil_of_le]
      · simp
      · rw [Array.length_toList]; show s.size ≤ i; omega
    | succ n ih =>
      intro i r h
      have hi : i < s.size := by omega
      rw [ByteArray.toList.loop, if_pos hi, ih (i + 1) _ (by omega)]
      have hi' : i < s.data.toList.length := by rw [Array.length_toList]; exact hi
      rw [List.drop_eq_getElem_cons hi']
      have : s.get! i = s.data.toList[i] := by
        show s.data[i]! = _
        have hi2 : i < s.data.size := hi
        exact getElem!_pos s.data i hi2
      rw [this]
      simp
  unfold ByteArray.toList
  rw [key _ 0 [] rfl]
  simp
theorem ByteArray.beq_eqB (a b : ByteArray) : (a == b) = eqB (strs a) (strs b) := by
  rw [eqB_eq]
  show (a.data == b.data) = (a.data.toList == b.data.toList)
  rw [Bool.eq_iff_iff, beq_iff_eq, beq_iff_eq, Array.toList_inj]
def eStr (op : BinOp) (a b : ByteArray) : Option Value :=
  match op with
  | .add => bif Nat.blt (strs a).length 1073741824 && Nat.blt (strs b).length 1073741824 then some (.string ⟨(strs a ++ strs b).toArray⟩) else none
  | .eql => some (.bool (eqB (strs a) (strs b)))
  | .neq => some (.bool (!(eqB (strs a) (strs b))))
  | .lss => some (.bool (ltB (strs a) (strs b)))
  | .leq => some (.bool (ltB (strs a) (strs b) || eqB (strs a) (strs b)))
  | .gtr => some (.bool (!(ltB (strs a) (strs b) || eqB (strs a) (strs b))))
  | .geq => some (.bool (!(ltB (strs a) (strs b))))
  | _ => none
theorem eStr_sound {op : BinOp} {a b : ByteArray} {v : Value} (h : eStr op a b = some v) (P : Program) (w : World) : (Op.stringOp op a b).run P w = .ok v w := by
  have e1 : (a.toList == b.toList) = eqB (strs a) (strs b) := by rw [eqB_eq, ByteArray.toList_eq', ByteArray.toList_eq']; rfl
  have e2 : Op.bytesLess a.toList b.toList = ltB (strs a) (strs b) := by rw [ltB_eq, ByteArray.toList_eq', ByteArray.toList_eq']; rfl
  unfold eStr at h
  split at h
  · cases hb : (Nat.blt (strs a).length 1073741824 && Nat.blt (strs b).length 1073741824) with
    | false => rw [hb] at h; cases h
    | true =>
      rw [hb] at h
      simp only [cond_true, Option.some.injEq] at h
      subst h
      rw [Bool.and_eq_true, blt_iff, blt_iff] at hb
      have l1 : a.size = (strs a).length := by unfold strs; rw [Array.length_toList]; rfl
      have l2 : b.size = (strs b).length := by unfold strs; rw [Array.length_toList]; rfl
      simp only [Op.stringOp]
      rw [if_neg (by simp only [IntKind.max, IntKind.signed, IntKind.bits, if_true]; omega)]
      have : a ++ b = ⟨(strs a ++ strs b).toArray⟩ := by
        have : (a ++ b).data = (strs a ++ strs b).toArray := by
          rw [ByteArray.data_append]; unfold strs; simp
        cases hh : a ++ b with
        | mk d => rw [hh] at this; simp only at this; rw [this]
      rw [this]
      rfl
  all_goals
    first
      | (cases h; simp only [Op.stringOp, e1, e2]; rfl)
      | cases h
def eArith (op : BinOp) (k : IntKind) (x y : Int) : Option Value :=
  match op with
  | .add => some (.int k (wrapE k (x + y)))
  | .sub => some (.int k (wrapE k (x - y)))
  | .mul => some (.int k (wrapE k (x * y)))
  | .quo => bif eqI y 0 then none else some (.int k (wrapE k (x.tdiv y)))
  | .rem => bif eqI y 0 then none else some (.int k (x.tmod y))
  | .eql => some (.bool (eqI x y))
  | .neq => some (.bool (!(eqI x y)))
  | .lss => some (.bool (ltI x y))
  | .leq => some (.bool (leI x y))
  | .gtr => some (.bool (ltI y x))
  | .geq => some (.bool (leI y x))
  | .and | .or | .xor | .andNot => (bitsE op k x y).map (.int k ·)
  | _ => none
def eShift (op : BinOp) (k : IntKind) (x y : Int) : Option Value :=
  match y with
  | .ofNat n => match op with
    | .shl => some (.int k (wrapE k (x * .ofNat (Nat.pow 2 (bif Nat.ble n k.bits then n else k.bits)))))
    | .shr => some (.int k (x.fdiv (.ofNat (Nat.pow 2 (bif Nat.ble n k.bits then n else k.bits)))))
    | _ => none
  | .negSucc _ => none
def isC : Operand → Bool
  | .const _ => true
  | _ => false
def eqFs (T : Ty) (rec : TypeId → Value → Value → Option Bool) : List Field → List Value → List Value → Option Bool
  | [], _, _ => some true
  | f :: fs, xs, ys =>
    match ePart T f.type xs f.offset, ePart T f.type ys f.offset with
    | some x, some y => match rec f.type x y with
      | some true => eqFs T rec fs xs ys
      | some false => some false
      | none => none
    | _, _ => none
def eqV (T : Ty) : Nat → TypeId → Value → Value → Option Bool
  | 0, _, _, _ => none
  | d + 1, t, x, y =>
    match T.und t, x, y with
    | some .bool, .bool a, .bool b => some (a == b)
    | some (.int _), .int k a, .int k' b => if k = k' then some (eqI a b) else none
    | some .string, .string a, .string b => some (eqB (strs a) (strs b))
    | some (.pointer _), .pointer none, .pointer b => some b.isNone
    | some (.pointer _), .pointer (some _), .pointer none => some false
    | some (.interface _), .nilIface, .nilIface => some true
    | some (.interface _), .nilIface, .iface _ _ => some false
    | some (.interface _), .iface _ _, .nilIface => some false
    | some (.struct fs), .agg xs, .agg ys => bif T.eqOk t then eqFs T (eqV T d) fs.toList xs.toList ys.toList else none
    | some (.slice _), .slice none _ _, .slice b _ _ => some b.isNone
    | some (.slice _), .slice (some _) _ _, .slice none _ _ => some false
    | some (.map _ _), .map none, .map b => some b.isNone
    | some (.map _ _), .map (some _), .map none => some false
    | some (.func _ _ _), .nilFunc, .nilFunc => some true
    | some (.func _ _ _), .nilFunc, .func _ _ _ => some false
    | some (.func _ _ _), .func _ _ _, .nilFunc => some false
    | _, _, _ => none
section
variable {T : Ty} {P : Program} {B0 : Nat} {w0 : World} {g : Gm} {hp : Hp} {nx n : Nat} {w : World}
theorem eArith_sound {op : BinOp} {k : IntKind} {x y : Int} {v : Value} (h : eArith op k x y = some v) (t : TypeId) (w : World) : (binOp op t (.int k x) (.int k y)).run P w = .ok v w := by
  unfold eArith at h
  split at h
  · cases h; rw [wrapE_eq]; simp [binOp, Op.intArith]
  · cases h; rw [wrapE_eq]; simp [binOp, Op.intArith]
  · cases h; rw [wrapE_eq]; simp [binOp, Op.intArith]
  · cases hy : eqI y 0 with
    | true => rw [hy] at h; cases h
    | false =>
      rw [hy] at h; cases h
      have : y ≠ 0 := fun e => by rw [eqI_iff.2 e] at hy; cases hy
      rw [wrapE_eq]; simp [binOp, Op.intDiv, this]
  · cases hy : eqI y 0 with
    | true => rw [hy] at h; cases h
    | false =>
      rw [hy] at h; cases h
      have : y ≠ 0 := fun e => by rw [eqI_iff.2 e] at hy; cases hy
      simp [binOp, Op.intDiv, this]
  · cases h; rw [eqI_eq]; simp [binOp, Op.intCmp]
  · cases h; rw [eqI_eq]; simp [binOp, Op.intCmp]; rfl
  · cases h; rw [ltI_eq]; simp [binOp, Op.intCmp]
  · cases h; rw [leI_eq]; simp [binOp, Op.intCmp]
  · cases h; rw [ltI_eq]; simp [binOp, Op.intCmp]
  · cases h; rw [leI_eq]; simp [binOp, Op.intCmp]
  · obtain ⟨r, h1, rfl⟩ := Option.map_eq_some_iff.1 h
    simpa [binOp] using bitsE_sound h1 P w
  · obtain ⟨r, h1, rfl⟩ := Option.map_eq_some_iff.1 h
    simpa [binOp] using bitsE_sound h1 P w
  · obtain ⟨r, h1, rfl⟩ := Option.map_eq_some_iff.1 h
    simpa [binOp] using bitsE_sound h1 P w
  · obtain ⟨r, h1, rfl⟩ := Option.map_eq_some_iff.1 h
    simpa [binOp] using bitsE_sound h1 P w
  · cases h
theorem minN (n m : Nat) : (bif Nat.ble n m then n else m) = min n m := by
  cases h : Nat.ble n m with
  | true => have := Nat.le_of_ble_eq_true h; simp; omega
  | false =>
    have : ¬ n ≤ m := fun k => by rw [Nat.ble_eq_true_of_le k] at h; cases h
    simp; omega
theorem eShift_sound {op : BinOp} {k k' : IntKind} {x y : Int} {v : Value} (h : eShift op k x y = some v) (t : TypeId) (w : World) : (binOp op t (.int k x) (.int k' y)).run P w = .ok v w := by
  unfold eShift at h
  split at h
  · rename_i n
    have e : ∀ m : Nat, (Int.ofNat (Nat.pow 2 m)) = (2 : Int) ^ m := fun m => by
      show ((2 ^ m : Nat) : Int) = _
      rw [Int.natCast_pow]; rfl
    split at h
    · cases h
      rw [wrapE_eq, minN, e]
      simp only [binOp, Op.shift]
      rw [if_neg (by exact Int.not_lt.2 (Int.natCast_nonneg n))]
      rfl
    · cases h
      rw [minN, e]
      simp only [binOp, Op.shift]
      rw [if_neg (by exact Int.not_lt.2 (Int.natCast_nonneg n))]
      rfl
    · cases h
  · cases h
theorem eqFs_sound (ok : T.Ok P) {rec : TypeId → Value → Value → Option Bool} {d : Nat} {w : World}
    (ih : ∀ t x y x' y' b, rec t x y = some b → VRel g x x' → VRel g y y' → (Op.equalIn d t x' y').run P w = .ok b w) {xs ys xs' ys' : Array Value} (hx : ARel g xs xs') (hy : ARel g ys ys') :
    ∀ (fs : List Field) (b : Bool), (∀ f ∈ fs, f.name ≠ "_") → eqFs T rec fs xs.toList ys.toList = some b →
      (forIn fs ((none, ()) : Option Bool × Unit) fun f (_ : Option Bool × Unit) =>
          if f.name ≠ "_" then do
            let a ← part f.type xs' f.offset
            let c ← part f.type ys' f.offset
            let e ← Op.equalIn d f.type a c
            if (!e) = true then pure (ForInStep.done (some false, ())) else pure (ForInStep.yield (none, ()))
          else pure (ForInStep.yield (none, ())) : Sem (Option Bool × Unit)).run P w = .ok (if b then (none, ()) else (some false, ())) w := by
  intro fs
  induction fs with
  | nil => intro b _ h; simp [eqFs] at h; subst h; rfl
  | cons f fs ihf =>
    intro b hn h
    simp only [eqFs] at h
    split at h
    · rename_i x y ex ey
      obtain ⟨x', px, rx⟩ := ePart_sound ok ex hx w
      obtain ⟨y', py, ry⟩ := ePart_sound ok ey hy w
      rw [List.forIn_cons]
      have hf := hn f (List.mem_cons_self ..)
      split at h
      · rename_i hr
        have he := ih _ _ _ _ _ _ hr rx ry
        have step : (if f.name ≠ "_" then do
            let a ← part f.type xs' f.offset
            let c ← part f.type ys' f.offset
            let e ← Op.equalIn d f.type a c
            if (!e) = true then pure (ForInStep.done (some false, ())) else pure (ForInStep.yield (none, ()))
          else pure (ForInStep.yield (none, ())) : Sem (ForInStep (Option Bool × Unit))).run P w = .ok (ForInStep.yield (none, ())) w := by
          rw [if_pos hf, rBind px, rBind py, rBind he]; rfl
        rw [rBind step]
        exact ihf b (fun q hq => hn q (List.mem_cons_of_mem _ hq)) h
      · rename_i hr
        cases h
        have he := ih _ _ _ _ _ _ hr rx ry
        have step : (if f.name ≠ "_" then do
            let a ← part f.type xs' f.offset
            let c ← part f.type ys' f.offset
            let e ← Op.equalIn d f.type a c
            if (!e) = true then pure (ForInStep.done (some false, ())) else pure (ForInStep.yield (none, ()))
          else pure (ForInStep.yield (none, ())) : Sem (ForInStep (Option Bool × Unit))).run P w = .ok (ForInStep.done (some false, ())) w := by
          rw [if_pos hf, rBind px, rBind py, rBind he]; rfl
        rw [rBind step]
        rfl
      · cases h
    · cases h
theorem eqV_sound (ok : T.Ok P) {w : World} : ∀ (d d' : Nat) (t : TypeId) (x y x' y' : Value) (b : Bool), d ≤ d' → eqV T d t x y = some b → VRel g x x' → VRel g y y' → (Op.equalIn d' t x' y').run P w = .ok b w := by
  intro d
  induction d with
  | zero => intro d' t x y x' y' b _ h; cases h
  | succ d ih =>
    intro d' t x y x' y' b hd h rx ry
    obtain ⟨d', rfl⟩ : ∃ e, d' = e + 1 := ⟨d' - 1, by omega⟩
    unfold eqV at h
    split at h
    · rename_i hu
      cases h
      obtain rfl := rx.bool_inv; obtain rfl := ry.bool_inv
      unfold Op.equalIn; rw [rBind (ok.run_und hu w)]; rfl
    · rename_i k a k' b' hu
      obtain rfl := rx.int_inv; obtain rfl := ry.int_inv
      split at h
      · rename_i hk; cases h; subst hk
        unfold Op.equalIn; rw [rBind (ok.run_und hu w)]
        simp only [if_true]
        rw [eqI_eq]; rfl
      · cases h
    · rename_i hu
      cases h
      obtain rfl := rx.string_inv; obtain rfl := ry.string_inv
      unfold Op.equalIn; rw [rBind (ok.run_und hu w)]
      rw [← ByteArray.beq_eqB]; rfl
    · rename_i e b1 hu
      cases h
      obtain rfl := rx.nilPtr_inv
      unfold Op.equalIn; rw [rBind (ok.run_und hu w)]
      cases b1 with
      | none => obtain rfl := ry.nilPtr_inv; rfl
      | some a => obtain ⟨_, rb, ro, _, rfl⟩ := ry.ptr_inv; rfl
    · rename_i e a hu
      cases h
      obtain ⟨_, rb, ro, _, rfl⟩ := rx.ptr_inv
      obtain rfl := ry.nilPtr_inv
      unfold Op.equalIn; rw [rBind (ok.run_und hu w)]; rfl
    · rename_i hu
      cases h
      obtain rfl := rx.nilIface_inv; obtain rfl := ry.nilIface_inv
      unfold Op.equalIn; rw [rBind (ok.run_und hu w)]; rfl
    · rename_i hu
      cases h
      obtain rfl := rx.nilIface_inv; obtain ⟨_, rfl, _⟩ := ry.iface_inv
      unfold Op.equalIn; rw [rBind (ok.run_und hu w)]; rfl
    · rename_i hu
      cases h
      obtain ⟨_, rfl, _⟩ := rx.iface_inv; obtain rfl := ry.nilIface_inv
      unfold Op.equalIn; rw [rBind (ok.run_und hu w)]; rfl
    · rename_i fs xs ys hu
      cases he : T.eqOk t with
      | false => rw [he] at h; cases h
      | true =>
        rw [he] at h
        simp only [cond_true] at h
        obtain ⟨o1, _, o3⟩ := ok.eq t he
        obtain ⟨xs', rfl, hxs⟩ := rx.agg_inv
        obtain ⟨ys', rfl, hys⟩ := ry.agg_inv
        have := eqFs_sound (w := w) (d := d') ok (fun t x y x' y' b hr r1 r2 => ih d' t x y x' y' b (by omega) hr r1 r2) hxs hys fs.toList b (o3 fs (ok.und hu)) h
        unfold Op.equalIn
        rw [rBind (ok.run_und hu w)]
        simp only
        rw [rBind (show (program).run P w = .ok P w from rfl), if_neg (by rw [o1]; simp)]
        rw [← Array.forIn_toList, rBind this]
        cases b <;> rfl
    · rename_i b1 l1 c1 hu
      cases h
      obtain ⟨_, _, rfl⟩ := rx.nilSlice_inv
      unfold Op.equalIn; rw [rBind (ok.run_und hu w)]
      cases b1 with
      | none => obtain ⟨_, _, rfl⟩ := ry.nilSlice_inv; rfl
      | some a => rcases ry.slice_inv with ⟨_, _, _, rfl⟩ | ⟨_, rb, ro, c2, _, _, _, rfl⟩ <;> rfl
    · rename_i hu
      cases h
      obtain ⟨_, _, rfl⟩ := ry.nilSlice_inv
      unfold Op.equalIn; rw [rBind (ok.run_und hu w)]
      rcases rx.slice_inv with ⟨_, _, _, rfl⟩ | ⟨_, rb, ro, c2, _, _, _, rfl⟩ <;> rfl
    · rename_i b1 hu
      cases h
      obtain rfl := rx.nilMap_inv
      unfold Op.equalIn; rw [rBind (ok.run_und hu w)]
      cases b1 with
      | none => obtain rfl := ry.nilMap_inv; rfl
      | some a => obtain ⟨_, _, rfl⟩ := ry.map_inv; rfl
    · rename_i hu
      cases h
      obtain rfl := ry.nilMap_inv; obtain ⟨_, _, rfl⟩ := rx.map_inv
      unfold Op.equalIn; rw [rBind (ok.run_und hu w)]; rfl
    · rename_i hu
      cases h
      obtain rfl := rx.nilFunc_inv; obtain rfl := ry.nilFunc_inv
      unfold Op.equalIn; rw [rBind (ok.run_und hu w)]; rfl
    · rename_i hu
      cases h
      obtain rfl := rx.nilFunc_inv
      unfold Op.equalIn; rw [rBind (ok.run_und hu w)]
      cases ry <;> rfl
    · rename_i hu
      cases h
      obtain rfl := ry.nilFunc_inv
      unfold Op.equalIn; rw [rBind (ok.run_und hu w)]
      cases rx <;> rfl
    · cases h
end
end
end Sw

namespace Sw
noncomputable section
open Go Go.RowKit
def kcode : IntKind → Nat
  | .i8 => 0 | .i16 => 1 | .i32 => 2 | .i64 => 3 | .u8 => 4 | .u16 => 5 | .u32 => 6 | .u64 => 7
def sameK (k k' : IntKind) : Bool := Nat.beq (kcode k) (kcode k')
theorem sameK_iff {k k' : IntKind} (h : sameK k k' = true) : k = k' := by
  have := Nat.eq_of_beq_eq_true h
  cases k <;> cases k' <;> first | rfl | (simp [kcode] at this)
def guardOk (T : Ty) (t : TypeId) (xo yo : Operand) (x y : Value) : Bool :=
  match x, y with
  | .nilIface, .nilIface => isC xo || isC yo
  | .agg _, .agg _ => T.eqOk t
  | _, _ => true
def eBin (T : Ty) (op : BinOp) (t : TypeId) (xo yo : Operand) (x y : Value) : Option Value :=
  match x, y with
  | .int k a, .int k' b => match op with
    | .shl => eShift .shl k a b
    | .shr => eShift .shr k a b
    | op => bif sameK k k' then eArith op k a b else none
  | .string a, .string b => eStr op a b
  | x, y => bif guardOk T t xo yo x y then
      (match op with
      | .eql => (eqV T 12 t x y).map .bool
      | .neq => (eqV T 12 t x y).map fun b => .bool (!b)
      | _ => none) else none
section
variable {T : Ty} {P : Program} {B0 : Nat} {w0 : World} {g : Gm} {hp : Hp} {nx n : Nat} {w : World}
theorem eqGuard_plain {op : BinOp} {t : TypeId} {xo yo : Operand} {x y : Value} (h1 : ∀ c d, ¬ (x = .agg c ∧ y = .agg d)) (h2 : ¬ (x = .nilIface ∧ y = .nilIface)) (w : World) : (eqGuard op t xo yo x y).run P w = .ok () w := by
  cases op <;> first | rfl | skip
  all_goals
    unfold eqGuard
    simp only [Bool.not_true, Bool.false_eq_true, if_false]
    split
    · exact (h2 ⟨rfl, rfl⟩).elim
    · exact (h1 _ _ ⟨rfl, rfl⟩).elim
    · rfl
theorem guardOk_sound (ok : T.Ok P) {op : BinOp} {t : TypeId} {xo yo : Operand} {x y x' y' : Value} (h : guardOk T t xo yo x y = true) (rx : VRel g x x') (ry : VRel g y y') (w : World) : (eqGuard op t xo yo x' y').run P w = .ok () w := by
  unfold guardOk at h
  split at h
  · obtain rfl := rx.nilIface_inv
    obtain rfl := ry.nilIface_inv
    cases op <;> first | rfl | skip
    all_goals
      unfold eqGuard
      simp only [Bool.not_true, Bool.false_eq_true, if_false]
      cases xo <;> cases yo <;> first | (simp [isC] at h; done) | rfl
  · obtain ⟨x1, rfl, _⟩ := rx.agg_inv
    obtain ⟨y1, rfl, _⟩ := ry.agg_inv
    cases op <;> first | rfl | skip
    all_goals
      unfold eqGuard
      simp only [Bool.not_true, Bool.false_eq_true, if_false]
      rw [rBind (show (program).run P w = .ok P w from rfl), rBind (show (program).run P w = .ok P w from rfl)]
      rw [(ok.eq t h).2.1]
      rfl
  · rename_i h1 h2
    refine eqGuard_plain ?_ ?_ w
    · rintro c d ⟨rfl, rfl⟩
      cases rx; cases ry
      exact h2 _ _ rfl rfl
    · rintro ⟨rfl, rfl⟩
      cases rx; cases ry
      exact h1 rfl rfl
theorem eBin_sound (ok : T.Ok P) (H : HRel B0 w0 g hp nx w) {op : BinOp} {t : TypeId} {xo yo : Operand} {x y x' y' v : Value} (h : eBin T op t xo yo x y = some v) (rx : VRel g x x') (ry : VRel g y y') :
    EffS B0 w0 g hp nx n w ((do eqGuard op t xo yo x' y'; binOp op t x' y' : Sem Value).run P w) (v, [], 0) := by
  unfold eBin at h
  split at h
  · rename_i k a k' b
    obtain rfl := rx.int_inv
    obtain rfl := ry.int_inv
    have hq := eqGuard_plain (P := P) (op := op) (t := t) (xo := xo) (yo := yo) (x := .int k a) (y := .int k' b) (fun c d h => by cases h.1) (fun h => by cases h.1) w
    have hv : ∀ r : Value, (binOp op t (.int k a) (.int k' b)).run P w = .ok r w → VRel g r r → EffS B0 w0 g hp nx n w ((do eqGuard op t xo yo (.int k a) (.int k' b); binOp op t (.int k a) (.int k' b) : Sem Value).run P w) (r, [], 0) :=
      fun r h1 h2 => EffS.pure H (by rw [rBind hq]; exact h1) h2
    split at h
    · refine hv v (eShift_sound h t w) ?_
      unfold eShift at h
      split at h
      · split at h <;> first | (cases h; exact .int _ _) | cases h
      · cases h
    · refine hv v (eShift_sound h t w) ?_
      unfold eShift at h
      split at h
      · split at h <;> first | (cases h; exact .int _ _) | cases h
      · cases h
    · cases hk : sameK k k' with
      | false => rw [hk] at h; cases h
      | true =>
        rw [hk] at h
        simp only [cond_true] at h
        obtain rfl := sameK_iff hk
        refine hv v (eArith_sound h t w) ?_
        unfold eArith at h
        split at h <;> first | (cases h; first | exact .int _ _ | exact .bool _) | skip
        · cases hy : eqI b 0 <;> rw [hy] at h <;> cases h; exact .int _ _
        · cases hy : eqI b 0 <;> rw [hy] at h <;> cases h; exact .int _ _
        all_goals first | (cases h; done) | (obtain ⟨r, _, rfl⟩ := Option.map_eq_some_iff.1 h; exact .int _ _)
  · rename_i a b
    obtain rfl := rx.string_inv
    obtain rfl := ry.string_inv
    have hq := eqGuard_plain (P := P) (op := op) (t := t) (xo := xo) (yo := yo) (x := .string a) (y := .string b) (fun c d h => by cases h.1) (fun h => by cases h.1) w
    refine EffS.pure H (v' := v) ?_ ?_
    · rw [rBind hq]
      have := eStr_sound h P w
      have e : binOp op t (.string a) (.string b) = Op.stringOp op a b := by cases op <;> rfl
      rw [e]; exact this
    · unfold eStr at h
      split at h <;> first | (cases h; done) | (cases h; exact .bool _) | skip
      cases hb : (Nat.blt (strs a).length 1073741824 && Nat.blt (strs b).length 1073741824) <;> rw [hb] at h <;> cases h
      exact .string _
  · rename_i h1 h2
    cases hg : guardOk T t xo yo x y with
    | false => rw [hg] at h; cases h
    | true =>
      rw [hg] at h
      simp only [cond_true] at h
      have hq := guardOk_sound ok (op := op) hg rx ry w
      have hni : ∀ k a k' b, ¬ (x' = .int k a ∧ y' = .int k' b) := by
        rintro k a k' b ⟨rfl, rfl⟩
        cases rx; cases ry; exact h1 _ _ _ _ rfl rfl
      have hns : ∀ a b, ¬ (x' = .string a ∧ y' = .string b) := by
        rintro a b ⟨rfl, rfl⟩
        cases rx; cases ry; exact h2 _ _ rfl rfl
      have hrx : ∀ k b, x' ≠ .float k b := by rintro k b rfl; cases rx
      have hrc : ∀ k b c, x' ≠ .complex k b c := by rintro k b c rfl; cases rx
      split at h
      · obtain ⟨b, hb, rfl⟩ := Option.map_eq_some_iff.1 h
        refine EffS.pure H (v' := .bool b) ?_ (.bool _)
        rw [rBind hq]
        have e : binOp .eql t x' y' = (do pure (.bool (← Op.equal t x' y'))) := by
          unfold binOp
          split <;> first | rfl | contradiction | (exfalso; first | exact hni _ _ _ _ ⟨rfl, rfl⟩ | exact hns _ _ ⟨rfl, rfl⟩ | exact hrx _ _ rfl | exact hrc _ _ _ rfl)
        rw [e, rBind (show (Op.equal t x' y').run P w = .ok b w from eqV_sound ok 12 Op.maxDepth t x y x' y' b (by decide) hb rx ry)]
        rfl
      · obtain ⟨b, hb, rfl⟩ := Option.map_eq_some_iff.1 h
        refine EffS.pure H (v' := .bool (!b)) ?_ (.bool _)
        rw [rBind hq]
        have e : binOp .neq t x' y' = (do pure (.bool (!(← Op.equal t x' y')))) := by
          unfold binOp
          split <;> first | rfl | contradiction | (exfalso; first | exact hni _ _ _ _ ⟨rfl, rfl⟩ | exact hns _ _ ⟨rfl, rfl⟩ | exact hrx _ _ rfl | exact hrc _ _ _ rfl)
        rw [e, rBind (show (Op.equal t x' y').run P w = .ok b w from eqV_sound ok 12 Op.maxDepth t x y x' y' b (by decide) hb rx ry)]
        rfl
      · cases h
def eUn (op : UnOp) (x : Value) : Option Value :=
  match op, x with
  | .neg, .int k m => some (.int k (wrapE k (0 - m)))
  | .not, .bool b => some (.bool (!b))
  | .xor, .int .u64 m => some (.int .u64 (signK .u64 (Nat.xor 18446744073709551615 (resK .u64 m))))
  | .xor, .int .u32 m => some (.int .u32 (signK .u32 (Nat.xor 4294967295 (resK .u32 m))))
  | _, _ => none
theorem eUn_sound (H : HRel B0 w0 g hp nx w) {op : UnOp} {x x' v : Value} (h : eUn op x = some v) (rx : VRel g x x') : EffS B0 w0 g hp nx n w ((Op.unary op x').run P w) (v, [], 0) := by
  unfold eUn at h
  split at h
  · rename_i k m
    cases h; obtain rfl := rx.int_inv
    refine EffS.pure H ?_ (.int _ _)
    rw [wrapE_eq]; rfl
  · cases h; obtain rfl := rx.bool_inv
    exact EffS.pure H rfl (.bool _)
  · rename_i m
    cases h; obtain rfl := rx.int_inv
    refine EffS.pure H ?_ (.int _ _)
    exact bitsE_sound (op := .xor) (k := .u64) (x := 18446744073709551615) (y := m) rfl P w
  · rename_i m
    cases h; obtain rfl := rx.int_inv
    refine EffS.pure H ?_ (.int _ _)
    exact bitsE_sound (op := .xor) (k := .u32) (x := 4294967295) (y := m) rfl P w
  · cases h
def eMakeIface (T : Ty) (t : TypeId) (x : Value) : Option Value :=
  match T.und t with
  | some (.interface _) => none
  | some _ => some (.iface t x)
  | none => none
theorem eMakeIface_sound (ok : T.Ok P) (H : HRel B0 w0 g hp nx w) {t : TypeId} {x x' v : Value} (h : eMakeIface T t x = some v) (rx : VRel g x x') : EffS B0 w0 g hp nx n w ((Instr.makeInterface t x').run P w) (v, [], 0) := by
  unfold eMakeIface at h
  split at h
  · cases h
  · rename_i d hn hu
    cases h
    refine EffS.pure H ?_ (.iface rx)
    unfold Instr.makeInterface
    rw [rBind (ok.run_und hu w)]
    cases d <;> first | rfl | exact (hn _ rfl).elim
  · cases h
def eMakeFunc (fn : Fn) (x y : Array Value) : Option Value :=
  match fn with
  | .func _ => some (.func fn x y)
  | .method _ => some (.func fn x y)
  | _ => none
theorem eMakeFunc_sound (H : HRel B0 w0 g hp nx w) {fn : Fn} {x y x' y' : Array Value} {v : Value} (h : eMakeFunc fn x y = some v) (rx : ARel g x x') (ry : ARel g y y') : EffS B0 w0 g hp nx n w ((Instr.makeFunc fn x' y').run P w) (v, [], 0) := by
  unfold eMakeFunc at h
  split at h
  · cases h; exact EffS.pure H rfl (.func rx.1 ry.1 rx.2 ry.2)
  · cases h; exact EffS.pure H rfl (.method rx.1 ry.1 rx.2 ry.2)
  · cases h
def eExtract (x : Value) (i : Nat) : Option Value :=
  match x with
  | .tuple vs => vs.toList[i]?
  | _ => none
theorem eExtract_sound (H : HRel B0 w0 g hp nx w) {x x' v : Value} {i : Nat} (h : eExtract x i = some v) (rx : VRel g x x') : EffS B0 w0 g hp nx n w ((Instr.extract x' i).run P w) (v, [], 0) := by
  unfold eExtract at h
  split at h
  · obtain ⟨x1, rfl, hx⟩ := rx.tuple_inv
    obtain ⟨v', h1, h2⟩ := hx.toList.get h
    have : x1[i]? = some v' := by simpa using h1
    refine EffS.pure H (v' := v') ?_ h2
    simp only [Instr.extract, this]
    rfl
  · cases h
def ePick (c a b : Value) : Option Value :=
  match c with
  | .bool true => some a
  | .bool false => some b
  | _ => none
def eNilCheck (x : Value) : Option Value :=
  match x with
  | .pointer (some _) => some x
  | .func (.func _) _ _ => some x
  | .func (.yield _) _ _ => some x
  | .iface _ _ => some x
  | _ => none
def eLen (T : Ty) (hp : Hp) (t : TypeId) (x : Value) : Option Value :=
  match T.und t, x with
  | some .string, .string s => some (.int .i64 (.ofNat s.data.toList.length))
  | some (.array k _), _ => some (.int .i64 (.ofNat k))
  | some (.slice _), .slice _ l _ => some (.int .i64 (.ofNat l))
  | some (.map _ _), .map none => some (.int .i64 0)
  | some (.map _ _), .map (some r) => match hp r with
    | some (.map es _) => some (.int .i64 (.ofNat es.length))
    | _ => none
  | _, _ => none
theorem HRel.mapAt (H : HRel B0 w0 g hp nx w) {b : Nat} {es : List MapEntry} {c : Nat} (h : hp b = some (.map es c)) {rb ro : Nat} (hb : g.blk b = some (rb, ro)) :
    ∃ es', ro = 0 ∧ w.heap[rb]? = some (.map es' c) ∧ B0 ≤ rb ∧ ERel g es es'.toList := by
  obtain ⟨robj, a2, a3⟩ := (H.live b _ h).2 _ _ hb
  cases robj <;> first | exact a3.elim | skip
  obtain ⟨rfl, k1, rfl, k2⟩ := a3
  exact ⟨_, rfl, a2, k1, k2⟩
theorem run_getObj {r : Nat} {o : Obj} (h : w.heap[r]? = some o) (hc : ∀ c e f, o ≠ .cells c e f) : (getObj r).run P w = .ok o w := by
  unfold getObj
  simp only [Sem.run, h]
  all_goals (cases o <;> first | exact (hc _ _ _ rfl).elim | rfl)
theorem eLen_sound (ok : T.Ok P) (H : HRel B0 w0 g hp nx w) {t : TypeId} {ts : Array TypeId} (ht : ts[0]? = some t) {x x' v : Value} (h : eLen T hp t x = some v) (rx : VRel g x x') (args : Array Value) (ha : args[0]? = some x') (ty : TypeId) :
    EffS B0 w0 g hp nx n w ((Builtin.len_ ts ty args).run P w) (v, [], 0) := by
  unfold eLen at h
  split at h
  · rename_i s hu
    cases h; obtain rfl := rx.string_inv
    refine EffS.pure H ?_ (.int _ _)
    simp only [Builtin.len_, ht, ha]
    rw [rBind (ok.run_und hu w)]
    show Result.ok _ w = _
    unfold goInt
    rw [Array.length_toList]; rfl
  · rename_i k el hu
    cases h
    refine EffS.pure H ?_ (.int _ _)
    simp only [Builtin.len_, ht, ha]
    rw [rBind (ok.run_und hu w)]
    cases x' <;> rfl
  · rename_i el a l c hu
    cases h
    refine EffS.pure H ?_ (.int _ _)
    simp only [Builtin.len_, ht, ha]
    rw [rBind (ok.run_und hu w)]
    cases rx <;> rfl
  · rename_i hu
    cases h; obtain rfl := rx.nilMap_inv
    refine EffS.pure H ?_ (.int _ _)
    simp only [Builtin.len_, ht, ha]
    rw [rBind (ok.run_und hu w)]
    rfl
  · rename_i r hu
    split at h
    · rename_i es c hr
      cases h
      obtain ⟨rr, hg, rfl⟩ := rx.map_inv
      obtain ⟨es', _, a2, _, a4⟩ := H.mapAt hr hg
      refine EffS.pure H ?_ (.int _ _)
      simp only [Builtin.len_, ht, ha]
      rw [rBind (ok.run_und hu w)]
      simp only
      rw [rBind (run_getObj a2 (fun _ _ _ h => by cases h))]
      show Result.ok _ w = _
      unfold goInt
      rw [a4.1, Array.length_toList]; rfl
    · cases h
  · cases h
end
end
end Sw

namespace Sw
noncomputable section
open Go Go.RowKit
def u8v (b : UInt8) : Value := .int .u8 b.toNat
def appN (T : Ty) (xt : TypeId) (x : Value) : Option (Nat × Bool) :=
  match T.und xt, x with
  | some (.int _), .int _ (.ofNat l) => bif Nat.blt l 2147483648 then some (l, true) else none
  | some (.int _), _ => none
  | some _, .slice _ l _ => some (l, false)
  | some _, .string s => some ((strs s).length, false)
  | _, _ => none
def srcCells (hp : Hp) (k : Nat) (x : Value) : Option (List Value) :=
  match x with
  | .slice (some ⟨b, off, none⟩) _ _ => match k with
    | 0 => some []
    | _ => match hp b with
      | some (.cells cs _) => takeX k (cs.drop off)
      | _ => none
  | .slice (some _) _ _ => match k with | 0 => some [] | _ => none
  | .slice none _ _ => some []
  | .string s => takeX k ((strs s).map u8v)
  | _ => none
section
variable {T : Ty} {P : Program} {B0 : Nat} {w0 : World} {g : Gm} {hp : Hp} {nx n : Nat} {w : World}
theorem srcCells_sound (H : HRel B0 w0 g hp nx w) {k m size : Nat} {x x' : Value} {l : List Value} (h : srcCells hp k x = some l) (rx : VRel g x x') (hk : k = m * size) (hs : ∀ s, x = .string s → size = 1 ∧ m ≤ (strs s).length)
    (hl : ∀ a l c, x = .slice a l c → m ≤ l) : ∃ l', (Builtin.firstCells size m x').run P w = .ok l'.toArray w ∧ LRel g l l' := by
  have zero : ∀ a : Addr, m * size = 0 → (Builtin.firstCells size m (.slice (some a) 0 0)).run P w = .ok #[] w := fun a h0 => by
    simp only [Builtin.firstCells]
    rw [h0]; rfl
  unfold srcCells at h
  split at h
  · rename_i b off l0 c0
    have hm := hl _ _ _ rfl
    rcases rx.slice_inv with ⟨a2, rfl, rfl, rfl⟩ | ⟨_, rb, ro, c2, hg, _, _, rfl⟩
    · have hm0 : m = 0 := by omega
      subst hm0
      simp only [Nat.zero_mul] at hk
      subst hk
      cases h
      exact ⟨[], zero a2 (by omega), LRel.nil g⟩
    · split at h
      · cases h
        refine ⟨[], ?_, LRel.nil g⟩
        simp only [Builtin.firstCells]
        rw [← hk]; rfl
      · split at h
        · rename_i cs mm hb
          obtain ⟨l', h1, h2⟩ := H.loadCells (P := P) hb hg h
          refine ⟨l', ?_, h2⟩
          simp only [Builtin.firstCells]
          rw [← hk]; exact h1
        · cases h
  · split at h
    · cases h
      refine ⟨[], ?_, LRel.nil g⟩
      rcases rx.slice_inv with ⟨a2, rfl, rfl, rfl⟩ | ⟨_, rb, ro, c2, hg, _, _, rfl⟩ <;>
      · simp only [Builtin.firstCells]
        rw [← hk]; rfl
    · cases h
  · cases h
    obtain ⟨_, _, rfl⟩ := rx.nilSlice_inv
    exact ⟨[], rfl, LRel.nil g⟩
  · rename_i s
    obtain rfl := rx.string_inv
    obtain ⟨h1, h2⟩ := hs s rfl
    subst h1
    simp only [Nat.mul_one] at hk
    subst hk
    obtain ⟨rfl, _⟩ := takeX_some _ _ _ h
    refine ⟨((strs s).map u8v).take k, ?_, ?_⟩
    · simp only [Builtin.firstCells]
      have : (s.extract 0 k).data.map (fun b => (Value.int .u8 b.toNat)) = (((strs s).map u8v).take k).toArray := by
        rw [extract_drop_take]
        unfold strs
        simp only [List.drop_zero, Nat.sub_zero, List.map_toArray, ← List.map_take]
        rfl
      rw [this]; rfl
    · refine ⟨rfl, fun i v v' e e' => ?_⟩
      rw [e] at e'; cases e'
      rw [List.getElem?_take] at e
      split at e
      · rw [List.getElem?_map] at e
        cases hh : (strs s)[i]? with
        | none => rw [hh] at e; cases e
        | some b => rw [hh] at e; cases e; exact .int _ _
      · cases e
  · cases h
theorem LRel.one_all {x x' : List Value} (h : LRel g x x') (ho : x.all one = true) : ∀ v ∈ x', one v = true := by
  rw [List.all_eq_true] at ho
  intro v' hv'
  obtain ⟨i, hi, e⟩ := List.mem_iff_getElem.1 hv'
  have hi2 : i < x.length := by rw [h.1]; exact hi
  have := h.2 i x[i] x'[i] (List.getElem?_eq_getElem hi2) (List.getElem?_eq_getElem hi)
  rw [e] at this
  rw [← this.one]
  exact ho _ (List.getElem_mem hi2)
theorem growBy_le (m : Nat) : ∀ (r c : Nat), c ≤ 2 * m + 192 → Builtin.growBy m r c ≤ 2 * m + 192 := by
  intro r
  induction r with
  | zero => intro c h; exact h
  | succ r ih =>
    intro c h
    unfold Builtin.growBy
    split
    · exact h
    · exact ih _ (by omega)
theorem nextslicecap_le {m c : Nat} (h : c < m) : Builtin.nextslicecap m c ≤ 2 * m + 192 := by
  unfold Builtin.nextslicecap
  split
  · omega
  · split
    · omega
    · exact growBy_le m 4 c (by omega)
def strOk (size : Nat) (x : Value) : Bool :=
  match x with
  | .string _ => Nat.beq size 1
  | _ => true
def newCells (hp : Hp) (z : Value) (m size : Nat) (zeros : Bool) (x : Value) : Option (List Value) :=
  bif zeros then some (repC m z.cells.toList) else bif strOk size x then srcCells hp (m * size) x else none
theorem newCells_src {hp : Hp} {z : Value} {m size : Nat} {x : Value} {new : List Value} (h : newCells hp z m size false x = some new) : srcCells hp (m * size) x = some new ∧ ∀ s, x = .string s → size = 1 := by
  unfold newCells at h
  simp only [cond_false] at h
  cases hs : strOk size x with
  | false => rw [hs] at h; cases h
  | true =>
    rw [hs] at h
    exact ⟨h, fun s e => by subst e; exact Nat.eq_of_beq_eq_true hs⟩
def beyond (f : Nat) (e : Mem) : Bool := Nat.blt f (e.base + e.len)
theorem beyond_false {f : Nat} {e : Mem} (h : beyond f e = false) : e.base + e.len ≤ f := by
  unfold beyond at h
  have : ¬ f < e.base + e.len := fun k => by rw [blt_iff.2 k] at h; cases h
  omega
def growUps (hp : Hp) (base : Option Addr) (l size : Nat) (new : List Value) (m n : Nat) : Option Eff :=
  match base with
  | none => some (.slice (some ⟨n + 1, 0, none⟩) (l + m) (l + m),
      [(n, some (AObj.group [⟨n + 1, 0, new.length⟩])), (n + 1, some (AObj.cells new ⟨false, some n, 0, size⟩))], 2)
  | some ⟨b, off, none⟩ => match hp b with
    | some (.cells cs mt) => (match l * size with | 0 => some [] | k => takeX k (cs.drop off)).bind fun old => match mt.grp with
      | none => some (.slice (some ⟨n + 1, 0, none⟩) (l + m) (l + m),
          [(n, some (AObj.group [⟨n + 1, 0, (old ++ new).length⟩])), (n + 1, some (AObj.cells (old ++ new) ⟨false, some n, 0, size⟩))], 2)
      | some gr => match hp gr with
        | some (.group ms) =>
          bif (!mt.ro && Nat.beq mt.unit size) && noGroups hp (beyond (mt.base + off + l * size)) ms then
            some (.slice (some ⟨n, 0, none⟩) (l + m) (l + m),
              kills (beyond (mt.base + off + l * size)) ms ++ [(gr, some (AObj.group ((ms.filter fun e => !(beyond (mt.base + off + l * size) e)) ++ ([⟨n, mt.base + off, (old ++ new).length⟩] : List Mem)))),
                (n, some (AObj.cells (old ++ new) ⟨false, some gr, mt.base + off, size⟩))], 1)
          else none
        | _ => none
    | _ => none
  | _ => none
def eAppend (T : Ty) (hp : Hp) (st xt : TypeId) (s x : Value) (n : Nat) : Option Eff :=
  match T.und st, s with
  | some (.slice el), .slice base l c =>
    match T.size el, T.zero el, T.info el, appN T xt x with
    | some size, some z, some inf, some (m, zeros) =>
      (newCells hp z m size zeros x).bind fun new =>
        bif new.all one && (Nat.ble ((l + m) * inf.bytes) 70368744177664 && (Nat.ble inf.bytes 1073741824 && Nat.ble (l + m) 70368744177664)) then
          (bif Nat.ble (l + m) c then
            (match base, new with
            | _, [] => some (.slice base (l + m) c, [], 0)
            | some ⟨b, off, none⟩, new => match hp b with
              | some (.cells cs mt) => (storeUps hp b cs mt (off + l * size) new).map fun u => (.slice base (l + m) c, u, 0)
              | _ => none
            | _, _ => none)
          else growUps hp base l size new m n)
        else none
    | _, _, _, _ => none
  | _, _ => none
theorem appN_sound {xt : TypeId} {x x' : Value} {m : Nat} {zeros : Bool} (h : appN T xt x = some (m, zeros)) (rx : VRel g x x') (w : World) :
    ∃ d, T.und xt = some d ∧ (match d with | .int _ => true | _ => false) = zeros ∧
      (zeros = true → ∃ k, x' = .int k (m : Int) ∧ m < 2147483648) ∧ (zeros = false → (Builtin.lenOf x').run P w = .ok m w ∧ (∀ s, x = .string s → m = (strs s).length) ∧ ∀ a l c, x = .slice a l c → m = l) := by
  unfold appN at h
  split at h
  · rename_i kk kx l hu
    cases hb : Nat.blt l 2147483648 with
    | false => rw [hb] at h; cases h
    | true =>
      rw [hb] at h
      cases h
      obtain rfl := rx.int_inv
      exact ⟨_, hu, rfl, fun _ => ⟨_, rfl, blt_iff.1 hb⟩, fun h => by cases h⟩
  · cases h
  · rename_i d a l c hn hu
    cases h
    refine ⟨d, hu, ?_, fun h => (by cases h), fun _ => ⟨?_, fun s h => (by cases h), fun a l c h => (by cases h; rfl)⟩⟩
    · cases d <;> first | rfl | exact (hn _ rfl).elim
    · cases rx <;> rfl
  · rename_i d s hn hu
    cases h
    refine ⟨d, hu, ?_, fun h => (by cases h), fun _ => ⟨?_, fun s h => (by cases h; rfl), fun a l c h => (by cases h)⟩⟩
    · cases d <;> first | rfl | exact (hn _ rfl).elim
    · obtain rfl := rx.string_inv
      show Result.ok _ w = _
      rw [show (strs s).length = s.size from by unfold strs; rw [Array.length_toList]; rfl]
  · cases h
theorem newCells_sound (ok : T.Ok P) {el : TypeId} {z : Value} {size : Nat} (hz : T.zero el = some z) (hzs : z.cells.size = size) (H : HRel B0 w0 g hp nx w) {m : Nat} {zeros : Bool} {x x' : Value} {new : List Value}
    (h : newCells hp z m size zeros x = some new) (rx : VRel g x x') (hn : zeros = false → (∀ s, x = .string s → m = (strs s).length) ∧ ∀ a l c, x = .slice a l c → m = l) :
    ∃ new', ((if !zeros then Builtin.firstCells size m x' else if m * size = 0 then pure #[] else do pure (Builtin.zeroCells (← zeroValue el).cells m) : Sem (Array Value))).run P w = .ok new'.toArray w ∧ LRel g new new' ∧ (zeros = true → new.length = m * size) := by
  cases zeros with
  | true =>
    unfold newCells at h
    simp only [cond_true, Option.some.injEq] at h
    subst h
    have hl : ∀ k, (repC k z.cells.toList).length = k * size := fun k => by
      induction k with
      | zero => simp [repC]
      | succ k ih => simp only [repC, List.length_append, ih, Array.length_toList, hzs]; rw [Nat.succ_mul]; omega
    refine ⟨repC m z.cells.toList, ?_, (LRel.refl_flat (ok.flat_zero hz)).repC m, fun _ => hl m⟩
    simp only [Bool.not_true, Bool.false_eq_true, if_false]
    by_cases h0 : m * size = 0
    · rw [if_pos h0]
      have := hl m
      rw [h0] at this
      rw [List.length_eq_zero_iff.1 this]
      rfl
    · rw [if_neg h0, rBind (ok.run_zero hz w)]
      have : Builtin.zeroCells z.cells m = (repC m z.cells.toList).toArray := by
        unfold Builtin.zeroCells
        rw [← repC_eq z.cells m]
      rw [this]; rfl
  | false =>
    obtain ⟨h, hs1⟩ := newCells_src h
    obtain ⟨h1, h2⟩ := hn rfl
    obtain ⟨l', k1, k2⟩ := srcCells_sound (P := P) H h rx rfl (fun s e => ⟨hs1 s e, by rw [h1 s e]; exact Nat.le_refl _⟩) (fun a l c e => by rw [h2 a l c e]; exact Nat.le_refl _)
    exact ⟨l', by simpa using k1, k2, fun h => by cases h⟩
structure AppArgs (T : Ty) (P : Program) (st xt el : TypeId) (size : Nat) (tys : Array TypeId) (asg : Array Value) (base : Option Addr) (l c m : Nat) (x' : Value) (zeros : Bool) (inf : TypeInfo) : Prop where
  und : T.und st = some (.slice el)
  size : T.size el = some size
  ty0 : tys[0]? = some st
  ty1 : tys[1]? = some xt
  a0 : asg[0]? = some (.slice base l c)
  a1 : asg[1]? = some x'
  xd : ∃ d, T.und xt = some d ∧ (match d with | .int _ => true | _ => false) = zeros
  zer : zeros = true → ∃ k, x' = .int k (m : Int) ∧ m < 2147483648
  len : zeros = false → ∀ w, (Builtin.lenOf x').run P w = .ok m w
  infoE : T.info el = some inf
  small : (l + m) * inf.bytes ≤ 70368744177664 ∧ inf.bytes ≤ 1073741824 ∧ l + m ≤ 70368744177664
theorem wrap_small {m : Nat} (h : m < 2147483648) : IntKind.i64.wrap (m : Int) = m := by
  have := wrapE_eq .i64 (m : Int)
  rw [← this]
  show wrapE .i64 (.ofNat m) = _
  unfold wrapE
  have hr : resK .i64 (.ofNat m) = m := by
    show m % 18446744073709551616 = m
    exact Nat.mod_eq_of_lt (by omega)
  rw [hr]
  unfold signK
  have : Nat.ble (halfK .i64) m = false := by
    cases hb : Nat.ble (halfK .i64) m with
    | false => rfl
    | true => have := Nat.le_of_ble_eq_true hb; simp only [halfK] at this; omega
  rw [this]; rfl
theorem AppArgs.fits (ok : T.Ok P) {st xt el : TypeId} {size : Nat} {tys : Array TypeId} {asg : Array Value} {base : Option Addr} {l c m : Nat} {x' : Value} {zeros : Bool} {inf : TypeInfo}
    (A : AppArgs T P st xt el size tys asg base l c m x' zeros inf) {new' : List Value}
    (hn : ((if !zeros then Builtin.firstCells size m x' else if m * size = 0 then pure #[] else do pure (Builtin.zeroCells (← zeroValue el).cells m) : Sem (Array Value))).run P w = .ok new'.toArray w) (hfit : l + m ≤ c) (ty : TypeId) {w' : World}
    (hst : ∀ a, base = some a → (storeCells (a.add (l * size)) new').run P w = .ok () w') (hst0 : base = none → w' = w) :
    (Builtin.append_ tys ty asg).run P w = .ok (.slice base (l + m) c) w' := by
  obtain ⟨d, hd, hz⟩ := A.xd
  unfold Builtin.append_
  simp only [A.ty0, A.ty1, A.a0, A.a1]
  rw [rBind (ok.run_und A.und w)]
  simp only
  rw [rBind (ok.run_size A.size w), rBind (ok.run_und hd w), pure_bind]
  cases zeros with
  | true =>
    cases d <;> first | (cases hz; done) | skip
    obtain ⟨k, rfl, hk⟩ := A.zer rfl
    simp only [if_true, asInt, asIntOf, pure_bind, wrap_small hk]
    rw [if_neg (by omega), rBind (ok.run_info A.infoE w), if_neg (by
      have h1 : m * inf.bytes ≤ (l + m) * inf.bytes := Nat.mul_le_mul_right _ (by omega)
      have := A.small.1
      have h2 : ((m : Int) * (inf.bytes : Int)) = ((m * inf.bytes : Nat) : Int) := by rw [Int.natCast_mul]
      rw [h2]; omega)]
    simp only [Int.toNat_natCast, if_pos hfit]
    rw [rBind hn]
    cases base with
    | none => rw [hst0 rfl]; rfl
    | some a => simp only; rw [rBind (hst a rfl)]; rfl
  | false =>
    have hl := A.len rfl w
    split
    · cases hz
    · simp only [Bool.false_eq_true, if_false]
      rw [rBind hl, if_pos hfit, rBind hn]
      cases base with
      | none => rw [hst0 rfl]; rfl
      | some a => simp only; rw [rBind (hst a rfl)]; rfl
theorem run_choose_cap (need c : Nat) (el : TypeId) (w : World) : ∃ t, need ≤ t ∧ (choose (.appendCap need c el)).run P w = .ok t w.drew :=
  ⟨need + (w.tape w.drawn (.appendCap need c el)) % (2 ^ 63 - need), Nat.le_add_right _ _, rfl⟩
theorem run_askRoom (b : Nat) (w : World) : (askRoom b).run P w = .ok () w := by
  unfold askRoom
  split <;> rfl
theorem AppArgs.grows (ok : T.Ok P) {st xt el : TypeId} {size : Nat} {tys : Array TypeId} {asg : Array Value} {base : Option Addr} {l c m : Nat} {x' : Value} {zeros : Bool} {inf : TypeInfo}
    (A : AppArgs T P st xt el size tys asg base l c m x' zeros inf) {old' new' : List Value} {z : Value} (hz : T.zero el = some z)
    (hn : ((if !zeros then Builtin.firstCells size m x' else if m * size = 0 then pure #[] else do pure (Builtin.zeroCells (← zeroValue el).cells m) : Sem (Array Value))).run P w.drew = .ok new'.toArray w.drew)
    (ho : (Builtin.firstCells size l (.slice base l c)).run P w.drew = .ok old'.toArray w.drew) (hfit : c < l + m) (ty : TypeId) :
    ∃ t, l + m ≤ t ∧ (Builtin.append_ tys ty asg).run P w = .ok (.slice (some ⟨w.heap.size, 0, none⟩) (l + m) t) (w.drew.alloc (.cells (old' ++ new' ++ repC (t - (l + m)) z.cells.toList).toArray el)) := by
  obtain ⟨d, hd, hzz⟩ := A.xd
  obtain ⟨t, ht, hch⟩ := run_choose_cap (P := P) (l + m) c el w
  have hzc : ∀ k, Builtin.zeroCells z.cells k = (repC k z.cells.toList).toArray := fun k => by
    unfold Builtin.zeroCells; rw [← repC_eq z.cells k]
  refine ⟨t, ht, ?_⟩
  have hb1 : ¬ (((l + m : Nat) : Int) > IntKind.i64.max) := fun h1 => by
    have h2 := A.small.2.2
    have h3 : IntKind.i64.max = 9223372036854775807 := by decide
    rw [h3] at h1
    omega
  have hb2 : ¬ (Builtin.nextslicecap (l + m) c * inf.bytes > 2 ^ 48) := fun h => by
    have h1 := nextslicecap_le hfit
    obtain ⟨s1, s2, _⟩ := A.small
    have h2 : Builtin.nextslicecap (l + m) c * inf.bytes ≤ (2 * (l + m) + 192) * inf.bytes := Nat.mul_le_mul_right _ h1
    have h3 : (2 * (l + m) + 192) * inf.bytes = 2 * ((l + m) * inf.bytes) + 192 * inf.bytes := by rw [Nat.add_mul, Nat.mul_assoc]
    omega
  unfold Builtin.append_
  simp only [A.ty0, A.ty1, A.a0, A.a1]
  rw [rBind (ok.run_und A.und w)]
  simp only
  rw [rBind (ok.run_size A.size w), rBind (ok.run_und hd w), pure_bind]
  have hfit' : ¬ (l + m ≤ c) := by omega
  cases zeros with
  | true =>
    cases d <;> first | (cases hzz; done) | skip
    obtain ⟨k, rfl, hk⟩ := A.zer rfl
    simp only [if_true, asInt, asIntOf, pure_bind, wrap_small hk]
    rw [if_neg (by omega), rBind (ok.run_info A.infoE w), if_neg (by
      have h1 : m * inf.bytes ≤ (l + m) * inf.bytes := Nat.mul_le_mul_right _ (by omega)
      have := A.small.1
      have h2 : ((m : Int) * (inf.bytes : Int)) = ((m * inf.bytes : Nat) : Int) := by rw [Int.natCast_mul]
      rw [h2]; omega)]
    simp only [Int.toNat_natCast, if_neg hfit']
    rw [rBind (ok.run_info A.infoE w), if_neg (fun h => hb1 h.1), rBind (ok.run_info A.infoE w), if_neg hb2, rBind hch, rBind (ok.run_info A.infoE w.drew), rBind (run_askRoom _ _), rBind ho, rBind hn, rBind (ok.run_zero hz w.drew), rBind (run_newRow _ _ _)]
    rw [hzc]
    simp
  | false =>
    have hl := A.len rfl w
    split
    · cases hzz
    · simp only [Bool.false_eq_true, if_false]
      rw [rBind hl, if_neg hfit', rBind (ok.run_info A.infoE w), if_neg (fun h => hb1 h.1), rBind (ok.run_info A.infoE w), if_neg hb2, rBind hch, rBind (ok.run_info A.infoE w.drew), rBind (run_askRoom _ _), rBind ho, rBind hn, rBind (ok.run_zero hz w.drew), rBind (run_newRow _ _ _)]
      rw [hzc]
      simp
theorem takeX_len {α : Type} {k : Nat} {l r : List α} (h : takeX k l = some r) : r.length = k := by
  obtain ⟨rfl, h2⟩ := takeX_some _ _ _ h
  simp; omega
theorem repC_len {α : Type} (z : List α) : ∀ k, (repC k z).length = k * z.length
  | 0 => by simp [repC]
  | k + 1 => by simp only [repC, List.length_append, repC_len z k]; rw [Nat.succ_mul]; omega
theorem newCells_len {z : Value} {size m : Nat} {zeros : Bool} {x x' : Value} {new : List Value} (h : newCells hp z m size zeros x = some new) (hzs : z.cells.size = size) (rx : VRel g x x')
    (hn : zeros = false → ∀ a l c, x = .slice a l c → m = l) : new.length = m * size := by
  cases zeros with
  | true =>
    unfold newCells at h
    simp only [cond_true, Option.some.injEq] at h
    subst h
    rw [repC_len, Array.length_toList, hzs]
  | false =>
    obtain ⟨h, _⟩ := newCells_src h
    unfold srcCells at h
    split at h
    · split at h
      · rename_i h0
        cases h; simp; exact h0.symm
      · split at h
        · exact takeX_len h
        · cases h
    · split at h
      · rename_i h0; cases h; simp; exact h0.symm
      · cases h
    · rename_i l c
      cases h
      obtain ⟨rfl, _, _⟩ := rx.nilSlice_inv
      have := hn rfl _ _ _ rfl
      subst this; simp
    · exact takeX_len h
    · cases h
theorem HRel.newGroup (H : HRel B0 w0 g hp nx w) (f0 : Fresh g hp n) (f1 : Fresh g hp (n + 1)) {nx' : Nat} (h1 : nx ≤ nx') (h2 : n + 2 ≤ nx') {cs cs' rest : List Value} (hc : LRel g cs cs') (el : TypeId) (unit : Nat) :
    HRel B0 w0 (g.add (n + 1) (w.heap.size, 0) (some ((cs' ++ rest).length, unit))) ((hp.set n (some (.group [⟨n + 1, 0, cs.length⟩]))).set (n + 1) (some (.cells cs ⟨false, some n, 0, unit⟩))) nx' (w.alloc (.cells (cs' ++ rest).toArray el)) := by
  have H1 : HRel B0 w0 g (hp.set n (some (.group [⟨n + 1, 0, cs.length⟩]))) nx' w := H.setGroup _ h1 (by omega) f0.blk (fun b cs m e k => by
    obtain ⟨ms, a1, _⟩ := H.mem b cs m n e k
    rw [f0.hp] at a1; cases a1)
  refine H1.alloc f1.blk f1.room (by rw [Hp.set_other _ _ (by omega)]; exact f1.hp) (Nat.le_refl _) (by omega) _ _ _ rfl ?_ ?_
  · refine ⟨by simp [hc.1], fun i v v' e e' => ?_, fun _ => ⟨H.base, .inl rfl⟩, fun gr e => ?_, fun e => by cases e⟩
    · have hi : i < cs.length := (List.getElem?_eq_some_iff.1 e).1
      simp only [Nat.zero_add, List.getElem?_toArray] at e'
      rw [List.getElem?_append, if_pos (by rw [← hc.1]; exact hi)] at e'
      exact (hc.2 i v v' e e').mono (Gm.le_add f1.blk _ _)
    · rw [Gm.add_room]
      simp
  · intro cs1 m1 gr e k
    cases e; cases k
    exact ⟨_, Hp.set_same _ _ _, List.mem_cons_self ..⟩
theorem HRel.joinGroup (H : HRel B0 w0 g hp nx w) {gr : Nat} {ms : List Mem} (hgr : hp gr = some (.group ms)) {ov : Mem → Bool} (hng : noGroups hp ov ms = true) (f0 : Fresh g hp n) {nx' : Nat} (h1 : nx ≤ nx') (h2 : n + 1 ≤ nx')
    {cs cs' rest : List Value} (hc : LRel g cs cs') (el : TypeId) (unit base : Nat) :
    HRel B0 w0 (g.add n (w.heap.size, 0) (some ((cs' ++ rest).length, unit))) (hp.upd (kills ov ms ++ [(gr, some (AObj.group ((ms.filter fun e => !(ov e)) ++ ([⟨n, base, cs.length⟩] : List Mem)))), (n, some (AObj.cells cs ⟨false, some gr, base, unit⟩))])) nx'
      (w.alloc (.cells (cs' ++ rest).toArray el)) := by
  obtain ⟨K, q1, q2⟩ := H.kills_group hgr ov (noGroups_spec hng) [⟨n, base, cs.length⟩]
  rw [Hp.upd_append]
  have hn0 : ((hp.upd (kills ov ms)).set gr (some (.group ((ms.filter fun e => !(ov e)) ++ [⟨n, base, cs.length⟩])))) n = none := by
    have hne : n ≠ gr := fun h => by subst h; rw [f0.hp] at hgr; cases hgr
    rw [Hp.set_other _ _ hne]
    cases e : (hp.upd (kills ov ms)) n with
    | none => rfl
    | some o => have := (q1 n o e).1; rw [f0.hp] at this; cases this
  refine K.alloc f0.blk f0.room hn0 h1 (by omega) _ _ _ rfl ?_ ?_
  · refine ⟨by simp [hc.1], fun i v v' e e' => ?_, fun _ => ⟨H.base, .inl rfl⟩, fun gr e => ?_, fun e => by cases e⟩
    · have hi : i < cs.length := (List.getElem?_eq_some_iff.1 e).1
      simp only [Nat.zero_add, List.getElem?_toArray] at e'
      rw [List.getElem?_append, if_pos (by rw [← hc.1]; exact hi)] at e'
      exact (hc.2 i v v' e e').mono (Gm.le_add f0.blk _ _)
    · rw [Gm.add_room]
      simp
  · intro cs1 m1 gr' e k
    cases e; cases k
    exact ⟨_, Hp.set_same _ _ _, List.mem_append.2 (.inr (List.mem_cons_self ..))⟩
end
end
end Sw

namespace Sw
noncomputable section
open Go Go.RowKit
section
variable {T : Ty} {P : Program} {B0 : Nat} {w0 : World} {g : Gm} {hp : Hp} {nx n : Nat} {w : World}
theorem HRel.oldCells (H : HRel B0 w0 g hp nx w) {b off : Nat} {cs old : List Value} {mt : CMeta} (hb : hp b = some (.cells cs mt)) {l size c2 : Nat} {s' : Option Addr}
    (ho : (match l * size with | 0 => some [] | k => takeX k (cs.drop off)) = some old) (hs : (∃ a2, l = 0 ∧ s' = some a2) ∨ ∃ rb ro, g.blk b = some (rb, ro) ∧ s' = some ⟨rb, ro + off, none⟩) :
    old.length = l * size ∧ ∃ old', (Builtin.firstCells size l (.slice s' l c2)).run P w = .ok old'.toArray w ∧ LRel g old old' := by
  by_cases h0 : l * size = 0
  · rw [h0] at ho
    simp only at ho
    cases ho
    refine ⟨by simp [h0], [], ?_, LRel.nil g⟩
    rcases hs with ⟨a2, _, rfl⟩ | ⟨rb, ro, _, rfl⟩ <;>
    · simp only [Builtin.firstCells]
      rw [h0]; rfl
  · obtain ⟨k, hk⟩ : ∃ k, l * size = k + 1 := ⟨l * size - 1, by omega⟩
    rw [hk] at ho
    simp only at ho
    refine ⟨by rw [hk]; exact takeX_len ho, ?_⟩
    rcases hs with ⟨a2, rfl, _⟩ | ⟨rb, ro, hg, rfl⟩
    · simp at h0
    · obtain ⟨l', h1, h2⟩ := H.loadCells (P := P) hb hg ho
      refine ⟨l', ?_, h2⟩
      simp only [Builtin.firstCells]
      rw [hk]; exact h1
theorem old_unfold {cs old : List Value} {off k : Nat} (ho : (match k with | 0 => some [] | k => takeX k (cs.drop off)) = some old) : ∀ i v, old[i]? = some v → cs[off + i]? = some v ∧ i < k := by
  intro i v e
  cases k with
  | zero => simp only at ho; cases ho; simp at e
  | succ k =>
    simp only at ho
    obtain ⟨rfl, _⟩ := takeX_some _ _ _ ho
    rw [List.getElem?_take] at e
    split at e
    · rename_i hi
      exact ⟨by simpa using e, hi⟩
    · cases e
theorem eAppend_sound (ok : T.Ok P) (H : HRel B0 w0 g hp nx w) {st xt : TypeId} {s s' x x' : Value} {e : Eff} (h : eAppend T hp st xt s x n = some e) (rs : VRel g s s') (rx : VRel g x x')
    {tys : Array TypeId} {asg : Array Value} (t0 : tys[0]? = some st) (t1 : tys[1]? = some xt) (a0 : asg[0]? = some s') (a1 : asg[1]? = some x') (ty : TypeId) :
    EffS B0 w0 g hp nx n w ((Builtin.append_ tys ty asg).run P w) e := by
  unfold eAppend at h
  split at h
  · rename_i el base l c hu
    split at h
    · rename_i size z inf m zeros hsz hz hinf hN
      obtain ⟨new, hnew, h⟩ := Option.bind_eq_some_iff.1 h
      cases hb : (new.all one && (Nat.ble ((l + m) * inf.bytes) 70368744177664 && (Nat.ble inf.bytes 1073741824 && Nat.ble (l + m) 70368744177664))) with
      | false => rw [hb] at h; cases h
      | true =>
        rw [hb] at h
        simp only [cond_true] at h
        simp only [Bool.and_eq_true] at hb
        obtain ⟨hone, b1, b2, b3⟩ := hb
        have b1 := Nat.le_of_ble_eq_true b1
        have b2 := Nat.le_of_ble_eq_true b2
        have b3 := Nat.le_of_ble_eq_true b3
        obtain ⟨d, hd, hdz, hzer, hlen⟩ := appN_sound (P := P) hN rx w
        have hzs : z.cells.size = size := by
          have h1 : inf.zero = some z := by
            unfold Ty.zero at hz; rw [hinf] at hz; exact hz
          have h2 := ok.zsize el inf z hinf h1
          unfold Ty.size at hsz; rw [hinf] at hsz; cases hsz; exact h2
        have hnl : new.length = m * size := newCells_len hnew hzs rx (fun hf => (hlen hf).2.2)
        have hlenr : ∀ w, zeros = false → (Builtin.lenOf x').run P w = .ok m w := fun w1 hf => by
          obtain ⟨_, _, _, _, q⟩ := appN_sound (P := P) hN rx w1
          exact (q hf).1
        have hstr : zeros = false → (∀ s, x = .string s → m = (strs s).length) ∧ ∀ a l c, x = .slice a l c → m = l := fun hf => ⟨(hlen hf).2.1, (hlen hf).2.2⟩
        have hr : ∃ base' c2, s' = .slice base' l c2 ∧ c ≤ c2 ∧ ((base = none ∧ base' = none ∧ l = 0 ∧ c = 0 ∧ c2 = 0) ∨ (∃ a a2, base = some a ∧ base' = some a2 ∧ l = 0 ∧ c = 0 ∧ c2 = 0) ∨
            ∃ a rb ro, base = some a ∧ a.spot = none ∧ g.blk a.block = some (rb, ro) ∧ base' = some ⟨rb, ro + a.off, none⟩ ∧ l ≤ c ∧ CapOk g a.block (ro + a.off) c c2) := by
          cases base with
          | none =>
            obtain ⟨rfl, rfl, rfl⟩ := rs.nilSlice_inv
            exact ⟨none, 0, rfl, Nat.le_refl _, .inl ⟨rfl, rfl, rfl, rfl, rfl⟩⟩
          | some a =>
            rcases rs.slice_inv with ⟨a2, rfl, rfl, rfl⟩ | ⟨hsp, rb, ro, c2, hg, hl, hc, rfl⟩
            · exact ⟨some a2, 0, rfl, Nat.le_refl _, .inr (.inl ⟨a, a2, rfl, rfl, rfl, rfl, rfl⟩)⟩
            · exact ⟨_, c2, rfl, by rcases hc with h | ⟨h, _⟩ <;> omega, .inr (.inr ⟨a, rb, ro, rfl, hsp, hg, rfl, hl, hc⟩)⟩
        obtain ⟨base', c2, rfl, hcc, hr⟩ := hr
        have A : AppArgs T P st xt el size tys asg base' l c2 m x' zeros inf := ⟨hu, hsz, t0, t1, a0, a1, ⟨d, hd, hdz⟩, hzer, fun hf w => hlenr w hf, hinf, b1, b2, b3⟩
        obtain ⟨new', hn1, hn2, _⟩ := newCells_sound (P := P) (w := w) ok hz hzs H hnew rx hstr
        have hnl' : new'.length = m * size := by rw [← hn2.1]; exact hnl
        cases hfit : Nat.ble (l + m) c with
        | true =>
          rw [hfit] at h
          simp only [cond_true] at h
          have hfit := Nat.le_of_ble_eq_true hfit
          split at h
          ·
            cases h
            have : new' = [] := by rw [← List.length_eq_zero_iff, ← hn2.1]; rfl
            subst this
            have hrun := A.fits (w' := w) ok hn1 (by omega) ty (fun _ _ => rfl) (fun _ => rfl)
            refine EffS.pure H hrun ?_
            rcases hr with ⟨rfl, rfl, rfl, rfl, rfl⟩ | ⟨a, a2, rfl, rfl, rfl, rfl, rfl⟩ | ⟨a, rb, ro, rfl, hsp, hg, rfl, hl, hc⟩
            · have : 0 + m = 0 := by omega
              rw [this]; exact .nilSlice
            · have : 0 + m = 0 := by omega
              rw [this]; exact .emptySlice _ _
            · obtain ⟨ab, ao, asp⟩ := a
              simp only at hsp; subst hsp
              exact .slice hg hfit hc
          · rename_i b off hne
            split at h
            · rename_i cs mt hbk
              obtain ⟨u, hu1, rfl⟩ := Option.map_eq_some_iff.1 h
              have hm0 : m ≠ 0 := fun h0 => hne (by rw [← List.length_eq_zero_iff, hnl, h0]; simp)
              rcases hr with ⟨hh, _⟩ | ⟨a, a2, _, _, rfl, rfl, _⟩ | ⟨a, rb, ro, ha, hsp, hg, rfl, hl, hc⟩
              · cases hh
              · omega
              · cases ha
                simp only at hg
                have hone' : ∀ v ∈ new, one v = true := by rw [List.all_eq_true] at hone; exact hone
                obtain ⟨w', r1, r2, r3, r4⟩ := storeUps_sound (P := P) H hbk hg hu1 hn2 hone'
                have hrun := A.fits (w' := w') ok hn1 (by omega) ty (fun a ha => by
                  cases ha
                  rw [Addr.add_none]
                  simp only [Nat.add_assoc]
                  exact r1) (fun h => by cases h)
                intro nx' h1 h2 hf
                refine ⟨g, _, w', hrun, Gm.le_refl g, fun _ h => .inl h, ?_, r2.mono_nx h1, r3, by omega, Held.refl _ _⟩
                exact .slice hg hfit hc
            · cases h
          · cases h
        | false =>
          rw [hfit] at h
          simp only [cond_false] at h
          have hfit : c < l + m := by
            have : ¬ (l + m ≤ c) := fun k => by rw [Nat.ble_eq_true_of_le k] at hfit; cases hfit
            omega
          have Hd : HRel B0 w0 g hp nx w.drew := H.of_heap rfl rfl rfl rfl
          obtain ⟨new2, hd1, hd2, _⟩ := newCells_sound (P := P) (w := w.drew) ok hz hzs Hd hnew rx hstr
          have hnl2 : new2.length = m * size := by rw [← hd2.1]; exact hnl
          unfold growUps at h
          split at h
          ·
            cases h
            rcases hr with ⟨_, rfl, rfl, rfl, rfl⟩ | ⟨a, a2, hh, _⟩ | ⟨a, rb, ro, hh, _⟩
            · have ho : (Builtin.firstCells size 0 (.slice none 0 0)).run P w.drew = .ok ([] : List Value).toArray w.drew := rfl
              obtain ⟨t, ht, hrun⟩ := A.grows ok hz hd1 ho (by omega) ty
              intro nx' h1 h2 hf
              have f0 := hf 0 (by show 0 < 2; omega)
              have f1 := hf 1 (by show 1 < 2; omega)
              have hG := Hd.newGroup f0 f1 h1 h2 hd2 (rest := repC (t - (0 + m)) z.cells.toList) el size
              simp only [List.nil_append] at hrun
              refine ⟨_, _, _, hrun, Gm.le_add f1.blk _ _, ?_, ?_, hG, ?_, by simp, Held.new⟩
              · intro b hb
                by_cases hbn : b = n + 1
                · exact .inr ⟨by omega, by show b < n + 2; omega⟩
                · rw [Gm.add_blk_ne _ _ _ hbn] at hb; exact .inl hb
              · refine .slice (off := 0) (Gm.add_blk _ _ _ _) (Nat.le_refl _) ?_
                by_cases h0 : 0 + m = t
                · exact .inl h0
                · refine .inr ⟨by omega, _, _, Gm.add_room _ _ _ _, ?_⟩
                  rw [List.length_append, repC_len, hnl2, show z.cells.toList.length = size from by rw [Array.length_toList, hzs]]
                  rw [← Nat.add_mul]
                  have : m + (t - (0 + m)) = t := by omega
                  rw [this]; omega
              · exact fun rb hrb hn => (Upd.alloc w.drew _).other rb (by have : rb < w.heap.size := hrb; show rb ≠ w.heap.size; omega)
            · cases hh
            · cases hh
          · rename_i b off _
            split at h
            · rename_i cs mt hbk
              obtain ⟨old, hold, h⟩ := Option.bind_eq_some_iff.1 h
              have hs2 : (∃ a2, l = 0 ∧ base' = some a2) ∨ ∃ rb ro, g.blk b = some (rb, ro) ∧ base' = some ⟨rb, ro + off, none⟩ := by
                rcases hr with ⟨hh, _⟩ | ⟨a, a2, _, rfl, rfl, _⟩ | ⟨a, rb, ro, hh, _, hg, rfl, _⟩
                · cases hh
                · exact .inl ⟨a2, rfl, rfl⟩
                · cases hh; exact .inr ⟨rb, ro, hg, rfl⟩
              obtain ⟨ol, old', oo1, oo2⟩ := Hd.oldCells (P := P) (c2 := c2) hbk hold hs2
              have hon : LRel g (old ++ new) (old' ++ new2) := oo2.append hd2
              have honl : (old ++ new).length = (l + m) * size := by rw [List.length_append, ol, hnl, Nat.add_mul]
              have honl' : (old' ++ new2).length = (l + m) * size := by rw [← hon.1]; exact honl
              have grown : ∀ (hgr : c2 < l + m), ∃ t, l + m ≤ t ∧ (Builtin.append_ tys ty asg).run P w = .ok (.slice (some ⟨w.heap.size, 0, none⟩) (l + m) t) (w.drew.alloc (.cells ((old' ++ new2) ++ repC (t - (l + m)) z.cells.toList).toArray el)) :=
                fun hgr => A.grows ok hz hd1 oo1 hgr ty
              have room : ∀ t, l + m ≤ t → ((old' ++ new2) ++ repC (t - (l + m)) z.cells.toList).length = t * size := fun t ht => by
                rw [List.length_append, honl', repC_len, Array.length_toList, hzs, ← Nat.add_mul]
                congr 1; omega
              split at h
              ·
                rename_i hng
                cases h
                have hgr : c2 < l + m := by
                  rcases hr with ⟨hh, _⟩ | ⟨a, a2, _, _, _, _, rfl⟩ | ⟨a, rb, ro, hh, _, hg, _, _, hc⟩
                  · cases hh
                  · omega
                  · cases hh
                    rcases hc with hc | ⟨_, rs, u, hru, _⟩
                    · omega
                    · obtain ⟨rc, ee, fz, k2, _, _, _, _, k5⟩ := H.cellsAt hbk (by assumption)
                      rw [k5 hng] at hru; cases hru
                obtain ⟨t, ht, hrun⟩ := grown hgr
                intro nx' h1 h2 hf
                have f0 := hf 0 (by show 0 < 2; omega)
                have f1 := hf 1 (by show 1 < 2; omega)
                have hG := Hd.newGroup f0 f1 h1 h2 hon (rest := repC (t - (l + m)) z.cells.toList) el size
                refine ⟨_, _, _, hrun, Gm.le_add f1.blk _ _, ?_, ?_, hG, ?_, by simp, Held.new⟩
                · intro b hb
                  by_cases hbn : b = n + 1
                  · exact .inr ⟨by omega, by show b < n + 2; omega⟩
                  · rw [Gm.add_blk_ne _ _ _ hbn] at hb; exact .inl hb
                · refine .slice (off := 0) (Gm.add_blk _ _ _ _) (Nat.le_refl _) ?_
                  by_cases h0 : l + m = t
                  · exact .inl h0
                  · refine .inr ⟨by omega, _, _, Gm.add_room _ _ _ _, ?_⟩
                    rw [room t ht]; simp
                · exact fun rb hrb hn => (Upd.alloc w.drew _).other rb (by have : rb < w.heap.size := hrb; show rb ≠ w.heap.size; omega)
              · rename_i gr hgrp
                split at h
                · rename_i ms hms
                  cases hc2 : ((!mt.ro && Nat.beq mt.unit size) && noGroups hp (beyond (mt.base + off + l * size)) ms) with
                  | false => rw [hc2] at h; cases h
                  | true =>
                    rw [hc2] at h
                    simp only [cond_true] at h
                    cases h
                    rw [Bool.and_eq_true, Bool.and_eq_true] at hc2
                    obtain ⟨⟨hro, hu2⟩, hng⟩ := hc2
                    have hro : mt.ro = false := by simpa using hro
                    have hu2 := Nat.eq_of_beq_eq_true hu2
                    by_cases hgr : c2 < l + m
                    ·
                      obtain ⟨t, ht, hrun⟩ := grown hgr
                      intro nx' h1 h2 hf
                      have f0 := hf 0 (by show 0 < 1; omega)
                      have hG := Hd.joinGroup hms hng f0 h1 h2 hon (rest := repC (t - (l + m)) z.cells.toList) el size (mt.base + off)
                      refine ⟨_, _, _, hrun, Gm.le_add f0.blk _ _, Gm.add_new, ?_, hG, ?_, by simp, Held.new⟩
                      · refine .slice (off := 0) (Gm.add_blk _ _ _ _) (Nat.le_refl _) ?_
                        by_cases h0 : l + m = t
                        · exact .inl h0
                        · refine .inr ⟨by omega, _, _, Gm.add_room _ _ _ _, ?_⟩
                          rw [room t ht]; simp
                      · exact fun rb hrb hn => (Upd.alloc w.drew _).other rb (by have : rb < w.heap.size := hrb; show rb ≠ w.heap.size; omega)
                    ·
                      rcases hr with ⟨hh, _⟩ | ⟨a, a2, _, _, _, _, rfl⟩ | ⟨a, rb, ro, hh, _, hg, rfl, hl, hc⟩
                      · cases hh
                      · omega
                      · cases hh
                        simp only at hg hc
                        obtain ⟨rc, ee, fz, k2, k3, k4, k5, k6, _⟩ := H.cellsAt hbk hg
                        rcases hc with hc | ⟨_, rs, u, hru, hfit2⟩
                        · omega
                        · have hroom := k6 gr hgrp
                          rw [hroom] at hru; cases hru
                          rw [hu2] at hfit2
                          have hms1 : (l + m) * size ≤ c2 * size := Nat.mul_le_mul_right _ (by omega)
                          have hlm : (l + m) * size = l * size + m * size := Nat.add_mul _ _ _
                          have hone' := hn2.one_all hone
                          obtain ⟨w', r1, r2, r3⟩ := run_storeCells (P := P) (rb := rb) (k := ro + off + l * size) new' 0 w rc k2 (by omega) (k5 hro).2.free hone'
                          simp only [Nat.add_zero] at r2
                          have hrun := A.fits (w' := w') ok hn1 (by omega) ty (fun a ha => by cases ha; rw [Addr.add_none]; exact r1) (fun h => by cases h)
                          intro nx' h1 h2 hf
                          have f0 := hf 0 (by show 0 < 1; omega)
                          simp only [Nat.add_zero] at f0
                          obtain ⟨K, q1, q2⟩ := H.kills_group hms (beyond (mt.base + off + l * size)) (noGroups_spec hng) [⟨n, mt.base + off, (old ++ new).length⟩]
                          have hn0 : ((hp.upd (kills (beyond (mt.base + off + l * size)) ms)).set gr (some (.group ((ms.filter fun e => !(beyond (mt.base + off + l * size) e)) ++ [⟨n, mt.base + off, (old ++ new).length⟩])))) n = none := by
                            have hne : n ≠ gr := fun h => by subst h; rw [f0.hp] at hms; cases hms
                            rw [Hp.set_other _ _ hne]
                            cases e : (hp.upd (kills (beyond (mt.base + off + l * size)) ms)) n with
                            | none => rfl
                            | some o => have := (q1 n o e).1; rw [f0.hp] at this; cases this
                          have hsz2 : (rc.toList.take (ro + off + l * size) ++ new' ++ rc.toList.drop (ro + off + l * size + new'.length)).toArray.size = rc.size := by simp; omega
                          have hl2 : (rc.toList.take (ro + off + l * size)).length = ro + off + l * size := by simp; omega
                          have hget : ∀ j, j < ro + off + l * size → (rc.toList.take (ro + off + l * size) ++ new' ++ rc.toList.drop (ro + off + l * size + new'.length)).toArray[j]? = rc[j]? := fun j hj => by
                            simp only [List.getElem?_toArray]
                            rw [List.append_assoc, List.getElem?_append, hl2, if_pos hj, List.getElem?_take, if_pos hj, Array.getElem?_toList]
                          have hG := K.growIn (rb := rb) (pos := ro + off) (gr := gr) (base := mt.base + off) (unit := size) k2 r2 (k5 hro).1 (k5 hro).2 hsz2 (n := n) (nx' := nx') (lo := ro + off + l * size) f0.blk hn0 h1 (by show n < nx'; have : n + 1 ≤ nx' := h2; omega) (old ++ new)
                            (by rw [honl]; omega) (by
                              intro i v v' e e'
                              rw [List.getElem?_append, ol] at e
                              by_cases hi : i < l * size
                              · rw [if_pos hi] at e
                                rw [hget _ (by omega)] at e'
                                obtain ⟨e3, _⟩ := old_unfold hold i v e
                                exact k4 (off + i) v v' e3 (by rw [← Nat.add_assoc]; exact e')
                              · rw [if_neg hi] at e
                                simp only [List.getElem?_toArray] at e'
                                rw [List.append_assoc, List.getElem?_append, hl2, if_neg (by omega), List.getElem?_append] at e'
                                have hi2 : i - l * size < new.length := (List.getElem?_eq_some_iff.1 e).1
                                rw [if_pos (by rw [hnl']; omega), show ro + off + i - (ro + off + l * size) = i - l * size from by omega] at e'
                                exact hn2.2 _ v v' e e') hget (by
                              intro b1 o1 r1' e1 e2
                              have hb1g : b1 ≠ gr := fun h => by
                                subst h
                                have := H.grpfree _ _ hms
                                rw [this] at e2; cases e2
                              rw [Hp.set_other _ _ hb1g] at e1
                              obtain ⟨x1, x2⟩ := q1 b1 _ e1
                              by_cases hbb : b1 = b
                              · subst hbb
                                rw [hbk] at x1; cases x1
                                rw [hg] at e2; cases e2
                                obtain ⟨ms', z1, z2⟩ := H.mem b1 cs mt gr hbk hgrp
                                rw [hms] at z1; cases z1
                                cases hov : beyond (mt.base + off + l * size) ⟨b1, mt.base, cs.length⟩ with
                                | true => exact (x2 _ z2 hov rfl).elim
                                | false =>
                                  have := beyond_false hov
                                  simp only at this
                                  exact ⟨cs, mt, rfl, hgrp, by omega, by omega⟩
                              · have hsep := H.sep b1 b _ _ rb r1' ro hbb x1 hbk e2 hg
                                cases o1 <;> first | exact hsep.elim | skip
                                rename_i cs1 m1
                                rcases hsep with ⟨_, y⟩ | ⟨gr', y1, y2, y3⟩
                                · rw [hro] at y; cases y
                                · rw [hgrp] at y2; cases y2
                                  obtain ⟨ms', z1, z2⟩ := H.mem b1 cs1 m1 gr x1 y1
                                  rw [hms] at z1; cases z1
                                  cases hov : beyond (mt.base + off + l * size) ⟨b1, m1.base, cs1.length⟩ with
                                  | true => exact (x2 _ z2 hov rfl).elim
                                  | false =>
                                    have := beyond_false hov
                                    simp only at this
                                    exact ⟨cs1, m1, rfl, y1, by omega, by omega⟩)
                            ⟨_, Hp.set_same _ _ _, List.mem_append.2 (.inr (List.mem_cons_self ..))⟩
                          refine ⟨_, _, w', hrun, Gm.le_add f0.blk (rb, ro + off) (some (rc.size, size)), Gm.add_new, ?_, ?_, ?_, by omega, Held.add (.inl ⟨_, _, hg⟩)⟩
                          · have := VRel.slice (g := g.add n (rb, ro + off) (some (rc.size, size))) (b := n) (off := 0) (rb := rb) (ro := ro + off) (l := l + m) (c1 := l + m) (c2 := c2) (Gm.add_blk _ _ _ _) (Nat.le_refl _) (by
                              by_cases h0 : l + m = c2
                              · exact .inl h0
                              · exact .inr ⟨by omega, _, _, Gm.add_room _ _ _ _, by omega⟩)
                            simpa using this
                          · rw [Hp.upd_append]; exact hG
                          · exact fun r hr1 hn => by
                              by_cases hrb : r = rb
                              · subst hrb; exact (hn b _ ro hbk hg).elim
                              · exact r2.other r hrb
                · cases h
            · cases h
          · cases h
    · cases h
  · cases h
end
end
end Sw

namespace Sw
noncomputable section
open Go Go.RowKit
def keyEq1 : Value → Value → Bool
  | .int k a, .int k' b => sameK k k' && eqI a b
  | .string a, .string b => eqB (strs a) (strs b)
  | .bool a, .bool b => (bif a then b else !b)
  | _, _ => false
def keyEqs : List Value → List Value → Bool
  | [], [] => true
  | x :: xs, y :: ys => keyEq1 x y && keyEqs xs ys
  | _, _ => false
def keyEq : Value → Value → Bool
  | .agg a, .agg b => keyEqs a.toList b.toList
  | a, b => keyEq1 a b
def keyFs (part : TypeId → Nat → Option Value) (rec : TypeId → Value → Bool) : List Field → Bool
  | [] => true
  | f :: fs => (match part f.type f.offset with
    | some p => rec f.type p
    | none => false) && keyFs part rec fs
def keyOk (T : Ty) : Nat → TypeId → Value → Bool
  | 0, _, _ => false
  | n + 1, t, v =>
    match T.und t, v with
    | some (.int _), _ => true
    | some .string, _ => true
    | some .bool, _ => true
    | some (.struct fs), .agg cs => keyFs (fun t off => ePart T t cs.toList off) (keyOk T n) fs.toList
    | _, _ => false
def eqKey (T : Ty) (kt : TypeId) (a b : Value) : Option Bool :=
  match T.und kt with
  | some (.int _) => (match a, b with
    | .int k x, .int k' y => bif sameK k k' then some (eqI x y) else none
    | _, _ => none)
  | some .string => (match a, b with
    | .string x, .string y => some (eqB (strs x) (strs y))
    | _, _ => none)
  | some (.struct _) => eqV T 12 kt a b
  | _ => none
def findE (eq : Value → Option Bool) : List MapEntry → Nat → Option (Option (Nat × MapEntry))
  | [], _ => some none
  | e :: es, i => match eq e.key with
    | some true => some (some (i, e))
    | some false => findE eq es (i + 1)
    | none => none
def setE (f : MapEntry → MapEntry) : List MapEntry → Nat → List MapEntry
  | [], _ => []
  | e :: es, 0 => f e :: es
  | e :: es, n + 1 => e :: setE f es n
def mapOf (hp : Hp) (m : Value) : Option (List MapEntry × Nat) :=
  match m with
  | .map none => some ([], 0)
  | .map (some r) => (match hp r with
    | some (.map es c) => some (es, c)
    | _ => none)
  | _ => none
def eLookup (T : Ty) (hp : Hp) (t : TypeId) (m k : Value) (commaOk : Bool) : Option Value :=
  match T.und t with
  | some (.map kt el) =>
    (match mapOf hp m with
    | some (es, _) => bif keyOk T 8 kt k then
        (match findE (eqKey T kt k) es 0 with
        | some (some (_, e)) => some (bif commaOk then .tuple #[e.val, .bool true] else e.val)
        | some none => (match T.zero el with
          | some z => some (bif commaOk then .tuple #[z, .bool false] else z)
          | none => none)
        | none => none) else none
    | none => none)
  | _ => none
def eMapUpdate (T : Ty) (hp : Hp) (t : TypeId) (m k v : Value) : Option Ups :=
  match T.und t, m with
  | some (.map kt _), .map (some r) => (match hp r with
    | some (.map es c) => bif keyOk T 8 kt k then
        (match findE (eqKey T kt k) es 0 with
        | some (some (i, e)) => bif keyEq e.key k then some [(r, some (.map (setE (fun e => ⟨k, v, e.born⟩) es i) c))] else none
        | some none => some [(r, some (.map (es ++ [⟨k, v, c⟩]) (c + 1)))]
        | none => none) else none
    | _ => none)
  | _, _ => none
def eMapEntry (T : Ty) (hp : Hp) (t : TypeId) (m k : Value) : Option Eff :=
  match T.und t, m with
  | some (.map kt el), .map (some r) => (match hp r with
    | some (.map es c) => bif keyOk T 8 kt k then
        (match findE (eqKey T kt k) es 0 with
        | some (some (i, e)) => bif keyEq e.key k then some (.tuple #[e.val, .int .i64 (.ofNat e.born)], [(r, some (.map (setE (fun e => ⟨k, e.val, e.born⟩) es i) c))], 0) else none
        | some none => (match T.zero el with
          | some z => some (.tuple #[z, .int .i64 (.ofNat c)], [(r, some (.map (es ++ [⟨k, z, c⟩]) (c + 1)))], 0)
          | none => none)
        | none => none) else none
    | _ => none)
  | _, _ => none
def setBorn (born : Nat) (v : Value) : List MapEntry → Option (List MapEntry)
  | [] => none
  | e :: es => bif Nat.beq e.born born then some (⟨e.key, v, e.born⟩ :: es) else (setBorn born v es).map (e :: ·)
def eEntryStore (hp : Hp) (m s v : Value) : Option Ups :=
  match m, s with
  | .map (some r), .int _ (.ofNat b) => (match hp r with
    | some (.map es c) => (setBorn b v es).map fun es => [(r, some (.map es c))]
    | _ => none)
  | _, _ => none
def eMakeMap (T : Ty) (t : TypeId) (r : Option Value) (n : Nat) : Option Eff :=
  match r with
  | none => some (.map (some n), [(n, some (.map [] 0))], 1)
  | some (.int _ _) => (match T.und t with
    | some (.map _ _) => some (.map (some n), [(n, some (.map [] 0))], 1)
    | _ => none)
  | _ => none
def eMakeSlice (T : Ty) (t : TypeId) (len cap : Value) (n : Nat) : Option Eff :=
  match T.und t, len, cap with
  | some (.slice el), .int _ (.ofNat l), .int _ (.ofNat c) =>
    (match T.info el with
    | some inf => (match inf.zero with
      | some z => bif Nat.ble l c && (Nat.ble (c * inf.bytes) 1099511627776 && Nat.blt c 2147483648) then some (eNewSlice n (repC c z.cells.toList) l c) else none
      | none => none)
    | none => none)
  | _, _, _ => none
def lenV (x : Value) : Option Nat :=
  match x with
  | .slice _ l _ => some l
  | .string s => some (strs s).length
  | _ => none
def minNat (a b : Nat) : Nat := bif Nat.ble a b then a else b
def eCopy (T : Ty) (hp : Hp) (dt : TypeId) (d s : Value) : Option Eff :=
  match T.und dt, d with
  | some (.slice el), .slice base dl _ =>
    (match T.size el, lenV s with
    | some size, some sl =>
      (match (bif strOk size s then srcCells hp (minNat sl dl * size) s else none) with
      | some cs => (match base, cs with
        | _, [] => some (.int .i64 (.ofNat (minNat sl dl)), [], 0)
        | some ⟨b, off, none⟩, cs => bif cs.all one then (match hp b with
          | some (.cells old mt) => (storeUps hp b old mt off cs).map fun u => (.int .i64 (.ofNat (minNat sl dl)), u, 0)
          | _ => none) else none
        | _, _ => none)
      | none => none)
    | _, _ => none)
  | _, _ => none
def eClear (T : Ty) (hp : Hp) (t : TypeId) (x : Value) : Option Eff :=
  match T.und t with
  | some d => (match x with
    | .map none => some (.tuple #[], [], 0)
    | .slice none _ _ => some (.tuple #[], [], 0)
    | .slice (some _) 0 _ => some (.tuple #[], [], 0)
    | .map (some r) => (match hp r with
      | some (.map _ c) => some (.tuple #[], [(r, some (.map [] c))], 0)
      | _ => none)
    | .slice (some ⟨b, off, none⟩) n _ => (match d with
      | .slice el => (match T.zero el, hp b with
        | some z, some (.cells old mt) => (match storeUps hp b old mt off (repC n z.cells.toList) with
          | some u => some (.tuple #[], u, 0)
          | none => none)
        | _, _ => none)
      | _ => none)
    | _ => none)
  | none => none
def eCap (T : Ty) (hp : Hp) (t : TypeId) (x : Value) : Option Value :=
  match T.und t, x with
  | some (.array n _), _ => some (.int .i64 (.ofNat n))
  | some (.slice _), .slice none _ c => some (.int .i64 (.ofNat c))
  | some (.slice _), .slice (some a) _ c => (match hp a.block with
    | some (.cells _ mt) => (match mt.grp with
      | none => some (.int .i64 (.ofNat c))
      | some _ => none)
    | _ => none)
  | _, _ => none
def max2 : Value → Value → Option Value
  | .int k x, .int _ y => some (.int k (bif ltI x y then y else x))
  | _, _ => none
def min2 : Value → Value → Option Value
  | .int k x, .int _ y => some (.int k (bif ltI y x then y else x))
  | _, _ => none
def foldV (f : Value → Value → Option Value) : Value → List Value → Option Value
  | x, [] => some x
  | x, y :: ys => (match f x y with
    | some z => foldV f z ys
    | none => none)
def eMax (f : Value → Value → Option Value) : List Value → Option Value
  | [] => none
  | x :: xs => foldV f x xs
def bytesOf : List Value → Option (List UInt8)
  | [] => some []
  | .int .u8 (.ofNat k) :: vs => (match bytesOf vs with
    | some bs => some (UInt8.ofNat k :: bs)
    | none => none)
  | _ => none
def eConvert (T : Ty) (hp : Hp) (s d : TypeId) (x : Value) (n : Nat) : Option Eff :=
  match T.und s, T.und d, x with
  | some _, some (.int k), .int _ m => some (.int k (wrapE k m), [], 0)
  | some _, some .string, .string s => some (.string s, [], 0)
  | some _, some (.slice e), .string s => (match T.und e with
    | some (.int .u8) => some (.slice (some ⟨n + 1, 0, none⟩) (strs s).length (strs s).length,
        [(n, some (AObj.group [⟨n + 1, 0, (strs s).length⟩])), (n + 1, some (AObj.cells ((strs s).map u8v) ⟨false, some n, 0, 1⟩))], 2)
    | _ => none)
  | some (.slice e), some .string, .slice base l _ => (match T.und e with
    | some (.int .u8) => (match base with
      | none => some (.string ⟨#[]⟩, [], 0)
      | some ⟨b, off, none⟩ => (match hp b with
        | some (.cells cs _) => (match takeX l (cs.drop off) with
          | some vs => (match bytesOf vs with
            | some bs => some (.string ⟨bs.toArray⟩, [], 0)
            | none => none)
          | none => none)
        | _ => none)
      | _ => none)
    | _ => none)
  | some (.slice _), some (.slice e), .slice (some ⟨b, off, none⟩) l c => bif Nat.beq s d then (match T.und e, hp b with
    | some (.int .u8), some (.cells _ mt) => bif mt.ro || Nat.beq c 0 then none else some (.slice (some ⟨b, off, none⟩) l c, [], 0)
    | _, _ => none) else none
  | _, _, _ => none
def eTypeAssert (T : Ty) (x : Value) (a : TypeId) (commaOk : Bool) : Option Value :=
  match T.und a, x with
  | some (.interface _), _ => none
  | some _, .nilIface => bif commaOk then (T.zero a).map fun z => .tuple #[z, .bool false] else none
  | some _, .iface t v => bif Nat.beq t a then some (bif commaOk then .tuple #[v, .bool true] else v)
      else bif commaOk then (T.zero a).map fun z => .tuple #[z, .bool false] else none
  | _, _ => none
def eRange (T : Ty) (hp : Hp) (t : TypeId) (x : Value) (n : Nat) : Option Eff :=
  match T.und t, x with
  | some .string, .string s => some (.pointer (some ⟨n, 0, none⟩), [(n, some (.strIter s 0))], 1)
  | some (.map _ _), .map none => some (.pointer (some ⟨n, 0, none⟩), [(n, some (.mapIter none 0 [] 0))], 1)
  | some (.map _ _), .map (some m) => (match hp m with
    | some (.map _ c) => some (.pointer (some ⟨n, 0, none⟩), [(n, some (.mapIter (some m) c [] c))], 1)
    | _ => none)
  | _, _ => none
def hasN (n : Nat) : List Nat → Bool
  | [] => false
  | x :: xs => Nat.beq x n || hasN n xs
def leftE (seen : List Nat) (since : Nat) (old : Bool) : List MapEntry → List MapEntry
  | [] => []
  | e :: es => bif hasN e.born seen then leftE seen since old es else bif (bif Nat.blt e.born since then old else !old) then e :: leftE seen since old es else leftE seen since old es
def allNew (last : Nat) : List MapEntry → Bool
  | [] => true
  | e :: es => Nat.ble last e.born && allNew last es
def nexts (hp : Hp) (m since : Nat) (seen : List Nat) (last : Nat) : Option (List (Option MapEntry) × Nat) :=
  match hp m with
  | some (.map es clock) =>
    bif !seen.isEmpty && (!es.isEmpty && allNew last es) then none else
    (match leftE seen since true es with
    | [] => some (none :: (leftE seen since false es).map some, clock)
    | old => some ((old ++ leftE seen since false es).map some, clock))
  | _ => none
def eEntry (hp : Hp) (it : Value) : Option Value :=
  match it with
  | .pointer (some ⟨r, 0, _⟩) => (match hp r with
    | some (.mapIter (some m) _ seen stepped) => (match seen.getLast?, hp m with
      | some stamp, some (.map es clock) => bif Nat.beq clock stepped then
          (match es.find? (fun e => Nat.beq e.born stamp) with
          | some e => some (.tuple #[e.key, e.val])
          | none => none) else none
      | _, _ => none)
    | _ => none)
  | _ => none
end
end Sw

namespace Sw
noncomputable section
open Go Go.RowKit
theorem strs_inj {a b : ByteArray} (h : strs a = strs b) : a = b := by
  cases a; cases b
  unfold strs at h
  simp only at h
  rw [Array.toList_inj.1 h]
theorem keyEq1_eq {a b : Value} (h : keyEq1 a b = true) : a = b ∧ (∀ g v, VRel g a v → v = a) ∧ ∀ n, Instr.sameBits n a a = true := by
  unfold keyEq1 at h
  split at h
  · rw [Bool.and_eq_true] at h
    obtain rfl := sameK_iff h.1
    obtain rfl := eqI_iff.1 h.2
    exact ⟨rfl, fun g v r => r.int_inv, fun n => by cases n <;> simp [Instr.sameBits]⟩
  · rw [eqB_eq, beq_iff_eq] at h
    obtain rfl := strs_inj h
    exact ⟨rfl, fun g v r => r.string_inv, fun n => by cases n <;> (simp only [Instr.sameBits]; rw [ByteArray.beq_eqB, eqB_eq]; simp)⟩
  · rename_i a b
    have : a = b := by cases a <;> cases b <;> first | rfl | (simp at h)
    subst this
    exact ⟨rfl, fun g v r => r.bool_inv, fun n => by cases n <;> simp [Instr.sameBits]⟩
  · cases h
theorem keyEqs_eq : ∀ {x y : List Value}, keyEqs x y = true → x = y ∧ (∀ g z, LRel g x z → z = x) ∧ ∀ n, (x.zip x).all (fun p => Instr.sameBits n p.1 p.2) = true
  | [], [], _ => ⟨rfl, fun g z r => by have := r.1; exact (List.length_eq_zero_iff.1 (by simpa using this.symm)), fun n => rfl⟩
  | [], _ :: _, h => by cases h
  | _ :: _, [], h => by cases h
  | x :: xs, y :: ys, h => by
    simp only [keyEqs, Bool.and_eq_true] at h
    obtain ⟨rfl, h2, h3⟩ := keyEq1_eq h.1
    obtain ⟨rfl, k2, k3⟩ := keyEqs_eq h.2
    refine ⟨rfl, fun g z r => ?_, fun n => ?_⟩
    · cases z with
      | nil => have := r.1; simp at this
      | cons z zs =>
        rw [h2 g z r.head, k2 g zs r.tail]
    · simp only [List.zip_cons_cons, List.all_cons, Bool.and_eq_true]
      exact ⟨h3 n, k3 n⟩
theorem keyEq_eq {a b : Value} (h : keyEq a b = true) : a = b ∧ (∀ g v, VRel g a v → v = a) ∧ ∀ n, Instr.sameBits (n + 1) a a = true := by
  unfold keyEq at h
  split at h
  · obtain ⟨h1, h2, h3⟩ := keyEqs_eq h
    have := Array.toList_inj.1 h1
    subst this
    refine ⟨rfl, fun g v r => ?_, fun n => ?_⟩
    · obtain ⟨x', rfl, hx⟩ := r.agg_inv
      rw [Array.toList_inj.1 (h2 g x'.toList hx.toList)]
    · simp only [Instr.sameBits, Bool.and_eq_true, beq_self_eq_true, true_and]
      exact h3 n
  · obtain ⟨h1, h2, h3⟩ := keyEq1_eq h
    exact ⟨h1, h2, fun n => h3 _⟩
section
variable {T : Ty} {P : Program} {B0 : Nat} {w0 : World} {g : Gm} {hp : Hp} {nx n : Nat} {w : World}
theorem keyFs_sound (ok : T.Ok P) {rec : TypeId → Value → Bool} {m : Nat} {empty : Bool} {w : World}
    (ih : ∀ t v v', rec t v = true → VRel g v v' → (Instr.checkKey empty m t v').run P w = .ok () w) {xs xs' : Array Value} (hx : ARel g xs xs') :
    ∀ (fs : List Field), keyFs (fun t off => ePart T t xs.toList off) rec fs = true →
      (forIn fs PUnit.unit fun f (_ : PUnit) => do
          if f.name ≠ "_" then Instr.checkKey empty m f.type (← part f.type xs' f.offset)
          pure (ForInStep.yield PUnit.unit) : Sem PUnit).run P w = .ok PUnit.unit w := by
  intro fs
  induction fs with
  | nil => intro _; rfl
  | cons f fs ihf =>
    intro h
    simp only [keyFs, Bool.and_eq_true] at h
    obtain ⟨h1, h2⟩ := h
    cases hp : ePart T f.type xs.toList f.offset with
    | none => rw [hp] at h1; cases h1
    | some x =>
      rw [hp] at h1
      obtain ⟨x', px, rx⟩ := ePart_sound ok hp hx w
      rw [List.forIn_cons]
      have step : (do
          if f.name ≠ "_" then Instr.checkKey empty m f.type (← part f.type xs' f.offset)
          pure (ForInStep.yield PUnit.unit) : Sem (ForInStep PUnit)).run P w = .ok (ForInStep.yield PUnit.unit) w := by
        by_cases hf : f.name ≠ "_"
        · rw [if_pos hf, rBind px, rBind (ih _ _ _ h1 rx)]
          rfl
        · rw [if_neg hf]; rfl
      rw [rBind step]
      exact ihf h2
theorem keyOk_sound (ok : T.Ok P) {empty : Bool} {w : World} : ∀ (d d' : Nat) (t : TypeId) (v v' : Value), d ≤ d' → keyOk T d t v = true → VRel g v v' → (Instr.checkKey empty d' t v').run P w = .ok () w := by
  intro d
  induction d with
  | zero => intro d' t v v' _ h; cases h
  | succ d ih =>
    intro d' t v v' hd h r
    obtain ⟨d', rfl⟩ : ∃ e, d' = e + 1 := ⟨d' - 1, by omega⟩
    unfold keyOk at h
    unfold Instr.checkKey
    split at h
    · rename_i hu; rw [rBind (ok.run_und hu w)]; rfl
    · rename_i hu; rw [rBind (ok.run_und hu w)]; rfl
    · rename_i hu; rw [rBind (ok.run_und hu w)]; rfl
    · rename_i fs cs hu
      obtain ⟨xs', rfl, hxs⟩ := r.agg_inv
      rw [rBind (ok.run_und hu w)]
      have := keyFs_sound (w := w) (m := d') (empty := empty) ok (fun t v v' hr r1 => ih d' t v v' (by omega) hr r1) hxs fs.toList h
      simp only
      rw [← Array.forIn_toList]
      exact (rBind (f := fun _ => (pure () : Sem Unit)) this).trans rfl
    · cases h
theorem ERel.tail {e e' : MapEntry} {x x' : List MapEntry} (h : ERel g (e :: x) (e' :: x')) : ERel g x x' :=
  ⟨by have := h.1; simpa using this, fun i a b p q => h.2 (i + 1) a b (by simpa using p) (by simpa using q)⟩
theorem ERel.head {e e' : MapEntry} {x x' : List MapEntry} (h : ERel g (e :: x) (e' :: x')) : VRel g e.key e'.key ∧ VRel g e.val e'.val ∧ e.born = e'.born := h.2 0 e e' rfl rfl
theorem ERel.nil : ERel g [] [] := ⟨rfl, fun i e e' h => by simp at h⟩
theorem ERel.cons {e e' : MapEntry} {x x' : List MapEntry} (h : VRel g e.key e'.key ∧ VRel g e.val e'.val ∧ e.born = e'.born) (k : ERel g x x') : ERel g (e :: x) (e' :: x') :=
  ⟨by simp [k.1], fun i a b p q => by
    cases i with
    | zero => simp at p q; subst p; subst q; exact h
    | succ i => simp at p q; exact k.2 i a b p q⟩
def FRel (g : Gm) (es : List MapEntry) (i0 : Nat) (r : Option (Nat × MapEntry)) (r' : Option (Nat × Value)) : Prop :=
  match r, r' with
  | none, none => True
  | some (i, e), some (i', v') => i = i' ∧ i0 ≤ i ∧ es[i - i0]? = some e ∧ VRel g e.val v'
  | _, _ => False
theorem FRel.step {e0 : MapEntry} {es : List MapEntry} {i0 : Nat} {r : Option (Nat × MapEntry)} {r' : Option (Nat × Value)} (h : FRel g es (i0 + 1) r r') : FRel g (e0 :: es) i0 r r' := by
  unfold FRel at *
  split at h
  · trivial
  · obtain ⟨h1, h2, h3, h4⟩ := h
    refine ⟨h1, by omega, ?_, h4⟩
    rename_i i e _ _
    obtain ⟨j, hj⟩ : ∃ j, i - i0 = j + 1 := ⟨i - i0 - 1, by omega⟩
    rw [hj]; simp only [List.getElem?_cons_succ]
    rw [show j = i - (i0 + 1) from by omega]; exact h3
  · exact h.elim
theorem findNow_sound {kind : TypeDesc} {eq : Value → Option Bool} {k' : Value} (hq : ∀ v v' b, eq v = some b → VRel g v v' → Instr.sameNow kind k' v' = some b) :
    ∀ (es es' : List MapEntry) (i : Nat) (r : Option (Nat × MapEntry)), ERel g es es' → findE eq es i = some r → ∃ r', Instr.findNow kind k' es' i = some r' ∧ FRel g es i r r'
  | [], [], i, r, _, h => by simp [findE] at h; subst h; exact ⟨none, rfl, trivial⟩
  | [], _ :: _, _, _, h, _ => by have := h.1; simp at this
  | _ :: _, [], _, _, h, _ => by have := h.1; simp at this
  | e :: es, e' :: es', i, r, hr, h => by
    obtain ⟨r1, r2, r3⟩ := hr.head
    simp only [findE] at h
    split at h
    · rename_i he
      cases h
      refine ⟨some (i, e'.val), ?_, rfl, Nat.le_refl _, by simp, r2⟩
      simp only [Instr.findNow, hq _ _ _ he r1]
    · rename_i he
      obtain ⟨r', h1, h2⟩ := findNow_sound hq es es' (i + 1) r hr.tail h
      refine ⟨r', ?_, h2.step⟩
      simp only [Instr.findNow, hq _ _ _ he r1]
      exact h1
    · cases h
theorem findAsking_sound {kt : TypeId} {eq : Value → Option Bool} {k' : Value} (hq : ∀ v v' b, eq v = some b → VRel g v v' → (Op.equal kt k' v').run P w = .ok b w) :
    ∀ (es es' : List MapEntry) (i : Nat) (r : Option (Nat × MapEntry)), ERel g es es' → findE eq es i = some r → ∃ r', (Instr.findAsking kt k' es' i).run P w = .ok r' w ∧ FRel g es i r r'
  | [], [], i, r, _, h => by simp [findE] at h; subst h; exact ⟨none, rfl, trivial⟩
  | [], _ :: _, _, _, h, _ => by have := h.1; simp at this
  | _ :: _, [], _, _, h, _ => by have := h.1; simp at this
  | e :: es, e' :: es', i, r, hr, h => by
    obtain ⟨r1, r2, r3⟩ := hr.head
    simp only [findE] at h
    split at h
    · rename_i he
      cases h
      refine ⟨some (i, e'.val), ?_, rfl, Nat.le_refl _, by simp, r2⟩
      simp only [Instr.findAsking]
      rw [rBind (hq _ _ _ he r1)]; rfl
    · rename_i he
      obtain ⟨r', h1, h2⟩ := findAsking_sound hq es es' (i + 1) r hr.tail h
      refine ⟨r', ?_, h2.step⟩
      simp only [Instr.findAsking]
      rw [rBind (hq _ _ _ he r1)]
      exact h1
    · cases h
theorem keyOk_und {d : Nat} {t : TypeId} {v : Value} (h : keyOk T d t v = true) : ∃ u, T.und t = some u := by
  cases d with
  | zero => cases h
  | succ d =>
    unfold keyOk at h
    cases hu : T.und t with
    | none => rw [hu] at h; cases h
    | some u => exact ⟨u, rfl⟩
theorem findE_sound (ok : T.Ok P) {kt : TypeId} {k k' : Value} (rk : VRel g k k') {es es' : List MapEntry} (hr : ERel g es es') {r : Option (Nat × MapEntry)} (hun : ∃ u, T.und kt = some u) (h : findE (eqKey T kt k) es 0 = some r) :
    ∃ r', (Instr.findKey kt k' es').run P w = .ok r' w ∧ FRel g es 0 r r' := by
  have empty : ∀ d, T.und kt = some d → es = [] → ∃ r', (Instr.findKey kt k' es').run P w = .ok r' w ∧ FRel g es 0 r r' := by
    intro d hu he
    subst he
    have : es' = [] := by have := hr.1; exact List.length_eq_zero_iff.1 (by simpa using this.symm)
    subst this
    simp [findE] at h; subst h
    refine ⟨none, ?_, trivial⟩
    unfold Instr.findKey
    rw [rBind (ok.run_und hu w)]; rfl
  cases hu : T.und kt with
  | none => obtain ⟨u, hu2⟩ := hun; rw [hu] at hu2; cases hu2
  | some d =>
    by_cases hes : es = []
    · exact empty d hu hes
    · cases d with
      | int kk =>
        obtain ⟨r', h1, h2⟩ := findNow_sound (g := g) (kind := .int kk) (eq := eqKey T kt k) (k' := k') (by
          intro v v' b hb rv
          simp only [eqKey, hu] at hb
          split at hb
          · rename_i k1 x k2 y
            obtain rfl := rk.int_inv
            obtain rfl := rv.int_inv
            cases hs : sameK k1 k2 with
            | false => rw [hs] at hb; cases hb
            | true =>
              rw [hs] at hb; simp only [cond_true] at hb; cases hb
              obtain rfl := sameK_iff hs
              simp only [Instr.sameNow, if_true]
              rw [eqI_eq]
          · cases hb) es es' 0 r hr h
        refine ⟨r', ?_, h2⟩
        unfold Instr.findKey
        rw [rBind (ok.run_und hu w), h1]; rfl
      | string =>
        obtain ⟨r', h1, h2⟩ := findNow_sound (g := g) (kind := .string) (eq := eqKey T kt k) (k' := k') (by
          intro v v' b hb rv
          simp only [eqKey, hu] at hb
          split at hb
          · obtain rfl := rk.string_inv
            obtain rfl := rv.string_inv
            cases hb
            simp only [Instr.sameNow]
            rw [ByteArray.beq_eqB]
          · cases hb) es es' 0 r hr h
        refine ⟨r', ?_, h2⟩
        unfold Instr.findKey
        rw [rBind (ok.run_und hu w), h1]; rfl
      | struct fs =>
        obtain ⟨r', h1, h2⟩ := findAsking_sound (P := P) (w := w) (g := g) (kt := kt) (eq := eqKey T kt k) (k' := k') (by
          intro v v' b hb rv
          simp only [eqKey, hu] at hb
          exact eqV_sound ok 12 Op.maxDepth kt k v k' v' b (by decide) hb rk rv) es es' 0 r hr h
        refine ⟨r', ?_, h2⟩
        unfold Instr.findKey
        rw [rBind (ok.run_und hu w)]
        cases es with
        | nil => exact (hes rfl).elim
        | cons e es =>
          cases es' with
          | nil => have := hr.1; simp at this
          | cons e' es' =>
            have : Instr.findNow (.struct fs) k' (e' :: es') 0 = none := by simp [Instr.findNow, Instr.sameNow]
            rw [this]; exact h1
      | _ =>
        cases es with
        | nil => exact (hes rfl).elim
        | cons e es => simp only [findE, eqKey, hu] at h; cases h
end
end
end Sw

namespace Sw
noncomputable section
open Go Go.RowKit
section
variable {T : Ty} {P : Program} {B0 : Nat} {w0 : World} {g : Gm} {hp : Hp} {nx n : Nat} {w : World}
theorem run_setObj {r : Nat} {o : Obj} (o' : Obj) (h : w.heap[r]? = some o) (hc : ∀ c e f, o ≠ .cells c e f) : (setObj r o').run P w = .ok () (w.putObj r o') := by
  unfold setObj
  simp only [Sem.run, h]
  cases o <;> first | exact (hc _ _ _ rfl).elim | rfl
theorem EffS.put (H : HRel B0 w0 g hp nx w) {r rr : Nat} {o o' : AObj Tm} {robj : Obj} (hr : hp r = some o) (hg : g.blk r = some (rr, 0)) (hB : B0 ≤ rr)
    (hc : ∀ cs m, o ≠ .cells cs m) (hc' : ∀ cs m, o' ≠ .cells cs m) (hgr : o'.isGroup = false) (hobj : ObjRel B0 g r o' rr 0 robj) {x : Result Value} {v v' : Value} (hx : x = .ok v' (w.putObj rr robj)) (hv : VRel g v v') :
    EffS B0 w0 g hp nx n w x (v, [(r, some o')], 0) := by
  intro nx' h1 _ _
  refine ⟨g, v', _, hx, Gm.le_refl g, fun _ h => .inl h, hv, (H.setObj hr hg hc hc' hgr robj hB hobj).mono_nx h1, ?_, by simp, Held.refl _ _⟩
  intro rb hrb hn
  have hlt : rr < w.heap.size := (H.dom _ _ _ hg).2
  exact (Upd.putObj hlt robj).other rb (fun e => by subst e; exact hn r o 0 hr hg)
theorem EffS.new (H : HRel B0 w0 g hp nx w) {o : AObj Tm} {robj : Obj} (hc : ∀ cs m, o ≠ .cells cs m) (hgr : o.isGroup = false)
    (hobj : Fresh g hp n → ObjRel B0 (g.add n (w.heap.size, 0) none) n o w.heap.size 0 robj) {x : Result Value} {v v' : Value} (hx : x = .ok v' (w.alloc robj)) (hv : VRel (g.add n (w.heap.size, 0) none) v v') :
    EffS B0 w0 g hp nx n w x (v, [(n, some o)], 1) := by
  intro nx' h1 h2 hf
  have f0 := hf 0 (by show 0 < 1; omega)
  simp only [Nat.add_zero] at f0
  have hl : n < nx' := by have : n + 1 ≤ nx' := h2; omega
  exact ⟨_, v', _, hx, Gm.le_add f0.blk _ _, Gm.add_new, hv, H.alloc f0.blk f0.room f0.hp h1 hl o robj none hgr (hobj f0) (fun cs m gr e => (hc _ _ e).elim), Keeps.alloc _ _ _ _, by simp, Held.new⟩
theorem eMakeMap_sound (H : HRel B0 w0 g hp nx w) {t : TypeId} (ok : T.Ok P) {r r' : Option Value} {e : Eff} (h : eMakeMap T t r n = some e) (rr : ORel g r r') :
    EffS B0 w0 g hp nx n w ((Instr.makeMap t r').run P w) e := by
  have key : ∀ x : Result Value, x = .ok (.map (some w.heap.size)) (w.alloc (.map #[] 0)) → EffS B0 w0 g hp nx n w x (.map (some n), [(n, some (.map [] 0))], 1) := fun x hx =>
    EffS.new H (o := .map [] 0) (robj := .map #[] 0) (fun _ _ h => by cases h) rfl (fun _ => ⟨rfl, H.base, rfl, ERel.nil⟩) hx (.map (Gm.add_blk _ _ _ _))
  unfold eMakeMap at h
  split at h
  · cases h
    cases r' with
    | some _ => exact rr.elim
    | none =>
      refine key _ ?_
      unfold Instr.makeMap
      simp only
      rw [rBind (run_newObj _ w)]; rfl
  · rename_i k m
    split at h
    · rename_i kt el hu
      cases h
      cases r' with
      | none => exact rr.elim
      | some x' =>
        have : VRel g (.int k m) x' := rr
        obtain rfl := this.int_inv
        refine key _ ?_
        unfold Instr.makeMap
        simp only
        rw [rBind (ok.run_und hu w)]
        rfl
    · cases h
  · cases h
theorem mapOf_sound (H : HRel B0 w0 g hp nx w) {m m' : Value} {es : List MapEntry} {c : Nat} (h : mapOf hp m = some (es, c)) (rm : VRel g m m') :
    (m = .map none ∧ m' = .map none ∧ es = []) ∨ ∃ r rr es', m = .map (some r) ∧ m' = .map (some rr) ∧ hp r = some (.map es c) ∧ g.blk r = some (rr, 0) ∧ w.heap[rr]? = some (.map es' c) ∧ B0 ≤ rr ∧ ERel g es es'.toList := by
  unfold mapOf at h
  split at h
  · cases h; obtain rfl := rm.nilMap_inv; exact .inl ⟨rfl, rfl, rfl⟩
  · rename_i r
    split at h
    · rename_i es c hr
      cases h
      obtain ⟨rr, hg, rfl⟩ := rm.map_inv
      obtain ⟨es', _, a2, a3, a4⟩ := H.mapAt hr hg
      exact .inr ⟨r, rr, es', rfl, rfl, hr, hg, a2, a3, a4⟩
    · cases h
  · cases h
def lookRest (kt el : TypeId) (k : Value) (b : Bool) (es : Array MapEntry) : Sem Value := do
  Instr.checkKey es.isEmpty 10000 kt k
  match ← Instr.findKey kt k es.toList with
  | some (_, v) => pure (if b = true then .tuple #[v, .bool true] else v)
  | none => do
    let z ← zeroValue el
    pure (if b = true then .tuple #[z, .bool false] else z)
theorem eLookup_sound (ok : T.Ok P) (H : HRel B0 w0 g hp nx w) {t : TypeId} {m m' k k' v : Value} {b : Bool} (h : eLookup T hp t m k b = some v) (rm : VRel g m m') (rk : VRel g k k') :
    EffS B0 w0 g hp nx n w ((Instr.lookup t m' k' b).run P w) (v, [], 0) := by
  unfold eLookup at h
  split at h
  · rename_i kt el hu
    split at h
    · rename_i es c hm
      cases hk : keyOk T 8 kt k with
      | false => rw [hk] at h; cases h
      | true =>
        rw [hk] at h
        simp only [cond_true] at h
        have hund := keyOk_und hk
        have hck : ∀ emp, (Instr.checkKey emp 10000 kt k').run P w = .ok () w := fun emp => keyOk_sound ok 8 10000 kt k k' (by decide) hk rk
        obtain ⟨es', he, hrun⟩ : ∃ es' : Array MapEntry, ERel g es es'.toList ∧
            ∀ x, (lookRest kt el k' b es').run P w = x → (Instr.lookup t m' k' b).run P w = x := by
          rcases mapOf_sound H hm rm with ⟨rfl, rfl, rfl⟩ | ⟨r, rr, es', rfl, rfl, hr, hg, a2, a3, a4⟩
          · refine ⟨#[], ERel.nil, fun x hx => ?_⟩
            unfold Instr.lookup
            rw [rBind (ok.run_und hu w)]
            exact hx
          · refine ⟨es', a4, fun x hx => ?_⟩
            unfold Instr.lookup
            rw [rBind (ok.run_und hu w)]
            simp only
            rw [rBind (run_getObj a2 (fun _ _ _ h => by cases h))]
            exact hx
        split at h
        · rename_i i e hf
          cases h
          obtain ⟨r', f1, f2⟩ := findE_sound (w := w) ok rk he hund hf
          cases r' with
          | none => exact f2.elim
          | some p =>
            obtain ⟨j, v'⟩ := p
            obtain ⟨rfl, _, _, rv⟩ := f2
            refine EffS.pure H (v' := bif b then .tuple #[v', .bool true] else v') ?_ ?_
            · apply hrun
              unfold lookRest
              rw [rBind (hck _), rBind f1]
              cases b <;> rfl
            · cases b
              · exact rv
              · refine .tuple rfl (fun i a a' q q' => ?_)
                match i with
                | 0 => simp at q q'; subst q; subst q'; exact rv
                | 1 => simp at q q'; subst q; subst q'; exact .bool _
                | i + 2 => simp at q
        · rename_i hf
          obtain ⟨r', f1, f2⟩ := findE_sound (w := w) ok rk he hund hf
          cases r' with
          | some p => exact f2.elim
          | none =>
            split at h
            · rename_i z hz
              cases h
              have rv : VRel g z z := VRel.of_flat g (ok.flat_zero hz)
              refine EffS.pure H (v' := bif b then .tuple #[z, .bool false] else z) ?_ ?_
              · apply hrun
                unfold lookRest
                rw [rBind (hck _), rBind f1]
                simp only
                rw [rBind (ok.run_zero hz w)]
                cases b <;> rfl
              · cases b
                · exact rv
                · refine .tuple rfl (fun i a a' q q' => ?_)
                  match i with
                  | 0 => simp at q q'; subst q; subst q'; exact rv
                  | 1 => simp at q q'; subst q; subst q'; exact .bool _
                  | i + 2 => simp at q
            · cases h
        · cases h
    · cases h
  · cases h
theorem ERel.set {es es' : List MapEntry} (h : ERel g es es') (f f' : MapEntry → MapEntry) (hf : ∀ e e', VRel g e.key e'.key ∧ VRel g e.val e'.val ∧ e.born = e'.born → VRel g (f e).key (f' e').key ∧ VRel g (f e).val (f' e').val ∧ (f e).born = (f' e').born) :
    ∀ i, ERel g (setE f es i) (es'.modify i f') := by
  revert es'
  induction es with
  | nil =>
    intro es' h i
    cases es' with
    | nil => cases i <;> exact ERel.nil
    | cons _ _ => have := h.1; simp at this
  | cons e es ih =>
    intro es' h i
    cases es' with
    | nil => have := h.1; simp at this
    | cons e' es' =>
      cases i with
      | zero => simp only [setE, List.modify_zero_cons]; exact ERel.cons (hf _ _ h.head) h.tail
      | succ i => simp only [setE, List.modify_succ_cons]; exact ERel.cons h.head (ih h.tail i)
theorem ERel.push {es es' : List MapEntry} (h : ERel g es es') {e e' : MapEntry} (he : VRel g e.key e'.key ∧ VRel g e.val e'.val ∧ e.born = e'.born) : ERel g (es ++ [e]) (es' ++ [e']) := by
  refine ⟨by simp [h.1], fun i a a' p q => ?_⟩
  rw [List.getElem?_append] at p q
  by_cases hi : i < es.length
  · rw [if_pos hi] at p; rw [if_pos (h.1 ▸ hi)] at q; exact h.2 i a a' p q
  · rw [if_neg hi] at p; rw [if_neg (h.1 ▸ hi)] at q
    rw [← h.1] at q
    cases hj : i - es.length with
    | zero => rw [hj] at p q; simp at p q; subst p; subst q; exact he
    | succ j => rw [hj] at p; simp at p
theorem ERel.get {es es' : List MapEntry} (h : ERel g es es') {i : Nat} {e : MapEntry} (p : es[i]? = some e) : ∃ e', es'[i]? = some e' ∧ VRel g e.key e'.key ∧ VRel g e.val e'.val ∧ e.born = e'.born := by
  have hi : i < es.length := (List.getElem?_eq_some_iff.1 p).1
  have hi' : i < es'.length := h.1 ▸ hi
  exact ⟨es'[i], List.getElem?_eq_getElem hi', h.2 i e _ p (List.getElem?_eq_getElem hi')⟩
theorem keyStays {a b a' b' : Value} (h : keyEq a b = true) (ra : VRel g a a') (rb : VRel g b b') (w : World) : (Instr.keyThatStays a' b').run P w = .ok b' w ∧ b' = b ∧ a = b := by
  obtain ⟨rfl, h2, h3⟩ := keyEq_eq h
  have h1 := h2 _ _ ra
  have h4 := h2 _ _ rb
  subst h1
  subst h4
  refine ⟨?_, rfl, rfl⟩
  unfold Instr.keyThatStays
  rw [if_pos (h3 9999)]; rfl
theorem eMapUpdate_sound (ok : T.Ok P) (H : HRel B0 w0 g hp nx w) {t : TypeId} {m m' k k' v v' : Value} {u : Ups} (h : eMapUpdate T hp t m k v = some u) (rm : VRel g m m') (rk : VRel g k k') (rv : VRel g v v') :
    EffS B0 w0 g hp nx n w ((do Instr.mapUpdate t m' k' v'; pure undef : Sem Value).run P w) (undef, u, 0) := by
  unfold eMapUpdate at h
  split at h
  · rename_i kt el r hu
    split at h
    · rename_i es c hr
      cases hk : keyOk T 8 kt k with
      | false => rw [hk] at h; cases h
      | true =>
        rw [hk] at h
        simp only [cond_true] at h
        have hund := keyOk_und hk
        have hck : (Instr.checkKey false 10000 kt k').run P w = .ok () w := keyOk_sound ok 8 10000 kt k k' (by decide) hk rk
        obtain ⟨rr, hg, rfl⟩ := rm.map_inv
        obtain ⟨es', _, a2, a3, a4⟩ := H.mapAt hr hg
        have hnc : ∀ c' e f, Obj.map es' c ≠ .cells c' e f := fun _ _ _ h => by cases h
        have run : ∀ o', (∀ x, (do match ← Instr.findKey kt k' es'.toList with
                 | some (i, _) => do
                   let key ← Instr.keyThatStays (((es'[i]?).map (·.key)).getD k') k'
                   setObj rr (.map (es'.modify i fun e => { e with key, val := v' }) c)
                 | none => setObj rr (.map (es'.push { key := k', val := v', born := c }) (c + 1)) : Sem Unit).run P w = x → x = .ok () (w.putObj rr o')) →
            (do Instr.mapUpdate t (.map (some rr)) k' v'; pure undef : Sem Value).run P w = .ok undef (w.putObj rr o') := by
          intro o' hx
          have : (Instr.mapUpdate t (.map (some rr)) k' v').run P w = .ok () (w.putObj rr o') := by
            unfold Instr.mapUpdate
            rw [rBind (ok.run_und hu w)]
            simp only
            rw [rBind (run_getObj a2 hnc)]
            simp only
            rw [rBind hck]
            exact hx _ rfl
          rw [rBind this]; rfl
        split at h
        · rename_i i e hf
          cases hke : keyEq e.key k with
          | false => rw [hke] at h; cases h
          | true =>
            rw [hke] at h
            simp only [cond_true] at h
            cases h
            obtain ⟨r', f1, f2⟩ := findE_sound (w := w) ok rk a4 hund hf
            cases r' with
            | none => exact f2.elim
            | some p =>
              obtain ⟨j, u'⟩ := p
              obtain ⟨rfl, _, f3, _⟩ := f2
              obtain ⟨e', g1, g2, g3, g4⟩ := a4.get f3
              obtain ⟨s1, s2, s3⟩ := keyStays (P := P) hke g2 rk w
              refine EffS.put H (o' := .map (setE (fun e => ⟨k, v, e.born⟩) es i) c) (robj := .map (es'.modify i fun e => { e with key := k', val := v' }) c) hr hg a3 (fun _ _ h => by cases h) (fun _ _ h => by cases h) rfl ⟨rfl, a3, rfl, ?_⟩ (run _ ?_) (VRel.undef g)
              · rw [Array.toList_modify]
                exact ERel.set a4 (fun e => ⟨k, v, e.born⟩) (fun e => ⟨k', v', e.born⟩) (fun x x' hx => ⟨rk, rv, hx.2.2⟩) i
              · intro x hx
                rw [← hx, rBind f1]
                simp only
                have : ((es'[i]?).map (·.key)).getD k' = e'.key := by
                  have : es'[i]? = some e' := by simpa using g1
                  rw [this]; rfl
                rw [this, rBind s1, run_setObj _ a2 hnc]
        · rename_i hf
          cases h
          obtain ⟨r', f1, f2⟩ := findE_sound (w := w) ok rk a4 hund hf
          cases r' with
          | some p => exact f2.elim
          | none =>
            refine EffS.put H (o' := .map (es ++ [⟨k, v, c⟩]) (c + 1)) (robj := .map (es'.push { key := k', val := v', born := c }) (c + 1)) hr hg a3 (fun _ _ h => by cases h) (fun _ _ h => by cases h) rfl ⟨rfl, a3, rfl, ?_⟩ (run _ ?_) (VRel.undef g)
            · rw [Array.toList_push]
              exact a4.push ⟨rk, rv, rfl⟩
            · intro x hx
              rw [← hx, rBind f1]
              simp only
              rw [run_setObj _ a2 hnc]
        · cases h
    · cases h
  · cases h
theorem tuple2 {a a' b b' : Value} (h : VRel g a a') (k : VRel g b b') : VRel g (.tuple #[a, b]) (.tuple #[a', b']) := by
  refine .tuple rfl (fun i x x' q q' => ?_)
  match i with
  | 0 => simp at q q'; subst q; subst q'; exact h
  | 1 => simp at q q'; subst q; subst q'; exact k
  | i + 2 => simp at q
theorem eMapEntry_sound (ok : T.Ok P) (H : HRel B0 w0 g hp nx w) {t : TypeId} {m m' k k' : Value} {e : Eff} (h : eMapEntry T hp t m k = some e) (rm : VRel g m m') (rk : VRel g k k') :
    EffS B0 w0 g hp nx n w ((Instr.mapEntry t m' k').run P w) e := by
  unfold eMapEntry at h
  split at h
  · rename_i kt el r hu
    split at h
    · rename_i es c hr
      cases hk : keyOk T 8 kt k with
      | false => rw [hk] at h; cases h
      | true =>
        rw [hk] at h
        simp only [cond_true] at h
        have hund := keyOk_und hk
        have hck : (Instr.checkKey false 10000 kt k').run P w = .ok () w := keyOk_sound ok 8 10000 kt k k' (by decide) hk rk
        obtain ⟨rr, hg, rfl⟩ := rm.map_inv
        obtain ⟨es', _, a2, a3, a4⟩ := H.mapAt hr hg
        have hnc : ∀ c' e f, Obj.map es' c ≠ .cells c' e f := fun _ _ _ h => by cases h
        have run : ∀ y, (∀ x, (do match ← Instr.findKey kt k' es'.toList with
                 | some (i, v) => do
                   let key ← Instr.keyThatStays (((es'[i]?).map (·.key)).getD k') k'
                   setObj rr (.map (es'.modify i fun e => { e with key }) c)
                   pure (.tuple #[v, goInt (((es'[i]?).map (·.born)).getD 0)])
                 | none => do
                   let zero ← zeroValue el
                   setObj rr (.map (es'.push { key := k', val := zero, born := c }) (c + 1))
                   pure (.tuple #[zero, goInt c]) : Sem Value).run P w = x → x = y) →
            (Instr.mapEntry t (.map (some rr)) k').run P w = y := by
          intro y hx
          unfold Instr.mapEntry
          rw [rBind (ok.run_und hu w)]
          simp only
          rw [rBind (run_getObj a2 hnc)]
          simp only
          rw [rBind hck]
          exact hx _ rfl
        split at h
        · rename_i i e hf
          cases hke : keyEq e.key k with
          | false => rw [hke] at h; cases h
          | true =>
            rw [hke] at h
            simp only [cond_true] at h
            cases h
            obtain ⟨r', f1, f2⟩ := findE_sound (w := w) ok rk a4 hund hf
            cases r' with
            | none => exact f2.elim
            | some p =>
              obtain ⟨j, u'⟩ := p
              obtain ⟨rfl, _, f3, f4⟩ := f2
              obtain ⟨e', g1, g2, g3, g4⟩ := a4.get f3
              obtain ⟨s1, s2, s3⟩ := keyStays (P := P) hke g2 rk w
              refine EffS.put H (o' := .map (setE (fun e => ⟨k, e.val, e.born⟩) es i) c) (robj := .map (es'.modify i fun e => { e with key := k' }) c) hr hg a3 (fun _ _ h => by cases h) (fun _ _ h => by cases h) rfl ⟨rfl, a3, rfl, ?_⟩ (run (.ok (.tuple #[u', .int .i64 (.ofNat e.born)]) _) ?_) (tuple2 f4 (.int _ _))
              · rw [Array.toList_modify]
                exact ERel.set a4 (fun e => ⟨k, e.val, e.born⟩) (fun e => ⟨k', e.val, e.born⟩) (fun x x' hx => ⟨rk, hx.2.1, hx.2.2⟩) i
              · intro x hx
                rw [← hx, rBind f1]
                simp only
                have hi : es'[i]? = some e' := by simpa using g1
                rw [hi]
                simp only [Option.map_some, Option.getD_some]
                rw [rBind s1, rBind (run_setObj _ a2 hnc), ← g4]; rfl
        · rename_i hf
          obtain ⟨r', f1, f2⟩ := findE_sound (w := w) ok rk a4 hund hf
          cases r' with
          | some p => exact f2.elim
          | none =>
            split at h
            · rename_i z hz
              cases h
              have rz : VRel g z z := VRel.of_flat g (ok.flat_zero hz)
              refine EffS.put H (o' := .map (es ++ [⟨k, z, c⟩]) (c + 1)) (robj := .map (es'.push { key := k', val := z, born := c }) (c + 1)) hr hg a3 (fun _ _ h => by cases h) (fun _ _ h => by cases h) rfl ⟨rfl, a3, rfl, ?_⟩ (run (.ok (.tuple #[z, .int .i64 (.ofNat c)]) _) ?_) (tuple2 rz (.int _ _))
              · rw [Array.toList_push]
                exact a4.push ⟨rk, rz, rfl⟩
              · intro x hx
                rw [← hx, rBind f1]
                simp only
                rw [rBind (ok.run_zero hz w), rBind (run_setObj _ a2 hnc)]; rfl
            · cases h
        · cases h
    · cases h
  · cases h
theorem setBorn_sound {b : Nat} {v v' : Value} (rv : VRel g v v') : ∀ (es es' : List MapEntry) (r : List MapEntry), ERel g es es' → setBorn b v es = some r →
    ∃ i, es'.findIdx? (fun e => (e.born : Int) == ((b : Nat) : Int)) = some i ∧ ERel g r (es'.modify i fun e => { e with val := v' })
  | [], _, _, _, h => by cases h
  | _ :: _, [], _, h, _ => by have := h.1; simp at this
  | e :: es, e' :: es', r, hr, h => by
    simp only [setBorn] at h
    obtain ⟨r1, r2, r3⟩ := hr.head
    cases hb : Nat.beq e.born b with
    | true =>
      rw [hb] at h
      simp only [cond_true] at h; cases h
      have hb := Nat.eq_of_beq_eq_true hb
      refine ⟨0, ?_, ?_⟩
      · rw [List.findIdx?_cons, if_pos (by rw [← r3, hb]; simp)]
      · rw [List.modify_zero_cons]; exact ERel.cons ⟨r1, rv, r3⟩ hr.tail
    | false =>
      rw [hb] at h
      simp only [cond_false] at h
      obtain ⟨l, h1, rfl⟩ := Option.map_eq_some_iff.1 h
      obtain ⟨i, k1, k2⟩ := setBorn_sound rv es es' l hr.tail h1
      have hne : e'.born ≠ b := fun q => by rw [← r3] at q; rw [q, Nat.beq_refl] at hb; cases hb
      refine ⟨i + 1, ?_, ?_⟩
      · rw [List.findIdx?_cons, if_neg (by simp; omega), k1]; rfl
      · rw [List.modify_succ_cons]; exact ERel.cons ⟨r1, r2, r3⟩ k2
theorem eEntryStore_sound (H : HRel B0 w0 g hp nx w) {t : TypeId} {m m' s s' v v' : Value} {u : Ups} (h : eEntryStore hp m s v = some u) (rm : VRel g m m') (rs : VRel g s s') (rv : VRel g v v') :
    EffS B0 w0 g hp nx n w ((do Instr.entryStore t m' s' v'; pure undef : Sem Value).run P w) (undef, u, 0) := by
  unfold eEntryStore at h
  split at h
  · rename_i r kk b
    split at h
    · rename_i es c hr
      obtain ⟨l, h1, rfl⟩ := Option.map_eq_some_iff.1 h
      obtain ⟨rr, hg, rfl⟩ := rm.map_inv
      obtain rfl := rs.int_inv
      obtain ⟨es', _, a2, a3, a4⟩ := H.mapAt hr hg
      have hnc : ∀ c' e f, Obj.map es' c ≠ .cells c' e f := fun _ _ _ h => by cases h
      obtain ⟨i, k1, k2⟩ := setBorn_sound rv es es'.toList l a4 h1
      refine EffS.put H (o' := .map l c) (robj := .map (es'.modify i fun e => { e with val := v' }) c) hr hg a3 (fun _ _ h => by cases h) (fun _ _ h => by cases h) rfl ⟨rfl, a3, rfl, by rw [Array.toList_modify]; exact k2⟩ ?_ (VRel.undef g)
      have : (Instr.entryStore t (.map (some rr)) (.int kk (.ofNat b)) v').run P w = .ok () (w.putObj rr (.map (es'.modify i fun e => { e with val := v' }) c)) := by
        unfold Instr.entryStore
        simp only
        rw [rBind (run_getObj a2 hnc)]
        simp only
        rw [rBind (show (asInt (.int kk (.ofNat b))).run P w = .ok (.ofNat b) w from rfl)]
        have : es'.findIdx? (fun e => (e.born : Int) == Int.ofNat b) = some i := by
          have q := List.findIdx?_toArray (p := fun e : MapEntry => (e.born : Int) == Int.ofNat b) (l := es'.toList)
          rw [Array.toArray_toList] at q
          rw [q]; exact k1
        rw [this]
        exact run_setObj _ a2 hnc
      rw [rBind this]; rfl
    · cases h
  · cases h
end
end
end Sw

namespace Sw
noncomputable section
open Go Go.RowKit
section
variable {T : Ty} {P : Program} {B0 : Nat} {w0 : World} {g : Gm} {hp : Hp} {nx n : Nat} {w : World}
theorem eRange_sound (ok : T.Ok P) (H : HRel B0 w0 g hp nx w) {t : TypeId} {x x' : Value} {e : Eff} (h : eRange T hp t x n = some e) (rx : VRel g x x') :
    EffS B0 w0 g hp nx n w ((Instr.range t x').run P w) e := by
  unfold eRange at h
  split at h
  · rename_i s hu
    cases h
    obtain rfl := rx.string_inv
    refine EffS.new H (o := .strIter s 0) (robj := .stringIter s 0) (fun _ _ h => by cases h) rfl (fun _ => ⟨rfl, H.base, rfl, rfl⟩) ?_ (v' := .pointer (some ⟨w.heap.size, 0, none⟩)) (.ptr (Gm.add_blk _ _ _ _))
    unfold Instr.range
    rw [rBind (ok.run_und hu w)]
    simp only
    rfl
  · rename_i k el hu
    cases h
    obtain rfl := rx.nilMap_inv
    refine EffS.new H (o := .mapIter none 0 [] 0) (robj := .mapIter none 0 #[] 0) (fun _ _ h => by cases h) rfl (fun _ => ⟨rfl, H.base, rfl, rfl, rfl, trivial⟩) ?_ (v' := .pointer (some ⟨w.heap.size, 0, none⟩)) (.ptr (Gm.add_blk _ _ _ _))
    unfold Instr.range
    rw [rBind (ok.run_und hu w)]
    simp only
    rfl
  · rename_i k el m hu
    split at h
    · rename_i es c hm
      cases h
      obtain ⟨rr, hg, rfl⟩ := rx.map_inv
      obtain ⟨es', _, a2, a3, a4⟩ := H.mapAt hm hg
      refine EffS.new H (o := .mapIter (some m) c [] c) (robj := .mapIter (some rr) c #[] c) (fun _ _ h => by cases h) rfl (fun f0 => ⟨rfl, H.base, rfl, rfl, rfl, ?_⟩) ?_ (v' := .pointer (some ⟨w.heap.size, 0, none⟩)) (.ptr (Gm.add_blk _ _ _ _))
      · exact (Gm.le_add f0.blk _ _).1 _ _ hg
      · unfold Instr.range
        rw [rBind (ok.run_und hu w)]
        simp only
        rw [rBind (run_getObj a2 (fun _ _ _ h => by cases h))]
        rfl
    · cases h
  · cases h
def IM (g : Gm) : Option Nat → Option Nat → Prop
  | none, none => True
  | some a, some a' => g.blk a = some (a', 0)
  | _, _ => False
theorem HRel.iterAt (H : HRel B0 w0 g hp nx w) {b : Nat} {m : Option Nat} {s st : Nat} {seen : List Nat} (h : hp b = some (.mapIter m s seen st)) {rb ro : Nat} (hb : g.blk b = some (rb, ro)) :
    ∃ m' seen', ro = 0 ∧ w.heap[rb]? = some (.mapIter m' s seen' st) ∧ B0 ≤ rb ∧ seen = seen'.toList ∧ IM g m m' := by
  obtain ⟨robj, a2, a3⟩ := (H.live b _ h).2 _ _ hb
  cases robj <;> first | exact a3.elim | skip
  rename_i m' _ _ _
  obtain ⟨rfl, k1, rfl, k2, rfl, k3⟩ := a3
  refine ⟨_, _, rfl, a2, k1, k2, ?_⟩
  cases m <;> cases m' <;> exact k3
theorem find_sound {b : Nat} : ∀ (es es' : List MapEntry) (e : MapEntry), ERel g es es' → es.find? (fun e => Nat.beq e.born b) = some e → ∃ e', es'.find? (fun e => e.born == b) = some e' ∧ VRel g e.key e'.key ∧ VRel g e.val e'.val
  | [], _, _, _, h => by cases h
  | _ :: _, [], _, h, _ => by have := h.1; simp at this
  | x :: es, x' :: es', e, hr, h => by
    obtain ⟨r1, r2, r3⟩ := hr.head
    rw [List.find?_cons] at h
    rw [List.find?_cons]
    cases hb : Nat.beq x.born b with
    | true =>
      rw [hb] at h; cases h
      have hb := Nat.eq_of_beq_eq_true hb
      have : (x'.born == b) = true := by rw [← r3, hb]; simp
      rw [this]; exact ⟨x', rfl, r1, r2⟩
    | false =>
      rw [hb] at h
      have : (x'.born == b) = false := by
        cases q : (x'.born == b) with
        | false => rfl
        | true => rw [beq_iff_eq] at q; rw [r3, q, Nat.beq_refl] at hb; cases hb
      rw [this]
      exact find_sound es es' e hr.tail h
theorem eEntry_sound (H : HRel B0 w0 g hp nx w) {x x' v : Value} (h : eEntry hp x = some v) (rx : VRel g x x') :
    EffS B0 w0 g hp nx n w ((Instr.entry x').run P w) (v, [], 0) := by
  unfold eEntry at h
  split at h
  · rename_i r sp
    split at h
    · rename_i m since seen st hr
      split at h
      · rename_i stamp es clock hs hm
        cases hb : Nat.beq clock st with
        | false => rw [hb] at h; cases h
        | true =>
          rw [hb] at h
          simp only [cond_true] at h
          split at h
          · rename_i e hf
            cases h
            obtain ⟨rfl, rb, ro, hg, rfl⟩ := rx.ptr_inv
            obtain ⟨m', seen', rfl, a2, a3, a4, a5⟩ := H.iterAt hr hg
            cases m' with
            | none => exact a5.elim
            | some m' =>
              have a5 : g.blk m = some (m', 0) := a5
              obtain ⟨es', _, b2, b3, b4⟩ := H.mapAt hm a5
              obtain ⟨e', c1, c2, c3⟩ := find_sound es es'.toList e b4 hf
              refine EffS.pure H (v' := .tuple #[e'.key, e'.val]) ?_ (tuple2 c2 c3)
              unfold Instr.entry
              simp only [Nat.add_zero]
              rw [rBind (run_getObj a2 (fun _ _ _ h => by cases h))]
              simp only
              have : seen'.back? = some stamp := by
                rw [a4] at hs
                rw [← Array.getLast?_toList]; exact hs
              rw [this]
              simp only
              rw [rBind (run_getObj b2 (fun _ _ _ h => by cases h))]
              simp only
              have hb := Nat.eq_of_beq_eq_true hb
              subst hb
              rw [if_neg (by simp)]
              have q : es'.find? (fun e => e.born == stamp) = some e' := by rw [← Array.find?_toList]; exact c1
              rw [q]; rfl
          · cases h
      · cases h
    · cases h
  · cases h
theorem max2_sound {x y x' y' v : Value} (h : Sw.max2 x y = some v) (rx : VRel g x x') (ry : VRel g y y') (w : World) : (Builtin.max2 x' y').run P w = .ok v w ∧ VRel g v v := by
  unfold Sw.max2 at h
  split at h
  · rename_i k a k2 b
    cases h
    obtain rfl := rx.int_inv
    obtain rfl := ry.int_inv
    refine ⟨?_, .int _ _⟩
    rw [ltI_eq]
    simp only [Builtin.max2, gt_iff_lt]
    by_cases hh : a < b
    · rw [if_pos hh, decide_eq_true hh]; rfl
    · rw [if_neg hh, decide_eq_false hh]; rfl
  · cases h
theorem min2_sound {x y x' y' v : Value} (h : Sw.min2 x y = some v) (rx : VRel g x x') (ry : VRel g y y') (w : World) : (Builtin.min2 x' y').run P w = .ok v w ∧ VRel g v v := by
  unfold Sw.min2 at h
  split at h
  · rename_i k a k2 b
    cases h
    obtain rfl := rx.int_inv
    obtain rfl := ry.int_inv
    refine ⟨?_, .int _ _⟩
    rw [ltI_eq]
    simp only [Builtin.min2]
    by_cases hh : b < a
    · rw [if_pos hh, decide_eq_true hh]; rfl
    · rw [if_neg hh, decide_eq_false hh]; rfl
  · cases h
theorem foldV_sound {f : Value → Value → Option Value} {f' : Value → Value → Sem Value} (hf : ∀ x y x' y' v, f x y = some v → VRel g x x' → VRel g y y' → (f' x' y').run P w = .ok v w ∧ VRel g v v) :
    ∀ (l l' : List Value) (x x' v : Value), foldV f x l = some v → VRel g x x' → LRel g l l' → ∃ v', (l'.foldlM f' x').run P w = .ok v' w ∧ VRel g v v'
  | [], [], x, x', v, h, rx, _ => by cases h; exact ⟨x', rfl, rx⟩
  | [], _ :: _, _, _, _, _, _, hl => by have := hl.1; simp at this
  | _ :: _, [], _, _, _, _, _, hl => by have := hl.1; simp at this
  | y :: l, y' :: l', x, x', v, h, rx, hl => by
    simp only [foldV] at h
    split at h
    · rename_i z hz
      obtain ⟨h1, h2⟩ := hf _ _ _ _ _ hz rx hl.head
      obtain ⟨v', h3, h4⟩ := foldV_sound hf l l' z z v h h2 hl.tail
      refine ⟨v', ?_, h4⟩
      rw [List.foldlM_cons, rBind h1]; exact h3
    · cases h
theorem eMax_sound (H : HRel B0 w0 g hp nx w) {ts : Array TypeId} {ty : TypeId} {l : List Value} {l' : Array Value} {v : Value} (hl : LRel g l l'.toList) (h : eMax Sw.max2 l = some v) :
    EffS B0 w0 g hp nx n w ((Builtin.max_ ts ty l').run P w) (v, [], 0) := by
  unfold eMax at h
  cases l with
  | nil => cases h
  | cons x xs =>
    cases hl' : l'.toList with
    | nil => rw [hl'] at hl; have := hl.1; simp at this
    | cons x' xs' =>
      rw [hl'] at hl
      obtain ⟨v', h1, h2⟩ := foldV_sound (P := P) (w := w) (f' := Builtin.max2) (fun x y x' y' v h rx ry => max2_sound h rx ry w) xs xs' x x' v h hl.head hl.tail
      refine EffS.pure H (v' := v') ?_ h2
      unfold Builtin.max_
      rw [hl']; exact h1
theorem eMin_sound (H : HRel B0 w0 g hp nx w) {ts : Array TypeId} {ty : TypeId} {l : List Value} {l' : Array Value} {v : Value} (hl : LRel g l l'.toList) (h : eMax Sw.min2 l = some v) :
    EffS B0 w0 g hp nx n w ((Builtin.min_ ts ty l').run P w) (v, [], 0) := by
  unfold eMax at h
  cases l with
  | nil => cases h
  | cons x xs =>
    cases hl' : l'.toList with
    | nil => rw [hl'] at hl; have := hl.1; simp at this
    | cons x' xs' =>
      rw [hl'] at hl
      obtain ⟨v', h1, h2⟩ := foldV_sound (P := P) (w := w) (f' := Builtin.min2) (fun x y x' y' v h rx ry => min2_sound h rx ry w) xs xs' x x' v h hl.head hl.tail
      refine EffS.pure H (v' := v') ?_ h2
      unfold Builtin.min_
      rw [hl']; exact h1
end
end
end Sw
