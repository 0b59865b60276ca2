/- A part of the proof that the law returns true for every input that its row speaks of. No condition is added. -/
import Derived.Below
import Derived.Calls
import GoSem.Machine.Frame
import Derived.RangeFuncRecord
import Derived.Laws.Sem
import GoSem.Dispatch
namespace Sw
noncomputable section
open Go
theorem cs.{u_1}:∀ {α : Type u_1} {l : List α} {i : Nat} {a : α}, l[i]? = some a → a ∈ l:=@List.mem_of_getElem?
theorem e4:∀ {n m k : Nat}, n < m → m ≤ k → n < k:=@Nat.lt_of_lt_of_le
theorem e7:∀ {x y : Bool}, (x && y) = true ↔ x = true ∧ y = true:=@Bool.and_eq_true_iff
theorem e8:∀ {n m k : Nat}, n ≤ m → m ≤ k → n ≤ k:=@Nat.le_trans
theorem e9:∀ (n : Nat), n ≤ n:=@Nat.le_refl
theorem e_:∀ (n : Nat), n ≤ n.succ:=@Nat.le_succ
theorem fa:∀ {n m : Nat}, n.ble m = true → n ≤ m:=@Nat.le_of_ble_eq_true
theorem fb:∀ (n : Nat), n < n.succ:=@Nat.lt_succ_self
theorem fe.{u_1}:∀ {α : Type u_1} {i : Nat} {a : α} {l : List α}, l[i]? = some a ↔ ∃ (h : i < l.length), l[i] = a:=@List.getElem?_eq_some_iff
theorem ff.{u_1}:∀ {α : Type u_1} {l : List α} {i : Nat} (h : i < l.length), l[i]? = some l[i]:=@List.getElem?_eq_getElem
theorem fg:∀ {a : Prop}, ¬¬a ↔ a:=@Classical.not_not
theorem fh.{u_1}:∀ {α : Type u_1} {a : α} {l : List α}, a ∈ a :: l:=@List.mem_cons_self
theorem fj:∀ {n m : Nat}, n.beq m = true → n = m:=@Nat.eq_of_beq_eq_true
theorem fo:∀ {m n : Nat}, m < n.succ ↔ m < n ∨ m = n:=@Nat.lt_succ_iff_lt_or_eq
theorem fw.{u_1}:∀ {α : Type u_1} (y : α) {a : α} {l : List α}, a ∈ l → a ∈ y :: l:=@List.mem_cons_of_mem
theorem fx.{u_1,u_2}:∀ {α : Type u_1} {b : α} {α_1 : Type u_2} {x : Option α_1} {f : α_1 → α}, Option.map f x = some b ↔ ∃ (a : α_1), x = some a ∧ f a = b:=@Option.map_eq_some_iff
theorem fy.{u_1}:∀ {α : Type u_1} {i : Nat} {l : List α}, l.length ≤ i → List.take i l = l:=@List.take_of_length_le
theorem fz:∀ (n : Nat), ¬n < 0:=@Nat.not_lt_zero
theorem fC.{u_1}:∀ {α : Type u_1} {a : α} {as : List α} (bs : List α), a ∈ as → a ∈ as ++ bs:=@List.mem_append_left
theorem fD.{u_1,u_2}:∀ {α : Type u_1} {b : α} {α_1 : Type u_2} {x : Option α_1} {f : α_1 → Option α}, x.bind f = some b ↔ ∃ (a : α_1), x = some a ∧ f a = some b:=@Option.bind_eq_some_iff
theorem fE.{u_1}:∀ {α : Type u_1} {p : α → Bool} {l : List α}, l.all p = true ↔ ∀ (x : α), x ∈ l → p x = true:=@List.all_eq_true
theorem fI.{u_1}:∀ {α : Type u_1} {a : α} {s t : List α}, a ∈ s ++ t ↔ a ∈ s ∨ a ∈ t:=@List.mem_append
theorem fJ.{u_1}:∀ {α : Type u_1} {a : α} {l : List α}, a ∈ l → ∃ (i : Nat), l[i]? = some a:=@List.getElem?_of_mem
theorem fM.{u_1}:∀ {α : Type u_1} {b : α} {l : List α} {a : α}, a ∈ b :: l ↔ a = b ∨ a ∈ l:=@List.mem_cons
theorem fO.{u_1,u_2}:∀ {α : Type u_1} {β : Type u_2} {b : β} {f : α → β} {l : List α}, b ∈ List.map f l ↔ ∃ (a : α), a ∈ l ∧ f a = b:=@List.mem_map
theorem fP.{u_1}:∀ {α : Type u_1} {l : List α}, l.length = 0 → l = []:=@List.eq_nil_of_length_eq_zero
theorem fS.{u_1}:∀ {α : Type u_1} {val val_1 : α}, some val = some val_1 → val = val_1:=@Option.some.inj
theorem fU.{u_1}:∀ {α : Type u_1} {i : Nat} {b : α} {xs : Array α}, xs[i]? = some b ↔ ∃ (h : i < xs.size), xs[i] = b:=@Array.getElem?_eq_some_iff
theorem fY:∀ {n m k : Nat}, n < m → m = k → n < k:=@Nat.lt_of_lt_of_eq
theorem f_.{u_1}:∀ {α : Type u_1} {p : α → Bool} {as : List α} {x : α}, x ∈ List.filter p as ↔ x ∈ as ∧ p x = true:=@List.mem_filter
theorem gf:∀ {a : Prop}, a ↔ a:=@Iff.rfl
theorem gh:∀ {n m : Nat}, n ≤ m → n.ble m = true:=@Nat.ble_eq_true_of_le
theorem gj.{u_1}:∀ {α : Type u_1} {a : α} [inst : SizeOf α] {as : List α}, a ∈ as → SizeOf.sizeOf a < SizeOf.sizeOf as:=@List.sizeOf_lt_of_mem
theorem gl.{u_1}:∀ {α : Type u_1} {b : α} (as : List α) {bs : List α}, b ∈ bs → b ∈ as ++ bs:=@List.mem_append_right
theorem gp:∀ (n m : Nat), n < m ∨ n ≥ m:=@Nat.lt_or_ge
theorem gu:∀ (n : Nat), n = 0 ∨ n > 0:=@Nat.eq_zero_or_pos
theorem gv:∀ (n k : Nat), n ≤ n + k:=@Nat.le_add_right
theorem gy:∀ {b : Bool}, b = false ↔ b ≠ true:=@Bool.eq_false_iff
theorem gC.{u_1}:∀ {α : Type u_1} {xs : Array α} {i : Nat} (h : i < xs.size), xs[i]? = some xs[i]:=@Array.getElem?_eq_getElem
theorem gD.{u_1}:∀ {α : Type u_1} {a : α} {l : List α}, a ∈ l ↔ ∃ (i : Nat), ∃ (h : i < l.length), l[i] = a:=@List.mem_iff_getElem
theorem gG:∀ (n : Nat), 0 ≤ n:=@Nat.zero_le
theorem gH:∀ {n m : Nat} (k : Nat), n ≤ m → n * k ≤ m * k:=@Nat.mul_le_mul_right
theorem gI:∀ {a : Int}, 0 ≤ a → ↑a.toNat = a:=@Int.toNat_of_nonneg
theorem gJ:∀ {m n : Nat}, m ∈ List.range n ↔ m < n:=@List.mem_range
theorem gL:∀ (a : Int), a ≤ a:=@Int.le_refl
theorem gO.{u_1}:∀ {α : Type u_1} {l₁ l₂ : List α}, (∀ (i : Nat), l₁[i]? = l₂[i]?) → l₁ = l₂:=@List.ext_getElem?
theorem gR:∀ {n₁ m₁ n₂ m₂ : Nat}, n₁ ≤ n₂ → m₁ ≤ m₂ → n₁ * m₁ ≤ n₂ * m₂:=@Nat.mul_le_mul
structure gi where
 ro:Bool
 mG:Option Nat
 base:Nat
 unit:Nat
def gi.plain:gi:=⟨false,none,0,0⟩
structure Mem where
 fW:Nat
 base:Nat
 len:Nat
structure sU(E:Type) where
 state:LoopState
 pending:Option Code
 fn:FuncId
 tmps:E
 nt:Nat
 params:List Tmp
 assign:Code
 body:Code
 defers:Nat
inductive jM(E:Type) where
 |cells (Z:List Value) (m:gi)
 |map (es:List MapEntry) (clock:Nat)
 |mapIter (m:Option Nat) (jm:Nat) (seen:List Nat) (O4:Nat)
 |FF (s:ByteArray) (pos:Nat)
 |loop (l:sU E)
 |deferred (ds:Option (List Deferred))
 |group (ms:List Mem)
structure Gm where
 fW:Nat->Option (Nat×Nat)
 room:Nat->Option (Nat×Nat)
def Gm.le(g g':Gm):Prop:=(∀b x,g.fW b=some x->g'.fW b=some x)/\(∀b x,g.fW b=some x->g'.room b=g.room b)
theorem Gm.le_refl(g:Gm):g.le g:=⟨fun _ _ h=>h,fun _ _ _=>rfl⟩
theorem Gm.le_trans{a b c:Gm}(h:a.le b)(k:b.le c):a.le c:=⟨fun x y e=>k.1 x y (h.1 x y e),fun x y e=>(k.2 x y (h.1 x y e)).trans (h.2 x y e)⟩
def FG(g:Gm)(b:Nat)(at_ c1 c2:Nat):Prop:=
 c1=c2\/(c1<c2/\∃e u,g.room b=some (e,u)/\at_+c2*u<=e)
theorem FG.mono{g g':Gm}(h:g.le g'){b at_ c1 c2:Nat}{x:Nat×Nat}(hb:g.fW b=some x)(k:FG g b at_ c1 c2):FG g' b at_ c1 c2:=by
 rcases k with k|⟨k,j,u,e,l⟩
 · exact .inl k
 · exact .inr ⟨k,j,u,(h.2 _ _ hb).trans e,l⟩
inductive fK(g:Gm):Value->Value->Prop where
 |bool (b:Bool):fK g (.bool b) (.bool b)
 |int (k:IntKind) (n:Int):fK g (.int k n) (.int k n)
 |string (s:ByteArray):fK g (.string s) (.string s)
 |nilPtr:fK g (.pointer none) (.pointer none)
 |ptr {b off rb ro:Nat} (h:g.fW b=some (rb,ro)):fK g (.pointer (some ⟨b,off,none⟩)) (.pointer (some ⟨rb,ro+off,none⟩))
 |qb:fK g (.slice none 0 0) (.slice none 0 0)
 |slice {b off rb ro l c1 c2:Nat} (h:g.fW b=some (rb,ro)) (hl:l<=c1) (hc:FG g b (ro+off) c1 c2):
   fK g (.slice (some ⟨b,off,none⟩) l c1) (.slice (some ⟨rb,ro+off,none⟩) l c2)
 |ox (a1 a2:Addr):fK g (.slice (some a1) 0 0) (.slice (some a2) 0 0)
 |vz:fK g (.map none) (.map none)
 |map {r rr:Nat} (h:g.fW r=some (rr,0)):fK g (.map (some r)) (.map (some rr))
 |nilFunc:fK g .nilFunc .nilFunc
 |nilIface:fK g .nilIface .nilIface
 |func {f:FuncId} {x x' y y':Array Value} (hx:x.size=x'.size) (hy:y.size=y'.size)
   (kx:∀(i:Nat) (v v':Value),x[i]?=some v->x'[i]?=some v'->fK g v v')
   (ky:∀(i:Nat) (v v':Value),y[i]?=some v->y'[i]?=some v'->fK g v v'):fK g (.func (.func f) x y) (.func (.func f) x' y')
 |method {n:String} {x x' y y':Array Value} (hx:x.size=x'.size) (hy:y.size=y'.size)
   (kx:∀(i:Nat) (v v':Value),x[i]?=some v->x'[i]?=some v'->fK g v v')
   (ky:∀(i:Nat) (v v':Value),y[i]?=some v->y'[i]?=some v'->fK g v v'):fK g (.func (.method n) x y) (.func (.method n) x' y')
 |AK {l rl:Nat} (h:g.fW l=some (rl,0)):fK g (.func (.yield l) #[] #[]) (.func (.yield rl) #[] #[])
 |iface {t:TypeId} {v v':Value} (h:fK g v v'):fK g (.iface t v) (.iface t v')
 |agg {x x':Array Value} (hx:x.size=x'.size) (kx:∀(i:Nat) (v v':Value),x[i]?=some v->x'[i]?=some v'->fK g v v'):fK g (.agg x) (.agg x')
 |tuple {x x':Array Value} (hx:x.size=x'.size) (kx:∀(i:Nat) (v v':Value),x[i]?=some v->x'[i]?=some v'->fK g v v'):fK g (.tuple x) (.tuple x')
theorem fK.mono{g g':Gm}(h:g.le g'){v v':Value}(r:fK g v v'):fK g' v v':=by
 induction r with
 |bool b=>exact .bool b
 |int k n=>exact .int k n
 |string s=>exact .string s
 |nilPtr=>exact .nilPtr
 |ptr e=>exact .ptr (h.1 _ _ e)
 |qb=>exact .qb
 |slice e hl hc=>exact .slice (h.1 _ _ e) hl (hc.mono h e)
 |ox a b=>exact .ox a b
 |vz=>exact .vz
 |map e=>exact .map (h.1 _ _ e)
 |nilFunc=>exact .nilFunc
 |nilIface=>exact .nilIface
 |func hx hy _ _ ix iy=>exact .func hx hy ix iy
 |method hx hy _ _ ix iy=>exact .method hx hy ix iy
 |AK e=>exact .AK (h.1 _ _ e)
 |iface _ i=>exact .iface i
 |agg hx _ i=>exact .agg hx i
 |tuple hx _ i=>exact .tuple hx i
def sf(g:Gm)(x x':Array Value):Prop:=x.size=x'.size/\∀(i:Nat) (v v':Value),x[i]?=some v->x'[i]?=some v'->fK g v v'
def gV(g:Gm)(x x':List Value):Prop:=x.length=x'.length/\∀(i:Nat) (v v':Value),x[i]?=some v->x'[i]?=some v'->fK g v v'
theorem gV.nil(g:Gm):gV g [] []:=⟨rfl,fun i v v' h _=>by simp at h⟩
theorem gV.cons{g:Gm}{v v':Value}{x x':List Value}(h:fK g v v')(k:gV g x x'):gV g (v::x) (v'::x'):=
 ⟨by simp[k.1],fun i u j e b=>by
   cases i with
   |zero=>simp at e b;subst e;subst b;exact h
   |succ i=>simp at e b;exact k.2 i u j e b⟩
theorem gV.head{g:Gm}{v v':Value}{x x':List Value}(h:gV g (v::x) (v'::x')):fK g v v':=h.2 0 v v' rfl rfl
theorem gV.tail{g:Gm}{v v':Value}{x x':List Value}(h:gV g (v::x) (v'::x')):gV g x x':=
 ⟨by have:=h.1;simpa using this,fun i u j e b=>h.2 (i+1) u j (by simpa using e) (by simpa using b)⟩
theorem gV.mono{g g':Gm}(h:g.le g'){x x':List Value}(r:gV g x x'):gV g' x x':=⟨r.1,fun i v v' e b=>(r.2 i v v' e b).mono h⟩
theorem sf.mono{g g':Gm}(h:g.le g'){x x':Array Value}(r:sf g x x'):sf g' x x':=⟨r.1,fun i v v' e b=>(r.2 i v v' e b).mono h⟩
theorem sf.toList{g:Gm}{x x':Array Value}(h:sf g x x'):gV g x.toList x'.toList:=⟨by simpa using h.1,fun i v v' e b=>h.2 i v v' (by simpa using e) (by simpa using b)⟩
theorem gV.toArray{g:Gm}{x x':List Value}(h:gV g x x'):sf g x.toArray x'.toArray:=⟨by simpa using h.1,fun i v v' e b=>h.2 i v v' (by simpa using e) (by simpa using b)⟩
theorem gV.append{g:Gm}{x x' y y':List Value}(h:gV g x x')(k:gV g y y'):gV g (x++y) (x'++y'):=
 ⟨by simp[h.1,k.1],fun i v v' e b=>by
   rw[List.getElem?_append]at e b
   by_cases hi:i<x.length
   · rw[if_pos hi]at e;rw[if_pos (h.1▸hi)]at b;exact h.2 i v v' e b
   · rw[if_neg hi]at e;rw[if_neg (h.1▸hi)]at b;rw[<-h.1]at b;exact k.2 _ v v' e b⟩
theorem gV.drop{g:Gm}{x x':List Value}(h:gV g x x')(n:Nat):gV g (x.drop n) (x'.drop n):=
 ⟨by simp[h.1],fun i v v' e b=>h.2 (n+i) v v' (by simpa using e) (by simpa using b)⟩
theorem gV.take{g:Gm}{x x':List Value}(h:gV g x x')(n:Nat):gV g (x.take n) (x'.take n):=
 ⟨by simp[h.1],fun i v v' e b=>by
   rw[List.getElem?_take]at e b
   by_cases hi:i<n
   · simp[hi]at e b;exact h.2 i v v' e b
   · simp[hi]at e⟩
theorem gV.get{g:Gm}{x x':List Value}(h:gV g x x'){i:Nat}{v:Value}(e:x[i]?=some v):∃v',x'[i]?=some v'/\fK g v v':=by
 have hi:i<x.length:=(fe.1 e).1
 have b:i<x'.length:=h.1▸hi
 exact⟨x'[i],ff b,h.2 i v _ e (ff b)⟩
theorem gV.set{g:Gm}{x x':List Value}(h:gV g x x')(n:Nat){u j:Value}(hu:fK g u j):gV g (x.set n u) (x'.set n j):=
 ⟨by simp[h.1],fun i v v' e b=>by
   rw[List.getElem?_set]at e b
   by_cases hi:n=i
   · subst hi
     simp only[if_true]at e b
     split at e
     · split at b
       · cases e;cases b;exact hu
       · cases b
     · cases e
   · simp only[hi,if_false]at e b;exact h.2 i v v' e b⟩
theorem fK.rR{g:Gm}{b:Bool}{v:Value}(h:fK g (.bool b) v):v=.bool b:=by cases h;rfl
theorem fK.kU{g:Gm}{k:IntKind}{n:Int}{v:Value}(h:fK g (.int k n) v):v=.int k n:=by cases h;rfl
theorem fK.kY{g:Gm}{s:ByteArray}{v:Value}(h:fK g (.string s) v):v=.string s:=by cases h;rfl
theorem fK.oQ{g:Gm}{v:Value}(h:fK g .nilIface v):v=.nilIface:=by cases h;rfl
theorem fK.so{g:Gm}{v:Value}(h:fK g .nilFunc v):v=.nilFunc:=by cases h;rfl
theorem fK.uz{g:Gm}{v:Value}(h:fK g (.pointer none) v):v=.pointer none:=by cases h;rfl
theorem fK.qc{g:Gm}{v:Value}(h:fK g (.map none) v):v=.map none:=by cases h;rfl
theorem fK.sy{g:Gm}{a:Addr}{v:Value}(h:fK g (.pointer (some a)) v):
 a.spot=none/\∃rb ro,g.fW a.block=some (rb,ro)/\v=.pointer (some ⟨rb,ro+a.off,none⟩):=by
 cases h with
 |ptr h=>exact⟨rfl,_,_,h,rfl⟩
theorem fK.vW{g:Gm}{r:Nat}{v:Value}(h:fK g (.map (some r)) v):∃rr,g.fW r=some (rr,0)/\v=.map (some rr):=by
 cases h with
 |map h=>exact⟨_,h,rfl⟩
theorem fK.s8{g:Gm}{x:Array Value}{v:Value}(h:fK g (.agg x) v):∃x',v=.agg x'/\sf g x x':=by
 cases h with
 |agg hx kx=>exact⟨_,rfl,hx,kx⟩
theorem fK.En{g:Gm}{x:Array Value}{v:Value}(h:fK g (.tuple x) v):∃x',v=.tuple x'/\sf g x x':=by
 cases h with
 |tuple hx kx=>exact⟨_,rfl,hx,kx⟩
theorem fK.xC{g:Gm}{t:TypeId}{x v:Value}(h:fK g (.iface t x) v):∃x',v=.iface t x'/\fK g x x':=by
 cases h with
 |iface h=>exact⟨_,rfl,h⟩
theorem fK.GF{g:Gm}{f:FuncId}{x y:Array Value}{v:Value}(h:fK g (.func (.func f) x y) v):
 ∃x' y',v=.func (.func f) x' y'/\sf g x x'/\sf g y y':=by
 cases h with
 |func hx hy kx ky=>exact⟨_,_,rfl,⟨hx,kx⟩,hy,ky⟩
theorem fK.mW{g:Gm}{a:Addr}{l c1:Nat}{v:Value}(h:fK g (.slice (some a) l c1) v):
 (∃a2,l=0/\c1=0/\v=.slice (some a2) 0 0)\/
 (a.spot=none/\∃rb ro c2,g.fW a.block=some (rb,ro)/\l<=c1/\FG g a.block (ro+a.off) c1 c2/\v=.slice (some ⟨rb,ro+a.off,none⟩) l c2):=by
 cases h with
 |slice h hl hc=>exact .inr ⟨rfl,_,_,_,h,hl,hc,rfl⟩
 |ox a1 a2=>exact .inl ⟨_,rfl,rfl,rfl⟩
theorem fK.lW{g:Gm}{l c:Nat}{v:Value}(h:fK g (.slice none l c) v):l=0/\c=0/\v=.slice none 0 0:=by
 cases h;exact⟨rfl,rfl,rfl⟩
theorem fK.undef(g:Gm):fK g Go.undef Go.undef:=.tuple rfl (fun i v v' h _=>by simp at h)
theorem fK.cells{g:Gm}{v v':Value}(h:fK g v v'):gV g v.cells.toList v'.cells.toList:=by
 cases h with
 |agg hx kx=>exact sf.toList ⟨hx,kx⟩
 |bool b=>exact .cons (.bool b) (.nil g)
 |int k n=>exact .cons (.int k n) (.nil g)
 |string s=>exact .cons (.string s) (.nil g)
 |nilPtr=>exact .cons .nilPtr (.nil g)
 |ptr e=>exact .cons (.ptr e) (.nil g)
 |qb=>exact .cons .qb (.nil g)
 |slice e hl hc=>exact .cons (.slice e hl hc) (.nil g)
 |ox a b=>exact .cons (.ox a b) (.nil g)
 |vz=>exact .cons .vz (.nil g)
 |map e=>exact .cons (.map e) (.nil g)
 |nilFunc=>exact .cons .nilFunc (.nil g)
 |nilIface=>exact .cons .nilIface (.nil g)
 |func hx hy kx ky=>exact .cons (.func hx hy kx ky) (.nil g)
 |method hx hy kx ky=>exact .cons (.method hx hy kx ky) (.nil g)
 |AK e=>exact .cons (.AK e) (.nil g)
 |iface h=>exact .cons (.iface h) (.nil g)
 |tuple hx kx=>exact .cons (.tuple hx kx) (.nil g)
end
end Sw
namespace Sw
noncomputable section
open Go
structure O8(α:Type) where
 f0:α
 f1:α
 f2:α
 f3:α
 f4:α
 f5:α
 f6:α
 f7:α
structure G8(α:Type) where
 get:O8 α->α
 set:O8 α->α->O8 α
def g8(α:Type):Nat->G8 α
 |0=>⟨fun s=>s.f0,fun s v=>O8.casesOn s fun _ a1 a2 a3 a4 a5 b e=>⟨v,a1,a2,a3,a4,a5,b,e⟩⟩
 |1=>⟨fun s=>s.f1,fun s v=>O8.casesOn s fun a0 _ a2 a3 a4 a5 b e=>⟨a0,v,a2,a3,a4,a5,b,e⟩⟩
 |2=>⟨fun s=>s.f2,fun s v=>O8.casesOn s fun a0 a1 _ a3 a4 a5 b e=>⟨a0,a1,v,a3,a4,a5,b,e⟩⟩
 |3=>⟨fun s=>s.f3,fun s v=>O8.casesOn s fun a0 a1 a2 _ a4 a5 b e=>⟨a0,a1,a2,v,a4,a5,b,e⟩⟩
 |4=>⟨fun s=>s.f4,fun s v=>O8.casesOn s fun a0 a1 a2 a3 _ a5 b e=>⟨a0,a1,a2,a3,v,a5,b,e⟩⟩
 |5=>⟨fun s=>s.f5,fun s v=>O8.casesOn s fun a0 a1 a2 a3 a4 _ b e=>⟨a0,a1,a2,a3,a4,v,b,e⟩⟩
 |6=>⟨fun s=>s.f6,fun s v=>O8.casesOn s fun a0 a1 a2 a3 a4 a5 _ e=>⟨a0,a1,a2,a3,a4,a5,v,e⟩⟩
 |_=>⟨fun s=>s.f7,fun s v=>O8.casesOn s fun a0 a1 a2 a3 a4 a5 b _=>⟨a0,a1,a2,a3,a4,a5,b,v⟩⟩
theorem Dg{α:Type}(s:O8 α)(v:α):∀(a b:Nat),a<8->b<8->(g8 α b).get ((g8 α a).set s v)=if a=b then v else(g8 α b).get s
 |0,0,_,_|0,1,_,_|0,2,_,_|0,3,_,_|0,4,_,_|0,5,_,_|0,6,_,_|0,7,_,_=>by cases s;rfl
 |1,0,_,_|1,1,_,_|1,2,_,_|1,3,_,_|1,4,_,_|1,5,_,_|1,6,_,_|1,7,_,_=>by cases s;rfl
 |2,0,_,_|2,1,_,_|2,2,_,_|2,3,_,_|2,4,_,_|2,5,_,_|2,6,_,_|2,7,_,_=>by cases s;rfl
 |3,0,_,_|3,1,_,_|3,2,_,_|3,3,_,_|3,4,_,_|3,5,_,_|3,6,_,_|3,7,_,_=>by cases s;rfl
 |4,0,_,_|4,1,_,_|4,2,_,_|4,3,_,_|4,4,_,_|4,5,_,_|4,6,_,_|4,7,_,_=>by cases s;rfl
 |5,0,_,_|5,1,_,_|5,2,_,_|5,3,_,_|5,4,_,_|5,5,_,_|5,6,_,_|5,7,_,_=>by cases s;rfl
 |6,0,_,_|6,1,_,_|6,2,_,_|6,3,_,_|6,4,_,_|6,5,_,_|6,6,_,_|6,7,_,_=>by cases s;rfl
 |7,0,_,_|7,1,_,_|7,2,_,_|7,3,_,_|7,4,_,_|7,5,_,_|7,6,_,_|7,7,_,_=>by cases s;rfl
 |a+8,_,h,_=>by omega
 |_,b+8,_,h=>by omega
abbrev Tm:=O8 (O8 (O8 Value))
structure Acc where
 get:Tm->Value
 set:Tm->Value->Tm
def acc(n:Nat):Acc:=
 G8.casesOn (g8 (O8 (O8 Value)) (n/64)) fun p ps=>G8.casesOn (g8 (O8 Value) (n/8%8)) fun q b=>G8.casesOn (g8 Value (n%8)) fun r e=>
  ⟨fun s=>r (q (p s)),fun s v=>ps s (b (p s) (e (q (p s)) v))⟩
def Tm.get(t:Tm)(n:Nat):Value:=(acc n).get t
def Tm.set(t:Tm)(n:Nat)(v:Value):Tm:=(acc n).set t v
theorem Wc(t:Tm)(n:Nat):(acc n).get t=(g8 Value (n%8)).get ((g8 (O8 Value) (n/8%8)).get ((g8 (O8 (O8 Value)) (n/64)).get t)):=rfl
theorem Tm.nT(t:Tm)(v:Value){a b:Nat}(e:a<512)(hb:b<512):Tm.get (Tm.set t a v) b=if a=b then v else Tm.get t b:=by
 have key:Tm.get (Tm.set t a v) b=(g8 Value (b%8)).get ((g8 (O8 Value) (b/8%8)).get ((g8 (O8 (O8 Value)) (b/64)).get
  ((g8 (O8 (O8 Value)) (a/64)).set t ((g8 (O8 Value) (a/8%8)).set ((g8 (O8 (O8 Value)) (a/64)).get t) ((g8 Value (a%8)).set ((g8 (O8 Value) (a/8%8)).get ((g8 (O8 (O8 Value)) (a/64)).get t)) v))))):=rfl
 rw[key,Dg _ _ (a/64) (b/64) (by omega) (by omega)]
 by_cases h1:a/64=b/64
 · rw[if_pos h1,Dg _ _ (a/8%8) (b/8%8) (by omega) (by omega)]
   by_cases D:a/8%8=b/8%8
   · rw[if_pos D,Dg _ _ (a%8) (b%8) (by omega) (by omega)]
     by_cases h3:a%8=b%8
     · rw[if_pos h3,if_pos (by omega)]
     · rw[if_neg h3,if_neg (by omega)]
       rw[h1,D];rfl
   · rw[if_neg D,if_neg (by omega)]
     rw[h1];rfl
 · rw[if_neg h1,if_neg (by omega)];rfl
def r8{α:Type}(a:α):O8 α:=⟨a,a,a,a,a,a,a,a⟩
def Tm.undef:Tm:=r8 (r8 (r8 Go.undef))
end
end Sw
namespace Sw
noncomputable section
open Go
def nD:Nat->List Oper->Option Oper
 |_,[]=>none
 |0,x::_=>some x
 |n+1,_::xs=>nD n xs
def xY:Nat->List Nat->Nat
 |_,[]=>0
 |0,x::_=>x
 |n+1,_::xs=>xY n xs
def qd:Op->Nat
 |.alloc _|.box ..|.buildSlice ..|.makeSlice ..=>1
 |.move _|.pick ..|.build ..|.load ..|.nilCheck _|.binOp ..|.unOp ..|.makeInterface ..|.makeFunc ..|.slice ..|.fieldAddr ..|.field ..|.indexAddr ..|.index ..|.lookup ..|.entry _|.typeAssert ..|.extract ..=>0
 |.call c=>(match c.callee with
  |.builtin .len|.builtin .cap|.builtin .min|.builtin .max=>0
  |_=>2)
 |_=>2
def has(s i:Nat):Bool:=Nat.testBit s i
def sub(a b:Nat):Bool:=Nat.beq (Nat.land a b) a
def put(s i:Nat):Nat:=Nat.lor s (2^i)
def FH(md:Region.Mode):List Edge->Nat
 |[]=>0
 |e::es=>bif Region.binds md e then put (FH md es) e.on else FH md es
def YQ(md:Region.Mode)(o:Oper):Nat:=FH md o.after.toList
def Eo(bm:List Nat):List Edge->Nat
 |[]=>0
 |e::es=>bif Region.binds .any e then Nat.lor (xY e.on bm) (put (Eo bm es) e.on)else Eo bm es
structure vX where
 ne:List Nat
 qK:List Nat
 kQ:Option Nat
structure TK where
 bm:List Nat
 Xq:List Nat
 r6:List vX
def pK:Op->Bool
 |.convert ..=>true
 |_=>false
def kF(fl:Bool)(op:Op):Nat:=bif fl&&pK op then 0 else qd op
def qv(fl:Bool)(all:List Oper)(i:Nat):Nat:=match nD i all with
 |some o=>kF fl o.op
 |none=>2
def maskAt(md:Region.Mode)(all:List Oper)(i:Nat):Nat:=match nD i all with
 |some o=>YQ md o
 |none=>0
def sh(all:List Oper)(i:Nat):Option Nat:=match nD i all with
 |some o=>o.dst
 |none=>none
def looks(all:List Oper)(o:Oper):List Nat:=
 (match o.guard with
   |some (j,_)=>(match sh all j with|some d=>[d]|none=>[])
   |none=>[])++(o.op.operands.toList.filterMap fun|.tmp t=>some t|_=>none)
def looksAt(all:List Oper)(i:Nat):List Nat:=match nD i all with
 |some o=>looks all o
 |none=>[]
def VF:List Oper->List Nat->List Nat
 |[],b=>b
 |o::os,b=>VF os (b++[Eo b o.after.toList])
def LC(fl:Bool)(all:List Oper):List Nat->Nat->List Nat->List Nat×Nat
 |[],L,acc=>(acc.reverse,L)
 |i::is,L,acc=>bif !(Nat.beq (qv fl all i) 2)&&(!(has L i)&&sub (maskAt .any all i) L)then LC fl all is (put L i) (i::acc)else LC fl all is L acc
def LD(fl:Bool)(all:List Oper):List Nat->Nat->Option Nat
 |[],_=>none
 |i::is,L=>bif Nat.beq (qv fl all i) 2&&(!(has L i)&&sub (maskAt .any all i) L)then some i else LD fl all is L
def LF(fl:Bool)(all:List Oper)(bm:List Nat)(is:List Nat):Nat->Nat->Option Nat->List vX
 |0,_,_=>[]
 |n+1,L,x=>match LC fl all is L []with
  |(ne,b)=>
   let qK:=is.filter fun i=>has b i&&(!(Nat.beq (qv fl all i) 2)&&!(has L i&&(match x with|some x=>has (xY x bm) i|none=>false)))
   match LD fl all is b with
   |some y=>⟨ne,qK,some y⟩::LF fl all bm is n (put b y) (some y)
   |none=>[⟨ne,qK,none⟩]
def LH(all:List Oper):List Nat->Nat->List Nat->List Nat×Nat
 |[],L,acc=>(acc,L)
 |i::is,L,acc=>bif !(has L i)&&sub (maskAt .gc all i) L then LH all is (put L i) (i::acc)else LH all is L acc
def Rh(all:List Oper)(is:List Nat)(len:Nat):Nat->Nat->List Nat->List Nat
 |0,_,acc=>acc.reverse
 |n+1,L,acc=>match LH all is L acc with
  |(b,e)=>bif Nat.beq b.length len then b.reverse else Rh all is len n e b
def xZ(fl:Bool)(all:List Oper):TK:=
 let is:=List.range all.length
 let bm:=VF all []
 ⟨bm,Rh all is all.length all.length 0 [],LF fl all bm is (all.length+1) 0 none⟩
def uP(md:Region.Mode)(all:List Oper):List Nat->Nat->Bool
 |[],L=>(List.range all.length).all fun i=>has L i
 |i::is,L=>Nat.blt i all.length&&(sub (maskAt md all i) L&&uP md all is (put L i))
def Xr(all:List Oper):Bool:=(List.range all.length).all fun i=>match sh all i with
 |some d=>(List.range all.length).all fun k=>Nat.beq i k||(match sh all k with|some d'=>!(Nat.beq d d')|none=>true)
 |none=>true
def Wd(fl:Bool)(all:List Oper)(bm:List Nat):Bool:=(List.range all.length).all fun k=>(looksAt all k).all fun t=>(List.range all.length).all fun i=>match sh all i with
 |some d=>!(Nat.beq d t)||(Nat.beq (qv fl all i) 2||has (xY k bm) i)
 |none=>true
def ZQ(all:List Oper)(bm:List Nat):Bool:=(List.range all.length).all fun i=>match nD i all with
 |some o=>sub (xY i bm) (Eo bm o.after.toList)
 |none=>true
def Xs(all:List Oper):Bool:=(List.range all.length).all fun i=>sub (maskAt .any all i) (2^i-1)
def GG(fl:Bool)(all:List Oper):List Nat->Nat->Option Nat
 |[],L=>some L
 |i::is,L=>bif Nat.blt i all.length&&(!(Nat.beq (qv fl all i) 2)&&!(has L i))then GG fl all is (put L i)else none
def FI(i:Nat):List Nat->Bool
 |[]=>false
 |x::xs=>Nat.beq i x||FI i xs
def vA(fl:Bool)(all:List Oper)(bm:List Nat):List vX->Nat->Option Nat->Bool
 |[],_,_=>false
 |s::rest,L,x=>match GG fl all s.ne L with
  |some b=>(s.qK.all fun i=>!(Nat.beq (qv fl all i) 2))&&(
   ((List.range all.length).all fun i=>(Nat.beq (qv fl all i) 2||!(has b i))||(FI i s.qK||(has L i&&(match x with|some x=>has (xY x bm) i|none=>false))))&&
   (((List.range all.length).all fun i=>has b i||((match s.kQ with|some y=>Nat.beq i y|none=>false)||!(sub (maskAt .any all i) b)))&&
   (match s.kQ with
   |none=>(match rest with|[]=>(List.range all.length).all fun i=>has b i|_=>false)
   |some y=>(Nat.blt y all.length&&(Nat.beq (qv fl all y) 2&&!(has b y)))&&vA fl all bm rest (put b y) (some y))))
  |none=>false
def HH(fl:Bool)(all:List Oper)(pl:TK):Bool:=
 Xr all&&(Wd fl all pl.bm&&(ZQ all pl.bm&&(Xs all&&(uP .text all (List.range all.length) 0&&(uP .gc all pl.Xq 0&&vA fl all pl.bm pl.r6 0 none)))))
def O5:List Oper->Bool
 |[]=>false
 |o::os=>pK o.op||O5 os
def vY(all:List Oper):Bool:=O5 all&&!(HH false all (xZ false all))
def HI(all:List Oper):Bool:=HH (vY all) all (xZ (vY all) all)
end
end Sw
namespace Sw
noncomputable section
open Go Go.RowKit
abbrev Hp:=Nat->Option (jM Tm)
def Hp.set(O:Hp)(n:Nat)(o:Option (jM Tm)):Hp:=fun b=>if b=n then o else O b
theorem Hp.jH(O:Hp)(n:Nat)(o:Option (jM Tm)):O.set n o n=o:=by simp[Hp.set]
theorem Hp.gN(O:Hp){n b:Nat}(o:Option (jM Tm))(h:b≠n):O.set n o b=O b:=by simp[Hp.set,h]
def Gm.add(g:Gm)(n:Nat)(x:Nat×Nat)(room:Option (Nat×Nat)):Gm:=
 ⟨fun b=>if b=n then some x else g.fW b,fun b=>if b=n then room else g.room b⟩
theorem Gm.qS{g:Gm}{n:Nat}(h:g.fW n=none)(x:Nat×Nat)(room:Option (Nat×Nat)):g.le (g.add n x room):=by
 refine⟨fun b y e=>?_,fun b y e=>?_⟩
 · show(if b=n then some x else g.fW b)=some y
   have:b≠n:=fun k=>by subst k;rw[h]at e;cases e
   simp[this,e]
 · show(if b=n then room else g.room b)=g.room b
   have:b≠n:=fun k=>by subst k;rw[h]at e;cases e
   simp[this]
theorem Gm.lS(g:Gm)(n:Nat)(x:Nat×Nat)(room:Option (Nat×Nat)):(g.add n x room).fW n=some x:=by simp[Gm.add]
theorem Gm.sG(g:Gm)(n:Nat)(x:Nat×Nat)(room:Option (Nat×Nat)):(g.add n x room).room n=room:=by simp[Gm.add]
theorem Gm.jY(g:Gm){n b:Nat}(x:Nat×Nat)(room:Option (Nat×Nat))(h:b≠n):(g.add n x room).fW b=g.fW b:=by simp[Gm.add,h]
def kP(g:Gm)(x x':List MapEntry):Prop:=
 x.length=x'.length/\∀(i:Nat) (e b:MapEntry),x[i]?=some e->x'[i]?=some b->fK g e.key b.key/\fK g e.val b.val/\e.born=b.born
theorem kP.mono{g g':Gm}(h:g.le g'){x x':List MapEntry}(r:kP g x x'):kP g' x x':=
 ⟨r.1,fun i e j a b=>by obtain⟨p,q,s⟩:=r.2 i e j a b;exact⟨p.mono h,q.mono h,s⟩⟩
def rS(g:Gm)(nt:Nat)(t:Tm)(b:Array Value):Prop:=b.size=nt/\∀i,i<nt->fK g (t.get i) (b.getD i Go.undef)
theorem rS.mono{g g':Gm}(h:g.le g'){nt:Nat}{t:Tm}{b:Array Value}(r:rS g nt t b):rS g' nt t b:=
 ⟨r.1,fun i hi=>(r.2 i hi).mono h⟩
inductive B6(g:Gm):Deferred->Deferred->Prop where
 |GH {r rr:Nat} (h:g.fW r=some (rr,0)):B6 g ⟨.collected r,#[]⟩ ⟨.collected rr,#[]⟩
 |fn {f:FuncId} {y y' x x':Array Value} (hy:sf g y y') (hx:sf g x x'):B6 g ⟨.fn (.func f) y,x⟩ ⟨.fn (.func f) y',x'⟩
theorem B6.mono{g g':Gm}(h:g.le g'){d d':Deferred}(r:B6 g d d'):B6 g' d d':=by
 cases r with
 |GH e=>exact .GH (h.1 _ _ e)
 |fn hy hx=>exact .fn (hy.mono h) (hx.mono h)
def ny(g:Gm)(x x':List Deferred):Prop:=x.length=x'.length/\∀(i:Nat) (d d':Deferred),x[i]?=some d->x'[i]?=some d'->B6 g d d'
theorem ny.mono{g g':Gm}(h:g.le g'){x x':List Deferred}(r:ny g x x'):ny g' x x':=⟨r.1,fun i d d' a b=>(r.2 i d d' a b).mono h⟩
def zu:Nat->Value->Bool
 |_,.bool _=>true
 |_,.int _ _=>true
 |_,.string _=>true
 |_,.pointer none=>true
 |_,.slice none 0 0=>true
 |_,.map none=>true
 |_,.nilFunc=>true
 |_,.nilIface=>true
 |_,.func (.func _) ⟨[]⟩ ⟨[]⟩=>true
 |n+1,.agg x=>x.toList.all (zu n)
 |n+1,.tuple x=>x.toList.all (zu n)
 |n+1,.iface _ v=>zu n v
 |_,_=>false
def Ep(ng nt:Nat):Operand->Bool
 |.tmp i=>Nat.blt i nt
 |.const v=>zu 4 v
 |.global i=>Nat.blt i ng
 |.func _=>true
def VG(nt:Nat):Option Tmp->Bool
 |some i=>Nat.blt i nt
 |none=>true
def wU(ng nt:Nat)(o:Oper):Bool:=o.op.operands.toList.all (Ep ng nt)&&VG nt o.dst
def codeOk(ng nt:Nat):Code->Bool
 |.seq a b=>codeOk ng nt a&&codeOk ng nt b
 |.cond x a b=>Ep ng nt x&&(codeOk ng nt a&&codeOk ng nt b)
 |.block _ b=>codeOk ng nt b
 |.loop b=>codeOk ng nt b
 |.scope b=>codeOk ng nt b
 |.region _ ops draw=>ops.toList.all (wU ng nt)&&(!draw||HI ops.toList)
 |.rangeFunc f ps a b=>Ep ng nt f&&(ps.toList.all (Nat.blt · nt)&&(codeOk ng nt a&&codeOk ng nt b))
 |_=>true
def k_(g:Gm)(ng:Nat):Prop:=∀i,i<ng->g.fW i=some (i,0)
theorem k_.mono{g g':Gm}(h:g.le g'){ng:Nat}(k:k_ g ng):k_ g' ng:=fun i hi=>h.1 _ _ (k i hi)
def r7(g:Gm)(nt:Nat)(c:Code):Prop:=∃ng,k_ g ng/\codeOk ng nt c=true
theorem r7.mono{g g':Gm}(h:g.le g'){nt:Nat}{c:Code}(k:r7 g nt c):r7 g' nt c:=by
 obtain⟨ng,a,b⟩:=k;exact⟨ng,a.mono h,b⟩
def s9(g:Gm)(l:sU Tm)(b:Loop):Prop:=
 l.state=b.state/\l.pending=b.pending/\l.fn=b.fn/\rS g l.nt l.tmps b.tmps/\l.params=b.params.toList/\l.assign=b.assign/\l.body=b.body/\
  g.fW l.defers=some (b.defers,0)/\(l.nt<=512/\r7 g l.nt l.assign/\r7 g l.nt l.body/\l.params.all (Nat.blt · l.nt)=true)
theorem s9.mono{g g':Gm}(h:g.le g'){l:sU Tm}{m:Loop}(r:s9 g l m):s9 g' l m:=by
 obtain⟨a,b,c,d,e,f,i,j,o,p,q3,u⟩:=r
 exact⟨a,b,c,d.mono h,e,f,i,h.1 _ _ j,o,p.mono h,q3.mono h,u⟩
def GJ(size:Nat)(b:Nat×Nat):Prop:=b.1=b.2\/size<=b.1
theorem GJ.free{size:Nat}{b:Nat×Nat}(h:GJ size b):∀i,i<size->¬(b.1<=i/\i<b.2):=fun i hi=>by
 rcases h with h|h<;>omega
def o7(B0:Nat)(g:Gm)(b:Nat)(o:jM Tm)(rb ro:Nat)(jo:Obj):Prop:=
 match o,jo with
 |.cells Z m,.cells e _ B=>ro+Z.length<=e.size/\(∀(i:Nat) (v v':Value),Z[i]?=some v->e[ro+i]?=some v'->fK g v v')/\
   (m.ro=false->B0<=rb/\GJ e.size B)/\(∀gr,m.mG=some gr->g.room b=some (e.size,m.unit))/\(m.mG=none->g.room b=none)
 |.map es c,.map y A=>ro=0/\B0<=rb/\c=A/\kP g es y.toList
 |.mapIter m s seen st,.mapIter E u j z=>ro=0/\B0<=rb/\s=u/\seen=j.toList/\st=z/\
   (match m,E with|none,none=>True|some a,some a'=>g.fW a=some (a',0)|_,_=>False)
 |.FF s p,.stringIter u F=>ro=0/\B0<=rb/\s=u/\p=F
 |.loop l,.loop C=>ro=0/\B0<=rb/\s9 g l C
 |.deferred none,.deferred none=>ro=0/\B0<=rb
 |.deferred (some d),.deferred (some d')=>ro=0/\B0<=rb/\ny g d d'
 |_,_=>False
theorem o7.mono{B0:Nat}{g g':Gm}(h:g.le g'){b:Nat}{x:Nat×Nat}(hb:g.fW b=some x){o:jM Tm}{rb ro:Nat}{jo:Obj}(r:o7 B0 g b o rb ro jo):o7 B0 g' b o rb ro jo:=by
 cases o with
 |cells Z m=>
  cases jo<;>first|exact r.elim|skip
  obtain⟨a,k,c,d,f⟩:=r
  exact⟨a,fun i v v' e j=>(k i v v' e j).mono h,c,fun gr e=>(h.2 _ _ hb).trans (d gr e),fun e=>(h.2 _ _ hb).trans (f e)⟩
 |map es c=>
  cases jo<;>first|exact r.elim|skip
  obtain⟨a,k,c,d⟩:=r
  exact⟨a,k,c,d.mono h⟩
 |mapIter m s seen st=>
  cases jo<;>first|exact r.elim|skip
  rename_i u _ _ _
  obtain⟨a,k,c,d,e,f⟩:=r
  refine⟨a,k,c,d,e,?_⟩
  cases m<;>cases u<;>first|exact f.elim|trivial|exact h.1 _ _ f
 |FF s p=>
  cases jo<;>first|exact r.elim|exact r
 |loop l=>
  cases jo<;>first|exact r.elim|skip
  obtain⟨a,k,c⟩:=r
  exact⟨a,k,c.mono h⟩
 |deferred d=>
  cases jo with
  |deferred d'=>
   cases d<;>cases d'<;>first|exact r.elim|exact r|skip
   obtain⟨a,k,c⟩:=r
   exact⟨a,k,c.mono h⟩
  |_=>cases d<;>exact r.elim
 |group ms=>
  cases jo<;>exact r.elim
def jM.AL{E:Type}:jM E->Bool
 |.group _=>true
 |_=>false
def Sep(o1:jM Tm)(r1:Nat)(o2:jM Tm)(r2:Nat):Prop:=
 match o1,o2 with
 |.cells _ m1,.cells _ m2=>(m1.ro=true/\m2.ro=true)\/(∃gr,m1.mG=some gr/\m2.mG=some gr/\r1+m2.base=r2+m1.base)
 |_,_=>False
theorem Sep.symm{o1 o2:jM Tm}{r1 r2:Nat}(h:Sep o1 r1 o2 r2):Sep o2 r2 o1 r1:=by
 unfold Sep at*
 split at h
 · rcases h with⟨a,b⟩|⟨gr,a,b,c⟩
   · exact .inl ⟨b,a⟩
   · exact .inr ⟨gr,b,a,c.symm⟩
 · exact h.elim
structure pL(B:Nat)(w w':World):Prop where
 b:Below B w w'
 drawn:w.drawn<=w'.drawn
theorem pL.refl(B:Nat)(w:World):pL B w w:=⟨Below.refl _ _,e9 _⟩
theorem pL.trans{B:Nat}{x y z:World}(h:pL B x y)(k:pL B y z):pL B x z:=⟨h.b.trans k.b,e8 h.drawn k.drawn⟩
theorem pL.mono{B C:Nat}{w w':World}(h:pL B w w')(k:C<=B):pL C w w':=⟨h.b.mono k,h.drawn⟩
structure gm(B0:Nat)(w0:World)(g:Gm)(O:Hp)(G:Nat)(w:World):Prop where
 below:pL B0 w0 w
 base:B0<=w.heap.size
 rH:∀b rb ro,g.fW b=some (rb,ro)->b<G/\rb<w.heap.size
 live:∀b o,O b=some o->b<G/\∀rb ro,g.fW b=some (rb,ro)->∃jo,w.heap[rb]?=some jo/\o7 B0 g b o rb ro jo
 ph:∀b ms,O b=some (.group ms)->g.fW b=none
 mem:∀b Z m gr,O b=some (.cells Z m)->m.mG=some gr->∃ms,O gr=some (.group ms)/\(⟨b,m.base,Z.length⟩:Mem)∈ms
 sep:∀b1 b2 o1 o2 rb r1 r2,b1≠b2->O b1=some o1->O b2=some o2->g.fW b1=some (rb,r1)->g.fW b2=some (rb,r2)->Sep o1 r1 o2 r2
 room:∀b x,g.room b=some x->g.fW b≠none
structure tj(w w':World)(r:Nat)(o:Obj):Prop where
 os:w'.os=w.os
 tape:w'.tape=w.tape
 output:w'.output=w.output
 size:w.heap.size<=w'.heap.size
 at_:w'.heap[r]?=some o
 other:∀k,k≠r->w'.heap[k]?=w.heap[k]?
 drawn:w.drawn<=w'.drawn
theorem tj.alloc(w:World)(o:Obj):tj w (w.alloc o) w.heap.size o:=
 ⟨rfl,rfl,rfl,by simp,World.alloc_heap_new w o,fun k hk=>by
   show(w.heap.push o)[k]?=_
   rw[Array.getElem?_push,if_neg hk],e9 _⟩
theorem tj.putObj{w:World}{r:Nat}(h:r<w.heap.size)(o:Obj):tj w (w.putObj r o) r o:=
 ⟨rfl,rfl,rfl,by simp,World.putObj_heap_same h,fun _ hk=>World.putObj_heap_other hk,e9 _⟩
theorem sq{α:Type}{a:Array α}{i:Nat}{v:α}(h:a[i]?=some v):i<a.size:=(fU.1 h).1
theorem gm.alloc{B0:Nat}{w0:World}{g:Gm}{O:Hp}{G:Nat}{w:World}(H:gm B0 w0 g O G w){n e5:Nat}(hg:g.fW n=none)(hr:g.room n=none)(hn:O n=none)
 (h1:G<=e5) (D:n<e5) (o:jM Tm) (jo:Obj) (room:Option (Nat×Nat)) (C:o.AL=false)
 (B:o7 B0 (g.add n (w.heap.size,0) room) n o w.heap.size 0 jo)
 (A:∀Z m gr,o=.cells Z m->m.mG=some gr->∃ms,O gr=some (.group ms)/\(⟨n,m.base,Z.length⟩:Mem)∈ms):
 gm B0 w0 (g.add n (w.heap.size,0) room) (O.set n (some o)) e5 (w.alloc jo):=by
 have hle:=Gm.qS hg (w.heap.size,0) room
 have E:=tj.alloc w jo
 refine⟨?_,?_,?_,?_,?_,?_,?_,?_⟩
 · exact⟨H.below.b.alloc H.base jo,H.below.drawn⟩
 · simp;have:=H.base;omega
 · intro b rb ro e
   by_cases hb:b=n
   · subst hb
     rw[Gm.lS]at e
     cases e
     exact⟨D,by simp⟩
   · rw[Gm.jY _ _ _ hb]at e
     obtain⟨p,q⟩:=H.rH b rb ro e
     exact⟨by omega,by simp;omega⟩
 · intro b o' e
   by_cases hb:b=n
   · subst hb
     rw[Hp.jH]at e
     cases e
     refine⟨D,fun rb ro k=>?_⟩
     rw[Gm.lS]at k;cases k
     exact⟨_,E.at_,B⟩
   · rw[Hp.gN _ _ hb]at e
     obtain⟨p,q⟩:=H.live b o' e
     refine⟨by omega,fun rb ro k=>?_⟩
     rw[Gm.jY _ _ _ hb]at k
     obtain⟨ob,a2,a3⟩:=q rb ro k
     exact⟨ob,(E.other rb (by have:=sq a2;omega)).trans a2,a3.mono hle k⟩
 · intro b ms e
   by_cases hb:b=n
   · subst hb
     rw[Hp.jH]at e
     cases e
     simp[jM.AL]at C
   · rw[Hp.gN _ _ hb]at e
     rw[Gm.jY _ _ _ hb]
     exact H.ph b ms e
 · intro b Z m gr e k
   by_cases hb:b=n
   · subst hb
     rw[Hp.jH]at e
     cases e
     obtain⟨ms,a1,a2⟩:=A Z m gr rfl k
     refine⟨ms,?_,a2⟩
     rw[Hp.gN _ _ (by rintro rfl;rw[hn]at a1;cases a1)]
     exact a1
   · rw[Hp.gN _ _ hb]at e
     obtain⟨ms,a1,a2⟩:=H.mem b Z m gr e k
     refine⟨ms,?_,a2⟩
     rw[Hp.gN _ _ (by rintro rfl;rw[hn]at a1;cases a1)]
     exact a1
 · intro b1 b2 o1 o2 rb r1 r2 jB e1 e2 j u
   by_cases y:b1=n
   · subst y
     rw[Gm.lS]at j
     cases j
     rw[Gm.jY _ _ _ (Ne.symm jB)]at u
     have:=(H.rH _ _ _ u).2
     omega
   · by_cases z:b2=n
     · subst z
       rw[Gm.lS]at u
       cases u
       rw[Gm.jY _ _ _ jB]at j
       have:=(H.rH _ _ _ j).2
       omega
     · rw[Hp.gN _ _ y]at e1
       rw[Hp.gN _ _ z]at e2
       rw[Gm.jY _ _ _ y]at j
       rw[Gm.jY _ _ _ z]at u
       exact H.sep b1 b2 o1 o2 rb r1 r2 jB e1 e2 j u
 · intro b x e
   by_cases hb:b=n
   · subst hb;rw[Gm.lS];simp
   · rw[Gm.jY _ _ _ hb]
     exact H.room b x (by simpa[Gm.add,hb]using e)
theorem gm.kill{B0:Nat}{w0:World}{g:Gm}{O:Hp}{G:Nat}{w:World}(H:gm B0 w0 g O G w)(n:Nat)(hc:∀ms,O n≠some (.group ms)):
 gm B0 w0 g (O.set n none) G w:=by
 have h0:∀b o,O.set n none b=some o->O b=some o/\b≠n:=fun b o e=>by
  by_cases hb:b=n
  · subst hb;rw[Hp.jH]at e;cases e
  · rw[Hp.gN _ _ hb]at e;exact⟨e,hb⟩
 refine⟨H.below,H.base,H.rH,fun b o e=>H.live b o (h0 b o e).1,fun b ms e=>H.ph b ms (h0 _ _ e).1,?_,?_,H.room⟩
 · intro b Z m gr e k
   obtain⟨ms,a1,a2⟩:=H.mem b Z m gr (h0 _ _ e).1 k
   refine⟨ms,?_,a2⟩
   rw[Hp.gN _ _ (by rintro rfl;exact hc _ a1)]
   exact a1
 · intro b1 b2 o1 o2 rb r1 r2 jB e1 e2 j p
   exact H.sep b1 b2 o1 o2 rb r1 r2 jB (h0 _ _ e1).1 (h0 _ _ e2).1 j p
theorem gm.LI{B0:Nat}{w0:World}{g:Gm}{O:Hp}{G:Nat}{w:World}(H:gm B0 w0 g O G w){n e5:Nat}(ms:List Mem)(h1:G<=e5)(D:n<e5)(hg:g.fW n=none)
 (hm:∀b Z m,O b=some (.cells Z m)->m.mG=some n->(⟨b,m.base,Z.length⟩:Mem)∈ms):
 gm B0 w0 g (O.set n (some (.group ms))) e5 w:=by
 refine⟨H.below,H.base,fun b rb ro e=>⟨by have:=(H.rH b rb ro e).1;omega,(H.rH b rb ro e).2⟩,?_,?_,?_,?_,H.room⟩
 · intro b o e
   by_cases hb:b=n
   · subst hb;exact⟨D,fun rb ro k=>by rw[hg]at k;cases k⟩
   · rw[Hp.gN _ _ hb]at e
     obtain⟨p,q⟩:=H.live b o e
     exact⟨by omega,q⟩
 · intro b B e
   by_cases hb:b=n
   · subst hb;exact hg
   · rw[Hp.gN _ _ hb]at e;exact H.ph b B e
 · intro b Z m gr e k
   by_cases hb:b=n
   · subst hb;rw[Hp.jH]at e;cases e
   · rw[Hp.gN _ _ hb]at e
     by_cases j:gr=n
     · subst j;exact⟨ms,Hp.jH _ _ _,hm b Z m e k⟩
     · rw[Hp.gN _ _ j];exact H.mem b Z m gr e k
 · intro b1 b2 o1 o2 rb r1 r2 jB e1 e2 u y
   have z:b1≠n:=fun k=>by subst k;rw[hg]at u;cases u
   have A:b2≠n:=fun k=>by subst k;rw[hg]at y;cases y
   rw[Hp.gN _ _ z]at e1
   rw[Hp.gN _ _ A]at e2
   exact H.sep b1 b2 o1 o2 rb r1 r2 jB e1 e2 u y
theorem gm.setObj{B0:Nat}{w0:World}{g:Gm}{O:Hp}{G:Nat}{w:World}(H:gm B0 w0 g O G w){n rb:Nat}{o o':jM Tm}(hn:O n=some o)(hb:g.fW n=some (rb,0))
 (hc:∀Z m,o≠.cells Z m) (F:∀Z m,o'≠.cells Z m) (J:o'.AL=false) (jo:Obj) (hr:B0<=rb) (E:o7 B0 g n o' rb 0 jo):
 gm B0 w0 g (O.set n (some o')) G (w.putObj rb jo):=by
 have jA:rb<w.heap.size:=(H.rH _ _ _ hb).2
 have L:=tj.putObj jA jo
 have u:∀b o1 r1,b≠n->O b=some o1->g.fW b=some (rb,r1)->False:=fun b o1 r1 jB e k=>by
  have:=H.sep b n o1 o rb r1 0 jB e hn k hb
  unfold Sep at this
  split at this
  · rename_i Z m _ _;exact hc _ _ rfl
  · exact this
 refine⟨?_,?_,?_,?_,?_,?_,?_,H.room⟩
 · refine H.below.trans ⟨⟨rfl,rfl,rfl,by simp,fun k hk=>L.other k (by omega)⟩,e9 _⟩
 · simp;exact H.base
 · intro b r1 r2 e;simp;exact H.rH b r1 r2 e
 · intro b ob e
   by_cases j:b=n
   · subst j
     rw[Hp.jH]at e
     cases e
     refine⟨(H.live _ _ hn).1,fun r1 r2 k=>?_⟩
     rw[hb]at k;cases k
     exact⟨_,L.at_,E⟩
   · rw[Hp.gN _ _ j]at e
     obtain⟨p,q⟩:=H.live b ob e
     refine⟨p,fun r1 r2 a1=>?_⟩
     obtain⟨K,a2,a3⟩:=q r1 r2 a1
     by_cases C:r1=rb
     · subst C;exact(u b ob r2 j e a1).elim
     · exact⟨K,(L.other r1 C).trans a2,a3⟩
 · intro b ms e
   by_cases j:b=n
   · subst j;rw[Hp.jH]at e;cases e;simp[jM.AL]at J
   · rw[Hp.gN _ _ j]at e;exact H.ph b ms e
 · intro b Z m gr e k
   by_cases j:b=n
   · subst j;rw[Hp.jH]at e;cases e;exact(F _ _ rfl).elim
   · rw[Hp.gN _ _ j]at e
     obtain⟨ms,a1,a2⟩:=H.mem b Z m gr e k
     refine⟨ms,?_,a2⟩
     rw[Hp.gN _ _ ?_]
     · exact a1
     · rintro rfl
       have:=H.ph _ _ a1
       rw[hb]at this;cases this
 · intro b1 b2 o1 o2 r r1 r2 jB e1 e2 y z
   by_cases A:b1=n
   · subst A
     rw[hb]at y;cases y
     rw[Hp.gN _ _ (Ne.symm jB)]at e2
     exact(u b2 o2 r2 (Ne.symm jB) e2 z).elim
   · by_cases B:b2=n
     · subst B
       rw[hb]at z;cases z
       rw[Hp.gN _ _ jB]at e1
       exact(u b1 o1 r1 jB e1 y).elim
     · rw[Hp.gN _ _ A]at e1
       rw[Hp.gN _ _ B]at e2
       exact H.sep b1 b2 o1 o2 r r1 r2 jB e1 e2 y z
theorem tj.trans{w w1 b:World}{r:Nat}{o1 o2:Obj}(h:tj w w1 r o1)(k:tj w1 b r o2):tj w b r o2:=
 ⟨k.os.trans h.os,k.tape.trans h.tape,k.output.trans h.output,e8 h.size k.size,k.at_,fun i hi=>(k.other i hi).trans (h.other i hi),e8 h.drawn k.drawn⟩
theorem gm.putCells{B0:Nat}{w0:World}{g:Gm}{O:Hp}{G:Nat}{w w':World}(H:gm B0 w0 g O G w){n rb ro:Nat}{Z lA:List Value}{m:gi}(hn:O n=some (.cells Z m))
 (hb:g.fW n=some (rb,ro)) (X:m.ro=false) {K C:Array Value} {el:TypeId} {M:Nat×Nat} (hw:w.heap[rb]?=some (.cells K el M)) (E:tj w w' rb (.cells C el M))
 (B:C.size=K.size) (hlen:lA.length=Z.length) (R:∀(i:Nat) (v v':Value),lA[i]?=some v->C[ro+i]?=some v'->fK g v v') (lo hi:Nat)
 (J:∀j,¬(lo<=j/\j<hi)->C[j]?=K[j]?)
 (N:∀b z m1 r1,b≠n->O b=some (.cells z m1)->g.fW b=some (rb,r1)->r1+z.length<=lo\/hi<=r1):
 gm B0 w0 g (O.set n (some (.cells lA m))) G w':=by
 have F:B0<=rb/\o7 B0 g n (.cells Z m) rb ro (.cells K el M):=by
  obtain⟨jo,a2,a3⟩:=(H.live n _ hn).2 _ _ hb
  rw[hw]at a2;cases a2
  exact⟨(a3.2.2.1 X).1,a3⟩
 refine⟨?_,?_,?_,?_,?_,?_,?_,H.room⟩
 · exact H.below.trans ⟨⟨E.os,E.tape,E.output,E.size,fun k hk=>E.other k (by omega)⟩,E.drawn⟩
 · have:=H.base;have:=E.size;omega
 · intro b r1 r2 e
   obtain⟨p,q⟩:=H.rH b r1 r2 e
   exact⟨p,by have:=E.size;omega⟩
 · intro b ob e
   by_cases u:b=n
   · subst u
     rw[Hp.jH]at e
     cases e
     refine⟨(H.live _ _ hn).1,fun r1 r2 k=>?_⟩
     rw[hb]at k;cases k
     refine⟨_,E.at_,?_,R,?_,?_,F.2.2.2.2.2⟩
     · have:=F.2.1;omega
     · rw[B];exact F.2.2.2.1
     · rw[B];exact F.2.2.2.2.1
   · rw[Hp.gN _ _ u]at e
     obtain⟨p,q⟩:=H.live b ob e
     refine⟨p,fun r1 r2 a1=>?_⟩
     obtain⟨ab,a2,a3⟩:=q r1 r2 a1
     by_cases L:r1=rb
     · subst L
       rw[hw]at a2;cases a2
       refine⟨_,E.at_,?_⟩
       cases ob<;>first|exact a3.elim|skip
       · rename_i z m1
         have aj:=N b z m1 r2 u e a1
         obtain⟨aa,S,ac,ad,ae⟩:=a3
         refine⟨by omega,fun i v v' e1 e2=>?_,by rw[B];exact ac,by rw[B];exact ad,ae⟩
         have ai:i<z.length:=(fe.1 e1).1
         rw[J _ (by omega)]at e2
         exact S i v v' e1 e2
       · rename_i d;cases d<;>exact a3.elim
     · exact⟨ab,(E.other r1 L).trans a2,a3⟩
 · intro b ms e
   by_cases u:b=n
   · subst u;rw[Hp.jH]at e;cases e
   · rw[Hp.gN _ _ u]at e;exact H.ph b ms e
 · intro b z m1 gr e k
   have hg:∀ms,O gr=some (.group ms)->gr≠n:=fun ms a1 h=>by
    subst h
    have:=H.ph _ _ a1
    rw[hb]at this;cases this
   by_cases u:b=n
   · subst u;rw[Hp.jH]at e;cases e
     obtain⟨ms,a1,a2⟩:=H.mem b Z m gr hn k
     exact⟨ms,by rw[Hp.gN _ _ (hg ms a1)];exact a1,by rw[hlen];exact a2⟩
   · rw[Hp.gN _ _ u]at e
     obtain⟨ms,a1,a2⟩:=H.mem b z m1 gr e k
     exact⟨ms,by rw[Hp.gN _ _ (hg ms a1)];exact a1,a2⟩
 · intro b1 b2 o1 o2 r r1 r2 jB e1 e2 aa S
   have key:∀b o,O.set n (some (.cells lA m)) b=some o->∃W,O b=some W/\(∀A x y,Sep W x A y->Sep o x A y)/\(∀A x y,Sep A x W y->Sep A x o y):=by
    intro b o e
    by_cases u:b=n
    · subst u;rw[Hp.jH]at e;cases e
      refine⟨_,hn,fun A x y h=>?_,fun A x y h=>?_⟩<;>cases A<;>exact h
    · rw[Hp.gN _ _ u]at e
      exact⟨o,e,fun _ _ _ h=>h,fun _ _ _ h=>h⟩
   obtain⟨p1,ag,s1,_⟩:=key b1 o1 e1
   obtain⟨af,ah,_,s2⟩:=key b2 o2 e2
   exact s1 _ _ _ (s2 _ _ _ (H.sep b1 b2 p1 af r r1 r2 jB ag ah aa S))
theorem gm.Xt{B0:Nat}{w0:World}{g:Gm}{O:Hp}{G:Nat}{w w':World}(H:gm B0 w0 g O G w){rb pos gr base unit:Nat}
 {A E:Array Value} {el:TypeId} {S:Nat×Nat} (hw:w.heap[rb]?=some (.cells A el S)) (F:tj w w' rb (.cells E el S)) (ac:B0<=rb) (aa:GJ A.size S)
 (C:E.size=A.size) {n e5 lo:Nat} (hg:g.fW n=none) (hn:O n=none) (h1:G<=e5) (D:n<e5) (new:List Value)
 (ad:pos+new.length<=A.size) (X:∀(i:Nat) (v v':Value),new[i]?=some v->E[pos+i]?=some v'->fK g v v')
 (M:∀j,j<lo->E[j]?=A[j]?)
 (L:∀b o r1,O b=some o->g.fW b=some (rb,r1)->∃u m1,o=.cells u m1/\m1.mG=some gr/\r1+base=pos+m1.base/\r1+u.length<=lo)
 (W:∃ms,O gr=some (.group ms)/\(⟨n,base,new.length⟩:Mem)∈ms):
 gm B0 w0 (g.add n (rb,pos) (some (A.size,unit))) (O.set n (some (.cells new ⟨false,some gr,base,unit⟩))) e5 w':=by
 have hle:=Gm.qS hg (rb,pos) (some (A.size,unit))
 refine⟨?_,?_,?_,?_,?_,?_,?_,?_⟩
 · exact H.below.trans ⟨⟨F.os,F.tape,F.output,F.size,fun k hk=>F.other k (by omega)⟩,F.drawn⟩
 · have:=H.base;have:=F.size;omega
 · intro b r1 r2 e
   by_cases m:b=n
   · subst m;rw[Gm.lS]at e;cases e
     exact⟨D,by have:=sq hw;have:=F.size;omega⟩
   · rw[Gm.jY _ _ _ m]at e
     obtain⟨p,q⟩:=H.rH b r1 r2 e
     exact⟨by omega,by have:=F.size;omega⟩
 · intro b ob e
   by_cases m:b=n
   · subst m
     rw[Hp.jH]at e
     cases e
     refine⟨D,fun r1 r2 k=>?_⟩
     rw[Gm.lS]at k;cases k
     refine⟨_,F.at_,⟨by omega,fun i v v' e1 e2=>(X i v v' e1 e2).mono hle,fun _=>⟨ac,by rw[C];exact aa⟩,fun B _=>by rw[C];exact Gm.sG _ _ _ _,fun e=>by cases e⟩⟩
   · rw[Hp.gN _ _ m]at e
     obtain⟨p,q⟩:=H.live b ob e
     refine⟨by omega,fun r1 r2 a1=>?_⟩
     rw[Gm.jY _ _ _ m]at a1
     obtain⟨ab,a2,a3⟩:=q r1 r2 a1
     by_cases R:r1=rb
     · subst R
       rw[hw]at a2;cases a2
       refine⟨_,F.at_,?_⟩
       obtain⟨u,m1,rfl,_,_,aj⟩:=L b ob r2 e a1
       obtain⟨z,y,ae,af,ag⟩:=a3
       refine⟨by omega,fun i v v' e1 e2=>?_,by rw[C];exact ae,fun x hx=>by rw[C];exact(hle.2 _ _ a1).trans (af x hx),fun e=>(hle.2 _ _ a1).trans (ag e)⟩
       have ai:i<u.length:=(fe.1 e1).1
       rw[M _ (by omega)]at e2
       exact(y i v v' e1 e2).mono hle
     · exact⟨ab,(F.other r1 R).trans a2,a3.mono hle a1⟩
 · intro b ms e
   by_cases m:b=n
   · subst m;rw[Hp.jH]at e;cases e
   · rw[Hp.gN _ _ m]at e
     rw[Gm.jY _ _ _ m]
     exact H.ph b ms e
 · intro b u m1 B e k
   have N:∀ms,O B=some (.group ms)->B≠n:=fun ms a1 h=>by subst h;rw[hn]at a1;cases a1
   by_cases m:b=n
   · subst m;rw[Hp.jH]at e;cases e
     cases k
     obtain⟨ms,a1,a2⟩:=W
     exact⟨ms,by rw[Hp.gN _ _ (N ms a1)];exact a1,a2⟩
   · rw[Hp.gN _ _ m]at e
     obtain⟨ms,a1,a2⟩:=H.mem b u m1 B e k
     exact⟨ms,by rw[Hp.gN _ _ (N ms a1)];exact a1,a2⟩
 · have key:∀b o r2,O b=some o->g.fW b=some (rb,r2)->Sep (.cells new ⟨false,some gr,base,unit⟩:jM Tm) pos o r2:=by
    intro b o r2 e k
    obtain⟨u,m1,rfl,ah,ak,_⟩:=L b o r2 e k
    refine .inr ⟨gr,rfl,ah,?_⟩
    show pos+m1.base=r2+base
    omega
   intro b1 b2 o1 o2 r r1 r2 jB e1 e2 z y
   by_cases J:b1=n
   · subst J
     rw[Hp.jH]at e1;cases e1
     rw[Gm.lS]at z;cases z
     rw[Hp.gN _ _ (Ne.symm jB)]at e2
     rw[Gm.jY _ _ _ (Ne.symm jB)]at y
     exact key b2 o2 r2 e2 y
   · by_cases K:b2=n
     · subst K
       rw[Hp.jH]at e2;cases e2
       rw[Gm.lS]at y;cases y
       rw[Hp.gN _ _ jB]at e1
       rw[Gm.jY _ _ _ jB]at z
       exact(key b1 o1 r1 e1 z).symm
     · rw[Hp.gN _ _ J]at e1
       rw[Hp.gN _ _ K]at e2
       rw[Gm.jY _ _ _ J]at z
       rw[Gm.jY _ _ _ K]at y
       exact H.sep b1 b2 o1 o2 r r1 r2 jB e1 e2 z y
 · intro b x e
   by_cases m:b=n
   · subst m;rw[Gm.lS];simp
   · rw[Gm.jY _ _ _ m]
     exact H.room b x (by simpa[Gm.add,m]using e)
end
end Sw
namespace Sw
noncomputable section
open Go Go.RowKit
theorem fk{α β:Type}{P:Program}{m:Sem α}{f:α->Sem β}{w w1:World}{a:α}(h:m.run P w=.ok a w1):(m >>= f).run P w=(f a).run P w1:=by
 simp[go_sem,h]
theorem VH{α:Type}{P:Program}(a:α)(w:World):(pure a:Sem α).run P w=.ok a w:=rfl
structure Ty where
 kd:TypeId->Option TypeInfo
 GK:TypeId->Bool
def FJ:Value->Bool
 |.bool _|.int _ _|.string _|.pointer none|.slice none 0 0|.map none|.nilFunc|.nilIface=>true
 |.func (.func _) x y=>x.isEmpty&&y.isEmpty
 |_=>false
def flat:Value->Bool
 |.agg Z=>Z.toList.all FJ
 |v=>FJ v
theorem fK.LJ(g:Gm){v:Value}(h:FJ v=true):fK g v v:=by
 unfold FJ at h
 split at h<;>first|exact .bool _|exact .int _ _|exact .string _|exact .nilPtr|exact .qb|exact .vz|exact .nilFunc|exact .nilIface|skip
 · simp at h
   obtain⟨h1,D⟩:=h
   subst h1;subst D
   exact .func rfl rfl (fun i v v' e=>by simp at e) (fun i v v' e=>by simp at e)
 · cases h
theorem fK.of_flat(g:Gm){v:Value}(h:flat v=true):fK g v v:=by
 unfold flat at h
 split at h
 · rename_i Z
   refine .agg rfl (fun i v v' e b=>?_)
   have:v=v':=by rw[e]at b;exact fS b
   subst this
   refine fK.LJ g ?_
   rw[List.all_eq_true]at h
   exact h v (List.mem_iff_getElem?.2 ⟨i,by simpa using e⟩)
 · exact fK.LJ g h
structure Ty.Ok(T:Ty)(P:Program):Prop where
 kd:∀t i,T.kd t=some i->P.info? t=some i
 zero:∀t i z,T.kd t=some i->i.zero=some z->flat z=true
 VI:∀t i z,T.kd t=some i->i.zero=some z->z.cells.size=i.size
 eq:∀t,T.GK t=true->P.stoodInHeld t=false/\P.eqGuardType P.depth t=false/\∀fs,P.underlying t=some (.struct fs)->∀f∈fs.toList,f.name≠ "_"
def Ty.jh(T:Ty)(t:TypeId):Option TypeDesc:=
 match T.kd t with
 |some i=>match i.desc with
  |.named _ u=>(T.kd u).map (·.desc)
  |d=>some d
 |none=>none
def Ty.size(T:Ty)(t:TypeId):Option Nat:=(T.kd t).map (·.size)
def Ty.zero(T:Ty)(t:TypeId):Option Value:=(T.kd t).bind (·.zero)
def Xu:TypeDesc->Bool
 |.struct _|.array _ _=>true
 |_=>false
def Ty.agg(T:Ty)(t:TypeId):Option Bool:=(T.jh t).map Xu
section
variable {T:Ty}{P:Program}
theorem Ty.Ok.jh(ok:T.Ok P){t:TypeId}{d:TypeDesc}(h:T.jh t=some d):P.underlying t=some d:=by
 unfold Ty.jh at h
 cases hi:T.kd t with
 |none=>rw[hi]at h;cases h
 |some i=>
  rw[hi]at h
  simp only at h
  have h1:=ok.kd t i hi
  unfold Program.underlying
  rw[h1]
  cases i with
  |mk desc str size bytes O e m zero comp b=>
   simp only at h⊢
   cases desc with
   |named n u=>
    simp only at h⊢
    cases hu:T.kd u with
    |none=>rw[hu]at h;cases h
    |some j=>rw[hu]at h;rw[ok.kd u j hu];exact h
   |_=>exact h
theorem Ty.Ok.gQ(ok:T.Ok P){t:TypeId}{d:TypeDesc}(h:T.jh t=some d)(w:World):(underlying t).run P w=.ok d w:=by
 simp[underlying,go_sem,ok.jh h]
theorem Ty.Ok.rT(ok:T.Ok P){t:TypeId}{i:TypeInfo}(h:T.kd t=some i)(w:World):(typeInfo t).run P w=.ok i w:=by
 simp[typeInfo,go_sem,ok.kd _ _ h]
theorem Ty.Ok.n_(ok:T.Ok P){t:TypeId}{n:Nat}(h:T.size t=some n)(w:World):(Go.sizeOf t).run P w=.ok n w:=by
 unfold Ty.size at h
 cases hi:T.kd t with
 |none=>rw[hi]at h;cases h
 |some i=>rw[hi]at h;cases h;unfold Go.sizeOf;rw[fk (ok.rT hi w)];rfl
theorem Ty.Ok.qe(ok:T.Ok P){t:TypeId}{z:Value}(h:T.zero t=some z)(w:World):(zeroValue t).run P w=.ok z w:=by
 unfold Ty.zero at h
 cases hi:T.kd t with
 |none=>rw[hi]at h;cases h
 |some i=>rw[hi]at h;simp at h;unfold zeroValue;rw[fk (ok.rT hi w),h];rfl
theorem Ty.Ok.qT(ok:T.Ok P){t:TypeId}{z:Value}(h:T.zero t=some z):flat z=true:=by
 unfold Ty.zero at h
 cases hi:T.kd t with
 |none=>rw[hi]at h;cases h
 |some i=>rw[hi]at h;simp at h;exact ok.zero t i z hi h
theorem Ty.Ok.FK(ok:T.Ok P){t:TypeId}{b:Bool}(h:T.agg t=some b)(w:World):(isAgg t).run P w=.ok b w:=by
 unfold Ty.agg at h
 cases hd:T.jh t with
 |none=>rw[hd]at h;cases h
 |some d=>
  rw[hd]at h
  simp at h
  subst h
  unfold isAgg
  rw[fk (ok.gQ hd w)]
  cases d<;>rfl
end
def lH{α:Type}:Nat->List α->Option (List α)
 |0,_=>some []
 |n+1,x::xs=>(lH n xs).map (x::·)
 |_+1,[]=>none
theorem vZ{α:Type}:∀(n:Nat) (l r:List α),lH n l=some r->r=l.take n/\n<=l.length
 |0,l,r,h=>by simp[lH]at h;subst h;simp
 |n+1,[],r,h=>by simp[lH]at h
 |n+1,x::xs,r,h=>by
  simp only[lH,Option.map_eq_some_iff]at h
  obtain⟨b,h1,rfl⟩:=h
  obtain⟨rfl,D⟩:=vZ n xs b h1
  simp;omega
def j9(T:Ty)(O:Hp)(t:TypeId)(a:Value):Option Value:=
 match a with
 |.pointer (some ⟨b,off,none⟩)=>
  match O b with
  |some (.cells Z _)=>
   match T.agg t with
   |some true=>(T.size t).bind fun n=>(lH n (Z.drop off)).map fun l=>.agg l.toArray
   |some false=>Z[off]?
   |none=>none
  |_=>none
 |_=>none
section
variable {B0:Nat}{w0:World}{g:Gm}{O:Hp}{G:Nat}{w:World}
theorem gm.uZ(H:gm B0 w0 g O G w){b:Nat}{Z:List Value}{m:gi}(h:O b=some (.cells Z m)){rb ro:Nat}(hb:g.fW b=some (rb,ro)):
 ∃j el e,w.heap[rb]?=some (.cells j el e)/\o7 B0 g b (.cells Z m) rb ro (.cells j el e):=by
 obtain⟨jo,a2,a3⟩:=(H.live b _ h).2 rb ro hb
 cases jo<;>first|exact a3.elim|skip
 exact⟨_,_,_,a2,a3⟩
theorem gm.TL(H:gm B0 w0 g O G w){b:Nat}{Z:List Value}{m:gi}(h:O b=some (.cells Z m)){rb ro:Nat}(hb:g.fW b=some (rb,ro)){i:Nat}{v:Value}(e:Z[i]?=some v):
 ∃v',w.cell? ⟨rb,ro+i,none⟩=some v'/\fK g v v':=by
 obtain⟨j,el,p,a2,a3⟩:=H.uZ h hb
 obtain⟨u,o,_⟩:=a3
 have hi:=(fe.1 e).1
 have:ro+i<j.size:=by omega
 exact⟨j[ro+i],by simp[World.cell?,a2],o i v _ e (by simp[this])⟩
end
theorem run_load{P:Program}{w:World}{a:Addr}{v:Value}(h:w.cell? a=some v):(load a).run P w=.ok v w:=by
 simp[load,Sem.run,h]
theorem run_loadCellsFrom{P:Program}{w:World}(a:Addr):∀(n i:Nat) (acc:Array Value) (vs:List Value),vs.length=n->(∀j v,vs[j]?=some v->w.cell? (a.add (i+j))=some v)->
 (loadCellsFrom a i n acc).run P w=.ok (acc++vs.toArray) w:=by
 intro n
 induction n with
 |zero=>intro i acc vs h _;simp at h;subst h;simp[loadCellsFrom,go_sem]
 |succ n ih=>
  intro i acc vs h hc
  cases vs with
  |nil=>simp at h
  |cons v vs=>
   have h0:=hc 0 v rfl
   simp only[Nat.add_zero]at h0
   unfold loadCellsFrom
   rw[fk (run_load h0),ih (i+1) (acc.push v) vs (by simpa using h) (fun j u hj=>by
    have:=hc (j+1) u (by simpa using hj)
    rwa[show i+1+j=i+(j+1)from by omega])]
   simp
theorem Addr.uC(b off n:Nat):(⟨b,off,none⟩:Addr).add n=⟨b,off+n,none⟩:=by
 unfold Addr.add
 split
 · rename_i h;subst h;rfl
 · rfl
section
variable {T:Ty}{P:Program}{B0:Nat}{w0:World}{g:Gm}{O:Hp}{G:Nat}{w:World}
theorem gm.loadCells(H:gm B0 w0 g O G w){b:Nat}{Z:List Value}{m:gi}(h:O b=some (.cells Z m)){rb ro:Nat}(hb:g.fW b=some (rb,ro)){off n:Nat}{l:List Value}
 (hl:lH n (Z.drop off)=some l):∃u,(Go.loadCells ⟨rb,ro+off,none⟩ n).run P w=.ok u.toArray w/\gV g l u:=by
 obtain⟨rfl,hn⟩:=vZ _ _ _ hl
 obtain⟨y,el,A,a2,a3⟩:=H.uZ h hb
 obtain⟨B,z,_⟩:=a3
 simp at hn
 refine⟨(y.toList.drop (ro+off)).take n,?_,?_,?_⟩
 · unfold Go.loadCells
   rw[run_loadCellsFrom _ n 0 #[] ((y.toList.drop (ro+off)).take n)]
   · simp
   · by_cases h0:n=0
     · subst h0;simp
     · simp;omega
   · intro j v o
     rw[Addr.uC]
     rw[List.getElem?_take]at o
     split at o
     · simp at o
       simp[World.cell?,a2,o]
     · cases o
 · by_cases h0:n=0
   · subst h0;simp
   · simp;omega
 · intro i v v' e p
   rw[List.getElem?_take]at e p
   split at e
   · rename_i hi
     simp only[hi,if_true]at p
     simp at e p
     exact z (off+i) v v' e (by rw[<-Nat.add_assoc];exact p)
   · cases e
theorem Ga(ok:T.Ok P)(H:gm B0 w0 g O G w){t:TypeId}{a a' v:Value}(h:j9 T O t a=some v)(p:fK g a a'):
 ∃v',(Instr.loadAt t a').run P w=.ok v' w/\fK g v v':=by
 unfold j9 at h
 split at h
 · rename_i b off
   split at h
   · rename_i Z m hb
     obtain⟨_,rb,ro,hg,rfl⟩:=p.sy
     unfold Instr.loadAt Instr.sureAddr
     rw[fk (VH _ w)]
     unfold loadVar
     split at h
     · rename_i j
       rw[fk (ok.FK j w)]
       simp only[if_true]
       cases hs:T.size t with
       |none=>rw[hs]at h;cases h
       |some n=>
        rw[hs]at h
        simp only[Option.bind_some,Option.map_eq_some_iff]at h
        obtain⟨l,hl,rfl⟩:=h
        obtain⟨u,h1,D⟩:=H.loadCells (P:=P) hb hg hl
        rw[fk (ok.n_ hs w),fk h1]
        refine⟨_,rfl,.agg (by simpa using D.1) (fun i v v' e o=>D.2 i v v' (by simpa using e) (by simpa using o))⟩
     · rename_i j
       rw[fk (ok.FK j w)]
       obtain⟨v',h1,D⟩:=H.TL hb hg h
       exact⟨v',run_load h1,D⟩
     · cases h
   · cases h
 · cases h
end
end
end Sw
namespace Sw
noncomputable section
open Go Go.RowKit
def v8{α:Type}:List α->List α->Option (List α)
 |Z,[]=>some Z
 |_::Z,v::vs=>(v8 Z vs).map (v::·)
 |[],_::_=>none
def mD{α:Type}:List α->Nat->List α->Option (List α)
 |Z,0,vs=>v8 Z vs
 |c::Z,n+1,vs=>(mD Z n vs).map (c::·)
 |[],_+1,_=>none
theorem HJ{α:Type}:∀(Z vs r:List α),v8 Z vs=some r->vs.length<=Z.length/\r=vs++Z.drop vs.length
 |Z,[],r,h=>by cases Z<;>simp[v8]at h<;>subst h<;>simp
 |[],_::_,r,h=>by simp[v8]at h
 |c::Z,v::vs,r,h=>by
  simp only[v8,Option.map_eq_some_iff]at h
  obtain⟨b,h1,rfl⟩:=h
  obtain⟨D,rfl⟩:=HJ Z vs b h1
  simp;omega
theorem A0{α:Type}:∀(Z:List α) (n:Nat) (vs r:List α),mD Z n vs=some r->n+vs.length<=Z.length/\r=Z.take n++vs++Z.drop (n+vs.length)
 |Z,0,vs,r,h=>by
  have b:v8 Z vs=some r:=by cases Z<;>exact h
  obtain⟨h1,rfl⟩:=HJ Z vs r b
  simp[h1]
 |[],n+1,vs,r,h=>by simp[mD]at h
 |c::Z,n+1,vs,r,h=>by
  simp only[mD,Option.map_eq_some_iff]at h
  obtain⟨e,h1,rfl⟩:=h
  obtain⟨D,rfl⟩:=A0 Z n vs e h1
  constructor
  · simp;omega
  · rw[show n+1+vs.length=(n+vs.length)+1 from by omega];simp
theorem tj.setCell{w:World}{rb k:Nat}{e:Array Value}{el:TypeId}{b:Nat×Nat}(hw:w.heap[rb]?=some (.cells e el b))(v:Value):
 tj w (w.setCell ⟨rb,k,none⟩ v) rb (.cells (e.setIfInBounds k v) el b):=by
 refine⟨rfl,rfl,rfl,by simp[World.setCell],?_,fun i hi=>?_,e9 _⟩
 · simp[World.setCell,Array.getElem?_modify,hw]
 · simp only[World.setCell,Array.getElem?_modify]
   rw[if_neg (Ne.symm hi)]
def one:Value->Bool
 |.agg _|.tuple _=>false
 |_=>true
theorem fK.one{g:Gm}{v v':Value}(h:fK g v v'):Sw.one v=Sw.one v':=by cases h<;>rfl
theorem HK{α:Type}(l:List α)(p n:Nat)(v:α)(hl:p<l.length):(l.set p v).take (p+1)=l.take p++[v]/\(l.set p v).drop (p+1+n)=l.drop (p+1+n):=by
 constructor
 · refine List.ext_getElem? fun i=>?_
   rw[List.getElem?_take,List.getElem?_append,List.getElem?_set,List.getElem?_take]
   have b:(l.take p).length=p:=by simp;omega
   rw[b]
   by_cases h1:i<p
   · rw[if_pos (by omega),if_neg (by omega),if_pos h1,if_pos h1]
   · rw[if_neg h1]
     by_cases D:p=i
     · subst D;simp[hl]
     · rw[if_neg (by omega)]
       rw[List.getElem?_eq_none (by simp;omega)]
 · refine List.ext_getElem? fun i=>?_
   rw[List.getElem?_drop,List.getElem?_drop,List.getElem?_set,if_neg (by omega)]
theorem run_store{P:Program}{w:World}{a:Addr}{u v:Value}(h:w.cell? a=some u)(hf:w.frozen? a=false)(b:one v=true):(store a v).run P w=.ok () (w.setCell a v):=by
 unfold store
 cases v<;>first|(simp[one]at b;done)|(simp[Sem.run,h,hf])
theorem Cv{P:Program}{rb k:Nat}{el:TypeId}{m:Nat×Nat}:∀(vs:List Value) (i:Nat) (w:World) (b:Array Value),w.heap[rb]?=some (.cells b el m)->k+i+vs.length<=b.size->
 (∀j,j<b.size->¬(m.1<=j/\j<m.2))->(∀v∈vs,one v=true)->
 ∃w',(storeCells ⟨rb,k,none⟩ vs i).run P w=.ok () w'/\tj w w' rb (.cells (b.toList.take (k+i)++vs++b.toList.drop (k+i+vs.length)).toArray el m)/\w'.heap.size=w.heap.size:=by
 intro vs
 induction vs with
 |nil=>
  intro i w b hw _ _ _
  refine⟨w,rfl,⟨rfl,rfl,rfl,e9 _,?_,fun _ _=>rfl,e9 _⟩,rfl⟩
  simpa using hw
 |cons v vs ih=>
  intro i w b hw hlen hf p
  simp only[List.length_cons]at hlen
  have hc:w.cell? ((⟨rb,k,none⟩:Addr).add i)=some b[k+i]:=by
   rw[Addr.uC];simp[World.cell?,hw]
  have o:w.frozen? ((⟨rb,k,none⟩:Addr).add i)=false:=by
   rw[Addr.uC]
   have:=hf (k+i) (by omega)
   simp only[World.frozen?,hw]
   obtain⟨lo,hi⟩:=m
   simp only at this⊢
   simp;omega
  have y:=tj.setCell (k:=k+i) hw v
  have u:(w.setCell ⟨rb,k+i,none⟩ v).heap[rb]?=some (.cells (b.setIfInBounds (k+i) v) el m):=y.at_
  obtain⟨w',h1,D,h3⟩:=ih (i+1) (w.setCell ⟨rb,k+i,none⟩ v) (b.setIfInBounds (k+i) v) u (by simp;omega) (by simpa using hf) (fun x hx=>p x (fw _ hx))
  refine⟨w',?_,?_,by rw[h3];simp⟩
  · unfold storeCells
    rw[fk (run_store hc o (p v (List.mem_cons_self ..))),Addr.uC]
    exact h1
  · have:=y.trans D
    have e:(List.take (k+(i+1)) (b.setIfInBounds (k+i) v).toList++vs++List.drop (k+(i+1)+vs.length) (b.setIfInBounds (k+i) v).toList)=(List.take (k+i) b.toList++v::vs++List.drop (k+i+(v::vs).length) b.toList):=by
     have hl:k+i<b.toList.length:=by simp;omega
     obtain⟨t1,t2⟩:=HK b.toList (k+i) vs.length v hl
     rw[Array.toList_setIfInBounds,show k+(i+1)=k+i+1 from by omega,t1,t2]
     simp
     rw[show k+i+1+vs.length=k+i+(vs.length+1)from by omega]
    rw[e]at this
    exact this
abbrev ub:=List (Nat×Option (jM Tm))
def Hp.uc(O:Hp)(l:ub):Hp:=l.foldl (fun h x=>h.set x.1 x.2) O
def overlaps(b lo hi:Nat)(e:Mem):Bool:=!(Nat.beq e.fW b)&&(Nat.blt e.base hi&&Nat.blt lo (e.base+e.len))
theorem I3{b lo hi:Nat}{e:Mem}(h:overlaps b lo hi e=false)(jB:e.fW≠b):hi<=e.base\/e.base+e.len<=lo:=by
 unfold overlaps at h
 have h1:Nat.beq e.fW b=false:=by cases D:Nat.beq e.fW b with|false=>rfl|true=>exact(jB (fj D)).elim
 rw[h1]at h
 cases D:Nat.blt e.base hi with
 |false=>exact .inl (by have:¬e.base<hi:=fun k=>by have q:=(Nat.blt_eq (x:=e.base) (y:=hi)).mpr k;rw[q]at D;cases D
                        omega)
 |true=>
  rw[D]at h
  refine .inr ?_
  have:¬lo<e.base+e.len:=fun k=>by have q:=(Nat.blt_eq (x:=lo) (y:=e.base+e.len)).mpr k;rw[q]at h;cases h
  omega
def mZ(ov:Mem->Bool)(ms:List Mem):ub:=(ms.filter ov).map fun e=>(e.fW,none)
section
variable {T:Ty}{P:Program}{B0:Nat}{w0:World}{g:Gm}{O:Hp}{G:Nat}{w:World}
theorem gm.B7(H:gm B0 w0 g O G w){gr:Nat}{ms:List Mem}(u:O gr=some (.group ms))(ov:Mem->Bool)(B:∀e∈ms,ov e=true->∀l,O e.fW≠some (.group l))(A:List Mem):
 gm B0 w0 g ((O.uc (mZ ov ms)).set gr (some (.group ((ms.filter fun e=>!(ov e))++A)))) G w/\
  (∀b o,(O.uc (mZ ov ms)) b=some o->O b=some o/\∀e∈ms,ov e=true->e.fW≠b)/\
  (∀b,(∀e∈ms,ov e=true->e.fW≠b)->(O.uc (mZ ov ms)) b=O b):=by
 have key:∀(l:List Mem) (eZ:Hp),(∀e∈l,ov e=true->∀x,eZ e.fW≠some (.group x))->gm B0 w0 g eZ G w->
  gm B0 w0 g (eZ.uc (mZ ov l)) G w/\(∀b o,(eZ.uc (mZ ov l)) b=some o->eZ b=some o/\∀e∈l,ov e=true->e.fW≠b)/\
  (∀b,(∀e∈l,ov e=true->e.fW≠b)->(eZ.uc (mZ ov l)) b=eZ b):=by
  intro l
  induction l with
  |nil=>intro eZ _ z;exact⟨z,fun b o e=>⟨e,fun _ h=>by cases h⟩,fun _ _=>rfl⟩
  |cons x l ih=>
   intro eZ hg z
   by_cases hx:ov x=true
   · have e1:eZ.uc (mZ ov (x::l))=(eZ.set x.fW none).uc (mZ ov l):=by simp[mZ,hx,Hp.uc]
     rw[e1]
     have C:∀e∈l,ov e=true->∀y,(eZ.set x.fW none) e.fW≠some (.group y):=by
      intro e he F y h
      by_cases E:e.fW=x.fW
      · rw[E,Hp.jH]at h;cases h
      · rw[Hp.gN _ _ E]at h;exact hg e (fw _ he) F y h
     obtain⟨p,q,r⟩:=ih (eZ.set x.fW none) C (z.kill x.fW (hg x (fh ..) hx))
     refine⟨p,fun b o e=>?_,fun b hb=>?_⟩
     · obtain⟨a1,a2⟩:=q b o e
       have hb:b≠x.fW:=fun h=>by subst h;rw[Hp.jH]at a1;cases a1
       rw[Hp.gN _ _ hb]at a1
       refine⟨a1,fun y hy j=>?_⟩
       rcases fM.1 hy with rfl|hy
       · exact Ne.symm hb
       · exact a2 y hy j
     · rw[r b (fun e he=>hb e (List.mem_cons_of_mem _ he)),Hp.gN _ _ (Ne.symm (hb x (List.mem_cons_self ..) hx))]
   · have e1:eZ.uc (mZ ov (x::l))=eZ.uc (mZ ov l):=by simp[mZ,hx]
     rw[e1]
     obtain⟨p,q,r⟩:=ih eZ (fun e he=>hg e (fw _ he)) z
     refine⟨p,fun b o e=>?_,fun b hb=>r b (fun e he=>hb e (fw _ he))⟩
     obtain⟨a1,a2⟩:=q b o e
     refine⟨a1,fun y hy j=>?_⟩
     rcases fM.1 hy with rfl|hy
     · exact(hx j).elim
     · exact a2 y hy j
 obtain⟨p,q,r⟩:=key ms O B H
 refine⟨?_,q,r⟩
 refine p.LI _ (e9 _) ((H.live _ _ u).1) (H.ph _ _ u) ?_
 intro b Z m e k
 obtain⟨a1,a2⟩:=q b _ e
 obtain⟨K,b1,b2⟩:=H.mem b Z m gr a1 k
 rw[u]at b1;cases b1
 rw[List.mem_append]
 refine .inl ?_
 rw[List.mem_filter]
 refine⟨b2,?_⟩
 cases J:ov ⟨b,m.base,Z.length⟩with
 |false=>rfl
 |true=>exact(a2 _ b2 J rfl).elim
def oe(O:Hp)(ov:Mem->Bool)(ms:List Mem):Bool:=
 (ms.filter ov).all fun e=>match O e.fW with|some (.group _)=>false|_=>true
theorem zM{ov:Mem->Bool}{ms:List Mem}(h:oe O ov ms=true):∀e∈ms,ov e=true->∀l,O e.fW≠some (.group l):=by
 intro e he b l hl
 unfold oe at h
 rw[List.all_eq_true]at h
 have:=h e (f_.2 ⟨he,b⟩)
 rw[hl]at this
 cases this
end
def oh(O:Hp)(b:Nat)(Z:List Value)(m:gi)(off:Nat)(vs:List Value):Option ub:=
 bif m.ro then none else
 (mD Z off vs).bind fun lA=>
   match m.mG with
   |none=>some [(b,some (.cells lA m))]
   |some gr=>match O gr with
    |some (.group ms)=>
     bif oe O (overlaps b (m.base+off) (m.base+off+vs.length)) ms then
      some (mZ (overlaps b (m.base+off) (m.base+off+vs.length)) ms++
       [(gr,some (.group (ms.filter fun e=>!(overlaps b (m.base+off) (m.base+off+vs.length) e)))),(b,some (.cells lA m))])
     else none
    |_=>none
theorem Hp.Dh(O:Hp)(l b:ub):O.uc (l++b)=(O.uc l).uc b:=by simp[Hp.uc]
def vm(g:Gm)(O:Hp)(w w':World):Prop:=
 ∀rb,rb<w.heap.size->(∀b o ro,O b=some o->g.fW b≠some (rb,ro))->w'.heap[rb]?=w.heap[rb]?
theorem vm.refl(g:Gm)(O:Hp)(w:World):vm g O w w:=fun _ _ _=>rfl
section
variable {P:Program}{B0:Nat}{w0:World}{g:Gm}{O:Hp}{G:Nat}{w:World}
theorem v_(H:gm B0 w0 g O G w){b off rb ro:Nat}{Z vs o:List Value}{m:gi}{jC:ub}(hb:O b=some (.cells Z m))(hg:g.fW b=some (rb,ro))
 (h:oh O b Z m off vs=some jC) (ab:gV g vs o) (ao:∀v∈vs,one v=true):
 ∃w',(storeCells ⟨rb,ro+off,none⟩ o).run P w=.ok () w'/\gm B0 w0 g (O.uc jC) G w'/\vm g O w w'/\w'.heap.size=w.heap.size:=by
 unfold oh at h
 cases p:m.ro with
 |true=>rw[p]at h;cases h
 |false=>
  rw[p]at h
  simp only[cond_false]at h
  cases L:mD Z off vs with
  |none=>rw[L]at h;cases h
  |some lA=>
   rw[L]at h
   simp only[Option.bind_some]at h
   obtain⟨s1,s2⟩:=A0 _ _ _ _ L
   obtain⟨u,el,aA,a2,a3⟩:=H.uZ hb hg
   obtain⟨aB,ai,ap,aC,_⟩:=a3
   have R:o.length=vs.length:=ab.1.symm
   have ag:∀v∈o,one v=true:=by
    intro v' ah
    obtain⟨i,hi,e⟩:=gD.1 ah
    have N:i<vs.length:=by omega
    have:=ab.2 i vs[i] o[i] (ff N) (ff hi)
    rw[e]at this
    rw[<-this.one]
    exact ao _ (List.getElem_mem N)
   obtain⟨w',r1,r2,av⟩:=Cv (P:=P) (rb:=rb) (k:=ro+off) o 0 w u a2 (by omega) (ap p).2.free ag
   simp only[Nat.add_zero]at r2
   have M:vm g O w w':=fun r hr hn=>by
    by_cases W:r=rb
    · subst W;exact(hn b _ ro hb hg).elim
    · exact r2.other r W
   refine⟨w',r1,?_,M,av⟩
   have E:lA.length=Z.length:=by rw[s2];simp;omega
   have X:(u.toList.take (ro+off)++o++u.toList.drop (ro+off+o.length)).toArray.size=u.size:=by simp;omega
   have J:∀(i:Nat) (v v':Value),lA[i]?=some v->(u.toList.take (ro+off)++o++u.toList.drop (ro+off+o.length)).toArray[ro+i]?=some v'->fK g v v':=by
    intro i v v' e z
    rw[s2]at e
    have aq:(Z.take off).length=off:=by simp;omega
    have ac:(u.toList.take (ro+off)).length=ro+off:=by simp;omega
    simp only[List.getElem?_toArray]at z
    rw[List.append_assoc,List.getElem?_append,aq]at e
    rw[List.append_assoc,List.getElem?_append,ac]at z
    by_cases h1:i<off
    · rw[if_pos h1,List.getElem?_take,if_pos h1]at e
      rw[if_pos (by omega),List.getElem?_take,if_pos (by omega)]at z
      exact ai i v v' e (by simpa using z)
    · rw[if_neg h1,List.getElem?_append]at e
      rw[if_neg (by omega),List.getElem?_append,R,show ro+i-(ro+off)=i-off from by omega]at z
      by_cases D:i-off<vs.length
      · rw[if_pos D]at e z
        exact ab.2 _ v v' e z
      · rw[if_neg D,List.getElem?_drop]at e z
        refine ai i v v' ?_ ?_
        · rw[<-e];congr 1;omega
        · rw[<-z,Array.getElem?_toList];congr 1;omega
   have B:∀j,¬(ro+off<=j/\j<ro+off+vs.length)->(u.toList.take (ro+off)++o++u.toList.drop (ro+off+o.length)).toArray[j]?=u[j]?:=by
    intro j hj
    have ac:(u.toList.take (ro+off)).length=ro+off:=by simp;omega
    simp only[List.getElem?_toArray]
    rw[List.append_assoc,List.getElem?_append,ac]
    by_cases h1:j<ro+off
    · rw[if_pos h1,List.getElem?_take,if_pos h1];simp
    · rw[if_neg h1,List.getElem?_append,R,if_neg (by omega),List.getElem?_drop,Array.getElem?_toList]
      congr 1;omega
   cases A:m.mG with
   |none=>
    rw[A]at h
    cases h
    refine H.putCells hb hg p a2 r2 X E J (ro+off) (ro+off+vs.length) B ?_
    intro b1 C m1 r1 jB e1 e2
    have:=H.sep b1 b _ _ rb r1 ro jB e1 hb e2 hg
    rcases this with⟨_,x⟩|⟨gr,_,x,_⟩
    · rw[p]at x;cases x
    · rw[A]at x;cases x
   |some gr=>
    rw[A]at h
    simp only at h
    split at h
    · rename_i ms qL
      cases F:oe O (overlaps b (m.base+off) (m.base+off+vs.length)) ms with
      |false=>rw[F]at h;cases h
      |true=>
       rw[F]at h
       simp only[cond_true]at h
       cases h
       obtain⟨K,ar,au⟩:=H.B7 qL (overlaps b (m.base+off) (m.base+off+vs.length)) (zM F) []
       rw[List.append_nil]at K
       have ae:∀e∈ms,overlaps b (m.base+off) (m.base+off+vs.length) e=true->e.fW≠b:=fun e _ h=>by
        intro an
        unfold overlaps at h
        rw[an,Nat.beq_refl]at h
        cases h
       have af:b≠gr:=fun h=>by subst h;rw[hb]at qL;cases qL
       have ad:((O.uc (mZ (overlaps b (m.base+off) (m.base+off+vs.length)) ms)).set gr (some (.group (ms.filter fun e=>!(overlaps b (m.base+off) (m.base+off+vs.length) e))))) b=some (.cells Z m):=by
        rw[Hp.gN _ _ af,au b ae];exact hb
       rw[Hp.Dh]
       refine K.putCells ad hg p a2 r2 X E J (ro+off) (ro+off+vs.length) B ?_
       intro b1 C m1 aj jB e1 e2
       have aa:b1≠gr:=fun h=>by subst h;rw[Hp.jH]at e1;cases e1
       rw[Hp.gN _ _ aa]at e1
       obtain⟨ak,aw⟩:=ar b1 _ e1
       have:=H.sep b1 b _ _ rb aj ro jB ak hb e2 hg
       rcases this with⟨_,y⟩|⟨ay,ax,al,aD⟩
       · rw[p]at y;cases y
       · rw[A]at al;cases al
         obtain⟨az,am,z2⟩:=H.mem b1 C m1 gr ak ax
         rw[qL]at am;cases am
         cases S:overlaps b (m.base+off) (m.base+off+vs.length) ⟨b1,m1.base,C.length⟩with
         |true=>exact(aw _ z2 S rfl).elim
         |false=>
          have:=I3 S jB
          simp only at this
          omega
    · cases h
end
def wV(T:Ty)(O:Hp)(t:TypeId)(a v:Value):Option ub:=
 match a with
 |.pointer (some ⟨b,off,none⟩)=>
  match O b with
  |some (.cells Z m)=>
   match T.size t with
   |some n=>bif Nat.beq v.cells.toList.length n&&v.cells.toList.all one then oh O b Z m off v.cells.toList else none
   |none=>none
  |_=>none
 |_=>none
section
variable {T:Ty}{P:Program}{B0:Nat}{w0:World}{g:Gm}{O:Hp}{G:Nat}{w:World}
theorem LK(ok:T.Ok P)(H:gm B0 w0 g O G w){t:TypeId}{a a' v v':Value}{jC:ub}(h:wV T O t a v=some jC)(j:fK g a a')(o:fK g v v'):
 ∃w',(Instr.storeAt t a' v').run P w=.ok () w'/\gm B0 w0 g (O.uc jC) G w'/\vm g O w w'/\w'.heap.size=w.heap.size:=by
 unfold wV at h
 split at h
 · rename_i b off
   split at h
   · rename_i Z m hb
     obtain⟨_,rb,ro,hg,rfl⟩:=j.sy
     split at h
     · rename_i n hn
       cases hc:(Nat.beq v.cells.toList.length n&&v.cells.toList.all one)with
       |false=>rw[hc]at h;cases h
       |true=>
        rw[hc]at h
        simp only[cond_true]at h
        simp only[Bool.and_eq_true]at hc
        obtain⟨c1,c2⟩:=hc
        have c1:=fj c1
        rw[List.all_eq_true]at c2
        have e:=o.cells
        obtain⟨w',r1,r2⟩:=v_ (P:=P) H hb hg h e c2
        refine⟨w',?_,r2⟩
        unfold Instr.storeAt Instr.sureAddr
        rw[fk (VH _ w)]
        unfold storeVar
        rw[fk (ok.n_ hn w),if_neg (by rw[<-c1,e.1];simp)]
        exact r1
     · cases h
   · cases h
 · cases h
end
end
end Sw
namespace Sw
noncomputable section
open Go Go.RowKit
structure Di(g:Gm)(O:Hp)(n:Nat):Prop where
 fW:g.fW n=none
 room:g.room n=none
 O:O n=none
theorem gm.fresh{B0:Nat}{w0:World}{g:Gm}{O:Hp}{G:Nat}{w:World}(H:gm B0 w0 g O G w){n:Nat}(h:G<=n):Di g O n:=by
 have hb:g.fW n=none:=by
  cases e:g.fW n with
  |none=>rfl
  |some x=>have:=(H.rH n x.1 x.2 e).1;omega
 refine⟨hb,?_,?_⟩
 · cases e:g.room n with
   |none=>rfl
   |some x=>exact(H.room n x e hb).elim
 · cases e:O n with
   |none=>rfl
   |some x=>have:=(H.live n x e).1;omega
theorem gm.AM{B0:Nat}{w0:World}{g:Gm}{O:Hp}{G e5:Nat}{w:World}(H:gm B0 w0 g O G w)(h:G<=e5):gm B0 w0 g O e5 w:=
 ⟨H.below,H.base,fun b rb ro e=>⟨by have:=(H.rH b rb ro e).1;omega,(H.rH b rb ro e).2⟩,fun b o e=>⟨by have:=(H.live b o e).1;omega,(H.live b o e).2⟩,H.ph,H.mem,H.sep,H.room⟩
theorem gm.of_heap{B0:Nat}{w0:World}{g:Gm}{O:Hp}{G:Nat}{w w':World}(H:gm B0 w0 g O G w)(h1:w'.heap=w.heap)(D:w'.os=w.os)(h3:w'.tape=w.tape)(h4:w'.output=w.output)(j:w.drawn<=w'.drawn:=by first|exact e9 _|exact e_ _|exact gv _ _):gm B0 w0 g O G w':=
 ⟨⟨⟨D.trans H.below.b.os,h3.trans H.below.b.tape,h4.trans H.below.b.output,by rw[h1];exact H.below.b.size,fun k hk=>by rw[h1];exact H.below.b.block k hk⟩,Nat.le_trans H.below.drawn j⟩,
   by rw[h1];exact H.base,fun b rb ro e=>by rw[h1];exact H.rH b rb ro e,fun b o e=>by rw[h1];exact H.live b o e,H.ph,H.mem,H.sep,H.room⟩
def pD(g g':Gm)(w:World):Prop:=∀b rb ro,g'.fW b=some (rb,ro)->(∃e j,g.fW e=some (rb,j))\/w.heap.size<=rb
theorem pD.refl(g:Gm)(w:World):pD g g w:=fun b _ ro e=>.inl ⟨b,ro,e⟩
theorem pD.add{g:Gm}{w:World}{n rb ro:Nat}{room:Option (Nat×Nat)}(h:(∃m o,g.fW m=some (rb,o))\/w.heap.size<=rb):pD g (g.add n (rb,ro) room) w:=by
 intro b p j e
 by_cases hb:b=n
 · subst hb;rw[Gm.lS]at e;cases e;exact h
 · rw[Gm.jY _ _ _ hb]at e;exact .inl ⟨b,j,e⟩
theorem pD.new{g:Gm}{w:World}{n ro:Nat}{room:Option (Nat×Nat)}:pD g (g.add n (w.heap.size,ro) room) w:=pD.add (.inr (e9 _))
structure YR(B0:Nat)(w0:World)(g:Gm)(O:Hp)(n k e5:Nat)(w:World)(r:Result Value)(v:Value)(jC:ub)(g':Gm)(v':Value)(w':World):Prop where
 run:r=.ok v' w'
 le:g.le g'
 new:∀b,g'.fW b≠none->g.fW b≠none\/(n<=b/\b<n+k)
 val:fK g' v v'
 rel:gm B0 w0 g' (O.uc jC) e5 w'
 keeps:vm g O w w'
 size:w.heap.size<=w'.heap.size
 held:pD g g' w
abbrev p0:=Value×ub×Nat
def iA(B0:Nat)(w0:World)(g:Gm)(O:Hp)(G n:Nat)(w:World)(r:Result Value)(e:p0):Prop:=
 ∀e5,G<=e5->n+e.2.2<=e5->(∀i,i<e.2.2->Di g O (n+i))->∃g' v' w',YR B0 w0 g O n e.2.2 e5 w r e.1 e.2.1 g' v' w'
section
variable {T:Ty}{P:Program}{B0:Nat}{w0:World}{g:Gm}{O:Hp}{G n:Nat}{w:World}
theorem iA.pure(H:gm B0 w0 g O G w){r:Result Value}{v v':Value}(hr:r=.ok v' w)(b:fK g v v'):iA B0 w0 g O G n w r (v,[],0):=
 fun _ h1 _ _=>⟨g,v',w,hr,Gm.le_refl g,fun _ h=>.inl h,b,H.AM h1,vm.refl _ _ _,e9 _,pD.refl _ _⟩
theorem run_newObj(o:Obj)(w:World):(newObj o).run P w=.ok w.heap.size (w.alloc o):=rfl
theorem tk(e:TypeId)(c:Array Value)(w:World):(newRow e c).run P w=.ok ⟨w.heap.size,0,none⟩ (w.alloc (.cells c e)):=by
 unfold newRow
 rw[fk (run_newObj _ w)];rfl
theorem vm.alloc(g:Gm)(O:Hp)(w:World)(o:Obj):vm g O w (w.alloc o):=fun rb h _=>(tj.alloc w o).other rb (by omega)
theorem gm.lX(H:gm B0 w0 g O G w)(hf:Di g O n){e5:Nat}(h1:G<=e5)(D:n<e5){Z lA:List Value}(hc:gV g Z lA)(el:TypeId):
 gm B0 w0 (g.add n (w.heap.size,0) none) (O.set n (some (.cells Z gi.plain))) e5 (w.alloc (.cells lA.toArray el)):=by
 refine H.alloc hf.fW hf.room hf.O h1 D _ _ none rfl ?_ (fun Z m gr e k=>by cases e;cases k)
 refine⟨by simp[hc.1],fun i v v' e b=>?_,fun _=>⟨H.base,.inl rfl⟩,fun gr e=>by(cases e),fun _=>Gm.sG _ _ _ _⟩
 exact(hc.2 i v v' e (by simpa using b)).mono (Gm.qS hf.fW _ _)
theorem Gm.Cw{x:Nat×Nat}{room:Option (Nat×Nat)}:∀b,(g.add n x room).fW b≠none->g.fW b≠none\/(n<=b/\b<n+1):=by
 intro b h
 by_cases hb:b=n
 · exact .inr ⟨by omega,by omega⟩
 · rw[Gm.jY _ _ _ hb]at h;exact .inl h
def B8(n:Nat)(Z:List Value):p0:=(.pointer (some ⟨n,0,none⟩),[(n,some (.cells Z gi.plain))],1)
theorem HL(H:gm B0 w0 g O G w){Z lA:List Value}(hc:gV g Z lA)(el:TypeId){r:Result Value}(hr:r=.ok (.pointer (some ⟨w.heap.size,0,none⟩)) (w.alloc (.cells lA.toArray el))):
 iA B0 w0 g O G n w r (B8 n Z):=by
 intro e5 h1 D hf
 have hf:=hf 0 (by simp[B8])
 simp only[Nat.add_zero]at hf
 exact⟨g.add n (w.heap.size,0) none,_,_,hr,Gm.qS hf.fW _ _,Gm.Cw,.ptr (Gm.lS _ _ _ _),H.lX hf h1 (by simp[B8]at D;omega) hc el,vm.alloc _ _ _ _,by simp,pD.new⟩
theorem PN(H:gm B0 w0 g O G w){el:TypeId}{v v':Value}(b:fK g v v'):iA B0 w0 g O G n w ((Instr.box el v').run P w) (B8 n v.cells.toList):=by
 refine HL H b.cells el ?_
 unfold Instr.box newVar
 rw[fk (tk _ _ _)]
 simp
theorem LL(ok:T.Ok P)(H:gm B0 w0 g O G w){el:TypeId}{z:Value}(b:T.zero el=some z):iA B0 w0 g O G n w ((Instr.alloc el true (.tuple #[])).run P w) (B8 n z.cells.toList):=by
 refine HL H (fK.of_flat g (ok.qT b)).cells el ?_
 unfold Instr.alloc
 rw[fk (ok.qe b w)]
 simp only
 unfold newVar
 rw[fk (tk _ _ _)]
 simp
def Dj(place:Nat->Option (Nat×Nat))(cells:List Value):List (Nat×Value)->Option (List Value)
 |[]=>some cells
 |(i,v)::rest=>
  match place i with
  |none=>none
  |some (off,size)=>bif Nat.beq v.cells.toList.length size then(mD cells off v.cells.toList).bind fun c=>Dj place c rest else none
theorem Ri{α:Type}(off:Nat):∀(vs:List α) (k:Nat) (cells:Array α),off+k+vs.length<=cells.size->
 ((vs.zipIdx k).foldl (fun Z (x:α×Nat)=>Z.setIfInBounds (off+x.2) x.1) cells).toList=cells.toList.take (off+k)++vs++cells.toList.drop (off+k+vs.length):=by
 intro vs
 induction vs with
 |nil=>intro k cells _;simp
 |cons v vs ih=>
  intro k cells h
  simp only[List.length_cons]at h
  simp only[List.zipIdx_cons,List.foldl_cons]
  rw[ih (k+1) _ (by simp;omega)]
  obtain⟨t1,t2⟩:=HK cells.toList (off+k) vs.length v (by simp;omega)
  rw[Array.toList_setIfInBounds,show off+(k+1)=off+k+1 from by omega,t1,t2]
  simp
  rw[show off+k+1+vs.length=off+k+(vs.length+1)from by omega]
def Dk(g:Gm)(x x':List (Nat×Value)):Prop:=x.length=x'.length/\∀(i:Nat) (p b:Nat×Value),x[i]?=some p->x'[i]?=some b->p.1=b.1/\fK g p.2 b.2
theorem Dl{place:Nat->Option (Nat×Nat)}:∀(ps b:List (Nat×Value)) (Z lA r:List Value),Dk g ps b->gV g Z lA->Dj place Z ps=some r->
 ∃y,Instr.fill place lA.toArray b=some y.toArray/\gV g r y:=by
 intro ps
 induction ps with
 |nil=>
  intro b Z lA r O hc h
  cases b with
  |nil=>simp[Dj]at h;subst h;exact⟨lA,rfl,hc⟩
  |cons _ _=>have:=O.1;simp at this
 |cons p ps ih=>
  intro b Z lA r O hc h
  cases b with
  |nil=>have:=O.1;simp at this
  |cons K b=>
   obtain⟨i,v⟩:=p
   obtain⟨N,v'⟩:=K
   obtain⟨rfl,F⟩:=O.2 0 _ _ rfl rfl
   have E:Dk g ps b:=⟨by have:=O.1;simpa using this,fun j q L e J=>O.2 (j+1) q L (by simpa using e) (by simpa using J)⟩
   simp only at F
   simp only[Dj]at h
   cases o:place i with
   |none=>rw[o]at h;cases h
   |some x=>
    obtain⟨off,size⟩:=x
    rw[o]at h
    simp only at h
    cases m:Nat.beq v.cells.toList.length size with
    |false=>rw[m]at h;cases h
    |true=>
     rw[m]at h
     simp only[cond_true]at h
     have m:=fj m
     cases u:mD Z off v.cells.toList with
     |none=>rw[u]at h;cases h
     |some c=>
      rw[u]at h
      simp only[Option.bind_some]at h
      obtain⟨s1,s2⟩:=A0 _ _ _ _ u
      have z:=F.cells
      have B:v'.cells.size=size:=by have:=z.1;simp at this m;omega
      have M:=hc.1
      have C:v.cells.size=size:=by simpa using m
      simp only[Array.length_toList]at s1
      have A:gV g c ((v'.cells.zipIdx.foldl (fun Z (x:Value×Nat)=>Z.setIfInBounds (off+x.2) x.1) lA.toArray).toList):=by
       rw[<-Array.foldl_toList,Array.toList_zipIdx,Ri off v'.cells.toList 0 lA.toArray (by simp;omega),s2]
       simp only[Nat.add_zero,Array.length_toList]
       rw[C,B]
       exact((hc.take off).append z).append (hc.drop _)
      obtain⟨y,h1,D⟩:=ih b c _ r E A h
      refine⟨y,?_,D⟩
      simp only[Instr.fill,o]
      rw[if_neg (by simp;omega)]
      simpa using h1
end
end
end Sw
namespace Sw
noncomputable section
open Go Go.RowKit
def Ty.Cx(T:Ty):Prop:=∀t fs,T.jh t=some (.struct fs)->∀f∈fs.toList,∃n,T.size f.type=some n
section
variable {T:Ty}{P:Program}{B0:Nat}{w0:World}{g:Gm}{O:Hp}{G n:Nat}{w:World}
def LM(T:Ty)(fs:Array Field)(i:Nat):Option (Nat×Nat):=(fs[i]?).bind fun f=>(T.size f.type).map fun s=>(f.offset,s)
theorem run_places(ok:T.Ok P)(fs:List Field)(h:∀f∈fs,∃n,T.size f.type=some n)(w:World):
 (fs.mapM (m:=Sem) fun f=>do pure (f.offset,<-Go.sizeOf f.type)).run P w=.ok (fs.map fun f=>(f.offset,(T.size f.type).getD 0)) w:=by
 induction fs with
 |nil=>rfl
 |cons f fs ih=>
  obtain⟨s,hs⟩:=h f (fh ..)
  rw[List.mapM_cons]
  have h1:(do pure (f.offset,<-Go.sizeOf f.type):Sem (Nat×Nat)).run P w=.ok (f.offset,s) w:=by rw[fk (ok.n_ hs w)];rfl
  rw[fk h1,fk (ih fun f hf=>h f (List.mem_cons_of_mem _ hf))]
  simp[hs]
def LN(T:Ty)(t:TypeId)(parts:List (Nat×Value)):Option Value:=
 match T.zero t,T.jh t with
 |some z,some (.struct fs)=>(Dj (LM T fs) z.cells.toList parts).map fun c=>.agg c.toArray
 |some z,some (.array _ el)=>(T.size el).bind fun s=>(Dj (fun i=>some (i*s,s)) z.cells.toList parts).map fun c=>.agg c.toArray
 |_,_=>none
theorem gV.TM{c b:List Value}(h:gV g c b):fK g (.agg c.toArray) (.agg b.toArray):=
 .agg (by simpa using h.1) (fun i v v' e j=>h.2 i v v' (by simpa using e) (by simpa using j))
theorem LO(ok:T.Ok P)(cl:T.Cx)(H:gm B0 w0 g O G w){t:TypeId}{ps b:List (Nat×Value)}{v:Value}(h:LN T t ps=some v)(eZ:Dk g ps b):
 iA B0 w0 g O G n w ((Instr.build t b.toArray).run P w) (v,[],0):=by
 unfold LN at h
 split at h
 · rename_i z fs j hu
   simp only[Option.map_eq_some_iff]at h
   obtain⟨c,hc,rfl⟩:=h
   obtain⟨o,h1,D⟩:=Dl ps b z.cells.toList z.cells.toList c eZ (fK.of_flat g (ok.qT j)).cells hc
   refine iA.pure H (v':=.agg o.toArray) ?_ D.TM
   unfold Instr.build
   rw[fk (ok.qe j w),fk (ok.gQ hu w)]
   simp only
   have hm:(fs.mapM (m:=Sem) fun f=>do pure (f.offset,<-Go.sizeOf f.type)).run P w=.ok ((fs.toList.map fun f=>(f.offset,(T.size f.type).getD 0)).toArray) w:=by
    rw[Array.mapM_eq_mapM_toList]
    rw[Sem.run_map,run_places ok fs.toList (cl t fs hu)]
    rfl
   rw[fk hm]
   have e:((fun(x:Nat)=>((fs.toList.map fun f=>(f.offset,(T.size f.type).getD 0)).toArray)[x]?))=LM T fs:=by
    funext i
    unfold LM
    simp only[List.getElem?_toArray,List.getElem?_map,Array.getElem?_toList]
    cases hf:fs[i]? with
    |none=>rfl
    |some f=>
     obtain⟨s,hs⟩:=cl t fs hu f (List.mem_iff_getElem?.2 ⟨i,by simpa using hf⟩)
     simp[hs]
   rw[e]
   simp only[Array.toArray_toList]at h1
   simp only[h1]
   rfl
 · rename_i z m el j hu
   cases hs:T.size el with
   |none=>rw[hs]at h;cases h
   |some s=>
    rw[hs]at h
    simp only[Option.bind_some,Option.map_eq_some_iff]at h
    obtain⟨c,hc,rfl⟩:=h
    obtain⟨o,h1,D⟩:=Dl ps b z.cells.toList z.cells.toList c eZ (fK.of_flat g (ok.qT j)).cells hc
    refine iA.pure H (v':=.agg o.toArray) ?_ D.TM
    unfold Instr.build
    rw[fk (ok.qe j w),fk (ok.gQ hu w)]
    simp only
    rw[fk (ok.n_ hs w)]
    simp only[Array.toArray_toList]at h1
    simp only[h1]
    rfl
 · cases h
def kH{α:Type}:Nat->List α->List α
 |0,_=>[]
 |n+1,z=>z++kH n z
theorem Cy(z:Array Value)(m:Nat):((Array.range (m*z.size)).map (fun i=>z[i%z.size]!)).toList=kH m z.toList:=by
 induction m with
 |zero=>simp[kH]
 |succ m ih=>
  rw[Array.toList_map,Array.toList_range]at ih⊢
  have e:(m+1)*z.size=z.size+m*z.size:=by rw[Nat.succ_mul];omega
  rw[e,List.range_add,List.map_append,List.map_map]
  unfold kH
  congr 1
  · refine List.ext_getElem? fun i=>?_
    simp only[List.getElem?_map]
    by_cases hi:i<z.size
    · rw[List.getElem?_range hi]
      simp[Nat.mod_eq_of_lt hi,hi]
    · rw[List.getElem?_eq_none (by simp;omega),List.getElem?_eq_none (by simp;omega)];rfl
  · rw[<-ih]
    refine List.map_congr_left fun i _=>?_
    simp
theorem gV.BF{z:Value}(h:flat z=true):gV g z.cells.toList z.cells.toList:=(fK.of_flat g h).cells
theorem gV.kH{z b:List Value}(h:gV g z b):∀m,gV g (kH m z) (Sw.kH m b)
 |0=>gV.nil g
 |m+1=>h.append (gV.kH h m)
def vB(n:Nat)(Z:List Value)(len cap:Nat):p0:=(.slice (some ⟨n,0,none⟩) len cap,[(n,some (.cells Z gi.plain))],1)
theorem BG(H:gm B0 w0 g O G w){Z lA:List Value}(hc:gV g Z lA){len cap:Nat}(hl:len<=cap)(el:TypeId){r:Result Value}
 (hr:r=.ok (.slice (some ⟨w.heap.size,0,none⟩) len cap) (w.alloc (.cells lA.toArray el))):iA B0 w0 g O G n w r (vB n Z len cap):=by
 intro e5 h1 D hf
 have hf:=hf 0 (by simp[vB])
 simp only[Nat.add_zero]at hf
 refine⟨g.add n (w.heap.size,0) none,_,_,hr,Gm.qS hf.fW _ _,Gm.Cw,?_,H.lX hf h1 (by simp[vB]at D;omega) hc el,vm.alloc _ _ _ _,by simp,pD.new⟩
 exact .slice (off:=0) (Gm.lS _ _ _ _) hl (.inl rfl)
def qM(T:Ty)(t:TypeId)(len:Nat)(parts:List (Nat×Value))(n:Nat):Option p0:=
 match T.jh t with
 |some (.slice el)=>match T.size el,T.zero el with
  |some s,some z=>bif Nat.ble (len*s) 16777216&&Nat.beq z.cells.toList.length s then(Dj (fun i=>some (i*s,s)) (kH len z.cells.toList) parts).map fun c=>vB n c len len else none
  |_,_=>none
 |_=>none
theorem F3(ok:T.Ok P)(H:gm B0 w0 g O G w){t:TypeId}{len:Nat}{ps j:List (Nat×Value)}{e:p0}(h:qM T t len ps n=some e)(eZ:Dk g ps j):
 iA B0 w0 g O G n w ((Instr.buildSlice t len j.toArray).run P w) e:=by
 unfold qM at h
 split at h
 · rename_i el hu
   split at h
   · rename_i s z hs u
     cases hb:(Nat.ble (len*s) 16777216&&Nat.beq z.cells.toList.length s)with
     |false=>rw[hb]at h;cases h
     |true=>
      rw[hb]at h
      simp only[cond_true,Option.map_eq_some_iff]at h
      obtain⟨c,hc,rfl⟩:=h
      rw[Bool.and_eq_true]at hb
      obtain⟨b1,b2⟩:=hb
      have b1:=fa b1
      have b2:=fj b2
      have p:z.cells.size=s:=by simpa using b2
      have BH:=gV.BF (g:=g) (ok.qT u)
      have key:∀z0:Array Value,z0=(if len*s=0 then #[]else z.cells)->((Array.range (len*s)).map (fun i=>z0[i%z0.size]!)).toList=kH len z.cells.toList:=by
       intro z0 e0
       by_cases h0:len*s=0
       · rw[h0,show(Array.range 0)=#[]from rfl]
         simp only[List.map_toArray,List.map_nil]
         rcases Nat.mul_eq_zero.1 h0 with h1|h1
         · subst h1;rfl
         · have:z.cells.toList=[]:=by rw[<-List.length_eq_zero_iff];omega
           rw[this]
           clear h0 hc
           have:∀m,kH m ([]:List Value)=[]:=fun m=>by induction m with
            |zero=>rfl
            |succ m ih=>simpa[kH]using ih
           rw[this]
       · rw[if_neg h0]at e0
         subst e0
         rw[<-p]
         exact Cy z.cells len
      obtain⟨y,h1,D⟩:=Dl ps j _ _ c eZ (BH.kH len) hc
      refine BG H D (e9 _) el ?_
      unfold Instr.buildSlice
      rw[fk (ok.gQ hu w)]
      simp only
      rw[fk (ok.n_ hs w),if_neg (by omega)]
      have o:=key _ rfl
      by_cases h0:len*s=0
      · rw[if_pos h0]at o⊢
        have b:(Array.range (len*s)).map (fun i=>(#[]:Array Value)[i%(#[]:Array Value).size]!)=(kH len z.cells.toList).toArray:=by rw[<-o]
        rw[pure_bind,b,h1]
        rw[fk (tk _ _ _)]
        rfl
      · rw[if_neg h0]at o⊢
        have b:(Array.range (len*s)).map (fun i=>z.cells[i%z.cells.size]!)=(kH len z.cells.toList).toArray:=by rw[<-o]
        rw[fk (ok.qe u w),pure_bind,b,h1]
        rw[fk (tk _ _ _)]
        rfl
   · cases h
 · cases h
theorem I4{b off rb ro k:Nat}(h:g.fW b=some (rb,ro)):fK g (.pointer (some ⟨b,off+k,none⟩)) (.pointer (some ((⟨rb,ro+off,none⟩:Addr).add k))):=by
 rw[Addr.uC,Nat.add_assoc]
 exact .ptr h
def Dm(T:Ty)(s:TypeId)(a:Value)(f:Nat):Option Value:=
 match a,T.jh s with
 |.pointer (some ⟨b,off,none⟩),some (.struct fs)=>match fs[f]? with
  |some fd=>match T.size fd.type with
   |some (_+1)=>some (.pointer (some ⟨b,off+fd.offset,none⟩))
   |_=>none
  |none=>none
 |_,_=>none
theorem GL(ok:T.Ok P)(H:gm B0 w0 g O G w){s:TypeId}{a a' v:Value}{f:Nat}(h:Dm T s a f=some v)(e:fK g a a'):iA B0 w0 g O G n w ((Instr.fieldAt s a' f).run P w) (v,[],0):=by
 unfold Dm at h
 split at h
 · rename_i b off fs hu
   split at h
   · rename_i fd hf
     split at h
     · rename_i k hs
       cases h
       obtain⟨_,rb,ro,hg,rfl⟩:=e.sy
       refine iA.pure H ?_ (I4 hg)
       unfold Instr.fieldAt
       rw[fk (ok.gQ hu w)]
       simp only[hf]
       unfold Instr.sureAddr
       rw[pure_bind]
       unfold fieldPlace
       rw[bind_assoc,fk (ok.n_ hs w),if_neg (by omega)]
       rfl
     · cases h
   · cases h
 · cases h
def u4(i:Int)(len:Nat):Bool:=
 match i with
 |.ofNat k=>Nat.blt k len
 |.negSucc _=>false
theorem A4{i:Int}{len:Nat}(h:u4 i len=true):0<=i/\i<len:=by
 unfold u4 at h
 split at h
 · have:=(Nat.blt_eq ..).mp h
   rename_i k
   show(0:Int)<=(k:Int)/\(k:Int)<len
   omega
 · cases h
def mH(T:Ty)(t:TypeId)(x i:Value):Option Value:=
 match T.jh t,x,i with
 |some (.array len el),.pointer (some ⟨b,off,none⟩),.int _ k=>bif u4 k len then(T.size el).map fun s=>.pointer (some ⟨b,off+k.toNat*s,none⟩)else none
 |some (.slice el),.slice (some ⟨b,off,none⟩) len _,.int _ k=>bif u4 k len then(T.size el).map fun s=>.pointer (some ⟨b,off+k.toNat*s,none⟩)else none
 |_,_,_=>none
theorem GM(ok:T.Ok P)(H:gm B0 w0 g O G w){t:TypeId}{x x' i e v:Value}(h:mH T t x i=some v)(hx:fK g x x')(hi:fK g i e):
 iA B0 w0 g O G n w ((Instr.indexAt t x' e).run P w) (v,[],0):=by
 unfold mH at h
 split at h
 · rename_i len el b off j k hu
   obtain rfl:=hi.kU
   cases hr:u4 k len with
   |false=>rw[hr]at h;cases h
   |true=>
    rw[hr]at h
    simp only[cond_true,Option.map_eq_some_iff]at h
    obtain⟨s,hs,rfl⟩:=h
    obtain⟨_,rb,ro,hg,rfl⟩:=hx.sy
    have hr:=A4 hr
    refine iA.pure H ?_ (I4 hg)
    unfold Instr.indexAt asIntOf
    rw[pure_bind,fk (ok.gQ hu w)]
    simp only[Instr.sureAddr,pure_bind]
    rw[fk (ok.gQ hu w)]
    rw[if_pos hr]
    rw[fk (ok.n_ hs w)]
    rfl
 · rename_i el b off len cap j k hu
   obtain rfl:=hi.kU
   cases hr:u4 k len with
   |false=>rw[hr]at h;cases h
   |true=>
    rw[hr]at h
    simp only[cond_true,Option.map_eq_some_iff]at h
    obtain⟨s,hs,rfl⟩:=h
    have hr:=A4 hr
    rcases hx.mW with⟨a2,rfl,_⟩|⟨_,rb,ro,c2,hg,_,_,rfl⟩
    · omega
    · refine iA.pure H ?_ (I4 hg)
      unfold Instr.indexAt asIntOf
      rw[pure_bind,fk (ok.gQ hu w)]
      simp only[pure_bind]
      rw[fk (ok.gQ hu w)]
      rw[if_pos hr]
      rw[fk (ok.n_ hs w)]
      rfl
 · cases h
end
end
end Sw
namespace Sw
noncomputable section
open Go Go.RowKit
section
variable {T:Ty}{P:Program}{B0:Nat}{w0:World}{g:Gm}{O:Hp}{G n:Nat}{w:World}
def x_(T:Ty)(t:TypeId)(Z:List Value)(off:Nat):Option Value:=
 match T.agg t with
 |some true=>(T.size t).bind fun k=>(lH k (Z.drop off)).map fun l=>.agg l.toArray
 |some false=>Z[off]?
 |none=>none
theorem tH(ok:T.Ok P){t:TypeId}{Z lA:Array Value}{off:Nat}{v:Value}(h:x_ T t Z.toList off=some v)(hc:sf g Z lA)(w:World):
 ∃v',(part t lA off).run P w=.ok v' w/\fK g v v':=by
 unfold x_ at h
 split at h
 · rename_i b
   cases hs:T.size t with
   |none=>rw[hs]at h;cases h
   |some k=>
    rw[hs]at h
    simp only[Option.bind_some,Option.map_eq_some_iff]at h
    obtain⟨l,hl,rfl⟩:=h
    obtain⟨rfl,hk⟩:=vZ _ _ _ hl
    refine⟨.agg (lA.extract off (off+k)),?_,?_⟩
    · unfold part
      rw[fk (ok.FK b w),if_pos rfl,fk (ok.n_ hs w)]
      rfl
    · have:lA.extract off (off+k)=(List.take k (List.drop off lA.toList)).toArray:=by
       rw[<-Array.toArray_toList (xs:=lA.extract off (off+k)),Array.toList_extract]
       simp[List.extract_eq_take_drop]
      rw[this]
      exact((hc.toList.drop off).take k).TM
 · rename_i b
   obtain⟨v',h1,D⟩:=hc.toList.get h
   refine⟨v',?_,D⟩
   unfold part
   rw[fk (ok.FK b w),if_neg (by simp)]
   have:lA[off]?=some v':=by simpa using h1
   simp only[this]
   rfl
 · cases h
def LP(T:Ty)(s:TypeId)(x:Value)(f:Nat):Option Value:=
 match x,T.jh s with
 |.agg Z,some (.struct fs)=>(fs[f]?).bind fun fd=>x_ T fd.type Z.toList fd.offset
 |_,_=>none
theorem LQ(ok:T.Ok P)(H:gm B0 w0 g O G w){s:TypeId}{x x' v:Value}{f:Nat}(h:LP T s x f=some v)(hx:fK g x x'):iA B0 w0 g O G n w ((Instr.field s x' f).run P w) (v,[],0):=by
 unfold LP at h
 split at h
 · rename_i Z fs hu
   cases hf:fs[f]? with
   |none=>rw[hf]at h;cases h
   |some fd=>
    rw[hf]at h
    obtain⟨lA,rfl,hc⟩:=hx.s8
    obtain⟨v',h1,D⟩:=tH ok h hc w
    refine iA.pure H ?_ D
    unfold Instr.field
    rw[fk (ok.gQ hu w)]
    simp only[hf,asAgg,pure_bind]
    exact h1
 · cases h
def LR(s:ByteArray)(k:Nat):Option UInt8:=s.data.toList[k]?
def wW(T:Ty)(t:TypeId)(x i:Value):Option Value:=
 match T.jh t,x,i with
 |some (.array len el),.agg Z,.int _ k=>bif u4 k len then(T.size el).bind fun s=>x_ T el Z.toList (k.toNat*s)else none
 |some .string,.string s,.int _ k=>match k with
  |.ofNat j=>(LR s j).map fun b=>.int .u8 b.toNat
  |.negSucc _=>none
 |_,_,_=>none
theorem LS(ok:T.Ok P)(H:gm B0 w0 g O G w){t:TypeId}{x x' i o v:Value}(h:wW T t x i=some v)(hx:fK g x x')(hi:fK g i o):iA B0 w0 g O G n w ((Instr.index t x' o).run P w) (v,[],0):=by
 unfold wW at h
 split at h
 · rename_i len el Z p k hu
   obtain rfl:=hi.kU
   cases hr:u4 k len with
   |false=>rw[hr]at h;cases h
   |true=>
    rw[hr]at h
    simp only[cond_true]at h
    cases hs:T.size el with
    |none=>rw[hs]at h;cases h
    |some s=>
     rw[hs]at h
     obtain⟨lA,rfl,hc⟩:=hx.s8
     obtain⟨v',h1,D⟩:=tH ok h hc w
     refine iA.pure H ?_ D
     unfold Instr.index asIntOf
     rw[pure_bind,fk (ok.gQ hu w)]
     simp only
     rw[if_pos (A4 hr),fk (ok.n_ hs w)]
     exact h1
 · rename_i s p k hu
   obtain rfl:=hi.kU
   obtain rfl:=hx.kY
   split at h
   · rename_i j
     simp only[Option.map_eq_some_iff]at h
     obtain⟨b,hb,rfl⟩:=h
     refine iA.pure H ?_ (.int _ _)
     unfold Instr.index asIntOf
     rw[pure_bind,fk (ok.gQ hu w)]
     have m:s[(Int.ofNat j).toNat]?=some b:=by
      unfold LR at hb
      rw[Array.getElem?_toList]at hb
      have jA:=sq hb
      have:s[(Int.ofNat j).toNat]?=s.data[j]?:=by
       show(if h:j<s.size then some s[j]else none)=_
       have e:j<s.size:=jA
       rw[dif_pos e,Array.getElem?_eq_getElem jA]
       rfl
      rw[this];exact hb
     have h0:(0:Int)<=Int.ofNat j:=Int.natCast_nonneg j
     simp only[if_pos h0,m]
     rfl
   · cases h
 · cases h
def xD(v:Value)(y:Nat):Option Nat:=
 match v with
 |.int _ (.ofNat k)=>bif Nat.ble k y then some k else none
 |_=>none
theorem xc{v v':Value}{y k y':Nat}(h:xD v y=some k)(b:fK g v v')(hy:y<=y')(code:BoundsCode)(w:World):(Instr.sliceBound v' y' code).run P w=.ok k w/\k<=y:=by
 unfold xD at h
 split at h
 · rename_i e j
   obtain rfl:=b.kU
   cases hb:Nat.ble j y with
   |false=>rw[hb]at h;cases h
   |true=>
    rw[hb]at h
    simp only[cond_true]at h
    cases h
    have hb:=fa hb
    refine⟨?_,hb⟩
    unfold Instr.sliceBound asIntOf
    rw[pure_bind]
    simp only
    have c:0<=Int.ofNat k/\Int.ofNat k<=(y':Int):=⟨Int.natCast_nonneg _,by show(k:Int)<=y';omega⟩
    rw[if_pos c]
    rfl
 · cases h
def I5(lo:Option Value)(y:Nat):Option Nat:=
 match lo with
 |none=>some 0
 |some l=>xD l y
def we(len cap:Nat)(lo hi b:Option Value):Option (Nat×Nat×Nat):=
 match b,hi with
 |none,none=>(I5 lo len).map fun l=>(l,len,cap)
 |none,some h=>(xD h cap).bind fun h=>(I5 lo h).map fun l=>(l,h,cap)
 |some m,some h=>(xD m cap).bind fun m=>(xD h m).bind fun h=>(I5 lo h).map fun l=>(l,h,m)
 |some _,none=>none
def B9(g:Gm)(x x':Option Value):Prop:=
 match x,x' with
 |none,none=>True
 |some v,some v'=>fK g v v'
 |_,_=>False
theorem wg{lo b:Option Value}{y r:Nat}(e:I5 lo y=some r)(rl:B9 g lo b)(code:BoundsCode)(K:Nat->Nat×Nat×Nat)(w:World):
 (match (generalizing:=false) b with|some v=>do let l<-Instr.sliceBound v y code;pure (K l)|none=>pure (K 0):Sem (Nat×Nat×Nat)).run P w=.ok (K r) w/\r<=y:=by
 cases lo<;>cases b<;>first|exact rl.elim|skip
 · cases e;exact⟨rfl,gG _⟩
 · obtain⟨h1,D⟩:=xc (P:=P) e rl (Nat.le_refl y) code w
   exact⟨by simp only;rw[fk h1];rfl,D⟩
theorem xe{len cap b:Nat}{lo hi z B j o:Option Value}{l h m:Nat}(e:we len cap lo hi z=some (l,h,m))(rl:B9 g lo B)(y:B9 g hi j)(A:B9 g z o)
 (hlen:len<=cap) (p:cap<=b) (isSlice:Bool) (w:World):
 ∃C,(Instr.sliceBounds isSlice len b B j o).run P w=.ok (l,h,C) w/\l<=h/\h<=m/\m<=cap/\((C=m/\z.isSome)\/(z=none/\m=cap/\C=b)):=by
 unfold we at e
 split at e
 · cases o with
   |some _=>exact A.elim
   |none=>
    cases j with
    |some _=>exact y.elim
    |none=>
     obtain⟨a,e2,e3⟩:=fx.1 e
     cases e3
     have u:=(wg (P:=P) e2 rl .sliceB (fun l=>(l,len,b)) w).2
     refine⟨b,?_,u,hlen,e9 _,.inr ⟨rfl,rfl,rfl⟩⟩
     unfold Instr.sliceBounds
     simp only[pure_bind]
     exact(wg (P:=P) e2 rl _ (fun l=>(l,len,b)) w).1
 · rename_i F
   cases o with
   |some _=>exact A.elim
   |none=>
    cases j with
    |none=>exact y.elim
    |some E=>
     obtain⟨h1,hb,e⟩:=fD.1 e
     obtain⟨a,e2,e3⟩:=fx.1 e
     cases e3
     have u:=(wg (P:=P) e2 rl .sliceB (fun l=>(l,h,b)) w).2
     obtain⟨b1,b2⟩:=xc (P:=P) hb y p (if isSlice then .sliceAcap else .sliceAlen) w
     refine⟨b,?_,u,b2,e9 _,.inr ⟨rfl,rfl,rfl⟩⟩
     unfold Instr.sliceBounds
     simp only[pure_bind]
     rw[fk b1]
     exact(wg (P:=P) e2 rl _ (fun l=>(l,h,b)) w).1
 · rename_i K F
   cases o with
   |none=>exact A.elim
   |some J=>
    cases j with
    |none=>exact y.elim
    |some E=>
     obtain⟨m1,hm,e⟩:=fD.1 e
     obtain⟨h1,hb,e⟩:=fD.1 e
     obtain⟨a,e2,e3⟩:=fx.1 e
     cases e3
     have u:=(wg (P:=P) e2 rl .slice3C (fun l=>(l,h,m)) w).2
     obtain⟨b1,b2⟩:=xc (P:=P) hb y (e9 _) .slice3B w
     obtain⟨c1,c2⟩:=xc (P:=P) hm A p (if isSlice then .slice3Acap else .slice3Alen) w
     refine⟨m,?_,u,b2,c2,.inl ⟨rfl,rfl⟩⟩
     unfold Instr.sliceBounds
     simp only[pure_bind]
     rw[fk c1,fk b1]
     exact(wg (P:=P) e2 rl _ (fun l=>(l,h,m)) w).1
 · cases e
def A6(O:Hp)(b s:Nat):Bool:=
 match O b with
 |some (.cells _ m)=>match m.mG with
  |none=>true
  |some _=>Nat.beq m.unit s
 |_=>false
def sH(T:Ty)(O:Hp)(t:TypeId)(x:Value)(lo hi e:Option Value):Option Value:=
 match T.jh t,x with
 |some .string,.string s=>match e with
  |none=>(we s.data.toList.length s.data.toList.length lo hi none).map fun r=>.string ⟨((s.data.toList.drop r.1).take (r.2.1-r.1)).toArray⟩
  |some _=>none
 |some (.slice el),.slice (some ⟨b,off,none⟩) len cap=>
   (T.size el).bind fun s=>bif Nat.ble len cap&&(Nat.beq cap 0||A6 O b s)then(we len cap lo hi e).map fun r=>.slice (some ⟨b,off+r.1*s,none⟩) (r.2.1-r.1) (r.2.2-r.1)else none
 |some (.slice el),.slice none _ _=>(T.size el).bind fun _=>(we 0 0 lo hi e).map fun _=>.slice none 0 0
 |some (.array k el),.pointer (some ⟨b,off,none⟩)=>(T.size el).bind fun s=>(we k k lo hi e).map fun r=>.slice (some ⟨b,off+r.1*s,none⟩) (r.2.1-r.1) (r.2.2-r.1)
 |_,_=>none
theorem gm.We(H:gm B0 w0 g O G w){b s:Nat}(h:A6 O b s=true):g.room b=none\/∃p,g.room b=some (p,s):=by
 unfold A6 at h
 split at h
 · rename_i Z m hb
   cases e:g.fW b with
   |none=>
    cases hr:g.room b with
    |none=>exact .inl rfl
    |some x=>exact(H.room b x hr e).elim
   |some x=>
   obtain⟨y,el,u,a2,_,_,_,j,o⟩:=H.uZ hb (rb:=x.1) (ro:=x.2) e
   split at h
   · rename_i hg;exact .inl (o hg)
   · rename_i gr hg
     have:=fj h
     subst this
     exact .inr ⟨_,j gr hg⟩
 · cases h
theorem Af(s:ByteArray)(l h:Nat):s.extract l h=⟨((s.data.toList.drop l).take (h-l)).toArray⟩:=by
 have e:(s.extract l h).data=s.data.extract l h:=ByteArray.data_extract
 have:(s.extract l h).data=((s.data.toList.drop l).take (h-l)).toArray:=by
  rw[e,<-Array.toArray_toList (xs:=s.data.extract l h),Array.toList_extract]
 cases hs:s.extract l h with
 |mk d=>rw[hs]at this;simp only at this;rw[this]
theorem LU(ok:T.Ok P)(H:gm B0 w0 g O G w){t:TypeId}{x x' v:Value}{lo hi L C A y:Option Value}(h:sH T O t x lo hi L=some v)(hx:fK g x x')
 (rl:B9 g lo C) (M:B9 g hi A) (N:B9 g L y):iA B0 w0 g O G n w ((Instr.sliceAt t x' C A y).run P w) (v,[],0):=by
 unfold sH at h
 split at h
 ·
  rename_i s hu
  obtain rfl:=hx.kY
  split at h
  · cases y with
    |some _=>exact N.elim
    |none=>
     obtain⟨⟨l,o,m⟩,e1,e2⟩:=fx.1 h
     subst e2
     obtain⟨e,z,_⟩:=xe (P:=P) e1 rl M (show B9 g none none from trivial) (e9 _) (e9 _) false w
     refine iA.pure H (v':=.string (s.extract l o)) ?_ ?_
     · unfold Instr.sliceAt
       rw[fk (ok.gQ hu w)]
       simp only
       unfold Instr.slice
       rw[fk (ok.gQ hu w)]
       simp only[Option.isSome_none,Bool.false_eq_true,if_false]
       have:s.size=s.data.toList.length:=by rw[Array.length_toList];rfl
       rw[this,fk z]
       rfl
     · rw[Af]
       exact .string _
  · cases h
 ·
  rename_i el b off len cap hu
  obtain⟨s,hs,h⟩:=fD.1 h
  cases hb:(Nat.ble len cap&&(Nat.beq cap 0||A6 O b s))with
  |false=>rw[hb]at h;cases h
  |true=>
   rw[hb]at h
   simp only[cond_true]at h
   rw[Bool.and_eq_true]at hb
   have ae:=fa hb.1
   obtain⟨⟨l,o,m⟩,e1,e2⟩:=fx.1 h
   subst e2
   have hr:∀(p:Nat) (a':Addr),cap<=p->∃e,(Instr.sliceAt t (.slice (some a') len p) C A y).run P w=.ok (.slice (some (if e=l then a' else a'.add (l*s))) (o-l) (e-l)) w/\
    l<=o/\o<=m/\m<=cap/\((e=m/\L.isSome)\/(L=none/\m=cap/\e=p)):=by
    intro p a' F
    obtain⟨e,z,S,W,X,K⟩:=xe (P:=P) e1 rl M N ae F true w
    refine⟨e,?_,S,W,X,K⟩
    unfold Instr.sliceAt
    rw[fk (ok.gQ hu w)]
    simp only
    unfold Instr.slice
    rw[fk (ok.gQ hu w)]
    simp only
    rw[fk z]
    simp only
    rw[fk (ok.n_ hs w)]
    split<;>rfl
   rcases hx.mW with⟨a2,rfl,rfl,rfl⟩|⟨_,rb,ro,c2,hg,_,E,rfl⟩
   · obtain⟨e,aa,ag,q3,ah,j⟩:=hr 0 a2 (Nat.le_refl _)
     have B:e=0:=by rcases j with j|j<;>omega
     refine iA.pure H aa ?_
     have e1:o-l=0:=by omega
     have e2:m-l=0:=by omega
     have e3:e-l=0:=by omega
     simp only[e1,e2,e3]
     exact .ox _ _
   · have F:cap<=c2:=by rcases E with h1|⟨h1,_⟩<;>omega
     obtain⟨e,aa,ag,q3,ah,j⟩:=hr c2 _ F
     refine iA.pure H aa ?_
     have aj:m<=e:=by rcases j with j|j<;>omega
     by_cases J:e=l
     · have e1:o-l=0:=by omega
       have e2:m-l=0:=by omega
       have e3:e-l=0:=by omega
       simp only[e1,e2,e3]
       exact .ox _ _
     · simp only[if_neg J]
       rw[Addr.uC,Nat.add_assoc]
       refine .slice hg (by omega) ?_
       rcases j with⟨j,_⟩|⟨_,j,q6⟩
       · exact .inl (by omega)
       · rcases E with h1|⟨h1,ai,u,D,h3⟩
         · exact .inl (by omega)
         · refine .inr ⟨by omega,ai,u,D,?_⟩
           rcases Bool.or_eq_true _ _▸hb.2 with af|ab
           · have af:=Nat.eq_of_beq_eq_true af
             have ad:l=0:=by omega
             subst q6;subst ad
             simpa using h3
           rcases H.We ab with h4|⟨ak,h4⟩
           · rw[D]at h4;cases h4
           · rw[D]at h4;cases h4
             subst q6
             simp only at h3
             have:l*s+(e-l)*s=e*s:=by rw[<-Nat.add_mul];congr 1;omega
             omega
 ·
  rename_i el am al hu
  obtain⟨rfl,rfl,rfl⟩:=hx.lW
  obtain⟨s,hs,h⟩:=fD.1 h
  obtain⟨⟨l,o,m⟩,e1,e2⟩:=fx.1 h
  subst e2
  obtain⟨e,z,S,W,X,K⟩:=xe (P:=P) e1 rl M N (e9 _) (e9 _) true w
  have B:e=0:=by rcases K with j|j<;>omega
  have hl:l=0:=by omega
  have ac:o=0:=by omega
  subst B hl ac
  refine iA.pure H (v':=.slice none 0 0) ?_ .qb
  unfold Instr.sliceAt
  rw[fk (ok.gQ hu w)]
  simp only
  unfold Instr.slice
  rw[fk (ok.gQ hu w)]
  simp only
  rw[fk z]
  simp only
  rw[fk (ok.n_ hs w)]
  rfl
 ·
  rename_i k el b off hu
  obtain⟨s,hs,h⟩:=fD.1 h
  obtain⟨⟨l,o,m⟩,e1,e2⟩:=fx.1 h
  subst e2
  obtain⟨_,rb,ro,hg,rfl⟩:=hx.sy
  obtain⟨e,z,S,W,X,K⟩:=xe (P:=P) e1 rl M N (e9 _) (e9 _) false w
  have B:e=m:=by rcases K with j|j<;>omega
  subst B
  have R:(Instr.sliceAt t (.pointer (some ⟨rb,ro+off,none⟩)) C A y).run P w=.ok (.slice (some (if e=l then⟨rb,ro+off,none⟩else(⟨rb,ro+off,none⟩:Addr).add (l*s))) (o-l) (e-l)) w:=by
   unfold Instr.sliceAt
   rw[fk (ok.gQ hu w)]
   simp only[Instr.sureAddr,pure_bind]
   rw[fk z]
   simp only
   rw[fk (ok.n_ hs w)]
   rfl
  refine iA.pure H R ?_
  by_cases J:e=l
  · have e1:o-l=0:=by omega
    have e2:e-l=0:=by omega
    simp only[e1,e2]
    exact .ox _ _
  · simp only[if_neg J]
    rw[Addr.uC,Nat.add_assoc]
    exact .slice hg (by omega) (.inl rfl)
 · cases h
end
end
end Sw
namespace Sw
noncomputable section
open Go
def rI:Int->Int->Bool
 |.ofNat a,.ofNat b=>Nat.blt a b
 |.negSucc a,.negSucc b=>Nat.blt b a
 |.negSucc _,.ofNat _=>true
 |.ofNat _,.negSucc _=>false
def kC:Int->Int->Bool
 |.ofNat a,.ofNat b=>Nat.beq a b
 |.negSucc a,.negSucc b=>Nat.beq a b
 |_,_=>false
def DY(x y:Int):Bool:=!(rI y x)
theorem mE{a b:Nat}:Nat.blt a b=true↔a<b:=by
 constructor
 · intro h;exact(Nat.blt_eq ..).mp h
 · intro h;exact(Nat.blt_eq (x:=a) (y:=b)).mpr h
theorem sA{x y:Int}:rI x y=true↔x<y:=by
 cases x<;>cases y<;>simp only[rI]
 · rw[mE];constructor<;>intro h<;>first|(show(_:Int)<_;exact Int.ofNat_lt.2 h)|exact Int.ofNat_lt.1 h
 · simp;omega
 · simp;omega
 · rw[mE];omega
theorem Er(x y:Int):rI x y=decide (x<y):=by
 rw[Bool.eq_iff_iff,sA];simp
theorem lJ{x y:Int}:kC x y=true↔x=y:=by
 cases x<;>cases y<;>simp only[kC]
 · constructor
   · intro h;rw[Nat.eq_of_beq_eq_true h]
   · intro h;cases h;exact Nat.beq_refl _
 · simp
 · simp
 · constructor
   · intro h;rw[Nat.eq_of_beq_eq_true h]
   · intro h;cases h;exact Nat.beq_refl _
theorem Es(x y:Int):kC x y=(x==y):=by
 rw[Bool.eq_iff_iff,lJ];simp
theorem LV(x y:Int):DY x y=decide (x<=y):=by
 unfold DY
 rw[Er,Bool.eq_iff_iff]
 simp
def rU:IntKind->Nat
 |.i8|.u8=>256
 |.i16|.u16=>65536
 |.i32|.u32=>4294967296
 |.i64|.u64=>18446744073709551616
def An:IntKind->Nat
 |.i8=>128|.i16=>32768|.i32=>2147483648|.i64=>9223372036854775808
 |.u8=>256|.u16=>65536|.u32=>4294967296|.u64=>18446744073709551616
def xf(k:IntKind)(r:Nat):Int:=bif Nat.ble (An k) r then .negSucc (Nat.sub (Nat.sub (rU k) r) 1)else .ofNat r
def qU(k:IntKind)(n:Int):Nat:=
 match n with
 |.ofNat a=>Nat.mod a (rU k)
 |.negSucc a=>Nat.sub (Nat.sub (rU k) 1) (Nat.mod a (rU k))
def gn(k:IntKind)(n:Int):Int:=xf k (qU k n)
theorem LW(k:IntKind):(2^k.bits:Int)=rU k:=by cases k<;>decide
theorem LX(k:IntKind):0<rU k:=by cases k<;>decide
theorem Rk(k:IntKind)(h:k.signed=true):(2^(k.bits-1):Int)=An k:=by cases k<;>first|decide|(simp[IntKind.signed]at h)
theorem Rl(k:IntKind)(h:k.signed=false):An k=rU k:=by cases k<;>first|rfl|(simp[IntKind.signed]at h)
theorem I6(k:IntKind)(n:Int):(qU k n:Int)=n%(rU k:Int):=by
 have O:=LX k
 cases n with
 |ofNat a=>simp only[qU];show((a%rU k:Nat):Int)=(a:Int)%(rU k:Int);rw[Int.natCast_emod]
 |negSucc a=>
  simp only[qU]
  show((rU k-1-a%rU k:Nat):Int)=_
  have h1:=Nat.mod_lt a O
  rw[Int.negSucc_emod _ (by omega)]
  have:(a:Int)%(rU k:Int)=((a%rU k:Nat):Int):=by rw[Int.natCast_emod]
  rw[this]
  omega
theorem Wf(k:IntKind)(n:Int):qU k n<rU k:=by
 have h:=I6 k n
 have:=Int.emod_lt_of_pos n (b:=(rU k:Int)) (by have:=LX k;omega)
 omega
theorem TN(k:IntKind){r:Nat}(h:r<rU k):xf k r=if k.signed&&decide ((r:Int)>=(2^(k.bits-1):Int))then(r:Int)-(2^k.bits:Int)else(r:Int):=by
 unfold xf
 rw[LW]
 cases hs:k.signed with
 |false=>
  have:Nat.ble (An k) r=false:=by
   rw[Rl k hs]
   cases hb:Nat.ble (rU k) r with
   |false=>rfl
   |true=>have:=fa hb;omega
  rw[this];simp
 |true=>
  rw[Rk k hs]
  cases hb:Nat.ble (An k) r with
  |true=>
   have:=fa hb
   simp only[cond_true,Bool.true_and]
   rw[if_pos (by simp;omega)]
   show Int.negSucc (rU k-r-1)=_
   omega
  |false=>
   have:¬An k<=r:=fun h=>by rw[Nat.ble_eq_true_of_le h]at hb;cases hb
   simp only[cond_false,Bool.true_and]
   rw[if_neg (by simp;omega)]
   rfl
theorem tI(k:IntKind)(n:Int):gn k n=k.wrap n:=by
 unfold gn IntKind.wrap
 rw[TN k (Wf k n)]
 simp only[I6,LW]
def PO(op:BinOp)(k:IntKind)(x y:Int):Option Int:=
 match op with
 |.and=>some (xf k (Nat.land (qU k x) (qU k y)))
 |.or=>some (xf k (Nat.lor (qU k x) (qU k y)))
 |.xor=>some (xf k (Nat.xor (qU k x) (qU k y)))
 |.andNot=>some (xf k (Nat.land (qU k x) (Nat.sub (Nat.sub (rU k) 1) (qU k y))))
 |_=>none
theorem Et(k:IntKind):rU k=2^k.bits:=by cases k<;>decide
theorem toNat_ofInt(k:IntKind)(x:Int):(BitVec.ofInt k.bits x).toNat=qU k x:=by
 rw[BitVec.toNat_ofInt]
 have:=I6 k x
 rw[<-Et]
 omega
theorem Ao(k:IntKind){r:Nat}(h:r<rU k):xf k r=k.wrap r:=by
 rw[<-tI]
 unfold gn
 congr 1
 show r=r%rU k
 rw[Nat.mod_eq_of_lt h]
theorem u5{op:BinOp}{k:IntKind}{x y r:Int}(h:PO op k x y=some r)(P:Program)(w:World):(Op.intBits op k x y).run P w=.ok (.int k r) w:=by
 have lt (z:BitVec k.bits):z.toNat<rU k:=by rw[Et];exact z.isLt
 have hx:=toNat_ofInt k x
 have hy:=toNat_ofInt k y
 cases op<;>first|(cases h;done)|skip
 all_goals
  simp only[PO,Option.some.injEq]at h
  subst h
  simp only[Op.intBits]
  show Result.ok _ w=_
  congr 2
 · rw[show Nat.land (qU k x) (qU k y)=(BitVec.ofInt k.bits x &&& BitVec.ofInt k.bits y).toNat from by rw[BitVec.toNat_and,hx,hy];rfl]
   exact(Ao k (lt _)).symm
 · rw[show Nat.lor (qU k x) (qU k y)=(BitVec.ofInt k.bits x ||| BitVec.ofInt k.bits y).toNat from by rw[BitVec.toNat_or,hx,hy];rfl]
   exact(Ao k (lt _)).symm
 · rw[show Nat.xor (qU k x) (qU k y)=(BitVec.ofInt k.bits x ^^^ BitVec.ofInt k.bits y).toNat from by rw[BitVec.toNat_xor,hx,hy];rfl]
   exact(Ao k (lt _)).symm
 · rw[show Nat.land (qU k x) (Nat.sub (Nat.sub (rU k) 1) (qU k y))=(BitVec.ofInt k.bits x &&& ~~~BitVec.ofInt k.bits y).toNat from by
    rw[BitVec.toNat_and,BitVec.toNat_not,hx,hy,<-Et];rfl]
   exact(Ao k (lt _)).symm
end
end Sw
