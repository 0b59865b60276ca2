/- A part of the proof that the law returns true for every input that its row speaks of. No condition is added. -/
import Derived.Below
import Derived.Calls
import GoSem.Machine.Frame
import Derived.RangeFuncRecord
import Derived.Laws.Sem
import GoSem.Dispatch
namespace Sw
noncomputable section
open Go
theorem fa.{u_1}:∀ {α : Type u_1} {l : List α} {i : Nat} {a : α}, l[i]? = some a → a ∈ l:=@List.mem_of_getElem?
theorem fb:∀ {n m k : Nat}, n < m → m ≤ k → n < k:=@Nat.lt_of_lt_of_le
theorem fe:∀ {x y : Bool}, (x && y) = true ↔ x = true ∧ y = true:=@Bool.and_eq_true_iff
theorem ff:∀ {n m k : Nat}, n ≤ m → m ≤ k → n ≤ k:=@Nat.le_trans
theorem fg:∀ (n : Nat), n ≤ n:=@Nat.le_refl
theorem fh:∀ (n : Nat), n ≤ n.succ:=@Nat.le_succ
theorem fk:∀ {n m : Nat}, n.ble m = true → n ≤ m:=@Nat.le_of_ble_eq_true
theorem fo:∀ (n : Nat), n < n.succ:=@Nat.lt_succ_self
theorem fp.{u_1}:∀ {α : Type u_1} {i : Nat} {a : α} {l : List α}, l[i]? = some a ↔ ∃ (h : i < l.length), l[i] = a:=@List.getElem?_eq_some_iff
theorem fq.{u_1}:∀ {α : Type u_1} {l : List α} {i : Nat} (h : i < l.length), l[i]? = some l[i]:=@List.getElem?_eq_getElem
theorem fu:∀ {a : Prop}, ¬¬a ↔ a:=@Classical.not_not
theorem fz.{u_1}:∀ {α : Type u_1} {a : α} {l : List α}, a ∈ a :: l:=@List.mem_cons_self
theorem fC:∀ {n m : Nat}, n.beq m = true → n = m:=@Nat.eq_of_beq_eq_true
theorem fE:∀ {m n : Nat}, m < n.succ ↔ m < n ∨ m = n:=@Nat.lt_succ_iff_lt_or_eq
theorem fG.{u_1}:∀ {α : Type u_1} (y : α) {a : α} {l : List α}, a ∈ l → a ∈ y :: l:=@List.mem_cons_of_mem
theorem fI.{u_1,u_2}:∀ {α : Type u_1} {b : α} {α_1 : Type u_2} {x : Option α_1} {f : α_1 → α}, Option.map f x = some b ↔ ∃ (a : α_1), x = some a ∧ f a = b:=@Option.map_eq_some_iff
theorem fJ.{u_1}:∀ {α : Type u_1} {i : Nat} {l : List α}, l.length ≤ i → List.take i l = l:=@List.take_of_length_le
theorem fK:∀ (n : Nat), ¬n < 0:=@Nat.not_lt_zero
theorem fM.{u_1,u_2}:∀ {α : Type u_1} {b : α} {α_1 : Type u_2} {x : Option α_1} {f : α_1 → Option α}, x.bind f = some b ↔ ∃ (a : α_1), x = some a ∧ f a = some b:=@Option.bind_eq_some_iff
theorem fO.{u_1}:∀ {α : Type u_1} {p : α → Bool} {l : List α}, l.all p = true ↔ ∀ (x : α), x ∈ l → p x = true:=@List.all_eq_true
theorem fR.{u_1}:∀ {α : Type u_1} {a : α} {s t : List α}, a ∈ s ++ t ↔ a ∈ s ∨ a ∈ t:=@List.mem_append
theorem fS.{u_1}:∀ {α : Type u_1} {a : α} {l : List α}, a ∈ l → ∃ (i : Nat), l[i]? = some a:=@List.getElem?_of_mem
theorem fT.{u_1}:∀ {α : Type u_1} {b : α} {l : List α} {a : α}, a ∈ b :: l ↔ a = b ∨ a ∈ l:=@List.mem_cons
theorem fU.{u_1,u_2}:∀ {α : Type u_1} {β : Type u_2} {b : β} {f : α → β} {l : List α}, b ∈ List.map f l ↔ ∃ (a : α), a ∈ l ∧ f a = b:=@List.mem_map
theorem fZ.{u_1}:∀ {α : Type u_1} {l : List α}, l.length = 0 → l = []:=@List.eq_nil_of_length_eq_zero
theorem gb.{u_1}:∀ {α : Type u_1} {val val_1 : α}, some val = some val_1 → val = val_1:=@Option.some.inj
theorem gf.{u_1}:∀ {α : Type u_1} {i : Nat} {b : α} {xs : Array α}, xs[i]? = some b ↔ ∃ (h : i < xs.size), xs[i] = b:=@Array.getElem?_eq_some_iff
theorem gh:∀ {n m k : Nat}, n < m → m = k → n < k:=@Nat.lt_of_lt_of_eq
theorem gk:∀ {a : Prop}, a ↔ a:=@Iff.rfl
theorem gl:∀ {n m : Nat}, n ≤ m → n.ble m = true:=@Nat.ble_eq_true_of_le
theorem gn:∀ (n m : Nat), n < m ∨ n ≥ m:=@Nat.lt_or_ge
theorem gp:∀ (n : Nat), n = 0 ∨ n > 0:=@Nat.eq_zero_or_pos
theorem gv:∀ (n k : Nat), n ≤ n + k:=@Nat.le_add_right
theorem gz:∀ {b : Bool}, b = false ↔ b ≠ true:=@Bool.eq_false_iff
theorem gA.{u_1}:∀ {α : Type u_1} {xs : Array α} {i : Nat} (h : i < xs.size), xs[i]? = some xs[i]:=@Array.getElem?_eq_getElem
theorem gC.{u_1}:∀ {α : Type u_1} {a : α} {l : List α}, a ∈ l ↔ ∃ (i : Nat), ∃ (h : i < l.length), l[i] = a:=@List.mem_iff_getElem
theorem gI:∀ (n : Nat), 0 ≤ n:=@Nat.zero_le
theorem gJ:∀ {n m : Nat} (k : Nat), n ≤ m → n * k ≤ m * k:=@Nat.mul_le_mul_right
theorem gK:∀ {a : Int}, 0 ≤ a → ↑a.toNat = a:=@Int.toNat_of_nonneg
theorem gL:∀ {m n : Nat}, m ∈ List.range n ↔ m < n:=@List.mem_range
theorem gM:∀ (a : Int), a ≤ a:=@Int.le_refl
structure gm where
 ro:Bool
 mP:Option Nat
 base:Nat
 unit:Nat
def gm.plain:gm:=⟨false,none,0,0⟩
structure Mem where
 ga:Nat
 base:Nat
 len:Nat
structure td(E:Type) where
 state:LoopState
 pending:Option Code
 fn:FuncId
 tmps:E
 nt:Nat
 params:List Tmp
 assign:Code
 body:Code
 defers:Nat
inductive jT(E:Type) where
 |cells (Z:List Value) (m:gm)
 |map (es:List MapEntry) (clock:Nat)
 |mapIter (m:Option Nat) (ju:Nat) (seen:List Nat) (Pp:Nat)
 |FY (s:ByteArray) (pos:Nat)
 |loop (l:td E)
 |deferred (ds:Option (List Deferred))
 |group (ms:List Mem)
structure Gm where
 ga:Nat->Option (Nat×Nat)
 room:Nat->Option (Nat×Nat)
def Gm.le(g g':Gm):Prop:=(∀b x,g.ga b=some x->g'.ga b=some x)/\(∀b x,g.ga b=some x->g'.room b=g.room b)
theorem Gm.le_refl(g:Gm):g.le g:=⟨fun _ _ h=>h,fun _ _ _=>rfl⟩
theorem Gm.le_trans{a b c:Gm}(h:a.le b)(k:b.le c):a.le c:=⟨fun x y e=>k.1 x y (h.1 x y e),fun x y e=>(k.2 x y (h.1 x y e)).trans (h.2 x y e)⟩
def FZ(g:Gm)(b:Nat)(at_ c1 c2:Nat):Prop:=
 c1=c2\/(c1<c2/\∃e u,g.room b=some (e,u)/\at_+c2*u<=e)
theorem FZ.mono{g g':Gm}(h:g.le g'){b at_ c1 c2:Nat}{x:Nat×Nat}(hb:g.ga b=some x)(k:FZ g b at_ c1 c2):FZ g' b at_ c1 c2:=by
 rcases k with k|⟨k,j,u,e,l⟩
 · exact .inl k
 · exact .inr ⟨k,j,u,(h.2 _ _ hb).trans e,l⟩
inductive fP(g:Gm):Value->Value->Prop where
 |bool (b:Bool):fP g (.bool b) (.bool b)
 |int (k:IntKind) (n:Int):fP g (.int k n) (.int k n)
 |string (s:ByteArray):fP g (.string s) (.string s)
 |nilPtr:fP g (.pointer none) (.pointer none)
 |ptr {b off rb ro:Nat} (h:g.ga b=some (rb,ro)):fP g (.pointer (some ⟨b,off,none⟩)) (.pointer (some ⟨rb,ro+off,none⟩))
 |qn:fP g (.slice none 0 0) (.slice none 0 0)
 |slice {b off rb ro l c1 c2:Nat} (h:g.ga b=some (rb,ro)) (hl:l<=c1) (hc:FZ g b (ro+off) c1 c2):
   fP g (.slice (some ⟨b,off,none⟩) l c1) (.slice (some ⟨rb,ro+off,none⟩) l c2)
 |oM (a1 a2:Addr):fP g (.slice (some a1) 0 0) (.slice (some a2) 0 0)
 |vO:fP g (.map none) (.map none)
 |map {r rr:Nat} (h:g.ga r=some (rr,0)):fP g (.map (some r)) (.map (some rr))
 |nilFunc:fP g .nilFunc .nilFunc
 |nilIface:fP g .nilIface .nilIface
 |func {f:FuncId} {x x' y y':Array Value} (hx:x.size=x'.size) (hy:y.size=y'.size)
   (kx:∀(i:Nat) (v v':Value),x[i]?=some v->x'[i]?=some v'->fP g v v')
   (ky:∀(i:Nat) (v v':Value),y[i]?=some v->y'[i]?=some v'->fP g v v'):fP g (.func (.func f) x y) (.func (.func f) x' y')
 |method {n:String} {x x' y y':Array Value} (hx:x.size=x'.size) (hy:y.size=y'.size)
   (kx:∀(i:Nat) (v v':Value),x[i]?=some v->x'[i]?=some v'->fP g v v')
   (ky:∀(i:Nat) (v v':Value),y[i]?=some v->y'[i]?=some v'->fP g v v'):fP g (.func (.method n) x y) (.func (.method n) x' y')
 |A0 {l rl:Nat} (h:g.ga l=some (rl,0)):fP g (.func (.yield l) #[] #[]) (.func (.yield rl) #[] #[])
 |iface {t:TypeId} {v v':Value} (h:fP g v v'):fP g (.iface t v) (.iface t v')
 |agg {x x':Array Value} (hx:x.size=x'.size) (kx:∀(i:Nat) (v v':Value),x[i]?=some v->x'[i]?=some v'->fP g v v'):fP g (.agg x) (.agg x')
 |tuple {x x':Array Value} (hx:x.size=x'.size) (kx:∀(i:Nat) (v v':Value),x[i]?=some v->x'[i]?=some v'->fP g v v'):fP g (.tuple x) (.tuple x')
theorem fP.mono{g g':Gm}(h:g.le g'){v v':Value}(r:fP g v v'):fP g' v v':=by
 induction r with
 |bool b=>exact .bool b
 |int k n=>exact .int k n
 |string s=>exact .string s
 |nilPtr=>exact .nilPtr
 |ptr e=>exact .ptr (h.1 _ _ e)
 |qn=>exact .qn
 |slice e hl hc=>exact .slice (h.1 _ _ e) hl (hc.mono h e)
 |oM a b=>exact .oM a b
 |vO=>exact .vO
 |map e=>exact .map (h.1 _ _ e)
 |nilFunc=>exact .nilFunc
 |nilIface=>exact .nilIface
 |func hx hy _ _ ix iy=>exact .func hx hy ix iy
 |method hx hy _ _ ix iy=>exact .method hx hy ix iy
 |A0 e=>exact .A0 (h.1 _ _ e)
 |iface _ i=>exact .iface i
 |agg hx _ i=>exact .agg hx i
 |tuple hx _ i=>exact .tuple hx i
def sy(g:Gm)(x x':Array Value):Prop:=x.size=x'.size/\∀(i:Nat) (v v':Value),x[i]?=some v->x'[i]?=some v'->fP g v v'
def gZ(g:Gm)(x x':List Value):Prop:=x.length=x'.length/\∀(i:Nat) (v v':Value),x[i]?=some v->x'[i]?=some v'->fP g v v'
theorem gZ.nil(g:Gm):gZ g [] []:=⟨rfl,fun i v v' h _=>by simp at h⟩
theorem gZ.cons{g:Gm}{v v':Value}{x x':List Value}(h:fP g v v')(k:gZ g x x'):gZ g (v::x) (v'::x'):=
 ⟨by simp[k.1],fun i u j e b=>by
   cases i with
   |zero=>simp at e b;subst e;subst b;exact h
   |succ i=>simp at e b;exact k.2 i u j e b⟩
theorem gZ.head{g:Gm}{v v':Value}{x x':List Value}(h:gZ g (v::x) (v'::x')):fP g v v':=h.2 0 v v' rfl rfl
theorem gZ.tail{g:Gm}{v v':Value}{x x':List Value}(h:gZ g (v::x) (v'::x')):gZ g x x':=
 ⟨by have:=h.1;simpa using this,fun i u j e b=>h.2 (i+1) u j (by simpa using e) (by simpa using b)⟩
theorem gZ.mono{g g':Gm}(h:g.le g'){x x':List Value}(r:gZ g x x'):gZ g' x x':=⟨r.1,fun i v v' e b=>(r.2 i v v' e b).mono h⟩
theorem sy.mono{g g':Gm}(h:g.le g'){x x':Array Value}(r:sy g x x'):sy g' x x':=⟨r.1,fun i v v' e b=>(r.2 i v v' e b).mono h⟩
theorem sy.toList{g:Gm}{x x':Array Value}(h:sy g x x'):gZ g x.toList x'.toList:=⟨by simpa using h.1,fun i v v' e b=>h.2 i v v' (by simpa using e) (by simpa using b)⟩
theorem gZ.toArray{g:Gm}{x x':List Value}(h:gZ g x x'):sy g x.toArray x'.toArray:=⟨by simpa using h.1,fun i v v' e b=>h.2 i v v' (by simpa using e) (by simpa using b)⟩
theorem gZ.append{g:Gm}{x x' y y':List Value}(h:gZ g x x')(k:gZ g y y'):gZ g (x++y) (x'++y'):=
 ⟨by simp[h.1,k.1],fun i v v' e b=>by
   rw[List.getElem?_append]at e b
   by_cases hi:i<x.length
   · rw[if_pos hi]at e;rw[if_pos (h.1▸hi)]at b;exact h.2 i v v' e b
   · rw[if_neg hi]at e;rw[if_neg (h.1▸hi)]at b;rw[<-h.1]at b;exact k.2 _ v v' e b⟩
theorem gZ.drop{g:Gm}{x x':List Value}(h:gZ g x x')(n:Nat):gZ g (x.drop n) (x'.drop n):=
 ⟨by simp[h.1],fun i v v' e b=>h.2 (n+i) v v' (by simpa using e) (by simpa using b)⟩
theorem gZ.take{g:Gm}{x x':List Value}(h:gZ g x x')(n:Nat):gZ g (x.take n) (x'.take n):=
 ⟨by simp[h.1],fun i v v' e b=>by
   rw[List.getElem?_take]at e b
   by_cases hi:i<n
   · simp[hi]at e b;exact h.2 i v v' e b
   · simp[hi]at e⟩
theorem gZ.get{g:Gm}{x x':List Value}(h:gZ g x x'){i:Nat}{v:Value}(e:x[i]?=some v):∃v',x'[i]?=some v'/\fP g v v':=by
 have hi:i<x.length:=(fp.1 e).1
 have b:i<x'.length:=h.1▸hi
 exact⟨x'[i],fq b,h.2 i v _ e (fq b)⟩
theorem gZ.set{g:Gm}{x x':List Value}(h:gZ g x x')(n:Nat){u j:Value}(hu:fP g u j):gZ g (x.set n u) (x'.set n j):=
 ⟨by simp[h.1],fun i v v' e b=>by
   rw[List.getElem?_set]at e b
   by_cases hi:n=i
   · subst hi
     simp only[if_true]at e b
     split at e
     · split at b
       · cases e;cases b;exact hu
       · cases b
     · cases e
   · simp only[hi,if_false]at e b;exact h.2 i v v' e b⟩
theorem fP.r9{g:Gm}{b:Bool}{v:Value}(h:fP g (.bool b) v):v=.bool b:=by cases h;rfl
theorem fP.lj{g:Gm}{k:IntKind}{n:Int}{v:Value}(h:fP g (.int k n) v):v=.int k n:=by cases h;rfl
theorem fP.lr{g:Gm}{s:ByteArray}{v:Value}(h:fP g (.string s) v):v=.string s:=by cases h;rfl
theorem fP.o8{g:Gm}{v:Value}(h:fP g .nilIface v):v=.nilIface:=by cases h;rfl
theorem fP.sF{g:Gm}{v:Value}(h:fP g .nilFunc v):v=.nilFunc:=by cases h;rfl
theorem fP.uN{g:Gm}{v:Value}(h:fP g (.pointer none) v):v=.pointer none:=by cases h;rfl
theorem fP.qo{g:Gm}{v:Value}(h:fP g (.map none) v):v=.map none:=by cases h;rfl
theorem fP.sL{g:Gm}{a:Addr}{v:Value}(h:fP g (.pointer (some a)) v):
 a.spot=none/\∃rb ro,g.ga a.block=some (rb,ro)/\v=.pointer (some ⟨rb,ro+a.off,none⟩):=by
 cases h with
 |ptr h=>exact⟨rfl,_,_,h,rfl⟩
theorem fP.wq{g:Gm}{r:Nat}{v:Value}(h:fP g (.map (some r)) v):∃rr,g.ga r=some (rr,0)/\v=.map (some rr):=by
 cases h with
 |map h=>exact⟨_,h,rfl⟩
theorem fP.tt{g:Gm}{x:Array Value}{v:Value}(h:fP g (.agg x) v):∃x',v=.agg x'/\sy g x x':=by
 cases h with
 |agg hx kx=>exact⟨_,rfl,hx,kx⟩
theorem fP.EE{g:Gm}{x:Array Value}{v:Value}(h:fP g (.tuple x) v):∃x',v=.tuple x'/\sy g x x':=by
 cases h with
 |tuple hx kx=>exact⟨_,rfl,hx,kx⟩
theorem fP.xR{g:Gm}{t:TypeId}{x v:Value}(h:fP g (.iface t x) v):∃x',v=.iface t x'/\fP g x x':=by
 cases h with
 |iface h=>exact⟨_,rfl,h⟩
theorem fP.G0{g:Gm}{f:FuncId}{x y:Array Value}{v:Value}(h:fP g (.func (.func f) x y) v):
 ∃x' y',v=.func (.func f) x' y'/\sy g x x'/\sy g y y':=by
 cases h with
 |func hx hy kx ky=>exact⟨_,_,rfl,⟨hx,kx⟩,hy,ky⟩
theorem fP.nk{g:Gm}{a:Addr}{l c1:Nat}{v:Value}(h:fP g (.slice (some a) l c1) v):
 (∃a2,l=0/\c1=0/\v=.slice (some a2) 0 0)\/
 (a.spot=none/\∃rb ro c2,g.ga a.block=some (rb,ro)/\l<=c1/\FZ g a.block (ro+a.off) c1 c2/\v=.slice (some ⟨rb,ro+a.off,none⟩) l c2):=by
 cases h with
 |slice h hl hc=>exact .inr ⟨rfl,_,_,_,h,hl,hc,rfl⟩
 |oM a1 a2=>exact .inl ⟨_,rfl,rfl,rfl⟩
theorem fP.mf{g:Gm}{l c:Nat}{v:Value}(h:fP g (.slice none l c) v):l=0/\c=0/\v=.slice none 0 0:=by
 cases h;exact⟨rfl,rfl,rfl⟩
theorem fP.undef(g:Gm):fP g Go.undef Go.undef:=.tuple rfl (fun i v v' h _=>by simp at h)
theorem fP.cells{g:Gm}{v v':Value}(h:fP g v v'):gZ g v.cells.toList v'.cells.toList:=by
 cases h with
 |agg hx kx=>exact sy.toList ⟨hx,kx⟩
 |bool b=>exact .cons (.bool b) (.nil g)
 |int k n=>exact .cons (.int k n) (.nil g)
 |string s=>exact .cons (.string s) (.nil g)
 |nilPtr=>exact .cons .nilPtr (.nil g)
 |ptr e=>exact .cons (.ptr e) (.nil g)
 |qn=>exact .cons .qn (.nil g)
 |slice e hl hc=>exact .cons (.slice e hl hc) (.nil g)
 |oM a b=>exact .cons (.oM a b) (.nil g)
 |vO=>exact .cons .vO (.nil g)
 |map e=>exact .cons (.map e) (.nil g)
 |nilFunc=>exact .cons .nilFunc (.nil g)
 |nilIface=>exact .cons .nilIface (.nil g)
 |func hx hy kx ky=>exact .cons (.func hx hy kx ky) (.nil g)
 |method hx hy kx ky=>exact .cons (.method hx hy kx ky) (.nil g)
 |A0 e=>exact .cons (.A0 e) (.nil g)
 |iface h=>exact .cons (.iface h) (.nil g)
 |tuple hx kx=>exact .cons (.tuple hx kx) (.nil g)
end
end Sw
namespace Sw
noncomputable section
open Go
structure O8(α:Type) where
 f0:α
 f1:α
 f2:α
 f3:α
 f4:α
 f5:α
 f6:α
 f7:α
structure G8(α:Type) where
 get:O8 α->α
 set:O8 α->α->O8 α
def g8(α:Type):Nat->G8 α
 |0=>⟨fun s=>s.f0,fun s v=>O8.casesOn s fun _ a1 a2 a3 a4 a5 b e=>⟨v,a1,a2,a3,a4,a5,b,e⟩⟩
 |1=>⟨fun s=>s.f1,fun s v=>O8.casesOn s fun a0 _ a2 a3 a4 a5 b e=>⟨a0,v,a2,a3,a4,a5,b,e⟩⟩
 |2=>⟨fun s=>s.f2,fun s v=>O8.casesOn s fun a0 a1 _ a3 a4 a5 b e=>⟨a0,a1,v,a3,a4,a5,b,e⟩⟩
 |3=>⟨fun s=>s.f3,fun s v=>O8.casesOn s fun a0 a1 a2 _ a4 a5 b e=>⟨a0,a1,a2,v,a4,a5,b,e⟩⟩
 |4=>⟨fun s=>s.f4,fun s v=>O8.casesOn s fun a0 a1 a2 a3 _ a5 b e=>⟨a0,a1,a2,a3,v,a5,b,e⟩⟩
 |5=>⟨fun s=>s.f5,fun s v=>O8.casesOn s fun a0 a1 a2 a3 a4 _ b e=>⟨a0,a1,a2,a3,a4,v,b,e⟩⟩
 |6=>⟨fun s=>s.f6,fun s v=>O8.casesOn s fun a0 a1 a2 a3 a4 a5 _ e=>⟨a0,a1,a2,a3,a4,a5,v,e⟩⟩
 |_=>⟨fun s=>s.f7,fun s v=>O8.casesOn s fun a0 a1 a2 a3 a4 a5 b _=>⟨a0,a1,a2,a3,a4,a5,b,v⟩⟩
theorem Dx{α:Type}(s:O8 α)(v:α):∀(a b:Nat),a<8->b<8->(g8 α b).get ((g8 α a).set s v)=if a=b then v else(g8 α b).get s
 |0,0,_,_|0,1,_,_|0,2,_,_|0,3,_,_|0,4,_,_|0,5,_,_|0,6,_,_|0,7,_,_=>by cases s;rfl
 |1,0,_,_|1,1,_,_|1,2,_,_|1,3,_,_|1,4,_,_|1,5,_,_|1,6,_,_|1,7,_,_=>by cases s;rfl
 |2,0,_,_|2,1,_,_|2,2,_,_|2,3,_,_|2,4,_,_|2,5,_,_|2,6,_,_|2,7,_,_=>by cases s;rfl
 |3,0,_,_|3,1,_,_|3,2,_,_|3,3,_,_|3,4,_,_|3,5,_,_|3,6,_,_|3,7,_,_=>by cases s;rfl
 |4,0,_,_|4,1,_,_|4,2,_,_|4,3,_,_|4,4,_,_|4,5,_,_|4,6,_,_|4,7,_,_=>by cases s;rfl
 |5,0,_,_|5,1,_,_|5,2,_,_|5,3,_,_|5,4,_,_|5,5,_,_|5,6,_,_|5,7,_,_=>by cases s;rfl
 |6,0,_,_|6,1,_,_|6,2,_,_|6,3,_,_|6,4,_,_|6,5,_,_|6,6,_,_|6,7,_,_=>by cases s;rfl
 |7,0,_,_|7,1,_,_|7,2,_,_|7,3,_,_|7,4,_,_|7,5,_,_|7,6,_,_|7,7,_,_=>by cases s;rfl
 |a+8,_,h,_=>by omega
 |_,b+8,_,h=>by omega
abbrev Tm:=O8 (O8 (O8 Value))
structure Acc where
 get:Tm->Value
 set:Tm->Value->Tm
def acc(n:Nat):Acc:=
 G8.casesOn (g8 (O8 (O8 Value)) (n/64)) fun p ps=>G8.casesOn (g8 (O8 Value) (n/8%8)) fun q b=>G8.casesOn (g8 Value (n%8)) fun r e=>
  ⟨fun s=>r (q (p s)),fun s v=>ps s (b (p s) (e (q (p s)) v))⟩
def Tm.get(t:Tm)(n:Nat):Value:=(acc n).get t
def Tm.set(t:Tm)(n:Nat)(v:Value):Tm:=(acc n).set t v
theorem Wx(t:Tm)(n:Nat):(acc n).get t=(g8 Value (n%8)).get ((g8 (O8 Value) (n/8%8)).get ((g8 (O8 (O8 Value)) (n/64)).get t)):=rfl
theorem Tm.oh(t:Tm)(v:Value){a b:Nat}(e:a<512)(hb:b<512):Tm.get (Tm.set t a v) b=if a=b then v else Tm.get t b:=by
 have key:Tm.get (Tm.set t a v) b=(g8 Value (b%8)).get ((g8 (O8 Value) (b/8%8)).get ((g8 (O8 (O8 Value)) (b/64)).get
  ((g8 (O8 (O8 Value)) (a/64)).set t ((g8 (O8 Value) (a/8%8)).set ((g8 (O8 (O8 Value)) (a/64)).get t) ((g8 Value (a%8)).set ((g8 (O8 Value) (a/8%8)).get ((g8 (O8 (O8 Value)) (a/64)).get t)) v))))):=rfl
 rw[key,Dx _ _ (a/64) (b/64) (by omega) (by omega)]
 by_cases h1:a/64=b/64
 · rw[if_pos h1,Dx _ _ (a/8%8) (b/8%8) (by omega) (by omega)]
   by_cases D:a/8%8=b/8%8
   · rw[if_pos D,Dx _ _ (a%8) (b%8) (by omega) (by omega)]
     by_cases h3:a%8=b%8
     · rw[if_pos h3,if_pos (by omega)]
     · rw[if_neg h3,if_neg (by omega)]
       rw[h1,D];rfl
   · rw[if_neg D,if_neg (by omega)]
     rw[h1];rfl
 · rw[if_neg h1,if_neg (by omega)];rfl
def r8{α:Type}(a:α):O8 α:=⟨a,a,a,a,a,a,a,a⟩
def Tm.undef:Tm:=r8 (r8 (r8 Go.undef))
end
end Sw
namespace Sw
noncomputable section
open Go
def nP:Nat->List Oper->Option Oper
 |_,[]=>none
 |0,x::_=>some x
 |n+1,_::xs=>nP n xs
def ym:Nat->List Nat->Nat
 |_,[]=>0
 |0,x::_=>x
 |n+1,_::xs=>ym n xs
def qp:Op->Nat
 |.alloc _|.box ..|.buildSlice ..|.makeSlice ..=>1
 |.move _|.pick ..|.build ..|.load ..|.nilCheck _|.binOp ..|.unOp ..|.makeInterface ..|.makeFunc ..|.slice ..|.fieldAddr ..|.field ..|.indexAddr ..|.index ..|.lookup ..|.entry _|.typeAssert ..|.extract ..=>0
 |.call c=>(match c.callee with
  |.builtin .len|.builtin .cap|.builtin .min|.builtin .max=>0
  |_=>2)
 |_=>2
def has(s i:Nat):Bool:=Nat.testBit s i
def sub(a b:Nat):Bool:=Nat.beq (Nat.land a b) a
def put(s i:Nat):Nat:=Nat.lor s (2^i)
def F0(md:Region.Mode):List Edge->Nat
 |[]=>0
 |e::es=>bif Region.binds md e then put (F0 md es) e.on else F0 md es
def Za(md:Region.Mode)(o:Oper):Nat:=F0 md o.after.toList
def EF(bm:List Nat):List Edge->Nat
 |[]=>0
 |e::es=>bif Region.binds .any e then Nat.lor (ym e.on bm) (put (EF bm es) e.on)else EF bm es
structure wu where
 ne:List Nat
 qW:List Nat
 kZ:Option Nat
structure T9 where
 bm:List Nat
 XL:List Nat
 sk:List wu
def pX:Op->Bool
 |.convert ..=>true
 |_=>false
def kO(fl:Bool)(op:Op):Nat:=bif fl&&pX op then 0 else qp op
def qI(fl:Bool)(all:List Oper)(i:Nat):Nat:=match nP i all with
 |some o=>kO fl o.op
 |none=>2
def maskAt(md:Region.Mode)(all:List Oper)(i:Nat):Nat:=match nP i all with
 |some o=>Za md o
 |none=>0
def sA(all:List Oper)(i:Nat):Option Nat:=match nP i all with
 |some o=>o.dst
 |none=>none
def looks(all:List Oper)(o:Oper):List Nat:=
 (match o.guard with
   |some (j,_)=>(match sA all j with|some d=>[d]|none=>[])
   |none=>[])++(o.op.operands.toList.filterMap fun|.tmp t=>some t|_=>none)
def looksAt(all:List Oper)(i:Nat):List Nat:=match nP i all with
 |some o=>looks all o
 |none=>[]
def V0:List Oper->List Nat->List Nat
 |[],b=>b
 |o::os,b=>V0 os (b++[EF b o.after.toList])
def LY(fl:Bool)(all:List Oper):List Nat->Nat->List Nat->List Nat×Nat
 |[],L,acc=>(acc.reverse,L)
 |i::is,L,acc=>bif !(Nat.beq (qI fl all i) 2)&&(!(has L i)&&sub (maskAt .any all i) L)then LY fl all is (put L i) (i::acc)else LY fl all is L acc
def LZ(fl:Bool)(all:List Oper):List Nat->Nat->Option Nat
 |[],_=>none
 |i::is,L=>bif Nat.beq (qI fl all i) 2&&(!(has L i)&&sub (maskAt .any all i) L)then some i else LZ fl all is L
def L0(fl:Bool)(all:List Oper)(bm:List Nat)(is:List Nat):Nat->Nat->Option Nat->List wu
 |0,_,_=>[]
 |n+1,L,x=>match LY fl all is L []with
  |(ne,b)=>
   let qW:=is.filter fun i=>has b i&&(!(Nat.beq (qI fl all i) 2)&&!(has L i&&(match x with|some x=>has (ym x bm) i|none=>false)))
   match LZ fl all is b with
   |some y=>⟨ne,qW,some y⟩::L0 fl all bm is n (put b y) (some y)
   |none=>[⟨ne,qW,none⟩]
def L4(all:List Oper):List Nat->Nat->List Nat->List Nat×Nat
 |[],L,acc=>(acc,L)
 |i::is,L,acc=>bif !(has L i)&&sub (maskAt .gc all i) L then L4 all is (put L i) (i::acc)else L4 all is L acc
def RE(all:List Oper)(is:List Nat)(len:Nat):Nat->Nat->List Nat->List Nat
 |0,_,acc=>acc.reverse
 |n+1,L,acc=>match L4 all is L acc with
  |(b,e)=>bif Nat.beq b.length len then b.reverse else RE all is len n e b
def yn(fl:Bool)(all:List Oper):T9:=
 let is:=List.range all.length
 let bm:=V0 all []
 ⟨bm,RE all is all.length all.length 0 [],L0 fl all bm is (all.length+1) 0 none⟩
def u7(md:Region.Mode)(all:List Oper):List Nat->Nat->Bool
 |[],L=>(List.range all.length).all fun i=>has L i
 |i::is,L=>Nat.blt i all.length&&(sub (maskAt md all i) L&&u7 md all is (put L i))
def XM(all:List Oper):Bool:=(List.range all.length).all fun i=>match sA all i with
 |some d=>(List.range all.length).all fun k=>Nat.beq i k||(match sA all k with|some d'=>!(Nat.beq d d')|none=>true)
 |none=>true
def Wy(fl:Bool)(all:List Oper)(bm:List Nat):Bool:=(List.range all.length).all fun k=>(looksAt all k).all fun t=>(List.range all.length).all fun i=>match sA all i with
 |some d=>!(Nat.beq d t)||(Nat.beq (qI fl all i) 2||has (ym k bm) i)
 |none=>true
def aaa(all:List Oper)(bm:List Nat):Bool:=(List.range all.length).all fun i=>match nP i all with
 |some o=>sub (ym i bm) (EF bm o.after.toList)
 |none=>true
def XN(all:List Oper):Bool:=(List.range all.length).all fun i=>sub (maskAt .any all i) (2^i-1)
def G1(fl:Bool)(all:List Oper):List Nat->Nat->Option Nat
 |[],L=>some L
 |i::is,L=>bif Nat.blt i all.length&&(!(Nat.beq (qI fl all i) 2)&&!(has L i))then G1 fl all is (put L i)else none
def F1(i:Nat):List Nat->Bool
 |[]=>false
 |x::xs=>Nat.beq i x||F1 i xs
def vP(fl:Bool)(all:List Oper)(bm:List Nat):List wu->Nat->Option Nat->Bool
 |[],_,_=>false
 |s::rest,L,x=>match G1 fl all s.ne L with
  |some b=>(s.qW.all fun i=>!(Nat.beq (qI fl all i) 2))&&(
   ((List.range all.length).all fun i=>(Nat.beq (qI fl all i) 2||!(has b i))||(F1 i s.qW||(has L i&&(match x with|some x=>has (ym x bm) i|none=>false))))&&
   (((List.range all.length).all fun i=>has b i||((match s.kZ with|some y=>Nat.beq i y|none=>false)||!(sub (maskAt .any all i) b)))&&
   (match s.kZ with
   |none=>(match rest with|[]=>(List.range all.length).all fun i=>has b i|_=>false)
   |some y=>(Nat.blt y all.length&&(Nat.beq (qI fl all y) 2&&!(has b y)))&&vP fl all bm rest (put b y) (some y))))
  |none=>false
def HY(fl:Bool)(all:List Oper)(pl:T9):Bool:=
 XM all&&(Wy fl all pl.bm&&(aaa all pl.bm&&(XN all&&(u7 .text all (List.range all.length) 0&&(u7 .gc all pl.XL 0&&vP fl all pl.bm pl.sk 0 none)))))
def Pq:List Oper->Bool
 |[]=>false
 |o::os=>pX o.op||Pq os
def wv(all:List Oper):Bool:=Pq all&&!(HY false all (yn false all))
def HZ(all:List Oper):Bool:=HY (wv all) all (yn (wv all) all)
end
end Sw
namespace Sw
noncomputable section
open Go Go.RowKit
abbrev Hp:=Nat->Option (jT Tm)
def Hp.set(O:Hp)(n:Nat)(o:Option (jT Tm)):Hp:=fun b=>if b=n then o else O b
theorem Hp.jO(O:Hp)(n:Nat)(o:Option (jT Tm)):O.set n o n=o:=by simp[Hp.set]
theorem Hp.gR(O:Hp){n b:Nat}(o:Option (jT Tm))(h:b≠n):O.set n o b=O b:=by simp[Hp.set,h]
def Gm.add(g:Gm)(n:Nat)(x:Nat×Nat)(room:Option (Nat×Nat)):Gm:=
 ⟨fun b=>if b=n then some x else g.ga b,fun b=>if b=n then room else g.room b⟩
theorem Gm.rq{g:Gm}{n:Nat}(h:g.ga n=none)(x:Nat×Nat)(room:Option (Nat×Nat)):g.le (g.add n x room):=by
 refine⟨fun b y e=>?_,fun b y e=>?_⟩
 · show(if b=n then some x else g.ga b)=some y
   have:b≠n:=fun k=>by subst k;rw[h]at e;cases e
   simp[this,e]
 · show(if b=n then room else g.room b)=g.room b
   have:b≠n:=fun k=>by subst k;rw[h]at e;cases e
   simp[this]
theorem Gm.ma(g:Gm)(n:Nat)(x:Nat×Nat)(room:Option (Nat×Nat)):(g.add n x room).ga n=some x:=by simp[Gm.add]
theorem Gm.sS(g:Gm)(n:Nat)(x:Nat×Nat)(room:Option (Nat×Nat)):(g.add n x room).room n=room:=by simp[Gm.add]
theorem Gm.j5(g:Gm){n b:Nat}(x:Nat×Nat)(room:Option (Nat×Nat))(h:b≠n):(g.add n x room).ga b=g.ga b:=by simp[Gm.add,h]
def kY(g:Gm)(x x':List MapEntry):Prop:=
 x.length=x'.length/\∀(i:Nat) (e b:MapEntry),x[i]?=some e->x'[i]?=some b->fP g e.key b.key/\fP g e.val b.val/\e.born=b.born
theorem kY.mono{g g':Gm}(h:g.le g'){x x':List MapEntry}(r:kY g x x'):kY g' x x':=
 ⟨r.1,fun i e j a b=>by obtain⟨p,q,s⟩:=r.2 i e j a b;exact⟨p.mono h,q.mono h,s⟩⟩
def r_(g:Gm)(nt:Nat)(t:Tm)(b:Array Value):Prop:=b.size=nt/\∀i,i<nt->fP g (t.get i) (b.getD i Go.undef)
theorem r_.mono{g g':Gm}(h:g.le g'){nt:Nat}{t:Tm}{b:Array Value}(r:r_ g nt t b):r_ g' nt t b:=
 ⟨r.1,fun i hi=>(r.2 i hi).mono h⟩
inductive Cm(g:Gm):Deferred->Deferred->Prop where
 |G2 {r rr:Nat} (h:g.ga r=some (rr,0)):Cm g ⟨.collected r,#[]⟩ ⟨.collected rr,#[]⟩
 |fn {f:FuncId} {y y' x x':Array Value} (hy:sy g y y') (hx:sy g x x'):Cm g ⟨.fn (.func f) y,x⟩ ⟨.fn (.func f) y',x'⟩
theorem Cm.mono{g g':Gm}(h:g.le g'){d d':Deferred}(r:Cm g d d'):Cm g' d d':=by
 cases r with
 |G2 e=>exact .G2 (h.1 _ _ e)
 |fn hy hx=>exact .fn (hy.mono h) (hx.mono h)
def nK(g:Gm)(x x':List Deferred):Prop:=x.length=x'.length/\∀(i:Nat) (d d':Deferred),x[i]?=some d->x'[i]?=some d'->Cm g d d'
theorem nK.mono{g g':Gm}(h:g.le g'){x x':List Deferred}(r:nK g x x'):nK g' x x':=⟨r.1,fun i d d' a b=>(r.2 i d d' a b).mono h⟩
def zJ:Nat->Value->Bool
 |_,.bool _=>true
 |_,.int _ _=>true
 |_,.string _=>true
 |_,.pointer none=>true
 |_,.slice none 0 0=>true
 |_,.map none=>true
 |_,.nilFunc=>true
 |_,.nilIface=>true
 |_,.func (.func _) ⟨[]⟩ ⟨[]⟩=>true
 |n+1,.agg x=>x.toList.all (zJ n)
 |n+1,.tuple x=>x.toList.all (zJ n)
 |n+1,.iface _ v=>zJ n v
 |_,_=>false
def EG(ng nt:Nat):Operand->Bool
 |.tmp i=>Nat.blt i nt
 |.const v=>zJ 4 v
 |.global i=>Nat.blt i ng
 |.func _=>true
def V3(nt:Nat):Option Tmp->Bool
 |some i=>Nat.blt i nt
 |none=>true
def xc(ng nt:Nat)(o:Oper):Bool:=o.op.operands.toList.all (EG ng nt)&&V3 nt o.dst
def codeOk(ng nt:Nat):Code->Bool
 |.seq a b=>codeOk ng nt a&&codeOk ng nt b
 |.cond x a b=>EG ng nt x&&(codeOk ng nt a&&codeOk ng nt b)
 |.block _ b=>codeOk ng nt b
 |.loop b=>codeOk ng nt b
 |.scope b=>codeOk ng nt b
 |.region _ ops draw=>ops.toList.all (xc ng nt)&&(!draw||HZ ops.toList)
 |.rangeFunc f ps a b=>EG ng nt f&&(ps.toList.all (Nat.blt · nt)&&(codeOk ng nt a&&codeOk ng nt b))
 |_=>true
def lv(g:Gm)(ng:Nat):Prop:=∀i,i<ng->g.ga i=some (i,0)
theorem lv.mono{g g':Gm}(h:g.le g'){ng:Nat}(k:lv g ng):lv g' ng:=fun i hi=>h.1 _ _ (k i hi)
def sn(g:Gm)(nt:Nat)(c:Code):Prop:=∃ng,lv g ng/\codeOk ng nt c=true
theorem sn.mono{g g':Gm}(h:g.le g'){nt:Nat}{c:Code}(k:sn g nt c):sn g' nt c:=by
 obtain⟨ng,a,b⟩:=k;exact⟨ng,a.mono h,b⟩
def tu(g:Gm)(l:td Tm)(b:Loop):Prop:=
 l.state=b.state/\l.pending=b.pending/\l.fn=b.fn/\r_ g l.nt l.tmps b.tmps/\l.params=b.params.toList/\l.assign=b.assign/\l.body=b.body/\
  g.ga l.defers=some (b.defers,0)/\(l.nt<=512/\sn g l.nt l.assign/\sn g l.nt l.body/\l.params.all (Nat.blt · l.nt)=true)
theorem tu.mono{g g':Gm}(h:g.le g'){l:td Tm}{m:Loop}(r:tu g l m):tu g' l m:=by
 obtain⟨a,b,c,d,e,f,i,j,o,p,q3,u⟩:=r
 exact⟨a,b,c,d.mono h,e,f,i,h.1 _ _ j,o,p.mono h,q3.mono h,u⟩
def G3(size:Nat)(b:Nat×Nat):Prop:=b.1=b.2\/size<=b.1
theorem G3.free{size:Nat}{b:Nat×Nat}(h:G3 size b):∀i,i<size->¬(b.1<=i/\i<b.2):=fun i hi=>by
 rcases h with h|h<;>omega
def pj(B0:Nat)(g:Gm)(b:Nat)(o:jT Tm)(rb ro:Nat)(jv:Obj):Prop:=
 match o,jv with
 |.cells Z m,.cells e _ B=>ro+Z.length<=e.size/\(∀(i:Nat) (v v':Value),Z[i]?=some v->e[ro+i]?=some v'->fP g v v')/\
   (m.ro=false->B0<=rb/\G3 e.size B)/\(∀gr,m.mP=some gr->g.room b=some (e.size,m.unit))/\(m.mP=none->g.room b=none)
 |.map es c,.map y A=>ro=0/\B0<=rb/\c=A/\kY g es y.toList
 |.mapIter m s seen st,.mapIter E u j z=>ro=0/\B0<=rb/\s=u/\seen=j.toList/\st=z/\
   (match m,E with|none,none=>True|some a,some a'=>g.ga a=some (a',0)|_,_=>False)
 |.FY s p,.stringIter u F=>ro=0/\B0<=rb/\s=u/\p=F
 |.loop l,.loop C=>ro=0/\B0<=rb/\tu g l C
 |.deferred none,.deferred none=>ro=0/\B0<=rb
 |.deferred (some d),.deferred (some d')=>ro=0/\B0<=rb/\nK g d d'
 |_,_=>False
theorem pj.mono{B0:Nat}{g g':Gm}(h:g.le g'){b:Nat}{x:Nat×Nat}(hb:g.ga b=some x){o:jT Tm}{rb ro:Nat}{jv:Obj}(r:pj B0 g b o rb ro jv):pj B0 g' b o rb ro jv:=by
 cases o with
 |cells Z m=>
  cases jv<;>first|exact r.elim|skip
  obtain⟨a,k,c,d,f⟩:=r
  exact⟨a,fun i v v' e j=>(k i v v' e j).mono h,c,fun gr e=>(h.2 _ _ hb).trans (d gr e),fun e=>(h.2 _ _ hb).trans (f e)⟩
 |map es c=>
  cases jv<;>first|exact r.elim|skip
  obtain⟨a,k,c,d⟩:=r
  exact⟨a,k,c,d.mono h⟩
 |mapIter m s seen st=>
  cases jv<;>first|exact r.elim|skip
  rename_i u _ _ _
  obtain⟨a,k,c,d,e,f⟩:=r
  refine⟨a,k,c,d,e,?_⟩
  cases m<;>cases u<;>first|exact f.elim|trivial|exact h.1 _ _ f
 |FY s p=>
  cases jv<;>first|exact r.elim|exact r
 |loop l=>
  cases jv<;>first|exact r.elim|skip
  obtain⟨a,k,c⟩:=r
  exact⟨a,k,c.mono h⟩
 |deferred d=>
  cases jv with
  |deferred d'=>
   cases d<;>cases d'<;>first|exact r.elim|exact r|skip
   obtain⟨a,k,c⟩:=r
   exact⟨a,k,c.mono h⟩
  |_=>cases d<;>exact r.elim
 |group ms=>
  cases jv<;>exact r.elim
def jT.A4{E:Type}:jT E->Bool
 |.group _=>true
 |_=>false
def Sep(o1:jT Tm)(r1:Nat)(o2:jT Tm)(r2:Nat):Prop:=
 match o1,o2 with
 |.cells _ m1,.cells _ m2=>(m1.ro=true/\m2.ro=true)\/(∃gr,m1.mP=some gr/\m2.mP=some gr/\r1+m2.base=r2+m1.base)
 |_,_=>False
theorem Sep.symm{o1 o2:jT Tm}{r1 r2:Nat}(h:Sep o1 r1 o2 r2):Sep o2 r2 o1 r1:=by
 unfold Sep at*
 split at h
 · rcases h with⟨a,b⟩|⟨gr,a,b,c⟩
   · exact .inl ⟨b,a⟩
   · exact .inr ⟨gr,b,a,c.symm⟩
 · exact h.elim
structure pY(B:Nat)(w w':World):Prop where
 b:Below B w w'
 drawn:w.drawn<=w'.drawn
theorem pY.refl(B:Nat)(w:World):pY B w w:=⟨Below.refl _ _,fg _⟩
theorem pY.trans{B:Nat}{x y z:World}(h:pY B x y)(k:pY B y z):pY B x z:=⟨h.b.trans k.b,ff h.drawn k.drawn⟩
theorem pY.mono{B C:Nat}{w w':World}(h:pY B w w')(k:C<=B):pY C w w':=⟨h.b.mono k,h.drawn⟩
structure gx(B0:Nat)(w0:World)(g:Gm)(O:Hp)(G:Nat)(w:World):Prop where
 below:pY B0 w0 w
 base:B0<=w.heap.size
 rT:∀b rb ro,g.ga b=some (rb,ro)->b<G/\rb<w.heap.size
 live:∀b o,O b=some o->b<G/\∀rb ro,g.ga b=some (rb,ro)->∃jv,w.heap[rb]?=some jv/\pj B0 g b o rb ro jv
 pC:∀b ms,O b=some (.group ms)->g.ga b=none
 mem:∀b Z m gr,O b=some (.cells Z m)->m.mP=some gr->∃ms,O gr=some (.group ms)/\(⟨b,m.base,Z.length⟩:Mem)∈ms
 sep:∀b1 b2 o1 o2 rb r1 r2,b1≠b2->O b1=some o1->O b2=some o2->g.ga b1=some (rb,r1)->g.ga b2=some (rb,r2)->Sep o1 r1 o2 r2
 room:∀b x,g.room b=some x->g.ga b≠none
structure tD(w w':World)(r:Nat)(o:Obj):Prop where
 os:w'.os=w.os
 tape:w'.tape=w.tape
 output:w'.output=w.output
 size:w.heap.size<=w'.heap.size
 at_:w'.heap[r]?=some o
 other:∀k,k≠r->w'.heap[k]?=w.heap[k]?
 drawn:w.drawn<=w'.drawn
theorem tD.alloc(w:World)(o:Obj):tD w (w.alloc o) w.heap.size o:=
 ⟨rfl,rfl,rfl,by simp,World.alloc_heap_new w o,fun k hk=>by
   show(w.heap.push o)[k]?=_
   rw[Array.getElem?_push,if_neg hk],fg _⟩
theorem tD.putObj{w:World}{r:Nat}(h:r<w.heap.size)(o:Obj):tD w (w.putObj r o) r o:=
 ⟨rfl,rfl,rfl,by simp,World.putObj_heap_same h,fun _ hk=>World.putObj_heap_other hk,fg _⟩
theorem sG{α:Type}{a:Array α}{i:Nat}{v:α}(h:a[i]?=some v):i<a.size:=(gf.1 h).1
theorem gx.alloc{B0:Nat}{w0:World}{g:Gm}{O:Hp}{G:Nat}{w:World}(H:gx B0 w0 g O G w){n e_:Nat}(hg:g.ga n=none)(hr:g.room n=none)(hn:O n=none)
 (h1:G<=e_) (D:n<e_) (o:jT Tm) (jv:Obj) (room:Option (Nat×Nat)) (C:o.A4=false)
 (B:pj B0 (g.add n (w.heap.size,0) room) n o w.heap.size 0 jv)
 (A:∀Z m gr,o=.cells Z m->m.mP=some gr->∃ms,O gr=some (.group ms)/\(⟨n,m.base,Z.length⟩:Mem)∈ms):
 gx B0 w0 (g.add n (w.heap.size,0) room) (O.set n (some o)) e_ (w.alloc jv):=by
 have hle:=Gm.rq hg (w.heap.size,0) room
 have E:=tD.alloc w jv
 refine⟨?_,?_,?_,?_,?_,?_,?_,?_⟩
 · exact⟨H.below.b.alloc H.base jv,H.below.drawn⟩
 · simp;have:=H.base;omega
 · intro b rb ro e
   by_cases hb:b=n
   · subst hb
     rw[Gm.ma]at e
     cases e
     exact⟨D,by simp⟩
   · rw[Gm.j5 _ _ _ hb]at e
     obtain⟨p,q⟩:=H.rT b rb ro e
     exact⟨by omega,by simp;omega⟩
 · intro b o' e
   by_cases hb:b=n
   · subst hb
     rw[Hp.jO]at e
     cases e
     refine⟨D,fun rb ro k=>?_⟩
     rw[Gm.ma]at k;cases k
     exact⟨_,E.at_,B⟩
   · rw[Hp.gR _ _ hb]at e
     obtain⟨p,q⟩:=H.live b o' e
     refine⟨by omega,fun rb ro k=>?_⟩
     rw[Gm.j5 _ _ _ hb]at k
     obtain⟨ob,a2,a3⟩:=q rb ro k
     exact⟨ob,(E.other rb (by have:=sG a2;omega)).trans a2,a3.mono hle k⟩
 · intro b ms e
   by_cases hb:b=n
   · subst hb
     rw[Hp.jO]at e
     cases e
     simp[jT.A4]at C
   · rw[Hp.gR _ _ hb]at e
     rw[Gm.j5 _ _ _ hb]
     exact H.pC b ms e
 · intro b Z m gr e k
   by_cases hb:b=n
   · subst hb
     rw[Hp.jO]at e
     cases e
     obtain⟨ms,a1,a2⟩:=A Z m gr rfl k
     refine⟨ms,?_,a2⟩
     rw[Hp.gR _ _ (by rintro rfl;rw[hn]at a1;cases a1)]
     exact a1
   · rw[Hp.gR _ _ hb]at e
     obtain⟨ms,a1,a2⟩:=H.mem b Z m gr e k
     refine⟨ms,?_,a2⟩
     rw[Hp.gR _ _ (by rintro rfl;rw[hn]at a1;cases a1)]
     exact a1
 · intro b1 b2 o1 o2 rb r1 r2 jI e1 e2 j u
   by_cases y:b1=n
   · subst y
     rw[Gm.ma]at j
     cases j
     rw[Gm.j5 _ _ _ (Ne.symm jI)]at u
     have:=(H.rT _ _ _ u).2
     omega
   · by_cases z:b2=n
     · subst z
       rw[Gm.ma]at u
       cases u
       rw[Gm.j5 _ _ _ jI]at j
       have:=(H.rT _ _ _ j).2
       omega
     · rw[Hp.gR _ _ y]at e1
       rw[Hp.gR _ _ z]at e2
       rw[Gm.j5 _ _ _ y]at j
       rw[Gm.j5 _ _ _ z]at u
       exact H.sep b1 b2 o1 o2 rb r1 r2 jI e1 e2 j u
 · intro b x e
   by_cases hb:b=n
   · subst hb;rw[Gm.ma];simp
   · rw[Gm.j5 _ _ _ hb]
     exact H.room b x (by simpa[Gm.add,hb]using e)
theorem gx.kill{B0:Nat}{w0:World}{g:Gm}{O:Hp}{G:Nat}{w:World}(H:gx B0 w0 g O G w)(n:Nat)(hc:∀ms,O n≠some (.group ms)):
 gx B0 w0 g (O.set n none) G w:=by
 have h0:∀b o,O.set n none b=some o->O b=some o/\b≠n:=fun b o e=>by
  by_cases hb:b=n
  · subst hb;rw[Hp.jO]at e;cases e
  · rw[Hp.gR _ _ hb]at e;exact⟨e,hb⟩
 refine⟨H.below,H.base,H.rT,fun b o e=>H.live b o (h0 b o e).1,fun b ms e=>H.pC b ms (h0 _ _ e).1,?_,?_,H.room⟩
 · intro b Z m gr e k
   obtain⟨ms,a1,a2⟩:=H.mem b Z m gr (h0 _ _ e).1 k
   refine⟨ms,?_,a2⟩
   rw[Hp.gR _ _ (by rintro rfl;exact hc _ a1)]
   exact a1
 · intro b1 b2 o1 o2 rb r1 r2 jI e1 e2 j p
   exact H.sep b1 b2 o1 o2 rb r1 r2 jI (h0 _ _ e1).1 (h0 _ _ e2).1 j p
theorem gx.L5{B0:Nat}{w0:World}{g:Gm}{O:Hp}{G:Nat}{w:World}(H:gx B0 w0 g O G w){n e_:Nat}(ms:List Mem)(h1:G<=e_)(D:n<e_)(hg:g.ga n=none)
 (hm:∀b Z m,O b=some (.cells Z m)->m.mP=some n->(⟨b,m.base,Z.length⟩:Mem)∈ms):
 gx B0 w0 g (O.set n (some (.group ms))) e_ w:=by
 refine⟨H.below,H.base,fun b rb ro e=>⟨by have:=(H.rT b rb ro e).1;omega,(H.rT b rb ro e).2⟩,?_,?_,?_,?_,H.room⟩
 · intro b o e
   by_cases hb:b=n
   · subst hb;exact⟨D,fun rb ro k=>by rw[hg]at k;cases k⟩
   · rw[Hp.gR _ _ hb]at e
     obtain⟨p,q⟩:=H.live b o e
     exact⟨by omega,q⟩
 · intro b B e
   by_cases hb:b=n
   · subst hb;exact hg
   · rw[Hp.gR _ _ hb]at e;exact H.pC b B e
 · intro b Z m gr e k
   by_cases hb:b=n
   · subst hb;rw[Hp.jO]at e;cases e
   · rw[Hp.gR _ _ hb]at e
     by_cases j:gr=n
     · subst j;exact⟨ms,Hp.jO _ _ _,hm b Z m e k⟩
     · rw[Hp.gR _ _ j];exact H.mem b Z m gr e k
 · intro b1 b2 o1 o2 rb r1 r2 jI e1 e2 u y
   have z:b1≠n:=fun k=>by subst k;rw[hg]at u;cases u
   have A:b2≠n:=fun k=>by subst k;rw[hg]at y;cases y
   rw[Hp.gR _ _ z]at e1
   rw[Hp.gR _ _ A]at e2
   exact H.sep b1 b2 o1 o2 rb r1 r2 jI e1 e2 u y
theorem gx.setObj{B0:Nat}{w0:World}{g:Gm}{O:Hp}{G:Nat}{w:World}(H:gx B0 w0 g O G w){n rb:Nat}{o o':jT Tm}(hn:O n=some o)(hb:g.ga n=some (rb,0))
 (hc:∀Z m,o≠.cells Z m) (F:∀Z m,o'≠.cells Z m) (J:o'.A4=false) (jv:Obj) (hr:B0<=rb) (E:pj B0 g n o' rb 0 jv):
 gx B0 w0 g (O.set n (some o')) G (w.putObj rb jv):=by
 have jH:rb<w.heap.size:=(H.rT _ _ _ hb).2
 have L:=tD.putObj jH jv
 have u:∀b o1 r1,b≠n->O b=some o1->g.ga b=some (rb,r1)->False:=fun b o1 r1 jI e k=>by
  have:=H.sep b n o1 o rb r1 0 jI e hn k hb
  unfold Sep at this
  split at this
  · rename_i Z m _ _;exact hc _ _ rfl
  · exact this
 refine⟨?_,?_,?_,?_,?_,?_,?_,H.room⟩
 · refine H.below.trans ⟨⟨rfl,rfl,rfl,by simp,fun k hk=>L.other k (by omega)⟩,fg _⟩
 · simp;exact H.base
 · intro b r1 r2 e;simp;exact H.rT b r1 r2 e
 · intro b ob e
   by_cases j:b=n
   · subst j
     rw[Hp.jO]at e
     cases e
     refine⟨(H.live _ _ hn).1,fun r1 r2 k=>?_⟩
     rw[hb]at k;cases k
     exact⟨_,L.at_,E⟩
   · rw[Hp.gR _ _ j]at e
     obtain⟨p,q⟩:=H.live b ob e
     refine⟨p,fun r1 r2 a1=>?_⟩
     obtain⟨K,a2,a3⟩:=q r1 r2 a1
     by_cases C:r1=rb
     · subst C;exact(u b ob r2 j e a1).elim
     · exact⟨K,(L.other r1 C).trans a2,a3⟩
 · intro b ms e
   by_cases j:b=n
   · subst j;rw[Hp.jO]at e;cases e;simp[jT.A4]at J
   · rw[Hp.gR _ _ j]at e;exact H.pC b ms e
 · intro b Z m gr e k
   by_cases j:b=n
   · subst j;rw[Hp.jO]at e;cases e;exact(F _ _ rfl).elim
   · rw[Hp.gR _ _ j]at e
     obtain⟨ms,a1,a2⟩:=H.mem b Z m gr e k
     refine⟨ms,?_,a2⟩
     rw[Hp.gR _ _ ?_]
     · exact a1
     · rintro rfl
       have:=H.pC _ _ a1
       rw[hb]at this;cases this
 · intro b1 b2 o1 o2 r r1 r2 jI e1 e2 y z
   by_cases A:b1=n
   · subst A
     rw[hb]at y;cases y
     rw[Hp.gR _ _ (Ne.symm jI)]at e2
     exact(u b2 o2 r2 (Ne.symm jI) e2 z).elim
   · by_cases B:b2=n
     · subst B
       rw[hb]at z;cases z
       rw[Hp.gR _ _ jI]at e1
       exact(u b1 o1 r1 jI e1 y).elim
     · rw[Hp.gR _ _ A]at e1
       rw[Hp.gR _ _ B]at e2
       exact H.sep b1 b2 o1 o2 r r1 r2 jI e1 e2 y z
theorem tD.trans{w w1 b:World}{r:Nat}{o1 o2:Obj}(h:tD w w1 r o1)(k:tD w1 b r o2):tD w b r o2:=
 ⟨k.os.trans h.os,k.tape.trans h.tape,k.output.trans h.output,ff h.size k.size,k.at_,fun i hi=>(k.other i hi).trans (h.other i hi),ff h.drawn k.drawn⟩
theorem gx.putCells{B0:Nat}{w0:World}{g:Gm}{O:Hp}{G:Nat}{w w':World}(H:gx B0 w0 g O G w){n rb ro:Nat}{Z lJ:List Value}{m:gm}(hn:O n=some (.cells Z m))
 (hb:g.ga n=some (rb,ro)) (X:m.ro=false) {K C:Array Value} {el:TypeId} {M:Nat×Nat} (hw:w.heap[rb]?=some (.cells K el M)) (E:tD w w' rb (.cells C el M))
 (B:C.size=K.size) (hlen:lJ.length=Z.length) (R:∀(i:Nat) (v v':Value),lJ[i]?=some v->C[ro+i]?=some v'->fP g v v') (lo hi:Nat)
 (J:∀j,¬(lo<=j/\j<hi)->C[j]?=K[j]?)
 (N:∀b z m1 r1,b≠n->O b=some (.cells z m1)->g.ga b=some (rb,r1)->r1+z.length<=lo\/hi<=r1):
 gx B0 w0 g (O.set n (some (.cells lJ m))) G w':=by
 have F:B0<=rb/\pj B0 g n (.cells Z m) rb ro (.cells K el M):=by
  obtain⟨jv,a2,a3⟩:=(H.live n _ hn).2 _ _ hb
  rw[hw]at a2;cases a2
  exact⟨(a3.2.2.1 X).1,a3⟩
 refine⟨?_,?_,?_,?_,?_,?_,?_,H.room⟩
 · exact H.below.trans ⟨⟨E.os,E.tape,E.output,E.size,fun k hk=>E.other k (by omega)⟩,E.drawn⟩
 · have:=H.base;have:=E.size;omega
 · intro b r1 r2 e
   obtain⟨p,q⟩:=H.rT b r1 r2 e
   exact⟨p,by have:=E.size;omega⟩
 · intro b ob e
   by_cases u:b=n
   · subst u
     rw[Hp.jO]at e
     cases e
     refine⟨(H.live _ _ hn).1,fun r1 r2 k=>?_⟩
     rw[hb]at k;cases k
     refine⟨_,E.at_,?_,R,?_,?_,F.2.2.2.2.2⟩
     · have:=F.2.1;omega
     · rw[B];exact F.2.2.2.1
     · rw[B];exact F.2.2.2.2.1
   · rw[Hp.gR _ _ u]at e
     obtain⟨p,q⟩:=H.live b ob e
     refine⟨p,fun r1 r2 a1=>?_⟩
     obtain⟨ab,a2,a3⟩:=q r1 r2 a1
     by_cases L:r1=rb
     · subst L
       rw[hw]at a2;cases a2
       refine⟨_,E.at_,?_⟩
       cases ob<;>first|exact a3.elim|skip
       · rename_i z m1
         have ak:=N b z m1 r2 u e a1
         obtain⟨aa,S,ad,ae,af⟩:=a3
         refine⟨by omega,fun i v v' e1 e2=>?_,by rw[B];exact ad,by rw[B];exact ae,af⟩
         have aj:i<z.length:=(fp.1 e1).1
         rw[J _ (by omega)]at e2
         exact S i v v' e1 e2
       · rename_i d;cases d<;>exact a3.elim
     · exact⟨ab,(E.other r1 L).trans a2,a3⟩
 · intro b ms e
   by_cases u:b=n
   · subst u;rw[Hp.jO]at e;cases e
   · rw[Hp.gR _ _ u]at e;exact H.pC b ms e
 · intro b z m1 gr e k
   have hg:∀ms,O gr=some (.group ms)->gr≠n:=fun ms a1 h=>by
    subst h
    have:=H.pC _ _ a1
    rw[hb]at this;cases this
   by_cases u:b=n
   · subst u;rw[Hp.jO]at e;cases e
     obtain⟨ms,a1,a2⟩:=H.mem b Z m gr hn k
     exact⟨ms,by rw[Hp.gR _ _ (hg ms a1)];exact a1,by rw[hlen];exact a2⟩
   · rw[Hp.gR _ _ u]at e
     obtain⟨ms,a1,a2⟩:=H.mem b z m1 gr e k
     exact⟨ms,by rw[Hp.gR _ _ (hg ms a1)];exact a1,a2⟩
 · intro b1 b2 o1 o2 r r1 r2 jI e1 e2 aa S
   have key:∀b o,O.set n (some (.cells lJ m)) b=some o->∃W,O b=some W/\(∀A x y,Sep W x A y->Sep o x A y)/\(∀A x y,Sep A x W y->Sep A x o y):=by
    intro b o e
    by_cases u:b=n
    · subst u;rw[Hp.jO]at e;cases e
      refine⟨_,hn,fun A x y h=>?_,fun A x y h=>?_⟩<;>cases A<;>exact h
    · rw[Hp.gR _ _ u]at e
      exact⟨o,e,fun _ _ _ h=>h,fun _ _ _ h=>h⟩
   obtain⟨p1,ah,s1,_⟩:=key b1 o1 e1
   obtain⟨ag,ai,_,s2⟩:=key b2 o2 e2
   exact s1 _ _ _ (s2 _ _ _ (H.sep b1 b2 p1 ag r r1 r2 jI ah ai aa S))
theorem gx.XO{B0:Nat}{w0:World}{g:Gm}{O:Hp}{G:Nat}{w w':World}(H:gx B0 w0 g O G w){rb pos gr base unit:Nat}
 {A E:Array Value} {el:TypeId} {S:Nat×Nat} (hw:w.heap[rb]?=some (.cells A el S)) (F:tD w w' rb (.cells E el S)) (ad:B0<=rb) (aa:G3 A.size S)
 (C:E.size=A.size) {n e_ lo:Nat} (hg:g.ga n=none) (hn:O n=none) (h1:G<=e_) (D:n<e_) (new:List Value)
 (ae:pos+new.length<=A.size) (X:∀(i:Nat) (v v':Value),new[i]?=some v->E[pos+i]?=some v'->fP g v v')
 (M:∀j,j<lo->E[j]?=A[j]?)
 (L:∀b o r1,O b=some o->g.ga b=some (rb,r1)->∃u m1,o=.cells u m1/\m1.mP=some gr/\r1+base=pos+m1.base/\r1+u.length<=lo)
 (W:∃ms,O gr=some (.group ms)/\(⟨n,base,new.length⟩:Mem)∈ms):
 gx B0 w0 (g.add n (rb,pos) (some (A.size,unit))) (O.set n (some (.cells new ⟨false,some gr,base,unit⟩))) e_ w':=by
 have hle:=Gm.rq hg (rb,pos) (some (A.size,unit))
 refine⟨?_,?_,?_,?_,?_,?_,?_,?_⟩
 · exact H.below.trans ⟨⟨F.os,F.tape,F.output,F.size,fun k hk=>F.other k (by omega)⟩,F.drawn⟩
 · have:=H.base;have:=F.size;omega
 · intro b r1 r2 e
   by_cases m:b=n
   · subst m;rw[Gm.ma]at e;cases e
     exact⟨D,by have:=sG hw;have:=F.size;omega⟩
   · rw[Gm.j5 _ _ _ m]at e
     obtain⟨p,q⟩:=H.rT b r1 r2 e
     exact⟨by omega,by have:=F.size;omega⟩
 · intro b ob e
   by_cases m:b=n
   · subst m
     rw[Hp.jO]at e
     cases e
     refine⟨D,fun r1 r2 k=>?_⟩
     rw[Gm.ma]at k;cases k
     refine⟨_,F.at_,⟨by omega,fun i v v' e1 e2=>(X i v v' e1 e2).mono hle,fun _=>⟨ad,by rw[C];exact aa⟩,fun B _=>by rw[C];exact Gm.sS _ _ _ _,fun e=>by cases e⟩⟩
   · rw[Hp.gR _ _ m]at e
     obtain⟨p,q⟩:=H.live b ob e
     refine⟨by omega,fun r1 r2 a1=>?_⟩
     rw[Gm.j5 _ _ _ m]at a1
     obtain⟨ab,a2,a3⟩:=q r1 r2 a1
     by_cases R:r1=rb
     · subst R
       rw[hw]at a2;cases a2
       refine⟨_,F.at_,?_⟩
       obtain⟨u,m1,rfl,_,_,ak⟩:=L b ob r2 e a1
       obtain⟨z,y,af,ag,ah⟩:=a3
       refine⟨by omega,fun i v v' e1 e2=>?_,by rw[C];exact af,fun x hx=>by rw[C];exact(hle.2 _ _ a1).trans (ag x hx),fun e=>(hle.2 _ _ a1).trans (ah e)⟩
       have aj:i<u.length:=(fp.1 e1).1
       rw[M _ (by omega)]at e2
       exact(y i v v' e1 e2).mono hle
     · exact⟨ab,(F.other r1 R).trans a2,a3.mono hle a1⟩
 · intro b ms e
   by_cases m:b=n
   · subst m;rw[Hp.jO]at e;cases e
   · rw[Hp.gR _ _ m]at e
     rw[Gm.j5 _ _ _ m]
     exact H.pC b ms e
 · intro b u m1 B e k
   have N:∀ms,O B=some (.group ms)->B≠n:=fun ms a1 h=>by subst h;rw[hn]at a1;cases a1
   by_cases m:b=n
   · subst m;rw[Hp.jO]at e;cases e
     cases k
     obtain⟨ms,a1,a2⟩:=W
     exact⟨ms,by rw[Hp.gR _ _ (N ms a1)];exact a1,a2⟩
   · rw[Hp.gR _ _ m]at e
     obtain⟨ms,a1,a2⟩:=H.mem b u m1 B e k
     exact⟨ms,by rw[Hp.gR _ _ (N ms a1)];exact a1,a2⟩
 · have key:∀b o r2,O b=some o->g.ga b=some (rb,r2)->Sep (.cells new ⟨false,some gr,base,unit⟩:jT Tm) pos o r2:=by
    intro b o r2 e k
    obtain⟨u,m1,rfl,ai,al,_⟩:=L b o r2 e k
    refine .inr ⟨gr,rfl,ai,?_⟩
    show pos+m1.base=r2+base
    omega
   intro b1 b2 o1 o2 r r1 r2 jI e1 e2 z y
   by_cases J:b1=n
   · subst J
     rw[Hp.jO]at e1;cases e1
     rw[Gm.ma]at z;cases z
     rw[Hp.gR _ _ (Ne.symm jI)]at e2
     rw[Gm.j5 _ _ _ (Ne.symm jI)]at y
     exact key b2 o2 r2 e2 y
   · by_cases K:b2=n
     · subst K
       rw[Hp.jO]at e2;cases e2
       rw[Gm.ma]at y;cases y
       rw[Hp.gR _ _ jI]at e1
       rw[Gm.j5 _ _ _ jI]at z
       exact(key b1 o1 r1 e1 z).symm
     · rw[Hp.gR _ _ J]at e1
       rw[Hp.gR _ _ K]at e2
       rw[Gm.j5 _ _ _ J]at z
       rw[Gm.j5 _ _ _ K]at y
       exact H.sep b1 b2 o1 o2 r r1 r2 jI e1 e2 z y
 · intro b x e
   by_cases m:b=n
   · subst m;rw[Gm.ma];simp
   · rw[Gm.j5 _ _ _ m]
     exact H.room b x (by simpa[Gm.add,m]using e)
end
end Sw
namespace Sw
noncomputable section
open Go Go.RowKit
theorem ft{α β:Type}{P:Program}{m:Sem α}{f:α->Sem β}{w w1:World}{a:α}(h:m.run P w=.ok a w1):(m >>= f).run P w=(f a).run P w1:=by
 simp[go_sem,h]
theorem V4{α:Type}{P:Program}(a:α)(w:World):(pure a:Sem α).run P w=.ok a w:=rfl
structure Ty where
 kn:TypeId->Option TypeInfo
 G4:TypeId->Bool
def F2:Value->Bool
 |.bool _|.int _ _|.string _|.pointer none|.slice none 0 0|.map none|.nilFunc|.nilIface=>true
 |.func (.func _) x y=>x.isEmpty&&y.isEmpty
 |_=>false
def flat:Value->Bool
 |.agg Z=>Z.toList.all F2
 |v=>F2 v
theorem fP.L6(g:Gm){v:Value}(h:F2 v=true):fP g v v:=by
 unfold F2 at h
 split at h<;>first|exact .bool _|exact .int _ _|exact .string _|exact .nilPtr|exact .qn|exact .vO|exact .nilFunc|exact .nilIface|skip
 · simp at h
   obtain⟨h1,D⟩:=h
   subst h1;subst D
   exact .func rfl rfl (fun i v v' e=>by simp at e) (fun i v v' e=>by simp at e)
 · cases h
theorem fP.of_flat(g:Gm){v:Value}(h:flat v=true):fP g v v:=by
 unfold flat at h
 split at h
 · rename_i Z
   refine .agg rfl (fun i v v' e b=>?_)
   have:v=v':=by rw[e]at b;exact gb b
   subst this
   refine fP.L6 g ?_
   rw[List.all_eq_true]at h
   exact h v (List.mem_iff_getElem?.2 ⟨i,by simpa using e⟩)
 · exact fP.L6 g h
structure Ty.Ok(T:Ty)(P:Program):Prop where
 kn:∀t i,T.kn t=some i->P.info? t=some i
 zero:∀t i z,T.kn t=some i->i.zero=some z->flat z=true
 V5:∀t i z,T.kn t=some i->i.zero=some z->z.cells.size=i.size
 eq:∀t,T.G4 t=true->P.stoodInHeld t=false/\P.eqGuardType P.depth t=false/\∀fs,P.underlying t=some (.struct fs)->∀f∈fs.toList,f.name≠ "_"
def Ty.jo(T:Ty)(t:TypeId):Option TypeDesc:=
 match T.kn t with
 |some i=>match i.desc with
  |.named _ u=>(T.kn u).map (·.desc)
  |d=>some d
 |none=>none
def Ty.size(T:Ty)(t:TypeId):Option Nat:=(T.kn t).map (·.size)
def Ty.zero(T:Ty)(t:TypeId):Option Value:=(T.kn t).bind (·.zero)
def XP:TypeDesc->Bool
 |.struct _|.array _ _=>true
 |_=>false
def Ty.agg(T:Ty)(t:TypeId):Option Bool:=(T.jo t).map XP
section
variable {T:Ty}{P:Program}
theorem Ty.Ok.jo(ok:T.Ok P){t:TypeId}{d:TypeDesc}(h:T.jo t=some d):P.underlying t=some d:=by
 unfold Ty.jo at h
 cases hi:T.kn t with
 |none=>rw[hi]at h;cases h
 |some i=>
  rw[hi]at h
  simp only at h
  have h1:=ok.kn t i hi
  unfold Program.underlying
  rw[h1]
  cases i with
  |mk desc str size bytes O e m zero comp b=>
   simp only at h⊢
   cases desc with
   |named n u=>
    simp only at h⊢
    cases hu:T.kn u with
    |none=>rw[hu]at h;cases h
    |some j=>rw[hu]at h;rw[ok.kn u j hu];exact h
   |_=>exact h
theorem Ty.Ok.gV(ok:T.Ok P){t:TypeId}{d:TypeDesc}(h:T.jo t=some d)(w:World):(underlying t).run P w=.ok d w:=by
 simp[underlying,go_sem,ok.jo h]
theorem Ty.Ok.sa(ok:T.Ok P){t:TypeId}{i:TypeInfo}(h:T.kn t=some i)(w:World):(typeInfo t).run P w=.ok i w:=by
 simp[typeInfo,go_sem,ok.kn _ _ h]
theorem Ty.Ok.oE(ok:T.Ok P){t:TypeId}{n:Nat}(h:T.size t=some n)(w:World):(Go.sizeOf t).run P w=.ok n w:=by
 unfold Ty.size at h
 cases hi:T.kn t with
 |none=>rw[hi]at h;cases h
 |some i=>rw[hi]at h;cases h;unfold Go.sizeOf;rw[ft (ok.sa hi w)];rfl
theorem Ty.Ok.qq(ok:T.Ok P){t:TypeId}{z:Value}(h:T.zero t=some z)(w:World):(zeroValue t).run P w=.ok z w:=by
 unfold Ty.zero at h
 cases hi:T.kn t with
 |none=>rw[hi]at h;cases h
 |some i=>rw[hi]at h;simp at h;unfold zeroValue;rw[ft (ok.sa hi w),h];rfl
theorem Ty.Ok.ru(ok:T.Ok P){t:TypeId}{z:Value}(h:T.zero t=some z):flat z=true:=by
 unfold Ty.zero at h
 cases hi:T.kn t with
 |none=>rw[hi]at h;cases h
 |some i=>rw[hi]at h;simp at h;exact ok.zero t i z hi h
theorem Ty.Ok.F3(ok:T.Ok P){t:TypeId}{b:Bool}(h:T.agg t=some b)(w:World):(isAgg t).run P w=.ok b w:=by
 unfold Ty.agg at h
 cases hd:T.jo t with
 |none=>rw[hd]at h;cases h
 |some d=>
  rw[hd]at h
  simp at h
  subst h
  unfold isAgg
  rw[ft (ok.gV hd w)]
  cases d<;>rfl
end
def lQ{α:Type}:Nat->List α->Option (List α)
 |0,_=>some []
 |n+1,x::xs=>(lQ n xs).map (x::·)
 |_+1,[]=>none
theorem wx{α:Type}:∀(n:Nat) (l r:List α),lQ n l=some r->r=l.take n/\n<=l.length
 |0,l,r,h=>by simp[lQ]at h;subst h;simp
 |n+1,[],r,h=>by simp[lQ]at h
 |n+1,x::xs,r,h=>by
  simp only[lQ,Option.map_eq_some_iff]at h
  obtain⟨b,h1,rfl⟩:=h
  obtain⟨rfl,D⟩:=wx n xs b h1
  simp;omega
def kh(T:Ty)(O:Hp)(t:TypeId)(a:Value):Option Value:=
 match a with
 |.pointer (some ⟨b,off,none⟩)=>
  match O b with
  |some (.cells Z _)=>
   match T.agg t with
   |some true=>(T.size t).bind fun n=>(lQ n (Z.drop off)).map fun l=>.agg l.toArray
   |some false=>Z[off]?
   |none=>none
  |_=>none
 |_=>none
section
variable {B0:Nat}{w0:World}{g:Gm}{O:Hp}{G:Nat}{w:World}
theorem gx.vk(H:gx B0 w0 g O G w){b:Nat}{Z:List Value}{m:gm}(h:O b=some (.cells Z m)){rb ro:Nat}(hb:g.ga b=some (rb,ro)):
 ∃j el e,w.heap[rb]?=some (.cells j el e)/\pj B0 g b (.cells Z m) rb ro (.cells j el e):=by
 obtain⟨jv,a2,a3⟩:=(H.live b _ h).2 rb ro hb
 cases jv<;>first|exact a3.elim|skip
 exact⟨_,_,_,a2,a3⟩
theorem gx.T_(H:gx B0 w0 g O G w){b:Nat}{Z:List Value}{m:gm}(h:O b=some (.cells Z m)){rb ro:Nat}(hb:g.ga b=some (rb,ro)){i:Nat}{v:Value}(e:Z[i]?=some v):
 ∃v',w.cell? ⟨rb,ro+i,none⟩=some v'/\fP g v v':=by
 obtain⟨j,el,p,a2,a3⟩:=H.vk h hb
 obtain⟨u,o,_⟩:=a3
 have hi:=(fp.1 e).1
 have:ro+i<j.size:=by omega
 exact⟨j[ro+i],by simp[World.cell?,a2],o i v _ e (by simp[this])⟩
end
theorem run_load{P:Program}{w:World}{a:Addr}{v:Value}(h:w.cell? a=some v):(load a).run P w=.ok v w:=by
 simp[load,Sem.run,h]
theorem run_loadCellsFrom{P:Program}{w:World}(a:Addr):∀(n i:Nat) (acc:Array Value) (vs:List Value),vs.length=n->(∀j v,vs[j]?=some v->w.cell? (a.add (i+j))=some v)->
 (loadCellsFrom a i n acc).run P w=.ok (acc++vs.toArray) w:=by
 intro n
 induction n with
 |zero=>intro i acc vs h _;simp at h;subst h;simp[loadCellsFrom,go_sem]
 |succ n ih=>
  intro i acc vs h hc
  cases vs with
  |nil=>simp at h
  |cons v vs=>
   have h0:=hc 0 v rfl
   simp only[Nat.add_zero]at h0
   unfold loadCellsFrom
   rw[ft (run_load h0),ih (i+1) (acc.push v) vs (by simpa using h) (fun j u hj=>by
    have:=hc (j+1) u (by simpa using hj)
    rwa[show i+1+j=i+(j+1)from by omega])]
   simp
theorem Addr.uQ(b off n:Nat):(⟨b,off,none⟩:Addr).add n=⟨b,off+n,none⟩:=by
 unfold Addr.add
 split
 · rename_i h;subst h;rfl
 · rfl
section
variable {T:Ty}{P:Program}{B0:Nat}{w0:World}{g:Gm}{O:Hp}{G:Nat}{w:World}
theorem gx.loadCells(H:gx B0 w0 g O G w){b:Nat}{Z:List Value}{m:gm}(h:O b=some (.cells Z m)){rb ro:Nat}(hb:g.ga b=some (rb,ro)){off n:Nat}{l:List Value}
 (hl:lQ n (Z.drop off)=some l):∃u,(Go.loadCells ⟨rb,ro+off,none⟩ n).run P w=.ok u.toArray w/\gZ g l u:=by
 obtain⟨rfl,hn⟩:=wx _ _ _ hl
 obtain⟨y,el,A,a2,a3⟩:=H.vk h hb
 obtain⟨B,z,_⟩:=a3
 simp at hn
 refine⟨(y.toList.drop (ro+off)).take n,?_,?_,?_⟩
 · unfold Go.loadCells
   rw[run_loadCellsFrom _ n 0 #[] ((y.toList.drop (ro+off)).take n)]
   · simp
   · by_cases h0:n=0
     · subst h0;simp
     · simp;omega
   · intro j v o
     rw[Addr.uQ]
     rw[List.getElem?_take]at o
     split at o
     · simp at o
       simp[World.cell?,a2,o]
     · cases o
 · by_cases h0:n=0
   · subst h0;simp
   · simp;omega
 · intro i v v' e p
   rw[List.getElem?_take]at e p
   split at e
   · rename_i hi
     simp only[hi,if_true]at p
     simp at e p
     exact z (off+i) v v' e (by rw[<-Nat.add_assoc];exact p)
   · cases e
theorem Gt(ok:T.Ok P)(H:gx B0 w0 g O G w){t:TypeId}{a a' v:Value}(h:kh T O t a=some v)(p:fP g a a'):
 ∃v',(Instr.loadAt t a').run P w=.ok v' w/\fP g v v':=by
 unfold kh at h
 split at h
 · rename_i b off
   split at h
   · rename_i Z m hb
     obtain⟨_,rb,ro,hg,rfl⟩:=p.sL
     unfold Instr.loadAt Instr.sureAddr
     rw[ft (V4 _ w)]
     unfold loadVar
     split at h
     · rename_i j
       rw[ft (ok.F3 j w)]
       simp only[if_true]
       cases hs:T.size t with
       |none=>rw[hs]at h;cases h
       |some n=>
        rw[hs]at h
        simp only[Option.bind_some,Option.map_eq_some_iff]at h
        obtain⟨l,hl,rfl⟩:=h
        obtain⟨u,h1,D⟩:=H.loadCells (P:=P) hb hg hl
        rw[ft (ok.oE hs w),ft h1]
        refine⟨_,rfl,.agg (by simpa using D.1) (fun i v v' e o=>D.2 i v v' (by simpa using e) (by simpa using o))⟩
     · rename_i j
       rw[ft (ok.F3 j w)]
       obtain⟨v',h1,D⟩:=H.T_ hb hg h
       exact⟨v',run_load h1,D⟩
     · cases h
   · cases h
 · cases h
end
end
end Sw
namespace Sw
noncomputable section
open Go Go.RowKit
def wy{α:Type}:List α->List α->Option (List α)
 |Z,[]=>some Z
 |_::Z,v::vs=>(wy Z vs).map (v::·)
 |[],_::_=>none
def mM{α:Type}:List α->Nat->List α->Option (List α)
 |Z,0,vs=>wy Z vs
 |c::Z,n+1,vs=>(mM Z n vs).map (c::·)
 |[],_+1,_=>none
theorem H5{α:Type}:∀(Z vs r:List α),wy Z vs=some r->vs.length<=Z.length/\r=vs++Z.drop vs.length
 |Z,[],r,h=>by cases Z<;>simp[wy]at h<;>subst h<;>simp
 |[],_::_,r,h=>by simp[wy]at h
 |c::Z,v::vs,r,h=>by
  simp only[wy,Option.map_eq_some_iff]at h
  obtain⟨b,h1,rfl⟩:=h
  obtain⟨D,rfl⟩:=H5 Z vs b h1
  simp;omega
theorem Bi{α:Type}:∀(Z:List α) (n:Nat) (vs r:List α),mM Z n vs=some r->n+vs.length<=Z.length/\r=Z.take n++vs++Z.drop (n+vs.length)
 |Z,0,vs,r,h=>by
  have b:wy Z vs=some r:=by cases Z<;>exact h
  obtain⟨h1,rfl⟩:=H5 Z vs r b
  simp[h1]
 |[],n+1,vs,r,h=>by simp[mM]at h
 |c::Z,n+1,vs,r,h=>by
  simp only[mM,Option.map_eq_some_iff]at h
  obtain⟨e,h1,rfl⟩:=h
  obtain⟨D,rfl⟩:=Bi Z n vs e h1
  constructor
  · simp;omega
  · rw[show n+1+vs.length=(n+vs.length)+1 from by omega];simp
theorem tD.setCell{w:World}{rb k:Nat}{e:Array Value}{el:TypeId}{b:Nat×Nat}(hw:w.heap[rb]?=some (.cells e el b))(v:Value):
 tD w (w.setCell ⟨rb,k,none⟩ v) rb (.cells (e.setIfInBounds k v) el b):=by
 refine⟨rfl,rfl,rfl,by simp[World.setCell],?_,fun i hi=>?_,fg _⟩
 · simp[World.setCell,Array.getElem?_modify,hw]
 · simp only[World.setCell,Array.getElem?_modify]
   rw[if_neg (Ne.symm hi)]
def one:Value->Bool
 |.agg _|.tuple _=>false
 |_=>true
theorem fP.one{g:Gm}{v v':Value}(h:fP g v v'):Sw.one v=Sw.one v':=by cases h<;>rfl
theorem H6{α:Type}(l:List α)(p n:Nat)(v:α)(hl:p<l.length):(l.set p v).take (p+1)=l.take p++[v]/\(l.set p v).drop (p+1+n)=l.drop (p+1+n):=by
 constructor
 · refine List.ext_getElem? fun i=>?_
   rw[List.getElem?_take,List.getElem?_append,List.getElem?_set,List.getElem?_take]
   have b:(l.take p).length=p:=by simp;omega
   rw[b]
   by_cases h1:i<p
   · rw[if_pos (by omega),if_neg (by omega),if_pos h1,if_pos h1]
   · rw[if_neg h1]
     by_cases D:p=i
     · subst D;simp[hl]
     · rw[if_neg (by omega)]
       rw[List.getElem?_eq_none (by simp;omega)]
 · refine List.ext_getElem? fun i=>?_
   rw[List.getElem?_drop,List.getElem?_drop,List.getElem?_set,if_neg (by omega)]
theorem run_store{P:Program}{w:World}{a:Addr}{u v:Value}(h:w.cell? a=some u)(hf:w.frozen? a=false)(b:one v=true):(store a v).run P w=.ok () (w.setCell a v):=by
 unfold store
 cases v<;>first|(simp[one]at b;done)|(simp[Sem.run,h,hf])
theorem CM{P:Program}{rb k:Nat}{el:TypeId}{m:Nat×Nat}:∀(vs:List Value) (i:Nat) (w:World) (b:Array Value),w.heap[rb]?=some (.cells b el m)->k+i+vs.length<=b.size->
 (∀j,j<b.size->¬(m.1<=j/\j<m.2))->(∀v∈vs,one v=true)->
 ∃w',(storeCells ⟨rb,k,none⟩ vs i).run P w=.ok () w'/\tD w w' rb (.cells (b.toList.take (k+i)++vs++b.toList.drop (k+i+vs.length)).toArray el m)/\w'.heap.size=w.heap.size:=by
 intro vs
 induction vs with
 |nil=>
  intro i w b hw _ _ _
  refine⟨w,rfl,⟨rfl,rfl,rfl,fg _,?_,fun _ _=>rfl,fg _⟩,rfl⟩
  simpa using hw
 |cons v vs ih=>
  intro i w b hw hlen hf p
  simp only[List.length_cons]at hlen
  have hc:w.cell? ((⟨rb,k,none⟩:Addr).add i)=some b[k+i]:=by
   rw[Addr.uQ];simp[World.cell?,hw]
  have o:w.frozen? ((⟨rb,k,none⟩:Addr).add i)=false:=by
   rw[Addr.uQ]
   have:=hf (k+i) (by omega)
   simp only[World.frozen?,hw]
   obtain⟨lo,hi⟩:=m
   simp only at this⊢
   simp;omega
  have y:=tD.setCell (k:=k+i) hw v
  have u:(w.setCell ⟨rb,k+i,none⟩ v).heap[rb]?=some (.cells (b.setIfInBounds (k+i) v) el m):=y.at_
  obtain⟨w',h1,D,h3⟩:=ih (i+1) (w.setCell ⟨rb,k+i,none⟩ v) (b.setIfInBounds (k+i) v) u (by simp;omega) (by simpa using hf) (fun x hx=>p x (fG _ hx))
  refine⟨w',?_,?_,by rw[h3];simp⟩
  · unfold storeCells
    rw[ft (run_store hc o (p v (List.mem_cons_self ..))),Addr.uQ]
    exact h1
  · have:=y.trans D
    have e:(List.take (k+(i+1)) (b.setIfInBounds (k+i) v).toList++vs++List.drop (k+(i+1)+vs.length) (b.setIfInBounds (k+i) v).toList)=(List.take (k+i) b.toList++v::vs++List.drop (k+i+(v::vs).length) b.toList):=by
     have hl:k+i<b.toList.length:=by simp;omega
     obtain⟨t1,t2⟩:=H6 b.toList (k+i) vs.length v hl
     rw[Array.toList_setIfInBounds,show k+(i+1)=k+i+1 from by omega,t1,t2]
     simp
     rw[show k+i+1+vs.length=k+i+(vs.length+1)from by omega]
    rw[e]at this
    exact this
abbrev uq:=List (Nat×Option (jT Tm))
def Hp.ur(O:Hp)(l:uq):Hp:=l.foldl (fun h x=>h.set x.1 x.2) O
def overlaps(b lo hi:Nat)(e:Mem):Bool:=!(Nat.beq e.ga b)&&(Nat.blt e.base hi&&Nat.blt lo (e.base+e.len))
theorem Jl{b lo hi:Nat}{e:Mem}(h:overlaps b lo hi e=false)(jI:e.ga≠b):hi<=e.base\/e.base+e.len<=lo:=by
 unfold overlaps at h
 have h1:Nat.beq e.ga b=false:=by cases D:Nat.beq e.ga b with|false=>rfl|true=>exact(jI (fC D)).elim
 rw[h1]at h
 cases D:Nat.blt e.base hi with
 |false=>exact .inl (by have:¬e.base<hi:=fun k=>by have q:=(Nat.blt_eq (x:=e.base) (y:=hi)).mpr k;rw[q]at D;cases D
                        omega)
 |true=>
  rw[D]at h
  refine .inr ?_
  have:¬lo<e.base+e.len:=fun k=>by have q:=(Nat.blt_eq (x:=lo) (y:=e.base+e.len)).mpr k;rw[q]at h;cases h
  omega
def nw(ov:Mem->Bool)(ms:List Mem):uq:=(ms.filter ov).map fun e=>(e.ga,none)
section
variable {T:Ty}{P:Program}{B0:Nat}{w0:World}{g:Gm}{O:Hp}{G:Nat}{w:World}
theorem gx.Cn(H:gx B0 w0 g O G w){gr:Nat}{ms:List Mem}(u:O gr=some (.group ms))(ov:Mem->Bool)(B:∀e∈ms,ov e=true->∀l,O e.ga≠some (.group l))(A:List Mem):
 gx B0 w0 g ((O.ur (nw ov ms)).set gr (some (.group ((ms.filter fun e=>!(ov e))++A)))) G w/\
  (∀b o,(O.ur (nw ov ms)) b=some o->O b=some o/\∀e∈ms,ov e=true->e.ga≠b)/\
  (∀b,(∀e∈ms,ov e=true->e.ga≠b)->(O.ur (nw ov ms)) b=O b):=by
 have key:∀(l:List Mem) (e9:Hp),(∀e∈l,ov e=true->∀x,e9 e.ga≠some (.group x))->gx B0 w0 g e9 G w->
  gx B0 w0 g (e9.ur (nw ov l)) G w/\(∀b o,(e9.ur (nw ov l)) b=some o->e9 b=some o/\∀e∈l,ov e=true->e.ga≠b)/\
  (∀b,(∀e∈l,ov e=true->e.ga≠b)->(e9.ur (nw ov l)) b=e9 b):=by
  intro l
  induction l with
  |nil=>intro e9 _ z;exact⟨z,fun b o e=>⟨e,fun _ h=>by cases h⟩,fun _ _=>rfl⟩
  |cons x l ih=>
   intro e9 hg z
   by_cases hx:ov x=true
   · have e1:e9.ur (nw ov (x::l))=(e9.set x.ga none).ur (nw ov l):=by simp[nw,hx,Hp.ur]
     rw[e1]
     have C:∀e∈l,ov e=true->∀y,(e9.set x.ga none) e.ga≠some (.group y):=by
      intro e he F y h
      by_cases E:e.ga=x.ga
      · rw[E,Hp.jO]at h;cases h
      · rw[Hp.gR _ _ E]at h;exact hg e (fG _ he) F y h
     obtain⟨p,q,r⟩:=ih (e9.set x.ga none) C (z.kill x.ga (hg x (fz ..) hx))
     refine⟨p,fun b o e=>?_,fun b hb=>?_⟩
     · obtain⟨a1,a2⟩:=q b o e
       have hb:b≠x.ga:=fun h=>by subst h;rw[Hp.jO]at a1;cases a1
       rw[Hp.gR _ _ hb]at a1
       refine⟨a1,fun y hy j=>?_⟩
       rcases fT.1 hy with rfl|hy
       · exact Ne.symm hb
       · exact a2 y hy j
     · rw[r b (fun e he=>hb e (List.mem_cons_of_mem _ he)),Hp.gR _ _ (Ne.symm (hb x (List.mem_cons_self ..) hx))]
   · have e1:e9.ur (nw ov (x::l))=e9.ur (nw ov l):=by simp[nw,hx]
     rw[e1]
     obtain⟨p,q,r⟩:=ih e9 (fun e he=>hg e (fG _ he)) z
     refine⟨p,fun b o e=>?_,fun b hb=>r b (fun e he=>hb e (fG _ he))⟩
     obtain⟨a1,a2⟩:=q b o e
     refine⟨a1,fun y hy j=>?_⟩
     rcases fT.1 hy with rfl|hy
     · exact(hx j).elim
     · exact a2 y hy j
 obtain⟨p,q,r⟩:=key ms O B H
 refine⟨?_,q,r⟩
 refine p.L5 _ (fg _) ((H.live _ _ u).1) (H.pC _ _ u) ?_
 intro b Z m e k
 obtain⟨a1,a2⟩:=q b _ e
 obtain⟨K,b1,b2⟩:=H.mem b Z m gr a1 k
 rw[u]at b1;cases b1
 rw[List.mem_append]
 refine .inl ?_
 rw[List.mem_filter]
 refine⟨b2,?_⟩
 cases J:ov ⟨b,m.base,Z.length⟩with
 |false=>rfl
 |true=>exact(a2 _ b2 J rfl).elim
def oF(O:Hp)(ov:Mem->Bool)(ms:List Mem):Bool:=
 (ms.filter ov).all fun e=>match O e.ga with|some (.group _)=>false|_=>true
theorem Ab{ov:Mem->Bool}{ms:List Mem}(h:oF O ov ms=true):∀e∈ms,ov e=true->∀l,O e.ga≠some (.group l):=by
 intro e he b l hl
 unfold oF at h
 rw[List.all_eq_true]at h
 have:=h e (List.mem_filter.2 ⟨he,b⟩)
 rw[hl]at this
 cases this
end
def oG(O:Hp)(b:Nat)(Z:List Value)(m:gm)(off:Nat)(vs:List Value):Option uq:=
 bif m.ro then none else
 (mM Z off vs).bind fun lJ=>
   match m.mP with
   |none=>some [(b,some (.cells lJ m))]
   |some gr=>match O gr with
    |some (.group ms)=>
     bif oF O (overlaps b (m.base+off) (m.base+off+vs.length)) ms then
      some (nw (overlaps b (m.base+off) (m.base+off+vs.length)) ms++
       [(gr,some (.group (ms.filter fun e=>!(overlaps b (m.base+off) (m.base+off+vs.length) e)))),(b,some (.cells lJ m))])
     else none
    |_=>none
theorem Hp.Dy(O:Hp)(l b:uq):O.ur (l++b)=(O.ur l).ur b:=by simp[Hp.ur]
def vF(g:Gm)(O:Hp)(w w':World):Prop:=
 ∀rb,rb<w.heap.size->(∀b o ro,O b=some o->g.ga b≠some (rb,ro))->w'.heap[rb]?=w.heap[rb]?
theorem vF.refl(g:Gm)(O:Hp)(w:World):vF g O w w:=fun _ _ _=>rfl
section
variable {P:Program}{B0:Nat}{w0:World}{g:Gm}{O:Hp}{G:Nat}{w:World}
theorem wz(H:gx B0 w0 g O G w){b off rb ro:Nat}{Z vs o:List Value}{m:gm}{jJ:uq}(hb:O b=some (.cells Z m))(hg:g.ga b=some (rb,ro))
 (h:oG O b Z m off vs=some jJ) (ab:gZ g vs o) (ar:∀v∈vs,one v=true):
 ∃w',(storeCells ⟨rb,ro+off,none⟩ o).run P w=.ok () w'/\gx B0 w0 g (O.ur jJ) G w'/\vF g O w w'/\w'.heap.size=w.heap.size:=by
 unfold oG at h
 cases p:m.ro with
 |true=>rw[p]at h;cases h
 |false=>
  rw[p]at h
  simp only[cond_false]at h
  cases L:mM Z off vs with
  |none=>rw[L]at h;cases h
  |some lJ=>
   rw[L]at h
   simp only[Option.bind_some]at h
   obtain⟨s1,s2⟩:=Bi _ _ _ _ L
   obtain⟨u,el,aD,a2,a3⟩:=H.vk hb hg
   obtain⟨aE,aj,au,aF,_⟩:=a3
   have R:o.length=vs.length:=ab.1.symm
   have ah:∀v∈o,one v=true:=by
    intro v' ai
    obtain⟨i,hi,e⟩:=gC.1 ai
    have N:i<vs.length:=by omega
    have:=ab.2 i vs[i] o[i] (fq N) (fq hi)
    rw[e]at this
    rw[<-this.one]
    exact ar _ (List.getElem_mem N)
   obtain⟨w',r1,r2,ay⟩:=CM (P:=P) (rb:=rb) (k:=ro+off) o 0 w u a2 (by omega) (au p).2.free ah
   simp only[Nat.add_zero]at r2
   have M:vF g O w w':=fun r hr hn=>by
    by_cases W:r=rb
    · subst W;exact(hn b _ ro hb hg).elim
    · exact r2.other r W
   refine⟨w',r1,?_,M,ay⟩
   have E:lJ.length=Z.length:=by rw[s2];simp;omega
   have X:(u.toList.take (ro+off)++o++u.toList.drop (ro+off+o.length)).toArray.size=u.size:=by simp;omega
   have J:∀(i:Nat) (v v':Value),lJ[i]?=some v->(u.toList.take (ro+off)++o++u.toList.drop (ro+off+o.length)).toArray[ro+i]?=some v'->fP g v v':=by
    intro i v v' e z
    rw[s2]at e
    have av:(Z.take off).length=off:=by simp;omega
    have ad:(u.toList.take (ro+off)).length=ro+off:=by simp;omega
    simp only[List.getElem?_toArray]at z
    rw[List.append_assoc,List.getElem?_append,av]at e
    rw[List.append_assoc,List.getElem?_append,ad]at z
    by_cases h1:i<off
    · rw[if_pos h1,List.getElem?_take,if_pos h1]at e
      rw[if_pos (by omega),List.getElem?_take,if_pos (by omega)]at z
      exact aj i v v' e (by simpa using z)
    · rw[if_neg h1,List.getElem?_append]at e
      rw[if_neg (by omega),List.getElem?_append,R,show ro+i-(ro+off)=i-off from by omega]at z
      by_cases D:i-off<vs.length
      · rw[if_pos D]at e z
        exact ab.2 _ v v' e z
      · rw[if_neg D,List.getElem?_drop]at e z
        refine aj i v v' ?_ ?_
        · rw[<-e];congr 1;omega
        · rw[<-z,Array.getElem?_toList];congr 1;omega
   have B:∀j,¬(ro+off<=j/\j<ro+off+vs.length)->(u.toList.take (ro+off)++o++u.toList.drop (ro+off+o.length)).toArray[j]?=u[j]?:=by
    intro j hj
    have ad:(u.toList.take (ro+off)).length=ro+off:=by simp;omega
    simp only[List.getElem?_toArray]
    rw[List.append_assoc,List.getElem?_append,ad]
    by_cases h1:j<ro+off
    · rw[if_pos h1,List.getElem?_take,if_pos h1];simp
    · rw[if_neg h1,List.getElem?_append,R,if_neg (by omega),List.getElem?_drop,Array.getElem?_toList]
      congr 1;omega
   cases A:m.mP with
   |none=>
    rw[A]at h
    cases h
    refine H.putCells hb hg p a2 r2 X E J (ro+off) (ro+off+vs.length) B ?_
    intro b1 C m1 r1 jI e1 e2
    have:=H.sep b1 b _ _ rb r1 ro jI e1 hb e2 hg
    rcases this with⟨_,x⟩|⟨gr,_,x,_⟩
    · rw[p]at x;cases x
    · rw[A]at x;cases x
   |some gr=>
    rw[A]at h
    simp only at h
    split at h
    · rename_i ms qX
      cases F:oF O (overlaps b (m.base+off) (m.base+off+vs.length)) ms with
      |false=>rw[F]at h;cases h
      |true=>
       rw[F]at h
       simp only[cond_true]at h
       cases h
       obtain⟨K,aw,ax⟩:=H.Cn qX (overlaps b (m.base+off) (m.base+off+vs.length)) (Ab F) []
       rw[List.append_nil]at K
       have af:∀e∈ms,overlaps b (m.base+off) (m.base+off+vs.length) e=true->e.ga≠b:=fun e _ h=>by
        intro aq
        unfold overlaps at h
        rw[aq,Nat.beq_refl]at h
        cases h
       have ag:b≠gr:=fun h=>by subst h;rw[hb]at qX;cases qX
       have ae:((O.ur (nw (overlaps b (m.base+off) (m.base+off+vs.length)) ms)).set gr (some (.group (ms.filter fun e=>!(overlaps b (m.base+off) (m.base+off+vs.length) e))))) b=some (.cells Z m):=by
        rw[Hp.gR _ _ ag,ax b af];exact hb
       rw[Hp.Dy]
       refine K.putCells ae hg p a2 r2 X E J (ro+off) (ro+off+vs.length) B ?_
       intro b1 C m1 ak jI e1 e2
       have aa:b1≠gr:=fun h=>by subst h;rw[Hp.jO]at e1;cases e1
       rw[Hp.gR _ _ aa]at e1
       obtain⟨al,az⟩:=aw b1 _ e1
       have:=H.sep b1 b _ _ rb ak ro jI al hb e2 hg
       rcases this with⟨_,y⟩|⟨aB,aA,an,aG⟩
       · rw[p]at y;cases y
       · rw[A]at an;cases an
         obtain⟨aC,ao,z2⟩:=H.mem b1 C m1 gr al aA
         rw[qX]at ao;cases ao
         cases S:overlaps b (m.base+off) (m.base+off+vs.length) ⟨b1,m1.base,C.length⟩with
         |true=>exact(az _ z2 S rfl).elim
         |false=>
          have:=Jl S jI
          simp only at this
          omega
    · cases h
end
def xe(T:Ty)(O:Hp)(t:TypeId)(a v:Value):Option uq:=
 match a with
 |.pointer (some ⟨b,off,none⟩)=>
  match O b with
  |some (.cells Z m)=>
   match T.size t with
   |some n=>bif Nat.beq v.cells.toList.length n&&v.cells.toList.all one then oG O b Z m off v.cells.toList else none
   |none=>none
  |_=>none
 |_=>none
section
variable {T:Ty}{P:Program}{B0:Nat}{w0:World}{g:Gm}{O:Hp}{G:Nat}{w:World}
theorem L7(ok:T.Ok P)(H:gx B0 w0 g O G w){t:TypeId}{a a' v v':Value}{jJ:uq}(h:xe T O t a v=some jJ)(j:fP g a a')(o:fP g v v'):
 ∃w',(Instr.storeAt t a' v').run P w=.ok () w'/\gx B0 w0 g (O.ur jJ) G w'/\vF g O w w'/\w'.heap.size=w.heap.size:=by
 unfold xe at h
 split at h
 · rename_i b off
   split at h
   · rename_i Z m hb
     obtain⟨_,rb,ro,hg,rfl⟩:=j.sL
     split at h
     · rename_i n hn
       cases hc:(Nat.beq v.cells.toList.length n&&v.cells.toList.all one)with
       |false=>rw[hc]at h;cases h
       |true=>
        rw[hc]at h
        simp only[cond_true]at h
        simp only[Bool.and_eq_true]at hc
        obtain⟨c1,c2⟩:=hc
        have c1:=fC c1
        rw[List.all_eq_true]at c2
        have e:=o.cells
        obtain⟨w',r1,r2⟩:=wz (P:=P) H hb hg h e c2
        refine⟨w',?_,r2⟩
        unfold Instr.storeAt Instr.sureAddr
        rw[ft (V4 _ w)]
        unfold storeVar
        rw[ft (ok.oE hn w),if_neg (by rw[<-c1,e.1];simp)]
        exact r1
     · cases h
   · cases h
 · cases h
end
end
end Sw
namespace Sw
noncomputable section
open Go Go.RowKit
structure Dz(g:Gm)(O:Hp)(n:Nat):Prop where
 ga:g.ga n=none
 room:g.room n=none
 O:O n=none
theorem gx.fresh{B0:Nat}{w0:World}{g:Gm}{O:Hp}{G:Nat}{w:World}(H:gx B0 w0 g O G w){n:Nat}(h:G<=n):Dz g O n:=by
 have hb:g.ga n=none:=by
  cases e:g.ga n with
  |none=>rfl
  |some x=>have:=(H.rT n x.1 x.2 e).1;omega
 refine⟨hb,?_,?_⟩
 · cases e:g.room n with
   |none=>rfl
   |some x=>exact(H.room n x e hb).elim
 · cases e:O n with
   |none=>rfl
   |some x=>have:=(H.live n x e).1;omega
theorem gx.A5{B0:Nat}{w0:World}{g:Gm}{O:Hp}{G e_:Nat}{w:World}(H:gx B0 w0 g O G w)(h:G<=e_):gx B0 w0 g O e_ w:=
 ⟨H.below,H.base,fun b rb ro e=>⟨by have:=(H.rT b rb ro e).1;omega,(H.rT b rb ro e).2⟩,fun b o e=>⟨by have:=(H.live b o e).1;omega,(H.live b o e).2⟩,H.pC,H.mem,H.sep,H.room⟩
theorem gx.of_heap{B0:Nat}{w0:World}{g:Gm}{O:Hp}{G:Nat}{w w':World}(H:gx B0 w0 g O G w)(h1:w'.heap=w.heap)(D:w'.os=w.os)(h3:w'.tape=w.tape)(h4:w'.output=w.output)(j:w.drawn<=w'.drawn:=by first|exact fg _|exact fh _|exact gv _ _):gx B0 w0 g O G w':=
 ⟨⟨⟨D.trans H.below.b.os,h3.trans H.below.b.tape,h4.trans H.below.b.output,by rw[h1];exact H.below.b.size,fun k hk=>by rw[h1];exact H.below.b.block k hk⟩,Nat.le_trans H.below.drawn j⟩,
   by rw[h1];exact H.base,fun b rb ro e=>by rw[h1];exact H.rT b rb ro e,fun b o e=>by rw[h1];exact H.live b o e,H.pC,H.mem,H.sep,H.room⟩
def pQ(g g':Gm)(w:World):Prop:=∀b rb ro,g'.ga b=some (rb,ro)->(∃e j,g.ga e=some (rb,j))\/w.heap.size<=rb
theorem pQ.refl(g:Gm)(w:World):pQ g g w:=fun b _ ro e=>.inl ⟨b,ro,e⟩
theorem pQ.add{g:Gm}{w:World}{n rb ro:Nat}{room:Option (Nat×Nat)}(h:(∃m o,g.ga m=some (rb,o))\/w.heap.size<=rb):pQ g (g.add n (rb,ro) room) w:=by
 intro b p j e
 by_cases hb:b=n
 · subst hb;rw[Gm.ma]at e;cases e;exact h
 · rw[Gm.j5 _ _ _ hb]at e;exact .inl ⟨b,j,e⟩
theorem pQ.new{g:Gm}{w:World}{n ro:Nat}{room:Option (Nat×Nat)}:pQ g (g.add n (w.heap.size,ro) room) w:=pQ.add (.inr (fg _))
structure Zb(B0:Nat)(w0:World)(g:Gm)(O:Hp)(n k e_:Nat)(w:World)(r:Result Value)(v:Value)(jJ:uq)(g':Gm)(v':Value)(w':World):Prop where
 run:r=.ok v' w'
 le:g.le g'
 new:∀b,g'.ga b≠none->g.ga b≠none\/(n<=b/\b<n+k)
 val:fP g' v v'
 rel:gx B0 w0 g' (O.ur jJ) e_ w'
 keeps:vF g O w w'
 size:w.heap.size<=w'.heap.size
 held:pQ g g' w
abbrev qj:=Value×uq×Nat
def iG(B0:Nat)(w0:World)(g:Gm)(O:Hp)(G n:Nat)(w:World)(r:Result Value)(e:qj):Prop:=
 ∀e_,G<=e_->n+e.2.2<=e_->(∀i,i<e.2.2->Dz g O (n+i))->∃g' v' w',Zb B0 w0 g O n e.2.2 e_ w r e.1 e.2.1 g' v' w'
section
variable {T:Ty}{P:Program}{B0:Nat}{w0:World}{g:Gm}{O:Hp}{G n:Nat}{w:World}
theorem iG.pure(H:gx B0 w0 g O G w){r:Result Value}{v v':Value}(hr:r=.ok v' w)(b:fP g v v'):iG B0 w0 g O G n w r (v,[],0):=
 fun _ h1 _ _=>⟨g,v',w,hr,Gm.le_refl g,fun _ h=>.inl h,b,H.A5 h1,vF.refl _ _ _,fg _,pQ.refl _ _⟩
theorem run_newObj(o:Obj)(w:World):(newObj o).run P w=.ok w.heap.size (w.alloc o):=rfl
theorem tE(e:TypeId)(c:Array Value)(w:World):(newRow e c).run P w=.ok ⟨w.heap.size,0,none⟩ (w.alloc (.cells c e)):=by
 unfold newRow
 rw[ft (run_newObj _ w)];rfl
theorem vF.alloc(g:Gm)(O:Hp)(w:World)(o:Obj):vF g O w (w.alloc o):=fun rb h _=>(tD.alloc w o).other rb (by omega)
theorem gx.mg(H:gx B0 w0 g O G w)(hf:Dz g O n){e_:Nat}(h1:G<=e_)(D:n<e_){Z lJ:List Value}(hc:gZ g Z lJ)(el:TypeId):
 gx B0 w0 (g.add n (w.heap.size,0) none) (O.set n (some (.cells Z gm.plain))) e_ (w.alloc (.cells lJ.toArray el)):=by
 refine H.alloc hf.ga hf.room hf.O h1 D _ _ none rfl ?_ (fun Z m gr e k=>by cases e;cases k)
 refine⟨by simp[hc.1],fun i v v' e b=>?_,fun _=>⟨H.base,.inl rfl⟩,fun gr e=>by(cases e),fun _=>Gm.sS _ _ _ _⟩
 exact(hc.2 i v v' e (by simpa using b)).mono (Gm.rq hf.ga _ _)
theorem Gm.CN{x:Nat×Nat}{room:Option (Nat×Nat)}:∀b,(g.add n x room).ga b≠none->g.ga b≠none\/(n<=b/\b<n+1):=by
 intro b h
 by_cases hb:b=n
 · exact .inr ⟨by omega,by omega⟩
 · rw[Gm.j5 _ _ _ hb]at h;exact .inl h
def Co(n:Nat)(Z:List Value):qj:=(.pointer (some ⟨n,0,none⟩),[(n,some (.cells Z gm.plain))],1)
theorem H7(H:gx B0 w0 g O G w){Z lJ:List Value}(hc:gZ g Z lJ)(el:TypeId){r:Result Value}(hr:r=.ok (.pointer (some ⟨w.heap.size,0,none⟩)) (w.alloc (.cells lJ.toArray el))):
 iG B0 w0 g O G n w r (Co n Z):=by
 intro e_ h1 D hf
 have hf:=hf 0 (by simp[Co])
 simp only[Nat.add_zero]at hf
 exact⟨g.add n (w.heap.size,0) none,_,_,hr,Gm.rq hf.ga _ _,Gm.CN,.ptr (Gm.ma _ _ _ _),H.mg hf h1 (by simp[Co]at D;omega) hc el,vF.alloc _ _ _ _,by simp,pQ.new⟩
theorem P8(H:gx B0 w0 g O G w){el:TypeId}{v v':Value}(b:fP g v v'):iG B0 w0 g O G n w ((Instr.box el v').run P w) (Co n v.cells.toList):=by
 refine H7 H b.cells el ?_
 unfold Instr.box newVar
 rw[ft (tE _ _ _)]
 simp
theorem L8(ok:T.Ok P)(H:gx B0 w0 g O G w){el:TypeId}{z:Value}(b:T.zero el=some z):iG B0 w0 g O G n w ((Instr.alloc el true (.tuple #[])).run P w) (Co n z.cells.toList):=by
 refine H7 H (fP.of_flat g (ok.ru b)).cells el ?_
 unfold Instr.alloc
 rw[ft (ok.qq b w)]
 simp only
 unfold newVar
 rw[ft (tE _ _ _)]
 simp
def DA(place:Nat->Option (Nat×Nat))(cells:List Value):List (Nat×Value)->Option (List Value)
 |[]=>some cells
 |(i,v)::rest=>
  match place i with
  |none=>none
  |some (off,size)=>bif Nat.beq v.cells.toList.length size then(mM cells off v.cells.toList).bind fun c=>DA place c rest else none
theorem RF{α:Type}(off:Nat):∀(vs:List α) (k:Nat) (cells:Array α),off+k+vs.length<=cells.size->
 ((vs.zipIdx k).foldl (fun Z (x:α×Nat)=>Z.setIfInBounds (off+x.2) x.1) cells).toList=cells.toList.take (off+k)++vs++cells.toList.drop (off+k+vs.length):=by
 intro vs
 induction vs with
 |nil=>intro k cells _;simp
 |cons v vs ih=>
  intro k cells h
  simp only[List.length_cons]at h
  simp only[List.zipIdx_cons,List.foldl_cons]
  rw[ih (k+1) _ (by simp;omega)]
  obtain⟨t1,t2⟩:=H6 cells.toList (off+k) vs.length v (by simp;omega)
  rw[Array.toList_setIfInBounds,show off+(k+1)=off+k+1 from by omega,t1,t2]
  simp
  rw[show off+k+1+vs.length=off+k+(vs.length+1)from by omega]
def DB(g:Gm)(x x':List (Nat×Value)):Prop:=x.length=x'.length/\∀(i:Nat) (p b:Nat×Value),x[i]?=some p->x'[i]?=some b->p.1=b.1/\fP g p.2 b.2
theorem DC{place:Nat->Option (Nat×Nat)}:∀(ps b:List (Nat×Value)) (Z lJ r:List Value),DB g ps b->gZ g Z lJ->DA place Z ps=some r->
 ∃y,Instr.fill place lJ.toArray b=some y.toArray/\gZ g r y:=by
 intro ps
 induction ps with
 |nil=>
  intro b Z lJ r O hc h
  cases b with
  |nil=>simp[DA]at h;subst h;exact⟨lJ,rfl,hc⟩
  |cons _ _=>have:=O.1;simp at this
 |cons p ps ih=>
  intro b Z lJ r O hc h
  cases b with
  |nil=>have:=O.1;simp at this
  |cons K b=>
   obtain⟨i,v⟩:=p
   obtain⟨N,v'⟩:=K
   obtain⟨rfl,F⟩:=O.2 0 _ _ rfl rfl
   have E:DB g ps b:=⟨by have:=O.1;simpa using this,fun j q L e J=>O.2 (j+1) q L (by simpa using e) (by simpa using J)⟩
   simp only at F
   simp only[DA]at h
   cases o:place i with
   |none=>rw[o]at h;cases h
   |some x=>
    obtain⟨off,size⟩:=x
    rw[o]at h
    simp only at h
    cases m:Nat.beq v.cells.toList.length size with
    |false=>rw[m]at h;cases h
    |true=>
     rw[m]at h
     simp only[cond_true]at h
     have m:=fC m
     cases u:mM Z off v.cells.toList with
     |none=>rw[u]at h;cases h
     |some c=>
      rw[u]at h
      simp only[Option.bind_some]at h
      obtain⟨s1,s2⟩:=Bi _ _ _ _ u
      have z:=F.cells
      have B:v'.cells.size=size:=by have:=z.1;simp at this m;omega
      have M:=hc.1
      have C:v.cells.size=size:=by simpa using m
      simp only[Array.length_toList]at s1
      have A:gZ g c ((v'.cells.zipIdx.foldl (fun Z (x:Value×Nat)=>Z.setIfInBounds (off+x.2) x.1) lJ.toArray).toList):=by
       rw[<-Array.foldl_toList,Array.toList_zipIdx,RF off v'.cells.toList 0 lJ.toArray (by simp;omega),s2]
       simp only[Nat.add_zero,Array.length_toList]
       rw[C,B]
       exact((hc.take off).append z).append (hc.drop _)
      obtain⟨y,h1,D⟩:=ih b c _ r E A h
      refine⟨y,?_,D⟩
      simp only[Instr.fill,o]
      rw[if_neg (by simp;omega)]
      simpa using h1
end
end
end Sw
namespace Sw
noncomputable section
open Go Go.RowKit
def Ty.CO(T:Ty):Prop:=∀t fs,T.jo t=some (.struct fs)->∀f∈fs.toList,∃n,T.size f.type=some n
section
variable {T:Ty}{P:Program}{B0:Nat}{w0:World}{g:Gm}{O:Hp}{G n:Nat}{w:World}
def L9(T:Ty)(fs:Array Field)(i:Nat):Option (Nat×Nat):=(fs[i]?).bind fun f=>(T.size f.type).map fun s=>(f.offset,s)
theorem run_places(ok:T.Ok P)(fs:List Field)(h:∀f∈fs,∃n,T.size f.type=some n)(w:World):
 (fs.mapM (m:=Sem) fun f=>do pure (f.offset,<-Go.sizeOf f.type)).run P w=.ok (fs.map fun f=>(f.offset,(T.size f.type).getD 0)) w:=by
 induction fs with
 |nil=>rfl
 |cons f fs ih=>
  obtain⟨s,hs⟩:=h f (fz ..)
  rw[List.mapM_cons]
  have h1:(do pure (f.offset,<-Go.sizeOf f.type):Sem (Nat×Nat)).run P w=.ok (f.offset,s) w:=by rw[ft (ok.oE hs w)];rfl
  rw[ft h1,ft (ih fun f hf=>h f (List.mem_cons_of_mem _ hf))]
  simp[hs]
def L_(T:Ty)(t:TypeId)(parts:List (Nat×Value)):Option Value:=
 match T.zero t,T.jo t with
 |some z,some (.struct fs)=>(DA (L9 T fs) z.cells.toList parts).map fun c=>.agg c.toArray
 |some z,some (.array _ el)=>(T.size el).bind fun s=>(DA (fun i=>some (i*s,s)) z.cells.toList parts).map fun c=>.agg c.toArray
 |_,_=>none
theorem gZ.Ua{c b:List Value}(h:gZ g c b):fP g (.agg c.toArray) (.agg b.toArray):=
 .agg (by simpa using h.1) (fun i v v' e j=>h.2 i v v' (by simpa using e) (by simpa using j))
theorem Ma(ok:T.Ok P)(cl:T.CO)(H:gx B0 w0 g O G w){t:TypeId}{ps b:List (Nat×Value)}{v:Value}(h:L_ T t ps=some v)(e9:DB g ps b):
 iG B0 w0 g O G n w ((Instr.build t b.toArray).run P w) (v,[],0):=by
 unfold L_ at h
 split at h
 · rename_i z fs j hu
   simp only[Option.map_eq_some_iff]at h
   obtain⟨c,hc,rfl⟩:=h
   obtain⟨o,h1,D⟩:=DC ps b z.cells.toList z.cells.toList c e9 (fP.of_flat g (ok.ru j)).cells hc
   refine iG.pure H (v':=.agg o.toArray) ?_ D.Ua
   unfold Instr.build
   rw[ft (ok.qq j w),ft (ok.gV hu w)]
   simp only
   have hm:(fs.mapM (m:=Sem) fun f=>do pure (f.offset,<-Go.sizeOf f.type)).run P w=.ok ((fs.toList.map fun f=>(f.offset,(T.size f.type).getD 0)).toArray) w:=by
    rw[Array.mapM_eq_mapM_toList]
    rw[Sem.run_map,run_places ok fs.toList (cl t fs hu)]
    rfl
   rw[ft hm]
   have e:((fun(x:Nat)=>((fs.toList.map fun f=>(f.offset,(T.size f.type).getD 0)).toArray)[x]?))=L9 T fs:=by
    funext i
    unfold L9
    simp only[List.getElem?_toArray,List.getElem?_map,Array.getElem?_toList]
    cases hf:fs[i]? with
    |none=>rfl
    |some f=>
     obtain⟨s,hs⟩:=cl t fs hu f (List.mem_iff_getElem?.2 ⟨i,by simpa using hf⟩)
     simp[hs]
   rw[e]
   simp only[Array.toArray_toList]at h1
   simp only[h1]
   rfl
 · rename_i z m el j hu
   cases hs:T.size el with
   |none=>rw[hs]at h;cases h
   |some s=>
    rw[hs]at h
    simp only[Option.bind_some,Option.map_eq_some_iff]at h
    obtain⟨c,hc,rfl⟩:=h
    obtain⟨o,h1,D⟩:=DC ps b z.cells.toList z.cells.toList c e9 (fP.of_flat g (ok.ru j)).cells hc
    refine iG.pure H (v':=.agg o.toArray) ?_ D.Ua
    unfold Instr.build
    rw[ft (ok.qq j w),ft (ok.gV hu w)]
    simp only
    rw[ft (ok.oE hs w)]
    simp only[Array.toArray_toList]at h1
    simp only[h1]
    rfl
 · cases h
def kP{α:Type}:Nat->List α->List α
 |0,_=>[]
 |n+1,z=>z++kP n z
theorem CP(z:Array Value)(m:Nat):((Array.range (m*z.size)).map (fun i=>z[i%z.size]!)).toList=kP m z.toList:=by
 induction m with
 |zero=>simp[kP]
 |succ m ih=>
  rw[Array.toList_map,Array.toList_range]at ih⊢
  have e:(m+1)*z.size=z.size+m*z.size:=by rw[Nat.succ_mul];omega
  rw[e,List.range_add,List.map_append,List.map_map]
  unfold kP
  congr 1
  · refine List.ext_getElem? fun i=>?_
    simp only[List.getElem?_map]
    by_cases hi:i<z.size
    · rw[List.getElem?_range hi]
      simp[Nat.mod_eq_of_lt hi,hi]
    · rw[List.getElem?_eq_none (by simp;omega),List.getElem?_eq_none (by simp;omega)];rfl
  · rw[<-ih]
    refine List.map_congr_left fun i _=>?_
    simp
theorem gZ.BV{z:Value}(h:flat z=true):gZ g z.cells.toList z.cells.toList:=(fP.of_flat g h).cells
theorem gZ.kP{z b:List Value}(h:gZ g z b):∀m,gZ g (kP m z) (Sw.kP m b)
 |0=>gZ.nil g
 |m+1=>h.append (gZ.kP h m)
def vQ(n:Nat)(Z:List Value)(len cap:Nat):qj:=(.slice (some ⟨n,0,none⟩) len cap,[(n,some (.cells Z gm.plain))],1)
theorem BW(H:gx B0 w0 g O G w){Z lJ:List Value}(hc:gZ g Z lJ){len cap:Nat}(hl:len<=cap)(el:TypeId){r:Result Value}
 (hr:r=.ok (.slice (some ⟨w.heap.size,0,none⟩) len cap) (w.alloc (.cells lJ.toArray el))):iG B0 w0 g O G n w r (vQ n Z len cap):=by
 intro e_ h1 D hf
 have hf:=hf 0 (by simp[vQ])
 simp only[Nat.add_zero]at hf
 refine⟨g.add n (w.heap.size,0) none,_,_,hr,Gm.rq hf.ga _ _,Gm.CN,?_,H.mg hf h1 (by simp[vQ]at D;omega) hc el,vF.alloc _ _ _ _,by simp,pQ.new⟩
 exact .slice (off:=0) (Gm.ma _ _ _ _) hl (.inl rfl)
def qY(T:Ty)(t:TypeId)(len:Nat)(parts:List (Nat×Value))(n:Nat):Option qj:=
 match T.jo t with
 |some (.slice el)=>match T.size el,T.zero el with
  |some s,some z=>bif Nat.ble (len*s) 16777216&&Nat.beq z.cells.toList.length s then(DA (fun i=>some (i*s,s)) (kP len z.cells.toList) parts).map fun c=>vQ n c len len else none
  |_,_=>none
 |_=>none
theorem Gj(ok:T.Ok P)(H:gx B0 w0 g O G w){t:TypeId}{len:Nat}{ps j:List (Nat×Value)}{e:qj}(h:qY T t len ps n=some e)(e9:DB g ps j):
 iG B0 w0 g O G n w ((Instr.buildSlice t len j.toArray).run P w) e:=by
 unfold qY at h
 split at h
 · rename_i el hu
   split at h
   · rename_i s z hs u
     cases hb:(Nat.ble (len*s) 16777216&&Nat.beq z.cells.toList.length s)with
     |false=>rw[hb]at h;cases h
     |true=>
      rw[hb]at h
      simp only[cond_true,Option.map_eq_some_iff]at h
      obtain⟨c,hc,rfl⟩:=h
      rw[Bool.and_eq_true]at hb
      obtain⟨b1,b2⟩:=hb
      have b1:=fk b1
      have b2:=fC b2
      have p:z.cells.size=s:=by simpa using b2
      have BX:=gZ.BV (g:=g) (ok.ru u)
      have key:∀z0:Array Value,z0=(if len*s=0 then #[]else z.cells)->((Array.range (len*s)).map (fun i=>z0[i%z0.size]!)).toList=kP len z.cells.toList:=by
       intro z0 e0
       by_cases h0:len*s=0
       · rw[h0,show(Array.range 0)=#[]from rfl]
         simp only[List.map_toArray,List.map_nil]
         rcases Nat.mul_eq_zero.1 h0 with h1|h1
         · subst h1;rfl
         · have:z.cells.toList=[]:=by rw[<-List.length_eq_zero_iff];omega
           rw[this]
           clear h0 hc
           have:∀m,kP m ([]:List Value)=[]:=fun m=>by induction m with
            |zero=>rfl
            |succ m ih=>simpa[kP]using ih
           rw[this]
       · rw[if_neg h0]at e0
         subst e0
         rw[<-p]
         exact CP z.cells len
      obtain⟨y,h1,D⟩:=DC ps j _ _ c e9 (BX.kP len) hc
      refine BW H D (fg _) el ?_
      unfold Instr.buildSlice
      rw[ft (ok.gV hu w)]
      simp only
      rw[ft (ok.oE hs w),if_neg (by omega)]
      have o:=key _ rfl
      by_cases h0:len*s=0
      · rw[if_pos h0]at o⊢
        have b:(Array.range (len*s)).map (fun i=>(#[]:Array Value)[i%(#[]:Array Value).size]!)=(kP len z.cells.toList).toArray:=by rw[<-o]
        rw[pure_bind,b,h1]
        rw[ft (tE _ _ _)]
        rfl
      · rw[if_neg h0]at o⊢
        have b:(Array.range (len*s)).map (fun i=>z.cells[i%z.cells.size]!)=(kP len z.cells.toList).toArray:=by rw[<-o]
        rw[ft (ok.qq u w),pure_bind,b,h1]
        rw[ft (tE _ _ _)]
        rfl
   · cases h
 · cases h
theorem Jm{b off rb ro k:Nat}(h:g.ga b=some (rb,ro)):fP g (.pointer (some ⟨b,off+k,none⟩)) (.pointer (some ((⟨rb,ro+off,none⟩:Addr).add k))):=by
 rw[Addr.uQ,Nat.add_assoc]
 exact .ptr h
def DD(T:Ty)(s:TypeId)(a:Value)(f:Nat):Option Value:=
 match a,T.jo s with
 |.pointer (some ⟨b,off,none⟩),some (.struct fs)=>match fs[f]? with
  |some fd=>match T.size fd.type with
   |some (_+1)=>some (.pointer (some ⟨b,off+fd.offset,none⟩))
   |_=>none
  |none=>none
 |_,_=>none
theorem G5(ok:T.Ok P)(H:gx B0 w0 g O G w){s:TypeId}{a a' v:Value}{f:Nat}(h:DD T s a f=some v)(e:fP g a a'):iG B0 w0 g O G n w ((Instr.fieldAt s a' f).run P w) (v,[],0):=by
 unfold DD at h
 split at h
 · rename_i b off fs hu
   split at h
   · rename_i fd hf
     split at h
     · rename_i k hs
       cases h
       obtain⟨_,rb,ro,hg,rfl⟩:=e.sL
       refine iG.pure H ?_ (Jm hg)
       unfold Instr.fieldAt
       rw[ft (ok.gV hu w)]
       simp only[hf]
       unfold Instr.sureAddr
       rw[pure_bind]
       unfold fieldPlace
       rw[bind_assoc,ft (ok.oE hs w),if_neg (by omega)]
       rfl
     · cases h
   · cases h
 · cases h
def vl(i:Int)(len:Nat):Bool:=
 match i with
 |.ofNat k=>Nat.blt k len
 |.negSucc _=>false
theorem Bj{i:Int}{len:Nat}(h:vl i len=true):0<=i/\i<len:=by
 unfold vl at h
 split at h
 · have:=(Nat.blt_eq ..).mp h
   rename_i k
   show(0:Int)<=(k:Int)/\(k:Int)<len
   omega
 · cases h
def mQ(T:Ty)(t:TypeId)(x i:Value):Option Value:=
 match T.jo t,x,i with
 |some (.array len el),.pointer (some ⟨b,off,none⟩),.int _ k=>bif vl k len then(T.size el).map fun s=>.pointer (some ⟨b,off+k.toNat*s,none⟩)else none
 |some (.slice el),.slice (some ⟨b,off,none⟩) len _,.int _ k=>bif vl k len then(T.size el).map fun s=>.pointer (some ⟨b,off+k.toNat*s,none⟩)else none
 |_,_,_=>none
theorem G6(ok:T.Ok P)(H:gx B0 w0 g O G w){t:TypeId}{x x' i e v:Value}(h:mQ T t x i=some v)(hx:fP g x x')(hi:fP g i e):
 iG B0 w0 g O G n w ((Instr.indexAt t x' e).run P w) (v,[],0):=by
 unfold mQ at h
 split at h
 · rename_i len el b off j k hu
   obtain rfl:=hi.lj
   cases hr:vl k len with
   |false=>rw[hr]at h;cases h
   |true=>
    rw[hr]at h
    simp only[cond_true,Option.map_eq_some_iff]at h
    obtain⟨s,hs,rfl⟩:=h
    obtain⟨_,rb,ro,hg,rfl⟩:=hx.sL
    have hr:=Bj hr
    refine iG.pure H ?_ (Jm hg)
    unfold Instr.indexAt asIntOf
    rw[pure_bind,ft (ok.gV hu w)]
    simp only[Instr.sureAddr,pure_bind]
    rw[ft (ok.gV hu w)]
    rw[if_pos hr]
    rw[ft (ok.oE hs w)]
    rfl
 · rename_i el b off len cap j k hu
   obtain rfl:=hi.lj
   cases hr:vl k len with
   |false=>rw[hr]at h;cases h
   |true=>
    rw[hr]at h
    simp only[cond_true,Option.map_eq_some_iff]at h
    obtain⟨s,hs,rfl⟩:=h
    have hr:=Bj hr
    rcases hx.nk with⟨a2,rfl,_⟩|⟨_,rb,ro,c2,hg,_,_,rfl⟩
    · omega
    · refine iG.pure H ?_ (Jm hg)
      unfold Instr.indexAt asIntOf
      rw[pure_bind,ft (ok.gV hu w)]
      simp only[pure_bind]
      rw[ft (ok.gV hu w)]
      rw[if_pos hr]
      rw[ft (ok.oE hs w)]
      rfl
 · cases h
end
end
end Sw
namespace Sw
noncomputable section
open Go Go.RowKit
section
variable {T:Ty}{P:Program}{B0:Nat}{w0:World}{g:Gm}{O:Hp}{G n:Nat}{w:World}
def yp(T:Ty)(t:TypeId)(Z:List Value)(off:Nat):Option Value:=
 match T.agg t with
 |some true=>(T.size t).bind fun k=>(lQ k (Z.drop off)).map fun l=>.agg l.toArray
 |some false=>Z[off]?
 |none=>none
theorem tT(ok:T.Ok P){t:TypeId}{Z lJ:Array Value}{off:Nat}{v:Value}(h:yp T t Z.toList off=some v)(hc:sy g Z lJ)(w:World):
 ∃v',(part t lJ off).run P w=.ok v' w/\fP g v v':=by
 unfold yp at h
 split at h
 · rename_i b
   cases hs:T.size t with
   |none=>rw[hs]at h;cases h
   |some k=>
    rw[hs]at h
    simp only[Option.bind_some,Option.map_eq_some_iff]at h
    obtain⟨l,hl,rfl⟩:=h
    obtain⟨rfl,hk⟩:=wx _ _ _ hl
    refine⟨.agg (lJ.extract off (off+k)),?_,?_⟩
    · unfold part
      rw[ft (ok.F3 b w),if_pos rfl,ft (ok.oE hs w)]
      rfl
    · have:lJ.extract off (off+k)=(List.take k (List.drop off lJ.toList)).toArray:=by
       rw[<-Array.toArray_toList (xs:=lJ.extract off (off+k)),Array.toList_extract]
       simp[List.extract_eq_take_drop]
      rw[this]
      exact((hc.toList.drop off).take k).Ua
 · rename_i b
   obtain⟨v',h1,D⟩:=hc.toList.get h
   refine⟨v',?_,D⟩
   unfold part
   rw[ft (ok.F3 b w),if_neg (by simp)]
   have:lJ[off]?=some v':=by simpa using h1
   simp only[this]
   rfl
 · cases h
def Mb(T:Ty)(s:TypeId)(x:Value)(f:Nat):Option Value:=
 match x,T.jo s with
 |.agg Z,some (.struct fs)=>(fs[f]?).bind fun fd=>yp T fd.type Z.toList fd.offset
 |_,_=>none
theorem Mc(ok:T.Ok P)(H:gx B0 w0 g O G w){s:TypeId}{x x' v:Value}{f:Nat}(h:Mb T s x f=some v)(hx:fP g x x'):iG B0 w0 g O G n w ((Instr.field s x' f).run P w) (v,[],0):=by
 unfold Mb at h
 split at h
 · rename_i Z fs hu
   cases hf:fs[f]? with
   |none=>rw[hf]at h;cases h
   |some fd=>
    rw[hf]at h
    obtain⟨lJ,rfl,hc⟩:=hx.tt
    obtain⟨v',h1,D⟩:=tT ok h hc w
    refine iG.pure H ?_ D
    unfold Instr.field
    rw[ft (ok.gV hu w)]
    simp only[hf,asAgg,pure_bind]
    exact h1
 · cases h
def Md(s:ByteArray)(k:Nat):Option UInt8:=s.data.toList[k]?
def xf(T:Ty)(t:TypeId)(x i:Value):Option Value:=
 match T.jo t,x,i with
 |some (.array len el),.agg Z,.int _ k=>bif vl k len then(T.size el).bind fun s=>yp T el Z.toList (k.toNat*s)else none
 |some .string,.string s,.int _ k=>match k with
  |.ofNat j=>(Md s j).map fun b=>.int .u8 b.toNat
  |.negSucc _=>none
 |_,_,_=>none
theorem Me(ok:T.Ok P)(H:gx B0 w0 g O G w){t:TypeId}{x x' i o v:Value}(h:xf T t x i=some v)(hx:fP g x x')(hi:fP g i o):iG B0 w0 g O G n w ((Instr.index t x' o).run P w) (v,[],0):=by
 unfold xf at h
 split at h
 · rename_i len el Z p k hu
   obtain rfl:=hi.lj
   cases hr:vl k len with
   |false=>rw[hr]at h;cases h
   |true=>
    rw[hr]at h
    simp only[cond_true]at h
    cases hs:T.size el with
    |none=>rw[hs]at h;cases h
    |some s=>
     rw[hs]at h
     obtain⟨lJ,rfl,hc⟩:=hx.tt
     obtain⟨v',h1,D⟩:=tT ok h hc w
     refine iG.pure H ?_ D
     unfold Instr.index asIntOf
     rw[pure_bind,ft (ok.gV hu w)]
     simp only
     rw[if_pos (Bj hr),ft (ok.oE hs w)]
     exact h1
 · rename_i s p k hu
   obtain rfl:=hi.lj
   obtain rfl:=hx.lr
   split at h
   · rename_i j
     simp only[Option.map_eq_some_iff]at h
     obtain⟨b,hb,rfl⟩:=h
     refine iG.pure H ?_ (.int _ _)
     unfold Instr.index asIntOf
     rw[pure_bind,ft (ok.gV hu w)]
     have m:s[(Int.ofNat j).toNat]?=some b:=by
      unfold Md at hb
      rw[Array.getElem?_toList]at hb
      have jH:=sG hb
      have:s[(Int.ofNat j).toNat]?=s.data[j]?:=by
       show(if h:j<s.size then some s[j]else none)=_
       have e:j<s.size:=jH
       rw[dif_pos e,Array.getElem?_eq_getElem jH]
       rfl
      rw[this];exact hb
     have h0:(0:Int)<=Int.ofNat j:=Int.natCast_nonneg j
     simp only[if_pos h0,m]
     rfl
   · cases h
 · cases h
def xS(v:Value)(y:Nat):Option Nat:=
 match v with
 |.int _ (.ofNat k)=>bif Nat.ble k y then some k else none
 |_=>none
theorem xx{v v':Value}{y k y':Nat}(h:xS v y=some k)(b:fP g v v')(hy:y<=y')(code:BoundsCode)(w:World):(Instr.sliceBound v' y' code).run P w=.ok k w/\k<=y:=by
 unfold xS at h
 split at h
 · rename_i e j
   obtain rfl:=b.lj
   cases hb:Nat.ble j y with
   |false=>rw[hb]at h;cases h
   |true=>
    rw[hb]at h
    simp only[cond_true]at h
    cases h
    have hb:=fk hb
    refine⟨?_,hb⟩
    unfold Instr.sliceBound asIntOf
    rw[pure_bind]
    simp only
    have c:0<=Int.ofNat k/\Int.ofNat k<=(y':Int):=⟨Int.natCast_nonneg _,by show(k:Int)<=y';omega⟩
    rw[if_pos c]
    rfl
 · cases h
def Jn(lo:Option Value)(y:Nat):Option Nat:=
 match lo with
 |none=>some 0
 |some l=>xS l y
def wB(len cap:Nat)(lo hi b:Option Value):Option (Nat×Nat×Nat):=
 match b,hi with
 |none,none=>(Jn lo len).map fun l=>(l,len,cap)
 |none,some h=>(xS h cap).bind fun h=>(Jn lo h).map fun l=>(l,h,cap)
 |some m,some h=>(xS m cap).bind fun m=>(xS h m).bind fun h=>(Jn lo h).map fun l=>(l,h,m)
 |some _,none=>none
def Cp(g:Gm)(x x':Option Value):Prop:=
 match x,x' with
 |none,none=>True
 |some v,some v'=>fP g v v'
 |_,_=>False
theorem wC{lo b:Option Value}{y r:Nat}(e:Jn lo y=some r)(rl:Cp g lo b)(code:BoundsCode)(K:Nat->Nat×Nat×Nat)(w:World):
 (match (generalizing:=false) b with|some v=>do let l<-Instr.sliceBound v y code;pure (K l)|none=>pure (K 0):Sem (Nat×Nat×Nat)).run P w=.ok (K r) w/\r<=y:=by
 cases lo<;>cases b<;>first|exact rl.elim|skip
 · cases e;exact⟨rfl,gI _⟩
 · obtain⟨h1,D⟩:=xx (P:=P) e rl (Nat.le_refl y) code w
   exact⟨by simp only;rw[ft h1];rfl,D⟩
theorem xy{len cap b:Nat}{lo hi z B j o:Option Value}{l h m:Nat}(e:wB len cap lo hi z=some (l,h,m))(rl:Cp g lo B)(y:Cp g hi j)(A:Cp g z o)
 (hlen:len<=cap) (p:cap<=b) (isSlice:Bool) (w:World):
 ∃C,(Instr.sliceBounds isSlice len b B j o).run P w=.ok (l,h,C) w/\l<=h/\h<=m/\m<=cap/\((C=m/\z.isSome)\/(z=none/\m=cap/\C=b)):=by
 unfold wB at e
 split at e
 · cases o with
   |some _=>exact A.elim
   |none=>
    cases j with
    |some _=>exact y.elim
    |none=>
     obtain⟨a,e2,e3⟩:=fI.1 e
     cases e3
     have u:=(wC (P:=P) e2 rl .sliceB (fun l=>(l,len,b)) w).2
     refine⟨b,?_,u,hlen,fg _,.inr ⟨rfl,rfl,rfl⟩⟩
     unfold Instr.sliceBounds
     simp only[pure_bind]
     exact(wC (P:=P) e2 rl _ (fun l=>(l,len,b)) w).1
 · rename_i F
   cases o with
   |some _=>exact A.elim
   |none=>
    cases j with
    |none=>exact y.elim
    |some E=>
     obtain⟨h1,hb,e⟩:=fM.1 e
     obtain⟨a,e2,e3⟩:=fI.1 e
     cases e3
     have u:=(wC (P:=P) e2 rl .sliceB (fun l=>(l,h,b)) w).2
     obtain⟨b1,b2⟩:=xx (P:=P) hb y p (if isSlice then .sliceAcap else .sliceAlen) w
     refine⟨b,?_,u,b2,fg _,.inr ⟨rfl,rfl,rfl⟩⟩
     unfold Instr.sliceBounds
     simp only[pure_bind]
     rw[ft b1]
     exact(wC (P:=P) e2 rl _ (fun l=>(l,h,b)) w).1
 · rename_i K F
   cases o with
   |none=>exact A.elim
   |some J=>
    cases j with
    |none=>exact y.elim
    |some E=>
     obtain⟨m1,hm,e⟩:=fM.1 e
     obtain⟨h1,hb,e⟩:=fM.1 e
     obtain⟨a,e2,e3⟩:=fI.1 e
     cases e3
     have u:=(wC (P:=P) e2 rl .slice3C (fun l=>(l,h,m)) w).2
     obtain⟨b1,b2⟩:=xx (P:=P) hb y (fg _) .slice3B w
     obtain⟨c1,c2⟩:=xx (P:=P) hm A p (if isSlice then .slice3Acap else .slice3Alen) w
     refine⟨m,?_,u,b2,c2,.inl ⟨rfl,rfl⟩⟩
     unfold Instr.sliceBounds
     simp only[pure_bind]
     rw[ft c1,ft b1]
     exact(wC (P:=P) e2 rl _ (fun l=>(l,h,m)) w).1
 · cases e
def Bl(O:Hp)(b s:Nat):Bool:=
 match O b with
 |some (.cells _ m)=>match m.mP with
  |none=>true
  |some _=>Nat.beq m.unit s
 |_=>false
def sT(T:Ty)(O:Hp)(t:TypeId)(x:Value)(lo hi e:Option Value):Option Value:=
 match T.jo t,x with
 |some .string,.string s=>match e with
  |none=>(wB s.data.toList.length s.data.toList.length lo hi none).map fun r=>.string ⟨((s.data.toList.drop r.1).take (r.2.1-r.1)).toArray⟩
  |some _=>none
 |some (.slice el),.slice (some ⟨b,off,none⟩) len cap=>
   (T.size el).bind fun s=>bif Nat.ble len cap&&(Nat.beq cap 0||Bl O b s)then(wB len cap lo hi e).map fun r=>.slice (some ⟨b,off+r.1*s,none⟩) (r.2.1-r.1) (r.2.2-r.1)else none
 |some (.slice el),.slice none _ _=>(T.size el).bind fun _=>(wB 0 0 lo hi e).map fun _=>.slice none 0 0
 |some (.array k el),.pointer (some ⟨b,off,none⟩)=>(T.size el).bind fun s=>(wB k k lo hi e).map fun r=>.slice (some ⟨b,off+r.1*s,none⟩) (r.2.1-r.1) (r.2.2-r.1)
 |_,_=>none
theorem gx.Wz(H:gx B0 w0 g O G w){b s:Nat}(h:Bl O b s=true):g.room b=none\/∃p,g.room b=some (p,s):=by
 unfold Bl at h
 split at h
 · rename_i Z m hb
   cases e:g.ga b with
   |none=>
    cases hr:g.room b with
    |none=>exact .inl rfl
    |some x=>exact(H.room b x hr e).elim
   |some x=>
   obtain⟨y,el,u,a2,_,_,_,j,o⟩:=H.vk hb (rb:=x.1) (ro:=x.2) e
   split at h
   · rename_i hg;exact .inl (o hg)
   · rename_i gr hg
     have:=fC h
     subst this
     exact .inr ⟨_,j gr hg⟩
 · cases h
theorem Av(s:ByteArray)(l h:Nat):s.extract l h=⟨((s.data.toList.drop l).take (h-l)).toArray⟩:=by
 have e:(s.extract l h).data=s.data.extract l h:=ByteArray.data_extract
 have:(s.extract l h).data=((s.data.toList.drop l).take (h-l)).toArray:=by
  rw[e,<-Array.toArray_toList (xs:=s.data.extract l h),Array.toList_extract]
 cases hs:s.extract l h with
 |mk d=>rw[hs]at this;simp only at this;rw[this]
theorem Mf(ok:T.Ok P)(H:gx B0 w0 g O G w){t:TypeId}{x x' v:Value}{lo hi L C A y:Option Value}(h:sT T O t x lo hi L=some v)(hx:fP g x x')
 (rl:Cp g lo C) (M:Cp g hi A) (N:Cp g L y):iG B0 w0 g O G n w ((Instr.sliceAt t x' C A y).run P w) (v,[],0):=by
 unfold sT at h
 split at h
 ·
  rename_i s hu
  obtain rfl:=hx.lr
  split at h
  · cases y with
    |some _=>exact N.elim
    |none=>
     obtain⟨⟨l,o,m⟩,e1,e2⟩:=fI.1 h
     subst e2
     obtain⟨e,z,_⟩:=xy (P:=P) e1 rl M (show Cp g none none from trivial) (fg _) (fg _) false w
     refine iG.pure H (v':=.string (s.extract l o)) ?_ ?_
     · unfold Instr.sliceAt
       rw[ft (ok.gV hu w)]
       simp only
       unfold Instr.slice
       rw[ft (ok.gV hu w)]
       simp only[Option.isSome_none,Bool.false_eq_true,if_false]
       have:s.size=s.data.toList.length:=by rw[Array.length_toList];rfl
       rw[this,ft z]
       rfl
     · rw[Av]
       exact .string _
  · cases h
 ·
  rename_i el b off len cap hu
  obtain⟨s,hs,h⟩:=fM.1 h
  cases hb:(Nat.ble len cap&&(Nat.beq cap 0||Bl O b s))with
  |false=>rw[hb]at h;cases h
  |true=>
   rw[hb]at h
   simp only[cond_true]at h
   rw[Bool.and_eq_true]at hb
   have af:=fk hb.1
   obtain⟨⟨l,o,m⟩,e1,e2⟩:=fI.1 h
   subst e2
   have hr:∀(p:Nat) (a':Addr),cap<=p->∃e,(Instr.sliceAt t (.slice (some a') len p) C A y).run P w=.ok (.slice (some (if e=l then a' else a'.add (l*s))) (o-l) (e-l)) w/\
    l<=o/\o<=m/\m<=cap/\((e=m/\L.isSome)\/(L=none/\m=cap/\e=p)):=by
    intro p a' F
    obtain⟨e,z,S,W,X,K⟩:=xy (P:=P) e1 rl M N af F true w
    refine⟨e,?_,S,W,X,K⟩
    unfold Instr.sliceAt
    rw[ft (ok.gV hu w)]
    simp only
    unfold Instr.slice
    rw[ft (ok.gV hu w)]
    simp only
    rw[ft z]
    simp only
    rw[ft (ok.oE hs w)]
    split<;>rfl
   rcases hx.nk with⟨a2,rfl,rfl,rfl⟩|⟨_,rb,ro,c2,hg,_,E,rfl⟩
   · obtain⟨e,aa,ah,q3,ai,j⟩:=hr 0 a2 (Nat.le_refl _)
     have B:e=0:=by rcases j with j|j<;>omega
     refine iG.pure H aa ?_
     have e1:o-l=0:=by omega
     have e2:m-l=0:=by omega
     have e3:e-l=0:=by omega
     simp only[e1,e2,e3]
     exact .oM _ _
   · have F:cap<=c2:=by rcases E with h1|⟨h1,_⟩<;>omega
     obtain⟨e,aa,ah,q3,ai,j⟩:=hr c2 _ F
     refine iG.pure H aa ?_
     have ak:m<=e:=by rcases j with j|j<;>omega
     by_cases J:e=l
     · have e1:o-l=0:=by omega
       have e2:m-l=0:=by omega
       have e3:e-l=0:=by omega
       simp only[e1,e2,e3]
       exact .oM _ _
     · simp only[if_neg J]
       rw[Addr.uQ,Nat.add_assoc]
       refine .slice hg (by omega) ?_
       rcases j with⟨j,_⟩|⟨_,j,q6⟩
       · exact .inl (by omega)
       · rcases E with h1|⟨h1,aj,u,D,h3⟩
         · exact .inl (by omega)
         · refine .inr ⟨by omega,aj,u,D,?_⟩
           rcases Bool.or_eq_true _ _▸hb.2 with ag|ab
           · have ag:=Nat.eq_of_beq_eq_true ag
             have ae:l=0:=by omega
             subst q6;subst ae
             simpa using h3
           rcases H.Wz ab with h4|⟨al,h4⟩
           · rw[D]at h4;cases h4
           · rw[D]at h4;cases h4
             subst q6
             simp only at h3
             have:l*s+(e-l)*s=e*s:=by rw[<-Nat.add_mul];congr 1;omega
             omega
 ·
  rename_i el ao an hu
  obtain⟨rfl,rfl,rfl⟩:=hx.mf
  obtain⟨s,hs,h⟩:=fM.1 h
  obtain⟨⟨l,o,m⟩,e1,e2⟩:=fI.1 h
  subst e2
  obtain⟨e,z,S,W,X,K⟩:=xy (P:=P) e1 rl M N (fg _) (fg _) true w
  have B:e=0:=by rcases K with j|j<;>omega
  have hl:l=0:=by omega
  have ad:o=0:=by omega
  subst B hl ad
  refine iG.pure H (v':=.slice none 0 0) ?_ .qn
  unfold Instr.sliceAt
  rw[ft (ok.gV hu w)]
  simp only
  unfold Instr.slice
  rw[ft (ok.gV hu w)]
  simp only
  rw[ft z]
  simp only
  rw[ft (ok.oE hs w)]
  rfl
 ·
  rename_i k el b off hu
  obtain⟨s,hs,h⟩:=fM.1 h
  obtain⟨⟨l,o,m⟩,e1,e2⟩:=fI.1 h
  subst e2
  obtain⟨_,rb,ro,hg,rfl⟩:=hx.sL
  obtain⟨e,z,S,W,X,K⟩:=xy (P:=P) e1 rl M N (fg _) (fg _) false w
  have B:e=m:=by rcases K with j|j<;>omega
  subst B
  have R:(Instr.sliceAt t (.pointer (some ⟨rb,ro+off,none⟩)) C A y).run P w=.ok (.slice (some (if e=l then⟨rb,ro+off,none⟩else(⟨rb,ro+off,none⟩:Addr).add (l*s))) (o-l) (e-l)) w:=by
   unfold Instr.sliceAt
   rw[ft (ok.gV hu w)]
   simp only[Instr.sureAddr,pure_bind]
   rw[ft z]
   simp only
   rw[ft (ok.oE hs w)]
   rfl
  refine iG.pure H R ?_
  by_cases J:e=l
  · have e1:o-l=0:=by omega
    have e2:e-l=0:=by omega
    simp only[e1,e2]
    exact .oM _ _
  · simp only[if_neg J]
    rw[Addr.uQ,Nat.add_assoc]
    exact .slice hg (by omega) (.inl rfl)
 · cases h
end
end
end Sw
namespace Sw
noncomputable section
open Go
def rU:Int->Int->Bool
 |.ofNat a,.ofNat b=>Nat.blt a b
 |.negSucc a,.negSucc b=>Nat.blt b a
 |.negSucc _,.ofNat _=>true
 |.ofNat _,.negSucc _=>false
def kN:Int->Int->Bool
 |.ofNat a,.ofNat b=>Nat.beq a b
 |.negSucc a,.negSucc b=>Nat.beq a b
 |_,_=>false
def Eg(x y:Int):Bool:=!(rU y x)
theorem mN{a b:Nat}:Nat.blt a b=true↔a<b:=by
 constructor
 · intro h;exact(Nat.blt_eq ..).mp h
 · intro h;exact(Nat.blt_eq (x:=a) (y:=b)).mpr h
theorem sM{x y:Int}:rU x y=true↔x<y:=by
 cases x<;>cases y<;>simp only[rU]
 · rw[mN];constructor<;>intro h<;>first|(show(_:Int)<_;exact Int.ofNat_lt.2 h)|exact Int.ofNat_lt.1 h
 · simp;omega
 · simp;omega
 · rw[mN];omega
theorem EH(x y:Int):rU x y=decide (x<y):=by
 rw[Bool.eq_iff_iff,sM];simp
theorem lS{x y:Int}:kN x y=true↔x=y:=by
 cases x<;>cases y<;>simp only[kN]
 · constructor
   · intro h;rw[Nat.eq_of_beq_eq_true h]
   · intro h;cases h;exact Nat.beq_refl _
 · simp
 · simp
 · constructor
   · intro h;rw[Nat.eq_of_beq_eq_true h]
   · intro h;cases h;exact Nat.beq_refl _
theorem EI(x y:Int):kN x y=(x==y):=by
 rw[Bool.eq_iff_iff,lS];simp
theorem Mg(x y:Int):Eg x y=decide (x<=y):=by
 unfold Eg
 rw[EH,Bool.eq_iff_iff]
 simp
def sb:IntKind->Nat
 |.i8|.u8=>256
 |.i16|.u16=>65536
 |.i32|.u32=>4294967296
 |.i64|.u64=>18446744073709551616
def AE:IntKind->Nat
 |.i8=>128|.i16=>32768|.i32=>2147483648|.i64=>9223372036854775808
 |.u8=>256|.u16=>65536|.u32=>4294967296|.u64=>18446744073709551616
def xz(k:IntKind)(r:Nat):Int:=bif Nat.ble (AE k) r then .negSucc (Nat.sub (Nat.sub (sb k) r) 1)else .ofNat r
def rE(k:IntKind)(n:Int):Nat:=
 match n with
 |.ofNat a=>Nat.mod a (sb k)
 |.negSucc a=>Nat.sub (Nat.sub (sb k) 1) (Nat.mod a (sb k))
def gy(k:IntKind)(n:Int):Int:=xz k (rE k n)
theorem Mh(k:IntKind):(2^k.bits:Int)=sb k:=by cases k<;>decide
theorem Mi(k:IntKind):0<sb k:=by cases k<;>decide
theorem RH(k:IntKind)(h:k.signed=true):(2^(k.bits-1):Int)=AE k:=by cases k<;>first|decide|(simp[IntKind.signed]at h)
theorem RI(k:IntKind)(h:k.signed=false):AE k=sb k:=by cases k<;>first|rfl|(simp[IntKind.signed]at h)
theorem Jo(k:IntKind)(n:Int):(rE k n:Int)=n%(sb k:Int):=by
 have O:=Mi k
 cases n with
 |ofNat a=>simp only[rE];show((a%sb k:Nat):Int)=(a:Int)%(sb k:Int);rw[Int.natCast_emod]
 |negSucc a=>
  simp only[rE]
  show((sb k-1-a%sb k:Nat):Int)=_
  have h1:=Nat.mod_lt a O
  rw[Int.negSucc_emod _ (by omega)]
  have:(a:Int)%(sb k:Int)=((a%sb k:Nat):Int):=by rw[Int.natCast_emod]
  rw[this]
  omega
theorem WA(k:IntKind)(n:Int):rE k n<sb k:=by
 have h:=Jo k n
 have:=Int.emod_lt_of_pos n (b:=(sb k:Int)) (by have:=Mi k;omega)
 omega
theorem Ub(k:IntKind){r:Nat}(h:r<sb k):xz k r=if k.signed&&decide ((r:Int)>=(2^(k.bits-1):Int))then(r:Int)-(2^k.bits:Int)else(r:Int):=by
 unfold xz
 rw[Mh]
 cases hs:k.signed with
 |false=>
  have:Nat.ble (AE k) r=false:=by
   rw[RI k hs]
   cases hb:Nat.ble (sb k) r with
   |false=>rfl
   |true=>have:=fk hb;omega
  rw[this];simp
 |true=>
  rw[RH k hs]
  cases hb:Nat.ble (AE k) r with
  |true=>
   have:=fk hb
   simp only[cond_true,Bool.true_and]
   rw[if_pos (by simp;omega)]
   show Int.negSucc (sb k-r-1)=_
   omega
  |false=>
   have:¬AE k<=r:=fun h=>by rw[Nat.ble_eq_true_of_le h]at hb;cases hb
   simp only[cond_false,Bool.true_and]
   rw[if_neg (by simp;omega)]
   rfl
theorem tU(k:IntKind)(n:Int):gy k n=k.wrap n:=by
 unfold gy IntKind.wrap
 rw[Ub k (WA k n)]
 simp only[Jo,Mh]
def P9(op:BinOp)(k:IntKind)(x y:Int):Option Int:=
 match op with
 |.and=>some (xz k (Nat.land (rE k x) (rE k y)))
 |.or=>some (xz k (Nat.lor (rE k x) (rE k y)))
 |.xor=>some (xz k (Nat.xor (rE k x) (rE k y)))
 |.andNot=>some (xz k (Nat.land (rE k x) (Nat.sub (Nat.sub (sb k) 1) (rE k y))))
 |_=>none
theorem EJ(k:IntKind):sb k=2^k.bits:=by cases k<;>decide
theorem toNat_ofInt(k:IntKind)(x:Int):(BitVec.ofInt k.bits x).toNat=rE k x:=by
 rw[BitVec.toNat_ofInt]
 have:=Jo k x
 rw[<-EJ]
 omega
theorem AF(k:IntKind){r:Nat}(h:r<sb k):xz k r=k.wrap r:=by
 rw[<-tU]
 unfold gy
 congr 1
 show r=r%sb k
 rw[Nat.mod_eq_of_lt h]
theorem vm{op:BinOp}{k:IntKind}{x y r:Int}(h:P9 op k x y=some r)(P:Program)(w:World):(Op.intBits op k x y).run P w=.ok (.int k r) w:=by
 have lt (z:BitVec k.bits):z.toNat<sb k:=by rw[EJ];exact z.isLt
 have hx:=toNat_ofInt k x
 have hy:=toNat_ofInt k y
 cases op<;>first|(cases h;done)|skip
 all_goals
  simp only[P9,Option.some.injEq]at h
  subst h
  simp only[Op.intBits]
  show Result.ok _ w=_
  congr 2
 · rw[show Nat.land (rE k x) (rE k y)=(BitVec.ofInt k.bits x &&& BitVec.ofInt k.bits y).toNat from by rw[BitVec.toNat_and,hx,hy];rfl]
   exact(AF k (lt _)).symm
 · rw[show Nat.lor (rE k x) (rE k y)=(BitVec.ofInt k.bits x ||| BitVec.ofInt k.bits y).toNat from by rw[BitVec.toNat_or,hx,hy];rfl]
   exact(AF k (lt _)).symm
 · rw[show Nat.xor (rE k x) (rE k y)=(BitVec.ofInt k.bits x ^^^ BitVec.ofInt k.bits y).toNat from by rw[BitVec.toNat_xor,hx,hy];rfl]
   exact(AF k (lt _)).symm
 · rw[show Nat.land (rE k x) (Nat.sub (Nat.sub (sb k) 1) (rE k y))=(BitVec.ofInt k.bits x &&& ~~~BitVec.ofInt k.bits y).toNat from by
    rw[BitVec.toNat_and,BitVec.toNat_not,hx,hy,<-EJ];rfl]
   exact(AF k (lt _)).symm
end
end Sw
