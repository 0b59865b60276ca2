/- A part of the proof that the law returns true for every input that its row speaks of. No condition is added. -/
import Derived.Below
import Derived.Calls
import GoSem.Machine.Frame
import Derived.RangeFuncRecord
import Derived.Laws.Sem
import GoSem.Dispatch
namespace Sw
noncomputable section
open Go
structure gl where
 ro:Bool
 mu:Option Nat
 base:Nat
 unit:Nat
def gl.plain:gl:=⟨false,none,0,0⟩
structure Mem where
 gb:Nat
 base:Nat
 len:Nat
structure sL(E:Type) where
 state:LoopState
 pending:Option Code
 fn:FuncId
 tmps:E
 nt:Nat
 params:List Tmp
 assign:Code
 body:Code
 defers:Nat
inductive jM(E:Type) where
 |cells (cs:List Value) (m:gl)
 |map (es:List MapEntry) (clock:Nat)
 |mapIter (m:Option Nat) (since:Nat) (seen:List Nat) (OH:Nat)
 |Fe (s:ByteArray) (pos:Nat)
 |loop (l:sL E)
 |deferred (ds:Option (List Deferred))
 |group (ms:List Mem)
structure Gm where
 gb:Nat->Option (Nat×Nat)
 room:Nat->Option (Nat×Nat)
def Gm.le(g g':Gm):Prop:=(∀b x,g.gb b=some x->g'.gb b=some x)/\(∀b x,g.gb b=some x->g'.room b=g.room b)
theorem Gm.le_refl(g:Gm):g.le g:=⟨fun _ _ h=>h,fun _ _ _=>rfl⟩
theorem Gm.le_trans{a b c:Gm}(h:a.le b)(k:b.le c):a.le c:=⟨fun x y e=>k.1 x y (h.1 x y e),fun x y e=>(k.2 x y (h.1 x y e)).trans (h.2 x y e)⟩
def Ff(g:Gm)(b:Nat)(at_ c1 c2:Nat):Prop:=
 c1=c2\/(c1<c2/\∃rs u,g.room b=some (rs,u)/\at_+c2*u<=rs)
theorem Ff.mono{g g':Gm}(h:g.le g'){b at_ c1 c2:Nat}{x:Nat×Nat}(hb:g.gb b=some x)(k:Ff g b at_ c1 c2):Ff g' b at_ c1 c2:=by
 rcases k with k|⟨k,rs,u,e,l⟩
 · exact .inl k
 · exact .inr ⟨k,rs,u,(h.2 _ _ hb).trans e,l⟩
inductive fQ(g:Gm):Value->Value->Prop where
 |bool (b:Bool):fQ g (.bool b) (.bool b)
 |int (k:IntKind) (n:Int):fQ g (.int k n) (.int k n)
 |string (s:ByteArray):fQ g (.string s) (.string s)
 |nilPtr:fQ g (.pointer none) (.pointer none)
 |ptr {b off rb ro:Nat} (h:g.gb b=some (rb,ro)):fQ g (.pointer (some ⟨b,off,none⟩)) (.pointer (some ⟨rb,ro+off,none⟩))
 |pW:fQ g (.slice none 0 0) (.slice none 0 0)
 |slice {b off rb ro l c1 c2:Nat} (h:g.gb b=some (rb,ro)) (hl:l<=c1) (hc:Ff g b (ro+off) c1 c2):
   fQ g (.slice (some ⟨b,off,none⟩) l c1) (.slice (some ⟨rb,ro+off,none⟩) l c2)
 |nY (a1 a2:Addr):fQ g (.slice (some a1) 0 0) (.slice (some a2) 0 0)
 |u9:fQ g (.map none) (.map none)
 |map {r rr:Nat} (h:g.gb r=some (rr,0)):fQ g (.map (some r)) (.map (some rr))
 |nilFunc:fQ g .nilFunc .nilFunc
 |nilIface:fQ g .nilIface .nilIface
 |func {f:FuncId} {x x' y y':Array Value} (hx:x.size=x'.size) (hy:y.size=y'.size)
   (kx:∀(i:Nat) (v v':Value),x[i]?=some v->x'[i]?=some v'->fQ g v v')
   (ky:∀(i:Nat) (v v':Value),y[i]?=some v->y'[i]?=some v'->fQ g v v'):fQ g (.func (.func f) x y) (.func (.func f) x' y')
 |method {n:String} {x x' y y':Array Value} (hx:x.size=x'.size) (hy:y.size=y'.size)
   (kx:∀(i:Nat) (v v':Value),x[i]?=some v->x'[i]?=some v'->fQ g v v')
   (ky:∀(i:Nat) (v v':Value),y[i]?=some v->y'[i]?=some v'->fQ g v v'):fQ g (.func (.method n) x y) (.func (.method n) x' y')
 |Al {l rl:Nat} (h:g.gb l=some (rl,0)):fQ g (.func (.yield l) #[] #[]) (.func (.yield rl) #[] #[])
 |iface {t:TypeId} {v v':Value} (h:fQ g v v'):fQ g (.iface t v) (.iface t v')
 |agg {x x':Array Value} (hx:x.size=x'.size) (kx:∀(i:Nat) (v v':Value),x[i]?=some v->x'[i]?=some v'->fQ g v v'):fQ g (.agg x) (.agg x')
 |tuple {x x':Array Value} (hx:x.size=x'.size) (kx:∀(i:Nat) (v v':Value),x[i]?=some v->x'[i]?=some v'->fQ g v v'):fQ g (.tuple x) (.tuple x')
theorem fQ.mono{g g':Gm}(h:g.le g'){v v':Value}(r:fQ g v v'):fQ g' v v':=by
 induction r with
 |bool b=>exact .bool b
 |int k n=>exact .int k n
 |string s=>exact .string s
 |nilPtr=>exact .nilPtr
 |ptr e=>exact .ptr (h.1 _ _ e)
 |pW=>exact .pW
 |slice e hl hc=>exact .slice (h.1 _ _ e) hl (hc.mono h e)
 |nY a b=>exact .nY a b
 |u9=>exact .u9
 |map e=>exact .map (h.1 _ _ e)
 |nilFunc=>exact .nilFunc
 |nilIface=>exact .nilIface
 |func hx hy _ _ ix iy=>exact .func hx hy ix iy
 |method hx hy _ _ ix iy=>exact .method hx hy ix iy
 |Al e=>exact .Al (h.1 _ _ e)
 |iface _ i=>exact .iface i
 |agg hx _ i=>exact .agg hx i
 |tuple hx _ i=>exact .tuple hx i
def r5(g:Gm)(x x':Array Value):Prop:=x.size=x'.size/\∀(i:Nat) (v v':Value),x[i]?=some v->x'[i]?=some v'->fQ g v v'
def gX(g:Gm)(x x':List Value):Prop:=x.length=x'.length/\∀(i:Nat) (v v':Value),x[i]?=some v->x'[i]?=some v'->fQ g v v'
theorem gX.nil(g:Gm):gX g [] []:=⟨rfl,fun i v v' h _=>by simp at h⟩
theorem gX.cons{g:Gm}{v v':Value}{x x':List Value}(h:fQ g v v')(k:gX g x x'):gX g (v::x) (v'::x'):=
 ⟨by simp[k.1],fun i u o e j=>by
   cases i with
   |zero=>simp at e j;subst e;subst j;exact h
   |succ i=>simp at e j;exact k.2 i u o e j⟩
theorem gX.head{g:Gm}{v v':Value}{x x':List Value}(h:gX g (v::x) (v'::x')):fQ g v v':=h.2 0 v v' rfl rfl
theorem gX.tail{g:Gm}{v v':Value}{x x':List Value}(h:gX g (v::x) (v'::x')):gX g x x':=
 ⟨by have:=h.1;simpa using this,fun i u o e j=>h.2 (i+1) u o (by simpa using e) (by simpa using j)⟩
theorem gX.mono{g g':Gm}(h:g.le g'){x x':List Value}(r:gX g x x'):gX g' x x':=⟨r.1,fun i v v' e j=>(r.2 i v v' e j).mono h⟩
theorem r5.mono{g g':Gm}(h:g.le g'){x x':Array Value}(r:r5 g x x'):r5 g' x x':=⟨r.1,fun i v v' e j=>(r.2 i v v' e j).mono h⟩
theorem r5.toList{g:Gm}{x x':Array Value}(h:r5 g x x'):gX g x.toList x'.toList:=⟨by simpa using h.1,fun i v v' e j=>h.2 i v v' (by simpa using e) (by simpa using j)⟩
theorem gX.toArray{g:Gm}{x x':List Value}(h:gX g x x'):r5 g x.toArray x'.toArray:=⟨by simpa using h.1,fun i v v' e j=>h.2 i v v' (by simpa using e) (by simpa using j)⟩
theorem gX.append{g:Gm}{x x' y y':List Value}(h:gX g x x')(k:gX g y y'):gX g (x++y) (x'++y'):=
 ⟨by simp[h.1,k.1],fun i v v' e j=>by
   rw[List.getElem?_append]at e j
   by_cases hi:i<x.length
   · rw[if_pos hi]at e;rw[if_pos (h.1▸hi)]at j;exact h.2 i v v' e j
   · rw[if_neg hi]at e;rw[if_neg (h.1▸hi)]at j;rw[<-h.1]at j;exact k.2 _ v v' e j⟩
theorem gX.drop{g:Gm}{x x':List Value}(h:gX g x x')(n:Nat):gX g (x.drop n) (x'.drop n):=
 ⟨by simp[h.1],fun i v v' e j=>h.2 (n+i) v v' (by simpa using e) (by simpa using j)⟩
theorem gX.take{g:Gm}{x x':List Value}(h:gX g x x')(n:Nat):gX g (x.take n) (x'.take n):=
 ⟨by simp[h.1],fun i v v' e j=>by
   rw[List.getElem?_take]at e j
   by_cases hi:i<n
   · simp[hi]at e j;exact h.2 i v v' e j
   · simp[hi]at e⟩
theorem gX.get{g:Gm}{x x':List Value}(h:gX g x x'){i:Nat}{v:Value}(e:x[i]?=some v):∃v',x'[i]?=some v'/\fQ g v v':=by
 have hi:i<x.length:=(List.getElem?_eq_some_iff.1 e).1
 have j:i<x'.length:=h.1▸hi
 exact⟨x'[i],List.getElem?_eq_getElem j,h.2 i v _ e (List.getElem?_eq_getElem j)⟩
theorem gX.set{g:Gm}{x x':List Value}(h:gX g x x')(n:Nat){u o:Value}(hu:fQ g u o):gX g (x.set n u) (x'.set n o):=
 ⟨by simp[h.1],fun i v v' e j=>by
   rw[List.getElem?_set]at e j
   by_cases hi:n=i
   · subst hi
     simp only[if_true]at e j
     split at e
     · split at j
       · cases e;cases j;exact hu
       · cases j
     · cases e
   · simp only[hi,if_false]at e j;exact h.2 i v v' e j⟩
theorem fQ.rK{g:Gm}{b:Bool}{v:Value}(h:fQ g (.bool b) v):v=.bool b:=by cases h;rfl
theorem fQ.kQ{g:Gm}{k:IntKind}{n:Int}{v:Value}(h:fQ g (.int k n) v):v=.int k n:=by cases h;rfl
theorem fQ.kS{g:Gm}{s:ByteArray}{v:Value}(h:fQ g (.string s) v):v=.string s:=by cases h;rfl
theorem fQ.oz{g:Gm}{v:Value}(h:fQ g .nilIface v):v=.nilIface:=by cases h;rfl
theorem fQ.se{g:Gm}{v:Value}(h:fQ g .nilFunc v):v=.nilFunc:=by cases h;rfl
theorem fQ.tW{g:Gm}{v:Value}(h:fQ g (.pointer none) v):v=.pointer none:=by cases h;rfl
theorem fQ.pX{g:Gm}{v:Value}(h:fQ g (.map none) v):v=.map none:=by cases h;rfl
theorem fQ.sn{g:Gm}{a:Addr}{v:Value}(h:fQ g (.pointer (some a)) v):
 a.spot=none/\∃rb ro,g.gb a.block=some (rb,ro)/\v=.pointer (some ⟨rb,ro+a.off,none⟩):=by
 cases h with
 |ptr h=>exact⟨rfl,_,_,h,rfl⟩
theorem fQ.vE{g:Gm}{r:Nat}{v:Value}(h:fQ g (.map (some r)) v):∃rr,g.gb r=some (rr,0)/\v=.map (some rr):=by
 cases h with
 |map h=>exact⟨_,h,rfl⟩
theorem fQ.sR{g:Gm}{x:Array Value}{v:Value}(h:fQ g (.agg x) v):∃x',v=.agg x'/\r5 g x x':=by
 cases h with
 |agg hx kx=>exact⟨_,rfl,hx,kx⟩
theorem fQ.DV{g:Gm}{x:Array Value}{v:Value}(h:fQ g (.tuple x) v):∃x',v=.tuple x'/\r5 g x x':=by
 cases h with
 |tuple hx kx=>exact⟨_,rfl,hx,kx⟩
theorem fQ.xe{g:Gm}{t:TypeId}{x v:Value}(h:fQ g (.iface t x) v):∃x',v=.iface t x'/\fQ g x x':=by
 cases h with
 |iface h=>exact⟨_,rfl,h⟩
theorem fQ.Gi{g:Gm}{f:FuncId}{x y:Array Value}{v:Value}(h:fQ g (.func (.func f) x y) v):
 ∃x' y',v=.func (.func f) x' y'/\r5 g x x'/\r5 g y y':=by
 cases h with
 |func hx hy kx ky=>exact⟨_,_,rfl,⟨hx,kx⟩,hy,ky⟩
theorem fQ.mK{g:Gm}{a:Addr}{l c1:Nat}{v:Value}(h:fQ g (.slice (some a) l c1) v):
 (∃a2,l=0/\c1=0/\v=.slice (some a2) 0 0)\/
 (a.spot=none/\∃rb ro c2,g.gb a.block=some (rb,ro)/\l<=c1/\Ff g a.block (ro+a.off) c1 c2/\v=.slice (some ⟨rb,ro+a.off,none⟩) l c2):=by
 cases h with
 |slice h hl hc=>exact .inr ⟨rfl,_,_,_,h,hl,hc,rfl⟩
 |nY a1 a2=>exact .inl ⟨_,rfl,rfl,rfl⟩
theorem fQ.lT{g:Gm}{l c:Nat}{v:Value}(h:fQ g (.slice none l c) v):l=0/\c=0/\v=.slice none 0 0:=by
 cases h;exact⟨rfl,rfl,rfl⟩
theorem fQ.undef(g:Gm):fQ g Go.undef Go.undef:=.tuple rfl (fun i v v' h _=>by simp at h)
theorem fQ.cells{g:Gm}{v v':Value}(h:fQ g v v'):gX g v.cells.toList v'.cells.toList:=by
 cases h with
 |agg hx kx=>exact r5.toList ⟨hx,kx⟩
 |bool b=>exact .cons (.bool b) (.nil g)
 |int k n=>exact .cons (.int k n) (.nil g)
 |string s=>exact .cons (.string s) (.nil g)
 |nilPtr=>exact .cons .nilPtr (.nil g)
 |ptr e=>exact .cons (.ptr e) (.nil g)
 |pW=>exact .cons .pW (.nil g)
 |slice e hl hc=>exact .cons (.slice e hl hc) (.nil g)
 |nY a b=>exact .cons (.nY a b) (.nil g)
 |u9=>exact .cons .u9 (.nil g)
 |map e=>exact .cons (.map e) (.nil g)
 |nilFunc=>exact .cons .nilFunc (.nil g)
 |nilIface=>exact .cons .nilIface (.nil g)
 |func hx hy kx ky=>exact .cons (.func hx hy kx ky) (.nil g)
 |method hx hy kx ky=>exact .cons (.method hx hy kx ky) (.nil g)
 |Al e=>exact .cons (.Al e) (.nil g)
 |iface h=>exact .cons (.iface h) (.nil g)
 |tuple hx kx=>exact .cons (.tuple hx kx) (.nil g)
end
end Sw
namespace Sw
noncomputable section
open Go
structure O8(α:Type) where
 f0:α
 f1:α
 f2:α
 f3:α
 f4:α
 f5:α
 f6:α
 f7:α
structure G8(α:Type) where
 get:O8 α->α
 set:O8 α->α->O8 α
def g8(α:Type):Nat->G8 α
 |0=>⟨fun s=>s.f0,fun s v=>O8.casesOn s fun _ a1 a2 a3 a4 a5 j o=>⟨v,a1,a2,a3,a4,a5,j,o⟩⟩
 |1=>⟨fun s=>s.f1,fun s v=>O8.casesOn s fun a0 _ a2 a3 a4 a5 j o=>⟨a0,v,a2,a3,a4,a5,j,o⟩⟩
 |2=>⟨fun s=>s.f2,fun s v=>O8.casesOn s fun a0 a1 _ a3 a4 a5 j o=>⟨a0,a1,v,a3,a4,a5,j,o⟩⟩
 |3=>⟨fun s=>s.f3,fun s v=>O8.casesOn s fun a0 a1 a2 _ a4 a5 j o=>⟨a0,a1,a2,v,a4,a5,j,o⟩⟩
 |4=>⟨fun s=>s.f4,fun s v=>O8.casesOn s fun a0 a1 a2 a3 _ a5 j o=>⟨a0,a1,a2,a3,v,a5,j,o⟩⟩
 |5=>⟨fun s=>s.f5,fun s v=>O8.casesOn s fun a0 a1 a2 a3 a4 _ j o=>⟨a0,a1,a2,a3,a4,v,j,o⟩⟩
 |6=>⟨fun s=>s.f6,fun s v=>O8.casesOn s fun a0 a1 a2 a3 a4 a5 _ o=>⟨a0,a1,a2,a3,a4,a5,v,o⟩⟩
 |_=>⟨fun s=>s.f7,fun s v=>O8.casesOn s fun a0 a1 a2 a3 a4 a5 j _=>⟨a0,a1,a2,a3,a4,a5,j,v⟩⟩
theorem CR{α:Type}(s:O8 α)(v:α):∀(a b:Nat),a<8->b<8->(g8 α b).get ((g8 α a).set s v)=if a=b then v else(g8 α b).get s
 |0,0,_,_|0,1,_,_|0,2,_,_|0,3,_,_|0,4,_,_|0,5,_,_|0,6,_,_|0,7,_,_=>by cases s;rfl
 |1,0,_,_|1,1,_,_|1,2,_,_|1,3,_,_|1,4,_,_|1,5,_,_|1,6,_,_|1,7,_,_=>by cases s;rfl
 |2,0,_,_|2,1,_,_|2,2,_,_|2,3,_,_|2,4,_,_|2,5,_,_|2,6,_,_|2,7,_,_=>by cases s;rfl
 |3,0,_,_|3,1,_,_|3,2,_,_|3,3,_,_|3,4,_,_|3,5,_,_|3,6,_,_|3,7,_,_=>by cases s;rfl
 |4,0,_,_|4,1,_,_|4,2,_,_|4,3,_,_|4,4,_,_|4,5,_,_|4,6,_,_|4,7,_,_=>by cases s;rfl
 |5,0,_,_|5,1,_,_|5,2,_,_|5,3,_,_|5,4,_,_|5,5,_,_|5,6,_,_|5,7,_,_=>by cases s;rfl
 |6,0,_,_|6,1,_,_|6,2,_,_|6,3,_,_|6,4,_,_|6,5,_,_|6,6,_,_|6,7,_,_=>by cases s;rfl
 |7,0,_,_|7,1,_,_|7,2,_,_|7,3,_,_|7,4,_,_|7,5,_,_|7,6,_,_|7,7,_,_=>by cases s;rfl
 |a+8,_,h,_=>by omega
 |_,b+8,_,h=>by omega
abbrev Tm:=O8 (O8 (O8 Value))
structure Acc where
 get:Tm->Value
 set:Tm->Value->Tm
def acc(n:Nat):Acc:=
 G8.casesOn (g8 (O8 (O8 Value)) (n/64)) fun p ps=>G8.casesOn (g8 (O8 Value) (n/8%8)) fun q j=>G8.casesOn (g8 Value (n%8)) fun r rs=>
  ⟨fun s=>r (q (p s)),fun s v=>ps s (j (p s) (rs (q (p s)) v))⟩
def Tm.get(t:Tm)(n:Nat):Value:=(acc n).get t
def Tm.set(t:Tm)(n:Nat)(v:Value):Tm:=(acc n).set t v
theorem Vs(t:Tm)(n:Nat):(acc n).get t=(g8 Value (n%8)).get ((g8 (O8 Value) (n/8%8)).get ((g8 (O8 (O8 Value)) (n/64)).get t)):=rfl
theorem Tm.nJ(t:Tm)(v:Value){a b:Nat}(j:a<512)(hb:b<512):Tm.get (Tm.set t a v) b=if a=b then v else Tm.get t b:=by
 have key:Tm.get (Tm.set t a v) b=(g8 Value (b%8)).get ((g8 (O8 Value) (b/8%8)).get ((g8 (O8 (O8 Value)) (b/64)).get
  ((g8 (O8 (O8 Value)) (a/64)).set t ((g8 (O8 Value) (a/8%8)).set ((g8 (O8 (O8 Value)) (a/64)).get t) ((g8 Value (a%8)).set ((g8 (O8 Value) (a/8%8)).get ((g8 (O8 (O8 Value)) (a/64)).get t)) v))))):=rfl
 rw[key,CR _ _ (a/64) (b/64) (by omega) (by omega)]
 by_cases h1:a/64=b/64
 · rw[if_pos h1,CR _ _ (a/8%8) (b/8%8) (by omega) (by omega)]
   by_cases h2:a/8%8=b/8%8
   · rw[if_pos h2,CR _ _ (a%8) (b%8) (by omega) (by omega)]
     by_cases h3:a%8=b%8
     · rw[if_pos h3,if_pos (by omega)]
     · rw[if_neg h3,if_neg (by omega)]
       rw[h1,h2];rfl
   · rw[if_neg h2,if_neg (by omega)]
     rw[h1];rfl
 · rw[if_neg h1,if_neg (by omega)];rfl
def r8{α:Type}(a:α):O8 α:=⟨a,a,a,a,a,a,a,a⟩
def Tm.undef:Tm:=r8 (r8 (r8 Go.undef))
end
end Sw
namespace Sw
noncomputable section
open Go
def m_:Nat->List Oper->Option Oper
 |_,[]=>none
 |0,x::_=>some x
 |n+1,_::xs=>m_ n xs
def xC:Nat->List Nat->Nat
 |_,[]=>0
 |0,x::_=>x
 |n+1,_::xs=>xC n xs
def pY:Op->Nat
 |.alloc _|.box ..|.buildSlice ..|.makeSlice ..=>1
 |.move _|.pick ..|.build ..|.load ..|.nilCheck _|.binOp ..|.unOp ..|.makeInterface ..|.makeFunc ..|.slice ..|.fieldAddr ..|.field ..|.indexAddr ..|.index ..|.lookup ..|.entry _|.typeAssert ..|.extract ..=>0
 |.call c=>(match c.callee with
  |.builtin .len|.builtin .cap|.builtin .min|.builtin .max=>0
  |_=>2)
 |_=>2
def has(s i:Nat):Bool:=Nat.testBit s i
def sub(a b:Nat):Bool:=Nat.beq (Nat.land a b) a
def put(s i:Nat):Nat:=Nat.lor s (2^i)
def Fg(md:Region.Mode):List Edge->Nat
 |[]=>0
 |e::es=>bif Region.binds md e then put (Fg md es) e.on else Fg md es
def X1(md:Region.Mode)(o:Oper):Nat:=Fg md o.after.toList
def DW(bm:List Nat):List Edge->Nat
 |[]=>0
 |e::es=>bif Region.binds .any e then Nat.lor (xC e.on bm) (put (DW bm es) e.on)else DW bm es
structure vF where
 ne:List Nat
 pQ:List Nat
 ln:Option Nat
structure S7 where
 bm:List Nat
 WB:List Nat
 rT:List vF
def pz:Op->Bool
 |.convert ..=>true
 |_=>false
def kA(fl:Bool)(op:Op):Nat:=bif fl&&pz op then 0 else pY op
def qv(fl:Bool)(all:List Oper)(i:Nat):Nat:=match m_ i all with
 |some o=>kA fl o.op
 |none=>2
def maskAt(md:Region.Mode)(all:List Oper)(i:Nat):Nat:=match m_ i all with
 |some o=>X1 md o
 |none=>0
def r6(all:List Oper)(i:Nat):Option Nat:=match m_ i all with
 |some o=>o.dst
 |none=>none
def looks(all:List Oper)(o:Oper):List Nat:=
 (match o.guard with
   |some (j,_)=>(match r6 all j with|some d=>[d]|none=>[])
   |none=>[])++(o.op.operands.toList.filterMap fun|.tmp t=>some t|_=>none)
def looksAt(all:List Oper)(i:Nat):List Nat:=match m_ i all with
 |some o=>looks all o
 |none=>[]
def U0:List Oper->List Nat->List Nat
 |[],j=>j
 |o::os,j=>U0 os (j++[DW j o.after.toList])
def Lj(fl:Bool)(all:List Oper):List Nat->Nat->List Nat->List Nat×Nat
 |[],L,acc=>(acc.reverse,L)
 |i::is,L,acc=>bif !(Nat.beq (qv fl all i) 2)&&(!(has L i)&&sub (maskAt .any all i) L)then Lj fl all is (put L i) (i::acc)else Lj fl all is L acc
def Lk(fl:Bool)(all:List Oper):List Nat->Nat->Option Nat
 |[],_=>none
 |i::is,L=>bif Nat.beq (qv fl all i) 2&&(!(has L i)&&sub (maskAt .any all i) L)then some i else Lk fl all is L
def Ll(fl:Bool)(all:List Oper)(bm:List Nat)(is:List Nat):Nat->Nat->Option Nat->List vF
 |0,_,_=>[]
 |n+1,L,x=>match Lj fl all is L []with
  |(ne,j)=>
   let pQ:=is.filter fun i=>has j i&&(!(Nat.beq (qv fl all i) 2)&&!(has L i&&(match x with|some x=>has (xC x bm) i|none=>false)))
   match Lk fl all is j with
   |some y=>⟨ne,pQ,some y⟩::Ll fl all bm is n (put j y) (some y)
   |none=>[⟨ne,pQ,none⟩]
def Lm(all:List Oper):List Nat->Nat->List Nat->List Nat×Nat
 |[],L,acc=>(acc,L)
 |i::is,L,acc=>bif !(has L i)&&sub (maskAt .gc all i) L then Lm all is (put L i) (i::acc)else Lm all is L acc
def QR(all:List Oper)(is:List Nat)(len:Nat):Nat->Nat->List Nat->List Nat
 |0,_,acc=>acc.reverse
 |n+1,L,acc=>match Lm all is L acc with
  |(j,o)=>bif Nat.beq j.length len then j.reverse else QR all is len n o j
def xD(fl:Bool)(all:List Oper):S7:=
 let is:=List.range all.length
 let bm:=U0 all []
 ⟨bm,QR all is all.length all.length 0 [],Ll fl all bm is (all.length+1) 0 none⟩
def ux(md:Region.Mode)(all:List Oper):List Nat->Nat->Bool
 |[],L=>(List.range all.length).all fun i=>has L i
 |i::is,L=>Nat.blt i all.length&&(sub (maskAt md all i) L&&ux md all is (put L i))
def WE(all:List Oper):Bool:=(List.range all.length).all fun i=>match r6 all i with
 |some d=>(List.range all.length).all fun k=>Nat.beq i k||(match r6 all k with|some d'=>!(Nat.beq d d')|none=>true)
 |none=>true
def Vt(fl:Bool)(all:List Oper)(bm:List Nat):Bool:=(List.range all.length).all fun k=>(looksAt all k).all fun t=>(List.range all.length).all fun i=>match r6 all i with
 |some d=>!(Nat.beq d t)||(Nat.beq (qv fl all i) 2||has (xC k bm) i)
 |none=>true
def Y2(all:List Oper)(bm:List Nat):Bool:=(List.range all.length).all fun i=>match m_ i all with
 |some o=>sub (xC i bm) (DW bm o.after.toList)
 |none=>true
def WG(all:List Oper):Bool:=(List.range all.length).all fun i=>sub (maskAt .any all i) (2^i-1)
def Gj(fl:Bool)(all:List Oper):List Nat->Nat->Option Nat
 |[],L=>some L
 |i::is,L=>bif Nat.blt i all.length&&(!(Nat.beq (qv fl all i) 2)&&!(has L i))then Gj fl all is (put L i)else none
def Fh(i:Nat):List Nat->Bool
 |[]=>false
 |x::xs=>Nat.beq i x||Fh i xs
def u_(fl:Bool)(all:List Oper)(bm:List Nat):List vF->Nat->Option Nat->Bool
 |[],_,_=>false
 |s::rest,L,x=>match Gj fl all s.ne L with
  |some j=>(s.pQ.all fun i=>!(Nat.beq (qv fl all i) 2))&&(
   ((List.range all.length).all fun i=>(Nat.beq (qv fl all i) 2||!(has j i))||(Fh i s.pQ||(has L i&&(match x with|some x=>has (xC x bm) i|none=>false))))&&
   (((List.range all.length).all fun i=>has j i||((match s.ln with|some y=>Nat.beq i y|none=>false)||!(sub (maskAt .any all i) j)))&&
   (match s.ln with
   |none=>(match rest with|[]=>(List.range all.length).all fun i=>has j i|_=>false)
   |some y=>(Nat.blt y all.length&&(Nat.beq (qv fl all y) 2&&!(has j y)))&&u_ fl all bm rest (put j y) (some y))))
  |none=>false
def Hl(fl:Bool)(all:List Oper)(pl:S7):Bool:=
 WE all&&(Vt fl all pl.bm&&(Y2 all pl.bm&&(WG all&&(ux .text all (List.range all.length) 0&&(ux .gc all pl.WB 0&&u_ fl all pl.bm pl.rT 0 none)))))
def OI:List Oper->Bool
 |[]=>false
 |o::os=>pz o.op||OI os
def vH(all:List Oper):Bool:=OI all&&!(Hl false all (xD false all))
def Hm(all:List Oper):Bool:=Hl (vH all) all (xD (vH all) all)
end
end Sw
namespace Sw
noncomputable section
open Go Go.RowKit
abbrev Hp:=Nat->Option (jM Tm)
def Hp.set(hp:Hp)(n:Nat)(o:Option (jM Tm)):Hp:=fun b=>if b=n then o else hp b
theorem Hp.jH(hp:Hp)(n:Nat)(o:Option (jM Tm)):hp.set n o n=o:=by simp[Hp.set]
theorem Hp.gP(hp:Hp){n b:Nat}(o:Option (jM Tm))(h:b≠n):hp.set n o b=hp b:=by simp[Hp.set,h]
def Gm.add(g:Gm)(n:Nat)(x:Nat×Nat)(room:Option (Nat×Nat)):Gm:=
 ⟨fun b=>if b=n then some x else g.gb b,fun b=>if b=n then room else g.room b⟩
theorem Gm.qM{g:Gm}{n:Nat}(h:g.gb n=none)(x:Nat×Nat)(room:Option (Nat×Nat)):g.le (g.add n x room):=by
 refine⟨fun b y e=>?_,fun b y e=>?_⟩
 · show(if b=n then some x else g.gb b)=some y
   have:b≠n:=fun k=>by subst k;rw[h]at e;cases e
   simp[this,e]
 · show(if b=n then room else g.room b)=g.room b
   have:b≠n:=fun k=>by subst k;rw[h]at e;cases e
   simp[this]
theorem Gm.lQ(g:Gm)(n:Nat)(x:Nat×Nat)(room:Option (Nat×Nat)):(g.add n x room).gb n=some x:=by simp[Gm.add]
theorem Gm.sx(g:Gm)(n:Nat)(x:Nat×Nat)(room:Option (Nat×Nat)):(g.add n x room).room n=room:=by simp[Gm.add]
theorem Gm.jV(g:Gm){n b:Nat}(x:Nat×Nat)(room:Option (Nat×Nat))(h:b≠n):(g.add n x room).gb b=g.gb b:=by simp[Gm.add,h]
def kN(g:Gm)(x x':List MapEntry):Prop:=
 x.length=x'.length/\∀(i:Nat) (e j:MapEntry),x[i]?=some e->x'[i]?=some j->fQ g e.key j.key/\fQ g e.val j.val/\e.born=j.born
theorem kN.mono{g g':Gm}(h:g.le g'){x x':List MapEntry}(r:kN g x x'):kN g' x x':=
 ⟨r.1,fun i e j a b=>by obtain⟨p,q,s⟩:=r.2 i e j a b;exact⟨p.mono h,q.mono h,s⟩⟩
def rL(g:Gm)(nt:Nat)(t:Tm)(j:Array Value):Prop:=j.size=nt/\∀i,i<nt->fQ g (t.get i) (j.getD i Go.undef)
theorem rL.mono{g g':Gm}(h:g.le g'){nt:Nat}{t:Tm}{j:Array Value}(r:rL g nt t j):rL g' nt t j:=
 ⟨r.1,fun i hi=>(r.2 i hi).mono h⟩
inductive BI(g:Gm):Deferred->Deferred->Prop where
 |Gk {r rr:Nat} (h:g.gb r=some (rr,0)):BI g ⟨.collected r,#[]⟩ ⟨.collected rr,#[]⟩
 |fn {f:FuncId} {y y' x x':Array Value} (hy:r5 g y y') (hx:r5 g x x'):BI g ⟨.fn (.func f) y,x⟩ ⟨.fn (.func f) y',x'⟩
theorem BI.mono{g g':Gm}(h:g.le g'){d d':Deferred}(r:BI g d d'):BI g' d d':=by
 cases r with
 |Gk e=>exact .Gk (h.1 _ _ e)
 |fn hy hx=>exact .fn (hy.mono h) (hx.mono h)
def mV(g:Gm)(x x':List Deferred):Prop:=x.length=x'.length/\∀(i:Nat) (d d':Deferred),x[i]?=some d->x'[i]?=some d'->BI g d d'
theorem mV.mono{g g':Gm}(h:g.le g'){x x':List Deferred}(r:mV g x x'):mV g' x x':=⟨r.1,fun i d d' a b=>(r.2 i d d' a b).mono h⟩
def y6:Nat->Value->Bool
 |_,.bool _=>true
 |_,.int _ _=>true
 |_,.string _=>true
 |_,.pointer none=>true
 |_,.slice none 0 0=>true
 |_,.map none=>true
 |_,.nilFunc=>true
 |_,.nilIface=>true
 |_,.func (.func _) ⟨[]⟩ ⟨[]⟩=>true
 |n+1,.agg x=>x.toList.all (y6 n)
 |n+1,.tuple x=>x.toList.all (y6 n)
 |n+1,.iface _ v=>y6 n v
 |_,_=>false
def DX(ng nt:Nat):Operand->Bool
 |.tmp i=>Nat.blt i nt
 |.const v=>y6 4 v
 |.global i=>Nat.blt i ng
 |.func _=>true
def U1(nt:Nat):Option Tmp->Bool
 |some i=>Nat.blt i nt
 |none=>true
def wF(ng nt:Nat)(o:Oper):Bool:=o.op.operands.toList.all (DX ng nt)&&U1 nt o.dst
def codeOk(ng nt:Nat):Code->Bool
 |.seq a b=>codeOk ng nt a&&codeOk ng nt b
 |.cond x a b=>DX ng nt x&&(codeOk ng nt a&&codeOk ng nt b)
 |.block _ b=>codeOk ng nt b
 |.loop b=>codeOk ng nt b
 |.scope b=>codeOk ng nt b
 |.region _ ops draw=>ops.toList.all (wF ng nt)&&(!draw||Hm ops.toList)
 |.rangeFunc f ps a b=>DX ng nt f&&(ps.toList.all (Nat.blt · nt)&&(codeOk ng nt a&&codeOk ng nt b))
 |_=>true
def kT(g:Gm)(ng:Nat):Prop:=∀i,i<ng->g.gb i=some (i,0)
theorem kT.mono{g g':Gm}(h:g.le g'){ng:Nat}(k:kT g ng):kT g' ng:=fun i hi=>h.1 _ _ (k i hi)
def rU(g:Gm)(nt:Nat)(c:Code):Prop:=∃ng,kT g ng/\codeOk ng nt c=true
theorem rU.mono{g g':Gm}(h:g.le g'){nt:Nat}{c:Code}(k:rU g nt c):rU g' nt c:=by
 obtain⟨ng,a,b⟩:=k;exact⟨ng,a.mono h,b⟩
def sS(g:Gm)(l:sL Tm)(j:Loop):Prop:=
 l.state=j.state/\l.pending=j.pending/\l.fn=j.fn/\rL g l.nt l.tmps j.tmps/\l.params=j.params.toList/\l.assign=j.assign/\l.body=j.body/\
  g.gb l.defers=some (j.defers,0)/\(l.nt<=512/\rU g l.nt l.assign/\rU g l.nt l.body/\l.params.all (Nat.blt · l.nt)=true)
theorem sS.mono{g g':Gm}(h:g.le g'){l:sL Tm}{o:Loop}(r:sS g l o):sS g' l o:=by
 obtain⟨a,b,c,d,e,f,i,j,C,I,q3,J⟩:=r
 exact⟨a,b,c,d.mono h,e,f,i,h.1 _ _ j,C,I.mono h,q3.mono h,J⟩
def Gl(size:Nat)(j:Nat×Nat):Prop:=j.1=j.2\/size<=j.1
theorem Gl.free{size:Nat}{j:Nat×Nat}(h:Gl size j):∀i,i<size->¬(j.1<=i/\i<j.2):=fun i hi=>by
 rcases h with h|h<;>omega
def oP(B0:Nat)(g:Gm)(b:Nat)(o:jM Tm)(rb ro:Nat)(jq:Obj):Prop:=
 match o,jq with
 |.cells cs m,.cells rc _ U=>ro+cs.length<=rc.size/\(∀(i:Nat) (v v':Value),cs[i]?=some v->rc[ro+i]?=some v'->fQ g v v')/\
   (m.ro=false->B0<=rb/\Gl rc.size U)/\(∀gr,m.mu=some gr->g.room b=some (rc.size,m.unit))/\(m.mu=none->g.room b=none)
 |.map es c,.map I R=>ro=0/\B0<=rb/\c=R/\kN g es I.toList
 |.mapIter m s seen st,.mapIter ab C j J=>ro=0/\B0<=rb/\s=C/\seen=j.toList/\st=J/\
   (match m,ab with|none,none=>True|some a,some a'=>g.gb a=some (a',0)|_,_=>False)
 |.Fe s p,.stringIter C ad=>ro=0/\B0<=rb/\s=C/\p=ad
 |.loop l,.loop aa=>ro=0/\B0<=rb/\sS g l aa
 |.deferred none,.deferred none=>ro=0/\B0<=rb
 |.deferred (some d),.deferred (some d')=>ro=0/\B0<=rb/\mV g d d'
 |_,_=>False
theorem oP.mono{B0:Nat}{g g':Gm}(h:g.le g'){b:Nat}{x:Nat×Nat}(hb:g.gb b=some x){o:jM Tm}{rb ro:Nat}{jq:Obj}(r:oP B0 g b o rb ro jq):oP B0 g' b o rb ro jq:=by
 cases o with
 |cells cs m=>
  cases jq<;>first|exact r.elim|skip
  obtain⟨a,k,c,d,f⟩:=r
  exact⟨a,fun i v v' e j=>(k i v v' e j).mono h,c,fun gr e=>(h.2 _ _ hb).trans (d gr e),fun e=>(h.2 _ _ hb).trans (f e)⟩
 |map es c=>
  cases jq<;>first|exact r.elim|skip
  obtain⟨a,k,c,d⟩:=r
  exact⟨a,k,c,d.mono h⟩
 |mapIter m s seen st=>
  cases jq<;>first|exact r.elim|skip
  rename_i C _ _ _
  obtain⟨a,k,c,d,e,f⟩:=r
  refine⟨a,k,c,d,e,?_⟩
  cases m<;>cases C<;>first|exact f.elim|trivial|exact h.1 _ _ f
 |Fe s p=>
  cases jq<;>first|exact r.elim|exact r
 |loop l=>
  cases jq<;>first|exact r.elim|skip
  obtain⟨a,k,c⟩:=r
  exact⟨a,k,c.mono h⟩
 |deferred d=>
  cases jq with
  |deferred d'=>
   cases d<;>cases d'<;>first|exact r.elim|exact r|skip
   obtain⟨a,k,c⟩:=r
   exact⟨a,k,c.mono h⟩
  |_=>cases d<;>exact r.elim
 |group ms=>
  cases jq<;>exact r.elim
def jM.Am{E:Type}:jM E->Bool
 |.group _=>true
 |_=>false
def Sep(o1:jM Tm)(r1:Nat)(o2:jM Tm)(r2:Nat):Prop:=
 match o1,o2 with
 |.cells _ m1,.cells _ m2=>(m1.ro=true/\m2.ro=true)\/(∃gr,m1.mu=some gr/\m2.mu=some gr/\r1+m2.base=r2+m1.base)
 |_,_=>False
theorem Sep.symm{o1 o2:jM Tm}{r1 r2:Nat}(h:Sep o1 r1 o2 r2):Sep o2 r2 o1 r1:=by
 unfold Sep at*
 split at h
 · rcases h with⟨a,b⟩|⟨gr,a,b,c⟩
   · exact .inl ⟨b,a⟩
   · exact .inr ⟨gr,b,a,c.symm⟩
 · exact h.elim
structure pB(B:Nat)(w w':World):Prop where
 b:Below B w w'
 drawn:w.drawn<=w'.drawn
theorem pB.refl(B:Nat)(w:World):pB B w w:=⟨Below.refl _ _,Nat.le_refl _⟩
theorem pB.trans{B:Nat}{x y z:World}(h:pB B x y)(k:pB B y z):pB B x z:=⟨h.b.trans k.b,Nat.le_trans h.drawn k.drawn⟩
theorem pB.mono{B C:Nat}{w w':World}(h:pB B w w')(k:C<=B):pB C w w':=⟨h.b.mono k,h.drawn⟩
structure gu(B0:Nat)(w0:World)(g:Gm)(hp:Hp)(nx:Nat)(w:World):Prop where
 below:pB B0 w0 w
 base:B0<=w.heap.size
 rq:∀b rb ro,g.gb b=some (rb,ro)->b<nx/\rb<w.heap.size
 live:∀b o,hp b=some o->b<nx/\∀rb ro,g.gb b=some (rb,ro)->∃jq,w.heap[rb]?=some jq/\oP B0 g b o rb ro jq
 o7:∀b ms,hp b=some (.group ms)->g.gb b=none
 mem:∀b cs m gr,hp b=some (.cells cs m)->m.mu=some gr->∃ms,hp gr=some (.group ms)/\(⟨b,m.base,cs.length⟩:Mem)∈ms
 sep:∀b1 b2 o1 o2 rb r1 r2,b1≠b2->hp b1=some o1->hp b2=some o2->g.gb b1=some (rb,r1)->g.gb b2=some (rb,r2)->Sep o1 r1 o2 r2
 room:∀b x,g.room b=some x->g.gb b≠none
structure sZ(w w':World)(r:Nat)(o:Obj):Prop where
 os:w'.os=w.os
 tape:w'.tape=w.tape
 output:w'.output=w.output
 size:w.heap.size<=w'.heap.size
 at_:w'.heap[r]?=some o
 other:∀k,k≠r->w'.heap[k]?=w.heap[k]?
 drawn:w.drawn<=w'.drawn
theorem sZ.alloc(w:World)(o:Obj):sZ w (w.alloc o) w.heap.size o:=
 ⟨rfl,rfl,rfl,by simp,World.alloc_heap_new w o,fun k hk=>by
   show(w.heap.push o)[k]?=_
   rw[Array.getElem?_push,if_neg hk],Nat.le_refl _⟩
theorem sZ.putObj{w:World}{r:Nat}(h:r<w.heap.size)(o:Obj):sZ w (w.putObj r o) r o:=
 ⟨rfl,rfl,rfl,by simp,World.putObj_heap_same h,fun _ hk=>World.putObj_heap_other hk,Nat.le_refl _⟩
theorem sf{α:Type}{a:Array α}{i:Nat}{v:α}(h:a[i]?=some v):i<a.size:=(Array.getElem?_eq_some_iff.1 h).1
theorem gu.alloc{B0:Nat}{w0:World}{g:Gm}{hp:Hp}{nx:Nat}{w:World}(H:gu B0 w0 g hp nx w){n fg:Nat}(hg:g.gb n=none)(hr:g.room n=none)(hn:hp n=none)
 (h1:nx<=fg) (h2:n<fg) (o:jM Tm) (jq:Obj) (room:Option (Nat×Nat)) (ab:o.Am=false)
 (aa:oP B0 (g.add n (w.heap.size,0) room) n o w.heap.size 0 jq)
 (R:∀cs m gr,o=.cells cs m->m.mu=some gr->∃ms,hp gr=some (.group ms)/\(⟨n,m.base,cs.length⟩:Mem)∈ms):
 gu B0 w0 (g.add n (w.heap.size,0) room) (hp.set n (some o)) fg (w.alloc jq):=by
 have hle:=Gm.qM hg (w.heap.size,0) room
 have U:=sZ.alloc w jq
 refine⟨?_,?_,?_,?_,?_,?_,?_,?_⟩
 · exact⟨H.below.b.alloc H.base jq,H.below.drawn⟩
 · simp;have:=H.base;omega
 · intro b rb ro e
   by_cases hb:b=n
   · subst hb
     rw[Gm.lQ]at e
     cases e
     exact⟨h2,by simp⟩
   · rw[Gm.jV _ _ _ hb]at e
     obtain⟨p,q⟩:=H.rq b rb ro e
     exact⟨by omega,by simp;omega⟩
 · intro b o' e
   by_cases hb:b=n
   · subst hb
     rw[Hp.jH]at e
     cases e
     refine⟨h2,fun rb ro k=>?_⟩
     rw[Gm.lQ]at k;cases k
     exact⟨_,U.at_,aa⟩
   · rw[Hp.gP _ _ hb]at e
     obtain⟨p,q⟩:=H.live b o' e
     refine⟨by omega,fun rb ro k=>?_⟩
     rw[Gm.jV _ _ _ hb]at k
     obtain⟨ob,a2,a3⟩:=q rb ro k
     exact⟨ob,(U.other rb (by have:=sf a2;omega)).trans a2,a3.mono hle k⟩
 · intro b ms e
   by_cases hb:b=n
   · subst hb
     rw[Hp.jH]at e
     cases e
     simp[jM.Am]at ab
   · rw[Hp.gP _ _ hb]at e
     rw[Gm.jV _ _ _ hb]
     exact H.o7 b ms e
 · intro b cs m gr e k
   by_cases hb:b=n
   · subst hb
     rw[Hp.jH]at e
     cases e
     obtain⟨ms,a1,a2⟩:=R cs m gr rfl k
     refine⟨ms,?_,a2⟩
     rw[Hp.gP _ _ (by rintro rfl;rw[hn]at a1;cases a1)]
     exact a1
   · rw[Hp.gP _ _ hb]at e
     obtain⟨ms,a1,a2⟩:=H.mem b cs m gr e k
     refine⟨ms,?_,a2⟩
     rw[Hp.gP _ _ (by rintro rfl;rw[hn]at a1;cases a1)]
     exact a1
 · intro b1 b2 o1 o2 rb r1 r2 jG e1 e2 j C
   by_cases I:b1=n
   · subst I
     rw[Gm.lQ]at j
     cases j
     rw[Gm.jV _ _ _ (Ne.symm jG)]at C
     have:=(H.rq _ _ _ C).2
     omega
   · by_cases J:b2=n
     · subst J
       rw[Gm.lQ]at C
       cases C
       rw[Gm.jV _ _ _ jG]at j
       have:=(H.rq _ _ _ j).2
       omega
     · rw[Hp.gP _ _ I]at e1
       rw[Hp.gP _ _ J]at e2
       rw[Gm.jV _ _ _ I]at j
       rw[Gm.jV _ _ _ J]at C
       exact H.sep b1 b2 o1 o2 rb r1 r2 jG e1 e2 j C
 · intro b x e
   by_cases hb:b=n
   · subst hb;rw[Gm.lQ];simp
   · rw[Gm.jV _ _ _ hb]
     exact H.room b x (by simpa[Gm.add,hb]using e)
theorem gu.kill{B0:Nat}{w0:World}{g:Gm}{hp:Hp}{nx:Nat}{w:World}(H:gu B0 w0 g hp nx w)(n:Nat)(hc:∀ms,hp n≠some (.group ms)):
 gu B0 w0 g (hp.set n none) nx w:=by
 have h0:∀b o,hp.set n none b=some o->hp b=some o/\b≠n:=fun b o e=>by
  by_cases hb:b=n
  · subst hb;rw[Hp.jH]at e;cases e
  · rw[Hp.gP _ _ hb]at e;exact⟨e,hb⟩
 refine⟨H.below,H.base,H.rq,fun b o e=>H.live b o (h0 b o e).1,fun b ms e=>H.o7 b ms (h0 _ _ e).1,?_,?_,H.room⟩
 · intro b cs m gr e k
   obtain⟨ms,a1,a2⟩:=H.mem b cs m gr (h0 _ _ e).1 k
   refine⟨ms,?_,a2⟩
   rw[Hp.gP _ _ (by rintro rfl;exact hc _ a1)]
   exact a1
 · intro b1 b2 o1 o2 rb r1 r2 jG e1 e2 j C
   exact H.sep b1 b2 o1 o2 rb r1 r2 jG (h0 _ _ e1).1 (h0 _ _ e2).1 j C
theorem gu.Ln{B0:Nat}{w0:World}{g:Gm}{hp:Hp}{nx:Nat}{w:World}(H:gu B0 w0 g hp nx w){n fg:Nat}(ms:List Mem)(h1:nx<=fg)(h2:n<fg)(hg:g.gb n=none)
 (hm:∀b cs m,hp b=some (.cells cs m)->m.mu=some n->(⟨b,m.base,cs.length⟩:Mem)∈ms):
 gu B0 w0 g (hp.set n (some (.group ms))) fg w:=by
 refine⟨H.below,H.base,fun b rb ro e=>⟨by have:=(H.rq b rb ro e).1;omega,(H.rq b rb ro e).2⟩,?_,?_,?_,?_,H.room⟩
 · intro b o e
   by_cases hb:b=n
   · subst hb;exact⟨h2,fun rb ro k=>by rw[hg]at k;cases k⟩
   · rw[Hp.gP _ _ hb]at e
     obtain⟨p,q⟩:=H.live b o e
     exact⟨by omega,q⟩
 · intro b U e
   by_cases hb:b=n
   · subst hb;exact hg
   · rw[Hp.gP _ _ hb]at e;exact H.o7 b U e
 · intro b cs m gr e k
   by_cases hb:b=n
   · subst hb;rw[Hp.jH]at e;cases e
   · rw[Hp.gP _ _ hb]at e
     by_cases j:gr=n
     · subst j;exact⟨ms,Hp.jH _ _ _,hm b cs m e k⟩
     · rw[Hp.gP _ _ j];exact H.mem b cs m gr e k
 · intro b1 b2 o1 o2 rb r1 r2 jG e1 e2 C I
   have J:b1≠n:=fun k=>by subst k;rw[hg]at C;cases C
   have R:b2≠n:=fun k=>by subst k;rw[hg]at I;cases I
   rw[Hp.gP _ _ J]at e1
   rw[Hp.gP _ _ R]at e2
   exact H.sep b1 b2 o1 o2 rb r1 r2 jG e1 e2 C I
theorem gu.setObj{B0:Nat}{w0:World}{g:Gm}{hp:Hp}{nx:Nat}{w:World}(H:gu B0 w0 g hp nx w){n rb:Nat}{o o':jM Tm}(hn:hp n=some o)(hb:g.gb n=some (rb,0))
 (hc:∀cs m,o≠.cells cs m) (ae:∀cs m,o'≠.cells cs m) (af:o'.Am=false) (jq:Obj) (hr:B0<=rb) (ad:oP B0 g n o' rb 0 jq):
 gu B0 w0 g (hp.set n (some o')) nx (w.putObj rb jq):=by
 have jz:rb<w.heap.size:=(H.rq _ _ _ hb).2
 have U:=sZ.putObj jz jq
 have C:∀b o1 r1,b≠n->hp b=some o1->g.gb b=some (rb,r1)->False:=fun b o1 r1 jG e k=>by
  have:=H.sep b n o1 o rb r1 0 jG e hn k hb
  unfold Sep at this
  split at this
  · rename_i cs m _ _;exact hc _ _ rfl
  · exact this
 refine⟨?_,?_,?_,?_,?_,?_,?_,H.room⟩
 · refine H.below.trans ⟨⟨rfl,rfl,rfl,by simp,fun k hk=>U.other k (by omega)⟩,Nat.le_refl _⟩
 · simp;exact H.base
 · intro b r1 r2 e;simp;exact H.rq b r1 r2 e
 · intro b ob e
   by_cases j:b=n
   · subst j
     rw[Hp.jH]at e
     cases e
     refine⟨(H.live _ _ hn).1,fun r1 r2 k=>?_⟩
     rw[hb]at k;cases k
     exact⟨_,U.at_,ad⟩
   · rw[Hp.gP _ _ j]at e
     obtain⟨p,q⟩:=H.live b ob e
     refine⟨p,fun r1 r2 a1=>?_⟩
     obtain⟨ag,a2,a3⟩:=q r1 r2 a1
     by_cases ab:r1=rb
     · subst ab;exact(C b ob r2 j e a1).elim
     · exact⟨ag,(U.other r1 ab).trans a2,a3⟩
 · intro b ms e
   by_cases j:b=n
   · subst j;rw[Hp.jH]at e;cases e;simp[jM.Am]at af
   · rw[Hp.gP _ _ j]at e;exact H.o7 b ms e
 · intro b cs m gr e k
   by_cases j:b=n
   · subst j;rw[Hp.jH]at e;cases e;exact(ae _ _ rfl).elim
   · rw[Hp.gP _ _ j]at e
     obtain⟨ms,a1,a2⟩:=H.mem b cs m gr e k
     refine⟨ms,?_,a2⟩
     rw[Hp.gP _ _ ?_]
     · exact a1
     · rintro rfl
       have:=H.o7 _ _ a1
       rw[hb]at this;cases this
 · intro b1 b2 o1 o2 r r1 r2 jG e1 e2 I J
   by_cases R:b1=n
   · subst R
     rw[hb]at I;cases I
     rw[Hp.gP _ _ (Ne.symm jG)]at e2
     exact(C b2 o2 r2 (Ne.symm jG) e2 J).elim
   · by_cases aa:b2=n
     · subst aa
       rw[hb]at J;cases J
       rw[Hp.gP _ _ jG]at e1
       exact(C b1 o1 r1 jG e1 I).elim
     · rw[Hp.gP _ _ R]at e1
       rw[Hp.gP _ _ aa]at e2
       exact H.sep b1 b2 o1 o2 r r1 r2 jG e1 e2 I J
theorem sZ.trans{w j o:World}{r:Nat}{o1 o2:Obj}(h:sZ w j r o1)(k:sZ j o r o2):sZ w o r o2:=
 ⟨k.os.trans h.os,k.tape.trans h.tape,k.output.trans h.output,Nat.le_trans h.size k.size,k.at_,fun i hi=>(k.other i hi).trans (h.other i hi),Nat.le_trans h.drawn k.drawn⟩
theorem gu.putCells{B0:Nat}{w0:World}{g:Gm}{hp:Hp}{nx:Nat}{w w':World}(H:gu B0 w0 g hp nx w){n rb ro:Nat}{cs lv:List Value}{m:gl}(hn:hp n=some (.cells cs m))
 (hb:g.gb n=some (rb,ro)) (ak:m.ro=false) {rc aa:Array Value} {el:TypeId} {af:Nat×Nat} (hw:w.heap[rb]?=some (.cells rc el af)) (U:sZ w w' rb (.cells aa el af))
 (R:aa.size=rc.size) (hlen:lv.length=cs.length) (ah:∀(i:Nat) (v v':Value),lv[i]?=some v->aa[ro+i]?=some v'->fQ g v v') (lo hi:Nat)
 (ad:∀j,¬(lo<=j/\j<hi)->aa[j]?=rc[j]?)
 (ag:∀b I m1 r1,b≠n->hp b=some (.cells I m1)->g.gb b=some (rb,r1)->r1+I.length<=lo\/hi<=r1):
 gu B0 w0 g (hp.set n (some (.cells lv m))) nx w':=by
 have ab:B0<=rb/\oP B0 g n (.cells cs m) rb ro (.cells rc el af):=by
  obtain⟨jq,a2,a3⟩:=(H.live n _ hn).2 _ _ hb
  rw[hw]at a2;cases a2
  exact⟨(a3.2.2.1 ak).1,a3⟩
 refine⟨?_,?_,?_,?_,?_,?_,?_,H.room⟩
 · exact H.below.trans ⟨⟨U.os,U.tape,U.output,U.size,fun k hk=>U.other k (by omega)⟩,U.drawn⟩
 · have:=H.base;have:=U.size;omega
 · intro b r1 r2 e
   obtain⟨p,q⟩:=H.rq b r1 r2 e
   exact⟨p,by have:=U.size;omega⟩
 · intro b ob e
   by_cases C:b=n
   · subst C
     rw[Hp.jH]at e
     cases e
     refine⟨(H.live _ _ hn).1,fun r1 r2 k=>?_⟩
     rw[hb]at k;cases k
     refine⟨_,U.at_,?_,ah,?_,?_,ab.2.2.2.2.2⟩
     · have:=ab.2.1;omega
     · rw[R];exact ab.2.2.2.1
     · rw[R];exact ab.2.2.2.2.1
   · rw[Hp.gP _ _ C]at e
     obtain⟨p,q⟩:=H.live b ob e
     refine⟨p,fun r1 r2 a1=>?_⟩
     obtain⟨an,a2,a3⟩:=q r1 r2 a1
     by_cases ae:r1=rb
     · subst ae
       rw[hw]at a2;cases a2
       refine⟨_,U.at_,?_⟩
       cases ob<;>first|exact a3.elim|skip
       · rename_i I m1
         have ay:=ag b I m1 r2 C e a1
         obtain⟨al,ai,ao,aq,ar⟩:=a3
         refine⟨by omega,fun i v v' e1 e2=>?_,by rw[R];exact ao,by rw[R];exact aq,ar⟩
         have ax:i<I.length:=(List.getElem?_eq_some_iff.1 e1).1
         rw[ad _ (by omega)]at e2
         exact ai i v v' e1 e2
       · rename_i d;cases d<;>exact a3.elim
     · exact⟨an,(U.other r1 ae).trans a2,a3⟩
 · intro b ms e
   by_cases C:b=n
   · subst C;rw[Hp.jH]at e;cases e
   · rw[Hp.gP _ _ C]at e;exact H.o7 b ms e
 · intro b I m1 gr e k
   have hg:∀ms,hp gr=some (.group ms)->gr≠n:=fun ms a1 h=>by
    subst h
    have:=H.o7 _ _ a1
    rw[hb]at this;cases this
   by_cases C:b=n
   · subst C;rw[Hp.jH]at e;cases e
     obtain⟨ms,a1,a2⟩:=H.mem b cs m gr hn k
     exact⟨ms,by rw[Hp.gP _ _ (hg ms a1)];exact a1,by rw[hlen];exact a2⟩
   · rw[Hp.gP _ _ C]at e
     obtain⟨ms,a1,a2⟩:=H.mem b I m1 gr e k
     exact⟨ms,by rw[Hp.gP _ _ (hg ms a1)];exact a1,a2⟩
 · intro b1 b2 o1 o2 r r1 r2 jG e1 e2 al ai
   have key:∀b o,hp.set n (some (.cells lv m)) b=some o->∃aj,hp b=some aj/\(∀J x y,Sep aj x J y->Sep o x J y)/\(∀J x y,Sep J x aj y->Sep J x o y):=by
    intro b o e
    by_cases C:b=n
    · subst C;rw[Hp.jH]at e;cases e
      refine⟨_,hn,fun J x y h=>?_,fun J x y h=>?_⟩<;>cases J<;>exact h
    · rw[Hp.gP _ _ C]at e
      exact⟨o,e,fun _ _ _ h=>h,fun _ _ _ h=>h⟩
   obtain⟨p1,av,s1,_⟩:=key b1 o1 e1
   obtain⟨au,aw,_,s2⟩:=key b2 o2 e2
   exact s1 _ _ _ (s2 _ _ _ (H.sep b1 b2 p1 au r r1 r2 jG av aw al ai))
theorem gu.WH{B0:Nat}{w0:World}{g:Gm}{hp:Hp}{nx:Nat}{w w':World}(H:gu B0 w0 g hp nx w){rb pos gr base unit:Nat}
 {rc ad:Array Value} {el:TypeId} {ak:Nat×Nat} (hw:w.heap[rb]?=some (.cells rc el ak)) (U:sZ w w' rb (.cells ad el ak)) (ar:B0<=rb) (ao:Gl rc.size ak)
 (ab:ad.size=rc.size) {n fg lo:Nat} (hg:g.gb n=none) (hn:hp n=none) (h1:nx<=fg) (h2:n<fg) (new:List Value)
 (au:pos+new.length<=rc.size) (an:∀(i:Nat) (v v':Value),new[i]?=some v->ad[pos+i]?=some v'->fQ g v v')
 (ah:∀j,j<lo->ad[j]?=rc[j]?)
 (ag:∀b o r1,hp b=some o->g.gb b=some (rb,r1)->∃I m1,o=.cells I m1/\m1.mu=some gr/\r1+base=pos+m1.base/\r1+I.length<=lo)
 (al:∃ms,hp gr=some (.group ms)/\(⟨n,base,new.length⟩:Mem)∈ms):
 gu B0 w0 (g.add n (rb,pos) (some (rc.size,unit))) (hp.set n (some (.cells new ⟨false,some gr,base,unit⟩))) fg w':=by
 have hle:=Gm.qM hg (rb,pos) (some (rc.size,unit))
 refine⟨?_,?_,?_,?_,?_,?_,?_,?_⟩
 · exact H.below.trans ⟨⟨U.os,U.tape,U.output,U.size,fun k hk=>U.other k (by omega)⟩,U.drawn⟩
 · have:=H.base;have:=U.size;omega
 · intro b r1 r2 e
   by_cases C:b=n
   · subst C;rw[Gm.lQ]at e;cases e
     exact⟨h2,by have:=sf hw;have:=U.size;omega⟩
   · rw[Gm.jV _ _ _ C]at e
     obtain⟨p,q⟩:=H.rq b r1 r2 e
     exact⟨by omega,by have:=U.size;omega⟩
 · intro b ob e
   by_cases C:b=n
   · subst C
     rw[Hp.jH]at e
     cases e
     refine⟨h2,fun r1 r2 k=>?_⟩
     rw[Gm.lQ]at k;cases k
     refine⟨_,U.at_,⟨by omega,fun i v v' e1 e2=>(an i v v' e1 e2).mono hle,fun _=>⟨ar,by rw[ab];exact ao⟩,fun aa _=>by rw[ab];exact Gm.sx _ _ _ _,fun e=>by cases e⟩⟩
   · rw[Hp.gP _ _ C]at e
     obtain⟨p,q⟩:=H.live b ob e
     refine⟨by omega,fun r1 r2 a1=>?_⟩
     rw[Gm.jV _ _ _ C]at a1
     obtain⟨aq,a2,a3⟩:=q r1 r2 a1
     by_cases aj:r1=rb
     · subst aj
       rw[hw]at a2;cases a2
       refine⟨_,U.at_,?_⟩
       obtain⟨I,m1,rfl,_,_,aA⟩:=ag b ob r2 e a1
       obtain⟨R,J,av,aw,ax⟩:=a3
       refine⟨by omega,fun i v v' e1 e2=>?_,by rw[ab];exact av,fun x hx=>by rw[ab];exact(hle.2 _ _ a1).trans (aw x hx),fun e=>(hle.2 _ _ a1).trans (ax e)⟩
       have az:i<I.length:=(List.getElem?_eq_some_iff.1 e1).1
       rw[ah _ (by omega)]at e2
       exact(J i v v' e1 e2).mono hle
     · exact⟨aq,(U.other r1 aj).trans a2,a3.mono hle a1⟩
 · intro b ms e
   by_cases C:b=n
   · subst C;rw[Hp.jH]at e;cases e
   · rw[Hp.gP _ _ C]at e
     rw[Gm.jV _ _ _ C]
     exact H.o7 b ms e
 · intro b I m1 aa e k
   have ai:∀ms,hp aa=some (.group ms)->aa≠n:=fun ms a1 h=>by subst h;rw[hn]at a1;cases a1
   by_cases C:b=n
   · subst C;rw[Hp.jH]at e;cases e
     cases k
     obtain⟨ms,a1,a2⟩:=al
     exact⟨ms,by rw[Hp.gP _ _ (ai ms a1)];exact a1,a2⟩
   · rw[Hp.gP _ _ C]at e
     obtain⟨ms,a1,a2⟩:=H.mem b I m1 aa e k
     exact⟨ms,by rw[Hp.gP _ _ (ai ms a1)];exact a1,a2⟩
 · have key:∀b o r2,hp b=some o->g.gb b=some (rb,r2)->Sep (.cells new ⟨false,some gr,base,unit⟩:jM Tm) pos o r2:=by
    intro b o r2 e k
    obtain⟨I,m1,rfl,ay,aB,_⟩:=ag b o r2 e k
    refine .inr ⟨gr,rfl,ay,?_⟩
    show pos+m1.base=r2+base
    omega
   intro b1 b2 o1 o2 r r1 r2 jG e1 e2 R J
   by_cases ae:b1=n
   · subst ae
     rw[Hp.jH]at e1;cases e1
     rw[Gm.lQ]at R;cases R
     rw[Hp.gP _ _ (Ne.symm jG)]at e2
     rw[Gm.jV _ _ _ (Ne.symm jG)]at J
     exact key b2 o2 r2 e2 J
   · by_cases af:b2=n
     · subst af
       rw[Hp.jH]at e2;cases e2
       rw[Gm.lQ]at J;cases J
       rw[Hp.gP _ _ jG]at e1
       rw[Gm.jV _ _ _ jG]at R
       exact(key b1 o1 r1 e1 R).symm
     · rw[Hp.gP _ _ ae]at e1
       rw[Hp.gP _ _ af]at e2
       rw[Gm.jV _ _ _ ae]at R
       rw[Gm.jV _ _ _ af]at J
       exact H.sep b1 b2 o1 o2 r r1 r2 jG e1 e2 R J
 · intro b x e
   by_cases C:b=n
   · subst C;rw[Gm.lQ];simp
   · rw[Gm.jV _ _ _ C]
     exact H.room b x (by simpa[Gm.add,C]using e)
end
end Sw
namespace Sw
noncomputable section
open Go Go.RowKit
theorem fw{α β:Type}{P:Program}{m:Sem α}{f:α->Sem β}{w j:World}{a:α}(h:m.run P w=.ok a j):(m >>= f).run P w=(f a).run P j:=by
 simp[go_sem,h]
theorem U2{α:Type}{P:Program}(a:α)(w:World):(pure a:Sem α).run P w=.ok a w:=rfl
structure Ty where
 info:TypeId->Option TypeInfo
 Gn:TypeId->Bool
def Fi:Value->Bool
 |.bool _|.int _ _|.string _|.pointer none|.slice none 0 0|.map none|.nilFunc|.nilIface=>true
 |.func (.func _) x y=>x.isEmpty&&y.isEmpty
 |_=>false
def flat:Value->Bool
 |.agg cs=>cs.toList.all Fi
 |v=>Fi v
theorem fQ.Lo(g:Gm){v:Value}(h:Fi v=true):fQ g v v:=by
 unfold Fi at h
 split at h<;>first|exact .bool _|exact .int _ _|exact .string _|exact .nilPtr|exact .pW|exact .u9|exact .nilFunc|exact .nilIface|skip
 · simp at h
   obtain⟨h1,h2⟩:=h
   subst h1;subst h2
   exact .func rfl rfl (fun i v v' e=>by simp at e) (fun i v v' e=>by simp at e)
 · cases h
theorem fQ.of_flat(g:Gm){v:Value}(h:flat v=true):fQ g v v:=by
 unfold flat at h
 split at h
 · rename_i cs
   refine .agg rfl (fun i v v' e j=>?_)
   have:v=v':=by rw[e]at j;exact Option.some.inj j
   subst this
   refine fQ.Lo g ?_
   rw[List.all_eq_true]at h
   exact h v (List.mem_iff_getElem?.2 ⟨i,by simpa using e⟩)
 · exact fQ.Lo g h
structure Ty.Ok(T:Ty)(P:Program):Prop where
 info:∀t i,T.info t=some i->P.info? t=some i
 zero:∀t i z,T.info t=some i->i.zero=some z->flat z=true
 U3:∀t i z,T.info t=some i->i.zero=some z->z.cells.size=i.size
 eq:∀t,T.Gn t=true->P.stoodInHeld t=false/\P.eqGuardType P.depth t=false/\∀fs,P.underlying t=some (.struct fs)->∀f∈fs.toList,f.name≠ "_"
def Ty.ji(T:Ty)(t:TypeId):Option TypeDesc:=
 match T.info t with
 |some i=>match i.desc with
  |.named _ u=>(T.info u).map (·.desc)
  |d=>some d
 |none=>none
def Ty.size(T:Ty)(t:TypeId):Option Nat:=(T.info t).map (·.size)
def Ty.zero(T:Ty)(t:TypeId):Option Value:=(T.info t).bind (·.zero)
def WI:TypeDesc->Bool
 |.struct _|.array _ _=>true
 |_=>false
def Ty.agg(T:Ty)(t:TypeId):Option Bool:=(T.ji t).map WI
section
variable {T:Ty}{P:Program}
theorem Ty.Ok.ji(ok:T.Ok P){t:TypeId}{d:TypeDesc}(h:T.ji t=some d):P.underlying t=some d:=by
 unfold Ty.ji at h
 cases hi:T.info t with
 |none=>rw[hi]at h;cases h
 |some i=>
  rw[hi]at h
  simp only at h
  have h1:=ok.info t i hi
  unfold Program.underlying
  rw[h1]
  cases i with
  |mk desc str size bytes hp C I zero comp o=>
   simp only at h⊢
   cases desc with
   |named n u=>
    simp only at h⊢
    cases hu:T.info u with
    |none=>rw[hu]at h;cases h
    |some j=>rw[hu]at h;rw[ok.info u j hu];exact h
   |_=>exact h
theorem Ty.Ok.gS(ok:T.Ok P){t:TypeId}{d:TypeDesc}(h:T.ji t=some d)(w:World):(underlying t).run P w=.ok d w:=by
 simp[underlying,go_sem,ok.ji h]
theorem Ty.Ok.rM(ok:T.Ok P){t:TypeId}{i:TypeInfo}(h:T.info t=some i)(w:World):(typeInfo t).run P w=.ok i w:=by
 simp[typeInfo,go_sem,ok.info _ _ h]
theorem Ty.Ok.nS(ok:T.Ok P){t:TypeId}{n:Nat}(h:T.size t=some n)(w:World):(Go.sizeOf t).run P w=.ok n w:=by
 unfold Ty.size at h
 cases hi:T.info t with
 |none=>rw[hi]at h;cases h
 |some i=>rw[hi]at h;cases h;unfold Go.sizeOf;rw[fw (ok.rM hi w)];rfl
theorem Ty.Ok.pZ(ok:T.Ok P){t:TypeId}{z:Value}(h:T.zero t=some z)(w:World):(zeroValue t).run P w=.ok z w:=by
 unfold Ty.zero at h
 cases hi:T.info t with
 |none=>rw[hi]at h;cases h
 |some i=>rw[hi]at h;simp at h;unfold zeroValue;rw[fw (ok.rM hi w),h];rfl
theorem Ty.Ok.qN(ok:T.Ok P){t:TypeId}{z:Value}(h:T.zero t=some z):flat z=true:=by
 unfold Ty.zero at h
 cases hi:T.info t with
 |none=>rw[hi]at h;cases h
 |some i=>rw[hi]at h;simp at h;exact ok.zero t i z hi h
theorem Ty.Ok.Fj(ok:T.Ok P){t:TypeId}{b:Bool}(h:T.agg t=some b)(w:World):(isAgg t).run P w=.ok b w:=by
 unfold Ty.agg at h
 cases hd:T.ji t with
 |none=>rw[hd]at h;cases h
 |some d=>
  rw[hd]at h
  simp at h
  subst h
  unfold isAgg
  rw[fw (ok.gS hd w)]
  cases d<;>rfl
end
def lJ{α:Type}:Nat->List α->Option (List α)
 |0,_=>some []
 |n+1,x::xs=>(lJ n xs).map (x::·)
 |_+1,[]=>none
theorem vI{α:Type}:∀(n:Nat) (l r:List α),lJ n l=some r->r=l.take n/\n<=l.length
 |0,l,r,h=>by simp[lJ]at h;subst h;simp
 |n+1,[],r,h=>by simp[lJ]at h
 |n+1,x::xs,r,h=>by
  simp only[lJ,Option.map_eq_some_iff]at h
  obtain⟨j,h1,rfl⟩:=h
  obtain⟨rfl,h2⟩:=vI n xs j h1
  simp;omega
def kB(T:Ty)(hp:Hp)(t:TypeId)(a:Value):Option Value:=
 match a with
 |.pointer (some ⟨b,off,none⟩)=>
  match hp b with
  |some (.cells cs _)=>
   match T.agg t with
   |some true=>(T.size t).bind fun n=>(lJ n (cs.drop off)).map fun l=>.agg l.toArray
   |some false=>cs[off]?
   |none=>none
  |_=>none
 |_=>none
section
variable {B0:Nat}{w0:World}{g:Gm}{hp:Hp}{nx:Nat}{w:World}
theorem gu.uG(H:gu B0 w0 g hp nx w){b:Nat}{cs:List Value}{m:gl}(h:hp b=some (.cells cs m)){rb ro:Nat}(hb:g.gb b=some (rb,ro)):
 ∃rc el j,w.heap[rb]?=some (.cells rc el j)/\oP B0 g b (.cells cs m) rb ro (.cells rc el j):=by
 obtain⟨jq,a2,a3⟩:=(H.live b _ h).2 rb ro hb
 cases jq<;>first|exact a3.elim|skip
 exact⟨_,_,_,a2,a3⟩
theorem gu.S8(H:gu B0 w0 g hp nx w){b:Nat}{cs:List Value}{m:gl}(h:hp b=some (.cells cs m)){rb ro:Nat}(hb:g.gb b=some (rb,ro)){i:Nat}{v:Value}(j:cs[i]?=some v):
 ∃v',w.cell? ⟨rb,ro+i,none⟩=some v'/\fQ g v v':=by
 obtain⟨rc,el,C,a2,a3⟩:=H.uG h hb
 obtain⟨I,o,_⟩:=a3
 have hi:=(List.getElem?_eq_some_iff.1 j).1
 have:ro+i<rc.size:=by omega
 exact⟨rc[ro+i],by simp[World.cell?,a2],o i v _ j (by simp[this])⟩
end
theorem run_load{P:Program}{w:World}{a:Addr}{v:Value}(h:w.cell? a=some v):(load a).run P w=.ok v w:=by
 simp[load,Sem.run,h]
theorem run_loadCellsFrom{P:Program}{w:World}(a:Addr):∀(n i:Nat) (acc:Array Value) (vs:List Value),vs.length=n->(∀j v,vs[j]?=some v->w.cell? (a.add (i+j))=some v)->
 (loadCellsFrom a i n acc).run P w=.ok (acc++vs.toArray) w:=by
 intro n
 induction n with
 |zero=>intro i acc vs h _;simp at h;subst h;simp[loadCellsFrom,go_sem]
 |succ n ih=>
  intro i acc vs h hc
  cases vs with
  |nil=>simp at h
  |cons v vs=>
   have h0:=hc 0 v rfl
   simp only[Nat.add_zero]at h0
   unfold loadCellsFrom
   rw[fw (run_load h0),ih (i+1) (acc.push v) vs (by simpa using h) (fun j u hj=>by
    have:=hc (j+1) u (by simpa using hj)
    rwa[show i+1+j=i+(j+1)from by omega])]
   simp
theorem Addr.tY(b off n:Nat):(⟨b,off,none⟩:Addr).add n=⟨b,off+n,none⟩:=by
 unfold Addr.add
 split
 · rename_i h;subst h;rfl
 · rfl
section
variable {T:Ty}{P:Program}{B0:Nat}{w0:World}{g:Gm}{hp:Hp}{nx:Nat}{w:World}
theorem gu.loadCells(H:gu B0 w0 g hp nx w){b:Nat}{cs:List Value}{m:gl}(h:hp b=some (.cells cs m)){rb ro:Nat}(hb:g.gb b=some (rb,ro)){off n:Nat}{l:List Value}
 (hl:lJ n (cs.drop off)=some l):∃I,(Go.loadCells ⟨rb,ro+off,none⟩ n).run P w=.ok I.toArray w/\gX g l I:=by
 obtain⟨rfl,hn⟩:=vI _ _ _ hl
 obtain⟨rc,el,R,a2,a3⟩:=H.uG h hb
 obtain⟨U,J,_⟩:=a3
 simp at hn
 refine⟨(rc.toList.drop (ro+off)).take n,?_,?_,?_⟩
 · unfold Go.loadCells
   rw[run_loadCellsFrom _ n 0 #[] ((rc.toList.drop (ro+off)).take n)]
   · simp
   · by_cases h0:n=0
     · subst h0;simp
     · simp;omega
   · intro j v o
     rw[Addr.tY]
     rw[List.getElem?_take]at o
     split at o
     · simp at o
       simp[World.cell?,a2,o]
     · cases o
 · by_cases h0:n=0
   · subst h0;simp
   · simp;omega
 · intro i v v' e C
   rw[List.getElem?_take]at e C
   split at e
   · rename_i hi
     simp only[hi,if_true]at C
     simp at e C
     exact J (off+i) v v' e (by rw[<-Nat.add_assoc];exact C)
   · cases e
theorem FQ(ok:T.Ok P)(H:gu B0 w0 g hp nx w){t:TypeId}{a a' v:Value}(h:kB T hp t a=some v)(C:fQ g a a'):
 ∃v',(Instr.loadAt t a').run P w=.ok v' w/\fQ g v v':=by
 unfold kB at h
 split at h
 · rename_i b off
   split at h
   · rename_i cs m hb
     obtain⟨_,rb,ro,hg,rfl⟩:=C.sn
     unfold Instr.loadAt Instr.sureAddr
     rw[fw (U2 _ w)]
     unfold loadVar
     split at h
     · rename_i j
       rw[fw (ok.Fj j w)]
       simp only[if_true]
       cases hs:T.size t with
       |none=>rw[hs]at h;cases h
       |some n=>
        rw[hs]at h
        simp only[Option.bind_some,Option.map_eq_some_iff]at h
        obtain⟨l,hl,rfl⟩:=h
        obtain⟨I,h1,h2⟩:=H.loadCells (P:=P) hb hg hl
        rw[fw (ok.nS hs w),fw h1]
        refine⟨_,rfl,.agg (by simpa using h2.1) (fun i v v' e o=>h2.2 i v v' (by simpa using e) (by simpa using o))⟩
     · rename_i j
       rw[fw (ok.Fj j w)]
       obtain⟨v',h1,h2⟩:=H.S8 hb hg h
       exact⟨v',run_load h1,h2⟩
     · cases h
   · cases h
 · cases h
end
end
end Sw
namespace Sw
noncomputable section
open Go Go.RowKit
def vJ{α:Type}:List α->List α->Option (List α)
 |cs,[]=>some cs
 |_::cs,v::vs=>(vJ cs vs).map (v::·)
 |[],_::_=>none
def mo{α:Type}:List α->Nat->List α->Option (List α)
 |cs,0,vs=>vJ cs vs
 |c::cs,n+1,vs=>(mo cs n vs).map (c::·)
 |[],_+1,_=>none
theorem Ho{α:Type}:∀(cs vs r:List α),vJ cs vs=some r->vs.length<=cs.length/\r=vs++cs.drop vs.length
 |cs,[],r,h=>by cases cs<;>simp[vJ]at h<;>subst h<;>simp
 |[],_::_,r,h=>by simp[vJ]at h
 |c::cs,v::vs,r,h=>by
  simp only[vJ,Option.map_eq_some_iff]at h
  obtain⟨j,h1,rfl⟩:=h
  obtain⟨h2,rfl⟩:=Ho cs vs j h1
  simp;omega
theorem AA{α:Type}:∀(cs:List α) (n:Nat) (vs r:List α),mo cs n vs=some r->n+vs.length<=cs.length/\r=cs.take n++vs++cs.drop (n+vs.length)
 |cs,0,vs,r,h=>by
  have j:vJ cs vs=some r:=by cases cs<;>exact h
  obtain⟨h1,rfl⟩:=Ho cs vs r j
  simp[h1]
 |[],n+1,vs,r,h=>by simp[mo]at h
 |c::cs,n+1,vs,r,h=>by
  simp only[mo,Option.map_eq_some_iff]at h
  obtain⟨o,h1,rfl⟩:=h
  obtain⟨h2,rfl⟩:=AA cs n vs o h1
  constructor
  · simp;omega
  · rw[show n+1+vs.length=(n+vs.length)+1 from by omega];simp
theorem sZ.setCell{w:World}{rb k:Nat}{rc:Array Value}{el:TypeId}{j:Nat×Nat}(hw:w.heap[rb]?=some (.cells rc el j))(v:Value):
 sZ w (w.setCell ⟨rb,k,none⟩ v) rb (.cells (rc.setIfInBounds k v) el j):=by
 refine⟨rfl,rfl,rfl,by simp[World.setCell],?_,fun i hi=>?_,Nat.le_refl _⟩
 · simp[World.setCell,Array.getElem?_modify,hw]
 · simp only[World.setCell,Array.getElem?_modify]
   rw[if_neg (Ne.symm hi)]
def one:Value->Bool
 |.agg _|.tuple _=>false
 |_=>true
theorem fQ.one{g:Gm}{v v':Value}(h:fQ g v v'):Sw.one v=Sw.one v':=by cases h<;>rfl
theorem Hq{α:Type}(l:List α)(p n:Nat)(v:α)(hl:p<l.length):(l.set p v).take (p+1)=l.take p++[v]/\(l.set p v).drop (p+1+n)=l.drop (p+1+n):=by
 constructor
 · refine List.ext_getElem? fun i=>?_
   rw[List.getElem?_take,List.getElem?_append,List.getElem?_set,List.getElem?_take]
   have j:(l.take p).length=p:=by simp;omega
   rw[j]
   by_cases h1:i<p
   · rw[if_pos (by omega),if_neg (by omega),if_pos h1,if_pos h1]
   · rw[if_neg h1]
     by_cases h2:p=i
     · subst h2;simp[hl]
     · rw[if_neg (by omega)]
       rw[List.getElem?_eq_none (by simp;omega)]
 · refine List.ext_getElem? fun i=>?_
   rw[List.getElem?_drop,List.getElem?_drop,List.getElem?_set,if_neg (by omega)]
theorem run_store{P:Program}{w:World}{a:Addr}{u v:Value}(h:w.cell? a=some u)(hf:w.frozen? a=false)(j:one v=true):(store a v).run P w=.ok () (w.setCell a v):=by
 unfold store
 cases v<;>first|(simp[one]at j;done)|(simp[Sem.run,h,hf])
theorem B7{P:Program}{rb k:Nat}{el:TypeId}{o:Nat×Nat}:∀(vs:List Value) (i:Nat) (w:World) (rc:Array Value),w.heap[rb]?=some (.cells rc el o)->k+i+vs.length<=rc.size->
 (∀j,j<rc.size->¬(o.1<=j/\j<o.2))->(∀v∈vs,one v=true)->
 ∃w',(storeCells ⟨rb,k,none⟩ vs i).run P w=.ok () w'/\sZ w w' rb (.cells (rc.toList.take (k+i)++vs++rc.toList.drop (k+i+vs.length)).toArray el o)/\w'.heap.size=w.heap.size:=by
 intro vs
 induction vs with
 |nil=>
  intro i w rc hw _ _ _
  refine⟨w,rfl,⟨rfl,rfl,rfl,Nat.le_refl _,?_,fun _ _=>rfl,Nat.le_refl _⟩,rfl⟩
  simpa using hw
 |cons v vs ih=>
  intro i w rc hw hlen hf I
  simp only[List.length_cons]at hlen
  have hc:w.cell? ((⟨rb,k,none⟩:Addr).add i)=some rc[k+i]:=by
   rw[Addr.tY];simp[World.cell?,hw]
  have C:w.frozen? ((⟨rb,k,none⟩:Addr).add i)=false:=by
   rw[Addr.tY]
   have:=hf (k+i) (by omega)
   simp only[World.frozen?,hw]
   obtain⟨lo,hi⟩:=o
   simp only at this⊢
   simp;omega
  have U:=sZ.setCell (k:=k+i) hw v
  have J:(w.setCell ⟨rb,k+i,none⟩ v).heap[rb]?=some (.cells (rc.setIfInBounds (k+i) v) el o):=U.at_
  obtain⟨w',h1,h2,h3⟩:=ih (i+1) (w.setCell ⟨rb,k+i,none⟩ v) (rc.setIfInBounds (k+i) v) J (by simp;omega) (by simpa using hf) (fun x hx=>I x (List.mem_cons_of_mem _ hx))
  refine⟨w',?_,?_,by rw[h3];simp⟩
  · unfold storeCells
    rw[fw (run_store hc C (I v (List.mem_cons_self ..))),Addr.tY]
    exact h1
  · have:=U.trans h2
    have e:(List.take (k+(i+1)) (rc.setIfInBounds (k+i) v).toList++vs++List.drop (k+(i+1)+vs.length) (rc.setIfInBounds (k+i) v).toList)=(List.take (k+i) rc.toList++v::vs++List.drop (k+i+(v::vs).length) rc.toList):=by
     have hl:k+i<rc.toList.length:=by simp;omega
     obtain⟨t1,t2⟩:=Hq rc.toList (k+i) vs.length v hl
     rw[Array.toList_setIfInBounds,show k+(i+1)=k+i+1 from by omega,t1,t2]
     simp
     rw[show k+i+1+vs.length=k+i+(vs.length+1)from by omega]
    rw[e]at this
    exact this
abbrev tH:=List (Nat×Option (jM Tm))
def Hp.tI(hp:Hp)(l:tH):Hp:=l.foldl (fun h x=>h.set x.1 x.2) hp
def overlaps(b lo hi:Nat)(e:Mem):Bool:=!(Nat.beq e.gb b)&&(Nat.blt e.base hi&&Nat.blt lo (e.base+e.len))
theorem IL{b lo hi:Nat}{e:Mem}(h:overlaps b lo hi e=false)(jG:e.gb≠b):hi<=e.base\/e.base+e.len<=lo:=by
 unfold overlaps at h
 have h1:Nat.beq e.gb b=false:=by cases h2:Nat.beq e.gb b with|false=>rfl|true=>exact(jG (Nat.eq_of_beq_eq_true h2)).elim
 rw[h1]at h
 cases h2:Nat.blt e.base hi with
 |false=>exact .inl (by have:¬e.base<hi:=fun k=>by have q:=(Nat.blt_eq (x:=e.base) (y:=hi)).mpr k;rw[q]at h2;cases h2
                        omega)
 |true=>
  rw[h2]at h
  refine .inr ?_
  have:¬lo<e.base+e.len:=fun k=>by have q:=(Nat.blt_eq (x:=lo) (y:=e.base+e.len)).mpr k;rw[q]at h;cases h
  omega
def mN(ov:Mem->Bool)(ms:List Mem):tH:=(ms.filter ov).map fun e=>(e.gb,none)
section
variable {T:Ty}{P:Program}{B0:Nat}{w0:World}{g:Gm}{hp:Hp}{nx:Nat}{w:World}
theorem gu.BJ(H:gu B0 w0 g hp nx w){gr:Nat}{ms:List Mem}(C:hp gr=some (.group ms))(ov:Mem->Bool)(J:∀e∈ms,ov e=true->∀l,hp e.gb≠some (.group l))(extra:List Mem):
 gu B0 w0 g ((hp.tI (mN ov ms)).set gr (some (.group ((ms.filter fun e=>!(ov e))++extra)))) nx w/\
  (∀b o,(hp.tI (mN ov ms)) b=some o->hp b=some o/\∀e∈ms,ov e=true->e.gb≠b)/\
  (∀b,(∀e∈ms,ov e=true->e.gb≠b)->(hp.tI (mN ov ms)) b=hp b):=by
 have key:∀(l:List Mem) (fe:Hp),(∀e∈l,ov e=true->∀x,fe e.gb≠some (.group x))->gu B0 w0 g fe nx w->
  gu B0 w0 g (fe.tI (mN ov l)) nx w/\(∀b o,(fe.tI (mN ov l)) b=some o->fe b=some o/\∀e∈l,ov e=true->e.gb≠b)/\
  (∀b,(∀e∈l,ov e=true->e.gb≠b)->(fe.tI (mN ov l)) b=fe b):=by
  intro l
  induction l with
  |nil=>intro fe _ I;exact⟨I,fun b o e=>⟨e,fun _ h=>by cases h⟩,fun _ _=>rfl⟩
  |cons x l ih=>
   intro fe hg I
   by_cases hx:ov x=true
   · have e1:fe.tI (mN ov (x::l))=(fe.set x.gb none).tI (mN ov l):=by simp[mN,hx,Hp.tI]
     rw[e1]
     have R:∀e∈l,ov e=true->∀y,(fe.set x.gb none) e.gb≠some (.group y):=by
      intro e he aa y h
      by_cases U:e.gb=x.gb
      · rw[U,Hp.jH]at h;cases h
      · rw[Hp.gP _ _ U]at h;exact hg e (List.mem_cons_of_mem _ he) aa y h
     obtain⟨p,q,r⟩:=ih (fe.set x.gb none) R (I.kill x.gb (hg x (List.mem_cons_self ..) hx))
     refine⟨p,fun b o e=>?_,fun b hb=>?_⟩
     · obtain⟨a1,a2⟩:=q b o e
       have hb:b≠x.gb:=fun h=>by subst h;rw[Hp.jH]at a1;cases a1
       rw[Hp.gP _ _ hb]at a1
       refine⟨a1,fun y hy j=>?_⟩
       rcases List.mem_cons.1 hy with rfl|hy
       · exact Ne.symm hb
       · exact a2 y hy j
     · rw[r b (fun e he=>hb e (List.mem_cons_of_mem _ he)),Hp.gP _ _ (Ne.symm (hb x (List.mem_cons_self ..) hx))]
   · have e1:fe.tI (mN ov (x::l))=fe.tI (mN ov l):=by simp[mN,hx]
     rw[e1]
     obtain⟨p,q,r⟩:=ih fe (fun e he=>hg e (List.mem_cons_of_mem _ he)) I
     refine⟨p,fun b o e=>?_,fun b hb=>r b (fun e he=>hb e (List.mem_cons_of_mem _ he))⟩
     obtain⟨a1,a2⟩:=q b o e
     refine⟨a1,fun y hy j=>?_⟩
     rcases List.mem_cons.1 hy with rfl|hy
     · exact(hx j).elim
     · exact a2 y hy j
 obtain⟨p,q,r⟩:=key ms hp J H
 refine⟨?_,q,r⟩
 refine p.Ln _ (Nat.le_refl _) ((H.live _ _ C).1) (H.o7 _ _ C) ?_
 intro b cs m e k
 obtain⟨a1,a2⟩:=q b _ e
 obtain⟨ad,b1,b2⟩:=H.mem b cs m gr a1 k
 rw[C]at b1;cases b1
 rw[List.mem_append]
 refine .inl ?_
 rw[List.mem_filter]
 refine⟨b2,?_⟩
 cases ab:ov ⟨b,m.base,cs.length⟩with
 |false=>rfl
 |true=>exact(a2 _ b2 ab rfl).elim
def nT(hp:Hp)(ov:Mem->Bool)(ms:List Mem):Bool:=
 (ms.filter ov).all fun e=>match hp e.gb with|some (.group _)=>false|_=>true
theorem zu{ov:Mem->Bool}{ms:List Mem}(h:nT hp ov ms=true):∀e∈ms,ov e=true->∀l,hp e.gb≠some (.group l):=by
 intro e he j l hl
 unfold nT at h
 rw[List.all_eq_true]at h
 have:=h e (List.mem_filter.2 ⟨he,j⟩)
 rw[hl]at this
 cases this
end
def nU(hp:Hp)(b:Nat)(cs:List Value)(m:gl)(off:Nat)(vs:List Value):Option tH:=
 bif m.ro then none else
 (mo cs off vs).bind fun lv=>
   match m.mu with
   |none=>some [(b,some (.cells lv m))]
   |some gr=>match hp gr with
    |some (.group ms)=>
     bif nT hp (overlaps b (m.base+off) (m.base+off+vs.length)) ms then
      some (mN (overlaps b (m.base+off) (m.base+off+vs.length)) ms++
       [(gr,some (.group (ms.filter fun e=>!(overlaps b (m.base+off) (m.base+off+vs.length) e)))),(b,some (.cells lv m))])
     else none
    |_=>none
theorem Hp.CS(hp:Hp)(l j:tH):hp.tI (l++j)=(hp.tI l).tI j:=by simp[Hp.tI]
def uT(g:Gm)(hp:Hp)(w w':World):Prop:=
 ∀rb,rb<w.heap.size->(∀b o ro,hp b=some o->g.gb b≠some (rb,ro))->w'.heap[rb]?=w.heap[rb]?
theorem uT.refl(g:Gm)(hp:Hp)(w:World):uT g hp w w:=fun _ _ _=>rfl
section
variable {P:Program}{B0:Nat}{w0:World}{g:Gm}{hp:Hp}{nx:Nat}{w:World}
theorem vK(H:gu B0 w0 g hp nx w){b off rb ro:Nat}{cs vs o:List Value}{m:gl}{jA:tH}(hb:hp b=some (.cells cs m))(hg:g.gb b=some (rb,ro))
 (h:nU hp b cs m off vs=some jA) (an:gX g vs o) (aD:∀v∈vs,one v=true):
 ∃w',(storeCells ⟨rb,ro+off,none⟩ o).run P w=.ok () w'/\gu B0 w0 g (hp.tI jA) nx w'/\uT g hp w w'/\w'.heap.size=w.heap.size:=by
 unfold nU at h
 cases C:m.ro with
 |true=>rw[C]at h;cases h
 |false=>
  rw[C]at h
  simp only[cond_false]at h
  cases ae:mo cs off vs with
  |none=>rw[ae]at h;cases h
  |some lv=>
   rw[ae]at h
   simp only[Option.bind_some]at h
   obtain⟨s1,s2⟩:=AA _ _ _ _ ae
   obtain⟨rc,el,aN,a2,a3⟩:=H.uG hb hg
   obtain⟨aO,ax,aE,aP,_⟩:=a3
   have ah:o.length=vs.length:=an.1.symm
   have av:∀v∈o,one v=true:=by
    intro v' aw
    obtain⟨i,hi,e⟩:=List.mem_iff_getElem.1 aw
    have ag:i<vs.length:=by omega
    have:=an.2 i vs[i] o[i] (List.getElem?_eq_getElem ag) (List.getElem?_eq_getElem hi)
    rw[e]at this
    rw[<-this.one]
    exact aD _ (List.getElem_mem ag)
   obtain⟨w',r1,r2,aI⟩:=B7 (P:=P) (rb:=rb) (k:=ro+off) o 0 w rc a2 (by omega) (aE C).2.free av
   simp only[Nat.add_zero]at r2
   have af:uT g hp w w':=fun r hr hn=>by
    by_cases aj:r=rb
    · subst aj;exact(hn b _ ro hb hg).elim
    · exact r2.other r aj
   refine⟨w',r1,?_,af,aI⟩
   have aa:lv.length=cs.length:=by rw[s2];simp;omega
   have ak:(rc.toList.take (ro+off)++o++rc.toList.drop (ro+off+o.length)).toArray.size=rc.size:=by simp;omega
   have ad:∀(i:Nat) (v v':Value),lv[i]?=some v->(rc.toList.take (ro+off)++o++rc.toList.drop (ro+off+o.length)).toArray[ro+i]?=some v'->fQ g v v':=by
    intro i v v' e I
    rw[s2]at e
    have aF:(cs.take off).length=off:=by simp;omega
    have ao:(rc.toList.take (ro+off)).length=ro+off:=by simp;omega
    simp only[List.getElem?_toArray]at I
    rw[List.append_assoc,List.getElem?_append,aF]at e
    rw[List.append_assoc,List.getElem?_append,ao]at I
    by_cases h1:i<off
    · rw[if_pos h1,List.getElem?_take,if_pos h1]at e
      rw[if_pos (by omega),List.getElem?_take,if_pos (by omega)]at I
      exact ax i v v' e (by simpa using I)
    · rw[if_neg h1,List.getElem?_append]at e
      rw[if_neg (by omega),List.getElem?_append,ah,show ro+i-(ro+off)=i-off from by omega]at I
      by_cases h2:i-off<vs.length
      · rw[if_pos h2]at e I
        exact an.2 _ v v' e I
      · rw[if_neg h2,List.getElem?_drop]at e I
        refine ax i v v' ?_ ?_
        · rw[<-e];congr 1;omega
        · rw[<-I,Array.getElem?_toList];congr 1;omega
   have R:∀j,¬(ro+off<=j/\j<ro+off+vs.length)->(rc.toList.take (ro+off)++o++rc.toList.drop (ro+off+o.length)).toArray[j]?=rc[j]?:=by
    intro j hj
    have ao:(rc.toList.take (ro+off)).length=ro+off:=by simp;omega
    simp only[List.getElem?_toArray]
    rw[List.append_assoc,List.getElem?_append,ao]
    by_cases h1:j<ro+off
    · rw[if_pos h1,List.getElem?_take,if_pos h1];simp
    · rw[if_neg h1,List.getElem?_append,ah,if_neg (by omega),List.getElem?_drop,Array.getElem?_toList]
      congr 1;omega
   cases J:m.mu with
   |none=>
    rw[J]at h
    cases h
    refine H.putCells hb hg C a2 r2 ak aa ad (ro+off) (ro+off+vs.length) R ?_
    intro b1 U m1 r1 jG e1 e2
    have:=H.sep b1 b _ _ rb r1 ro jG e1 hb e2 hg
    rcases this with⟨_,x⟩|⟨gr,_,x,_⟩
    · rw[C]at x;cases x
    · rw[J]at x;cases x
   |some gr=>
    rw[J]at h
    simp only at h
    split at h
    · rename_i ms qF
      cases ab:nT hp (overlaps b (m.base+off) (m.base+off+vs.length)) ms with
      |false=>rw[ab]at h;cases h
      |true=>
       rw[ab]at h
       simp only[cond_true]at h
       cases h
       obtain⟨K,aG,aH⟩:=H.BJ qF (overlaps b (m.base+off) (m.base+off+vs.length)) (zu ab) []
       rw[List.append_nil]at K
       have ar:∀e∈ms,overlaps b (m.base+off) (m.base+off+vs.length) e=true->e.gb≠b:=fun e _ h=>by
        intro aC
        unfold overlaps at h
        rw[aC,Nat.beq_refl]at h
        cases h
       have au:b≠gr:=fun h=>by subst h;rw[hb]at qF;cases qF
       have aq:((hp.tI (mN (overlaps b (m.base+off) (m.base+off+vs.length)) ms)).set gr (some (.group (ms.filter fun e=>!(overlaps b (m.base+off) (m.base+off+vs.length) e))))) b=some (.cells cs m):=by
        rw[Hp.gP _ _ au,aH b ar];exact hb
       rw[Hp.CS]
       refine K.putCells aq hg C a2 r2 ak aa ad (ro+off) (ro+off+vs.length) R ?_
       intro b1 U m1 ay jG e1 e2
       have al:b1≠gr:=fun h=>by subst h;rw[Hp.jH]at e1;cases e1
       rw[Hp.gP _ _ al]at e1
       obtain⟨az,aJ⟩:=aG b1 _ e1
       have:=H.sep b1 b _ _ rb ay ro jG az hb e2 hg
       rcases this with⟨_,y⟩|⟨aL,aK,aA,aQ⟩
       · rw[C]at y;cases y
       · rw[J]at aA;cases aA
         obtain⟨aM,aB,z2⟩:=H.mem b1 U m1 gr az aK
         rw[qF]at aB;cases aB
         cases ai:overlaps b (m.base+off) (m.base+off+vs.length) ⟨b1,m1.base,U.length⟩with
         |true=>exact(aJ _ z2 ai rfl).elim
         |false=>
          have:=IL ai jG
          simp only at this
          omega
    · cases h
end
def wG(T:Ty)(hp:Hp)(t:TypeId)(a v:Value):Option tH:=
 match a with
 |.pointer (some ⟨b,off,none⟩)=>
  match hp b with
  |some (.cells cs m)=>
   match T.size t with
   |some n=>bif Nat.beq v.cells.toList.length n&&v.cells.toList.all one then nU hp b cs m off v.cells.toList else none
   |none=>none
  |_=>none
 |_=>none
section
variable {T:Ty}{P:Program}{B0:Nat}{w0:World}{g:Gm}{hp:Hp}{nx:Nat}{w:World}
theorem Lp(ok:T.Ok P)(H:gu B0 w0 g hp nx w){t:TypeId}{a a' v v':Value}{jA:tH}(h:wG T hp t a v=some jA)(o:fQ g a a')(C:fQ g v v'):
 ∃w',(Instr.storeAt t a' v').run P w=.ok () w'/\gu B0 w0 g (hp.tI jA) nx w'/\uT g hp w w'/\w'.heap.size=w.heap.size:=by
 unfold wG at h
 split at h
 · rename_i b off
   split at h
   · rename_i cs m hb
     obtain⟨_,rb,ro,hg,rfl⟩:=o.sn
     split at h
     · rename_i n hn
       cases hc:(Nat.beq v.cells.toList.length n&&v.cells.toList.all one)with
       |false=>rw[hc]at h;cases h
       |true=>
        rw[hc]at h
        simp only[cond_true]at h
        simp only[Bool.and_eq_true]at hc
        obtain⟨c1,c2⟩:=hc
        have c1:=Nat.eq_of_beq_eq_true c1
        rw[List.all_eq_true]at c2
        have j:=C.cells
        obtain⟨w',r1,r2⟩:=vK (P:=P) H hb hg h j c2
        refine⟨w',?_,r2⟩
        unfold Instr.storeAt Instr.sureAddr
        rw[fw (U2 _ w)]
        unfold storeVar
        rw[fw (ok.nS hn w),if_neg (by rw[<-c1,j.1];simp)]
        exact r1
     · cases h
   · cases h
 · cases h
end
end
end Sw
namespace Sw
noncomputable section
open Go Go.RowKit
structure CT(g:Gm)(hp:Hp)(n:Nat):Prop where
 gb:g.gb n=none
 room:g.room n=none
 hp:hp n=none
theorem gu.fresh{B0:Nat}{w0:World}{g:Gm}{hp:Hp}{nx:Nat}{w:World}(H:gu B0 w0 g hp nx w){n:Nat}(h:nx<=n):CT g hp n:=by
 have hb:g.gb n=none:=by
  cases e:g.gb n with
  |none=>rfl
  |some x=>have:=(H.rq n x.1 x.2 e).1;omega
 refine⟨hb,?_,?_⟩
 · cases e:g.room n with
   |none=>rfl
   |some x=>exact(H.room n x e hb).elim
 · cases e:hp n with
   |none=>rfl
   |some x=>have:=(H.live n x e).1;omega
theorem gu.An{B0:Nat}{w0:World}{g:Gm}{hp:Hp}{nx fg:Nat}{w:World}(H:gu B0 w0 g hp nx w)(h:nx<=fg):gu B0 w0 g hp fg w:=
 ⟨H.below,H.base,fun b rb ro e=>⟨by have:=(H.rq b rb ro e).1;omega,(H.rq b rb ro e).2⟩,fun b o e=>⟨by have:=(H.live b o e).1;omega,(H.live b o e).2⟩,H.o7,H.mem,H.sep,H.room⟩
theorem gu.of_heap{B0:Nat}{w0:World}{g:Gm}{hp:Hp}{nx:Nat}{w w':World}(H:gu B0 w0 g hp nx w)(h1:w'.heap=w.heap)(h2:w'.os=w.os)(h3:w'.tape=w.tape)(h4:w'.output=w.output)(j:w.drawn<=w'.drawn:=by first|exact Nat.le_refl _|exact Nat.le_succ _|exact Nat.le_add_right _ _):gu B0 w0 g hp nx w':=
 ⟨⟨⟨h2.trans H.below.b.os,h3.trans H.below.b.tape,h4.trans H.below.b.output,by rw[h1];exact H.below.b.size,fun k hk=>by rw[h1];exact H.below.b.block k hk⟩,Nat.le_trans H.below.drawn j⟩,
   by rw[h1];exact H.base,fun b rb ro e=>by rw[h1];exact H.rq b rb ro e,fun b o e=>by rw[h1];exact H.live b o e,H.o7,H.mem,H.sep,H.room⟩
def pk(g g':Gm)(w:World):Prop:=∀b rb ro,g'.gb b=some (rb,ro)->(∃j o,g.gb j=some (rb,o))\/w.heap.size<=rb
theorem pk.refl(g:Gm)(w:World):pk g g w:=fun b _ ro e=>.inl ⟨b,ro,e⟩
theorem pk.add{g:Gm}{w:World}{n rb ro:Nat}{room:Option (Nat×Nat)}(h:(∃o C,g.gb o=some (rb,C))\/w.heap.size<=rb):pk g (g.add n (rb,ro) room) w:=by
 intro b I j e
 by_cases hb:b=n
 · subst hb;rw[Gm.lQ]at e;cases e;exact h
 · rw[Gm.jV _ _ _ hb]at e;exact .inl ⟨b,j,e⟩
theorem pk.new{g:Gm}{w:World}{n ro:Nat}{room:Option (Nat×Nat)}:pk g (g.add n (w.heap.size,ro) room) w:=pk.add (.inr (Nat.le_refl _))
structure X2(B0:Nat)(w0:World)(g:Gm)(hp:Hp)(n k fg:Nat)(w:World)(r:Result Value)(v:Value)(jA:tH)(g':Gm)(v':Value)(w':World):Prop where
 run:r=.ok v' w'
 le:g.le g'
 new:∀b,g'.gb b≠none->g.gb b≠none\/(n<=b/\b<n+k)
 val:fQ g' v v'
 rel:gu B0 w0 g' (hp.tI jA) fg w'
 keeps:uT g hp w w'
 size:w.heap.size<=w'.heap.size
 held:pk g g' w
abbrev pR:=Value×tH×Nat
def iC(B0:Nat)(w0:World)(g:Gm)(hp:Hp)(nx n:Nat)(w:World)(r:Result Value)(e:pR):Prop:=
 ∀fg,nx<=fg->n+e.2.2<=fg->(∀i,i<e.2.2->CT g hp (n+i))->∃g' v' w',X2 B0 w0 g hp n e.2.2 fg w r e.1 e.2.1 g' v' w'
section
variable {T:Ty}{P:Program}{B0:Nat}{w0:World}{g:Gm}{hp:Hp}{nx n:Nat}{w:World}
theorem iC.pure(H:gu B0 w0 g hp nx w){r:Result Value}{v v':Value}(hr:r=.ok v' w)(j:fQ g v v'):iC B0 w0 g hp nx n w r (v,[],0):=
 fun _ h1 _ _=>⟨g,v',w,hr,Gm.le_refl g,fun _ h=>.inl h,j,H.An h1,uT.refl _ _ _,Nat.le_refl _,pk.refl _ _⟩
theorem run_newObj(o:Obj)(w:World):(newObj o).run P w=.ok w.heap.size (w.alloc o):=rfl
theorem s4(e:TypeId)(c:Array Value)(w:World):(newRow e c).run P w=.ok ⟨w.heap.size,0,none⟩ (w.alloc (.cells c e)):=by
 unfold newRow
 rw[fw (run_newObj _ w)];rfl
theorem uT.alloc(g:Gm)(hp:Hp)(w:World)(o:Obj):uT g hp w (w.alloc o):=fun rb h _=>(sZ.alloc w o).other rb (by omega)
theorem gu.ml(H:gu B0 w0 g hp nx w)(hf:CT g hp n){fg:Nat}(h1:nx<=fg)(h2:n<fg){cs lv:List Value}(hc:gX g cs lv)(el:TypeId):
 gu B0 w0 (g.add n (w.heap.size,0) none) (hp.set n (some (.cells cs gl.plain))) fg (w.alloc (.cells lv.toArray el)):=by
 refine H.alloc hf.gb hf.room hf.hp h1 h2 _ _ none rfl ?_ (fun cs m gr e k=>by cases e;cases k)
 refine⟨by simp[hc.1],fun i v v' e j=>?_,fun _=>⟨H.base,.inl rfl⟩,fun gr e=>by(cases e),fun _=>Gm.sx _ _ _ _⟩
 exact(hc.2 i v v' e (by simpa using j)).mono (Gm.qM hf.gb _ _)
theorem Gm.B8{x:Nat×Nat}{room:Option (Nat×Nat)}:∀b,(g.add n x room).gb b≠none->g.gb b≠none\/(n<=b/\b<n+1):=by
 intro b h
 by_cases hb:b=n
 · exact .inr ⟨by omega,by omega⟩
 · rw[Gm.jV _ _ _ hb]at h;exact .inl h
def eNew(n:Nat)(cs:List Value):pR:=(.pointer (some ⟨n,0,none⟩),[(n,some (.cells cs gl.plain))],1)
theorem Hr(H:gu B0 w0 g hp nx w){cs lv:List Value}(hc:gX g cs lv)(el:TypeId){r:Result Value}(hr:r=.ok (.pointer (some ⟨w.heap.size,0,none⟩)) (w.alloc (.cells lv.toArray el))):
 iC B0 w0 g hp nx n w r (eNew n cs):=by
 intro fg h1 h2 hf
 have hf:=hf 0 (by simp[eNew])
 simp only[Nat.add_zero]at hf
 exact⟨g.add n (w.heap.size,0) none,_,_,hr,Gm.qM hf.gb _ _,Gm.B8,.ptr (Gm.lQ _ _ _ _),H.ml hf h1 (by simp[eNew]at h2;omega) hc el,uT.alloc _ _ _ _,by simp,pk.new⟩
theorem Pl(H:gu B0 w0 g hp nx w){el:TypeId}{v v':Value}(j:fQ g v v'):iC B0 w0 g hp nx n w ((Instr.box el v').run P w) (eNew n v.cells.toList):=by
 refine Hr H j.cells el ?_
 unfold Instr.box newVar
 rw[fw (s4 _ _ _)]
 simp
theorem Lq(ok:T.Ok P)(H:gu B0 w0 g hp nx w){el:TypeId}{z:Value}(j:T.zero el=some z):iC B0 w0 g hp nx n w ((Instr.alloc el true (.tuple #[])).run P w) (eNew n z.cells.toList):=by
 refine Hr H (fQ.of_flat g (ok.qN j)).cells el ?_
 unfold Instr.alloc
 rw[fw (ok.pZ j w)]
 simp only
 unfold newVar
 rw[fw (s4 _ _ _)]
 simp
def CU(place:Nat->Option (Nat×Nat))(cells:List Value):List (Nat×Value)->Option (List Value)
 |[]=>some cells
 |(i,v)::rest=>
  match place i with
  |none=>none
  |some (off,size)=>bif Nat.beq v.cells.toList.length size then(mo cells off v.cells.toList).bind fun c=>CU place c rest else none
theorem QS{α:Type}(off:Nat):∀(vs:List α) (k:Nat) (cells:Array α),off+k+vs.length<=cells.size->
 ((vs.zipIdx k).foldl (fun cs (x:α×Nat)=>cs.setIfInBounds (off+x.2) x.1) cells).toList=cells.toList.take (off+k)++vs++cells.toList.drop (off+k+vs.length):=by
 intro vs
 induction vs with
 |nil=>intro k cells _;simp
 |cons v vs ih=>
  intro k cells h
  simp only[List.length_cons]at h
  simp only[List.zipIdx_cons,List.foldl_cons]
  rw[ih (k+1) _ (by simp;omega)]
  obtain⟨t1,t2⟩:=Hq cells.toList (off+k) vs.length v (by simp;omega)
  rw[Array.toList_setIfInBounds,show off+(k+1)=off+k+1 from by omega,t1,t2]
  simp
  rw[show off+k+1+vs.length=off+k+(vs.length+1)from by omega]
def CV(g:Gm)(x x':List (Nat×Value)):Prop:=x.length=x'.length/\∀(i:Nat) (p j:Nat×Value),x[i]?=some p->x'[i]?=some j->p.1=j.1/\fQ g p.2 j.2
theorem CW{place:Nat->Option (Nat×Nat)}:∀(ps o:List (Nat×Value)) (cs lv r:List Value),CV g ps o->gX g cs lv->CU place cs ps=some r->
 ∃R,Instr.fill place lv.toArray o=some R.toArray/\gX g r R:=by
 intro ps
 induction ps with
 |nil=>
  intro o cs lv r hp hc h
  cases o with
  |nil=>simp[CU]at h;subst h;exact⟨lv,rfl,hc⟩
  |cons _ _=>have:=hp.1;simp at this
 |cons p ps ih=>
  intro o cs lv r hp hc h
  cases o with
  |nil=>have:=hp.1;simp at this
  |cons ah o=>
   obtain⟨i,v⟩:=p
   obtain⟨ak,v'⟩:=ah
   obtain⟨rfl,af⟩:=hp.2 0 _ _ rfl rfl
   have ae:CV g ps o:=⟨by have:=hp.1;simpa using this,fun j q ai e ag=>hp.2 (j+1) q ai (by simpa using e) (by simpa using ag)⟩
   simp only at af
   simp only[CU]at h
   cases I:place i with
   |none=>rw[I]at h;cases h
   |some x=>
    obtain⟨off,size⟩:=x
    rw[I]at h
    simp only at h
    cases C:Nat.beq v.cells.toList.length size with
    |false=>rw[C]at h;cases h
    |true=>
     rw[C]at h
     simp only[cond_true]at h
     have C:=Nat.eq_of_beq_eq_true C
     cases J:mo cs off v.cells.toList with
     |none=>rw[J]at h;cases h
     |some c=>
      rw[J]at h
      simp only[Option.bind_some]at h
      obtain⟨s1,s2⟩:=AA _ _ _ _ J
      have U:=af.cells
      have ab:v'.cells.size=size:=by have:=U.1;simp at this C;omega
      have aj:=hc.1
      have ad:v.cells.size=size:=by simpa using C
      simp only[Array.length_toList]at s1
      have aa:gX g c ((v'.cells.zipIdx.foldl (fun cs (x:Value×Nat)=>cs.setIfInBounds (off+x.2) x.1) lv.toArray).toList):=by
       rw[<-Array.foldl_toList,Array.toList_zipIdx,QS off v'.cells.toList 0 lv.toArray (by simp;omega),s2]
       simp only[Nat.add_zero,Array.length_toList]
       rw[ad,ab]
       exact((hc.take off).append U).append (hc.drop _)
      obtain⟨R,h1,h2⟩:=ih o c _ r ae aa h
      refine⟨R,?_,h2⟩
      simp only[Instr.fill,I]
      rw[if_neg (by simp;omega)]
      simpa using h1
end
end
end Sw
namespace Sw
noncomputable section
open Go Go.RowKit
def Ty.B9(T:Ty):Prop:=∀t fs,T.ji t=some (.struct fs)->∀f∈fs.toList,∃n,T.size f.type=some n
section
variable {T:Ty}{P:Program}{B0:Nat}{w0:World}{g:Gm}{hp:Hp}{nx n:Nat}{w:World}
def Lr(T:Ty)(fs:Array Field)(i:Nat):Option (Nat×Nat):=(fs[i]?).bind fun f=>(T.size f.type).map fun s=>(f.offset,s)
theorem run_places(ok:T.Ok P)(fs:List Field)(h:∀f∈fs,∃n,T.size f.type=some n)(w:World):
 (fs.mapM (m:=Sem) fun f=>do pure (f.offset,<-Go.sizeOf f.type)).run P w=.ok (fs.map fun f=>(f.offset,(T.size f.type).getD 0)) w:=by
 induction fs with
 |nil=>rfl
 |cons f fs ih=>
  obtain⟨s,hs⟩:=h f (List.mem_cons_self ..)
  rw[List.mapM_cons]
  have h1:(do pure (f.offset,<-Go.sizeOf f.type):Sem (Nat×Nat)).run P w=.ok (f.offset,s) w:=by rw[fw (ok.nS hs w)];rfl
  rw[fw h1,fw (ih fun f hf=>h f (List.mem_cons_of_mem _ hf))]
  simp[hs]
def Ls(T:Ty)(t:TypeId)(parts:List (Nat×Value)):Option Value:=
 match T.zero t,T.ji t with
 |some z,some (.struct fs)=>(CU (Lr T fs) z.cells.toList parts).map fun c=>.agg c.toArray
 |some z,some (.array _ el)=>(T.size el).bind fun s=>(CU (fun i=>some (i*s,s)) z.cells.toList parts).map fun c=>.agg c.toArray
 |_,_=>none
theorem gX.S9{c j:List Value}(h:gX g c j):fQ g (.agg c.toArray) (.agg j.toArray):=
 .agg (by simpa using h.1) (fun i v v' e o=>h.2 i v v' (by simpa using e) (by simpa using o))
theorem Lt(ok:T.Ok P)(cl:T.B9)(H:gu B0 w0 g hp nx w){t:TypeId}{ps j:List (Nat×Value)}{v:Value}(h:Ls T t ps=some v)(fe:CV g ps j):
 iC B0 w0 g hp nx n w ((Instr.build t j.toArray).run P w) (v,[],0):=by
 unfold Ls at h
 split at h
 · rename_i z fs o hu
   simp only[Option.map_eq_some_iff]at h
   obtain⟨c,hc,rfl⟩:=h
   obtain⟨C,h1,h2⟩:=CW ps j z.cells.toList z.cells.toList c fe (fQ.of_flat g (ok.qN o)).cells hc
   refine iC.pure H (v':=.agg C.toArray) ?_ h2.S9
   unfold Instr.build
   rw[fw (ok.pZ o w),fw (ok.gS hu w)]
   simp only
   have hm:(fs.mapM (m:=Sem) fun f=>do pure (f.offset,<-Go.sizeOf f.type)).run P w=.ok ((fs.toList.map fun f=>(f.offset,(T.size f.type).getD 0)).toArray) w:=by
    rw[Array.mapM_eq_mapM_toList]
    rw[Sem.run_map,run_places ok fs.toList (cl t fs hu)]
    rfl
   rw[fw hm]
   have e:((fun(x:Nat)=>((fs.toList.map fun f=>(f.offset,(T.size f.type).getD 0)).toArray)[x]?))=Lr T fs:=by
    funext i
    unfold Lr
    simp only[List.getElem?_toArray,List.getElem?_map,Array.getElem?_toList]
    cases hf:fs[i]? with
    |none=>rfl
    |some f=>
     obtain⟨s,hs⟩:=cl t fs hu f (List.mem_iff_getElem?.2 ⟨i,by simpa using hf⟩)
     simp[hs]
   rw[e]
   simp only[Array.toArray_toList]at h1
   simp only[h1]
   rfl
 · rename_i z m el o hu
   cases hs:T.size el with
   |none=>rw[hs]at h;cases h
   |some s=>
    rw[hs]at h
    simp only[Option.bind_some,Option.map_eq_some_iff]at h
    obtain⟨c,hc,rfl⟩:=h
    obtain⟨C,h1,h2⟩:=CW ps j z.cells.toList z.cells.toList c fe (fQ.of_flat g (ok.qN o)).cells hc
    refine iC.pure H (v':=.agg C.toArray) ?_ h2.S9
    unfold Instr.build
    rw[fw (ok.pZ o w),fw (ok.gS hu w)]
    simp only
    rw[fw (ok.nS hs w)]
    simp only[Array.toArray_toList]at h1
    simp only[h1]
    rfl
 · cases h
def kC{α:Type}:Nat->List α->List α
 |0,_=>[]
 |n+1,z=>z++kC n z
theorem B_(z:Array Value)(m:Nat):((Array.range (m*z.size)).map (fun i=>z[i%z.size]!)).toList=kC m z.toList:=by
 induction m with
 |zero=>simp[kC]
 |succ m ih=>
  rw[Array.toList_map,Array.toList_range]at ih⊢
  have e:(m+1)*z.size=z.size+m*z.size:=by rw[Nat.succ_mul];omega
  rw[e,List.range_add,List.map_append,List.map_map]
  unfold kC
  congr 1
  · refine List.ext_getElem? fun i=>?_
    simp only[List.getElem?_map]
    by_cases hi:i<z.size
    · rw[List.getElem?_range hi]
      simp[Nat.mod_eq_of_lt hi,hi]
    · rw[List.getElem?_eq_none (by simp;omega),List.getElem?_eq_none (by simp;omega)];rfl
  · rw[<-ih]
    refine List.map_congr_left fun i _=>?_
    simp
theorem gX.Bj{z:Value}(h:flat z=true):gX g z.cells.toList z.cells.toList:=(fQ.of_flat g h).cells
theorem gX.kC{z j:List Value}(h:gX g z j):∀m,gX g (kC m z) (Sw.kC m j)
 |0=>gX.nil g
 |m+1=>h.append (gX.kC h m)
def vd(n:Nat)(cs:List Value)(len cap:Nat):pR:=(.slice (some ⟨n,0,none⟩) len cap,[(n,some (.cells cs gl.plain))],1)
theorem Bk(H:gu B0 w0 g hp nx w){cs lv:List Value}(hc:gX g cs lv){len cap:Nat}(hl:len<=cap)(el:TypeId){r:Result Value}
 (hr:r=.ok (.slice (some ⟨w.heap.size,0,none⟩) len cap) (w.alloc (.cells lv.toArray el))):iC B0 w0 g hp nx n w r (vd n cs len cap):=by
 intro fg h1 h2 hf
 have hf:=hf 0 (by simp[vd])
 simp only[Nat.add_zero]at hf
 refine⟨g.add n (w.heap.size,0) none,_,_,hr,Gm.qM hf.gb _ _,Gm.B8,?_,H.ml hf h1 (by simp[vd]at h2;omega) hc el,uT.alloc _ _ _ _,by simp,pk.new⟩
 exact .slice (off:=0) (Gm.lQ _ _ _ _) hl (.inl rfl)
def qH(T:Ty)(t:TypeId)(len:Nat)(parts:List (Nat×Value))(n:Nat):Option pR:=
 match T.ji t with
 |some (.slice el)=>match T.size el,T.zero el with
  |some s,some z=>bif Nat.ble (len*s) 16777216&&Nat.beq z.cells.toList.length s then(CU (fun i=>some (i*s,s)) (kC len z.cells.toList) parts).map fun c=>vd n c len len else none
  |_,_=>none
 |_=>none
theorem FG(ok:T.Ok P)(H:gu B0 w0 g hp nx w){t:TypeId}{len:Nat}{ps o:List (Nat×Value)}{e:pR}(h:qH T t len ps n=some e)(fe:CV g ps o):
 iC B0 w0 g hp nx n w ((Instr.buildSlice t len o.toArray).run P w) e:=by
 unfold qH at h
 split at h
 · rename_i el hu
   split at h
   · rename_i s z hs J
     cases hb:(Nat.ble (len*s) 16777216&&Nat.beq z.cells.toList.length s)with
     |false=>rw[hb]at h;cases h
     |true=>
      rw[hb]at h
      simp only[cond_true,Option.map_eq_some_iff]at h
      obtain⟨c,hc,rfl⟩:=h
      rw[Bool.and_eq_true]at hb
      obtain⟨b1,b2⟩:=hb
      have b1:=Nat.le_of_ble_eq_true b1
      have b2:=Nat.eq_of_beq_eq_true b2
      have I:z.cells.size=s:=by simpa using b2
      have Bl:=gX.Bj (g:=g) (ok.qN J)
      have key:∀z0:Array Value,z0=(if len*s=0 then #[]else z.cells)->((Array.range (len*s)).map (fun i=>z0[i%z0.size]!)).toList=kC len z.cells.toList:=by
       intro z0 e0
       by_cases h0:len*s=0
       · rw[h0,show(Array.range 0)=#[]from rfl]
         simp only[List.map_toArray,List.map_nil]
         rcases Nat.mul_eq_zero.1 h0 with h1|h1
         · subst h1;rfl
         · have:z.cells.toList=[]:=by rw[<-List.length_eq_zero_iff];omega
           rw[this]
           clear h0 hc
           have:∀m,kC m ([]:List Value)=[]:=fun m=>by induction m with
            |zero=>rfl
            |succ m ih=>simpa[kC]using ih
           rw[this]
       · rw[if_neg h0]at e0
         subst e0
         rw[<-I]
         exact B_ z.cells len
      obtain⟨R,h1,h2⟩:=CW ps o _ _ c fe (Bl.kC len) hc
      refine Bk H h2 (Nat.le_refl _) el ?_
      unfold Instr.buildSlice
      rw[fw (ok.gS hu w)]
      simp only
      rw[fw (ok.nS hs w),if_neg (by omega)]
      have C:=key _ rfl
      by_cases h0:len*s=0
      · rw[if_pos h0]at C⊢
        have j:(Array.range (len*s)).map (fun i=>(#[]:Array Value)[i%(#[]:Array Value).size]!)=(kC len z.cells.toList).toArray:=by rw[<-C]
        rw[pure_bind,j,h1]
        rw[fw (s4 _ _ _)]
        rfl
      · rw[if_neg h0]at C⊢
        have j:(Array.range (len*s)).map (fun i=>z.cells[i%z.cells.size]!)=(kC len z.cells.toList).toArray:=by rw[<-C]
        rw[fw (ok.pZ J w),pure_bind,j,h1]
        rw[fw (s4 _ _ _)]
        rfl
   · cases h
 · cases h
theorem IN{b off rb ro k:Nat}(h:g.gb b=some (rb,ro)):fQ g (.pointer (some ⟨b,off+k,none⟩)) (.pointer (some ((⟨rb,ro+off,none⟩:Addr).add k))):=by
 rw[Addr.tY,Nat.add_assoc]
 exact .ptr h
def CX(T:Ty)(s:TypeId)(a:Value)(f:Nat):Option Value:=
 match a,T.ji s with
 |.pointer (some ⟨b,off,none⟩),some (.struct fs)=>match fs[f]? with
  |some fd=>match T.size fd.type with
   |some (_+1)=>some (.pointer (some ⟨b,off+fd.offset,none⟩))
   |_=>none
  |none=>none
 |_,_=>none
theorem Gp(ok:T.Ok P)(H:gu B0 w0 g hp nx w){s:TypeId}{a a' v:Value}{f:Nat}(h:CX T s a f=some v)(j:fQ g a a'):iC B0 w0 g hp nx n w ((Instr.fieldAt s a' f).run P w) (v,[],0):=by
 unfold CX at h
 split at h
 · rename_i b off fs hu
   split at h
   · rename_i fd hf
     split at h
     · rename_i k hs
       cases h
       obtain⟨_,rb,ro,hg,rfl⟩:=j.sn
       refine iC.pure H ?_ (IN hg)
       unfold Instr.fieldAt
       rw[fw (ok.gS hu w)]
       simp only[hf]
       unfold Instr.sureAddr
       rw[pure_bind]
       unfold fieldPlace
       rw[bind_assoc,fw (ok.nS hs w),if_neg (by omega)]
       rfl
     · cases h
   · cases h
 · cases h
def uH(i:Int)(len:Nat):Bool:=
 match i with
 |.ofNat k=>Nat.blt k len
 |.negSucc _=>false
theorem AB{i:Int}{len:Nat}(h:uH i len=true):0<=i/\i<len:=by
 unfold uH at h
 split at h
 · have:=(Nat.blt_eq ..).mp h
   rename_i k
   show(0:Int)<=(k:Int)/\(k:Int)<len
   omega
 · cases h
def lh(T:Ty)(t:TypeId)(x i:Value):Option Value:=
 match T.ji t,x,i with
 |some (.array len el),.pointer (some ⟨b,off,none⟩),.int _ k=>bif uH k len then(T.size el).map fun s=>.pointer (some ⟨b,off+k.toNat*s,none⟩)else none
 |some (.slice el),.slice (some ⟨b,off,none⟩) len _,.int _ k=>bif uH k len then(T.size el).map fun s=>.pointer (some ⟨b,off+k.toNat*s,none⟩)else none
 |_,_,_=>none
theorem Gq(ok:T.Ok P)(H:gu B0 w0 g hp nx w){t:TypeId}{x x' i j v:Value}(h:lh T t x i=some v)(hx:fQ g x x')(hi:fQ g i j):
 iC B0 w0 g hp nx n w ((Instr.indexAt t x' j).run P w) (v,[],0):=by
 unfold lh at h
 split at h
 · rename_i len el b off o k hu
   obtain rfl:=hi.kQ
   cases hr:uH k len with
   |false=>rw[hr]at h;cases h
   |true=>
    rw[hr]at h
    simp only[cond_true,Option.map_eq_some_iff]at h
    obtain⟨s,hs,rfl⟩:=h
    obtain⟨_,rb,ro,hg,rfl⟩:=hx.sn
    have hr:=AB hr
    refine iC.pure H ?_ (IN hg)
    unfold Instr.indexAt asIntOf
    rw[pure_bind,fw (ok.gS hu w)]
    simp only[Instr.sureAddr,pure_bind]
    rw[fw (ok.gS hu w)]
    rw[if_pos hr]
    rw[fw (ok.nS hs w)]
    rfl
 · rename_i el b off len cap o k hu
   obtain rfl:=hi.kQ
   cases hr:uH k len with
   |false=>rw[hr]at h;cases h
   |true=>
    rw[hr]at h
    simp only[cond_true,Option.map_eq_some_iff]at h
    obtain⟨s,hs,rfl⟩:=h
    have hr:=AB hr
    rcases hx.mK with⟨a2,rfl,_⟩|⟨_,rb,ro,c2,hg,_,_,rfl⟩
    · omega
    · refine iC.pure H ?_ (IN hg)
      unfold Instr.indexAt asIntOf
      rw[pure_bind,fw (ok.gS hu w)]
      simp only[pure_bind]
      rw[fw (ok.gS hu w)]
      rw[if_pos hr]
      rw[fw (ok.nS hs w)]
      rfl
 · cases h
end
end
end Sw
namespace Sw
noncomputable section
open Go Go.RowKit
section
variable {T:Ty}{P:Program}{B0:Nat}{w0:World}{g:Gm}{hp:Hp}{nx n:Nat}{w:World}
def xE(T:Ty)(t:TypeId)(cs:List Value)(off:Nat):Option Value:=
 match T.agg t with
 |some true=>(T.size t).bind fun k=>(lJ k (cs.drop off)).map fun l=>.agg l.toArray
 |some false=>cs[off]?
 |none=>none
theorem tq(ok:T.Ok P){t:TypeId}{cs lv:Array Value}{off:Nat}{v:Value}(h:xE T t cs.toList off=some v)(hc:r5 g cs lv)(w:World):
 ∃v',(part t lv off).run P w=.ok v' w/\fQ g v v':=by
 unfold xE at h
 split at h
 · rename_i j
   cases hs:T.size t with
   |none=>rw[hs]at h;cases h
   |some k=>
    rw[hs]at h
    simp only[Option.bind_some,Option.map_eq_some_iff]at h
    obtain⟨l,hl,rfl⟩:=h
    obtain⟨rfl,hk⟩:=vI _ _ _ hl
    refine⟨.agg (lv.extract off (off+k)),?_,?_⟩
    · unfold part
      rw[fw (ok.Fj j w),if_pos rfl,fw (ok.nS hs w)]
      rfl
    · have:lv.extract off (off+k)=(List.take k (List.drop off lv.toList)).toArray:=by
       rw[<-Array.toArray_toList (xs:=lv.extract off (off+k)),Array.toList_extract]
       simp[List.extract_eq_take_drop]
      rw[this]
      exact((hc.toList.drop off).take k).S9
 · rename_i j
   obtain⟨v',h1,h2⟩:=hc.toList.get h
   refine⟨v',?_,h2⟩
   unfold part
   rw[fw (ok.Fj j w),if_neg (by simp)]
   have:lv[off]?=some v':=by simpa using h1
   simp only[this]
   rfl
 · cases h
def Lu(T:Ty)(s:TypeId)(x:Value)(f:Nat):Option Value:=
 match x,T.ji s with
 |.agg cs,some (.struct fs)=>(fs[f]?).bind fun fd=>xE T fd.type cs.toList fd.offset
 |_,_=>none
theorem Lv(ok:T.Ok P)(H:gu B0 w0 g hp nx w){s:TypeId}{x x' v:Value}{f:Nat}(h:Lu T s x f=some v)(hx:fQ g x x'):iC B0 w0 g hp nx n w ((Instr.field s x' f).run P w) (v,[],0):=by
 unfold Lu at h
 split at h
 · rename_i cs fs hu
   cases hf:fs[f]? with
   |none=>rw[hf]at h;cases h
   |some fd=>
    rw[hf]at h
    obtain⟨lv,rfl,hc⟩:=hx.sR
    obtain⟨v',h1,h2⟩:=tq ok h hc w
    refine iC.pure H ?_ h2
    unfold Instr.field
    rw[fw (ok.gS hu w)]
    simp only[hf,asAgg,pure_bind]
    exact h1
 · cases h
def Lw(s:ByteArray)(k:Nat):Option UInt8:=s.data.toList[k]?
def wH(T:Ty)(t:TypeId)(x i:Value):Option Value:=
 match T.ji t,x,i with
 |some (.array len el),.agg cs,.int _ k=>bif uH k len then(T.size el).bind fun s=>xE T el cs.toList (k.toNat*s)else none
 |some .string,.string s,.int _ k=>match k with
  |.ofNat j=>(Lw s j).map fun b=>.int .u8 b.toNat
  |.negSucc _=>none
 |_,_,_=>none
theorem Lx(ok:T.Ok P)(H:gu B0 w0 g hp nx w){t:TypeId}{x x' i I v:Value}(h:wH T t x i=some v)(hx:fQ g x x')(hi:fQ g i I):iC B0 w0 g hp nx n w ((Instr.index t x' I).run P w) (v,[],0):=by
 unfold wH at h
 split at h
 · rename_i len el cs J k hu
   obtain rfl:=hi.kQ
   cases hr:uH k len with
   |false=>rw[hr]at h;cases h
   |true=>
    rw[hr]at h
    simp only[cond_true]at h
    cases hs:T.size el with
    |none=>rw[hs]at h;cases h
    |some s=>
     rw[hs]at h
     obtain⟨lv,rfl,hc⟩:=hx.sR
     obtain⟨v',h1,h2⟩:=tq ok h hc w
     refine iC.pure H ?_ h2
     unfold Instr.index asIntOf
     rw[pure_bind,fw (ok.gS hu w)]
     simp only
     rw[if_pos (AB hr),fw (ok.nS hs w)]
     exact h1
 · rename_i s J k hu
   obtain rfl:=hi.kQ
   obtain rfl:=hx.kS
   split at h
   · rename_i j
     simp only[Option.map_eq_some_iff]at h
     obtain⟨b,hb,rfl⟩:=h
     refine iC.pure H ?_ (.int _ _)
     unfold Instr.index asIntOf
     rw[pure_bind,fw (ok.gS hu w)]
     have C:s[(Int.ofNat j).toNat]?=some b:=by
      unfold Lw at hb
      rw[Array.getElem?_toList]at hb
      have jz:=sf hb
      have:s[(Int.ofNat j).toNat]?=s.data[j]?:=by
       show(if h:j<s.size then some s[j]else none)=_
       have o:j<s.size:=jz
       rw[dif_pos o,Array.getElem?_eq_getElem jz]
       rfl
      rw[this];exact hb
     have h0:(0:Int)<=Int.ofNat j:=Int.natCast_nonneg j
     simp only[if_pos h0,C]
     rfl
   · cases h
 · cases h
def xf(v:Value)(y:Nat):Option Nat:=
 match v with
 |.int _ (.ofNat k)=>bif Nat.ble k y then some k else none
 |_=>none
theorem wS{v v':Value}{y k y':Nat}(h:xf v y=some k)(o:fQ g v v')(hy:y<=y')(code:BoundsCode)(w:World):(Instr.sliceBound v' y' code).run P w=.ok k w/\k<=y:=by
 unfold xf at h
 split at h
 · rename_i C j
   obtain rfl:=o.kQ
   cases hb:Nat.ble j y with
   |false=>rw[hb]at h;cases h
   |true=>
    rw[hb]at h
    simp only[cond_true]at h
    cases h
    have hb:=Nat.le_of_ble_eq_true hb
    refine⟨?_,hb⟩
    unfold Instr.sliceBound asIntOf
    rw[pure_bind]
    simp only
    have c:0<=Int.ofNat k/\Int.ofNat k<=(y':Int):=⟨Int.natCast_nonneg _,by show(k:Int)<=y';omega⟩
    rw[if_pos c]
    rfl
 · cases h
def IP(lo:Option Value)(y:Nat):Option Nat:=
 match lo with
 |none=>some 0
 |some l=>xf l y
def vM(len cap:Nat)(lo hi j:Option Value):Option (Nat×Nat×Nat):=
 match j,hi with
 |none,none=>(IP lo len).map fun l=>(l,len,cap)
 |none,some h=>(xf h cap).bind fun h=>(IP lo h).map fun l=>(l,h,cap)
 |some m,some h=>(xf m cap).bind fun m=>(xf h m).bind fun h=>(IP lo h).map fun l=>(l,h,m)
 |some _,none=>none
def BK(g:Gm)(x x':Option Value):Prop:=
 match x,x' with
 |none,none=>True
 |some v,some v'=>fQ g v v'
 |_,_=>False
theorem vN{lo j:Option Value}{y r:Nat}(e:IP lo y=some r)(rl:BK g lo j)(code:BoundsCode)(K:Nat->Nat×Nat×Nat)(w:World):
 (match (generalizing:=false) j with|some v=>do let l<-Instr.sliceBound v y code;pure (K l)|none=>pure (K 0):Sem (Nat×Nat×Nat)).run P w=.ok (K r) w/\r<=y:=by
 cases lo<;>cases j<;>first|exact rl.elim|skip
 · cases e;exact⟨rfl,Nat.zero_le _⟩
 · obtain⟨h1,h2⟩:=wS (P:=P) e rl (Nat.le_refl y) code w
   exact⟨by simp only;rw[fw h1];rfl,h2⟩
theorem wU{len cap j:Nat}{lo hi U ab o C:Option Value}{l h m:Nat}(e:vM len cap lo hi U=some (l,h,m))(rl:BK g lo ab)(R:BK g hi o)(aa:BK g U C)
 (hlen:len<=cap) (I:cap<=j) (isSlice:Bool) (w:World):
 ∃ad,(Instr.sliceBounds isSlice len j ab o C).run P w=.ok (l,h,ad) w/\l<=h/\h<=m/\m<=cap/\((ad=m/\U.isSome)\/(U=none/\m=cap/\ad=j)):=by
 unfold vM at e
 split at e
 · cases C with
   |some _=>exact aa.elim
   |none=>
    cases o with
    |some _=>exact R.elim
    |none=>
     obtain⟨a,e2,e3⟩:=Option.map_eq_some_iff.1 e
     cases e3
     have J:=(vN (P:=P) e2 rl .sliceB (fun l=>(l,len,j)) w).2
     refine⟨j,?_,J,hlen,Nat.le_refl _,.inr ⟨rfl,rfl,rfl⟩⟩
     unfold Instr.sliceBounds
     simp only[pure_bind]
     exact(vN (P:=P) e2 rl _ (fun l=>(l,len,j)) w).1
 · rename_i af
   cases C with
   |some _=>exact aa.elim
   |none=>
    cases o with
    |none=>exact R.elim
    |some ae=>
     obtain⟨h1,hb,e⟩:=Option.bind_eq_some_iff.1 e
     obtain⟨a,e2,e3⟩:=Option.map_eq_some_iff.1 e
     cases e3
     have J:=(vN (P:=P) e2 rl .sliceB (fun l=>(l,h,j)) w).2
     obtain⟨b1,b2⟩:=wS (P:=P) hb R I (if isSlice then .sliceAcap else .sliceAlen) w
     refine⟨j,?_,J,b2,Nat.le_refl _,.inr ⟨rfl,rfl,rfl⟩⟩
     unfold Instr.sliceBounds
     simp only[pure_bind]
     rw[fw b1]
     exact(vN (P:=P) e2 rl _ (fun l=>(l,h,j)) w).1
 · rename_i ah af
   cases C with
   |none=>exact aa.elim
   |some ag=>
    cases o with
    |none=>exact R.elim
    |some ae=>
     obtain⟨m1,hm,e⟩:=Option.bind_eq_some_iff.1 e
     obtain⟨h1,hb,e⟩:=Option.bind_eq_some_iff.1 e
     obtain⟨a,e2,e3⟩:=Option.map_eq_some_iff.1 e
     cases e3
     have J:=(vN (P:=P) e2 rl .slice3C (fun l=>(l,h,m)) w).2
     obtain⟨b1,b2⟩:=wS (P:=P) hb R (Nat.le_refl _) .slice3B w
     obtain⟨c1,c2⟩:=wS (P:=P) hm aa I (if isSlice then .slice3Acap else .slice3Alen) w
     refine⟨m,?_,J,b2,c2,.inl ⟨rfl,rfl⟩⟩
     unfold Instr.sliceBounds
     simp only[pure_bind]
     rw[fw c1,fw b1]
     exact(vN (P:=P) e2 rl _ (fun l=>(l,h,m)) w).1
 · cases e
def AE(hp:Hp)(b s:Nat):Bool:=
 match hp b with
 |some (.cells _ m)=>match m.mu with
  |none=>true
  |some _=>Nat.beq m.unit s
 |_=>false
def sy(T:Ty)(hp:Hp)(t:TypeId)(x:Value)(lo hi j:Option Value):Option Value:=
 match T.ji t,x with
 |some .string,.string s=>match j with
  |none=>(vM s.data.toList.length s.data.toList.length lo hi none).map fun r=>.string ⟨((s.data.toList.drop r.1).take (r.2.1-r.1)).toArray⟩
  |some _=>none
 |some (.slice el),.slice (some ⟨b,off,none⟩) len cap=>
   (T.size el).bind fun s=>bif Nat.ble len cap&&(Nat.beq cap 0||AE hp b s)then(vM len cap lo hi j).map fun r=>.slice (some ⟨b,off+r.1*s,none⟩) (r.2.1-r.1) (r.2.2-r.1)else none
 |some (.slice el),.slice none _ _=>(T.size el).bind fun _=>(vM 0 0 lo hi j).map fun _=>.slice none 0 0
 |some (.array k el),.pointer (some ⟨b,off,none⟩)=>(T.size el).bind fun s=>(vM k k lo hi j).map fun r=>.slice (some ⟨b,off+r.1*s,none⟩) (r.2.1-r.1) (r.2.2-r.1)
 |_,_=>none
theorem gu.Vu(H:gu B0 w0 g hp nx w){b s:Nat}(h:AE hp b s=true):g.room b=none\/∃rs,g.room b=some (rs,s):=by
 unfold AE at h
 split at h
 · rename_i cs m hb
   cases j:g.gb b with
   |none=>
    cases hr:g.room b with
    |none=>exact .inl rfl
    |some x=>exact(H.room b x hr j).elim
   |some x=>
   obtain⟨rc,el,I,a2,_,_,_,o,C⟩:=H.uG hb (rb:=x.1) (ro:=x.2) j
   split at h
   · rename_i hg;exact .inl (C hg)
   · rename_i gr hg
     have:=Nat.eq_of_beq_eq_true h
     subst this
     exact .inr ⟨_,o gr hg⟩
 · cases h
theorem zL(s:ByteArray)(l h:Nat):s.extract l h=⟨((s.data.toList.drop l).take (h-l)).toArray⟩:=by
 have e:(s.extract l h).data=s.data.extract l h:=ByteArray.data_extract
 have:(s.extract l h).data=((s.data.toList.drop l).take (h-l)).toArray:=by
  rw[e,<-Array.toArray_toList (xs:=s.data.extract l h),Array.toList_extract]
 cases hs:s.extract l h with
 |mk d=>rw[hs]at this;simp only at this;rw[this]
theorem Ly(ok:T.Ok P)(H:gu B0 w0 g hp nx w){t:TypeId}{x x' v:Value}{lo hi ah ab U J:Option Value}(h:sy T hp t x lo hi ah=some v)(hx:fQ g x x')
 (rl:BK g lo ab) (ai:BK g hi U) (aj:BK g ah J):iC B0 w0 g hp nx n w ((Instr.sliceAt t x' ab U J).run P w) (v,[],0):=by
 unfold sy at h
 split at h
 ·
  rename_i s hu
  obtain rfl:=hx.kS
  split at h
  · cases J with
    |some _=>exact aj.elim
    |none=>
     obtain⟨⟨l,C,m⟩,e1,e2⟩:=Option.map_eq_some_iff.1 h
     subst e2
     obtain⟨j,R,_⟩:=wU (P:=P) e1 rl ai (show BK g none none from trivial) (Nat.le_refl _) (Nat.le_refl _) false w
     refine iC.pure H (v':=.string (s.extract l C)) ?_ ?_
     · unfold Instr.sliceAt
       rw[fw (ok.gS hu w)]
       simp only
       unfold Instr.slice
       rw[fw (ok.gS hu w)]
       simp only[Option.isSome_none,Bool.false_eq_true,if_false]
       have:s.size=s.data.toList.length:=by rw[Array.length_toList];rfl
       rw[this,fw R]
       rfl
     · rw[zL]
       exact .string _
  · cases h
 ·
  rename_i el b off len cap hu
  obtain⟨s,hs,h⟩:=Option.bind_eq_some_iff.1 h
  cases hb:(Nat.ble len cap&&(Nat.beq cap 0||AE hp b s))with
  |false=>rw[hb]at h;cases h
  |true=>
   rw[hb]at h
   simp only[cond_true]at h
   rw[Bool.and_eq_true]at hb
   have aw:=Nat.le_of_ble_eq_true hb.1
   obtain⟨⟨l,C,m⟩,e1,e2⟩:=Option.map_eq_some_iff.1 h
   subst e2
   have hr:∀(I:Nat) (a':Addr),cap<=I->∃j,(Instr.sliceAt t (.slice (some a') len I) ab U J).run P w=.ok (.slice (some (if j=l then a' else a'.add (l*s))) (C-l) (j-l)) w/\
    l<=C/\C<=m/\m<=cap/\((j=m/\ah.isSome)\/(ah=none/\m=cap/\j=I)):=by
    intro I a' ae
    obtain⟨j,R,al,an,ao,ag⟩:=wU (P:=P) e1 rl ai aj aw ae true w
    refine⟨j,?_,al,an,ao,ag⟩
    unfold Instr.sliceAt
    rw[fw (ok.gS hu w)]
    simp only
    unfold Instr.slice
    rw[fw (ok.gS hu w)]
    simp only
    rw[fw R]
    simp only
    rw[fw (ok.nS hs w)]
    split<;>rfl
   rcases hx.mK with⟨a2,rfl,rfl,rfl⟩|⟨_,rb,ro,c2,hg,_,ad,rfl⟩
   · obtain⟨j,aq,ay,q3,az,o⟩:=hr 0 a2 (Nat.le_refl _)
     have aa:j=0:=by rcases o with o|o<;>omega
     refine iC.pure H aq ?_
     have e1:C-l=0:=by omega
     have e2:m-l=0:=by omega
     have e3:j-l=0:=by omega
     simp only[e1,e2,e3]
     exact .nY _ _
   · have ae:cap<=c2:=by rcases ad with h1|⟨h1,_⟩<;>omega
     obtain⟨j,aq,ay,q3,az,o⟩:=hr c2 _ ae
     refine iC.pure H aq ?_
     have aA:m<=j:=by rcases o with o|o<;>omega
     by_cases af:j=l
     · have e1:C-l=0:=by omega
       have e2:m-l=0:=by omega
       have e3:j-l=0:=by omega
       simp only[e1,e2,e3]
       exact .nY _ _
     · simp only[if_neg af]
       rw[Addr.tY,Nat.add_assoc]
       refine .slice hg (by omega) ?_
       rcases o with⟨o,_⟩|⟨_,o,q6⟩
       · exact .inl (by omega)
       · rcases ad with h1|⟨h1,rs,u,h2,h3⟩
         · exact .inl (by omega)
         · refine .inr ⟨by omega,rs,u,h2,?_⟩
           rcases Bool.or_eq_true _ _▸hb.2 with ax|ar
           · have ax:=Nat.eq_of_beq_eq_true ax
             have av:l=0:=by omega
             subst q6;subst av
             simpa using h3
           rcases H.Vu ar with h4|⟨aB,h4⟩
           · rw[h2]at h4;cases h4
           · rw[h2]at h4;cases h4
             subst q6
             simp only at h3
             have:l*s+(j-l)*s=j*s:=by rw[<-Nat.add_mul];congr 1;omega
             omega
 ·
  rename_i el aD aC hu
  obtain⟨rfl,rfl,rfl⟩:=hx.lT
  obtain⟨s,hs,h⟩:=Option.bind_eq_some_iff.1 h
  obtain⟨⟨l,C,m⟩,e1,e2⟩:=Option.map_eq_some_iff.1 h
  subst e2
  obtain⟨j,R,al,an,ao,ag⟩:=wU (P:=P) e1 rl ai aj (Nat.le_refl _) (Nat.le_refl _) true w
  have aa:j=0:=by rcases ag with o|o<;>omega
  have hl:l=0:=by omega
  have au:C=0:=by omega
  subst aa hl au
  refine iC.pure H (v':=.slice none 0 0) ?_ .pW
  unfold Instr.sliceAt
  rw[fw (ok.gS hu w)]
  simp only
  unfold Instr.slice
  rw[fw (ok.gS hu w)]
  simp only
  rw[fw R]
  simp only
  rw[fw (ok.nS hs w)]
  rfl
 ·
  rename_i k el b off hu
  obtain⟨s,hs,h⟩:=Option.bind_eq_some_iff.1 h
  obtain⟨⟨l,C,m⟩,e1,e2⟩:=Option.map_eq_some_iff.1 h
  subst e2
  obtain⟨_,rb,ro,hg,rfl⟩:=hx.sn
  obtain⟨j,R,al,an,ao,ag⟩:=wU (P:=P) e1 rl ai aj (Nat.le_refl _) (Nat.le_refl _) false w
  have aa:j=m:=by rcases ag with o|o<;>omega
  subst aa
  have ak:(Instr.sliceAt t (.pointer (some ⟨rb,ro+off,none⟩)) ab U J).run P w=.ok (.slice (some (if j=l then⟨rb,ro+off,none⟩else(⟨rb,ro+off,none⟩:Addr).add (l*s))) (C-l) (j-l)) w:=by
   unfold Instr.sliceAt
   rw[fw (ok.gS hu w)]
   simp only[Instr.sureAddr,pure_bind]
   rw[fw R]
   simp only
   rw[fw (ok.nS hs w)]
   rfl
  refine iC.pure H ak ?_
  by_cases af:j=l
  · have e1:C-l=0:=by omega
    have e2:j-l=0:=by omega
    simp only[e1,e2]
    exact .nY _ _
  · simp only[if_neg af]
    rw[Addr.tY,Nat.add_assoc]
    exact .slice hg (by omega) (.inl rfl)
 · cases h
end
end
end Sw
namespace Sw
noncomputable section
open Go
def ru:Int->Int->Bool
 |.ofNat a,.ofNat b=>Nat.blt a b
 |.negSucc a,.negSucc b=>Nat.blt b a
 |.negSucc _,.ofNat _=>true
 |.ofNat _,.negSucc _=>false
def km:Int->Int->Bool
 |.ofNat a,.ofNat b=>Nat.beq a b
 |.negSucc a,.negSucc b=>Nat.beq a b
 |_,_=>false
def DA(x y:Int):Bool:=!(ru y x)
theorem mq{a b:Nat}:Nat.blt a b=true↔a<b:=by
 constructor
 · intro h;exact(Nat.blt_eq ..).mp h
 · intro h;exact(Nat.blt_eq (x:=a) (y:=b)).mpr h
theorem so{x y:Int}:ru x y=true↔x<y:=by
 cases x<;>cases y<;>simp only[ru]
 · rw[mq];constructor<;>intro h<;>first|(show(_:Int)<_;exact Int.ofNat_lt.2 h)|exact Int.ofNat_lt.1 h
 · simp;omega
 · simp;omega
 · rw[mq];omega
theorem DY(x y:Int):ru x y=decide (x<y):=by
 rw[Bool.eq_iff_iff,so];simp
theorem lH{x y:Int}:km x y=true↔x=y:=by
 cases x<;>cases y<;>simp only[km]
 · constructor
   · intro h;rw[Nat.eq_of_beq_eq_true h]
   · intro h;cases h;exact Nat.beq_refl _
 · simp
 · simp
 · constructor
   · intro h;rw[Nat.eq_of_beq_eq_true h]
   · intro h;cases h;exact Nat.beq_refl _
theorem DZ(x y:Int):km x y=(x==y):=by
 rw[Bool.eq_iff_iff,lH];simp
theorem Lz(x y:Int):DA x y=decide (x<=y):=by
 unfold DA
 rw[DY,Bool.eq_iff_iff]
 simp
def rN:IntKind->Nat
 |.i8|.u8=>256
 |.i16|.u16=>65536
 |.i32|.u32=>4294967296
 |.i64|.u64=>18446744073709551616
def zR:IntKind->Nat
 |.i8=>128|.i16=>32768|.i32=>2147483648|.i64=>9223372036854775808
 |.u8=>256|.u16=>65536|.u32=>4294967296|.u64=>18446744073709551616
def wV(k:IntKind)(r:Nat):Int:=bif Nat.ble (zR k) r then .negSucc (Nat.sub (Nat.sub (rN k) r) 1)else .ofNat r
def qO(k:IntKind)(n:Int):Nat:=
 match n with
 |.ofNat a=>Nat.mod a (rN k)
 |.negSucc a=>Nat.sub (Nat.sub (rN k) 1) (Nat.mod a (rN k))
def gD(k:IntKind)(n:Int):Int:=wV k (qO k n)
theorem LA(k:IntKind):(2^k.bits:Int)=rN k:=by cases k<;>decide
theorem LB(k:IntKind):0<rN k:=by cases k<;>decide
theorem QU(k:IntKind)(h:k.signed=true):(2^(k.bits-1):Int)=zR k:=by cases k<;>first|decide|(simp[IntKind.signed]at h)
theorem QV(k:IntKind)(h:k.signed=false):zR k=rN k:=by cases k<;>first|rfl|(simp[IntKind.signed]at h)
theorem IQ(k:IntKind)(n:Int):(qO k n:Int)=n%(rN k:Int):=by
 have hp:=LB k
 cases n with
 |ofNat a=>simp only[qO];show((a%rN k:Nat):Int)=(a:Int)%(rN k:Int);rw[Int.natCast_emod]
 |negSucc a=>
  simp only[qO]
  show((rN k-1-a%rN k:Nat):Int)=_
  have h1:=Nat.mod_lt a hp
  rw[Int.negSucc_emod _ (by omega)]
  have:(a:Int)%(rN k:Int)=((a%rN k:Nat):Int):=by rw[Int.natCast_emod]
  rw[this]
  omega
theorem Vv(k:IntKind)(n:Int):qO k n<rN k:=by
 have h:=IQ k n
 have:=Int.emod_lt_of_pos n (b:=(rN k:Int)) (by have:=LB k;omega)
 omega
theorem S_(k:IntKind){r:Nat}(h:r<rN k):wV k r=if k.signed&&decide ((r:Int)>=(2^(k.bits-1):Int))then(r:Int)-(2^k.bits:Int)else(r:Int):=by
 unfold wV
 rw[LA]
 cases hs:k.signed with
 |false=>
  have:Nat.ble (zR k) r=false:=by
   rw[QV k hs]
   cases hb:Nat.ble (rN k) r with
   |false=>rfl
   |true=>have:=Nat.le_of_ble_eq_true hb;omega
  rw[this];simp
 |true=>
  rw[QU k hs]
  cases hb:Nat.ble (zR k) r with
  |true=>
   have:=Nat.le_of_ble_eq_true hb
   simp only[cond_true,Bool.true_and]
   rw[if_pos (by simp;omega)]
   show Int.negSucc (rN k-r-1)=_
   omega
  |false=>
   have:¬zR k<=r:=fun h=>by rw[Nat.ble_eq_true_of_le h]at hb;cases hb
   simp only[cond_false,Bool.true_and]
   rw[if_neg (by simp;omega)]
   rfl
theorem tt(k:IntKind)(n:Int):gD k n=k.wrap n:=by
 unfold gD IntKind.wrap
 rw[S_ k (Vv k n)]
 simp only[IQ,LA]
def Pm(op:BinOp)(k:IntKind)(x y:Int):Option Int:=
 match op with
 |.and=>some (wV k (Nat.land (qO k x) (qO k y)))
 |.or=>some (wV k (Nat.lor (qO k x) (qO k y)))
 |.xor=>some (wV k (Nat.xor (qO k x) (qO k y)))
 |.andNot=>some (wV k (Nat.land (qO k x) (Nat.sub (Nat.sub (rN k) 1) (qO k y))))
 |_=>none
theorem D0(k:IntKind):rN k=2^k.bits:=by cases k<;>decide
theorem toNat_ofInt(k:IntKind)(x:Int):(BitVec.ofInt k.bits x).toNat=qO k x:=by
 rw[BitVec.toNat_ofInt]
 have:=IQ k x
 rw[<-D0]
 omega
theorem zS(k:IntKind){r:Nat}(h:r<rN k):wV k r=k.wrap r:=by
 rw[<-tt]
 unfold gD
 congr 1
 show r=r%rN k
 rw[Nat.mod_eq_of_lt h]
theorem uI{op:BinOp}{k:IntKind}{x y r:Int}(h:Pm op k x y=some r)(P:Program)(w:World):(Op.intBits op k x y).run P w=.ok (.int k r) w:=by
 have lt (z:BitVec k.bits):z.toNat<rN k:=by rw[D0];exact z.isLt
 have hx:=toNat_ofInt k x
 have hy:=toNat_ofInt k y
 cases op<;>first|(cases h;done)|skip
 all_goals
  simp only[Pm,Option.some.injEq]at h
  subst h
  simp only[Op.intBits]
  show Result.ok _ w=_
  congr 2
 · rw[show Nat.land (qO k x) (qO k y)=(BitVec.ofInt k.bits x &&& BitVec.ofInt k.bits y).toNat from by rw[BitVec.toNat_and,hx,hy];rfl]
   exact(zS k (lt _)).symm
 · rw[show Nat.lor (qO k x) (qO k y)=(BitVec.ofInt k.bits x ||| BitVec.ofInt k.bits y).toNat from by rw[BitVec.toNat_or,hx,hy];rfl]
   exact(zS k (lt _)).symm
 · rw[show Nat.xor (qO k x) (qO k y)=(BitVec.ofInt k.bits x ^^^ BitVec.ofInt k.bits y).toNat from by rw[BitVec.toNat_xor,hx,hy];rfl]
   exact(zS k (lt _)).symm
 · rw[show Nat.land (qO k x) (Nat.sub (Nat.sub (rN k) 1) (qO k y))=(BitVec.ofInt k.bits x &&& ~~~BitVec.ofInt k.bits y).toNat from by
    rw[BitVec.toNat_and,BitVec.toNat_not,hx,hy,<-D0];rfl]
   exact(zS k (lt _)).symm
end
end Sw
