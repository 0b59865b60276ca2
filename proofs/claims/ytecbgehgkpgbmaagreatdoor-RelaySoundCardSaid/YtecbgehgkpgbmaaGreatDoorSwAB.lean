/- A part of the proof that the law returns true for every input that its row speaks of. No condition is added. -/
import Derived.Test.YtecbgehgkpgbmaaGreatDoorSwAA
namespace Sw
noncomputable section
open Go Go.RowKit
def strs(s:ByteArray):List UInt8:=s.data.toList
def wF:List UInt8->List UInt8->Bool
 |[],[]=>true
 |a::x,b::y=>Nat.beq a.toNat b.toNat&&wF x y
 |_,_=>false
def HM:List UInt8->List UInt8->Bool
 |_,[]=>false
 |[],_::_=>true
 |a::x,b::y=>Nat.blt a.toNat b.toNat||(Nat.beq a.toNat b.toNat&&HM x y)
theorem Rn(a b:UInt8):Nat.beq a.toNat b.toNat=(a==b):=by
 rw[Bool.eq_iff_iff]
 constructor
 · intro h;have:=fj h;simp;exact UInt8.toNat_inj.1 this
 · intro h;simp at h;subst h;exact Nat.beq_refl _
theorem Xv(a b:UInt8):Nat.blt a.toNat b.toNat=decide (a<b):=by
 rw[Bool.eq_iff_iff,mE];simp[UInt8.lt_iff_toNat_lt]
theorem wX(x y:List UInt8):wF x y=(x==y):=by
 induction x generalizing y with
 |nil=>cases y<;>rfl
 |cons a x ih=>cases y with
  |nil=>rfl
  |cons b y=>simp only[wF,Rn,ih];rfl
theorem Xw(x y:List UInt8):HM x y=Op.bytesLess x y:=by
 induction x generalizing y with
 |nil=>cases y<;>rfl
 |cons a x ih=>cases y with
  |nil=>rfl
  |cons b y=>simp only[HM,Rn,Xv,ih,Op.bytesLess]
theorem ByteArray.Ap(s:ByteArray):s.toList=s.data.toList:=by
 have key:∀(n i:Nat) (r:List UInt8),s.size-i=n->ByteArray.toList.loop s i r=r.reverse++s.data.toList.drop i:=by
  intro n
  induction n with
  |zero=>
   intro i r h
   rw[ByteArray.toList.loop,if_neg (by omega),List.drop_eq_nil_of_le]
   · simp
   · rw[Array.length_toList];show s.size<=i;omega
  |succ n ih=>
   intro i r h
   have hi:i<s.size:=by omega
   rw[ByteArray.toList.loop,if_pos hi,ih (i+1) _ (by omega)]
   have b:i<s.data.toList.length:=by rw[Array.length_toList];exact hi
   rw[List.drop_eq_getElem_cons b]
   have:s.get! i=s.data.toList[i]:=by
    show s.data[i]! =_
    have e:i<s.data.size:=hi
    exact getElem!_pos s.data i e
   rw[this]
   simp
 unfold ByteArray.toList
 rw[key _ 0 [] rfl]
 simp
theorem ByteArray.I7(a b:ByteArray):(a==b)=wF (strs a) (strs b):=by
 rw[wX]
 show(a.data==b.data)=(a.data.toList==b.data.toList)
 rw[Bool.eq_iff_iff,beq_iff_eq,beq_iff_eq,Array.toList_inj]
def Eu(op:BinOp)(a b:ByteArray):Option Value:=
 match op with
 |.add=>bif Nat.blt (strs a).length 1073741824&&Nat.blt (strs b).length 1073741824 then some (.string ⟨(strs a++strs b).toArray⟩)else none
 |.eql=>some (.bool (wF (strs a) (strs b)))
 |.neq=>some (.bool (!(wF (strs a) (strs b))))
 |.lss=>some (.bool (HM (strs a) (strs b)))
 |.leq=>some (.bool (HM (strs a) (strs b)||wF (strs a) (strs b)))
 |.gtr=>some (.bool (!(HM (strs a) (strs b)||wF (strs a) (strs b))))
 |.geq=>some (.bool (!(HM (strs a) (strs b))))
 |_=>none
theorem PP{op:BinOp}{a b:ByteArray}{v:Value}(h:Eu op a b=some v)(P:Program)(w:World):(Op.stringOp op a b).run P w=.ok v w:=by
 have e1:(a.toList==b.toList)=wF (strs a) (strs b):=by rw[wX,ByteArray.Ap,ByteArray.Ap];rfl
 have e2:Op.bytesLess a.toList b.toList=HM (strs a) (strs b):=by rw[Xw,ByteArray.Ap,ByteArray.Ap];rfl
 unfold Eu at h
 split at h
 · cases hb:(Nat.blt (strs a).length 1073741824&&Nat.blt (strs b).length 1073741824)with
   |false=>rw[hb]at h;cases h
   |true=>
    rw[hb]at h
    simp only[cond_true,Option.some.injEq]at h
    subst h
    rw[Bool.and_eq_true,mE,mE]at hb
    have j:a.size=(strs a).length:=by unfold strs;rw[Array.length_toList];rfl
    have m:b.size=(strs b).length:=by unfold strs;rw[Array.length_toList];rfl
    simp only[Op.stringOp]
    rw[if_neg (by simp only[IntKind.max,IntKind.signed,IntKind.bits,if_true];omega)]
    have:a++b=⟨(strs a++strs b).toArray⟩:=by
     have:(a++b).data=(strs a++strs b).toArray:=by
      rw[ByteArray.data_append];unfold strs;simp
     cases e:a++b with
     |mk d=>rw[e]at this;simp only at this;rw[this]
    rw[this]
    rfl
 all_goals
  first
   |(cases h;simp only[Op.stringOp,e1,e2];rfl)
   |cases h
def HN(op:BinOp)(k:IntKind)(x y:Int):Option Value:=
 match op with
 |.add=>some (.int k (gn k (x+y)))
 |.sub=>some (.int k (gn k (x-y)))
 |.mul=>some (.int k (gn k (x*y)))
 |.quo=>bif kC y 0 then none else some (.int k (gn k (x.tdiv y)))
 |.rem=>bif kC y 0 then none else some (.int k (x.tmod y))
 |.eql=>some (.bool (kC x y))
 |.neq=>some (.bool (!(kC x y)))
 |.lss=>some (.bool (rI x y))
 |.leq=>some (.bool (DY x y))
 |.gtr=>some (.bool (rI y x))
 |.geq=>some (.bool (DY y x))
 |.and|.or|.xor|.andNot=>(PO op k x y).map (.int k ·)
 |_=>none
def Cz(op:BinOp)(k:IntKind)(x y:Int):Option Value:=
 match y with
 |.ofNat n=>match op with
  |.shl=>some (.int k (gn k (x*.ofNat (Nat.pow 2 (bif Nat.ble n k.bits then n else k.bits)))))
  |.shr=>some (.int k (x.fdiv (.ofNat (Nat.pow 2 (bif Nat.ble n k.bits then n else k.bits)))))
  |_=>none
 |.negSucc _=>none
def Xx:Operand->Bool
 |.const _=>true
 |_=>false
def LY(T:Ty)(rec:TypeId->Value->Value->Option Bool):List Field->List Value->List Value->Option Bool
 |[],_,_=>some true
 |f::fs,xs,b=>
  match x_ T f.type xs f.offset,x_ T f.type b f.offset with
  |some x,some y=>match rec f.type x y with
   |some true=>LY T rec fs xs b
   |some false=>some false
   |none=>none
  |_,_=>none
def LZ(T:Ty)(rec:TypeId->Value->Value->Option Bool)(el:TypeId)(s:Nat)(xs b:List Value):Nat->Nat->Option Bool
 |0,_=>some true
 |n+1,i=>
  match x_ T el xs (i*s),x_ T el b (i*s)with
  |some x,some y=>match rec el x y with
   |some true=>LZ T rec el s xs b n (i+1)
   |some false=>some false
   |none=>none
  |_,_=>none
def ya(T:Ty):Nat->TypeId->Value->Value->Option Bool
 |0,_,_,_=>none
 |d+1,t,x,y=>
  match T.jh t,x,y with
  |some .bool,.bool a,.bool b=>some (a==b)
  |some (.int _),.int k a,.int k' b=>if k=k' then some (kC a b)else none
  |some .string,.string a,.string b=>some (wF (strs a) (strs b))
  |some (.pointer _),.pointer none,.pointer b=>some b.isNone
  |some (.pointer _),.pointer (some _),.pointer none=>some false
  |some (.interface _),.nilIface,.nilIface=>some true
  |some (.interface _),.nilIface,.iface _ _=>some false
  |some (.interface _),.iface _ _,.nilIface=>some false
  |some (.struct fs),.agg xs,.agg e=>bif T.GK t then LY T (ya T d) fs.toList xs.toList e.toList else none
  |some (.array n el),.agg xs,.agg e=>bif T.GK t then(T.size el).bind fun s=>LZ T (ya T d) el s xs.toList e.toList n 0 else none
  |some (.slice _),.slice none _ _,.slice b _ _=>some b.isNone
  |some (.slice _),.slice (some _) _ _,.slice none _ _=>some false
  |some (.map _ _),.map none,.map b=>some b.isNone
  |some (.map _ _),.map (some _),.map none=>some false
  |some (.func _ _ _),.nilFunc,.nilFunc=>some true
  |some (.func _ _ _),.nilFunc,.func _ _ _=>some false
  |some (.func _ _ _),.func _ _ _,.nilFunc=>some false
  |_,_,_=>none
section
variable {T:Ty}{P:Program}{B0:Nat}{w0:World}{g:Gm}{O:Hp}{G n:Nat}{w:World}
theorem L0{op:BinOp}{k:IntKind}{x y:Int}{v:Value}(h:HN op k x y=some v)(t:TypeId)(w:World):(binOp op t (.int k x) (.int k y)).run P w=.ok v w:=by
 unfold HN at h
 split at h
 · cases h;rw[tI];simp[binOp,Op.intArith]
 · cases h;rw[tI];simp[binOp,Op.intArith]
 · cases h;rw[tI];simp[binOp,Op.intArith]
 · cases hy:kC y 0 with
   |true=>rw[hy]at h;cases h
   |false=>
    rw[hy]at h;cases h
    have:y≠0:=fun e=>by rw[lJ.2 e]at hy;cases hy
    rw[tI];simp[binOp,Op.intDiv,this]
 · cases hy:kC y 0 with
   |true=>rw[hy]at h;cases h
   |false=>
    rw[hy]at h;cases h
    have:y≠0:=fun e=>by rw[lJ.2 e]at hy;cases hy
    simp[binOp,Op.intDiv,this]
 · cases h;rw[Es];simp[binOp,Op.intCmp]
 · cases h;rw[Es];simp[binOp,Op.intCmp];rfl
 · cases h;rw[Er];simp[binOp,Op.intCmp]
 · cases h;rw[LV];simp[binOp,Op.intCmp]
 · cases h;rw[Er];simp[binOp,Op.intCmp]
 · cases h;rw[LV];simp[binOp,Op.intCmp]
 · obtain⟨r,h1,rfl⟩:=Option.map_eq_some_iff.1 h
   simpa[binOp]using u5 h1 P w
 · obtain⟨r,h1,rfl⟩:=Option.map_eq_some_iff.1 h
   simpa[binOp]using u5 h1 P w
 · obtain⟨r,h1,rfl⟩:=Option.map_eq_some_iff.1 h
   simpa[binOp]using u5 h1 P w
 · obtain⟨r,h1,rfl⟩:=Option.map_eq_some_iff.1 h
   simpa[binOp]using u5 h1 P w
 · cases h
theorem TO(n m:Nat):(bif Nat.ble n m then n else m)=min n m:=by
 cases h:Nat.ble n m with
 |true=>have:=fa h;simp;omega
 |false=>
  have:¬n<=m:=fun k=>by rw[Nat.ble_eq_true_of_le k]at h;cases h
  simp;omega
theorem Ev{op:BinOp}{k k':IntKind}{x y:Int}{v:Value}(h:Cz op k x y=some v)(t:TypeId)(w:World):(binOp op t (.int k x) (.int k' y)).run P w=.ok v w:=by
 unfold Cz at h
 split at h
 · rename_i n
   have e:∀m:Nat,(Int.ofNat (Nat.pow 2 m))=(2:Int)^m:=fun m=>by
    show((2^m:Nat):Int)=_
    rw[Int.natCast_pow];rfl
   split at h
   · cases h
     rw[tI,TO,e]
     simp only[binOp,Op.shift]
     rw[if_neg (by exact Int.not_lt.2 (Int.natCast_nonneg n))]
     rfl
   · cases h
     rw[TO,e]
     simp only[binOp,Op.shift]
     rw[if_neg (by exact Int.not_lt.2 (Int.natCast_nonneg n))]
     rfl
   · cases h
 · cases h
theorem PQ(ok:T.Ok P){rec:TypeId->Value->Value->Option Bool}{d:Nat}{w:World}
 (ih:∀t x y x' y' b,rec t x y=some b->fK g x x'->fK g y y'->(Op.equalIn d t x' y').run P w=.ok b w) {xs A j m:Array Value} (hx:sf g xs j) (hy:sf g A m):
 ∀(fs:List Field) (b:Bool),(∀f∈fs,f.name≠ "_")->LY T rec fs xs.toList A.toList=some b->
  (forIn fs ((none,()):Option Bool×Unit) fun f (_:Option Bool×Unit)=>
    if f.name≠ "_" then do
     let a<-part f.type j f.offset
     let c<-part f.type m f.offset
     let e<-Op.equalIn d f.type a c
     if(!e)=true then pure (ForInStep.done (some false,()))else pure (ForInStep.yield (none,()))
    else pure (ForInStep.yield (none,())):Sem (Option Bool×Unit)).run P w=.ok (if b then(none,())else(some false,())) w:=by
 intro fs
 induction fs with
 |nil=>intro b _ h;simp[LY]at h;subst h;rfl
 |cons f fs o=>
  intro b hn h
  simp only[LY]at h
  split at h
  · rename_i x y ex B
    obtain⟨x',p,rx⟩:=tH ok ex hx w
    obtain⟨y',u,z⟩:=tH ok B hy w
    rw[List.forIn_cons]
    have hf:=hn f (fh ..)
    split at h
    · rename_i hr
      have he:=ih _ _ _ _ _ _ hr rx z
      have step:(if f.name≠ "_" then do
       let a<-part f.type j f.offset
       let c<-part f.type m f.offset
       let e<-Op.equalIn d f.type a c
       if(!e)=true then pure (ForInStep.done (some false,()))else pure (ForInStep.yield (none,()))
       else pure (ForInStep.yield (none,())):Sem (ForInStep (Option Bool×Unit))).run P w=.ok (ForInStep.yield (none,())) w:=by
       rw[if_pos hf,fk p,fk u,fk he];rfl
      rw[fk step]
      exact o b (fun q C=>hn q (fw _ C)) h
    · rename_i hr
      cases h
      have he:=ih _ _ _ _ _ _ hr rx z
      have step:(if f.name≠ "_" then do
       let a<-part f.type j f.offset
       let c<-part f.type m f.offset
       let e<-Op.equalIn d f.type a c
       if(!e)=true then pure (ForInStep.done (some false,()))else pure (ForInStep.yield (none,()))
       else pure (ForInStep.yield (none,())):Sem (ForInStep (Option Bool×Unit))).run P w=.ok (ForInStep.done (some false,())) w:=by
       rw[if_pos hf,fk p,fk u,fk he];rfl
      rw[fk step]
      rfl
    · cases h
  · cases h
theorem PR(ok:T.Ok P){rec:TypeId->Value->Value->Option Bool}{d:Nat}{w:World}
 (ih:∀t x y x' y' b,rec t x y=some b->fK g x x'->fK g y y'->(Op.equalIn d t x' y').run P w=.ok b w) {xs B m o:Array Value} (hx:sf g xs m) (hy:sf g B o) (el:TypeId) (s:Nat):
 ∀(n i:Nat) (b:Bool),LZ T rec el s xs.toList B.toList n i=some b->
  (forIn (List.range' i n) ((none,()):Option Bool×Unit) fun j (_:Option Bool×Unit)=>do
    let a<-part el m (j*s)
    let c<-part el o (j*s)
    let e<-Op.equalIn d el a c
    if(!e)=true then pure (ForInStep.done (some false,()))else pure (ForInStep.yield (none,())):Sem (Option Bool×Unit)).run P w=.ok (if b then(none,())else(some false,())) w:=by
 intro n
 induction n with
 |zero=>intro i b h;simp only[LZ,Option.some.injEq]at h;subst h;rfl
 |succ n p=>
  intro i b h
  simp only[LZ]at h
  split at h
  · rename_i x y ex C
    obtain⟨x',u,rx⟩:=tH ok ex hx w
    obtain⟨y',z,A⟩:=tH ok C hy w
    rw[List.range'_succ,List.forIn_cons]
    split at h
    · rename_i hr
      have he:=ih _ _ _ _ _ _ hr rx A
      have step:(do
       let a<-part el m (i*s)
       let c<-part el o (i*s)
       let e<-Op.equalIn d el a c
       if(!e)=true then pure (ForInStep.done (some false,()))else pure (ForInStep.yield (none,())):Sem (ForInStep (Option Bool×Unit))).run P w=.ok (ForInStep.yield (none,())) w:=by
       rw[fk u,fk z,fk he];rfl
      rw[fk step]
      exact p (i+1) b h
    · rename_i hr
      cases h
      have he:=ih _ _ _ _ _ _ hr rx A
      have step:(do
       let a<-part el m (i*s)
       let c<-part el o (i*s)
       let e<-Op.equalIn d el a c
       if(!e)=true then pure (ForInStep.done (some false,()))else pure (ForInStep.yield (none,())):Sem (ForInStep (Option Bool×Unit))).run P w=.ok (ForInStep.done (some false,())) w:=by
       rw[fk u,fk z,fk he];rfl
      rw[fk step]
      rfl
    · cases h
  · cases h
theorem Ew(ok:T.Ok P){w:World}:∀(d d':Nat) (t:TypeId) (x y x' y':Value) (b:Bool),d<=d'->ya T d t x y=some b->fK g x x'->fK g y y'->(Op.equalIn d' t x' y').run P w=.ok b w:=by
 intro d
 induction d with
 |zero=>intro d' t x y x' y' b _ h;cases h
 |succ d ih=>
  intro d' t x y x' y' b hd h rx j
  obtain⟨d',rfl⟩:∃e,d'=e+1:=⟨d'-1,by omega⟩
  unfold ya at h
  split at h
  · rename_i hu
    cases h
    obtain rfl:=rx.rR;obtain rfl:=j.rR
    unfold Op.equalIn;rw[fk (ok.gQ hu w)];rfl
  · rename_i k a k' b' hu
    obtain rfl:=rx.kU;obtain rfl:=j.kU
    split at h
    · rename_i hk;cases h;subst hk
      unfold Op.equalIn;rw[fk (ok.gQ hu w)]
      simp only[if_true]
      rw[Es];rfl
    · cases h
  · rename_i hu
    cases h
    obtain rfl:=rx.kY;obtain rfl:=j.kY
    unfold Op.equalIn;rw[fk (ok.gQ hu w)]
    rw[<-ByteArray.I7];rfl
  · rename_i e b1 hu
    cases h
    obtain rfl:=rx.uz
    unfold Op.equalIn;rw[fk (ok.gQ hu w)]
    cases b1 with
    |none=>obtain rfl:=j.uz;rfl
    |some a=>obtain⟨_,rb,ro,_,rfl⟩:=j.sy;rfl
  · rename_i e a hu
    cases h
    obtain⟨_,rb,ro,_,rfl⟩:=rx.sy
    obtain rfl:=j.uz
    unfold Op.equalIn;rw[fk (ok.gQ hu w)];rfl
  · rename_i hu
    cases h
    obtain rfl:=rx.oQ;obtain rfl:=j.oQ
    unfold Op.equalIn;rw[fk (ok.gQ hu w)];rfl
  · rename_i hu
    cases h
    obtain rfl:=rx.oQ;obtain⟨_,rfl,_⟩:=j.xC
    unfold Op.equalIn;rw[fk (ok.gQ hu w)];rfl
  · rename_i hu
    cases h
    obtain⟨_,rfl,_⟩:=rx.xC;obtain rfl:=j.oQ
    unfold Op.equalIn;rw[fk (ok.gQ hu w)];rfl
  · rename_i fs xs A hu
    cases he:T.GK t with
    |false=>rw[he]at h;cases h
    |true=>
     rw[he]at h
     simp only[cond_true]at h
     obtain⟨o1,_,z⟩:=ok.eq t he
     obtain⟨p,rfl,m⟩:=rx.s8
     obtain⟨u,rfl,o⟩:=j.s8
     have:=PQ (w:=w) (d:=d') ok (fun t x y x' y' b hr r1 r2=>ih d' t x y x' y' b (by omega) hr r1 r2) m o fs.toList b (z fs (ok.jh hu)) h
     unfold Op.equalIn
     rw[fk (ok.gQ hu w)]
     simp only
     rw[fk (show(program).run P w=.ok P w from rfl),if_neg (by rw[o1];simp)]
     rw[<-Array.forIn_toList,fk this]
     cases b<;>rfl
  · rename_i n el xs A hu
    cases he:T.GK t with
    |false=>rw[he]at h;cases h
    |true=>
     rw[he]at h
     simp only[cond_true]at h
     obtain⟨s,hs,h⟩:=fD.1 h
     obtain⟨p,rfl,m⟩:=rx.s8
     obtain⟨u,rfl,o⟩:=j.s8
     have:=PR (w:=w) (d:=d') ok (fun t x y x' y' b hr r1 r2=>ih d' t x y x' y' b (by omega) hr r1 r2) m o el s n 0 b h
     unfold Op.equalIn
     rw[fk (ok.gQ hu w)]
     simp only
     rw[fk (ok.n_ hs w)]
     rw[Std.Legacy.Range.forIn_eq_forIn_range']
     simp only[Std.Legacy.Range.size,Nat.sub_zero,Nat.add_sub_cancel,Nat.div_one]
     rw[fk this]
     cases b<;>rfl
  · rename_i b1 B c1 hu
    cases h
    obtain⟨_,_,rfl⟩:=rx.lW
    unfold Op.equalIn;rw[fk (ok.gQ hu w)]
    cases b1 with
    |none=>obtain⟨_,_,rfl⟩:=j.lW;rfl
    |some a=>rcases j.mW with⟨_,_,_,rfl⟩|⟨_,rb,ro,c2,_,_,_,rfl⟩<;>rfl
  · rename_i hu
    cases h
    obtain⟨_,_,rfl⟩:=j.lW
    unfold Op.equalIn;rw[fk (ok.gQ hu w)]
    rcases rx.mW with⟨_,_,_,rfl⟩|⟨_,rb,ro,c2,_,_,_,rfl⟩<;>rfl
  · rename_i b1 hu
    cases h
    obtain rfl:=rx.qc
    unfold Op.equalIn;rw[fk (ok.gQ hu w)]
    cases b1 with
    |none=>obtain rfl:=j.qc;rfl
    |some a=>obtain⟨_,_,rfl⟩:=j.vW;rfl
  · rename_i hu
    cases h
    obtain rfl:=j.qc;obtain⟨_,_,rfl⟩:=rx.vW
    unfold Op.equalIn;rw[fk (ok.gQ hu w)];rfl
  · rename_i hu
    cases h
    obtain rfl:=rx.so;obtain rfl:=j.so
    unfold Op.equalIn;rw[fk (ok.gQ hu w)];rfl
  · rename_i hu
    cases h
    obtain rfl:=rx.so
    unfold Op.equalIn;rw[fk (ok.gQ hu w)]
    cases j<;>rfl
  · rename_i hu
    cases h
    obtain rfl:=j.so
    unfold Op.equalIn;rw[fk (ok.gQ hu w)]
    cases rx<;>rfl
  · cases h
end
end
end Sw
namespace Sw
noncomputable section
open Go Go.RowKit
def PS:IntKind->Nat
 |.i8=>0|.i16=>1|.i32=>2|.i64=>3|.u8=>4|.u16=>5|.u32=>6|.u64=>7
def wh(k k':IntKind):Bool:=Nat.beq (PS k) (PS k')
theorem vC{k k':IntKind}(h:wh k k'=true):k=k':=by
 have:=fj h
 cases k<;>cases k'<;>first|rfl|(simp[PS]at this)
def FL(T:Ty)(t:TypeId)(xo yo:Operand)(x y:Value):Bool:=
 match x,y with
 |.nilIface,.nilIface=>Xx xo||Xx yo
 |.agg _,.agg _=>T.GK t
 |_,_=>true
def zN(T:Ty)(op:BinOp)(t:TypeId)(xo yo:Operand)(x y:Value):Option Value:=
 match x,y with
 |.int k a,.int k' b=>match op with
  |.shl=>Cz .shl k a b
  |.shr=>Cz .shr k a b
  |op=>bif wh k k' then HN op k a b else none
 |.string a,.string b=>Eu op a b
 |x,y=>bif FL T t xo yo x y then
   (match op with
   |.eql=>(ya T 12 t x y).map .bool
   |.neq=>(ya T 12 t x y).map fun b=>.bool (!b)
   |_=>none)else none
section
variable {T:Ty}{P:Program}{B0:Nat}{w0:World}{g:Gm}{O:Hp}{G n:Nat}{w:World}
theorem zO{op:BinOp}{t:TypeId}{xo yo:Operand}{x y:Value}(h1:∀c d,¬(x=.agg c/\y=.agg d))(D:¬(x=.nilIface/\y=.nilIface))(w:World):(eqGuard op t xo yo x y).run P w=.ok () w:=by
 cases op<;>first|rfl|skip
 all_goals
  unfold eqGuard
  simp only[Bool.not_true,Bool.false_eq_true,if_false]
  split
  · exact(D ⟨rfl,rfl⟩).elim
  · exact(h1 _ _ ⟨rfl,rfl⟩).elim
  · rfl
theorem KT(ok:T.Ok P){op:BinOp}{t:TypeId}{xo yo:Operand}{x y x' y':Value}(h:FL T t xo yo x y=true)(rx:fK g x x')(b:fK g y y')(w:World):(eqGuard op t xo yo x' y').run P w=.ok () w:=by
 unfold FL at h
 split at h
 · obtain rfl:=rx.oQ
   obtain rfl:=b.oQ
   cases op<;>first|rfl|skip
   all_goals
    unfold eqGuard
    simp only[Bool.not_true,Bool.false_eq_true,if_false]
    cases xo<;>cases yo<;>first|(simp[Xx]at h;done)|rfl
 · obtain⟨e,rfl,_⟩:=rx.s8
   obtain⟨j,rfl,_⟩:=b.s8
   cases op<;>first|rfl|skip
   all_goals
    unfold eqGuard
    simp only[Bool.not_true,Bool.false_eq_true,if_false]
    rw[fk (show(program).run P w=.ok P w from rfl),fk (show(program).run P w=.ok P w from rfl)]
    rw[(ok.eq t h).2.1]
    rfl
 · rename_i h1 D
   refine zO ?_ ?_ w
   · rintro c d ⟨rfl,rfl⟩
     cases rx;cases b
     exact D _ _ rfl rfl
   · rintro ⟨rfl,rfl⟩
     cases rx;cases b
     exact h1 rfl rfl
theorem HO(ok:T.Ok P)(H:gm B0 w0 g O G w){op:BinOp}{t:TypeId}{xo yo:Operand}{x y x' y' v:Value}(h:zN T op t xo yo x y=some v)(rx:fK g x x')(j:fK g y y'):
 iA B0 w0 g O G n w ((do eqGuard op t xo yo x' y';binOp op t x' y':Sem Value).run P w) (v,[],0):=by
 unfold zN at h
 split at h
 · rename_i k a k' b
   obtain rfl:=rx.kU
   obtain rfl:=j.kU
   have m:=zO (P:=P) (op:=op) (t:=t) (xo:=xo) (yo:=yo) (x:=.int k a) (y:=.int k' b) (fun c d h=>by cases h.1) (fun h=>by cases h.1) w
   have A:∀r:Value,(binOp op t (.int k a) (.int k' b)).run P w=.ok r w->fK g r r->iA B0 w0 g O G n w ((do eqGuard op t xo yo (.int k a) (.int k' b);binOp op t (.int k a) (.int k' b):Sem Value).run P w) (r,[],0):=
    fun r h1 D=>iA.pure H (by rw[fk m];exact h1) D
   split at h
   · refine A v (Ev h t w) ?_
     unfold Cz at h
     split at h
     · split at h<;>first|(cases h;exact .int _ _)|cases h
     · cases h
   · refine A v (Ev h t w) ?_
     unfold Cz at h
     split at h
     · split at h<;>first|(cases h;exact .int _ _)|cases h
     · cases h
   · cases hk:wh k k' with
     |false=>rw[hk]at h;cases h
     |true=>
      rw[hk]at h
      simp only[cond_true]at h
      obtain rfl:=vC hk
      refine A v (L0 h t w) ?_
      unfold HN at h
      split at h<;>first|(cases h;first|exact .int _ _|exact .bool _)|skip
      · cases hy:kC b 0<;>rw[hy]at h<;>cases h;exact .int _ _
      · cases hy:kC b 0<;>rw[hy]at h<;>cases h;exact .int _ _
      all_goals first|(cases h;done)|(obtain⟨r,_,rfl⟩:=fx.1 h;exact .int _ _)
 · rename_i a b
   obtain rfl:=rx.kY
   obtain rfl:=j.kY
   have m:=zO (P:=P) (op:=op) (t:=t) (xo:=xo) (yo:=yo) (x:=.string a) (y:=.string b) (fun c d h=>by cases h.1) (fun h=>by cases h.1) w
   refine iA.pure H (v':=v) ?_ ?_
   · rw[fk m]
     have:=PP h P w
     have e:binOp op t (.string a) (.string b)=Op.stringOp op a b:=by cases op<;>rfl
     rw[e];exact this
   · unfold Eu at h
     split at h<;>first|(cases h;done)|(cases h;exact .bool _)|skip
     cases hb:(Nat.blt (strs a).length 1073741824&&Nat.blt (strs b).length 1073741824)<;>rw[hb]at h<;>cases h
     exact .string _
 · rename_i h1 D
   cases hg:FL T t xo yo x y with
   |false=>rw[hg]at h;cases h
   |true=>
    rw[hg]at h
    simp only[cond_true]at h
    have m:=KT ok (op:=op) hg rx j w
    have o:∀k a k' b,¬(x'=.int k a/\y'=.int k' b):=by
     rintro k a k' b ⟨rfl,rfl⟩
     cases rx;cases j;exact h1 _ _ _ _ rfl rfl
    have p:∀a b,¬(x'=.string a/\y'=.string b):=by
     rintro a b ⟨rfl,rfl⟩
     cases rx;cases j;exact D _ _ rfl rfl
    have z:∀k b,x'≠.float k b:=by rintro k b rfl;cases rx
    have u:∀k b c,x'≠.complex k b c:=by rintro k b c rfl;cases rx
    split at h
    · obtain⟨b,hb,rfl⟩:=Option.map_eq_some_iff.1 h
      refine iA.pure H (v':=.bool b) ?_ (.bool _)
      rw[fk m]
      have e:binOp .eql t x' y'=(do pure (.bool (<-Op.equal t x' y'))):=by
       unfold binOp
       split<;>first|rfl|contradiction|(exfalso;first|exact o _ _ _ _ ⟨rfl,rfl⟩|exact p _ _ ⟨rfl,rfl⟩|exact z _ _ rfl|exact u _ _ _ rfl)
      rw[e,fk (show(Op.equal t x' y').run P w=.ok b w from Ew ok 12 Op.maxDepth t x y x' y' b (by decide) hb rx j)]
      rfl
    · obtain⟨b,hb,rfl⟩:=Option.map_eq_some_iff.1 h
      refine iA.pure H (v':=.bool (!b)) ?_ (.bool _)
      rw[fk m]
      have e:binOp .neq t x' y'=(do pure (.bool (!(<-Op.equal t x' y')))):=by
       unfold binOp
       split<;>first|rfl|contradiction|(exfalso;first|exact o _ _ _ _ ⟨rfl,rfl⟩|exact p _ _ ⟨rfl,rfl⟩|exact z _ _ rfl|exact u _ _ _ rfl)
      rw[e,fk (show(Op.equal t x' y').run P w=.ok b w from Ew ok 12 Op.maxDepth t x y x' y' b (by decide) hb rx j)]
      rfl
    · cases h
def Xy(op:UnOp)(x:Value):Option Value:=
 match op,x with
 |.neg,.int k m=>some (.int k (gn k (0-m)))
 |.not,.bool b=>some (.bool (!b))
 |.xor,.int .u64 m=>some (.int .u64 (xf .u64 (Nat.xor 18446744073709551615 (qU .u64 m))))
 |.xor,.int .u32 m=>some (.int .u32 (xf .u32 (Nat.xor 4294967295 (qU .u32 m))))
 |_,_=>none
theorem Ro(H:gm B0 w0 g O G w){op:UnOp}{x x' v:Value}(h:Xy op x=some v)(rx:fK g x x'):iA B0 w0 g O G n w ((Op.unary op x').run P w) (v,[],0):=by
 unfold Xy at h
 split at h
 · rename_i k m
   cases h;obtain rfl:=rx.kU
   refine iA.pure H ?_ (.int _ _)
   rw[tI];rfl
 · cases h;obtain rfl:=rx.rR
   exact iA.pure H rfl (.bool _)
 · rename_i m
   cases h;obtain rfl:=rx.kU
   refine iA.pure H ?_ (.int _ _)
   exact u5 (op:=.xor) (k:=.u64) (x:=18446744073709551615) (y:=m) rfl P w
 · rename_i m
   cases h;obtain rfl:=rx.kU
   refine iA.pure H ?_ (.int _ _)
   exact u5 (op:=.xor) (k:=.u32) (x:=4294967295) (y:=m) rfl P w
 · cases h
def Dn(T:Ty)(t:TypeId)(x:Value):Option Value:=
 match T.jh t with
 |some (.interface _)=>none
 |some _=>some (.iface t x)
 |none=>none
theorem GN(ok:T.Ok P)(H:gm B0 w0 g O G w){t:TypeId}{x x' v:Value}(h:Dn T t x=some v)(rx:fK g x x'):iA B0 w0 g O G n w ((Instr.makeInterface t x').run P w) (v,[],0):=by
 unfold Dn at h
 split at h
 · cases h
 · rename_i d hn hu
   cases h
   refine iA.pure H ?_ (.iface rx)
   unfold Instr.makeInterface
   rw[fk (ok.gQ hu w)]
   cases d<;>first|rfl|exact(hn _ rfl).elim
 · cases h
def Ex(fn:Fn)(x y:Array Value):Option Value:=
 match fn with
 |.func _=>some (.func fn x y)
 |.method _=>some (.func fn x y)
 |_=>none
theorem HP(H:gm B0 w0 g O G w){fn:Fn}{x y x' y':Array Value}{v:Value}(h:Ex fn x y=some v)(rx:sf g x x')(b:sf g y y'):iA B0 w0 g O G n w ((Instr.makeFunc fn x' y').run P w) (v,[],0):=by
 unfold Ex at h
 split at h
 · cases h;exact iA.pure H rfl (.func rx.1 b.1 rx.2 b.2)
 · cases h;exact iA.pure H rfl (.method rx.1 b.1 rx.2 b.2)
 · cases h
def GO(x:Value)(i:Nat):Option Value:=
 match x with
 |.tuple vs=>vs.toList[i]?
 |_=>none
theorem I8(H:gm B0 w0 g O G w){x x' v:Value}{i:Nat}(h:GO x i=some v)(rx:fK g x x'):iA B0 w0 g O G n w ((Instr.extract x' i).run P w) (v,[],0):=by
 unfold GO at h
 split at h
 · obtain⟨b,rfl,hx⟩:=rx.En
   obtain⟨v',h1,D⟩:=hx.toList.get h
   have:b[i]?=some v':=by simpa using h1
   refine iA.pure H (v':=v') ?_ D
   simp only[Instr.extract,this]
   rfl
 · cases h
def kZ(c a b:Value):Option Value:=
 match c with
 |.bool true=>some a
 |.bool false=>some b
 |_=>none
def Ey(x:Value):Option Value:=
 match x with
 |.pointer (some _)=>some x
 |.func (.func _) _ _=>some x
 |.func (.yield _) _ _=>some x
 |.iface _ _=>some x
 |_=>none
def GP(T:Ty)(O:Hp)(t:TypeId)(x:Value):Option Value:=
 match T.jh t,x with
 |some .string,.string s=>some (.int .i64 (.ofNat s.data.toList.length))
 |some (.array k _),_=>some (.int .i64 (.ofNat k))
 |some (.slice _),.slice _ l _=>some (.int .i64 (.ofNat l))
 |some (.map _ _),.map none=>some (.int .i64 0)
 |some (.map _ _),.map (some r)=>match O r with
  |some (.map es _)=>some (.int .i64 (.ofNat es.length))
  |_=>none
 |_,_=>none
theorem gm.As(H:gm B0 w0 g O G w){b:Nat}{es:List MapEntry}{c:Nat}(h:O b=some (.map es c)){rb ro:Nat}(hb:g.fW b=some (rb,ro)):
 ∃e,ro=0/\w.heap[rb]?=some (.map e c)/\B0<=rb/\kP g es e.toList:=by
 obtain⟨jo,a2,a3⟩:=(H.live b _ h).2 _ _ hb
 cases jo<;>first|exact a3.elim|skip
 obtain⟨rfl,j,rfl,m⟩:=a3
 exact⟨_,rfl,a2,j,m⟩
theorem oy{r:Nat}{o:Obj}(h:w.heap[r]?=some o)(hc:∀c e f,o≠.cells c e f):(getObj r).run P w=.ok o w:=by
 unfold getObj
 simp only[Sem.run,h]
 all_goals (cases o<;>first|exact(hc _ _ _ rfl).elim|rfl)
theorem PT(ok:T.Ok P)(H:gm B0 w0 g O G w){t:TypeId}{ts:Array TypeId}(e:ts[0]?=some t){x x' v:Value}(h:GP T O t x=some v)(rx:fK g x x')(args:Array Value)(b:args[0]?=some x')(ty:TypeId):
 iA B0 w0 g O G n w ((Builtin.len_ ts ty args).run P w) (v,[],0):=by
 unfold GP at h
 split at h
 · rename_i s hu
   cases h;obtain rfl:=rx.kY
   refine iA.pure H ?_ (.int _ _)
   simp only[Builtin.len_,e,b]
   rw[fk (ok.gQ hu w)]
   show Result.ok _ w=_
   unfold goInt
   rw[Array.length_toList];rfl
 · rename_i k el hu
   cases h
   refine iA.pure H ?_ (.int _ _)
   simp only[Builtin.len_,e,b]
   rw[fk (ok.gQ hu w)]
   cases x'<;>rfl
 · rename_i el a l c hu
   cases h
   refine iA.pure H ?_ (.int _ _)
   simp only[Builtin.len_,e,b]
   rw[fk (ok.gQ hu w)]
   cases rx<;>rfl
 · rename_i hu
   cases h;obtain rfl:=rx.qc
   refine iA.pure H ?_ (.int _ _)
   simp only[Builtin.len_,e,b]
   rw[fk (ok.gQ hu w)]
   rfl
 · rename_i r hu
   split at h
   · rename_i es c hr
     cases h
     obtain⟨rr,hg,rfl⟩:=rx.vW
     obtain⟨j,_,a2,_,a4⟩:=H.As hr hg
     refine iA.pure H ?_ (.int _ _)
     simp only[Builtin.len_,e,b]
     rw[fk (ok.gQ hu w)]
     simp only
     rw[fk (oy a2 (fun _ _ _ h=>by cases h))]
     show Result.ok _ w=_
     unfold goInt
     rw[a4.1,Array.length_toList];rfl
   · cases h
 · cases h
end
end
end Sw
namespace Sw
noncomputable section
open Go Go.RowKit
def CA(b:UInt8):Value:=.int .u8 b.toNat
def pE(T:Ty)(xt:TypeId)(x:Value):Option (Nat×Bool):=
 match T.jh xt,x with
 |some (.int _),.int _ (.ofNat l)=>bif Nat.blt l 2147483648 then some (l,true)else none
 |some (.int _),_=>none
 |some _,.slice _ l _=>some (l,false)
 |some _,.string s=>some ((strs s).length,false)
 |_,_=>none
def lL(O:Hp)(k:Nat)(x:Value):Option (List Value):=
 match x with
 |.slice (some ⟨b,off,none⟩) _ _=>match k with
  |0=>some []
  |_=>match O b with
   |some (.cells Z _)=>lH k (Z.drop off)
   |_=>none
 |.slice (some _) _ _=>match k with|0=>some []|_=>none
 |.slice none _ _=>some []
 |.string s=>lH k ((strs s).map CA)
 |_=>none
section
variable {T:Ty}{P:Program}{B0:Nat}{w0:World}{g:Gm}{O:Hp}{G n:Nat}{w:World}
theorem CB(H:gm B0 w0 g O G w){k m size:Nat}{x x':Value}{l:List Value}(h:lL O k x=some l)(rx:fK g x x')(hk:k=m*size)(hs:∀s,x=.string s->size=1/\m<=(strs s).length)
 (hl:∀a l c,x=.slice a l c->m<=l):∃j,(Builtin.firstCells size m x').run P w=.ok j.toArray w/\gV g l j:=by
 have zero:∀a:Addr,m*size=0->(Builtin.firstCells size m (.slice (some a) 0 0)).run P w=.ok #[] w:=fun a h0=>by
  simp only[Builtin.firstCells]
  rw[h0];rfl
 unfold lL at h
 split at h
 · rename_i b off z y
   have hm:=hl _ _ _ rfl
   rcases rx.mW with⟨a2,rfl,rfl,rfl⟩|⟨_,rb,ro,c2,hg,_,_,rfl⟩
   · have u:m=0:=by omega
     subst u
     simp only[Nat.zero_mul]at hk
     subst hk
     cases h
     exact⟨[],zero a2 (by omega),gV.nil g⟩
   · split at h
     · cases h
       refine⟨[],?_,gV.nil g⟩
       simp only[Builtin.firstCells]
       rw[<-hk];rfl
     · split at h
       · rename_i Z A hb
         obtain⟨j,h1,D⟩:=H.loadCells (P:=P) hb hg h
         refine⟨j,?_,D⟩
         simp only[Builtin.firstCells]
         rw[<-hk];exact h1
       · cases h
 · split at h
   · cases h
     refine⟨[],?_,gV.nil g⟩
     rcases rx.mW with⟨a2,rfl,rfl,rfl⟩|⟨_,rb,ro,c2,hg,_,_,rfl⟩<;>
     · simp only[Builtin.firstCells]
       rw[<-hk];rfl
   · cases h
 · cases h
   obtain⟨_,_,rfl⟩:=rx.lW
   exact⟨[],rfl,gV.nil g⟩
 · rename_i s
   obtain rfl:=rx.kY
   obtain⟨h1,D⟩:=hs s rfl
   subst h1
   simp only[Nat.mul_one]at hk
   subst hk
   obtain⟨rfl,_⟩:=vZ _ _ _ h
   refine⟨((strs s).map CA).take k,?_,?_⟩
   · simp only[Builtin.firstCells]
     have:(s.extract 0 k).data.map (fun b=>(Value.int .u8 b.toNat))=(((strs s).map CA).take k).toArray:=by
      rw[Af]
      unfold strs
      simp only[List.drop_zero,Nat.sub_zero,List.map_toArray,<-List.map_take]
      rfl
     rw[this];rfl
   · refine⟨rfl,fun i v v' e o=>?_⟩
     rw[e]at o;cases o
     rw[List.getElem?_take]at e
     split at e
     · rw[List.getElem?_map]at e
       cases p:(strs s)[i]? with
       |none=>rw[p]at e;cases e
       |some b=>rw[p]at e;cases e;exact .int _ _
     · cases e
 · cases h
theorem gV.Wg{x x':List Value}(h:gV g x x')(j:x.all one=true):∀v∈x',one v=true:=by
 rw[List.all_eq_true]at j
 intro v' m
 obtain⟨i,hi,e⟩:=gD.1 m
 have b:i<x.length:=by rw[h.1];exact hi
 have:=h.2 i x[i] x'[i] (ff b) (ff hi)
 rw[e]at this
 rw[<-this.one]
 exact j _ (List.getElem_mem b)
theorem Rq(m:Nat):∀(r c:Nat),c<=2*m+192->Builtin.growBy m r c<=2*m+192:=by
 intro r
 induction r with
 |zero=>intro c h;exact h
 |succ r ih=>
  intro c h
  unfold Builtin.growBy
  split
  · exact h
  · exact ih _ (by omega)
theorem nextslicecap_le{m c:Nat}(h:c<m):Builtin.nextslicecap m c<=2*m+192:=by
 unfold Builtin.nextslicecap
 split
 · omega
 · split
   · omega
   · exact Rq m 4 c (by omega)
def uD(size:Nat)(x:Value):Bool:=
 match x with
 |.string _=>Nat.beq size 1
 |_=>true
def lX(O:Hp)(z:Value)(m size:Nat)(mO:Bool)(x:Value):Option (List Value):=
 bif mO then some (kH m z.cells.toList)else bif uD size x then lL O (m*size) x else none
theorem Ez{O:Hp}{z:Value}{m size:Nat}{x:Value}{new:List Value}(h:lX O z m size false x=some new):lL O (m*size) x=some new/\∀s,x=.string s->size=1:=by
 unfold lX at h
 simp only[cond_false]at h
 cases hs:uD size x with
 |false=>rw[hs]at h;cases h
 |true=>
  rw[hs]at h
  exact⟨h,fun s e=>by subst e;exact fj hs⟩
def beyond(f:Nat)(e:Mem):Bool:=Nat.blt f (e.base+e.len)
theorem EA{f:Nat}{e:Mem}(h:beyond f e=false):e.base+e.len<=f:=by
 unfold beyond at h
 have:¬f<e.base+e.len:=fun k=>by rw[mE.2 k]at h;cases h
 omega
def pM(O:Hp)(base:Option Addr)(l size:Nat)(new:List Value)(m n:Nat):Option p0:=
 match base with
 |none=>some (.slice (some ⟨n+1,0,none⟩) (l+m) (l+m),
   [(n,some (jM.group [⟨n+1,0,new.length⟩])),(n+1,some (jM.cells new ⟨false,some n,0,size⟩))],2)
 |some ⟨b,off,none⟩=>match O b with
  |some (.cells Z mt)=>(match l*size with|0=>some []|k=>lH k (Z.drop off)).bind fun j=>match mt.mG with
   |none=>some (.slice (some ⟨n+1,0,none⟩) (l+m) (l+m),
     [(n,some (jM.group [⟨n+1,0,(j++new).length⟩])),(n+1,some (jM.cells (j++new) ⟨false,some n,0,size⟩))],2)
   |some gr=>match O gr with
    |some (.group ms)=>
     bif (!mt.ro&&Nat.beq mt.unit size)&&oe O (beyond (mt.base+off+l*size)) ms then
      some (.slice (some ⟨n,0,none⟩) (l+m) (l+m),
       mZ (beyond (mt.base+off+l*size)) ms++[(gr,some (jM.group ((ms.filter fun e=>!(beyond (mt.base+off+l*size) e))++([⟨n,mt.base+off,(j++new).length⟩]:List Mem)))),
        (n,some (jM.cells (j++new) ⟨false,some gr,mt.base+off,size⟩))],1)
     else none
    |_=>none
  |_=>none
 |_=>none
def jN(T:Ty)(O:Hp)(st xt:TypeId)(s x:Value)(n:Nat):Option p0:=
 match T.jh st,s with
 |some (.slice el),.slice base l c=>
  match T.size el,T.zero el,T.kd el,pE T xt x with
  |some size,some z,some inf,some (m,mO)=>
   (lX O z m size mO x).bind fun new=>
     bif new.all one&&(Nat.ble ((l+m)*inf.bytes) 70368744177664&&(Nat.ble inf.bytes 1073741824&&Nat.ble (l+m) 70368744177664))then
      (bif Nat.ble (l+m) c then
        (match base,new with
        |_,[]=>some (.slice base (l+m) c,[],0)
        |some ⟨b,off,none⟩,new=>match O b with
         |some (.cells Z mt)=>(oh O b Z mt (off+l*size) new).map fun u=>(.slice base (l+m) c,u,0)
         |_=>none
        |_,_=>none)
      else pM O base l size new m n)
     else none
  |_,_,_,_=>none
 |_,_=>none
theorem HQ{xt:TypeId}{x x':Value}{m:Nat}{mO:Bool}(h:pE T xt x=some (m,mO))(rx:fK g x x')(w:World):
 ∃d,T.jh xt=some d/\(match d with|.int _=>true|_=>false)=mO/\
  (mO=true->∃k,x'=.int k (m:Int)/\m<2147483648)/\(mO=false->(Builtin.lenOf x').run P w=.ok m w/\(∀s,x=.string s->m=(strs s).length)/\∀a l c,x=.slice a l c->m=l):=by
 unfold pE at h
 split at h
 · rename_i b kx l hu
   cases hb:Nat.blt l 2147483648 with
   |false=>rw[hb]at h;cases h
   |true=>
    rw[hb]at h
    cases h
    obtain rfl:=rx.kU
    exact⟨_,hu,rfl,fun _=>⟨_,rfl,mE.1 hb⟩,fun h=>by cases h⟩
 · cases h
 · rename_i d a l c hn hu
   cases h
   refine⟨d,hu,?_,fun h=>(by cases h),fun _=>⟨?_,fun s h=>(by cases h),fun a l c h=>(by cases h;rfl)⟩⟩
   · cases d<;>first|rfl|exact(hn _ rfl).elim
   · cases rx<;>rfl
 · rename_i d s hn hu
   cases h
   refine⟨d,hu,?_,fun h=>(by cases h),fun _=>⟨?_,fun s h=>(by cases h;rfl),fun a l c h=>(by cases h)⟩⟩
   · cases d<;>first|rfl|exact(hn _ rfl).elim
   · obtain rfl:=rx.kY
     show Result.ok _ w=_
     rw[show(strs s).length=s.size from by unfold strs;rw[Array.length_toList];rfl]
 · cases h
theorem CD(ok:T.Ok P){el:TypeId}{z:Value}{size:Nat}(o:T.zero el=some z)(p:z.cells.size=size)(H:gm B0 w0 g O G w){m:Nat}{mO:Bool}{x x':Value}{new:List Value}
 (h:lX O z m size mO x=some new) (rx:fK g x x') (hn:mO=false->(∀s,x=.string s->m=(strs s).length)/\∀a l c,x=.slice a l c->m=l):
 ∃b,((if !mO then Builtin.firstCells size m x' else if m*size=0 then pure #[]else do pure (Builtin.zeroCells (<-zeroValue el).cells m):Sem (Array Value))).run P w=.ok b.toArray w/\gV g new b/\(mO=true->new.length=m*size):=by
 cases mO with
 |true=>
  unfold lX at h
  simp only[cond_true,Option.some.injEq]at h
  subst h
  have hl:∀k,(kH k z.cells.toList).length=k*size:=fun k=>by
   induction k with
   |zero=>simp[kH]
   |succ k ih=>simp only[kH,List.length_append,ih,Array.length_toList,p];rw[Nat.succ_mul];omega
  refine⟨kH m z.cells.toList,?_,(gV.BF (ok.qT o)).kH m,fun _=>hl m⟩
  simp only[Bool.not_true,Bool.false_eq_true,if_false]
  by_cases h0:m*size=0
  · rw[if_pos h0]
    have:=hl m
    rw[h0]at this
    rw[List.length_eq_zero_iff.1 this]
    rfl
  · rw[if_neg h0,fk (ok.qe o w)]
    have:Builtin.zeroCells z.cells m=(kH m z.cells.toList).toArray:=by
     unfold Builtin.zeroCells
     rw[<-Cy z.cells m]
    rw[this];rfl
 |false=>
  obtain⟨h,j⟩:=Ez h
  obtain⟨h1,D⟩:=hn rfl
  obtain⟨A,u,y⟩:=CB (P:=P) H h rx rfl (fun s e=>⟨j s e,by rw[h1 s e];exact e9 _⟩) (fun a l c e=>by rw[D a l c e];exact e9 _)
  exact⟨A,by simpa using u,y,fun h=>by cases h⟩
structure CE(T:Ty)(P:Program)(st xt el:TypeId)(size:Nat)(qV:Array TypeId)(oz:Array Value)(base:Option Addr)(l c m:Nat)(x':Value)(mO:Bool)(inf:TypeInfo):Prop where
 jh:T.jh st=some (.slice el)
 size:T.size el=some size
 ZD:qV[0]?=some st
 VJ:qV[1]?=some xt
 a0:oz[0]?=some (.slice base l c)
 a1:oz[1]?=some x'
 xd:∃d,T.jh xt=some d/\(match d with|.int _=>true|_=>false)=mO
 ZE:mO=true->∃k,x'=.int k (m:Int)/\m<2147483648
 len:mO=false->∀w,(Builtin.lenOf x').run P w=.ok m w
 BI:T.kd el=some inf
 small:(l+m)*inf.bytes<=70368744177664/\inf.bytes<=1073741824/\l+m<=70368744177664
theorem wrap_small{m:Nat}(h:m<2147483648):IntKind.i64.wrap (m:Int)=m:=by
 have:=tI .i64 (m:Int)
 rw[<-this]
 show gn .i64 (.ofNat m)=_
 unfold gn
 have hr:qU .i64 (.ofNat m)=m:=by
  show m%18446744073709551616=m
  exact Nat.mod_eq_of_lt (by omega)
 rw[hr]
 unfold xf
 have:Nat.ble (An .i64) m=false:=by
  cases hb:Nat.ble (An .i64) m with
  |false=>rfl
  |true=>have:=fa hb;simp only[An]at this;omega
 rw[this];rfl
theorem CE.fits(ok:T.Ok P){st xt el:TypeId}{size:Nat}{qV:Array TypeId}{oz:Array Value}{base:Option Addr}{l c m:Nat}{x':Value}{mO:Bool}{inf:TypeInfo}
 (A:CE T P st xt el size qV oz base l c m x' mO inf) {j:List Value}
 (hn:((if !mO then Builtin.firstCells size m x' else if m*size=0 then pure #[]else do pure (Builtin.zeroCells (<-zeroValue el).cells m):Sem (Array Value))).run P w=.ok j.toArray w) (b:l+m<=c) (ty:TypeId) {w':World}
 (o:∀a,base=some a->(storeCells (a.add (l*size)) j).run P w=.ok () w') (e:base=none->w'=w):
 (Builtin.append_ qV ty oz).run P w=.ok (.slice base (l+m) c) w':=by
 obtain⟨d,hd,p⟩:=A.xd
 unfold Builtin.append_
 simp only[A.ZD,A.VJ,A.a0,A.a1]
 rw[fk (ok.gQ A.jh w)]
 simp only
 rw[fk (ok.n_ A.size w),fk (ok.gQ hd w),pure_bind]
 cases mO with
 |true=>
  cases d<;>first|(cases p;done)|skip
  obtain⟨k,rfl,hk⟩:=A.ZE rfl
  simp only[if_true,asInt,asIntOf,pure_bind,wrap_small hk]
  rw[if_neg (by omega),fk (ok.rT A.BI w),if_neg (by
   have h1:m*inf.bytes<=(l+m)*inf.bytes:=Nat.mul_le_mul_right _ (by omega)
   have:=A.small.1
   have D:((m:Int)*(inf.bytes:Int))=((m*inf.bytes:Nat):Int):=by rw[Int.natCast_mul]
   rw[D];omega)]
  simp only[Int.toNat_natCast,if_pos b]
  rw[fk hn]
  cases base with
  |none=>rw[e rfl];rfl
  |some a=>simp only;rw[fk (o a rfl)];rfl
 |false=>
  have hl:=A.len rfl w
  split
  · cases p
  · simp only[Bool.false_eq_true,if_false]
    rw[fk hl,if_pos b,fk hn]
    cases base with
    |none=>rw[e rfl];rfl
    |some a=>simp only;rw[fk (o a rfl)];rfl
theorem CF(gk c:Nat)(el:TypeId)(w:World):∃t,gk<=t/\(choose (.appendCap gk c el)).run P w=.ok t w.drew:=
 ⟨gk+(w.tape w.drawn (.appendCap gk c el))%(2^63-gk),gv _ _,rfl⟩
theorem run_askRoom(b:Nat)(w:World):(askRoom b).run P w=.ok () w:=by
 unfold askRoom
 split<;>rfl
theorem CE.VK(ok:T.Ok P){st xt el:TypeId}{size:Nat}{qV:Array TypeId}{oz:Array Value}{base:Option Addr}{l c m:Nat}{x':Value}{mO:Bool}{inf:TypeInfo}
 (A:CE T P st xt el size qV oz base l c m x' mO inf) {j e:List Value} {z:Value} (F:T.zero el=some z)
 (hn:((if !mO then Builtin.firstCells size m x' else if m*size=0 then pure #[]else do pure (Builtin.zeroCells (<-zeroValue el).cells m):Sem (Array Value))).run P w.drew=.ok e.toArray w.drew)
 (E:(Builtin.firstCells size l (.slice base l c)).run P w.drew=.ok j.toArray w.drew) (C:c<l+m) (ty:TypeId):
 ∃t,l+m<=t/\(Builtin.append_ qV ty oz).run P w=.ok (.slice (some ⟨w.heap.size,0,none⟩) (l+m) t) (w.drew.alloc (.cells (j++e++kH (t-(l+m)) z.cells.toList).toArray el)):=by
 obtain⟨d,hd,B⟩:=A.xd
 obtain⟨t,J,u⟩:=CF (P:=P) (l+m) c el w
 have y:∀k,Builtin.zeroCells z.cells k=(kH k z.cells.toList).toArray:=fun k=>by
  unfold Builtin.zeroCells;rw[<-Cy z.cells k]
 refine⟨t,J,?_⟩
 have o:¬(((l+m:Nat):Int)>IntKind.i64.max):=fun h1=>by
  have D:=A.small.2.2
  have h3:IntKind.i64.max=9223372036854775807:=by decide
  rw[h3]at h1
  omega
 have p:¬(Builtin.nextslicecap (l+m) c*inf.bytes>2^48):=fun h=>by
  have h1:=nextslicecap_le C
  obtain⟨s1,s2,_⟩:=A.small
  have D:Builtin.nextslicecap (l+m) c*inf.bytes<=(2*(l+m)+192)*inf.bytes:=gH _ h1
  have h3:(2*(l+m)+192)*inf.bytes=2*((l+m)*inf.bytes)+192*inf.bytes:=by rw[Nat.add_mul,Nat.mul_assoc]
  omega
 unfold Builtin.append_
 simp only[A.ZD,A.VJ,A.a0,A.a1]
 rw[fk (ok.gQ A.jh w)]
 simp only
 rw[fk (ok.n_ A.size w),fk (ok.gQ hd w),pure_bind]
 have b:¬(l+m<=c):=by omega
 cases mO with
 |true=>
  cases d<;>first|(cases B;done)|skip
  obtain⟨k,rfl,hk⟩:=A.ZE rfl
  simp only[if_true,asInt,asIntOf,pure_bind,wrap_small hk]
  rw[if_neg (by omega),fk (ok.rT A.BI w),if_neg (by
   have h1:m*inf.bytes<=(l+m)*inf.bytes:=Nat.mul_le_mul_right _ (by omega)
   have:=A.small.1
   have D:((m:Int)*(inf.bytes:Int))=((m*inf.bytes:Nat):Int):=by rw[Int.natCast_mul]
   rw[D];omega)]
  simp only[Int.toNat_natCast,if_neg b]
  rw[fk (ok.rT A.BI w),if_neg (fun h=>o h.1),fk (ok.rT A.BI w),if_neg p,fk u,fk (ok.rT A.BI w.drew),fk (run_askRoom _ _),fk E,fk hn,fk (ok.qe F w.drew),fk (tk _ _ _)]
  rw[y]
  simp
 |false=>
  have hl:=A.len rfl w
  split
  · cases B
  · simp only[Bool.false_eq_true,if_false]
    rw[fk hl,if_neg b,fk (ok.rT A.BI w),if_neg (fun h=>o h.1),fk (ok.rT A.BI w),if_neg p,fk u,fk (ok.rT A.BI w.drew),fk (run_askRoom _ _),fk E,fk hn,fk (ok.qe F w.drew),fk (tk _ _ _)]
    rw[y]
    simp
theorem EB{α:Type}{k:Nat}{l r:List α}(h:lH k l=some r):r.length=k:=by
 obtain⟨rfl,D⟩:=vZ _ _ _ h
 simp;omega
theorem A7{α:Type}(z:List α):∀k,(kH k z).length=k*z.length
 |0=>by simp[kH]
 |k+1=>by simp only[kH,List.length_append,A7 z k];rw[Nat.succ_mul];omega
theorem L4{z:Value}{size m:Nat}{mO:Bool}{x x':Value}{new:List Value}(h:lX O z m size mO x=some new)(b:z.cells.size=size)(rx:fK g x x')
 (hn:mO=false->∀a l c,x=.slice a l c->m=l):new.length=m*size:=by
 cases mO with
 |true=>
  unfold lX at h
  simp only[cond_true,Option.some.injEq]at h
  subst h
  rw[A7,Array.length_toList,b]
 |false=>
  obtain⟨h,_⟩:=Ez h
  unfold lL at h
  split at h
  · split at h
    · rename_i h0
      cases h;simp;exact h0.symm
    · split at h
      · exact EB h
      · cases h
  · split at h
    · rename_i h0;cases h;simp;exact h0.symm
    · cases h
  · rename_i l c
    cases h
    obtain⟨rfl,_,_⟩:=rx.lW
    have:=hn rfl _ _ _ rfl
    subst this;simp
  · exact EB h
  · cases h
theorem gm.GQ(H:gm B0 w0 g O G w)(f0:Di g O n)(f1:Di g O (n+1)){e5:Nat}(h1:G<=e5)(D:n+2<=e5){Z lA rest:List Value}(hc:gV g Z lA)(el:TypeId)(unit:Nat):
 gm B0 w0 (g.add (n+1) (w.heap.size,0) (some ((lA++rest).length,unit))) ((O.set n (some (.group [⟨n+1,0,Z.length⟩]))).set (n+1) (some (.cells Z ⟨false,some n,0,unit⟩))) e5 (w.alloc (.cells (lA++rest).toArray el)):=by
 have H1:gm B0 w0 g (O.set n (some (.group [⟨n+1,0,Z.length⟩]))) e5 w:=H.LI _ h1 (by omega) f0.fW (fun b Z m e k=>by
  obtain⟨ms,a1,_⟩:=H.mem b Z m n e k
  rw[f0.O]at a1;cases a1)
 refine H1.alloc f1.fW f1.room (by rw[Hp.gN _ _ (by omega)];exact f1.O) (e9 _) (by omega) _ _ _ rfl ?_ ?_
 · refine⟨by simp[hc.1],fun i v v' e j=>?_,fun _=>⟨H.base,.inl rfl⟩,fun gr e=>?_,fun e=>by cases e⟩
   · have hi:i<Z.length:=(List.getElem?_eq_some_iff.1 e).1
     simp only[Nat.zero_add,List.getElem?_toArray]at j
     rw[List.getElem?_append,if_pos (by rw[<-hc.1];exact hi)]at j
     exact(hc.2 i v v' e j).mono (Gm.qS f1.fW _ _)
   · rw[Gm.sG]
     simp
 · intro o m1 gr e k
   cases e;cases k
   exact⟨_,Hp.jH _ _ _,fh ..⟩
theorem gm.Rr(H:gm B0 w0 g O G w){gr:Nat}{ms:List Mem}(b:O gr=some (.group ms)){ov:Mem->Bool}(p:oe O ov ms=true)(f0:Di g O n){e5:Nat}(h1:G<=e5)(D:n+1<=e5)
 {Z lA rest:List Value} (hc:gV g Z lA) (el:TypeId) (unit base:Nat):
 gm B0 w0 (g.add n (w.heap.size,0) (some ((lA++rest).length,unit))) (O.uc (mZ ov ms++[(gr,some (jM.group ((ms.filter fun e=>!(ov e))++([⟨n,base,Z.length⟩]:List Mem)))),(n,some (jM.cells Z ⟨false,some gr,base,unit⟩))])) e5
  (w.alloc (.cells (lA++rest).toArray el)):=by
 obtain⟨K,u,A⟩:=H.B7 b ov (zM p) [⟨n,base,Z.length⟩]
 rw[Hp.Dh]
 have m:((O.uc (mZ ov ms)).set gr (some (.group ((ms.filter fun e=>!(ov e))++[⟨n,base,Z.length⟩])))) n=none:=by
  have jB:n≠gr:=fun h=>by subst h;rw[f0.O]at b;cases b
  rw[Hp.gN _ _ jB]
  cases e:(O.uc (mZ ov ms)) n with
  |none=>rfl
  |some o=>have:=(u n o e).1;rw[f0.O]at this;cases this
 refine K.alloc f0.fW f0.room m h1 (by omega) _ _ _ rfl ?_ ?_
 · refine⟨by simp[hc.1],fun i v v' e j=>?_,fun _=>⟨H.base,.inl rfl⟩,fun gr e=>?_,fun e=>by cases e⟩
   · have hi:i<Z.length:=(List.getElem?_eq_some_iff.1 e).1
     simp only[Nat.zero_add,List.getElem?_toArray]at j
     rw[List.getElem?_append,if_pos (by rw[<-hc.1];exact hi)]at j
     exact(hc.2 i v v' e j).mono (Gm.qS f0.fW _ _)
   · rw[Gm.sG]
     simp
 · intro y m1 z e k
   cases e;cases k
   exact⟨_,Hp.jH _ _ _,fI.2 (.inr (fh ..))⟩
end
end
end Sw
namespace Sw
noncomputable section
open Go Go.RowKit
section
variable {T:Ty}{P:Program}{B0:Nat}{w0:World}{g:Gm}{O:Hp}{G n:Nat}{w:World}
theorem gm.yM(H:gm B0 w0 g O G w){b off:Nat}{Z j:List Value}{mt:gi}(hb:O b=some (.cells Z mt)){l size c2:Nat}{o:Option Addr}
 (e:(match l*size with|0=>some []|k=>lH k (Z.drop off))=some j) (hs:(∃a2,l=0/\o=some a2)\/∃rb ro,g.fW b=some (rb,ro)/\o=some ⟨rb,ro+off,none⟩):
 j.length=l*size/\∃m,(Builtin.firstCells size l (.slice o l c2)).run P w=.ok m.toArray w/\gV g j m:=by
 by_cases h0:l*size=0
 · rw[h0]at e
   simp only at e
   cases e
   refine⟨by simp[h0],[],?_,gV.nil g⟩
   rcases hs with⟨a2,_,rfl⟩|⟨rb,ro,_,rfl⟩<;>
   · simp only[Builtin.firstCells]
     rw[h0];rfl
 · obtain⟨k,hk⟩:∃k,l*size=k+1:=⟨l*size-1,by omega⟩
   rw[hk]at e
   simp only at e
   refine⟨by rw[hk];exact EB e,?_⟩
   rcases hs with⟨a2,rfl,_⟩|⟨rb,ro,hg,rfl⟩
   · simp at h0
   · obtain⟨p,h1,D⟩:=H.loadCells (P:=P) hb hg e
     refine⟨p,?_,D⟩
     simp only[Builtin.firstCells]
     rw[hk];exact h1
theorem PU{Z j:List Value}{off k:Nat}(b:(match k with|0=>some []|k=>lH k (Z.drop off))=some j):∀i v,j[i]?=some v->Z[off+i]?=some v/\i<k:=by
 intro i v e
 cases k with
 |zero=>simp only at b;cases b;simp at e
 |succ k=>
  simp only at b
  obtain⟨rfl,_⟩:=vZ _ _ _ b
  rw[List.getElem?_take]at e
  split at e
  · rename_i hi
    exact⟨by simpa using e,hi⟩
  · cases e
theorem KU(ok:T.Ok P)(H:gm B0 w0 g O G w){st xt:TypeId}{s aY x x':Value}{e:p0}(h:jN T O st xt s x n=some e)(aM:fK g s aY)(rx:fK g x x')
 {qV:Array TypeId} {oz:Array Value} (t0:qV[0]?=some st) (t1:qV[1]?=some xt) (a0:oz[0]?=some aY) (a1:oz[1]?=some x') (ty:TypeId):
 iA B0 w0 g O G n w ((Builtin.append_ qV ty oz).run P w) e:=by
 unfold jN at h
 split at h
 · rename_i el base l c hu
   split at h
   · rename_i size z inf m mO ap ak pq aZ
     obtain⟨new,ai,h⟩:=fD.1 h
     cases hb:(new.all one&&(Nat.ble ((l+m)*inf.bytes) 70368744177664&&(Nat.ble inf.bytes 1073741824&&Nat.ble (l+m) 70368744177664)))with
     |false=>rw[hb]at h;cases h
     |true=>
      rw[hb]at h
      simp only[cond_true]at h
      simp only[Bool.and_eq_true]at hb
      obtain⟨aj,b1,b2,aR⟩:=hb
      have b1:=fa b1
      have b2:=fa b2
      have aR:=fa aR
      obtain⟨d,hd,a6,aW,hlen⟩:=HQ (P:=P) aZ rx w
      have af:z.cells.size=size:=by
       have h1:inf.zero=some z:=by
        unfold Ty.zero at ak;rw[pq]at ak;exact ak
       have D:=ok.VI el inf z pq h1
       unfold Ty.size at ap;rw[pq]at ap;cases ap;exact D
      have an:new.length=m*size:=L4 ai af rx (fun hf=>(hlen hf).2.2)
      have aJ:∀w,mO=false->(Builtin.lenOf x').run P w=.ok m w:=fun w1 hf=>by
       obtain⟨_,_,_,_,q⟩:=HQ (P:=P) aZ rx w1
       exact(q hf).1
      have aD:mO=false->(∀s,x=.string s->m=(strs s).length)/\∀a l c,x=.slice a l c->m=l:=fun hf=>⟨(hlen hf).2.1,(hlen hf).2.2⟩
      have hr:∃B c2,aY=.slice B l c2/\c<=c2/\((base=none/\B=none/\l=0/\c=0/\c2=0)\/(∃a a2,base=some a/\B=some a2/\l=0/\c=0/\c2=0)\/
       ∃a rb ro,base=some a/\a.spot=none/\g.fW a.block=some (rb,ro)/\B=some ⟨rb,ro+a.off,none⟩/\l<=c/\FG g a.block (ro+a.off) c c2):=by
       cases base with
       |none=>
        obtain⟨rfl,rfl,rfl⟩:=aM.lW
        exact⟨none,0,rfl,e9 _,.inl ⟨rfl,rfl,rfl,rfl,rfl⟩⟩
       |some a=>
        rcases aM.mW with⟨a2,rfl,rfl,rfl⟩|⟨ae,rb,ro,c2,hg,hl,hc,rfl⟩
        · exact⟨some a2,0,rfl,e9 _,.inr (.inl ⟨a,a2,rfl,rfl,rfl,rfl,rfl⟩)⟩
        · exact⟨_,c2,rfl,by rcases hc with h|⟨h,_⟩<;>omega,.inr (.inr ⟨a,rb,ro,rfl,ae,hg,rfl,hl,hc⟩)⟩
      obtain⟨B,c2,rfl,bx,hr⟩:=hr
      have A:CE T P st xt el size qV oz B l c2 m x' mO inf:=⟨hu,ap,t0,t1,a0,a1,⟨d,hd,a6⟩,aW,fun hf w=>aJ w hf,pq,b1,b2,aR⟩
      obtain⟨F,az,yb,_⟩:=CD (P:=P) (w:=w) ok ak af H ai rx aD
      have aT:F.length=m*size:=by rw[<-yb.1];exact an
      cases C:Nat.ble (l+m) c with
      |true=>
       rw[C]at h
       simp only[cond_true]at h
       have C:=fa C
       split at h
       ·
        cases h
        have:F=[]:=by rw[<-List.length_eq_zero_iff,<-yb.1];rfl
        subst this
        have p:=A.fits (w':=w) ok az (by omega) ty (fun _ _=>rfl) (fun _=>rfl)
        refine iA.pure H p ?_
        rcases hr with⟨rfl,rfl,rfl,rfl,rfl⟩|⟨a,a2,rfl,rfl,rfl,rfl,rfl⟩|⟨a,rb,ro,rfl,ae,hg,rfl,hl,hc⟩
        · have:0+m=0:=by omega
          rw[this];exact .qb
        · have:0+m=0:=by omega
          rw[this];exact .ox _ _
        · obtain⟨bD,bE,bu⟩:=a
          simp only at ae;subst ae
          exact .slice hg C hc
       · rename_i b off jB
         split at h
         · rename_i Z mt J
           obtain⟨u,a_,rfl⟩:=fx.1 h
           have bB:m≠0:=fun h0=>jB (by rw[<-List.length_eq_zero_iff,an,h0];simp)
           rcases hr with⟨E,_⟩|⟨a,a2,_,_,rfl,rfl,_⟩|⟨a,rb,ro,av,ae,hg,rfl,hl,hc⟩
           · cases E
           · omega
           · cases av
             simp only at hg
             have X:∀v∈new,one v=true:=by rw[List.all_eq_true]at aj;exact aj
             obtain⟨w',r1,r2,bj,bI⟩:=v_ (P:=P) H J hg a_ yb X
             have p:=A.fits (w':=w') ok az (by omega) ty (fun a av=>by
              cases av
              rw[Addr.uC]
              simp only[Nat.add_assoc]
              exact r1) (fun h=>by cases h)
             intro e5 h1 D hf
             refine⟨g,_,w',p,Gm.le_refl g,fun _ h=>.inl h,?_,r2.AM h1,bj,by omega,pD.refl _ _⟩
             exact .slice hg C hc
         · cases h
       · cases h
      |false=>
       rw[C]at h
       simp only[cond_false]at h
       have C:c<l+m:=by
        have:¬(l+m<=c):=fun k=>by rw[Nat.ble_eq_true_of_le k]at C;cases C
        omega
       have ar:gm B0 w0 g O G w.drew:=H.of_heap rfl rfl rfl rfl
       obtain⟨M,aP,ax,_⟩:=CD (P:=P) (w:=w.drew) ok ak af ar ai rx aD
       have aU:M.length=m*size:=by rw[<-ax.1];exact an
       unfold pM at h
       split at h
       ·
        cases h
        rcases hr with⟨_,rfl,rfl,rfl,rfl⟩|⟨a,a2,E,_⟩|⟨a,rb,ro,E,_⟩
        · have br:(Builtin.firstCells size 0 (.slice none 0 0)).run P w.drew=.ok ([]:List Value).toArray w.drew:=rfl
          obtain⟨t,aE,p⟩:=A.VK ok ak aP br (by omega) ty
          intro e5 h1 D hf
          have f0:=hf 0 (by show 0<2;omega)
          have f1:=hf 1 (by show 1<2;omega)
          have ah:=ar.GQ f0 f1 h1 D ax (rest:=kH (t-(0+m)) z.cells.toList) el size
          simp only[List.nil_append]at p
          refine⟨_,_,_,p,Gm.qS f1.fW _ _,?_,?_,ah,?_,by simp,pD.new⟩
          · intro b hb
            by_cases aw:b=n+1
            · exact .inr ⟨by omega,by show b<n+2;omega⟩
            · rw[Gm.jY _ _ _ aw]at hb;exact .inl hb
          · refine .slice (off:=0) (Gm.lS _ _ _ _) (Nat.le_refl _) ?_
            by_cases h0:0+m=t
            · exact .inl h0
            · refine .inr ⟨by omega,_,_,Gm.sG _ _ _ _,?_⟩
              rw[List.length_append,A7,aU,show z.cells.toList.length=size from by rw[Array.length_toList,af]]
              rw[<-Nat.add_mul]
              have:m+(t-(0+m))=t:=by omega
              rw[this];omega
          · exact fun rb L hn=>(tj.alloc w.drew _).other rb (by have:rb<w.heap.size:=L;show rb≠w.heap.size;omega)
        · cases E
        · cases E
       · rename_i b off _
         split at h
         · rename_i Z mt J
           obtain⟨ag,hold,h⟩:=fD.1 h
           have a8:(∃a2,l=0/\B=some a2)\/∃rb ro,g.fW b=some (rb,ro)/\B=some ⟨rb,ro+off,none⟩:=by
            rcases hr with⟨E,_⟩|⟨a,a2,_,rfl,rfl,_⟩|⟨a,rb,ro,E,_,hg,rfl,_⟩
            · cases E
            · exact .inl ⟨a2,rfl,rfl⟩
            · cases E;exact .inr ⟨rb,ro,hg,rfl⟩
           obtain⟨bd,aa,be,bf⟩:=ar.yM (P:=P) (c2:=c2) J hold a8
           have aA:gV g (ag++new) (aa++M):=bf.append ax
           have aB:(ag++new).length=(l+m)*size:=by rw[List.length_append,bd,an,Nat.add_mul]
           have aK:(aa++M).length=(l+m)*size:=by rw[<-aA.1];exact aB
           have grown:∀(R:c2<l+m),∃t,l+m<=t/\(Builtin.append_ qV ty oz).run P w=.ok (.slice (some ⟨w.heap.size,0,none⟩) (l+m) t) (w.drew.alloc (.cells ((aa++M)++kH (t-(l+m)) z.cells.toList).toArray el)):=
            fun R=>A.VK ok ak aP be R ty
           have room:∀t,l+m<=t->((aa++M)++kH (t-(l+m)) z.cells.toList).length=t*size:=fun t aE=>by
            rw[List.length_append,aK,A7,Array.length_toList,af,<-Nat.add_mul]
            congr 1;omega
           split at h
           ·
            rename_i am
            cases h
            have R:c2<l+m:=by
             rcases hr with⟨E,_⟩|⟨a,a2,_,_,_,_,rfl⟩|⟨a,rb,ro,E,_,hg,_,_,hc⟩
             · cases E
             · omega
             · cases E
               rcases hc with hc|⟨_,aM,u,ad,_⟩
               · omega
               · obtain⟨N,bo,bp,aX,_,_,_,_,aG⟩:=H.uZ J (by assumption)
                 rw[aG am]at ad;cases ad
            obtain⟨t,aE,p⟩:=grown R
            intro e5 h1 D hf
            have f0:=hf 0 (by show 0<2;omega)
            have f1:=hf 1 (by show 1<2;omega)
            have ah:=ar.GQ f0 f1 h1 D aA (rest:=kH (t-(l+m)) z.cells.toList) el size
            refine⟨_,_,_,p,Gm.qS f1.fW _ _,?_,?_,ah,?_,by simp,pD.new⟩
            · intro b hb
              by_cases aw:b=n+1
              · exact .inr ⟨by omega,by show b<n+2;omega⟩
              · rw[Gm.jY _ _ _ aw]at hb;exact .inl hb
            · refine .slice (off:=0) (Gm.lS _ _ _ _) (Nat.le_refl _) ?_
              by_cases h0:l+m=t
              · exact .inl h0
              · refine .inr ⟨by omega,_,_,Gm.sG _ _ _ _,?_⟩
                rw[room t aE];simp
            · exact fun rb L hn=>(tj.alloc w.drew _).other rb (by have:rb<w.heap.size:=L;show rb≠w.heap.size;omega)
           · rename_i gr W
             split at h
             · rename_i ms qL
               cases al:((!mt.ro&&Nat.beq mt.unit size)&&oe O (beyond (mt.base+off+l*size)) ms)with
               |false=>rw[al]at h;cases h
               |true=>
                rw[al]at h
                simp only[cond_true]at h
                cases h
                rw[Bool.and_eq_true,Bool.and_eq_true]at al
                obtain⟨⟨S,aF⟩,am⟩:=al
                have S:mt.ro=false:=by simpa using S
                have aF:=fj aF
                by_cases R:c2<l+m
                ·
                 obtain⟨t,aE,p⟩:=grown R
                 intro e5 h1 D hf
                 have f0:=hf 0 (by show 0<1;omega)
                 have ah:=ar.Rr qL am f0 h1 D aA (rest:=kH (t-(l+m)) z.cells.toList) el size (mt.base+off)
                 refine⟨_,_,_,p,Gm.qS f0.fW _ _,Gm.Cw,?_,ah,?_,by simp,pD.new⟩
                 · refine .slice (off:=0) (Gm.lS _ _ _ _) (Nat.le_refl _) ?_
                   by_cases h0:l+m=t
                   · exact .inl h0
                   · refine .inr ⟨by omega,_,_,Gm.sG _ _ _ _,?_⟩
                     rw[room t aE];simp
                 · exact fun rb L hn=>(tj.alloc w.drew _).other rb (by have:rb<w.heap.size:=L;show rb≠w.heap.size;omega)
                ·
                 rcases hr with⟨E,_⟩|⟨a,a2,_,_,_,_,rfl⟩|⟨a,rb,ro,E,_,hg,rfl,hl,hc⟩
                 · cases E
                 · omega
                 · cases E
                   simp only at hg hc
                   obtain⟨N,bo,bp,aX,bG,bs,aG,bt,_⟩:=H.uZ J hg
                   rcases hc with hc|⟨_,aM,u,ad,aI⟩
                   · omega
                   · have aL:=bt gr W
                     rw[aL]at ad;cases ad
                     rw[aF]at aI
                     have bq:(l+m)*size<=c2*size:=gH _ (by omega)
                     have bA:(l+m)*size=l*size+m*size:=Nat.add_mul _ _ _
                     have X:=yb.Wg aj
                     obtain⟨w',r1,r2,bj⟩:=Cv (P:=P) (rb:=rb) (k:=ro+off+l*size) F 0 w N aX (by omega) (aG S).2.free X
                     simp only[Nat.add_zero]at r2
                     have p:=A.fits (w':=w') ok az (by omega) ty (fun a av=>by cases av;rw[Addr.uC];exact r1) (fun h=>by cases h)
                     intro e5 h1 D hf
                     have f0:=hf 0 (by show 0<1;omega)
                     simp only[Nat.add_zero]at f0
                     obtain⟨K,bg,bH⟩:=H.B7 qL (beyond (mt.base+off+l*size)) (zM am) [⟨n,mt.base+off,(ag++new).length⟩]
                     have a7:((O.uc (mZ (beyond (mt.base+off+l*size)) ms)).set gr (some (.group ((ms.filter fun e=>!(beyond (mt.base+off+l*size) e))++[⟨n,mt.base+off,(ag++new).length⟩])))) n=none:=by
                      have jB:n≠gr:=fun h=>by subst h;rw[f0.O]at qL;cases qL
                      rw[Hp.gN _ _ jB]
                      cases e:(O.uc (mZ (beyond (mt.base+off+l*size)) ms)) n with
                      |none=>rfl
                      |some o=>have:=(bg n o e).1;rw[f0.O]at this;cases this
                     have aV:(N.toList.take (ro+off+l*size)++F++N.toList.drop (ro+off+l*size+F.length)).toArray.size=N.size:=by simp;omega
                     have aQ:(N.toList.take (ro+off+l*size)).length=ro+off+l*size:=by simp;omega
                     have ay:∀j,j<ro+off+l*size->(N.toList.take (ro+off+l*size)++F++N.toList.drop (ro+off+l*size+F.length)).toArray[j]?=N[j]?:=fun j hj=>by
                      simp only[List.getElem?_toArray]
                      rw[List.append_assoc,List.getElem?_append,aQ,if_pos hj,List.getElem?_take,if_pos hj,Array.getElem?_toList]
                     have ah:=K.Xt (rb:=rb) (pos:=ro+off) (gr:=gr) (base:=mt.base+off) (unit:=size) aX r2 (aG S).1 (aG S).2 aV (n:=n) (e5:=e5) (lo:=ro+off+l*size) f0.fW a7 h1 (by show n<e5;have:n+1<=e5:=D;omega) (ag++new)
                      (by rw[aB];omega) (by
                        intro i v v' e aq
                        rw[List.getElem?_append,bd]at e
                        by_cases hi:i<l*size
                        · rw[if_pos hi]at e
                          rw[ay _ (by omega)]at aq
                          obtain⟨e3,_⟩:=PU hold i v e
                          exact bs (off+i) v v' e3 (by rw[<-Nat.add_assoc];exact aq)
                        · rw[if_neg hi]at e
                          simp only[List.getElem?_toArray]at aq
                          rw[List.append_assoc,List.getElem?_append,aQ,if_neg (by omega),List.getElem?_append]at aq
                          have bz:i-l*size<new.length:=(fe.1 e).1
                          rw[if_pos (by rw[aT];omega),show ro+off+i-(ro+off+l*size)=i-l*size from by omega]at aq
                          exact yb.2 _ v v' e aq) ay (by
                        intro b1 o1 bh e1 e2
                        have aS:b1≠gr:=fun h=>by
                         subst h
                         have:=H.ph _ _ qL
                         rw[this]at e2;cases e2
                        rw[Hp.gN _ _ aS]at e1
                        obtain⟨aN,bk⟩:=bg b1 _ e1
                        by_cases aO:b1=b
                        · subst aO
                          rw[J]at aN;cases aN
                          rw[hg]at e2;cases e2
                          obtain⟨bc,aH,z2⟩:=H.mem b1 Z mt gr J W
                          rw[qL]at aH;cases aH
                          cases ac:beyond (mt.base+off+l*size) ⟨b1,mt.base,Z.length⟩with
                          |true=>exact(bk _ z2 ac rfl).elim
                          |false=>
                           have:=EA ac
                           simp only at this
                           exact⟨Z,mt,rfl,W,by omega,by omega⟩
                        · have aC:=H.sep b1 b _ _ rb bh ro aO aN J e2 hg
                          cases o1<;>first|exact aC.elim|skip
                          rename_i au m1
                          rcases aC with⟨_,y⟩|⟨bw,bl,bn,bJ⟩
                          · rw[S]at y;cases y
                          · rw[W]at bn;cases bn
                            obtain⟨bc,aH,z2⟩:=H.mem b1 au m1 gr aN bl
                            rw[qL]at aH;cases aH
                            cases ac:beyond (mt.base+off+l*size) ⟨b1,m1.base,au.length⟩with
                            |true=>exact(bk _ z2 ac rfl).elim
                            |false=>
                             have:=EA ac
                             simp only at this
                             exact⟨au,m1,rfl,bl,by omega,by omega⟩)
                      ⟨_,Hp.jH _ _ _,fI.2 (.inr (fh ..))⟩
                     refine⟨_,_,w',p,Gm.qS f0.fW (rb,ro+off) (some (N.size,size)),Gm.Cw,?_,?_,?_,by omega,pD.add (.inl ⟨_,_,hg⟩)⟩
                     · have:=fK.slice (g:=g.add n (rb,ro+off) (some (N.size,size))) (b:=n) (off:=0) (rb:=rb) (ro:=ro+off) (l:=l+m) (c1:=l+m) (c2:=c2) (Gm.lS _ _ _ _) (Nat.le_refl _) (by
                        by_cases h0:l+m=c2
                        · exact .inl h0
                        · exact .inr ⟨by omega,_,_,Gm.sG _ _ _ _,by omega⟩)
                       simpa using this
                     · rw[Hp.Dh];exact ah
                     · exact fun r bC hn=>by
                        by_cases L:r=rb
                        · subst L;exact(hn b _ ro J hg).elim
                        · exact r2.other r L
             · cases h
         · cases h
       · cases h
   · cases h
 · cases h
end
end
end Sw
namespace Sw
noncomputable section
open Go Go.RowKit
def EC:Value->Value->Bool
 |.int k a,.int k' b=>wh k k'&&kC a b
 |.string a,.string b=>wF (strs a) (strs b)
 |.bool a,.bool b=>(bif a then b else !b)
 |_,_=>false
def CG:List Value->List Value->Bool
 |[],[]=>true
 |x::xs,y::b=>EC x y&&CG xs b
 |_,_=>false
def BJ:Value->Value->Bool
 |.agg a,.agg b=>CG a.toList b.toList
 |a,b=>EC a b
def Ls(part:TypeId->Nat->Option Value)(rec:TypeId->Value->Bool):List Field->Bool
 |[]=>true
 |f::fs=>(match part f.type f.offset with
  |some p=>rec f.type p
  |none=>false)&&Ls part rec fs
def vn(T:Ty):Nat->TypeId->Value->Bool
 |0,_,_=>false
 |n+1,t,v=>
  match T.jh t,v with
  |some (.int _),_=>true
  |some .string,_=>true
  |some .bool,_=>true
  |some (.struct fs),.agg Z=>Ls (fun t off=>x_ T t Z.toList off) (vn T n) fs.toList
  |_,_=>false
def rJ(T:Ty)(kt:TypeId)(a b:Value):Option Bool:=
 match T.jh kt with
 |some (.int _)=>(match a,b with
  |.int k x,.int k' y=>bif wh k k' then some (kC x y)else none
  |_,_=>none)
 |some .string=>(match a,b with
  |.string x,.string y=>some (wF (strs x) (strs y))
  |_,_=>none)
 |some (.struct _)=>ya T 12 kt a b
 |_=>none
def si(eq:Value->Option Bool):List MapEntry->Nat->Option (Option (Nat×MapEntry))
 |[],_=>some none
 |e::es,i=>match eq e.key with
  |some true=>some (some (i,e))
  |some false=>si eq es (i+1)
  |none=>none
def A8(f:MapEntry->MapEntry):List MapEntry->Nat->List MapEntry
 |[],_=>[]
 |e::es,0=>f e::es
 |e::es,n+1=>e::A8 f es n
def mapOf(O:Hp)(m:Value):Option (List MapEntry×Nat):=
 match m with
 |.map none=>some ([],0)
 |.map (some r)=>(match O r with
  |some (.map es c)=>some (es,c)
  |_=>none)
 |_=>none
def pj(T:Ty)(O:Hp)(t:TypeId)(m k:Value)(b:Bool):Option Value:=
 match T.jh t with
 |some (.map kt el)=>
  (match mapOf O m with
  |some (es,_)=>bif vn T 8 kt k then
    (match si (rJ T kt k) es 0 with
    |some (some (_,e))=>some (bif b then .tuple #[e.val,.bool true]else e.val)
    |some none=>(match T.zero el with
     |some z=>some (bif b then .tuple #[z,.bool false]else z)
     |none=>none)
    |none=>none)else none
  |none=>none)
 |_=>none
def tn(T:Ty)(O:Hp)(t:TypeId)(m k v:Value):Option ub:=
 match T.jh t,m with
 |some (.map kt _),.map (some r)=>(match O r with
  |some (.map es c)=>bif vn T 8 kt k then
    (match si (rJ T kt k) es 0 with
    |some (some (i,e))=>bif BJ e.key k then some [(r,some (.map (A8 (fun e=>⟨k,v,e.born⟩) es i) c))]else none
    |some none=>some [(r,some (.map (es++[⟨k,v,c⟩]) (c+1)))]
    |none=>none)else none
  |_=>none)
 |_,_=>none
def ED(T:Ty)(O:Hp)(t:TypeId)(m k:Value):Option p0:=
 match T.jh t,m with
 |some (.map kt el),.map (some r)=>(match O r with
  |some (.map es c)=>bif vn T 8 kt k then
    (match si (rJ T kt k) es 0 with
    |some (some (i,e))=>bif BJ e.key k then some (.tuple #[e.val,.int .i64 (.ofNat e.born)],[(r,some (.map (A8 (fun e=>⟨k,e.val,e.born⟩) es i) c))],0)else none
    |some none=>(match T.zero el with
     |some z=>some (.tuple #[z,.int .i64 (.ofNat c)],[(r,some (.map (es++[⟨k,z,c⟩]) (c+1)))],0)
     |none=>none)
    |none=>none)else none
  |_=>none)
 |_,_=>none
def FM(born:Nat)(v:Value):List MapEntry->Option (List MapEntry)
 |[]=>none
 |e::es=>bif Nat.beq e.born born then some (⟨e.key,v,e.born⟩::es)else(FM born v es).map (e::·)
def B_(O:Hp)(m s v:Value):Option ub:=
 match m,s with
 |.map (some r),.int _ (.ofNat b)=>(match O r with
  |some (.map es c)=>(FM b v es).map fun es=>[(r,some (.map es c))]
  |_=>none)
 |_,_=>none
def Dp(T:Ty)(t:TypeId)(r:Option Value)(n:Nat):Option p0:=
 match r with
 |none=>some (.map (some n),[(n,some (.map [] 0))],1)
 |some (.int _ _)=>(match T.jh t with
  |some (.map _ _)=>some (.map (some n),[(n,some (.map [] 0))],1)
  |_=>none)
 |_=>none
def wi(T:Ty)(t:TypeId)(len cap:Value)(n:Nat):Option p0:=
 match T.jh t,len,cap with
 |some (.slice el),.int _ (.ofNat l),.int _ (.ofNat c)=>
  (match T.kd el with
  |some inf=>(match inf.zero with
   |some z=>bif Nat.ble l c&&(Nat.ble (c*inf.bytes) 1099511627776&&Nat.blt c 2147483648)then some (vB n (kH c z.cells.toList) l c)else none
   |none=>none)
  |none=>none)
 |_,_,_=>none
def EE(x:Value):Option Nat:=
 match x with
 |.slice _ l _=>some l
 |.string s=>some (strs s).length
 |_=>none
def A9(a b:Nat):Nat:=bif Nat.ble a b then a else b
def PV(T:Ty)(O:Hp)(o:TypeId)(d s:Value):Option p0:=
 match T.jh o,d with
 |some (.slice el),.slice base e _=>
  (match T.size el,EE s with
  |some size,some j=>
   (match (bif uD size s then lL O (A9 j e*size) s else none)with
   |some Z=>(match base,Z with
    |_,[]=>some (.int .i64 (.ofNat (A9 j e)),[],0)
    |some ⟨b,off,none⟩,Z=>bif Z.all one then(match O b with
     |some (.cells m mt)=>(oh O b m mt off Z).map fun u=>(.int .i64 (.ofNat (A9 j e)),u,0)
     |_=>none)else none
    |_,_=>none)
   |none=>none)
  |_,_=>none)
 |_,_=>none
def L5(T:Ty)(O:Hp)(t:TypeId)(x:Value):Option p0:=
 match T.jh t with
 |some d=>(match x with
  |.map none=>some (.tuple #[],[],0)
  |.slice none _ _=>some (.tuple #[],[],0)
  |.slice (some _) 0 _=>some (.tuple #[],[],0)
  |.map (some r)=>(match O r with
   |some (.map _ c)=>some (.tuple #[],[(r,some (.map [] c))],0)
   |_=>none)
  |.slice (some ⟨b,off,none⟩) n _=>(match d with
   |.slice el=>(match T.zero el,O b with
    |some z,some (.cells e mt)=>(match oh O b e mt off (kH n z.cells.toList)with
     |some u=>some (.tuple #[],u,0)
     |none=>none)
    |_,_=>none)
   |_=>none)
  |_=>none)
 |none=>none
def TP(T:Ty)(O:Hp)(t:TypeId)(x:Value):Option Value:=
 match T.jh t,x with
 |some (.array n _),_=>some (.int .i64 (.ofNat n))
 |some (.slice _),.slice none _ c=>some (.int .i64 (.ofNat c))
 |some (.slice _),.slice (some a) _ c=>(match O a.block with
  |some (.cells _ mt)=>(match mt.mG with
   |none=>some (.int .i64 (.ofNat c))
   |some _=>none)
  |_=>none)
 |_,_=>none
def max2:Value->Value->Option Value
 |.int k x,.int _ y=>some (.int k (bif rI x y then y else x))
 |_,_=>none
def min2:Value->Value->Option Value
 |.int k x,.int _ y=>some (.int k (bif rI y x then y else x))
 |_,_=>none
def Lt(f:Value->Value->Option Value):Value->List Value->Option Value
 |x,[]=>some x
 |x,y::b=>(match f x y with
  |some z=>Lt f z b
  |none=>none)
def I9(f:Value->Value->Option Value):List Value->Option Value
 |[]=>none
 |x::xs=>Lt f x xs
def bytesOf:List Value->Option (List UInt8)
 |[]=>some []
 |.int .u8 (.ofNat k)::vs=>(match bytesOf vs with
  |some b=>some (UInt8.ofNat k::b)
  |none=>none)
 |_=>none
def uE(T:Ty)(O:Hp)(s d:TypeId)(x:Value)(n:Nat):Option p0:=
 match T.jh s,T.jh d,x with
 |some _,some (.int k),.int _ m=>some (.int k (gn k m),[],0)
 |some _,some .string,.string s=>some (.string s,[],0)
 |some _,some (.slice e),.string s=>(match T.jh e with
  |some (.int .u8)=>some (.slice (some ⟨n+1,0,none⟩) (strs s).length (strs s).length,
    [(n,some (jM.group [⟨n+1,0,(strs s).length⟩])),(n+1,some (jM.cells ((strs s).map CA) ⟨false,some n,0,1⟩))],2)
  |_=>none)
 |some (.slice e),some .string,.slice base l _=>(match T.jh e with
  |some (.int .u8)=>bif Nat.beq l 0 then some (.string ⟨#[]⟩,[],0)else(match base with
   |none=>some (.string ⟨#[]⟩,[],0)
   |some ⟨b,off,none⟩=>(match O b with
    |some (.cells Z _)=>(match lH l (Z.drop off)with
     |some vs=>(match bytesOf vs with
      |some j=>some (.string ⟨j.toArray⟩,[],0)
      |none=>none)
     |none=>none)
    |_=>none)
   |_=>none)
  |_=>none)
 |some (.slice _),some (.slice e),.slice (some ⟨b,off,none⟩) l c=>bif Nat.beq s d then(match T.jh e,O b with
  |some (.int .u8),some (.cells _ mt)=>bif mt.ro||Nat.beq c 0 then none else some (.slice (some ⟨b,off,none⟩) l c,[],0)
  |_,_=>none)else none
 |_,_,_=>none
def Ca(T:Ty)(x:Value)(a:TypeId)(b:Bool):Option Value:=
 match T.jh a,x with
 |some (.interface _),_=>none
 |some _,.nilIface=>bif b then(T.zero a).map fun z=>.tuple #[z,.bool false]else none
 |some _,.iface t v=>bif Nat.beq t a then some (bif b then .tuple #[v,.bool true]else v)
   else bif b then(T.zero a).map fun z=>.tuple #[z,.bool false]else none
 |_,_=>none
def L6(T:Ty)(O:Hp)(t:TypeId)(x:Value)(n:Nat):Option p0:=
 match T.jh t,x with
 |some .string,.string s=>some (.pointer (some ⟨n,0,none⟩),[(n,some (.FF s 0))],1)
 |some (.map _ _),.map none=>some (.pointer (some ⟨n,0,none⟩),[(n,some (.mapIter none 0 [] 0))],1)
 |some (.map _ _),.map (some m)=>(match O m with
  |some (.map _ c)=>some (.pointer (some ⟨n,0,none⟩),[(n,some (.mapIter (some m) c [] c))],1)
  |_=>none)
 |_,_=>none
def PW(n:Nat):List Nat->Bool
 |[]=>false
 |x::xs=>Nat.beq x n||PW n xs
def Au(seen:List Nat)(jm:Nat)(b:Bool):List MapEntry->List MapEntry
 |[]=>[]
 |e::es=>bif PW e.born seen then Au seen jm b es else bif (bif Nat.blt e.born jm then b else !b)then e::Au seen jm b es else Au seen jm b es
def EF(last:Nat):List MapEntry->Bool
 |[]=>true
 |e::es=>Nat.ble last e.born&&EF last es
def FN(O:Hp)(m jm:Nat)(seen:List Nat)(last:Nat):Option (List (Option MapEntry)×Nat):=
 match O m with
 |some (.map es clock)=>
  bif !seen.isEmpty&&(!es.isEmpty&&EF last es)then none else
  (match Au seen jm true es with
  |[]=>some (none::(Au seen jm false es).map some,clock)
  |b=>some ((b++Au seen jm false es).map some,clock))
 |_=>none
def L7(O:Hp)(it:Value):Option Value:=
 match it with
 |.pointer (some ⟨r,0,_⟩)=>(match O r with
  |some (.mapIter (some m) _ seen O4)=>(match seen.getLast?,O m with
   |some b,some (.map es clock)=>bif Nat.beq clock O4 then
     (match es.find? (fun e=>Nat.beq e.born b)with
     |some e=>some (.tuple #[e.key,e.val])
     |none=>none)else none
   |_,_=>none)
  |_=>none)
 |_=>none
end
end Sw
namespace Sw
noncomputable section
open Go Go.RowKit
theorem A_{a b:ByteArray}(h:strs a=strs b):a=b:=by
 cases a;cases b
 unfold strs at h
 simp only at h
 rw[Array.toList_inj.1 h]
theorem J9{a b:Value}(h:EC a b=true):a=b/\(∀g v,fK g a v->v=a)/\∀n,Instr.sameBits n a a=true:=by
 unfold EC at h
 split at h
 · rw[Bool.and_eq_true]at h
   obtain rfl:=vC h.1
   obtain rfl:=lJ.1 h.2
   exact⟨rfl,fun g v r=>r.kU,fun n=>by cases n<;>simp[Instr.sameBits]⟩
 · rw[wX,beq_iff_eq]at h
   obtain rfl:=A_ h
   exact⟨rfl,fun g v r=>r.kY,fun n=>by cases n<;>(simp only[Instr.sameBits];rw[ByteArray.I7,wX];simp)⟩
 · rename_i a b
   have:a=b:=by cases a<;>cases b<;>first|rfl|(simp at h)
   subst this
   exact⟨rfl,fun g v r=>r.rR,fun n=>by cases n<;>simp[Instr.sameBits]⟩
 · cases h
theorem J_:∀{x y:List Value},CG x y=true->x=y/\(∀g z,gV g x z->z=x)/\∀n,(x.zip x).all (fun p=>Instr.sameBits n p.1 p.2)=true
 |[],[],_=>⟨rfl,fun g z r=>by have:=r.1;exact(List.length_eq_zero_iff.1 (by simpa using this.symm)),fun n=>rfl⟩
 |[],_::_,h=>by cases h
 |_::_,[],h=>by cases h
 |x::xs,y::m,h=>by
  simp only[CG,Bool.and_eq_true]at h
  obtain⟨rfl,D,h3⟩:=J9 h.1
  obtain⟨rfl,b,e⟩:=J_ h.2
  refine⟨rfl,fun g z r=>?_,fun n=>?_⟩
  · cases z with
    |nil=>have:=r.1;simp at this
    |cons z j=>
     rw[D g z r.head,b g j r.tail]
  · simp only[List.zip_cons_cons,List.all_cons,Bool.and_eq_true]
    exact⟨h3 n,e n⟩
theorem TQ{a b:Value}(h:BJ a b=true):a=b/\(∀g v,fK g a v->v=a)/\∀n,Instr.sameBits (n+1) a a=true:=by
 unfold BJ at h
 split at h
 · obtain⟨h1,D,h3⟩:=J_ h
   have:=Array.toList_inj.1 h1
   subst this
   refine⟨rfl,fun g v r=>?_,fun n=>?_⟩
   · obtain⟨x',rfl,hx⟩:=r.s8
     rw[Array.toList_inj.1 (D g x'.toList hx.toList)]
   · simp only[Instr.sameBits,Bool.and_eq_true,beq_self_eq_true,true_and]
     exact h3 n
 · obtain⟨h1,D,h3⟩:=J9 h
   exact⟨h1,D,fun n=>h3 _⟩
section
variable {T:Ty}{P:Program}{B0:Nat}{w0:World}{g:Gm}{O:Hp}{G n:Nat}{w:World}
theorem Oa(ok:T.Ok P){rec:TypeId->Value->Bool}{m:Nat}{empty:Bool}{w:World}
 (ih:∀t v v',rec t v=true->fK g v v'->(Instr.checkKey empty m t v').run P w=.ok () w) {xs b:Array Value} (hx:sf g xs b):
 ∀(fs:List Field),Ls (fun t off=>x_ T t xs.toList off) rec fs=true->
  (forIn fs PUnit.unit fun f (_:PUnit)=>do
    if f.name≠ "_" then Instr.checkKey empty m f.type (<-part f.type b f.offset)
    pure (ForInStep.yield PUnit.unit):Sem PUnit).run P w=.ok PUnit.unit w:=by
 intro fs
 induction fs with
 |nil=>intro _;rfl
 |cons f fs e=>
  intro h
  simp only[Ls,Bool.and_eq_true]at h
  obtain⟨h1,D⟩:=h
  cases O:x_ T f.type xs.toList f.offset with
  |none=>rw[O]at h1;cases h1
  |some x=>
   rw[O]at h1
   obtain⟨x',j,rx⟩:=tH ok O hx w
   rw[List.forIn_cons]
   have step:(do
    if f.name≠ "_" then Instr.checkKey empty m f.type (<-part f.type b f.offset)
    pure (ForInStep.yield PUnit.unit):Sem (ForInStep PUnit)).run P w=.ok (ForInStep.yield PUnit.unit) w:=by
    by_cases hf:f.name≠ "_"
    · rw[if_pos hf,fk j,fk (ih _ _ _ h1 rx)]
      rfl
    · rw[if_neg hf];rfl
   rw[fk step]
   exact e D
theorem Cb(ok:T.Ok P){empty:Bool}{w:World}:∀(d d':Nat) (t:TypeId) (v v':Value),d<=d'->vn T d t v=true->fK g v v'->(Instr.checkKey empty d' t v').run P w=.ok () w:=by
 intro d
 induction d with
 |zero=>intro d' t v v' _ h;cases h
 |succ d ih=>
  intro d' t v v' hd h r
  obtain⟨d',rfl⟩:∃e,d'=e+1:=⟨d'-1,by omega⟩
  unfold vn at h
  unfold Instr.checkKey
  split at h
  · rename_i hu;rw[fk (ok.gQ hu w)];rfl
  · rename_i hu;rw[fk (ok.gQ hu w)];rfl
  · rename_i hu;rw[fk (ok.gQ hu w)];rfl
  · rename_i fs Z hu
    obtain⟨j,rfl,b⟩:=r.s8
    rw[fk (ok.gQ hu w)]
    have:=Oa (w:=w) (m:=d') (empty:=empty) ok (fun t v v' hr r1=>ih d' t v v' (by omega) hr r1) b fs.toList h
    simp only
    rw[<-Array.forIn_toList]
    exact(fk (f:=fun _=>(pure ():Sem Unit)) this).trans rfl
  · cases h
theorem kP.tail{e j:MapEntry}{x x':List MapEntry}(h:kP g (e::x) (j::x')):kP g x x':=
 ⟨by have:=h.1;simpa using this,fun i a b p q=>h.2 (i+1) a b (by simpa using p) (by simpa using q)⟩
theorem kP.head{e b:MapEntry}{x x':List MapEntry}(h:kP g (e::x) (b::x')):fK g e.key b.key/\fK g e.val b.val/\e.born=b.born:=h.2 0 e b rfl rfl
theorem kP.nil:kP g [] []:=⟨rfl,fun i e b h=>by simp at h⟩
theorem kP.cons{e j:MapEntry}{x x':List MapEntry}(h:fK g e.key j.key/\fK g e.val j.val/\e.born=j.born)(k:kP g x x'):kP g (e::x) (j::x'):=
 ⟨by simp[k.1],fun i a b p q=>by
   cases i with
   |zero=>simp at p q;subst p;subst q;exact h
   |succ i=>simp at p q;exact k.2 i a b p q⟩
def EG(g:Gm)(es:List MapEntry)(i0:Nat)(r:Option (Nat×MapEntry))(j:Option (Nat×Value)):Prop:=
 match r,j with
 |none,none=>True
 |some (i,e),some (b,v')=>i=b/\i0<=i/\es[i-i0]?=some e/\fK g e.val v'
 |_,_=>False
theorem EG.step{e0:MapEntry}{es:List MapEntry}{i0:Nat}{r:Option (Nat×MapEntry)}{b:Option (Nat×Value)}(h:EG g es (i0+1) r b):EG g (e0::es) i0 r b:=by
 unfold EG at*
 split at h
 · trivial
 · obtain⟨h1,D,h3,h4⟩:=h
   refine⟨h1,by omega,?_,h4⟩
   rename_i i e _ _
   obtain⟨j,hj⟩:∃j,i-i0=j+1:=⟨i-i0-1,by omega⟩
   rw[hj];simp only[List.getElem?_cons_succ]
   rw[show j=i-(i0+1)from by omega];exact h3
 · exact h.elim
theorem zP{kind:TypeDesc}{eq:Value->Option Bool}{k':Value}(o:∀v v' b,eq v=some b->fK g v v'->Instr.sameNow kind k' v'=some b):
 ∀(es j:List MapEntry) (i:Nat) (r:Option (Nat×MapEntry)),kP g es j->si eq es i=some r->∃m,Instr.findNow kind k' j i=some m/\EG g es i r m
 |[],[],i,r,_,h=>by simp[si]at h;subst h;exact⟨none,rfl,trivial⟩
 |[],_::_,_,_,h,_=>by have:=h.1;simp at this
 |_::_,[],_,_,h,_=>by have:=h.1;simp at this
 |e::es,p::j,i,r,hr,h=>by
  obtain⟨r1,r2,u⟩:=hr.head
  simp only[si]at h
  split at h
  · rename_i he
    cases h
    refine⟨some (i,p.val),?_,rfl,e9 _,by simp,r2⟩
    simp only[Instr.findNow,o _ _ _ he r1]
  · rename_i he
    obtain⟨m,h1,D⟩:=zP o es j (i+1) r hr.tail h
    refine⟨m,?_,D.step⟩
    simp only[Instr.findNow,o _ _ _ he r1]
    exact h1
  · cases h
theorem Ba{kt:TypeId}{eq:Value->Option Bool}{k':Value}(o:∀v v' b,eq v=some b->fK g v v'->(Op.equal kt k' v').run P w=.ok b w):
 ∀(es j:List MapEntry) (i:Nat) (r:Option (Nat×MapEntry)),kP g es j->si eq es i=some r->∃m,(Instr.findAsking kt k' j i).run P w=.ok m w/\EG g es i r m
 |[],[],i,r,_,h=>by simp[si]at h;subst h;exact⟨none,rfl,trivial⟩
 |[],_::_,_,_,h,_=>by have:=h.1;simp at this
 |_::_,[],_,_,h,_=>by have:=h.1;simp at this
 |e::es,p::j,i,r,hr,h=>by
  obtain⟨r1,r2,u⟩:=hr.head
  simp only[si]at h
  split at h
  · rename_i he
    cases h
    refine⟨some (i,p.val),?_,rfl,e9 _,by simp,r2⟩
    simp only[Instr.findAsking]
    rw[fk (o _ _ _ he r1)];rfl
  · rename_i he
    obtain⟨m,h1,D⟩:=Ba o es j (i+1) r hr.tail h
    refine⟨m,?_,D.step⟩
    simp only[Instr.findAsking]
    rw[fk (o _ _ _ he r1)]
    exact h1
  · cases h
theorem EH{d:Nat}{t:TypeId}{v:Value}(h:vn T d t v=true):∃u,T.jh t=some u:=by
 cases d with
 |zero=>cases h
 |succ d=>
  unfold vn at h
  cases hu:T.jh t with
  |none=>rw[hu]at h;cases h
  |some u=>exact⟨u,rfl⟩
theorem u6(ok:T.Ok P){kt:TypeId}{k k':Value}(A:fK g k k'){es j:List MapEntry}(hr:kP g es j){r:Option (Nat×MapEntry)}(B:∃u,T.jh kt=some u)(h:si (rJ T kt k) es 0=some r):
 ∃m,(Instr.findKey kt k' j).run P w=.ok m w/\EG g es 0 r m:=by
 have empty:∀d,T.jh kt=some d->es=[]->∃m,(Instr.findKey kt k' j).run P w=.ok m w/\EG g es 0 r m:=by
  intro d hu he
  subst he
  have:j=[]:=by have:=hr.1;exact List.length_eq_zero_iff.1 (by simpa using this.symm)
  subst this
  simp[si]at h;subst h
  refine⟨none,?_,trivial⟩
  unfold Instr.findKey
  rw[fk (ok.gQ hu w)];rfl
 cases hu:T.jh kt with
 |none=>obtain⟨u,z⟩:=B;rw[hu]at z;cases z
 |some d=>
  by_cases o:es=[]
  · exact empty d hu o
  · cases d with
    |int J=>
     obtain⟨m,h1,D⟩:=zP (g:=g) (kind:=.int J) (eq:=rJ T kt k) (k':=k') (by
      intro v v' b hb p
      simp only[rJ,hu]at hb
      split at hb
      · rename_i E x F y
        obtain rfl:=A.kU
        obtain rfl:=p.kU
        cases hs:wh E F with
        |false=>rw[hs]at hb;cases hb
        |true=>
         rw[hs]at hb;simp only[cond_true]at hb;cases hb
         obtain rfl:=vC hs
         simp only[Instr.sameNow,if_true]
         rw[Es]
      · cases hb) es j 0 r hr h
     refine⟨m,?_,D⟩
     unfold Instr.findKey
     rw[fk (ok.gQ hu w),h1];rfl
    |string=>
     obtain⟨m,h1,D⟩:=zP (g:=g) (kind:=.string) (eq:=rJ T kt k) (k':=k') (by
      intro v v' b hb p
      simp only[rJ,hu]at hb
      split at hb
      · obtain rfl:=A.kY
        obtain rfl:=p.kY
        cases hb
        simp only[Instr.sameNow]
        rw[ByteArray.I7]
      · cases hb) es j 0 r hr h
     refine⟨m,?_,D⟩
     unfold Instr.findKey
     rw[fk (ok.gQ hu w),h1];rfl
    |struct fs=>
     obtain⟨m,h1,D⟩:=Ba (P:=P) (w:=w) (g:=g) (kt:=kt) (eq:=rJ T kt k) (k':=k') (by
      intro v v' b hb p
      simp only[rJ,hu]at hb
      exact Ew ok 12 Op.maxDepth kt k v k' v' b (by decide) hb A p) es j 0 r hr h
     refine⟨m,?_,D⟩
     unfold Instr.findKey
     rw[fk (ok.gQ hu w)]
     cases es with
     |nil=>exact(o rfl).elim
     |cons e es=>
      cases j with
      |nil=>have:=hr.1;simp at this
      |cons C j=>
       have:Instr.findNow (.struct fs) k' (C::j) 0=none:=by simp[Instr.findNow,Instr.sameNow]
       rw[this];exact h1
    |_=>
     cases es with
     |nil=>exact(o rfl).elim
     |cons e es=>simp only[si,rJ,hu]at h;cases h
end
end
end Sw
namespace Sw
noncomputable section
open Go Go.RowKit
section
variable {T:Ty}{P:Program}{B0:Nat}{w0:World}{g:Gm}{O:Hp}{G n:Nat}{w:World}
theorem qf{r:Nat}{o:Obj}(o':Obj)(h:w.heap[r]?=some o)(hc:∀c e f,o≠.cells c e f):(setObj r o').run P w=.ok () (w.putObj r o'):=by
 unfold setObj
 simp only[Sem.run,h]
 cases o<;>first|exact(hc _ _ _ rfl).elim|rfl
theorem iA.put(H:gm B0 w0 g O G w){r rr:Nat}{o o':jM Tm}{jo:Obj}(hr:O r=some o)(hg:g.fW r=some (rr,0))(u:B0<=rr)
 (hc:∀Z m,o≠.cells Z m) (j:∀Z m,o'≠.cells Z m) (p:o'.AL=false) (b:o7 B0 g r o' rr 0 jo) {x:Result Value} {v v':Value} (hx:x=.ok v' (w.putObj rr jo)) (y:fK g v v'):
 iA B0 w0 g O G n w x (v,[(r,some o')],0):=by
 intro e5 h1 _ _
 refine⟨g,v',_,hx,Gm.le_refl g,fun _ h=>.inl h,y,(H.setObj hr hg hc j p jo u b).AM h1,?_,by simp,pD.refl _ _⟩
 intro rb z hn
 have jA:rr<w.heap.size:=(H.rH _ _ _ hg).2
 exact(tj.putObj jA jo).other rb (fun e=>by subst e;exact hn r o 0 hr hg)
theorem iA.new(H:gm B0 w0 g O G w){o:jM Tm}{jo:Obj}(hc:∀Z m,o≠.cells Z m)(j:o.AL=false)
 (b:Di g O n->o7 B0 (g.add n (w.heap.size,0) none) n o w.heap.size 0 jo) {x:Result Value} {v v':Value} (hx:x=.ok v' (w.alloc jo)) (p:fK (g.add n (w.heap.size,0) none) v v'):
 iA B0 w0 g O G n w x (v,[(n,some o)],1):=by
 intro e5 h1 D hf
 have f0:=hf 0 (by show 0<1;omega)
 simp only[Nat.add_zero]at f0
 have hl:n<e5:=by have:n+1<=e5:=D;omega
 exact⟨_,v',_,hx,Gm.qS f0.fW _ _,Gm.Cw,p,H.alloc f0.fW f0.room f0.O h1 hl o jo none j (b f0) (fun Z m gr e=>(hc _ _ e).elim),vm.alloc _ _ _ _,by simp,pD.new⟩
theorem I_(H:gm B0 w0 g O G w){t:TypeId}(ok:T.Ok P){r b:Option Value}{e:p0}(h:Dp T t r n=some e)(rr:B9 g r b):
 iA B0 w0 g O G n w ((Instr.makeMap t b).run P w) e:=by
 have key:∀x:Result Value,x=.ok (.map (some w.heap.size)) (w.alloc (.map #[] 0))->iA B0 w0 g O G n w x (.map (some n),[(n,some (.map [] 0))],1):=fun x hx=>
  iA.new H (o:=.map [] 0) (jo:=.map #[] 0) (fun _ _ h=>by cases h) rfl (fun _=>⟨rfl,H.base,rfl,kP.nil⟩) hx (.map (Gm.lS _ _ _ _))
 unfold Dp at h
 split at h
 · cases h
   cases b with
   |some _=>exact rr.elim
   |none=>
    refine key _ ?_
    unfold Instr.makeMap
    simp only
    rw[fk (run_newObj _ w)];rfl
 · rename_i k m
   split at h
   · rename_i kt el hu
     cases h
     cases b with
     |none=>exact rr.elim
     |some x'=>
      have:fK g (.int k m) x':=rr
      obtain rfl:=this.kU
      refine key _ ?_
      unfold Instr.makeMap
      simp only
      rw[fk (ok.gQ hu w)]
      rfl
   · cases h
 · cases h
theorem Ob(H:gm B0 w0 g O G w){m e:Value}{es:List MapEntry}{c:Nat}(h:mapOf O m=some (es,c))(j:fK g m e):
 (m=.map none/\e=.map none/\es=[])\/∃r rr b,m=.map (some r)/\e=.map (some rr)/\O r=some (.map es c)/\g.fW r=some (rr,0)/\w.heap[rr]?=some (.map b c)/\B0<=rr/\kP g es b.toList:=by
 unfold mapOf at h
 split at h
 · cases h;obtain rfl:=j.qc;exact .inl ⟨rfl,rfl,rfl⟩
 · rename_i r
   split at h
   · rename_i es c hr
     cases h
     obtain⟨rr,hg,rfl⟩:=j.vW
     obtain⟨b,_,a2,a3,a4⟩:=H.As hr hg
     exact .inr ⟨r,rr,b,rfl,rfl,hr,hg,a2,a3,a4⟩
   · cases h
 · cases h
def GR(kt el:TypeId)(k:Value)(b:Bool)(es:Array MapEntry):Sem Value:=do
 Instr.checkKey es.isEmpty 10000 kt k
 match<-Instr.findKey kt k es.toList with
 |some (_,v)=>pure (if b=true then .tuple #[v,.bool true]else v)
 |none=>do
  let z<-zeroValue el
  pure (if b=true then .tuple #[z,.bool false]else z)
theorem KV(ok:T.Ok P)(H:gm B0 w0 g O G w){t:TypeId}{m F k k' v:Value}{b:Bool}(h:pj T O t m k b=some v)(M:fK g m F)(K:fK g k k'):
 iA B0 w0 g O G n w ((Instr.lookup t F k' b).run P w) (v,[],0):=by
 unfold pj at h
 split at h
 · rename_i kt el hu
   split at h
   · rename_i es c hm
     cases hk:vn T 8 kt k with
     |false=>rw[hk]at h;cases h
     |true=>
      rw[hk]at h
      simp only[cond_true]at h
      have A:=EH hk
      have E:∀C,(Instr.checkKey C 10000 kt k').run P w=.ok () w:=fun C=>Cb ok 8 10000 kt k k' (by decide) hk K
      obtain⟨u,he,y⟩:∃u:Array MapEntry,kP g es u.toList/\
       ∀x,(GR kt el k' b u).run P w=x->(Instr.lookup t F k' b).run P w=x:=by
       rcases Ob H hm M with⟨rfl,rfl,rfl⟩|⟨r,rr,u,rfl,rfl,hr,hg,a2,a3,a4⟩
       · refine⟨#[],kP.nil,fun x hx=>?_⟩
         unfold Instr.lookup
         rw[fk (ok.gQ hu w)]
         exact hx
       · refine⟨u,a4,fun x hx=>?_⟩
         unfold Instr.lookup
         rw[fk (ok.gQ hu w)]
         simp only
         rw[fk (oy a2 (fun _ _ _ h=>by cases h))]
         exact hx
      split at h
      · rename_i i e hf
        cases h
        obtain⟨J,f1,f2⟩:=u6 (w:=w) ok K he A hf
        cases J with
        |none=>exact f2.elim
        |some p=>
         obtain⟨j,v'⟩:=p
         obtain⟨rfl,_,_,B⟩:=f2
         refine iA.pure H (v':=bif b then .tuple #[v',.bool true]else v') ?_ ?_
         · apply y
           unfold GR
           rw[fk (E _),fk f1]
           cases b<;>rfl
         · cases b
           · exact B
           · refine .tuple rfl (fun i a a' q o=>?_)
             match i with
             |0=>simp at q o;subst q;subst o;exact B
             |1=>simp at q o;subst q;subst o;exact .bool _
             |i+2=>simp at q
      · rename_i hf
        obtain⟨J,f1,f2⟩:=u6 (w:=w) ok K he A hf
        cases J with
        |some p=>exact f2.elim
        |none=>
         split at h
         · rename_i z L
           cases h
           have B:fK g z z:=fK.of_flat g (ok.qT L)
           refine iA.pure H (v':=bif b then .tuple #[z,.bool false]else z) ?_ ?_
           · apply y
             unfold GR
             rw[fk (E _),fk f1]
             simp only
             rw[fk (ok.qe L w)]
             cases b<;>rfl
           · cases b
             · exact B
             · refine .tuple rfl (fun i a a' q o=>?_)
               match i with
               |0=>simp at q o;subst q;subst o;exact B
               |1=>simp at q o;subst q;subst o;exact .bool _
               |i+2=>simp at q
         · cases h
      · cases h
   · cases h
 · cases h
theorem kP.set{es b:List MapEntry}(h:kP g es b)(f f':MapEntry->MapEntry)(hf:∀e j,fK g e.key j.key/\fK g e.val j.val/\e.born=j.born->fK g (f e).key (f' j).key/\fK g (f e).val (f' j).val/\(f e).born=(f' j).born):
 ∀i,kP g (A8 f es i) (b.modify i f'):=by
 revert b
 induction es with
 |nil=>
  intro b h i
  cases b with
  |nil=>cases i<;>exact kP.nil
  |cons _ _=>have:=h.1;simp at this
 |cons e es ih=>
  intro b h i
  cases b with
  |nil=>have:=h.1;simp at this
  |cons j b=>
   cases i with
   |zero=>simp only[A8,List.modify_zero_cons];exact kP.cons (hf _ _ h.head) h.tail
   |succ i=>simp only[A8,List.modify_succ_cons];exact kP.cons h.head (ih h.tail i)
theorem kP.push{es m:List MapEntry}(h:kP g es m){e b:MapEntry}(he:fK g e.key b.key/\fK g e.val b.val/\e.born=b.born):kP g (es++[e]) (m++[b]):=by
 refine⟨by simp[h.1],fun i a a' p q=>?_⟩
 rw[List.getElem?_append]at p q
 by_cases hi:i<es.length
 · rw[if_pos hi]at p;rw[if_pos (h.1▸hi)]at q;exact h.2 i a a' p q
 · rw[if_neg hi]at p;rw[if_neg (h.1▸hi)]at q
   rw[<-h.1]at q
   cases hj:i-es.length with
   |zero=>rw[hj]at p q;simp at p q;subst p;subst q;exact he
   |succ j=>rw[hj]at p;simp at p
theorem kP.get{es b:List MapEntry}(h:kP g es b){i:Nat}{e:MapEntry}(p:es[i]?=some e):∃j,b[i]?=some j/\fK g e.key j.key/\fK g e.val j.val/\e.born=j.born:=by
 have hi:i<es.length:=(fe.1 p).1
 have m:i<b.length:=h.1▸hi
 exact⟨b[i],ff m,h.2 i e _ p (ff m)⟩
theorem L8{a b a' b':Value}(h:BJ a b=true)(e:fK g a a')(rb:fK g b b')(w:World):(Instr.keyThatStays a' b').run P w=.ok b' w/\b'=b/\a=b:=by
 obtain⟨rfl,D,h3⟩:=TQ h
 have h1:=D _ _ e
 have h4:=D _ _ rb
 subst h1
 subst h4
 refine⟨?_,rfl,rfl⟩
 unfold Instr.keyThatStays
 rw[if_pos (h3 9999)];rfl
theorem Bb(ok:T.Ok P)(H:gm B0 w0 g O G w){t:TypeId}{m F k k' v v':Value}{u:ub}(h:tn T O t m k v=some u)(L:fK g m F)(o:fK g k k')(J:fK g v v'):
 iA B0 w0 g O G n w ((do Instr.mapUpdate t F k' v';pure undef:Sem Value).run P w) (undef,u,0):=by
 unfold tn at h
 split at h
 · rename_i kt el r hu
   split at h
   · rename_i es c hr
     cases hk:vn T 8 kt k with
     |false=>rw[hk]at h;cases h
     |true=>
      rw[hk]at h
      simp only[cond_true]at h
      have A:=EH hk
      have E:(Instr.checkKey false 10000 kt k').run P w=.ok () w:=Cb ok 8 10000 kt k k' (by decide) hk o
      obtain⟨rr,hg,rfl⟩:=L.vW
      obtain⟨b,_,a2,a3,a4⟩:=H.As hr hg
      have z:∀K e f,Obj.map b c≠.cells K e f:=fun _ _ _ h=>by cases h
      have run:∀o',(∀x,(do match<-Instr.findKey kt k' b.toList with
       |some (i,_)=>do
        let key<-Instr.keyThatStays (((b[i]?).map (·.key)).getD k') k'
        setObj rr (.map (b.modify i fun e=>{e with key,val:=v'}) c)
       |none=>setObj rr (.map (b.push {key:=k',val:=v',born:=c}) (c+1)):Sem Unit).run P w=x->x=.ok () (w.putObj rr o'))->
       (do Instr.mapUpdate t (.map (some rr)) k' v';pure undef:Sem Value).run P w=.ok undef (w.putObj rr o'):=by
       intro o' hx
       have:(Instr.mapUpdate t (.map (some rr)) k' v').run P w=.ok () (w.putObj rr o'):=by
        unfold Instr.mapUpdate
        rw[fk (ok.gQ hu w)]
        simp only
        rw[fk (oy a2 z)]
        simp only
        rw[fk E]
        exact hx _ rfl
       rw[fk this];rfl
      split at h
      · rename_i i e hf
        cases y:BJ e.key k with
        |false=>rw[y]at h;cases h
        |true=>
         rw[y]at h
         simp only[cond_true]at h
         cases h
         obtain⟨B,f1,f2⟩:=u6 (w:=w) ok o a4 A hf
         cases B with
         |none=>exact f2.elim
         |some p=>
          obtain⟨j,N⟩:=p
          obtain⟨rfl,_,f3,_⟩:=f2
          obtain⟨C,g1,g2,g3,g4⟩:=a4.get f3
          obtain⟨s1,s2,M⟩:=L8 (P:=P) y g2 o w
          refine iA.put H (o':=.map (A8 (fun e=>⟨k,v,e.born⟩) es i) c) (jo:=.map (b.modify i fun e=>{e with key:=k',val:=v'}) c) hr hg a3 (fun _ _ h=>by cases h) (fun _ _ h=>by cases h) rfl ⟨rfl,a3,rfl,?_⟩ (run _ ?_) (fK.undef g)
          · rw[Array.toList_modify]
            exact kP.set a4 (fun e=>⟨k,v,e.born⟩) (fun e=>⟨k',v',e.born⟩) (fun x x' hx=>⟨o,J,hx.2.2⟩) i
          · intro x hx
            rw[<-hx,fk f1]
            simp only
            have:((b[i]?).map (·.key)).getD k'=C.key:=by
             have:b[i]?=some C:=by simpa using g1
             rw[this];rfl
            rw[this,fk s1,qf _ a2 z]
      · rename_i hf
        cases h
        obtain⟨B,f1,f2⟩:=u6 (w:=w) ok o a4 A hf
        cases B with
        |some p=>exact f2.elim
        |none=>
         refine iA.put H (o':=.map (es++[⟨k,v,c⟩]) (c+1)) (jo:=.map (b.push {key:=k',val:=v',born:=c}) (c+1)) hr hg a3 (fun _ _ h=>by cases h) (fun _ _ h=>by cases h) rfl ⟨rfl,a3,rfl,?_⟩ (run _ ?_) (fK.undef g)
         · rw[Array.toList_push]
           exact a4.push ⟨o,J,rfl⟩
         · intro x hx
           rw[<-hx,fk f1]
           simp only
           rw[qf _ a2 z]
      · cases h
   · cases h
 · cases h
theorem CH{a a' b b':Value}(h:fK g a a')(k:fK g b b'):fK g (.tuple #[a,b]) (.tuple #[a',b']):=by
 refine .tuple rfl (fun i x x' q e=>?_)
 match i with
 |0=>simp at q e;subst q;subst e;exact h
 |1=>simp at q e;subst q;subst e;exact k
 |i+2=>simp at q
theorem HR(ok:T.Ok P)(H:gm B0 w0 g O G w){t:TypeId}{m J k k':Value}{e:p0}(h:ED T O t m k=some e)(N:fK g m J)(o:fK g k k'):
 iA B0 w0 g O G n w ((Instr.mapEntry t J k').run P w) e:=by
 unfold ED at h
 split at h
 · rename_i kt el r hu
   split at h
   · rename_i es c hr
     cases hk:vn T 8 kt k with
     |false=>rw[hk]at h;cases h
     |true=>
      rw[hk]at h
      simp only[cond_true]at h
      have B:=EH hk
      have E:(Instr.checkKey false 10000 kt k').run P w=.ok () w:=Cb ok 8 10000 kt k k' (by decide) hk o
      obtain⟨rr,hg,rfl⟩:=N.vW
      obtain⟨b,_,a2,a3,a4⟩:=H.As hr hg
      have A:∀L e f,Obj.map b c≠.cells L e f:=fun _ _ _ h=>by cases h
      have run:∀y,(∀x,(do match<-Instr.findKey kt k' b.toList with
       |some (i,v)=>do
        let key<-Instr.keyThatStays (((b[i]?).map (·.key)).getD k') k'
        setObj rr (.map (b.modify i fun e=>{e with key}) c)
        pure (.tuple #[v,goInt (((b[i]?).map (·.born)).getD 0)])
       |none=>do
        let zero<-zeroValue el
        setObj rr (.map (b.push {key:=k',val:=zero,born:=c}) (c+1))
        pure (.tuple #[zero,goInt c]):Sem Value).run P w=x->x=y)->
       (Instr.mapEntry t (.map (some rr)) k').run P w=y:=by
       intro y hx
       unfold Instr.mapEntry
       rw[fk (ok.gQ hu w)]
       simp only
       rw[fk (oy a2 A)]
       simp only
       rw[fk E]
       exact hx _ rfl
      split at h
      · rename_i i e hf
        cases u:BJ e.key k with
        |false=>rw[u]at h;cases h
        |true=>
         rw[u]at h
         simp only[cond_true]at h
         cases h
         obtain⟨C,f1,f2⟩:=u6 (w:=w) ok o a4 B hf
         cases C with
         |none=>exact f2.elim
         |some p=>
          obtain⟨j,R⟩:=p
          obtain⟨rfl,_,f3,f4⟩:=f2
          obtain⟨M,g1,g2,g3,g4⟩:=a4.get f3
          obtain⟨s1,s2,S⟩:=L8 (P:=P) u g2 o w
          refine iA.put H (o':=.map (A8 (fun e=>⟨k,e.val,e.born⟩) es i) c) (jo:=.map (b.modify i fun e=>{e with key:=k'}) c) hr hg a3 (fun _ _ h=>by cases h) (fun _ _ h=>by cases h) rfl ⟨rfl,a3,rfl,?_⟩ (run (.ok (.tuple #[R,.int .i64 (.ofNat e.born)]) _) ?_) (CH f4 (.int _ _))
          · rw[Array.toList_modify]
            exact kP.set a4 (fun e=>⟨k,e.val,e.born⟩) (fun e=>⟨k',e.val,e.born⟩) (fun x x' hx=>⟨o,hx.2.1,hx.2.2⟩) i
          · intro x hx
            rw[<-hx,fk f1]
            simp only
            have hi:b[i]?=some M:=by simpa using g1
            rw[hi]
            simp only[Option.map_some,Option.getD_some]
            rw[fk s1,fk (qf _ a2 A),<-g4];rfl
      · rename_i hf
        obtain⟨C,f1,f2⟩:=u6 (w:=w) ok o a4 B hf
        cases C with
        |some p=>exact f2.elim
        |none=>
         split at h
         · rename_i z F
           cases h
           have K:fK g z z:=fK.of_flat g (ok.qT F)
           refine iA.put H (o':=.map (es++[⟨k,z,c⟩]) (c+1)) (jo:=.map (b.push {key:=k',val:=z,born:=c}) (c+1)) hr hg a3 (fun _ _ h=>by cases h) (fun _ _ h=>by cases h) rfl ⟨rfl,a3,rfl,?_⟩ (run (.ok (.tuple #[z,.int .i64 (.ofNat c)]) _) ?_) (CH K (.int _ _))
           · rw[Array.toList_push]
             exact a4.push ⟨o,K,rfl⟩
           · intro x hx
             rw[<-hx,fk f1]
             simp only
             rw[fk (ok.qe F w),fk (qf _ a2 A)];rfl
         · cases h
      · cases h
   · cases h
 · cases h
theorem DZ{b:Nat}{v v':Value}(o:fK g v v'):∀(es j:List MapEntry) (r:List MapEntry),kP g es j->FM b v es=some r->
 ∃i,j.findIdx? (fun e=>(e.born:Int)==((b:Nat):Int))=some i/\kP g r (j.modify i fun e=>{e with val:=v'})
 |[],_,_,_,h=>by cases h
 |_::_,[],_,h,_=>by have:=h.1;simp at this
 |e::es,p::j,r,hr,h=>by
  simp only[FM]at h
  obtain⟨r1,r2,m⟩:=hr.head
  cases hb:Nat.beq e.born b with
  |true=>
   rw[hb]at h
   simp only[cond_true]at h;cases h
   have hb:=fj hb
   refine⟨0,?_,?_⟩
   · rw[List.findIdx?_cons,if_pos (by rw[<-m,hb];simp)]
   · rw[List.modify_zero_cons];exact kP.cons ⟨r1,o,m⟩ hr.tail
  |false=>
   rw[hb]at h
   simp only[cond_false]at h
   obtain⟨l,h1,rfl⟩:=fx.1 h
   obtain⟨i,u,y⟩:=DZ o es j l hr.tail h1
   have jB:p.born≠b:=fun q=>by rw[<-m]at q;rw[q,Nat.beq_refl]at hb;cases hb
   refine⟨i+1,?_,?_⟩
   · rw[List.findIdx?_cons,if_neg (by simp;omega),u];rfl
   · rw[List.modify_succ_cons];exact kP.cons ⟨r1,r2,m⟩ y
theorem F4(H:gm B0 w0 g O G w){t:TypeId}{m z s A v v':Value}{u:ub}(h:B_ O m s v=some u)(F:fK g m z)(J:fK g s A)(K:fK g v v'):
 iA B0 w0 g O G n w ((do Instr.entryStore t z A v';pure undef:Sem Value).run P w) (undef,u,0):=by
 unfold B_ at h
 split at h
 · rename_i r y b
   split at h
   · rename_i es c hr
     obtain⟨l,h1,rfl⟩:=fx.1 h
     obtain⟨rr,hg,rfl⟩:=F.vW
     obtain rfl:=J.kU
     obtain⟨j,_,a2,a3,a4⟩:=H.As hr hg
     have o:∀B e f,Obj.map j c≠.cells B e f:=fun _ _ _ h=>by cases h
     obtain⟨i,C,E⟩:=DZ K es j.toList l a4 h1
     refine iA.put H (o':=.map l c) (jo:=.map (j.modify i fun e=>{e with val:=v'}) c) hr hg a3 (fun _ _ h=>by cases h) (fun _ _ h=>by cases h) rfl ⟨rfl,a3,rfl,by rw[Array.toList_modify];exact E⟩ ?_ (fK.undef g)
     have:(Instr.entryStore t (.map (some rr)) (.int y (.ofNat b)) v').run P w=.ok () (w.putObj rr (.map (j.modify i fun e=>{e with val:=v'}) c)):=by
      unfold Instr.entryStore
      simp only
      rw[fk (oy a2 o)]
      simp only
      rw[fk (show(asInt (.int y (.ofNat b))).run P w=.ok (.ofNat b) w from rfl)]
      have:j.findIdx? (fun e=>(e.born:Int)==Int.ofNat b)=some i:=by
       have q:=List.findIdx?_toArray (p:=fun e:MapEntry=>(e.born:Int)==Int.ofNat b) (l:=j.toList)
       rw[Array.toArray_toList]at q
       rw[q];exact C
      rw[this]
      exact qf _ a2 o
     rw[fk this];rfl
   · cases h
 · cases h
end
end
end Sw
namespace Sw
noncomputable section
open Go Go.RowKit
section
variable {T:Ty}{P:Program}{B0:Nat}{w0:World}{g:Gm}{O:Hp}{G n:Nat}{w:World}
theorem L9(ok:T.Ok P)(H:gm B0 w0 g O G w){t:TypeId}{x x':Value}{e:p0}(h:L6 T O t x n=some e)(rx:fK g x x'):
 iA B0 w0 g O G n w ((Instr.range t x').run P w) e:=by
 unfold L6 at h
 split at h
 · rename_i s hu
   cases h
   obtain rfl:=rx.kY
   refine iA.new H (o:=.FF s 0) (jo:=.stringIter s 0) (fun _ _ h=>by cases h) rfl (fun _=>⟨rfl,H.base,rfl,rfl⟩) ?_ (v':=.pointer (some ⟨w.heap.size,0,none⟩)) (.ptr (Gm.lS _ _ _ _))
   unfold Instr.range
   rw[fk (ok.gQ hu w)]
   simp only
   rfl
 · rename_i k el hu
   cases h
   obtain rfl:=rx.qc
   refine iA.new H (o:=.mapIter none 0 [] 0) (jo:=.mapIter none 0 #[] 0) (fun _ _ h=>by cases h) rfl (fun _=>⟨rfl,H.base,rfl,rfl,rfl,trivial⟩) ?_ (v':=.pointer (some ⟨w.heap.size,0,none⟩)) (.ptr (Gm.lS _ _ _ _))
   unfold Instr.range
   rw[fk (ok.gQ hu w)]
   simp only
   rfl
 · rename_i k el m hu
   split at h
   · rename_i es c hm
     cases h
     obtain⟨rr,hg,rfl⟩:=rx.vW
     obtain⟨b,_,a2,a3,a4⟩:=H.As hm hg
     refine iA.new H (o:=.mapIter (some m) c [] c) (jo:=.mapIter (some rr) c #[] c) (fun _ _ h=>by cases h) rfl (fun f0=>⟨rfl,H.base,rfl,rfl,rfl,?_⟩) ?_ (v':=.pointer (some ⟨w.heap.size,0,none⟩)) (.ptr (Gm.lS _ _ _ _))
     · exact(Gm.qS f0.fW _ _).1 _ _ hg
     · unfold Instr.range
       rw[fk (ok.gQ hu w)]
       simp only
       rw[fk (oy a2 (fun _ _ _ h=>by cases h))]
       rfl
   · cases h
 · cases h
def IM(g:Gm):Option Nat->Option Nat->Prop
 |none,none=>True
 |some a,some a'=>g.fW a=some (a',0)
 |_,_=>False
theorem gm.L_(H:gm B0 w0 g O G w){b:Nat}{m:Option Nat}{s st:Nat}{seen:List Nat}(h:O b=some (.mapIter m s seen st)){rb ro:Nat}(hb:g.fW b=some (rb,ro)):
 ∃j e,ro=0/\w.heap[rb]?=some (.mapIter j s e st)/\B0<=rb/\seen=e.toList/\IM g m j:=by
 obtain⟨jo,a2,a3⟩:=(H.live b _ h).2 _ _ hb
 cases jo<;>first|exact a3.elim|skip
 rename_i j _ _ _
 obtain⟨rfl,o,rfl,p,rfl,u⟩:=a3
 refine⟨_,_,rfl,a2,o,p,?_⟩
 cases m<;>cases j<;>exact u
theorem HS{b:Nat}:∀(es j:List MapEntry) (e:MapEntry),kP g es j->es.find? (fun e=>Nat.beq e.born b)=some e->∃m,j.find? (fun e=>e.born==b)=some m/\fK g e.key m.key/\fK g e.val m.val
 |[],_,_,_,h=>by cases h
 |_::_,[],_,h,_=>by have:=h.1;simp at this
 |x::es,x'::j,e,hr,h=>by
  obtain⟨r1,r2,o⟩:=hr.head
  rw[List.find?_cons]at h
  rw[List.find?_cons]
  cases hb:Nat.beq x.born b with
  |true=>
   rw[hb]at h;cases h
   have hb:=fj hb
   have:(x'.born==b)=true:=by rw[<-o,hb];simp
   rw[this];exact⟨x',rfl,r1,r2⟩
  |false=>
   rw[hb]at h
   have:(x'.born==b)=false:=by
    cases q:(x'.born==b)with
    |false=>rfl
    |true=>rw[beq_iff_eq]at q;rw[o,q,Nat.beq_refl]at hb;cases hb
   rw[this]
   exact HS es j e hr.tail h
theorem Ma(H:gm B0 w0 g O G w){x x' v:Value}(h:L7 O x=some v)(rx:fK g x x'):
 iA B0 w0 g O G n w ((Instr.entry x').run P w) (v,[],0):=by
 unfold L7 at h
 split at h
 · rename_i r B
   split at h
   · rename_i m jm seen st hr
     split at h
     · rename_i b es clock hs hm
       cases hb:Nat.beq clock st with
       |false=>rw[hb]at h;cases h
       |true=>
        rw[hb]at h
        simp only[cond_true]at h
        split at h
        · rename_i e hf
          cases h
          obtain⟨rfl,rb,ro,hg,rfl⟩:=rx.sy
          obtain⟨u,j,rfl,a2,a3,a4,a5⟩:=H.L_ hr hg
          cases u with
          |none=>exact a5.elim
          |some u=>
           have a5:g.fW m=some (u,0):=a5
           obtain⟨o,_,b2,A,y⟩:=H.As hm a5
           obtain⟨p,c1,c2,z⟩:=HS es o.toList e y hf
           refine iA.pure H (v':=.tuple #[p.key,p.val]) ?_ (CH c2 z)
           unfold Instr.entry
           simp only[Nat.add_zero]
           rw[fk (oy a2 (fun _ _ _ h=>by cases h))]
           simp only
           have:j.back?=some b:=by
            rw[a4]at hs
            rw[<-Array.getLast?_toList];exact hs
           rw[this]
           simp only
           rw[fk (oy b2 (fun _ _ _ h=>by cases h))]
           simp only
           have hb:=fj hb
           subst hb
           rw[if_neg (by simp)]
           have q:o.find? (fun e=>e.born==b)=some p:=by rw[<-Array.find?_toList];exact c1
           rw[q];rfl
        · cases h
     · cases h
   · cases h
 · cases h
theorem PX{x y x' y' v:Value}(h:Sw.max2 x y=some v)(rx:fK g x x')(j:fK g y y')(w:World):(Builtin.max2 x' y').run P w=.ok v w/\fK g v v:=by
 unfold Sw.max2 at h
 split at h
 · rename_i k a m b
   cases h
   obtain rfl:=rx.kU
   obtain rfl:=j.kU
   refine⟨?_,.int _ _⟩
   rw[Er]
   simp only[Builtin.max2,gt_iff_lt]
   by_cases e:a<b
   · rw[if_pos e,decide_eq_true e];rfl
   · rw[if_neg e,decide_eq_false e];rfl
 · cases h
theorem PY{x y x' y' v:Value}(h:Sw.min2 x y=some v)(rx:fK g x x')(j:fK g y y')(w:World):(Builtin.min2 x' y').run P w=.ok v w/\fK g v v:=by
 unfold Sw.min2 at h
 split at h
 · rename_i k a m b
   cases h
   obtain rfl:=rx.kU
   obtain rfl:=j.kU
   refine⟨?_,.int _ _⟩
   rw[Er]
   simp only[Builtin.min2]
   by_cases e:b<a
   · rw[if_pos e,decide_eq_true e];rfl
   · rw[if_neg e,decide_eq_false e];rfl
 · cases h
theorem Cc{f:Value->Value->Option Value}{f':Value->Value->Sem Value}(hf:∀x y x' y' v,f x y=some v->fK g x x'->fK g y y'->(f' x' y').run P w=.ok v w/\fK g v v):
 ∀(l b:List Value) (x x' v:Value),Lt f x l=some v->fK g x x'->gV g l b->∃v',(b.foldlM f' x').run P w=.ok v' w/\fK g v v'
 |[],[],x,x',v,h,rx,_=>by cases h;exact⟨x',rfl,rx⟩
 |[],_::_,_,_,_,_,_,hl=>by have:=hl.1;simp at this
 |_::_,[],_,_,_,_,_,hl=>by have:=hl.1;simp at this
 |y::l,y'::b,x,x',v,h,rx,hl=>by
  simp only[Lt]at h
  split at h
  · rename_i z e
    obtain⟨h1,D⟩:=hf _ _ _ _ _ e rx hl.head
    obtain⟨v',h3,h4⟩:=Cc hf l b z z v h D hl.tail
    refine⟨v',?_,h4⟩
    rw[List.foldlM_cons,fk h1];exact h3
  · cases h
theorem PZ(H:gm B0 w0 g O G w){ts:Array TypeId}{ty:TypeId}{l:List Value}{e:Array Value}{v:Value}(hl:gV g l e.toList)(h:I9 Sw.max2 l=some v):
 iA B0 w0 g O G n w ((Builtin.max_ ts ty e).run P w) (v,[],0):=by
 unfold I9 at h
 cases l with
 |nil=>cases h
 |cons x xs=>
  cases b:e.toList with
  |nil=>rw[b]at hl;have:=hl.1;simp at this
  |cons x' j=>
   rw[b]at hl
   obtain⟨v',h1,D⟩:=Cc (P:=P) (w:=w) (f':=Builtin.max2) (fun x y x' y' v h rx m=>PX h rx m w) xs j x x' v h hl.head hl.tail
   refine iA.pure H (v':=v') ?_ D
   unfold Builtin.max_
   rw[b];exact h1
theorem P0(H:gm B0 w0 g O G w){ts:Array TypeId}{ty:TypeId}{l:List Value}{e:Array Value}{v:Value}(hl:gV g l e.toList)(h:I9 Sw.min2 l=some v):
 iA B0 w0 g O G n w ((Builtin.min_ ts ty e).run P w) (v,[],0):=by
 unfold I9 at h
 cases l with
 |nil=>cases h
 |cons x xs=>
  cases b:e.toList with
  |nil=>rw[b]at hl;have:=hl.1;simp at this
  |cons x' j=>
   rw[b]at hl
   obtain⟨v',h1,D⟩:=Cc (P:=P) (w:=w) (f':=Builtin.min2) (fun x y x' y' v h rx m=>PY h rx m w) xs j x x' v h hl.head hl.tail
   refine iA.pure H (v':=v') ?_ D
   unfold Builtin.min_
   rw[b];exact h1
end
end
end Sw
