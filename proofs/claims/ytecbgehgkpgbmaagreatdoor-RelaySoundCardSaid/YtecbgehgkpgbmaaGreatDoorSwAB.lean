/- A part of the proof that the law returns true for every input that its row speaks of. No condition is added. -/
import Derived.Test.YtecbgehgkpgbmaaGreatDoorSwAA
namespace Sw
noncomputable section
open Go Go.RowKit
def strs(s:ByteArray):List UInt8:=s.data.toList
def wV:List UInt8->List UInt8->Bool
 |[],[]=>true
 |a::x,b::y=>Nat.beq a.toNat b.toNat&&wV x y
 |_,_=>false
def H8:List UInt8->List UInt8->Bool
 |_,[]=>false
 |[],_::_=>true
 |a::x,b::y=>Nat.blt a.toNat b.toNat||(Nat.beq a.toNat b.toNat&&H8 x y)
theorem RJ(a b:UInt8):Nat.beq a.toNat b.toNat=(a==b):=by
 rw[Bool.eq_iff_iff]
 constructor
 · intro h;have:=fC h;simp;exact UInt8.toNat_inj.1 this
 · intro h;simp at h;subst h;exact Nat.beq_refl _
theorem XQ(a b:UInt8):Nat.blt a.toNat b.toNat=decide (a<b):=by
 rw[Bool.eq_iff_iff,mN];simp[UInt8.lt_iff_toNat_lt]
theorem xg(x y:List UInt8):wV x y=(x==y):=by
 induction x generalizing y with
 |nil=>cases y<;>rfl
 |cons a x ih=>cases y with
  |nil=>rfl
  |cons b y=>simp only[wV,RJ,ih];rfl
theorem XR(x y:List UInt8):H8 x y=Op.bytesLess x y:=by
 induction x generalizing y with
 |nil=>cases y<;>rfl
 |cons a x ih=>cases y with
  |nil=>rfl
  |cons b y=>simp only[H8,RJ,XQ,ih,Op.bytesLess]
theorem ByteArray.AG(s:ByteArray):s.toList=s.data.toList:=by
 have key:∀(n i:Nat) (r:List UInt8),s.size-i=n->ByteArray.toList.loop s i r=r.reverse++s.data.toList.drop i:=by
  intro n
  induction n with
  |zero=>
   intro i r h
   rw[ByteArray.toList.loop,if_neg (by omega),List.drop_eq_nil_of_le]
   · simp
   · rw[Array.length_toList];show s.size<=i;omega
  |succ n ih=>
   intro i r h
   have hi:i<s.size:=by omega
   rw[ByteArray.toList.loop,if_pos hi,ih (i+1) _ (by omega)]
   have b:i<s.data.toList.length:=by rw[Array.length_toList];exact hi
   rw[List.drop_eq_getElem_cons b]
   have:s.get! i=s.data.toList[i]:=by
    show s.data[i]! =_
    have e:i<s.data.size:=hi
    exact getElem!_pos s.data i e
   rw[this]
   simp
 unfold ByteArray.toList
 rw[key _ 0 [] rfl]
 simp
theorem ByteArray.Jp(a b:ByteArray):(a==b)=wV (strs a) (strs b):=by
 rw[xg]
 show(a.data==b.data)=(a.data.toList==b.data.toList)
 rw[Bool.eq_iff_iff,beq_iff_eq,beq_iff_eq,Array.toList_inj]
def EK(op:BinOp)(a b:ByteArray):Option Value:=
 match op with
 |.add=>bif Nat.blt (strs a).length 1073741824&&Nat.blt (strs b).length 1073741824 then some (.string ⟨(strs a++strs b).toArray⟩)else none
 |.eql=>some (.bool (wV (strs a) (strs b)))
 |.neq=>some (.bool (!(wV (strs a) (strs b))))
 |.lss=>some (.bool (H8 (strs a) (strs b)))
 |.leq=>some (.bool (H8 (strs a) (strs b)||wV (strs a) (strs b)))
 |.gtr=>some (.bool (!(H8 (strs a) (strs b)||wV (strs a) (strs b))))
 |.geq=>some (.bool (!(H8 (strs a) (strs b))))
 |_=>none
theorem P_{op:BinOp}{a b:ByteArray}{v:Value}(h:EK op a b=some v)(P:Program)(w:World):(Op.stringOp op a b).run P w=.ok v w:=by
 have e1:(a.toList==b.toList)=wV (strs a) (strs b):=by rw[xg,ByteArray.AG,ByteArray.AG];rfl
 have e2:Op.bytesLess a.toList b.toList=H8 (strs a) (strs b):=by rw[XR,ByteArray.AG,ByteArray.AG];rfl
 unfold EK at h
 split at h
 · cases hb:(Nat.blt (strs a).length 1073741824&&Nat.blt (strs b).length 1073741824)with
   |false=>rw[hb]at h;cases h
   |true=>
    rw[hb]at h
    simp only[cond_true,Option.some.injEq]at h
    subst h
    rw[Bool.and_eq_true,mN,mN]at hb
    have j:a.size=(strs a).length:=by unfold strs;rw[Array.length_toList];rfl
    have m:b.size=(strs b).length:=by unfold strs;rw[Array.length_toList];rfl
    simp only[Op.stringOp]
    rw[if_neg (by simp only[IntKind.max,IntKind.signed,IntKind.bits,if_true];omega)]
    have:a++b=⟨(strs a++strs b).toArray⟩:=by
     have:(a++b).data=(strs a++strs b).toArray:=by
      rw[ByteArray.data_append];unfold strs;simp
     cases e:a++b with
     |mk d=>rw[e]at this;simp only at this;rw[this]
    rw[this]
    rfl
 all_goals
  first
   |(cases h;simp only[Op.stringOp,e1,e2];rfl)
   |cases h
def H9(op:BinOp)(k:IntKind)(x y:Int):Option Value:=
 match op with
 |.add=>some (.int k (gy k (x+y)))
 |.sub=>some (.int k (gy k (x-y)))
 |.mul=>some (.int k (gy k (x*y)))
 |.quo=>bif kN y 0 then none else some (.int k (gy k (x.tdiv y)))
 |.rem=>bif kN y 0 then none else some (.int k (x.tmod y))
 |.eql=>some (.bool (kN x y))
 |.neq=>some (.bool (!(kN x y)))
 |.lss=>some (.bool (rU x y))
 |.leq=>some (.bool (Eg x y))
 |.gtr=>some (.bool (rU y x))
 |.geq=>some (.bool (Eg y x))
 |.and|.or|.xor|.andNot=>(P9 op k x y).map (.int k ·)
 |_=>none
def CQ(op:BinOp)(k:IntKind)(x y:Int):Option Value:=
 match y with
 |.ofNat n=>match op with
  |.shl=>some (.int k (gy k (x*.ofNat (Nat.pow 2 (bif Nat.ble n k.bits then n else k.bits)))))
  |.shr=>some (.int k (x.fdiv (.ofNat (Nat.pow 2 (bif Nat.ble n k.bits then n else k.bits)))))
  |_=>none
 |.negSucc _=>none
def XS:Operand->Bool
 |.const _=>true
 |_=>false
def Mj(T:Ty)(rec:TypeId->Value->Value->Option Bool):List Field->List Value->List Value->Option Bool
 |[],_,_=>some true
 |f::fs,xs,b=>
  match yp T f.type xs f.offset,yp T f.type b f.offset with
  |some x,some y=>match rec f.type x y with
   |some true=>Mj T rec fs xs b
   |some false=>some false
   |none=>none
  |_,_=>none
def Mk(T:Ty)(rec:TypeId->Value->Value->Option Bool)(el:TypeId)(s:Nat)(xs b:List Value):Nat->Nat->Option Bool
 |0,_=>some true
 |n+1,i=>
  match yp T el xs (i*s),yp T el b (i*s)with
  |some x,some y=>match rec el x y with
   |some true=>Mk T rec el s xs b n (i+1)
   |some false=>some false
   |none=>none
  |_,_=>none
def yq(T:Ty):Nat->TypeId->Value->Value->Option Bool
 |0,_,_,_=>none
 |d+1,t,x,y=>
  match T.jo t,x,y with
  |some .bool,.bool a,.bool b=>some (a==b)
  |some (.int _),.int k a,.int k' b=>if k=k' then some (kN a b)else none
  |some .string,.string a,.string b=>some (wV (strs a) (strs b))
  |some (.pointer _),.pointer none,.pointer b=>some b.isNone
  |some (.pointer _),.pointer (some _),.pointer none=>some false
  |some (.interface _),.nilIface,.nilIface=>some true
  |some (.interface _),.nilIface,.iface _ _=>some false
  |some (.interface _),.iface _ _,.nilIface=>some false
  |some (.struct fs),.agg xs,.agg e=>bif T.G4 t then Mj T (yq T d) fs.toList xs.toList e.toList else none
  |some (.array n el),.agg xs,.agg e=>bif T.G4 t then(T.size el).bind fun s=>Mk T (yq T d) el s xs.toList e.toList n 0 else none
  |some (.slice _),.slice none _ _,.slice b _ _=>some b.isNone
  |some (.slice _),.slice (some _) _ _,.slice none _ _=>some false
  |some (.map _ _),.map none,.map b=>some b.isNone
  |some (.map _ _),.map (some _),.map none=>some false
  |some (.func _ _ _),.nilFunc,.nilFunc=>some true
  |some (.func _ _ _),.nilFunc,.func _ _ _=>some false
  |some (.func _ _ _),.func _ _ _,.nilFunc=>some false
  |_,_,_=>none
section
variable {T:Ty}{P:Program}{B0:Nat}{w0:World}{g:Gm}{O:Hp}{G n:Nat}{w:World}
theorem Ml{op:BinOp}{k:IntKind}{x y:Int}{v:Value}(h:H9 op k x y=some v)(t:TypeId)(w:World):(binOp op t (.int k x) (.int k y)).run P w=.ok v w:=by
 unfold H9 at h
 split at h
 · cases h;rw[tU];simp[binOp,Op.intArith]
 · cases h;rw[tU];simp[binOp,Op.intArith]
 · cases h;rw[tU];simp[binOp,Op.intArith]
 · cases hy:kN y 0 with
   |true=>rw[hy]at h;cases h
   |false=>
    rw[hy]at h;cases h
    have:y≠0:=fun e=>by rw[lS.2 e]at hy;cases hy
    rw[tU];simp[binOp,Op.intDiv,this]
 · cases hy:kN y 0 with
   |true=>rw[hy]at h;cases h
   |false=>
    rw[hy]at h;cases h
    have:y≠0:=fun e=>by rw[lS.2 e]at hy;cases hy
    simp[binOp,Op.intDiv,this]
 · cases h;rw[EI];simp[binOp,Op.intCmp]
 · cases h;rw[EI];simp[binOp,Op.intCmp];rfl
 · cases h;rw[EH];simp[binOp,Op.intCmp]
 · cases h;rw[Mg];simp[binOp,Op.intCmp]
 · cases h;rw[EH];simp[binOp,Op.intCmp]
 · cases h;rw[Mg];simp[binOp,Op.intCmp]
 · obtain⟨r,h1,rfl⟩:=Option.map_eq_some_iff.1 h
   simpa[binOp]using vm h1 P w
 · obtain⟨r,h1,rfl⟩:=Option.map_eq_some_iff.1 h
   simpa[binOp]using vm h1 P w
 · obtain⟨r,h1,rfl⟩:=Option.map_eq_some_iff.1 h
   simpa[binOp]using vm h1 P w
 · obtain⟨r,h1,rfl⟩:=Option.map_eq_some_iff.1 h
   simpa[binOp]using vm h1 P w
 · cases h
theorem Uc(n m:Nat):(bif Nat.ble n m then n else m)=min n m:=by
 cases h:Nat.ble n m with
 |true=>have:=fk h;simp;omega
 |false=>
  have:¬n<=m:=fun k=>by rw[Nat.ble_eq_true_of_le k]at h;cases h
  simp;omega
theorem EL{op:BinOp}{k k':IntKind}{x y:Int}{v:Value}(h:CQ op k x y=some v)(t:TypeId)(w:World):(binOp op t (.int k x) (.int k' y)).run P w=.ok v w:=by
 unfold CQ at h
 split at h
 · rename_i n
   have e:∀m:Nat,(Int.ofNat (Nat.pow 2 m))=(2:Int)^m:=fun m=>by
    show((2^m:Nat):Int)=_
    rw[Int.natCast_pow];rfl
   split at h
   · cases h
     rw[tU,Uc,e]
     simp only[binOp,Op.shift]
     rw[if_neg (by exact Int.not_lt.2 (Int.natCast_nonneg n))]
     rfl
   · cases h
     rw[Uc,e]
     simp only[binOp,Op.shift]
     rw[if_neg (by exact Int.not_lt.2 (Int.natCast_nonneg n))]
     rfl
   · cases h
 · cases h
theorem Qa(ok:T.Ok P){rec:TypeId->Value->Value->Option Bool}{d:Nat}{w:World}
 (ih:∀t x y x' y' b,rec t x y=some b->fP g x x'->fP g y y'->(Op.equalIn d t x' y').run P w=.ok b w) {xs A j m:Array Value} (hx:sy g xs j) (hy:sy g A m):
 ∀(fs:List Field) (b:Bool),(∀f∈fs,f.name≠ "_")->Mj T rec fs xs.toList A.toList=some b->
  (forIn fs ((none,()):Option Bool×Unit) fun f (_:Option Bool×Unit)=>
    if f.name≠ "_" then do
     let a<-part f.type j f.offset
     let c<-part f.type m f.offset
     let e<-Op.equalIn d f.type a c
     if(!e)=true then pure (ForInStep.done (some false,()))else pure (ForInStep.yield (none,()))
    else pure (ForInStep.yield (none,())):Sem (Option Bool×Unit)).run P w=.ok (if b then(none,())else(some false,())) w:=by
 intro fs
 induction fs with
 |nil=>intro b _ h;simp[Mj]at h;subst h;rfl
 |cons f fs o=>
  intro b hn h
  simp only[Mj]at h
  split at h
  · rename_i x y ex B
    obtain⟨x',p,rx⟩:=tT ok ex hx w
    obtain⟨y',u,z⟩:=tT ok B hy w
    rw[List.forIn_cons]
    have hf:=hn f (fz ..)
    split at h
    · rename_i hr
      have he:=ih _ _ _ _ _ _ hr rx z
      have step:(if f.name≠ "_" then do
       let a<-part f.type j f.offset
       let c<-part f.type m f.offset
       let e<-Op.equalIn d f.type a c
       if(!e)=true then pure (ForInStep.done (some false,()))else pure (ForInStep.yield (none,()))
       else pure (ForInStep.yield (none,())):Sem (ForInStep (Option Bool×Unit))).run P w=.ok (ForInStep.yield (none,())) w:=by
       rw[if_pos hf,ft p,ft u,ft he];rfl
      rw[ft step]
      exact o b (fun q C=>hn q (fG _ C)) h
    · rename_i hr
      cases h
      have he:=ih _ _ _ _ _ _ hr rx z
      have step:(if f.name≠ "_" then do
       let a<-part f.type j f.offset
       let c<-part f.type m f.offset
       let e<-Op.equalIn d f.type a c
       if(!e)=true then pure (ForInStep.done (some false,()))else pure (ForInStep.yield (none,()))
       else pure (ForInStep.yield (none,())):Sem (ForInStep (Option Bool×Unit))).run P w=.ok (ForInStep.done (some false,())) w:=by
       rw[if_pos hf,ft p,ft u,ft he];rfl
      rw[ft step]
      rfl
    · cases h
  · cases h
theorem Qb(ok:T.Ok P){rec:TypeId->Value->Value->Option Bool}{d:Nat}{w:World}
 (ih:∀t x y x' y' b,rec t x y=some b->fP g x x'->fP g y y'->(Op.equalIn d t x' y').run P w=.ok b w) {xs B m o:Array Value} (hx:sy g xs m) (hy:sy g B o) (el:TypeId) (s:Nat):
 ∀(n i:Nat) (b:Bool),Mk T rec el s xs.toList B.toList n i=some b->
  (forIn (List.range' i n) ((none,()):Option Bool×Unit) fun j (_:Option Bool×Unit)=>do
    let a<-part el m (j*s)
    let c<-part el o (j*s)
    let e<-Op.equalIn d el a c
    if(!e)=true then pure (ForInStep.done (some false,()))else pure (ForInStep.yield (none,())):Sem (Option Bool×Unit)).run P w=.ok (if b then(none,())else(some false,())) w:=by
 intro n
 induction n with
 |zero=>intro i b h;simp only[Mk,Option.some.injEq]at h;subst h;rfl
 |succ n p=>
  intro i b h
  simp only[Mk]at h
  split at h
  · rename_i x y ex C
    obtain⟨x',u,rx⟩:=tT ok ex hx w
    obtain⟨y',z,A⟩:=tT ok C hy w
    rw[List.range'_succ,List.forIn_cons]
    split at h
    · rename_i hr
      have he:=ih _ _ _ _ _ _ hr rx A
      have step:(do
       let a<-part el m (i*s)
       let c<-part el o (i*s)
       let e<-Op.equalIn d el a c
       if(!e)=true then pure (ForInStep.done (some false,()))else pure (ForInStep.yield (none,())):Sem (ForInStep (Option Bool×Unit))).run P w=.ok (ForInStep.yield (none,())) w:=by
       rw[ft u,ft z,ft he];rfl
      rw[ft step]
      exact p (i+1) b h
    · rename_i hr
      cases h
      have he:=ih _ _ _ _ _ _ hr rx A
      have step:(do
       let a<-part el m (i*s)
       let c<-part el o (i*s)
       let e<-Op.equalIn d el a c
       if(!e)=true then pure (ForInStep.done (some false,()))else pure (ForInStep.yield (none,())):Sem (ForInStep (Option Bool×Unit))).run P w=.ok (ForInStep.done (some false,())) w:=by
       rw[ft u,ft z,ft he];rfl
      rw[ft step]
      rfl
    · cases h
  · cases h
theorem EM(ok:T.Ok P){w:World}:∀(d d':Nat) (t:TypeId) (x y x' y':Value) (b:Bool),d<=d'->yq T d t x y=some b->fP g x x'->fP g y y'->(Op.equalIn d' t x' y').run P w=.ok b w:=by
 intro d
 induction d with
 |zero=>intro d' t x y x' y' b _ h;cases h
 |succ d ih=>
  intro d' t x y x' y' b hd h rx j
  obtain⟨d',rfl⟩:∃e,d'=e+1:=⟨d'-1,by omega⟩
  unfold yq at h
  split at h
  · rename_i hu
    cases h
    obtain rfl:=rx.r9;obtain rfl:=j.r9
    unfold Op.equalIn;rw[ft (ok.gV hu w)];rfl
  · rename_i k a k' b' hu
    obtain rfl:=rx.lj;obtain rfl:=j.lj
    split at h
    · rename_i hk;cases h;subst hk
      unfold Op.equalIn;rw[ft (ok.gV hu w)]
      simp only[if_true]
      rw[EI];rfl
    · cases h
  · rename_i hu
    cases h
    obtain rfl:=rx.lr;obtain rfl:=j.lr
    unfold Op.equalIn;rw[ft (ok.gV hu w)]
    rw[<-ByteArray.Jp];rfl
  · rename_i e b1 hu
    cases h
    obtain rfl:=rx.uN
    unfold Op.equalIn;rw[ft (ok.gV hu w)]
    cases b1 with
    |none=>obtain rfl:=j.uN;rfl
    |some a=>obtain⟨_,rb,ro,_,rfl⟩:=j.sL;rfl
  · rename_i e a hu
    cases h
    obtain⟨_,rb,ro,_,rfl⟩:=rx.sL
    obtain rfl:=j.uN
    unfold Op.equalIn;rw[ft (ok.gV hu w)];rfl
  · rename_i hu
    cases h
    obtain rfl:=rx.o8;obtain rfl:=j.o8
    unfold Op.equalIn;rw[ft (ok.gV hu w)];rfl
  · rename_i hu
    cases h
    obtain rfl:=rx.o8;obtain⟨_,rfl,_⟩:=j.xR
    unfold Op.equalIn;rw[ft (ok.gV hu w)];rfl
  · rename_i hu
    cases h
    obtain⟨_,rfl,_⟩:=rx.xR;obtain rfl:=j.o8
    unfold Op.equalIn;rw[ft (ok.gV hu w)];rfl
  · rename_i fs xs A hu
    cases he:T.G4 t with
    |false=>rw[he]at h;cases h
    |true=>
     rw[he]at h
     simp only[cond_true]at h
     obtain⟨o1,_,z⟩:=ok.eq t he
     obtain⟨p,rfl,m⟩:=rx.tt
     obtain⟨u,rfl,o⟩:=j.tt
     have:=Qa (w:=w) (d:=d') ok (fun t x y x' y' b hr r1 r2=>ih d' t x y x' y' b (by omega) hr r1 r2) m o fs.toList b (z fs (ok.jo hu)) h
     unfold Op.equalIn
     rw[ft (ok.gV hu w)]
     simp only
     rw[ft (show(program).run P w=.ok P w from rfl),if_neg (by rw[o1];simp)]
     rw[<-Array.forIn_toList,ft this]
     cases b<;>rfl
  · rename_i n el xs A hu
    cases he:T.G4 t with
    |false=>rw[he]at h;cases h
    |true=>
     rw[he]at h
     simp only[cond_true]at h
     obtain⟨s,hs,h⟩:=fM.1 h
     obtain⟨p,rfl,m⟩:=rx.tt
     obtain⟨u,rfl,o⟩:=j.tt
     have:=Qb (w:=w) (d:=d') ok (fun t x y x' y' b hr r1 r2=>ih d' t x y x' y' b (by omega) hr r1 r2) m o el s n 0 b h
     unfold Op.equalIn
     rw[ft (ok.gV hu w)]
     simp only
     rw[ft (ok.oE hs w)]
     rw[Std.Legacy.Range.forIn_eq_forIn_range']
     simp only[Std.Legacy.Range.size,Nat.sub_zero,Nat.add_sub_cancel,Nat.div_one]
     rw[ft this]
     cases b<;>rfl
  · rename_i b1 B c1 hu
    cases h
    obtain⟨_,_,rfl⟩:=rx.mf
    unfold Op.equalIn;rw[ft (ok.gV hu w)]
    cases b1 with
    |none=>obtain⟨_,_,rfl⟩:=j.mf;rfl
    |some a=>rcases j.nk with⟨_,_,_,rfl⟩|⟨_,rb,ro,c2,_,_,_,rfl⟩<;>rfl
  · rename_i hu
    cases h
    obtain⟨_,_,rfl⟩:=j.mf
    unfold Op.equalIn;rw[ft (ok.gV hu w)]
    rcases rx.nk with⟨_,_,_,rfl⟩|⟨_,rb,ro,c2,_,_,_,rfl⟩<;>rfl
  · rename_i b1 hu
    cases h
    obtain rfl:=rx.qo
    unfold Op.equalIn;rw[ft (ok.gV hu w)]
    cases b1 with
    |none=>obtain rfl:=j.qo;rfl
    |some a=>obtain⟨_,_,rfl⟩:=j.wq;rfl
  · rename_i hu
    cases h
    obtain rfl:=j.qo;obtain⟨_,_,rfl⟩:=rx.wq
    unfold Op.equalIn;rw[ft (ok.gV hu w)];rfl
  · rename_i hu
    cases h
    obtain rfl:=rx.sF;obtain rfl:=j.sF
    unfold Op.equalIn;rw[ft (ok.gV hu w)];rfl
  · rename_i hu
    cases h
    obtain rfl:=rx.sF
    unfold Op.equalIn;rw[ft (ok.gV hu w)]
    cases j<;>rfl
  · rename_i hu
    cases h
    obtain rfl:=j.sF
    unfold Op.equalIn;rw[ft (ok.gV hu w)]
    cases rx<;>rfl
  · cases h
end
end
end Sw
namespace Sw
noncomputable section
open Go Go.RowKit
def Qc:IntKind->Nat
 |.i8=>0|.i16=>1|.i32=>2|.i64=>3|.u8=>4|.u16=>5|.u32=>6|.u64=>7
def wD(k k':IntKind):Bool:=Nat.beq (Qc k) (Qc k')
theorem vR{k k':IntKind}(h:wD k k'=true):k=k':=by
 have:=fC h
 cases k<;>cases k'<;>first|rfl|(simp[Qc]at this)
def F4(T:Ty)(t:TypeId)(xo yo:Operand)(x y:Value):Bool:=
 match x,y with
 |.nilIface,.nilIface=>XS xo||XS yo
 |.agg _,.agg _=>T.G4 t
 |_,_=>true
def Ac(T:Ty)(op:BinOp)(t:TypeId)(xo yo:Operand)(x y:Value):Option Value:=
 match x,y with
 |.int k a,.int k' b=>match op with
  |.shl=>CQ .shl k a b
  |.shr=>CQ .shr k a b
  |op=>bif wD k k' then H9 op k a b else none
 |.string a,.string b=>EK op a b
 |x,y=>bif F4 T t xo yo x y then
   (match op with
   |.eql=>(yq T 12 t x y).map .bool
   |.neq=>(yq T 12 t x y).map fun b=>.bool (!b)
   |_=>none)else none
section
variable {T:Ty}{P:Program}{B0:Nat}{w0:World}{g:Gm}{O:Hp}{G n:Nat}{w:World}
theorem Ad{op:BinOp}{t:TypeId}{xo yo:Operand}{x y:Value}(h1:∀c d,¬(x=.agg c/\y=.agg d))(D:¬(x=.nilIface/\y=.nilIface))(w:World):(eqGuard op t xo yo x y).run P w=.ok () w:=by
 cases op<;>first|rfl|skip
 all_goals
  unfold eqGuard
  simp only[Bool.not_true,Bool.false_eq_true,if_false]
  split
  · exact(D ⟨rfl,rfl⟩).elim
  · exact(h1 _ _ ⟨rfl,rfl⟩).elim
  · rfl
theorem Lf(ok:T.Ok P){op:BinOp}{t:TypeId}{xo yo:Operand}{x y x' y':Value}(h:F4 T t xo yo x y=true)(rx:fP g x x')(b:fP g y y')(w:World):(eqGuard op t xo yo x' y').run P w=.ok () w:=by
 unfold F4 at h
 split at h
 · obtain rfl:=rx.o8
   obtain rfl:=b.o8
   cases op<;>first|rfl|skip
   all_goals
    unfold eqGuard
    simp only[Bool.not_true,Bool.false_eq_true,if_false]
    cases xo<;>cases yo<;>first|(simp[XS]at h;done)|rfl
 · obtain⟨e,rfl,_⟩:=rx.tt
   obtain⟨j,rfl,_⟩:=b.tt
   cases op<;>first|rfl|skip
   all_goals
    unfold eqGuard
    simp only[Bool.not_true,Bool.false_eq_true,if_false]
    rw[ft (show(program).run P w=.ok P w from rfl),ft (show(program).run P w=.ok P w from rfl)]
    rw[(ok.eq t h).2.1]
    rfl
 · rename_i h1 D
   refine Ad ?_ ?_ w
   · rintro c d ⟨rfl,rfl⟩
     cases rx;cases b
     exact D _ _ rfl rfl
   · rintro ⟨rfl,rfl⟩
     cases rx;cases b
     exact h1 rfl rfl
theorem H_(ok:T.Ok P)(H:gx B0 w0 g O G w){op:BinOp}{t:TypeId}{xo yo:Operand}{x y x' y' v:Value}(h:Ac T op t xo yo x y=some v)(rx:fP g x x')(j:fP g y y'):
 iG B0 w0 g O G n w ((do eqGuard op t xo yo x' y';binOp op t x' y':Sem Value).run P w) (v,[],0):=by
 unfold Ac at h
 split at h
 · rename_i k a k' b
   obtain rfl:=rx.lj
   obtain rfl:=j.lj
   have m:=Ad (P:=P) (op:=op) (t:=t) (xo:=xo) (yo:=yo) (x:=.int k a) (y:=.int k' b) (fun c d h=>by cases h.1) (fun h=>by cases h.1) w
   have A:∀r:Value,(binOp op t (.int k a) (.int k' b)).run P w=.ok r w->fP g r r->iG B0 w0 g O G n w ((do eqGuard op t xo yo (.int k a) (.int k' b);binOp op t (.int k a) (.int k' b):Sem Value).run P w) (r,[],0):=
    fun r h1 D=>iG.pure H (by rw[ft m];exact h1) D
   split at h
   · refine A v (EL h t w) ?_
     unfold CQ at h
     split at h
     · split at h<;>first|(cases h;exact .int _ _)|cases h
     · cases h
   · refine A v (EL h t w) ?_
     unfold CQ at h
     split at h
     · split at h<;>first|(cases h;exact .int _ _)|cases h
     · cases h
   · cases hk:wD k k' with
     |false=>rw[hk]at h;cases h
     |true=>
      rw[hk]at h
      simp only[cond_true]at h
      obtain rfl:=vR hk
      refine A v (Ml h t w) ?_
      unfold H9 at h
      split at h<;>first|(cases h;first|exact .int _ _|exact .bool _)|skip
      · cases hy:kN b 0<;>rw[hy]at h<;>cases h;exact .int _ _
      · cases hy:kN b 0<;>rw[hy]at h<;>cases h;exact .int _ _
      all_goals first|(cases h;done)|(obtain⟨r,_,rfl⟩:=fI.1 h;exact .int _ _)
 · rename_i a b
   obtain rfl:=rx.lr
   obtain rfl:=j.lr
   have m:=Ad (P:=P) (op:=op) (t:=t) (xo:=xo) (yo:=yo) (x:=.string a) (y:=.string b) (fun c d h=>by cases h.1) (fun h=>by cases h.1) w
   refine iG.pure H (v':=v) ?_ ?_
   · rw[ft m]
     have:=P_ h P w
     have e:binOp op t (.string a) (.string b)=Op.stringOp op a b:=by cases op<;>rfl
     rw[e];exact this
   · unfold EK at h
     split at h<;>first|(cases h;done)|(cases h;exact .bool _)|skip
     cases hb:(Nat.blt (strs a).length 1073741824&&Nat.blt (strs b).length 1073741824)<;>rw[hb]at h<;>cases h
     exact .string _
 · rename_i h1 D
   cases hg:F4 T t xo yo x y with
   |false=>rw[hg]at h;cases h
   |true=>
    rw[hg]at h
    simp only[cond_true]at h
    have m:=Lf ok (op:=op) hg rx j w
    have o:∀k a k' b,¬(x'=.int k a/\y'=.int k' b):=by
     rintro k a k' b ⟨rfl,rfl⟩
     cases rx;cases j;exact h1 _ _ _ _ rfl rfl
    have p:∀a b,¬(x'=.string a/\y'=.string b):=by
     rintro a b ⟨rfl,rfl⟩
     cases rx;cases j;exact D _ _ rfl rfl
    have z:∀k b,x'≠.float k b:=by rintro k b rfl;cases rx
    have u:∀k b c,x'≠.complex k b c:=by rintro k b c rfl;cases rx
    split at h
    · obtain⟨b,hb,rfl⟩:=Option.map_eq_some_iff.1 h
      refine iG.pure H (v':=.bool b) ?_ (.bool _)
      rw[ft m]
      have e:binOp .eql t x' y'=(do pure (.bool (<-Op.equal t x' y'))):=by
       unfold binOp
       split<;>first|rfl|contradiction|(exfalso;first|exact o _ _ _ _ ⟨rfl,rfl⟩|exact p _ _ ⟨rfl,rfl⟩|exact z _ _ rfl|exact u _ _ _ rfl)
      rw[e,ft (show(Op.equal t x' y').run P w=.ok b w from EM ok 12 Op.maxDepth t x y x' y' b (by decide) hb rx j)]
      rfl
    · obtain⟨b,hb,rfl⟩:=Option.map_eq_some_iff.1 h
      refine iG.pure H (v':=.bool (!b)) ?_ (.bool _)
      rw[ft m]
      have e:binOp .neq t x' y'=(do pure (.bool (!(<-Op.equal t x' y')))):=by
       unfold binOp
       split<;>first|rfl|contradiction|(exfalso;first|exact o _ _ _ _ ⟨rfl,rfl⟩|exact p _ _ ⟨rfl,rfl⟩|exact z _ _ rfl|exact u _ _ _ rfl)
      rw[e,ft (show(Op.equal t x' y').run P w=.ok b w from EM ok 12 Op.maxDepth t x y x' y' b (by decide) hb rx j)]
      rfl
    · cases h
def XT(op:UnOp)(x:Value):Option Value:=
 match op,x with
 |.neg,.int k m=>some (.int k (gy k (0-m)))
 |.not,.bool b=>some (.bool (!b))
 |.xor,.int .u64 m=>some (.int .u64 (xz .u64 (Nat.xor 18446744073709551615 (rE .u64 m))))
 |.xor,.int .u32 m=>some (.int .u32 (xz .u32 (Nat.xor 4294967295 (rE .u32 m))))
 |_,_=>none
theorem RL(H:gx B0 w0 g O G w){op:UnOp}{x x' v:Value}(h:XT op x=some v)(rx:fP g x x'):iG B0 w0 g O G n w ((Op.unary op x').run P w) (v,[],0):=by
 unfold XT at h
 split at h
 · rename_i k m
   cases h;obtain rfl:=rx.lj
   refine iG.pure H ?_ (.int _ _)
   rw[tU];rfl
 · cases h;obtain rfl:=rx.r9
   exact iG.pure H rfl (.bool _)
 · rename_i m
   cases h;obtain rfl:=rx.lj
   refine iG.pure H ?_ (.int _ _)
   exact vm (op:=.xor) (k:=.u64) (x:=18446744073709551615) (y:=m) rfl P w
 · rename_i m
   cases h;obtain rfl:=rx.lj
   refine iG.pure H ?_ (.int _ _)
   exact vm (op:=.xor) (k:=.u32) (x:=4294967295) (y:=m) rfl P w
 · cases h
def DE(T:Ty)(t:TypeId)(x:Value):Option Value:=
 match T.jo t with
 |some (.interface _)=>none
 |some _=>some (.iface t x)
 |none=>none
theorem G7(ok:T.Ok P)(H:gx B0 w0 g O G w){t:TypeId}{x x' v:Value}(h:DE T t x=some v)(rx:fP g x x'):iG B0 w0 g O G n w ((Instr.makeInterface t x').run P w) (v,[],0):=by
 unfold DE at h
 split at h
 · cases h
 · rename_i d hn hu
   cases h
   refine iG.pure H ?_ (.iface rx)
   unfold Instr.makeInterface
   rw[ft (ok.gV hu w)]
   cases d<;>first|rfl|exact(hn _ rfl).elim
 · cases h
def EN(fn:Fn)(x y:Array Value):Option Value:=
 match fn with
 |.func _=>some (.func fn x y)
 |.method _=>some (.func fn x y)
 |_=>none
theorem Ia(H:gx B0 w0 g O G w){fn:Fn}{x y x' y':Array Value}{v:Value}(h:EN fn x y=some v)(rx:sy g x x')(b:sy g y y'):iG B0 w0 g O G n w ((Instr.makeFunc fn x' y').run P w) (v,[],0):=by
 unfold EN at h
 split at h
 · cases h;exact iG.pure H rfl (.func rx.1 b.1 rx.2 b.2)
 · cases h;exact iG.pure H rfl (.method rx.1 b.1 rx.2 b.2)
 · cases h
def G9(x:Value)(i:Nat):Option Value:=
 match x with
 |.tuple vs=>vs.toList[i]?
 |_=>none
theorem Jq(H:gx B0 w0 g O G w){x x' v:Value}{i:Nat}(h:G9 x i=some v)(rx:fP g x x'):iG B0 w0 g O G n w ((Instr.extract x' i).run P w) (v,[],0):=by
 unfold G9 at h
 split at h
 · obtain⟨b,rfl,hx⟩:=rx.EE
   obtain⟨v',h1,D⟩:=hx.toList.get h
   have:b[i]?=some v':=by simpa using h1
   refine iG.pure H (v':=v') ?_ D
   simp only[Instr.extract,this]
   rfl
 · cases h
def lu(c a b:Value):Option Value:=
 match c with
 |.bool true=>some a
 |.bool false=>some b
 |_=>none
def EO(x:Value):Option Value:=
 match x with
 |.pointer (some _)=>some x
 |.func (.func _) _ _=>some x
 |.func (.yield _) _ _=>some x
 |.iface _ _=>some x
 |_=>none
def G_(T:Ty)(O:Hp)(t:TypeId)(x:Value):Option Value:=
 match T.jo t,x with
 |some .string,.string s=>some (.int .i64 (.ofNat s.data.toList.length))
 |some (.array k _),_=>some (.int .i64 (.ofNat k))
 |some (.slice _),.slice _ l _=>some (.int .i64 (.ofNat l))
 |some (.map _ _),.map none=>some (.int .i64 0)
 |some (.map _ _),.map (some r)=>match O r with
  |some (.map es _)=>some (.int .i64 (.ofNat es.length))
  |_=>none
 |_,_=>none
theorem gx.AJ(H:gx B0 w0 g O G w){b:Nat}{es:List MapEntry}{c:Nat}(h:O b=some (.map es c)){rb ro:Nat}(hb:g.ga b=some (rb,ro)):
 ∃e,ro=0/\w.heap[rb]?=some (.map e c)/\B0<=rb/\kY g es e.toList:=by
 obtain⟨jv,a2,a3⟩:=(H.live b _ h).2 _ _ hb
 cases jv<;>first|exact a3.elim|skip
 obtain⟨rfl,j,rfl,m⟩:=a3
 exact⟨_,rfl,a2,j,m⟩
theorem oO{r:Nat}{o:Obj}(h:w.heap[r]?=some o)(hc:∀c e f,o≠.cells c e f):(getObj r).run P w=.ok o w:=by
 unfold getObj
 simp only[Sem.run,h]
 all_goals (cases o<;>first|exact(hc _ _ _ rfl).elim|rfl)
theorem Qd(ok:T.Ok P)(H:gx B0 w0 g O G w){t:TypeId}{ts:Array TypeId}(e:ts[0]?=some t){x x' v:Value}(h:G_ T O t x=some v)(rx:fP g x x')(args:Array Value)(b:args[0]?=some x')(ty:TypeId):
 iG B0 w0 g O G n w ((Builtin.len_ ts ty args).run P w) (v,[],0):=by
 unfold G_ at h
 split at h
 · rename_i s hu
   cases h;obtain rfl:=rx.lr
   refine iG.pure H ?_ (.int _ _)
   simp only[Builtin.len_,e,b]
   rw[ft (ok.gV hu w)]
   show Result.ok _ w=_
   unfold goInt
   rw[Array.length_toList];rfl
 · rename_i k el hu
   cases h
   refine iG.pure H ?_ (.int _ _)
   simp only[Builtin.len_,e,b]
   rw[ft (ok.gV hu w)]
   cases x'<;>rfl
 · rename_i el a l c hu
   cases h
   refine iG.pure H ?_ (.int _ _)
   simp only[Builtin.len_,e,b]
   rw[ft (ok.gV hu w)]
   cases rx<;>rfl
 · rename_i hu
   cases h;obtain rfl:=rx.qo
   refine iG.pure H ?_ (.int _ _)
   simp only[Builtin.len_,e,b]
   rw[ft (ok.gV hu w)]
   rfl
 · rename_i r hu
   split at h
   · rename_i es c hr
     cases h
     obtain⟨rr,hg,rfl⟩:=rx.wq
     obtain⟨j,_,a2,_,a4⟩:=H.AJ hr hg
     refine iG.pure H ?_ (.int _ _)
     simp only[Builtin.len_,e,b]
     rw[ft (ok.gV hu w)]
     simp only
     rw[ft (oO a2 (fun _ _ _ h=>by cases h))]
     show Result.ok _ w=_
     unfold goInt
     rw[a4.1,Array.length_toList];rfl
   · cases h
 · cases h
end
end
end Sw
namespace Sw
noncomputable section
open Go Go.RowKit
def CR(b:UInt8):Value:=.int .u8 b.toNat
def pR(T:Ty)(xt:TypeId)(x:Value):Option (Nat×Bool):=
 match T.jo xt,x with
 |some (.int _),.int _ (.ofNat l)=>bif Nat.blt l 2147483648 then some (l,true)else none
 |some (.int _),_=>none
 |some _,.slice _ l _=>some (l,false)
 |some _,.string s=>some ((strs s).length,false)
 |_,_=>none
def lU(O:Hp)(k:Nat)(x:Value):Option (List Value):=
 match x with
 |.slice (some ⟨b,off,none⟩) _ _=>match k with
  |0=>some []
  |_=>match O b with
   |some (.cells Z _)=>lQ k (Z.drop off)
   |_=>none
 |.slice (some _) _ _=>match k with|0=>some []|_=>none
 |.slice none _ _=>some []
 |.string s=>lQ k ((strs s).map CR)
 |_=>none
section
variable {T:Ty}{P:Program}{B0:Nat}{w0:World}{g:Gm}{O:Hp}{G n:Nat}{w:World}
theorem CS(H:gx B0 w0 g O G w){k m size:Nat}{x x':Value}{l:List Value}(h:lU O k x=some l)(rx:fP g x x')(hk:k=m*size)(hs:∀s,x=.string s->size=1/\m<=(strs s).length)
 (hl:∀a l c,x=.slice a l c->m<=l):∃j,(Builtin.firstCells size m x').run P w=.ok j.toArray w/\gZ g l j:=by
 have zero:∀a:Addr,m*size=0->(Builtin.firstCells size m (.slice (some a) 0 0)).run P w=.ok #[] w:=fun a h0=>by
  simp only[Builtin.firstCells]
  rw[h0];rfl
 unfold lU at h
 split at h
 · rename_i b off z y
   have hm:=hl _ _ _ rfl
   rcases rx.nk with⟨a2,rfl,rfl,rfl⟩|⟨_,rb,ro,c2,hg,_,_,rfl⟩
   · have u:m=0:=by omega
     subst u
     simp only[Nat.zero_mul]at hk
     subst hk
     cases h
     exact⟨[],zero a2 (by omega),gZ.nil g⟩
   · split at h
     · cases h
       refine⟨[],?_,gZ.nil g⟩
       simp only[Builtin.firstCells]
       rw[<-hk];rfl
     · split at h
       · rename_i Z A hb
         obtain⟨j,h1,D⟩:=H.loadCells (P:=P) hb hg h
         refine⟨j,?_,D⟩
         simp only[Builtin.firstCells]
         rw[<-hk];exact h1
       · cases h
 · split at h
   · cases h
     refine⟨[],?_,gZ.nil g⟩
     rcases rx.nk with⟨a2,rfl,rfl,rfl⟩|⟨_,rb,ro,c2,hg,_,_,rfl⟩<;>
     · simp only[Builtin.firstCells]
       rw[<-hk];rfl
   · cases h
 · cases h
   obtain⟨_,_,rfl⟩:=rx.mf
   exact⟨[],rfl,gZ.nil g⟩
 · rename_i s
   obtain rfl:=rx.lr
   obtain⟨h1,D⟩:=hs s rfl
   subst h1
   simp only[Nat.mul_one]at hk
   subst hk
   obtain⟨rfl,_⟩:=wx _ _ _ h
   refine⟨((strs s).map CR).take k,?_,?_⟩
   · simp only[Builtin.firstCells]
     have:(s.extract 0 k).data.map (fun b=>(Value.int .u8 b.toNat))=(((strs s).map CR).take k).toArray:=by
      rw[Av]
      unfold strs
      simp only[List.drop_zero,Nat.sub_zero,List.map_toArray,<-List.map_take]
      rfl
     rw[this];rfl
   · refine⟨rfl,fun i v v' e o=>?_⟩
     rw[e]at o;cases o
     rw[List.getElem?_take]at e
     split at e
     · rw[List.getElem?_map]at e
       cases p:(strs s)[i]? with
       |none=>rw[p]at e;cases e
       |some b=>rw[p]at e;cases e;exact .int _ _
     · cases e
 · cases h
theorem gZ.WB{x x':List Value}(h:gZ g x x')(j:x.all one=true):∀v∈x',one v=true:=by
 rw[List.all_eq_true]at j
 intro v' m
 obtain⟨i,hi,e⟩:=gC.1 m
 have b:i<x.length:=by rw[h.1];exact hi
 have:=h.2 i x[i] x'[i] (fq b) (fq hi)
 rw[e]at this
 rw[<-this.one]
 exact j _ (List.getElem_mem b)
theorem RM(m:Nat):∀(r c:Nat),c<=2*m+192->Builtin.growBy m r c<=2*m+192:=by
 intro r
 induction r with
 |zero=>intro c h;exact h
 |succ r ih=>
  intro c h
  unfold Builtin.growBy
  split
  · exact h
  · exact ih _ (by omega)
theorem nextslicecap_le{m c:Nat}(h:c<m):Builtin.nextslicecap m c<=2*m+192:=by
 unfold Builtin.nextslicecap
 split
 · omega
 · split
   · omega
   · exact RM m 4 c (by omega)
def uR(size:Nat)(x:Value):Bool:=
 match x with
 |.string _=>Nat.beq size 1
 |_=>true
def mg(O:Hp)(z:Value)(m size:Nat)(mX:Bool)(x:Value):Option (List Value):=
 bif mX then some (kP m z.cells.toList)else bif uR size x then lU O (m*size) x else none
theorem EP{O:Hp}{z:Value}{m size:Nat}{x:Value}{new:List Value}(h:mg O z m size false x=some new):lU O (m*size) x=some new/\∀s,x=.string s->size=1:=by
 unfold mg at h
 simp only[cond_false]at h
 cases hs:uR size x with
 |false=>rw[hs]at h;cases h
 |true=>
  rw[hs]at h
  exact⟨h,fun s e=>by subst e;exact fC hs⟩
def beyond(f:Nat)(e:Mem):Bool:=Nat.blt f (e.base+e.len)
theorem ER{f:Nat}{e:Mem}(h:beyond f e=false):e.base+e.len<=f:=by
 unfold beyond at h
 have:¬f<e.base+e.len:=fun k=>by rw[mN.2 k]at h;cases h
 omega
def pZ(O:Hp)(base:Option Addr)(l size:Nat)(new:List Value)(m n:Nat):Option qj:=
 match base with
 |none=>some (.slice (some ⟨n+1,0,none⟩) (l+m) (l+m),
   [(n,some (jT.group [⟨n+1,0,new.length⟩])),(n+1,some (jT.cells new ⟨false,some n,0,size⟩))],2)
 |some ⟨b,off,none⟩=>match O b with
  |some (.cells Z mt)=>(match l*size with|0=>some []|k=>lQ k (Z.drop off)).bind fun j=>match mt.mP with
   |none=>some (.slice (some ⟨n+1,0,none⟩) (l+m) (l+m),
     [(n,some (jT.group [⟨n+1,0,(j++new).length⟩])),(n+1,some (jT.cells (j++new) ⟨false,some n,0,size⟩))],2)
   |some gr=>match O gr with
    |some (.group ms)=>
     bif (!mt.ro&&Nat.beq mt.unit size)&&oF O (beyond (mt.base+off+l*size)) ms then
      some (.slice (some ⟨n,0,none⟩) (l+m) (l+m),
       nw (beyond (mt.base+off+l*size)) ms++[(gr,some (jT.group ((ms.filter fun e=>!(beyond (mt.base+off+l*size) e))++([⟨n,mt.base+off,(j++new).length⟩]:List Mem)))),
        (n,some (jT.cells (j++new) ⟨false,some gr,mt.base+off,size⟩))],1)
     else none
    |_=>none
  |_=>none
 |_=>none
def jU(T:Ty)(O:Hp)(st xt:TypeId)(s x:Value)(n:Nat):Option qj:=
 match T.jo st,s with
 |some (.slice el),.slice base l c=>
  match T.size el,T.zero el,T.kn el,pR T xt x with
  |some size,some z,some inf,some (m,mX)=>
   (mg O z m size mX x).bind fun new=>
     bif new.all one&&(Nat.ble ((l+m)*inf.bytes) 70368744177664&&(Nat.ble inf.bytes 1073741824&&Nat.ble (l+m) 70368744177664))then
      (bif Nat.ble (l+m) c then
        (match base,new with
        |_,[]=>some (.slice base (l+m) c,[],0)
        |some ⟨b,off,none⟩,new=>match O b with
         |some (.cells Z mt)=>(oG O b Z mt (off+l*size) new).map fun u=>(.slice base (l+m) c,u,0)
         |_=>none
        |_,_=>none)
      else pZ O base l size new m n)
     else none
  |_,_,_,_=>none
 |_,_=>none
theorem Ib{xt:TypeId}{x x':Value}{m:Nat}{mX:Bool}(h:pR T xt x=some (m,mX))(rx:fP g x x')(w:World):
 ∃d,T.jo xt=some d/\(match d with|.int _=>true|_=>false)=mX/\
  (mX=true->∃k,x'=.int k (m:Int)/\m<2147483648)/\(mX=false->(Builtin.lenOf x').run P w=.ok m w/\(∀s,x=.string s->m=(strs s).length)/\∀a l c,x=.slice a l c->m=l):=by
 unfold pR at h
 split at h
 · rename_i b kx l hu
   cases hb:Nat.blt l 2147483648 with
   |false=>rw[hb]at h;cases h
   |true=>
    rw[hb]at h
    cases h
    obtain rfl:=rx.lj
    exact⟨_,hu,rfl,fun _=>⟨_,rfl,mN.1 hb⟩,fun h=>by cases h⟩
 · cases h
 · rename_i d a l c hn hu
   cases h
   refine⟨d,hu,?_,fun h=>(by cases h),fun _=>⟨?_,fun s h=>(by cases h),fun a l c h=>(by cases h;rfl)⟩⟩
   · cases d<;>first|rfl|exact(hn _ rfl).elim
   · cases rx<;>rfl
 · rename_i d s hn hu
   cases h
   refine⟨d,hu,?_,fun h=>(by cases h),fun _=>⟨?_,fun s h=>(by cases h;rfl),fun a l c h=>(by cases h)⟩⟩
   · cases d<;>first|rfl|exact(hn _ rfl).elim
   · obtain rfl:=rx.lr
     show Result.ok _ w=_
     rw[show(strs s).length=s.size from by unfold strs;rw[Array.length_toList];rfl]
 · cases h
theorem CT(ok:T.Ok P){el:TypeId}{z:Value}{size:Nat}(o:T.zero el=some z)(p:z.cells.size=size)(H:gx B0 w0 g O G w){m:Nat}{mX:Bool}{x x':Value}{new:List Value}
 (h:mg O z m size mX x=some new) (rx:fP g x x') (hn:mX=false->(∀s,x=.string s->m=(strs s).length)/\∀a l c,x=.slice a l c->m=l):
 ∃b,((if !mX then Builtin.firstCells size m x' else if m*size=0 then pure #[]else do pure (Builtin.zeroCells (<-zeroValue el).cells m):Sem (Array Value))).run P w=.ok b.toArray w/\gZ g new b/\(mX=true->new.length=m*size):=by
 cases mX with
 |true=>
  unfold mg at h
  simp only[cond_true,Option.some.injEq]at h
  subst h
  have hl:∀k,(kP k z.cells.toList).length=k*size:=fun k=>by
   induction k with
   |zero=>simp[kP]
   |succ k ih=>simp only[kP,List.length_append,ih,Array.length_toList,p];rw[Nat.succ_mul];omega
  refine⟨kP m z.cells.toList,?_,(gZ.BV (ok.ru o)).kP m,fun _=>hl m⟩
  simp only[Bool.not_true,Bool.false_eq_true,if_false]
  by_cases h0:m*size=0
  · rw[if_pos h0]
    have:=hl m
    rw[h0]at this
    rw[List.length_eq_zero_iff.1 this]
    rfl
  · rw[if_neg h0,ft (ok.qq o w)]
    have:Builtin.zeroCells z.cells m=(kP m z.cells.toList).toArray:=by
     unfold Builtin.zeroCells
     rw[<-CP z.cells m]
    rw[this];rfl
 |false=>
  obtain⟨h,j⟩:=EP h
  obtain⟨h1,D⟩:=hn rfl
  obtain⟨A,u,y⟩:=CS (P:=P) H h rx rfl (fun s e=>⟨j s e,by rw[h1 s e];exact fg _⟩) (fun a l c e=>by rw[D a l c e];exact fg _)
  exact⟨A,by simpa using u,y,fun h=>by cases h⟩
structure CU(T:Ty)(P:Program)(st xt el:TypeId)(size:Nat)(rF:Array TypeId)(oP:Array Value)(base:Option Addr)(l c m:Nat)(x':Value)(mX:Bool)(inf:TypeInfo):Prop where
 jo:T.jo st=some (.slice el)
 size:T.size el=some size
 ZY:rF[0]?=some st
 V6:rF[1]?=some xt
 a0:oP[0]?=some (.slice base l c)
 a1:oP[1]?=some x'
 xd:∃d,T.jo xt=some d/\(match d with|.int _=>true|_=>false)=mX
 ZZ:mX=true->∃k,x'=.int k (m:Int)/\m<2147483648
 len:mX=false->∀w,(Builtin.lenOf x').run P w=.ok m w
 BY:T.kn el=some inf
 small:(l+m)*inf.bytes<=70368744177664/\inf.bytes<=1073741824/\l+m<=70368744177664
theorem wrap_small{m:Nat}(h:m<2147483648):IntKind.i64.wrap (m:Int)=m:=by
 have:=tU .i64 (m:Int)
 rw[<-this]
 show gy .i64 (.ofNat m)=_
 unfold gy
 have hr:rE .i64 (.ofNat m)=m:=by
  show m%18446744073709551616=m
  exact Nat.mod_eq_of_lt (by omega)
 rw[hr]
 unfold xz
 have:Nat.ble (AE .i64) m=false:=by
  cases hb:Nat.ble (AE .i64) m with
  |false=>rfl
  |true=>have:=fk hb;simp only[AE]at this;omega
 rw[this];rfl
theorem CU.fits(ok:T.Ok P){st xt el:TypeId}{size:Nat}{rF:Array TypeId}{oP:Array Value}{base:Option Addr}{l c m:Nat}{x':Value}{mX:Bool}{inf:TypeInfo}
 (A:CU T P st xt el size rF oP base l c m x' mX inf) {j:List Value}
 (hn:((if !mX then Builtin.firstCells size m x' else if m*size=0 then pure #[]else do pure (Builtin.zeroCells (<-zeroValue el).cells m):Sem (Array Value))).run P w=.ok j.toArray w) (b:l+m<=c) (ty:TypeId) {w':World}
 (o:∀a,base=some a->(storeCells (a.add (l*size)) j).run P w=.ok () w') (e:base=none->w'=w):
 (Builtin.append_ rF ty oP).run P w=.ok (.slice base (l+m) c) w':=by
 obtain⟨d,hd,p⟩:=A.xd
 unfold Builtin.append_
 simp only[A.ZY,A.V6,A.a0,A.a1]
 rw[ft (ok.gV A.jo w)]
 simp only
 rw[ft (ok.oE A.size w),ft (ok.gV hd w),pure_bind]
 cases mX with
 |true=>
  cases d<;>first|(cases p;done)|skip
  obtain⟨k,rfl,hk⟩:=A.ZZ rfl
  simp only[if_true,asInt,asIntOf,pure_bind,wrap_small hk]
  rw[if_neg (by omega),ft (ok.sa A.BY w),if_neg (by
   have h1:m*inf.bytes<=(l+m)*inf.bytes:=Nat.mul_le_mul_right _ (by omega)
   have:=A.small.1
   have D:((m:Int)*(inf.bytes:Int))=((m*inf.bytes:Nat):Int):=by rw[Int.natCast_mul]
   rw[D];omega)]
  simp only[Int.toNat_natCast,if_pos b]
  rw[ft hn]
  cases base with
  |none=>rw[e rfl];rfl
  |some a=>simp only;rw[ft (o a rfl)];rfl
 |false=>
  have hl:=A.len rfl w
  split
  · cases p
  · simp only[Bool.false_eq_true,if_false]
    rw[ft hl,if_pos b,ft hn]
    cases base with
    |none=>rw[e rfl];rfl
    |some a=>simp only;rw[ft (o a rfl)];rfl
theorem CV(gu c:Nat)(el:TypeId)(w:World):∃t,gu<=t/\(choose (.appendCap gu c el)).run P w=.ok t w.drew:=
 ⟨gu+(w.tape w.drawn (.appendCap gu c el))%(2^63-gu),gv _ _,rfl⟩
theorem run_askRoom(b:Nat)(w:World):(askRoom b).run P w=.ok () w:=by
 unfold askRoom
 split<;>rfl
theorem CU.V7(ok:T.Ok P){st xt el:TypeId}{size:Nat}{rF:Array TypeId}{oP:Array Value}{base:Option Addr}{l c m:Nat}{x':Value}{mX:Bool}{inf:TypeInfo}
 (A:CU T P st xt el size rF oP base l c m x' mX inf) {j e:List Value} {z:Value} (F:T.zero el=some z)
 (hn:((if !mX then Builtin.firstCells size m x' else if m*size=0 then pure #[]else do pure (Builtin.zeroCells (<-zeroValue el).cells m):Sem (Array Value))).run P w.drew=.ok e.toArray w.drew)
 (E:(Builtin.firstCells size l (.slice base l c)).run P w.drew=.ok j.toArray w.drew) (C:c<l+m) (ty:TypeId):
 ∃t,l+m<=t/\(Builtin.append_ rF ty oP).run P w=.ok (.slice (some ⟨w.heap.size,0,none⟩) (l+m) t) (w.drew.alloc (.cells (j++e++kP (t-(l+m)) z.cells.toList).toArray el)):=by
 obtain⟨d,hd,B⟩:=A.xd
 obtain⟨t,J,u⟩:=CV (P:=P) (l+m) c el w
 have y:∀k,Builtin.zeroCells z.cells k=(kP k z.cells.toList).toArray:=fun k=>by
  unfold Builtin.zeroCells;rw[<-CP z.cells k]
 refine⟨t,J,?_⟩
 have o:¬(((l+m:Nat):Int)>IntKind.i64.max):=fun h1=>by
  have D:=A.small.2.2
  have h3:IntKind.i64.max=9223372036854775807:=by decide
  rw[h3]at h1
  omega
 have p:¬(Builtin.nextslicecap (l+m) c*inf.bytes>2^48):=fun h=>by
  have h1:=nextslicecap_le C
  obtain⟨s1,s2,_⟩:=A.small
  have D:Builtin.nextslicecap (l+m) c*inf.bytes<=(2*(l+m)+192)*inf.bytes:=gJ _ h1
  have h3:(2*(l+m)+192)*inf.bytes=2*((l+m)*inf.bytes)+192*inf.bytes:=by rw[Nat.add_mul,Nat.mul_assoc]
  omega
 unfold Builtin.append_
 simp only[A.ZY,A.V6,A.a0,A.a1]
 rw[ft (ok.gV A.jo w)]
 simp only
 rw[ft (ok.oE A.size w),ft (ok.gV hd w),pure_bind]
 have b:¬(l+m<=c):=by omega
 cases mX with
 |true=>
  cases d<;>first|(cases B;done)|skip
  obtain⟨k,rfl,hk⟩:=A.ZZ rfl
  simp only[if_true,asInt,asIntOf,pure_bind,wrap_small hk]
  rw[if_neg (by omega),ft (ok.sa A.BY w),if_neg (by
   have h1:m*inf.bytes<=(l+m)*inf.bytes:=Nat.mul_le_mul_right _ (by omega)
   have:=A.small.1
   have D:((m:Int)*(inf.bytes:Int))=((m*inf.bytes:Nat):Int):=by rw[Int.natCast_mul]
   rw[D];omega)]
  simp only[Int.toNat_natCast,if_neg b]
  rw[ft (ok.sa A.BY w),if_neg (fun h=>o h.1),ft (ok.sa A.BY w),if_neg p,ft u,ft (ok.sa A.BY w.drew),ft (run_askRoom _ _),ft E,ft hn,ft (ok.qq F w.drew),ft (tE _ _ _)]
  rw[y]
  simp
 |false=>
  have hl:=A.len rfl w
  split
  · cases B
  · simp only[Bool.false_eq_true,if_false]
    rw[ft hl,if_neg b,ft (ok.sa A.BY w),if_neg (fun h=>o h.1),ft (ok.sa A.BY w),if_neg p,ft u,ft (ok.sa A.BY w.drew),ft (run_askRoom _ _),ft E,ft hn,ft (ok.qq F w.drew),ft (tE _ _ _)]
    rw[y]
    simp
theorem ES{α:Type}{k:Nat}{l r:List α}(h:lQ k l=some r):r.length=k:=by
 obtain⟨rfl,D⟩:=wx _ _ _ h
 simp;omega
theorem Bm{α:Type}(z:List α):∀k,(kP k z).length=k*z.length
 |0=>by simp[kP]
 |k+1=>by simp only[kP,List.length_append,Bm z k];rw[Nat.succ_mul];omega
theorem Mm{z:Value}{size m:Nat}{mX:Bool}{x x':Value}{new:List Value}(h:mg O z m size mX x=some new)(b:z.cells.size=size)(rx:fP g x x')
 (hn:mX=false->∀a l c,x=.slice a l c->m=l):new.length=m*size:=by
 cases mX with
 |true=>
  unfold mg at h
  simp only[cond_true,Option.some.injEq]at h
  subst h
  rw[Bm,Array.length_toList,b]
 |false=>
  obtain⟨h,_⟩:=EP h
  unfold lU at h
  split at h
  · split at h
    · rename_i h0
      cases h;simp;exact h0.symm
    · split at h
      · exact ES h
      · cases h
  · split at h
    · rename_i h0;cases h;simp;exact h0.symm
    · cases h
  · rename_i l c
    cases h
    obtain⟨rfl,_,_⟩:=rx.mf
    have:=hn rfl _ _ _ rfl
    subst this;simp
  · exact ES h
  · cases h
theorem gx.Ha(H:gx B0 w0 g O G w)(f0:Dz g O n)(f1:Dz g O (n+1)){e_:Nat}(h1:G<=e_)(D:n+2<=e_){Z lJ rest:List Value}(hc:gZ g Z lJ)(el:TypeId)(unit:Nat):
 gx B0 w0 (g.add (n+1) (w.heap.size,0) (some ((lJ++rest).length,unit))) ((O.set n (some (.group [⟨n+1,0,Z.length⟩]))).set (n+1) (some (.cells Z ⟨false,some n,0,unit⟩))) e_ (w.alloc (.cells (lJ++rest).toArray el)):=by
 have H1:gx B0 w0 g (O.set n (some (.group [⟨n+1,0,Z.length⟩]))) e_ w:=H.L5 _ h1 (by omega) f0.ga (fun b Z m e k=>by
  obtain⟨ms,a1,_⟩:=H.mem b Z m n e k
  rw[f0.O]at a1;cases a1)
 refine H1.alloc f1.ga f1.room (by rw[Hp.gR _ _ (by omega)];exact f1.O) (fg _) (by omega) _ _ _ rfl ?_ ?_
 · refine⟨by simp[hc.1],fun i v v' e j=>?_,fun _=>⟨H.base,.inl rfl⟩,fun gr e=>?_,fun e=>by cases e⟩
   · have hi:i<Z.length:=(List.getElem?_eq_some_iff.1 e).1
     simp only[Nat.zero_add,List.getElem?_toArray]at j
     rw[List.getElem?_append,if_pos (by rw[<-hc.1];exact hi)]at j
     exact(hc.2 i v v' e j).mono (Gm.rq f1.ga _ _)
   · rw[Gm.sS]
     simp
 · intro o m1 gr e k
   cases e;cases k
   exact⟨_,Hp.jO _ _ _,fz ..⟩
theorem gx.RN(H:gx B0 w0 g O G w){gr:Nat}{ms:List Mem}(b:O gr=some (.group ms)){ov:Mem->Bool}(p:oF O ov ms=true)(f0:Dz g O n){e_:Nat}(h1:G<=e_)(D:n+1<=e_)
 {Z lJ rest:List Value} (hc:gZ g Z lJ) (el:TypeId) (unit base:Nat):
 gx B0 w0 (g.add n (w.heap.size,0) (some ((lJ++rest).length,unit))) (O.ur (nw ov ms++[(gr,some (jT.group ((ms.filter fun e=>!(ov e))++([⟨n,base,Z.length⟩]:List Mem)))),(n,some (jT.cells Z ⟨false,some gr,base,unit⟩))])) e_
  (w.alloc (.cells (lJ++rest).toArray el)):=by
 obtain⟨K,u,A⟩:=H.Cn b ov (Ab p) [⟨n,base,Z.length⟩]
 rw[Hp.Dy]
 have m:((O.ur (nw ov ms)).set gr (some (.group ((ms.filter fun e=>!(ov e))++[⟨n,base,Z.length⟩])))) n=none:=by
  have jI:n≠gr:=fun h=>by subst h;rw[f0.O]at b;cases b
  rw[Hp.gR _ _ jI]
  cases e:(O.ur (nw ov ms)) n with
  |none=>rfl
  |some o=>have:=(u n o e).1;rw[f0.O]at this;cases this
 refine K.alloc f0.ga f0.room m h1 (by omega) _ _ _ rfl ?_ ?_
 · refine⟨by simp[hc.1],fun i v v' e j=>?_,fun _=>⟨H.base,.inl rfl⟩,fun gr e=>?_,fun e=>by cases e⟩
   · have hi:i<Z.length:=(List.getElem?_eq_some_iff.1 e).1
     simp only[Nat.zero_add,List.getElem?_toArray]at j
     rw[List.getElem?_append,if_pos (by rw[<-hc.1];exact hi)]at j
     exact(hc.2 i v v' e j).mono (Gm.rq f0.ga _ _)
   · rw[Gm.sS]
     simp
 · intro y m1 z e k
   cases e;cases k
   exact⟨_,Hp.jO _ _ _,fR.2 (.inr (fz ..))⟩
end
end
end Sw
namespace Sw
noncomputable section
open Go Go.RowKit
section
variable {T:Ty}{P:Program}{B0:Nat}{w0:World}{g:Gm}{O:Hp}{G n:Nat}{w:World}
theorem gx.y4(H:gx B0 w0 g O G w){b off:Nat}{Z j:List Value}{mt:gm}(hb:O b=some (.cells Z mt)){l size c2:Nat}{o:Option Addr}
 (e:(match l*size with|0=>some []|k=>lQ k (Z.drop off))=some j) (hs:(∃a2,l=0/\o=some a2)\/∃rb ro,g.ga b=some (rb,ro)/\o=some ⟨rb,ro+off,none⟩):
 j.length=l*size/\∃m,(Builtin.firstCells size l (.slice o l c2)).run P w=.ok m.toArray w/\gZ g j m:=by
 by_cases h0:l*size=0
 · rw[h0]at e
   simp only at e
   cases e
   refine⟨by simp[h0],[],?_,gZ.nil g⟩
   rcases hs with⟨a2,_,rfl⟩|⟨rb,ro,_,rfl⟩<;>
   · simp only[Builtin.firstCells]
     rw[h0];rfl
 · obtain⟨k,hk⟩:∃k,l*size=k+1:=⟨l*size-1,by omega⟩
   rw[hk]at e
   simp only at e
   refine⟨by rw[hk];exact ES e,?_⟩
   rcases hs with⟨a2,rfl,_⟩|⟨rb,ro,hg,rfl⟩
   · simp at h0
   · obtain⟨p,h1,D⟩:=H.loadCells (P:=P) hb hg e
     refine⟨p,?_,D⟩
     simp only[Builtin.firstCells]
     rw[hk];exact h1
theorem Qe{Z j:List Value}{off k:Nat}(b:(match k with|0=>some []|k=>lQ k (Z.drop off))=some j):∀i v,j[i]?=some v->Z[off+i]?=some v/\i<k:=by
 intro i v e
 cases k with
 |zero=>simp only at b;cases b;simp at e
 |succ k=>
  simp only at b
  obtain⟨rfl,_⟩:=wx _ _ _ b
  rw[List.getElem?_take]at e
  split at e
  · rename_i hi
    exact⟨by simpa using e,hi⟩
  · cases e
theorem Lg(ok:T.Ok P)(H:gx B0 w0 g O G w){st xt:TypeId}{s a7 x x':Value}{e:qj}(h:jU T O st xt s x n=some e)(aP:fP g s a7)(rx:fP g x x')
 {rF:Array TypeId} {oP:Array Value} (t0:rF[0]?=some st) (t1:rF[1]?=some xt) (a0:oP[0]?=some a7) (a1:oP[1]?=some x') (ty:TypeId):
 iG B0 w0 g O G n w ((Builtin.append_ rF ty oP).run P w) e:=by
 unfold jU at h
 split at h
 · rename_i el base l c hu
   split at h
   · rename_i size z inf m mX au al pI a8
     obtain⟨new,aj,h⟩:=fM.1 h
     cases hb:(new.all one&&(Nat.ble ((l+m)*inf.bytes) 70368744177664&&(Nat.ble inf.bytes 1073741824&&Nat.ble (l+m) 70368744177664)))with
     |false=>rw[hb]at h;cases h
     |true=>
      rw[hb]at h
      simp only[cond_true]at h
      simp only[Bool.and_eq_true]at hb
      obtain⟨ak,b1,b2,aU⟩:=hb
      have b1:=fk b1
      have b2:=fk b2
      have aU:=fk aU
      obtain⟨d,hd,a_,aZ,hlen⟩:=Ib (P:=P) a8 rx w
      have ag:z.cells.size=size:=by
       have h1:inf.zero=some z:=by
        unfold Ty.zero at al;rw[pI]at al;exact al
       have D:=ok.V5 el inf z pI h1
       unfold Ty.size at au;rw[pI]at au;cases au;exact D
      have ar:new.length=m*size:=Mm aj ag rx (fun hf=>(hlen hf).2.2)
      have aM:∀w,mX=false->(Builtin.lenOf x').run P w=.ok m w:=fun w1 hf=>by
       obtain⟨_,_,_,_,q⟩:=Ib (P:=P) a8 rx w1
       exact(q hf).1
      have aG:mX=false->(∀s,x=.string s->m=(strs s).length)/\∀a l c,x=.slice a l c->m=l:=fun hf=>⟨(hlen hf).2.1,(hlen hf).2.2⟩
      have hr:∃B c2,a7=.slice B l c2/\c<=c2/\((base=none/\B=none/\l=0/\c=0/\c2=0)\/(∃a a2,base=some a/\B=some a2/\l=0/\c=0/\c2=0)\/
       ∃a rb ro,base=some a/\a.spot=none/\g.ga a.block=some (rb,ro)/\B=some ⟨rb,ro+a.off,none⟩/\l<=c/\FZ g a.block (ro+a.off) c c2):=by
       cases base with
       |none=>
        obtain⟨rfl,rfl,rfl⟩:=aP.mf
        exact⟨none,0,rfl,fg _,.inl ⟨rfl,rfl,rfl,rfl,rfl⟩⟩
       |some a=>
        rcases aP.nk with⟨a2,rfl,rfl,rfl⟩|⟨af,rb,ro,c2,hg,hl,hc,rfl⟩
        · exact⟨some a2,0,rfl,fg _,.inr (.inl ⟨a,a2,rfl,rfl,rfl,rfl,rfl⟩)⟩
        · exact⟨_,c2,rfl,by rcases hc with h|⟨h,_⟩<;>omega,.inr (.inr ⟨a,rb,ro,rfl,af,hg,rfl,hl,hc⟩)⟩
      obtain⟨B,c2,rfl,bC,hr⟩:=hr
      have A:CU T P st xt el size rF oP B l c2 m x' mX inf:=⟨hu,au,t0,t1,a0,a1,⟨d,hd,a_⟩,aZ,fun hf w=>aM w hf,pI,b1,b2,aU⟩
      obtain⟨F,aC,yr,_⟩:=CT (P:=P) (w:=w) ok al ag H aj rx aG
      have aW:F.length=m*size:=by rw[<-yr.1];exact ar
      cases C:Nat.ble (l+m) c with
      |true=>
       rw[C]at h
       simp only[cond_true]at h
       have C:=fk C
       split at h
       ·
        cases h
        have:F=[]:=by rw[<-List.length_eq_zero_iff,<-yr.1];rfl
        subst this
        have p:=A.fits (w':=w) ok aC (by omega) ty (fun _ _=>rfl) (fun _=>rfl)
        refine iG.pure H p ?_
        rcases hr with⟨rfl,rfl,rfl,rfl,rfl⟩|⟨a,a2,rfl,rfl,rfl,rfl,rfl⟩|⟨a,rb,ro,rfl,af,hg,rfl,hl,hc⟩
        · have:0+m=0:=by omega
          rw[this];exact .qn
        · have:0+m=0:=by omega
          rw[this];exact .oM _ _
        · obtain⟨bI,bJ,bA⟩:=a
          simp only at af;subst af
          exact .slice hg C hc
       · rename_i b off jI
         split at h
         · rename_i Z mt J
           obtain⟨u,bf,rfl⟩:=fI.1 h
           have bG:m≠0:=fun h0=>jI (by rw[<-List.length_eq_zero_iff,ar,h0];simp)
           rcases hr with⟨E,_⟩|⟨a,a2,_,_,rfl,rfl,_⟩|⟨a,rb,ro,ay,af,hg,rfl,hl,hc⟩
           · cases E
           · omega
           · cases ay
             simp only at hg
             have X:∀v∈new,one v=true:=by rw[List.all_eq_true]at ak;exact ak
             obtain⟨w',r1,r2,bo,bM⟩:=wz (P:=P) H J hg bf yr X
             have p:=A.fits (w':=w') ok aC (by omega) ty (fun a ay=>by
              cases ay
              rw[Addr.uQ]
              simp only[Nat.add_assoc]
              exact r1) (fun h=>by cases h)
             intro e_ h1 D hf
             refine⟨g,_,w',p,Gm.le_refl g,fun _ h=>.inl h,?_,r2.A5 h1,bo,by omega,pQ.refl _ _⟩
             exact .slice hg C hc
         · cases h
       · cases h
      |false=>
       rw[C]at h
       simp only[cond_false]at h
       have C:c<l+m:=by
        have:¬(l+m<=c):=fun k=>by rw[Nat.ble_eq_true_of_le k]at C;cases C
        omega
       have aw:gx B0 w0 g O G w.drew:=H.of_heap rfl rfl rfl rfl
       obtain⟨M,aS,aA,_⟩:=CT (P:=P) (w:=w.drew) ok al ag aw aj rx aG
       have aX:M.length=m*size:=by rw[<-aA.1];exact ar
       unfold pZ at h
       split at h
       ·
        cases h
        rcases hr with⟨_,rfl,rfl,rfl,rfl⟩|⟨a,a2,E,_⟩|⟨a,rb,ro,E,_⟩
        · have bw:(Builtin.firstCells size 0 (.slice none 0 0)).run P w.drew=.ok ([]:List Value).toArray w.drew:=rfl
          obtain⟨t,aH,p⟩:=A.V7 ok al aS bw (by omega) ty
          intro e_ h1 D hf
          have f0:=hf 0 (by show 0<2;omega)
          have f1:=hf 1 (by show 1<2;omega)
          have ai:=aw.Ha f0 f1 h1 D aA (rest:=kP (t-(0+m)) z.cells.toList) el size
          simp only[List.nil_append]at p
          refine⟨_,_,_,p,Gm.rq f1.ga _ _,?_,?_,ai,?_,by simp,pQ.new⟩
          · intro b hb
            by_cases az:b=n+1
            · exact .inr ⟨by omega,by show b<n+2;omega⟩
            · rw[Gm.j5 _ _ _ az]at hb;exact .inl hb
          · refine .slice (off:=0) (Gm.ma _ _ _ _) (Nat.le_refl _) ?_
            by_cases h0:0+m=t
            · exact .inl h0
            · refine .inr ⟨by omega,_,_,Gm.sS _ _ _ _,?_⟩
              rw[List.length_append,Bm,aX,show z.cells.toList.length=size from by rw[Array.length_toList,ag]]
              rw[<-Nat.add_mul]
              have:m+(t-(0+m))=t:=by omega
              rw[this];omega
          · exact fun rb L hn=>(tD.alloc w.drew _).other rb (by have:rb<w.heap.size:=L;show rb≠w.heap.size;omega)
        · cases E
        · cases E
       · rename_i b off _
         split at h
         · rename_i Z mt J
           obtain⟨ah,hold,h⟩:=fM.1 h
           have bd:(∃a2,l=0/\B=some a2)\/∃rb ro,g.ga b=some (rb,ro)/\B=some ⟨rb,ro+off,none⟩:=by
            rcases hr with⟨E,_⟩|⟨a,a2,_,rfl,rfl,_⟩|⟨a,rb,ro,E,_,hg,rfl,_⟩
            · cases E
            · exact .inl ⟨a2,rfl,rfl⟩
            · cases E;exact .inr ⟨rb,ro,hg,rfl⟩
           obtain⟨bh,aa,bj,bk⟩:=aw.y4 (P:=P) (c2:=c2) J hold bd
           have aD:gZ g (ah++new) (aa++M):=bk.append aA
           have aE:(ah++new).length=(l+m)*size:=by rw[List.length_append,bh,ar,Nat.add_mul]
           have aN:(aa++M).length=(l+m)*size:=by rw[<-aD.1];exact aE
           have grown:∀(R:c2<l+m),∃t,l+m<=t/\(Builtin.append_ rF ty oP).run P w=.ok (.slice (some ⟨w.heap.size,0,none⟩) (l+m) t) (w.drew.alloc (.cells ((aa++M)++kP (t-(l+m)) z.cells.toList).toArray el)):=
            fun R=>A.V7 ok al aS bj R ty
           have room:∀t,l+m<=t->((aa++M)++kP (t-(l+m)) z.cells.toList).length=t*size:=fun t aH=>by
            rw[List.length_append,aN,Bm,Array.length_toList,ag,<-Nat.add_mul]
            congr 1;omega
           split at h
           ·
            rename_i aq
            cases h
            have R:c2<l+m:=by
             rcases hr with⟨E,_⟩|⟨a,a2,_,_,_,_,rfl⟩|⟨a,rb,ro,E,_,hg,_,_,hc⟩
             · cases E
             · omega
             · cases E
               rcases hc with hc|⟨_,aP,u,ae,_⟩
               · omega
               · obtain⟨N,bs,bt,a6,_,_,_,_,aJ⟩:=H.vk J (by assumption)
                 rw[aJ aq]at ae;cases ae
            obtain⟨t,aH,p⟩:=grown R
            intro e_ h1 D hf
            have f0:=hf 0 (by show 0<2;omega)
            have f1:=hf 1 (by show 1<2;omega)
            have ai:=aw.Ha f0 f1 h1 D aD (rest:=kP (t-(l+m)) z.cells.toList) el size
            refine⟨_,_,_,p,Gm.rq f1.ga _ _,?_,?_,ai,?_,by simp,pQ.new⟩
            · intro b hb
              by_cases az:b=n+1
              · exact .inr ⟨by omega,by show b<n+2;omega⟩
              · rw[Gm.j5 _ _ _ az]at hb;exact .inl hb
            · refine .slice (off:=0) (Gm.ma _ _ _ _) (Nat.le_refl _) ?_
              by_cases h0:l+m=t
              · exact .inl h0
              · refine .inr ⟨by omega,_,_,Gm.sS _ _ _ _,?_⟩
                rw[room t aH];simp
            · exact fun rb L hn=>(tD.alloc w.drew _).other rb (by have:rb<w.heap.size:=L;show rb≠w.heap.size;omega)
           · rename_i gr W
             split at h
             · rename_i ms qX
               cases an:((!mt.ro&&Nat.beq mt.unit size)&&oF O (beyond (mt.base+off+l*size)) ms)with
               |false=>rw[an]at h;cases h
               |true=>
                rw[an]at h
                simp only[cond_true]at h
                cases h
                rw[Bool.and_eq_true,Bool.and_eq_true]at an
                obtain⟨⟨S,aI⟩,aq⟩:=an
                have S:mt.ro=false:=by simpa using S
                have aI:=fC aI
                by_cases R:c2<l+m
                ·
                 obtain⟨t,aH,p⟩:=grown R
                 intro e_ h1 D hf
                 have f0:=hf 0 (by show 0<1;omega)
                 have ai:=aw.RN qX aq f0 h1 D aD (rest:=kP (t-(l+m)) z.cells.toList) el size (mt.base+off)
                 refine⟨_,_,_,p,Gm.rq f0.ga _ _,Gm.CN,?_,ai,?_,by simp,pQ.new⟩
                 · refine .slice (off:=0) (Gm.ma _ _ _ _) (Nat.le_refl _) ?_
                   by_cases h0:l+m=t
                   · exact .inl h0
                   · refine .inr ⟨by omega,_,_,Gm.sS _ _ _ _,?_⟩
                     rw[room t aH];simp
                 · exact fun rb L hn=>(tD.alloc w.drew _).other rb (by have:rb<w.heap.size:=L;show rb≠w.heap.size;omega)
                ·
                 rcases hr with⟨E,_⟩|⟨a,a2,_,_,_,_,rfl⟩|⟨a,rb,ro,E,_,hg,rfl,hl,hc⟩
                 · cases E
                 · omega
                 · cases E
                   simp only at hg hc
                   obtain⟨N,bs,bt,a6,bK,bx,aJ,bz,_⟩:=H.vk J hg
                   rcases hc with hc|⟨_,aP,u,ae,aL⟩
                   · omega
                   · have aO:=bz gr W
                     rw[aO]at ae;cases ae
                     rw[aI]at aL
                     have bu:(l+m)*size<=c2*size:=gJ _ (by omega)
                     have bE:(l+m)*size=l*size+m*size:=Nat.add_mul _ _ _
                     have X:=yr.WB ak
                     obtain⟨w',r1,r2,bo⟩:=CM (P:=P) (rb:=rb) (k:=ro+off+l*size) F 0 w N a6 (by omega) (aJ S).2.free X
                     simp only[Nat.add_zero]at r2
                     have p:=A.fits (w':=w') ok aC (by omega) ty (fun a ay=>by cases ay;rw[Addr.uQ];exact r1) (fun h=>by cases h)
                     intro e_ h1 D hf
                     have f0:=hf 0 (by show 0<1;omega)
                     simp only[Nat.add_zero]at f0
                     obtain⟨K,bl,bL⟩:=H.Cn qX (beyond (mt.base+off+l*size)) (Ab aq) [⟨n,mt.base+off,(ah++new).length⟩]
                     have bc:((O.ur (nw (beyond (mt.base+off+l*size)) ms)).set gr (some (.group ((ms.filter fun e=>!(beyond (mt.base+off+l*size) e))++[⟨n,mt.base+off,(ah++new).length⟩])))) n=none:=by
                      have jI:n≠gr:=fun h=>by subst h;rw[f0.O]at qX;cases qX
                      rw[Hp.gR _ _ jI]
                      cases e:(O.ur (nw (beyond (mt.base+off+l*size)) ms)) n with
                      |none=>rfl
                      |some o=>have:=(bl n o e).1;rw[f0.O]at this;cases this
                     have aY:(N.toList.take (ro+off+l*size)++F++N.toList.drop (ro+off+l*size+F.length)).toArray.size=N.size:=by simp;omega
                     have aT:(N.toList.take (ro+off+l*size)).length=ro+off+l*size:=by simp;omega
                     have aB:∀j,j<ro+off+l*size->(N.toList.take (ro+off+l*size)++F++N.toList.drop (ro+off+l*size+F.length)).toArray[j]?=N[j]?:=fun j hj=>by
                      simp only[List.getElem?_toArray]
                      rw[List.append_assoc,List.getElem?_append,aT,if_pos hj,List.getElem?_take,if_pos hj,Array.getElem?_toList]
                     have ai:=K.XO (rb:=rb) (pos:=ro+off) (gr:=gr) (base:=mt.base+off) (unit:=size) a6 r2 (aJ S).1 (aJ S).2 aY (n:=n) (e_:=e_) (lo:=ro+off+l*size) f0.ga bc h1 (by show n<e_;have:n+1<=e_:=D;omega) (ah++new)
                      (by rw[aE];omega) (by
                        intro i v v' e av
                        rw[List.getElem?_append,bh]at e
                        by_cases hi:i<l*size
                        · rw[if_pos hi]at e
                          rw[aB _ (by omega)]at av
                          obtain⟨e3,_⟩:=Qe hold i v e
                          exact bx (off+i) v v' e3 (by rw[<-Nat.add_assoc];exact av)
                        · rw[if_neg hi]at e
                          simp only[List.getElem?_toArray]at av
                          rw[List.append_assoc,List.getElem?_append,aT,if_neg (by omega),List.getElem?_append]at av
                          have bD:i-l*size<new.length:=(fp.1 e).1
                          rw[if_pos (by rw[aW];omega),show ro+off+i-(ro+off+l*size)=i-l*size from by omega]at av
                          exact yr.2 _ v v' e av) aB (by
                        intro b1 o1 bn e1 e2
                        have aV:b1≠gr:=fun h=>by
                         subst h
                         have:=H.pC _ _ qX
                         rw[this]at e2;cases e2
                        rw[Hp.gR _ _ aV]at e1
                        obtain⟨aQ,bp⟩:=bl b1 _ e1
                        by_cases aR:b1=b
                        · subst aR
                          rw[J]at aQ;cases aQ
                          rw[hg]at e2;cases e2
                          obtain⟨bg,aK,z2⟩:=H.mem b1 Z mt gr J W
                          rw[qX]at aK;cases aK
                          cases ad:beyond (mt.base+off+l*size) ⟨b1,mt.base,Z.length⟩with
                          |true=>exact(bp _ z2 ad rfl).elim
                          |false=>
                           have:=ER ad
                           simp only at this
                           exact⟨Z,mt,rfl,W,by omega,by omega⟩
                        · have aF:=H.sep b1 b _ _ rb bn ro aR aQ J e2 hg
                          cases o1<;>first|exact aF.elim|skip
                          rename_i ax m1
                          rcases aF with⟨_,y⟩|⟨bB,bq,br,bN⟩
                          · rw[S]at y;cases y
                          · rw[W]at br;cases br
                            obtain⟨bg,aK,z2⟩:=H.mem b1 ax m1 gr aQ bq
                            rw[qX]at aK;cases aK
                            cases ad:beyond (mt.base+off+l*size) ⟨b1,m1.base,ax.length⟩with
                            |true=>exact(bp _ z2 ad rfl).elim
                            |false=>
                             have:=ER ad
                             simp only at this
                             exact⟨ax,m1,rfl,bq,by omega,by omega⟩)
                      ⟨_,Hp.jO _ _ _,fR.2 (.inr (fz ..))⟩
                     refine⟨_,_,w',p,Gm.rq f0.ga (rb,ro+off) (some (N.size,size)),Gm.CN,?_,?_,?_,by omega,pQ.add (.inl ⟨_,_,hg⟩)⟩
                     · have:=fP.slice (g:=g.add n (rb,ro+off) (some (N.size,size))) (b:=n) (off:=0) (rb:=rb) (ro:=ro+off) (l:=l+m) (c1:=l+m) (c2:=c2) (Gm.ma _ _ _ _) (Nat.le_refl _) (by
                        by_cases h0:l+m=c2
                        · exact .inl h0
                        · exact .inr ⟨by omega,_,_,Gm.sS _ _ _ _,by omega⟩)
                       simpa using this
                     · rw[Hp.Dy];exact ai
                     · exact fun r bH hn=>by
                        by_cases L:r=rb
                        · subst L;exact(hn b _ ro J hg).elim
                        · exact r2.other r L
             · cases h
         · cases h
       · cases h
   · cases h
 · cases h
end
end
end Sw
namespace Sw
noncomputable section
open Go Go.RowKit
def ET:Value->Value->Bool
 |.int k a,.int k' b=>wD k k'&&kN a b
 |.string a,.string b=>wV (strs a) (strs b)
 |.bool a,.bool b=>(bif a then b else !b)
 |_,_=>false
def CW:List Value->List Value->Bool
 |[],[]=>true
 |x::xs,y::b=>ET x y&&CW xs b
 |_,_=>false
def BZ:Value->Value->Bool
 |.agg a,.agg b=>CW a.toList b.toList
 |a,b=>ET a b
def LN(part:TypeId->Nat->Option Value)(rec:TypeId->Value->Bool):List Field->Bool
 |[]=>true
 |f::fs=>(match part f.type f.offset with
  |some p=>rec f.type p
  |none=>false)&&LN part rec fs
def vH(T:Ty):Nat->TypeId->Value->Bool
 |0,_,_=>false
 |n+1,t,v=>
  match T.jo t,v with
  |some (.int _),_=>true
  |some .string,_=>true
  |some .bool,_=>true
  |some (.struct fs),.agg Z=>LN (fun t off=>yp T t Z.toList off) (vH T n) fs.toList
  |_,_=>false
def rV(T:Ty)(kt:TypeId)(a b:Value):Option Bool:=
 match T.jo kt with
 |some (.int _)=>(match a,b with
  |.int k x,.int k' y=>bif wD k k' then some (kN x y)else none
  |_,_=>none)
 |some .string=>(match a,b with
  |.string x,.string y=>some (wV (strs x) (strs y))
  |_,_=>none)
 |some (.struct _)=>yq T 12 kt a b
 |_=>none
def sB(eq:Value->Option Bool):List MapEntry->Nat->Option (Option (Nat×MapEntry))
 |[],_=>some none
 |e::es,i=>match eq e.key with
  |some true=>some (some (i,e))
  |some false=>sB eq es (i+1)
  |none=>none
def Bn(f:MapEntry->MapEntry):List MapEntry->Nat->List MapEntry
 |[],_=>[]
 |e::es,0=>f e::es
 |e::es,n+1=>e::Bn f es n
def mapOf(O:Hp)(m:Value):Option (List MapEntry×Nat):=
 match m with
 |.map none=>some ([],0)
 |.map (some r)=>(match O r with
  |some (.map es c)=>some (es,c)
  |_=>none)
 |_=>none
def pD(T:Ty)(O:Hp)(t:TypeId)(m k:Value)(b:Bool):Option Value:=
 match T.jo t with
 |some (.map kt el)=>
  (match mapOf O m with
  |some (es,_)=>bif vH T 8 kt k then
    (match sB (rV T kt k) es 0 with
    |some (some (_,e))=>some (bif b then .tuple #[e.val,.bool true]else e.val)
    |some none=>(match T.zero el with
     |some z=>some (bif b then .tuple #[z,.bool false]else z)
     |none=>none)
    |none=>none)else none
  |none=>none)
 |_=>none
def tF(T:Ty)(O:Hp)(t:TypeId)(m k v:Value):Option uq:=
 match T.jo t,m with
 |some (.map kt _),.map (some r)=>(match O r with
  |some (.map es c)=>bif vH T 8 kt k then
    (match sB (rV T kt k) es 0 with
    |some (some (i,e))=>bif BZ e.key k then some [(r,some (.map (Bn (fun e=>⟨k,v,e.born⟩) es i) c))]else none
    |some none=>some [(r,some (.map (es++[⟨k,v,c⟩]) (c+1)))]
    |none=>none)else none
  |_=>none)
 |_,_=>none
def EU(T:Ty)(O:Hp)(t:TypeId)(m k:Value):Option qj:=
 match T.jo t,m with
 |some (.map kt el),.map (some r)=>(match O r with
  |some (.map es c)=>bif vH T 8 kt k then
    (match sB (rV T kt k) es 0 with
    |some (some (i,e))=>bif BZ e.key k then some (.tuple #[e.val,.int .i64 (.ofNat e.born)],[(r,some (.map (Bn (fun e=>⟨k,e.val,e.born⟩) es i) c))],0)else none
    |some none=>(match T.zero el with
     |some z=>some (.tuple #[z,.int .i64 (.ofNat c)],[(r,some (.map (es++[⟨k,z,c⟩]) (c+1)))],0)
     |none=>none)
    |none=>none)else none
  |_=>none)
 |_,_=>none
def F5(born:Nat)(v:Value):List MapEntry->Option (List MapEntry)
 |[]=>none
 |e::es=>bif Nat.beq e.born born then some (⟨e.key,v,e.born⟩::es)else(F5 born v es).map (e::·)
def Cq(O:Hp)(m s v:Value):Option uq:=
 match m,s with
 |.map (some r),.int _ (.ofNat b)=>(match O r with
  |some (.map es c)=>(F5 b v es).map fun es=>[(r,some (.map es c))]
  |_=>none)
 |_,_=>none
def DF(T:Ty)(t:TypeId)(r:Option Value)(n:Nat):Option qj:=
 match r with
 |none=>some (.map (some n),[(n,some (.map [] 0))],1)
 |some (.int _ _)=>(match T.jo t with
  |some (.map _ _)=>some (.map (some n),[(n,some (.map [] 0))],1)
  |_=>none)
 |_=>none
def wE(T:Ty)(t:TypeId)(len cap:Value)(n:Nat):Option qj:=
 match T.jo t,len,cap with
 |some (.slice el),.int _ (.ofNat l),.int _ (.ofNat c)=>
  (match T.kn el with
  |some inf=>(match inf.zero with
   |some z=>bif Nat.ble l c&&(Nat.ble (c*inf.bytes) 1099511627776&&Nat.blt c 2147483648)then some (vQ n (kP c z.cells.toList) l c)else none
   |none=>none)
  |none=>none)
 |_,_,_=>none
def EV(x:Value):Option Nat:=
 match x with
 |.slice _ l _=>some l
 |.string s=>some (strs s).length
 |_=>none
def Bo(a b:Nat):Nat:=bif Nat.ble a b then a else b
def Qf(T:Ty)(O:Hp)(o:TypeId)(d s:Value):Option qj:=
 match T.jo o,d with
 |some (.slice el),.slice base e _=>
  (match T.size el,EV s with
  |some size,some j=>
   (match (bif uR size s then lU O (Bo j e*size) s else none)with
   |some Z=>(match base,Z with
    |_,[]=>some (.int .i64 (.ofNat (Bo j e)),[],0)
    |some ⟨b,off,none⟩,Z=>bif Z.all one then(match O b with
     |some (.cells m mt)=>(oG O b m mt off Z).map fun u=>(.int .i64 (.ofNat (Bo j e)),u,0)
     |_=>none)else none
    |_,_=>none)
   |none=>none)
  |_,_=>none)
 |_,_=>none
def Mn(T:Ty)(O:Hp)(t:TypeId)(x:Value):Option qj:=
 match T.jo t with
 |some d=>(match x with
  |.map none=>some (.tuple #[],[],0)
  |.slice none _ _=>some (.tuple #[],[],0)
  |.slice (some _) 0 _=>some (.tuple #[],[],0)
  |.map (some r)=>(match O r with
   |some (.map _ c)=>some (.tuple #[],[(r,some (.map [] c))],0)
   |_=>none)
  |.slice (some ⟨b,off,none⟩) n _=>(match d with
   |.slice el=>(match T.zero el,O b with
    |some z,some (.cells e mt)=>(match oG O b e mt off (kP n z.cells.toList)with
     |some u=>some (.tuple #[],u,0)
     |none=>none)
    |_,_=>none)
   |_=>none)
  |_=>none)
 |none=>none
def Ud(T:Ty)(O:Hp)(t:TypeId)(x:Value):Option Value:=
 match T.jo t,x with
 |some (.array n _),_=>some (.int .i64 (.ofNat n))
 |some (.slice _),.slice none _ c=>some (.int .i64 (.ofNat c))
 |some (.slice _),.slice (some a) _ c=>(match O a.block with
  |some (.cells _ mt)=>(match mt.mP with
   |none=>some (.int .i64 (.ofNat c))
   |some _=>none)
  |_=>none)
 |_,_=>none
def max2:Value->Value->Option Value
 |.int k x,.int _ y=>some (.int k (bif rU x y then y else x))
 |_,_=>none
def min2:Value->Value->Option Value
 |.int k x,.int _ y=>some (.int k (bif rU y x then y else x))
 |_,_=>none
def LO(f:Value->Value->Option Value):Value->List Value->Option Value
 |x,[]=>some x
 |x,y::b=>(match f x y with
  |some z=>LO f z b
  |none=>none)
def Jr(f:Value->Value->Option Value):List Value->Option Value
 |[]=>none
 |x::xs=>LO f x xs
def bytesOf:List Value->Option (List UInt8)
 |[]=>some []
 |.int .u8 (.ofNat k)::vs=>(match bytesOf vs with
  |some b=>some (UInt8.ofNat k::b)
  |none=>none)
 |_=>none
def uS(T:Ty)(O:Hp)(s d:TypeId)(x:Value)(n:Nat):Option qj:=
 match T.jo s,T.jo d,x with
 |some _,some (.int k),.int _ m=>some (.int k (gy k m),[],0)
 |some _,some .string,.string s=>some (.string s,[],0)
 |some _,some (.slice e),.string s=>(match T.jo e with
  |some (.int .u8)=>some (.slice (some ⟨n+1,0,none⟩) (strs s).length (strs s).length,
    [(n,some (jT.group [⟨n+1,0,(strs s).length⟩])),(n+1,some (jT.cells ((strs s).map CR) ⟨false,some n,0,1⟩))],2)
  |_=>none)
 |some (.slice e),some .string,.slice base l _=>(match T.jo e with
  |some (.int .u8)=>bif Nat.beq l 0 then some (.string ⟨#[]⟩,[],0)else(match base with
   |none=>some (.string ⟨#[]⟩,[],0)
   |some ⟨b,off,none⟩=>(match O b with
    |some (.cells Z _)=>(match lQ l (Z.drop off)with
     |some vs=>(match bytesOf vs with
      |some j=>some (.string ⟨j.toArray⟩,[],0)
      |none=>none)
     |none=>none)
    |_=>none)
   |_=>none)
  |_=>none)
 |some (.slice _),some (.slice e),.slice (some ⟨b,off,none⟩) l c=>bif Nat.beq s d then(match T.jo e,O b with
  |some (.int .u8),some (.cells _ mt)=>bif mt.ro||Nat.beq c 0 then none else some (.slice (some ⟨b,off,none⟩) l c,[],0)
  |_,_=>none)else none
 |_,_,_=>none
def Cr(T:Ty)(x:Value)(a:TypeId)(b:Bool):Option Value:=
 match T.jo a,x with
 |some (.interface _),_=>none
 |some _,.nilIface=>bif b then(T.zero a).map fun z=>.tuple #[z,.bool false]else none
 |some _,.iface t v=>bif Nat.beq t a then some (bif b then .tuple #[v,.bool true]else v)
   else bif b then(T.zero a).map fun z=>.tuple #[z,.bool false]else none
 |_,_=>none
def Mo(T:Ty)(O:Hp)(t:TypeId)(x:Value)(n:Nat):Option qj:=
 match T.jo t,x with
 |some .string,.string s=>some (.pointer (some ⟨n,0,none⟩),[(n,some (.FY s 0))],1)
 |some (.map _ _),.map none=>some (.pointer (some ⟨n,0,none⟩),[(n,some (.mapIter none 0 [] 0))],1)
 |some (.map _ _),.map (some m)=>(match O m with
  |some (.map _ c)=>some (.pointer (some ⟨n,0,none⟩),[(n,some (.mapIter (some m) c [] c))],1)
  |_=>none)
 |_,_=>none
def Qg(n:Nat):List Nat->Bool
 |[]=>false
 |x::xs=>Nat.beq x n||Qg n xs
def AK(seen:List Nat)(ju:Nat)(b:Bool):List MapEntry->List MapEntry
 |[]=>[]
 |e::es=>bif Qg e.born seen then AK seen ju b es else bif (bif Nat.blt e.born ju then b else !b)then e::AK seen ju b es else AK seen ju b es
def EW(last:Nat):List MapEntry->Bool
 |[]=>true
 |e::es=>Nat.ble last e.born&&EW last es
def F6(O:Hp)(m ju:Nat)(seen:List Nat)(last:Nat):Option (List (Option MapEntry)×Nat):=
 match O m with
 |some (.map es clock)=>
  bif !seen.isEmpty&&(!es.isEmpty&&EW last es)then none else
  (match AK seen ju true es with
  |[]=>some (none::(AK seen ju false es).map some,clock)
  |b=>some ((b++AK seen ju false es).map some,clock))
 |_=>none
def Mp(O:Hp)(it:Value):Option Value:=
 match it with
 |.pointer (some ⟨r,0,_⟩)=>(match O r with
  |some (.mapIter (some m) _ seen Pp)=>(match seen.getLast?,O m with
   |some b,some (.map es clock)=>bif Nat.beq clock Pp then
     (match es.find? (fun e=>Nat.beq e.born b)with
     |some e=>some (.tuple #[e.key,e.val])
     |none=>none)else none
   |_,_=>none)
  |_=>none)
 |_=>none
end
end Sw
namespace Sw
noncomputable section
open Go Go.RowKit
theorem Bp{a b:ByteArray}(h:strs a=strs b):a=b:=by
 cases a;cases b
 unfold strs at h
 simp only at h
 rw[Array.toList_inj.1 h]
theorem Kr{a b:Value}(h:ET a b=true):a=b/\(∀g v,fP g a v->v=a)/\∀n,Instr.sameBits n a a=true:=by
 unfold ET at h
 split at h
 · rw[Bool.and_eq_true]at h
   obtain rfl:=vR h.1
   obtain rfl:=lS.1 h.2
   exact⟨rfl,fun g v r=>r.lj,fun n=>by cases n<;>simp[Instr.sameBits]⟩
 · rw[xg,beq_iff_eq]at h
   obtain rfl:=Bp h
   exact⟨rfl,fun g v r=>r.lr,fun n=>by cases n<;>(simp only[Instr.sameBits];rw[ByteArray.Jp,xg];simp)⟩
 · rename_i a b
   have:a=b:=by cases a<;>cases b<;>first|rfl|(simp at h)
   subst this
   exact⟨rfl,fun g v r=>r.r9,fun n=>by cases n<;>simp[Instr.sameBits]⟩
 · cases h
theorem Ks:∀{x y:List Value},CW x y=true->x=y/\(∀g z,gZ g x z->z=x)/\∀n,(x.zip x).all (fun p=>Instr.sameBits n p.1 p.2)=true
 |[],[],_=>⟨rfl,fun g z r=>by have:=r.1;exact(List.length_eq_zero_iff.1 (by simpa using this.symm)),fun n=>rfl⟩
 |[],_::_,h=>by cases h
 |_::_,[],h=>by cases h
 |x::xs,y::m,h=>by
  simp only[CW,Bool.and_eq_true]at h
  obtain⟨rfl,D,h3⟩:=Kr h.1
  obtain⟨rfl,b,e⟩:=Ks h.2
  refine⟨rfl,fun g z r=>?_,fun n=>?_⟩
  · cases z with
    |nil=>have:=r.1;simp at this
    |cons z j=>
     rw[D g z r.head,b g j r.tail]
  · simp only[List.zip_cons_cons,List.all_cons,Bool.and_eq_true]
    exact⟨h3 n,e n⟩
theorem Ue{a b:Value}(h:BZ a b=true):a=b/\(∀g v,fP g a v->v=a)/\∀n,Instr.sameBits (n+1) a a=true:=by
 unfold BZ at h
 split at h
 · obtain⟨h1,D,h3⟩:=Ks h
   have:=Array.toList_inj.1 h1
   subst this
   refine⟨rfl,fun g v r=>?_,fun n=>?_⟩
   · obtain⟨x',rfl,hx⟩:=r.tt
     rw[Array.toList_inj.1 (D g x'.toList hx.toList)]
   · simp only[Instr.sameBits,Bool.and_eq_true,beq_self_eq_true,true_and]
     exact h3 n
 · obtain⟨h1,D,h3⟩:=Kr h
   exact⟨h1,D,fun n=>h3 _⟩
section
variable {T:Ty}{P:Program}{B0:Nat}{w0:World}{g:Gm}{O:Hp}{G n:Nat}{w:World}
theorem Oz(ok:T.Ok P){rec:TypeId->Value->Bool}{m:Nat}{empty:Bool}{w:World}
 (ih:∀t v v',rec t v=true->fP g v v'->(Instr.checkKey empty m t v').run P w=.ok () w) {xs b:Array Value} (hx:sy g xs b):
 ∀(fs:List Field),LN (fun t off=>yp T t xs.toList off) rec fs=true->
  (forIn fs PUnit.unit fun f (_:PUnit)=>do
    if f.name≠ "_" then Instr.checkKey empty m f.type (<-part f.type b f.offset)
    pure (ForInStep.yield PUnit.unit):Sem PUnit).run P w=.ok PUnit.unit w:=by
 intro fs
 induction fs with
 |nil=>intro _;rfl
 |cons f fs e=>
  intro h
  simp only[LN,Bool.and_eq_true]at h
  obtain⟨h1,D⟩:=h
  cases O:yp T f.type xs.toList f.offset with
  |none=>rw[O]at h1;cases h1
  |some x=>
   rw[O]at h1
   obtain⟨x',j,rx⟩:=tT ok O hx w
   rw[List.forIn_cons]
   have step:(do
    if f.name≠ "_" then Instr.checkKey empty m f.type (<-part f.type b f.offset)
    pure (ForInStep.yield PUnit.unit):Sem (ForInStep PUnit)).run P w=.ok (ForInStep.yield PUnit.unit) w:=by
    by_cases hf:f.name≠ "_"
    · rw[if_pos hf,ft j,ft (ih _ _ _ h1 rx)]
      rfl
    · rw[if_neg hf];rfl
   rw[ft step]
   exact e D
theorem Cs(ok:T.Ok P){empty:Bool}{w:World}:∀(d d':Nat) (t:TypeId) (v v':Value),d<=d'->vH T d t v=true->fP g v v'->(Instr.checkKey empty d' t v').run P w=.ok () w:=by
 intro d
 induction d with
 |zero=>intro d' t v v' _ h;cases h
 |succ d ih=>
  intro d' t v v' hd h r
  obtain⟨d',rfl⟩:∃e,d'=e+1:=⟨d'-1,by omega⟩
  unfold vH at h
  unfold Instr.checkKey
  split at h
  · rename_i hu;rw[ft (ok.gV hu w)];rfl
  · rename_i hu;rw[ft (ok.gV hu w)];rfl
  · rename_i hu;rw[ft (ok.gV hu w)];rfl
  · rename_i fs Z hu
    obtain⟨j,rfl,b⟩:=r.tt
    rw[ft (ok.gV hu w)]
    have:=Oz (w:=w) (m:=d') (empty:=empty) ok (fun t v v' hr r1=>ih d' t v v' (by omega) hr r1) b fs.toList h
    simp only
    rw[<-Array.forIn_toList]
    exact(ft (f:=fun _=>(pure ():Sem Unit)) this).trans rfl
  · cases h
theorem kY.tail{e j:MapEntry}{x x':List MapEntry}(h:kY g (e::x) (j::x')):kY g x x':=
 ⟨by have:=h.1;simpa using this,fun i a b p q=>h.2 (i+1) a b (by simpa using p) (by simpa using q)⟩
theorem kY.head{e b:MapEntry}{x x':List MapEntry}(h:kY g (e::x) (b::x')):fP g e.key b.key/\fP g e.val b.val/\e.born=b.born:=h.2 0 e b rfl rfl
theorem kY.nil:kY g [] []:=⟨rfl,fun i e b h=>by simp at h⟩
theorem kY.cons{e j:MapEntry}{x x':List MapEntry}(h:fP g e.key j.key/\fP g e.val j.val/\e.born=j.born)(k:kY g x x'):kY g (e::x) (j::x'):=
 ⟨by simp[k.1],fun i a b p q=>by
   cases i with
   |zero=>simp at p q;subst p;subst q;exact h
   |succ i=>simp at p q;exact k.2 i a b p q⟩
def EX(g:Gm)(es:List MapEntry)(i0:Nat)(r:Option (Nat×MapEntry))(j:Option (Nat×Value)):Prop:=
 match r,j with
 |none,none=>True
 |some (i,e),some (b,v')=>i=b/\i0<=i/\es[i-i0]?=some e/\fP g e.val v'
 |_,_=>False
theorem EX.step{e0:MapEntry}{es:List MapEntry}{i0:Nat}{r:Option (Nat×MapEntry)}{b:Option (Nat×Value)}(h:EX g es (i0+1) r b):EX g (e0::es) i0 r b:=by
 unfold EX at*
 split at h
 · trivial
 · obtain⟨h1,D,h3,h4⟩:=h
   refine⟨h1,by omega,?_,h4⟩
   rename_i i e _ _
   obtain⟨j,hj⟩:∃j,i-i0=j+1:=⟨i-i0-1,by omega⟩
   rw[hj];simp only[List.getElem?_cons_succ]
   rw[show j=i-(i0+1)from by omega];exact h3
 · exact h.elim
theorem Ae{kind:TypeDesc}{eq:Value->Option Bool}{k':Value}(o:∀v v' b,eq v=some b->fP g v v'->Instr.sameNow kind k' v'=some b):
 ∀(es j:List MapEntry) (i:Nat) (r:Option (Nat×MapEntry)),kY g es j->sB eq es i=some r->∃m,Instr.findNow kind k' j i=some m/\EX g es i r m
 |[],[],i,r,_,h=>by simp[sB]at h;subst h;exact⟨none,rfl,trivial⟩
 |[],_::_,_,_,h,_=>by have:=h.1;simp at this
 |_::_,[],_,_,h,_=>by have:=h.1;simp at this
 |e::es,p::j,i,r,hr,h=>by
  obtain⟨r1,r2,u⟩:=hr.head
  simp only[sB]at h
  split at h
  · rename_i he
    cases h
    refine⟨some (i,p.val),?_,rfl,fg _,by simp,r2⟩
    simp only[Instr.findNow,o _ _ _ he r1]
  · rename_i he
    obtain⟨m,h1,D⟩:=Ae o es j (i+1) r hr.tail h
    refine⟨m,?_,D.step⟩
    simp only[Instr.findNow,o _ _ _ he r1]
    exact h1
  · cases h
theorem Bq{kt:TypeId}{eq:Value->Option Bool}{k':Value}(o:∀v v' b,eq v=some b->fP g v v'->(Op.equal kt k' v').run P w=.ok b w):
 ∀(es j:List MapEntry) (i:Nat) (r:Option (Nat×MapEntry)),kY g es j->sB eq es i=some r->∃m,(Instr.findAsking kt k' j i).run P w=.ok m w/\EX g es i r m
 |[],[],i,r,_,h=>by simp[sB]at h;subst h;exact⟨none,rfl,trivial⟩
 |[],_::_,_,_,h,_=>by have:=h.1;simp at this
 |_::_,[],_,_,h,_=>by have:=h.1;simp at this
 |e::es,p::j,i,r,hr,h=>by
  obtain⟨r1,r2,u⟩:=hr.head
  simp only[sB]at h
  split at h
  · rename_i he
    cases h
    refine⟨some (i,p.val),?_,rfl,fg _,by simp,r2⟩
    simp only[Instr.findAsking]
    rw[ft (o _ _ _ he r1)];rfl
  · rename_i he
    obtain⟨m,h1,D⟩:=Bq o es j (i+1) r hr.tail h
    refine⟨m,?_,D.step⟩
    simp only[Instr.findAsking]
    rw[ft (o _ _ _ he r1)]
    exact h1
  · cases h
theorem EY{d:Nat}{t:TypeId}{v:Value}(h:vH T d t v=true):∃u,T.jo t=some u:=by
 cases d with
 |zero=>cases h
 |succ d=>
  unfold vH at h
  cases hu:T.jo t with
  |none=>rw[hu]at h;cases h
  |some u=>exact⟨u,rfl⟩
theorem vn(ok:T.Ok P){kt:TypeId}{k k':Value}(A:fP g k k'){es j:List MapEntry}(hr:kY g es j){r:Option (Nat×MapEntry)}(B:∃u,T.jo kt=some u)(h:sB (rV T kt k) es 0=some r):
 ∃m,(Instr.findKey kt k' j).run P w=.ok m w/\EX g es 0 r m:=by
 have empty:∀d,T.jo kt=some d->es=[]->∃m,(Instr.findKey kt k' j).run P w=.ok m w/\EX g es 0 r m:=by
  intro d hu he
  subst he
  have:j=[]:=by have:=hr.1;exact List.length_eq_zero_iff.1 (by simpa using this.symm)
  subst this
  simp[sB]at h;subst h
  refine⟨none,?_,trivial⟩
  unfold Instr.findKey
  rw[ft (ok.gV hu w)];rfl
 cases hu:T.jo kt with
 |none=>obtain⟨u,z⟩:=B;rw[hu]at z;cases z
 |some d=>
  by_cases o:es=[]
  · exact empty d hu o
  · cases d with
    |int J=>
     obtain⟨m,h1,D⟩:=Ae (g:=g) (kind:=.int J) (eq:=rV T kt k) (k':=k') (by
      intro v v' b hb p
      simp only[rV,hu]at hb
      split at hb
      · rename_i E x F y
        obtain rfl:=A.lj
        obtain rfl:=p.lj
        cases hs:wD E F with
        |false=>rw[hs]at hb;cases hb
        |true=>
         rw[hs]at hb;simp only[cond_true]at hb;cases hb
         obtain rfl:=vR hs
         simp only[Instr.sameNow,if_true]
         rw[EI]
      · cases hb) es j 0 r hr h
     refine⟨m,?_,D⟩
     unfold Instr.findKey
     rw[ft (ok.gV hu w),h1];rfl
    |string=>
     obtain⟨m,h1,D⟩:=Ae (g:=g) (kind:=.string) (eq:=rV T kt k) (k':=k') (by
      intro v v' b hb p
      simp only[rV,hu]at hb
      split at hb
      · obtain rfl:=A.lr
        obtain rfl:=p.lr
        cases hb
        simp only[Instr.sameNow]
        rw[ByteArray.Jp]
      · cases hb) es j 0 r hr h
     refine⟨m,?_,D⟩
     unfold Instr.findKey
     rw[ft (ok.gV hu w),h1];rfl
    |struct fs=>
     obtain⟨m,h1,D⟩:=Bq (P:=P) (w:=w) (g:=g) (kt:=kt) (eq:=rV T kt k) (k':=k') (by
      intro v v' b hb p
      simp only[rV,hu]at hb
      exact EM ok 12 Op.maxDepth kt k v k' v' b (by decide) hb A p) es j 0 r hr h
     refine⟨m,?_,D⟩
     unfold Instr.findKey
     rw[ft (ok.gV hu w)]
     cases es with
     |nil=>exact(o rfl).elim
     |cons e es=>
      cases j with
      |nil=>have:=hr.1;simp at this
      |cons C j=>
       have:Instr.findNow (.struct fs) k' (C::j) 0=none:=by simp[Instr.findNow,Instr.sameNow]
       rw[this];exact h1
    |_=>
     cases es with
     |nil=>exact(o rfl).elim
     |cons e es=>simp only[sB,rV,hu]at h;cases h
end
end
end Sw
namespace Sw
noncomputable section
open Go Go.RowKit
section
variable {T:Ty}{P:Program}{B0:Nat}{w0:World}{g:Gm}{O:Hp}{G n:Nat}{w:World}
theorem qt{r:Nat}{o:Obj}(o':Obj)(h:w.heap[r]?=some o)(hc:∀c e f,o≠.cells c e f):(setObj r o').run P w=.ok () (w.putObj r o'):=by
 unfold setObj
 simp only[Sem.run,h]
 cases o<;>first|exact(hc _ _ _ rfl).elim|rfl
theorem iG.put(H:gx B0 w0 g O G w){r rr:Nat}{o o':jT Tm}{jv:Obj}(hr:O r=some o)(hg:g.ga r=some (rr,0))(u:B0<=rr)
 (hc:∀Z m,o≠.cells Z m) (j:∀Z m,o'≠.cells Z m) (p:o'.A4=false) (b:pj B0 g r o' rr 0 jv) {x:Result Value} {v v':Value} (hx:x=.ok v' (w.putObj rr jv)) (y:fP g v v'):
 iG B0 w0 g O G n w x (v,[(r,some o')],0):=by
 intro e_ h1 _ _
 refine⟨g,v',_,hx,Gm.le_refl g,fun _ h=>.inl h,y,(H.setObj hr hg hc j p jv u b).A5 h1,?_,by simp,pQ.refl _ _⟩
 intro rb z hn
 have jH:rr<w.heap.size:=(H.rT _ _ _ hg).2
 exact(tD.putObj jH jv).other rb (fun e=>by subst e;exact hn r o 0 hr hg)
theorem iG.new(H:gx B0 w0 g O G w){o:jT Tm}{jv:Obj}(hc:∀Z m,o≠.cells Z m)(j:o.A4=false)
 (b:Dz g O n->pj B0 (g.add n (w.heap.size,0) none) n o w.heap.size 0 jv) {x:Result Value} {v v':Value} (hx:x=.ok v' (w.alloc jv)) (p:fP (g.add n (w.heap.size,0) none) v v'):
 iG B0 w0 g O G n w x (v,[(n,some o)],1):=by
 intro e_ h1 D hf
 have f0:=hf 0 (by show 0<1;omega)
 simp only[Nat.add_zero]at f0
 have hl:n<e_:=by have:n+1<=e_:=D;omega
 exact⟨_,v',_,hx,Gm.rq f0.ga _ _,Gm.CN,p,H.alloc f0.ga f0.room f0.O h1 hl o jv none j (b f0) (fun Z m gr e=>(hc _ _ e).elim),vF.alloc _ _ _ _,by simp,pQ.new⟩
theorem Js(H:gx B0 w0 g O G w){t:TypeId}(ok:T.Ok P){r b:Option Value}{e:qj}(h:DF T t r n=some e)(rr:Cp g r b):
 iG B0 w0 g O G n w ((Instr.makeMap t b).run P w) e:=by
 have key:∀x:Result Value,x=.ok (.map (some w.heap.size)) (w.alloc (.map #[] 0))->iG B0 w0 g O G n w x (.map (some n),[(n,some (.map [] 0))],1):=fun x hx=>
  iG.new H (o:=.map [] 0) (jv:=.map #[] 0) (fun _ _ h=>by cases h) rfl (fun _=>⟨rfl,H.base,rfl,kY.nil⟩) hx (.map (Gm.ma _ _ _ _))
 unfold DF at h
 split at h
 · cases h
   cases b with
   |some _=>exact rr.elim
   |none=>
    refine key _ ?_
    unfold Instr.makeMap
    simp only
    rw[ft (run_newObj _ w)];rfl
 · rename_i k m
   split at h
   · rename_i kt el hu
     cases h
     cases b with
     |none=>exact rr.elim
     |some x'=>
      have:fP g (.int k m) x':=rr
      obtain rfl:=this.lj
      refine key _ ?_
      unfold Instr.makeMap
      simp only
      rw[ft (ok.gV hu w)]
      rfl
   · cases h
 · cases h
theorem OA(H:gx B0 w0 g O G w){m e:Value}{es:List MapEntry}{c:Nat}(h:mapOf O m=some (es,c))(j:fP g m e):
 (m=.map none/\e=.map none/\es=[])\/∃r rr b,m=.map (some r)/\e=.map (some rr)/\O r=some (.map es c)/\g.ga r=some (rr,0)/\w.heap[rr]?=some (.map b c)/\B0<=rr/\kY g es b.toList:=by
 unfold mapOf at h
 split at h
 · cases h;obtain rfl:=j.qo;exact .inl ⟨rfl,rfl,rfl⟩
 · rename_i r
   split at h
   · rename_i es c hr
     cases h
     obtain⟨rr,hg,rfl⟩:=j.wq
     obtain⟨b,_,a2,a3,a4⟩:=H.AJ hr hg
     exact .inr ⟨r,rr,b,rfl,rfl,hr,hg,a2,a3,a4⟩
   · cases h
 · cases h
def Hb(kt el:TypeId)(k:Value)(b:Bool)(es:Array MapEntry):Sem Value:=do
 Instr.checkKey es.isEmpty 10000 kt k
 match<-Instr.findKey kt k es.toList with
 |some (_,v)=>pure (if b=true then .tuple #[v,.bool true]else v)
 |none=>do
  let z<-zeroValue el
  pure (if b=true then .tuple #[z,.bool false]else z)
theorem Lh(ok:T.Ok P)(H:gx B0 w0 g O G w){t:TypeId}{m F k k' v:Value}{b:Bool}(h:pD T O t m k b=some v)(M:fP g m F)(K:fP g k k'):
 iG B0 w0 g O G n w ((Instr.lookup t F k' b).run P w) (v,[],0):=by
 unfold pD at h
 split at h
 · rename_i kt el hu
   split at h
   · rename_i es c hm
     cases hk:vH T 8 kt k with
     |false=>rw[hk]at h;cases h
     |true=>
      rw[hk]at h
      simp only[cond_true]at h
      have A:=EY hk
      have E:∀C,(Instr.checkKey C 10000 kt k').run P w=.ok () w:=fun C=>Cs ok 8 10000 kt k k' (by decide) hk K
      obtain⟨u,he,y⟩:∃u:Array MapEntry,kY g es u.toList/\
       ∀x,(Hb kt el k' b u).run P w=x->(Instr.lookup t F k' b).run P w=x:=by
       rcases OA H hm M with⟨rfl,rfl,rfl⟩|⟨r,rr,u,rfl,rfl,hr,hg,a2,a3,a4⟩
       · refine⟨#[],kY.nil,fun x hx=>?_⟩
         unfold Instr.lookup
         rw[ft (ok.gV hu w)]
         exact hx
       · refine⟨u,a4,fun x hx=>?_⟩
         unfold Instr.lookup
         rw[ft (ok.gV hu w)]
         simp only
         rw[ft (oO a2 (fun _ _ _ h=>by cases h))]
         exact hx
      split at h
      · rename_i i e hf
        cases h
        obtain⟨J,f1,f2⟩:=vn (w:=w) ok K he A hf
        cases J with
        |none=>exact f2.elim
        |some p=>
         obtain⟨j,v'⟩:=p
         obtain⟨rfl,_,_,B⟩:=f2
         refine iG.pure H (v':=bif b then .tuple #[v',.bool true]else v') ?_ ?_
         · apply y
           unfold Hb
           rw[ft (E _),ft f1]
           cases b<;>rfl
         · cases b
           · exact B
           · refine .tuple rfl (fun i a a' q o=>?_)
             match i with
             |0=>simp at q o;subst q;subst o;exact B
             |1=>simp at q o;subst q;subst o;exact .bool _
             |i+2=>simp at q
      · rename_i hf
        obtain⟨J,f1,f2⟩:=vn (w:=w) ok K he A hf
        cases J with
        |some p=>exact f2.elim
        |none=>
         split at h
         · rename_i z L
           cases h
           have B:fP g z z:=fP.of_flat g (ok.ru L)
           refine iG.pure H (v':=bif b then .tuple #[z,.bool false]else z) ?_ ?_
           · apply y
             unfold Hb
             rw[ft (E _),ft f1]
             simp only
             rw[ft (ok.qq L w)]
             cases b<;>rfl
           · cases b
             · exact B
             · refine .tuple rfl (fun i a a' q o=>?_)
               match i with
               |0=>simp at q o;subst q;subst o;exact B
               |1=>simp at q o;subst q;subst o;exact .bool _
               |i+2=>simp at q
         · cases h
      · cases h
   · cases h
 · cases h
theorem kY.set{es b:List MapEntry}(h:kY g es b)(f f':MapEntry->MapEntry)(hf:∀e j,fP g e.key j.key/\fP g e.val j.val/\e.born=j.born->fP g (f e).key (f' j).key/\fP g (f e).val (f' j).val/\(f e).born=(f' j).born):
 ∀i,kY g (Bn f es i) (b.modify i f'):=by
 revert b
 induction es with
 |nil=>
  intro b h i
  cases b with
  |nil=>cases i<;>exact kY.nil
  |cons _ _=>have:=h.1;simp at this
 |cons e es ih=>
  intro b h i
  cases b with
  |nil=>have:=h.1;simp at this
  |cons j b=>
   cases i with
   |zero=>simp only[Bn,List.modify_zero_cons];exact kY.cons (hf _ _ h.head) h.tail
   |succ i=>simp only[Bn,List.modify_succ_cons];exact kY.cons h.head (ih h.tail i)
theorem kY.push{es m:List MapEntry}(h:kY g es m){e b:MapEntry}(he:fP g e.key b.key/\fP g e.val b.val/\e.born=b.born):kY g (es++[e]) (m++[b]):=by
 refine⟨by simp[h.1],fun i a a' p q=>?_⟩
 rw[List.getElem?_append]at p q
 by_cases hi:i<es.length
 · rw[if_pos hi]at p;rw[if_pos (h.1▸hi)]at q;exact h.2 i a a' p q
 · rw[if_neg hi]at p;rw[if_neg (h.1▸hi)]at q
   rw[<-h.1]at q
   cases hj:i-es.length with
   |zero=>rw[hj]at p q;simp at p q;subst p;subst q;exact he
   |succ j=>rw[hj]at p;simp at p
theorem kY.get{es b:List MapEntry}(h:kY g es b){i:Nat}{e:MapEntry}(p:es[i]?=some e):∃j,b[i]?=some j/\fP g e.key j.key/\fP g e.val j.val/\e.born=j.born:=by
 have hi:i<es.length:=(fp.1 p).1
 have m:i<b.length:=h.1▸hi
 exact⟨b[i],fq m,h.2 i e _ p (fq m)⟩
theorem Mq{a b a' b':Value}(h:BZ a b=true)(e:fP g a a')(rb:fP g b b')(w:World):(Instr.keyThatStays a' b').run P w=.ok b' w/\b'=b/\a=b:=by
 obtain⟨rfl,D,h3⟩:=Ue h
 have h1:=D _ _ e
 have h4:=D _ _ rb
 subst h1
 subst h4
 refine⟨?_,rfl,rfl⟩
 unfold Instr.keyThatStays
 rw[if_pos (h3 9999)];rfl
theorem Br(ok:T.Ok P)(H:gx B0 w0 g O G w){t:TypeId}{m F k k' v v':Value}{u:uq}(h:tF T O t m k v=some u)(L:fP g m F)(o:fP g k k')(J:fP g v v'):
 iG B0 w0 g O G n w ((do Instr.mapUpdate t F k' v';pure undef:Sem Value).run P w) (undef,u,0):=by
 unfold tF at h
 split at h
 · rename_i kt el r hu
   split at h
   · rename_i es c hr
     cases hk:vH T 8 kt k with
     |false=>rw[hk]at h;cases h
     |true=>
      rw[hk]at h
      simp only[cond_true]at h
      have A:=EY hk
      have E:(Instr.checkKey false 10000 kt k').run P w=.ok () w:=Cs ok 8 10000 kt k k' (by decide) hk o
      obtain⟨rr,hg,rfl⟩:=L.wq
      obtain⟨b,_,a2,a3,a4⟩:=H.AJ hr hg
      have z:∀K e f,Obj.map b c≠.cells K e f:=fun _ _ _ h=>by cases h
      have run:∀o',(∀x,(do match<-Instr.findKey kt k' b.toList with
       |some (i,_)=>do
        let key<-Instr.keyThatStays (((b[i]?).map (·.key)).getD k') k'
        setObj rr (.map (b.modify i fun e=>{e with key,val:=v'}) c)
       |none=>setObj rr (.map (b.push {key:=k',val:=v',born:=c}) (c+1)):Sem Unit).run P w=x->x=.ok () (w.putObj rr o'))->
       (do Instr.mapUpdate t (.map (some rr)) k' v';pure undef:Sem Value).run P w=.ok undef (w.putObj rr o'):=by
       intro o' hx
       have:(Instr.mapUpdate t (.map (some rr)) k' v').run P w=.ok () (w.putObj rr o'):=by
        unfold Instr.mapUpdate
        rw[ft (ok.gV hu w)]
        simp only
        rw[ft (oO a2 z)]
        simp only
        rw[ft E]
        exact hx _ rfl
       rw[ft this];rfl
      split at h
      · rename_i i e hf
        cases y:BZ e.key k with
        |false=>rw[y]at h;cases h
        |true=>
         rw[y]at h
         simp only[cond_true]at h
         cases h
         obtain⟨B,f1,f2⟩:=vn (w:=w) ok o a4 A hf
         cases B with
         |none=>exact f2.elim
         |some p=>
          obtain⟨j,N⟩:=p
          obtain⟨rfl,_,f3,_⟩:=f2
          obtain⟨C,g1,g2,g3,g4⟩:=a4.get f3
          obtain⟨s1,s2,M⟩:=Mq (P:=P) y g2 o w
          refine iG.put H (o':=.map (Bn (fun e=>⟨k,v,e.born⟩) es i) c) (jv:=.map (b.modify i fun e=>{e with key:=k',val:=v'}) c) hr hg a3 (fun _ _ h=>by cases h) (fun _ _ h=>by cases h) rfl ⟨rfl,a3,rfl,?_⟩ (run _ ?_) (fP.undef g)
          · rw[Array.toList_modify]
            exact kY.set a4 (fun e=>⟨k,v,e.born⟩) (fun e=>⟨k',v',e.born⟩) (fun x x' hx=>⟨o,J,hx.2.2⟩) i
          · intro x hx
            rw[<-hx,ft f1]
            simp only
            have:((b[i]?).map (·.key)).getD k'=C.key:=by
             have:b[i]?=some C:=by simpa using g1
             rw[this];rfl
            rw[this,ft s1,qt _ a2 z]
      · rename_i hf
        cases h
        obtain⟨B,f1,f2⟩:=vn (w:=w) ok o a4 A hf
        cases B with
        |some p=>exact f2.elim
        |none=>
         refine iG.put H (o':=.map (es++[⟨k,v,c⟩]) (c+1)) (jv:=.map (b.push {key:=k',val:=v',born:=c}) (c+1)) hr hg a3 (fun _ _ h=>by cases h) (fun _ _ h=>by cases h) rfl ⟨rfl,a3,rfl,?_⟩ (run _ ?_) (fP.undef g)
         · rw[Array.toList_push]
           exact a4.push ⟨o,J,rfl⟩
         · intro x hx
           rw[<-hx,ft f1]
           simp only
           rw[qt _ a2 z]
      · cases h
   · cases h
 · cases h
theorem CX{a a' b b':Value}(h:fP g a a')(k:fP g b b'):fP g (.tuple #[a,b]) (.tuple #[a',b']):=by
 refine .tuple rfl (fun i x x' q e=>?_)
 match i with
 |0=>simp at q e;subst q;subst e;exact h
 |1=>simp at q e;subst q;subst e;exact k
 |i+2=>simp at q
theorem Ic(ok:T.Ok P)(H:gx B0 w0 g O G w){t:TypeId}{m J k k':Value}{e:qj}(h:EU T O t m k=some e)(N:fP g m J)(o:fP g k k'):
 iG B0 w0 g O G n w ((Instr.mapEntry t J k').run P w) e:=by
 unfold EU at h
 split at h
 · rename_i kt el r hu
   split at h
   · rename_i es c hr
     cases hk:vH T 8 kt k with
     |false=>rw[hk]at h;cases h
     |true=>
      rw[hk]at h
      simp only[cond_true]at h
      have B:=EY hk
      have E:(Instr.checkKey false 10000 kt k').run P w=.ok () w:=Cs ok 8 10000 kt k k' (by decide) hk o
      obtain⟨rr,hg,rfl⟩:=N.wq
      obtain⟨b,_,a2,a3,a4⟩:=H.AJ hr hg
      have A:∀L e f,Obj.map b c≠.cells L e f:=fun _ _ _ h=>by cases h
      have run:∀y,(∀x,(do match<-Instr.findKey kt k' b.toList with
       |some (i,v)=>do
        let key<-Instr.keyThatStays (((b[i]?).map (·.key)).getD k') k'
        setObj rr (.map (b.modify i fun e=>{e with key}) c)
        pure (.tuple #[v,goInt (((b[i]?).map (·.born)).getD 0)])
       |none=>do
        let zero<-zeroValue el
        setObj rr (.map (b.push {key:=k',val:=zero,born:=c}) (c+1))
        pure (.tuple #[zero,goInt c]):Sem Value).run P w=x->x=y)->
       (Instr.mapEntry t (.map (some rr)) k').run P w=y:=by
       intro y hx
       unfold Instr.mapEntry
       rw[ft (ok.gV hu w)]
       simp only
       rw[ft (oO a2 A)]
       simp only
       rw[ft E]
       exact hx _ rfl
      split at h
      · rename_i i e hf
        cases u:BZ e.key k with
        |false=>rw[u]at h;cases h
        |true=>
         rw[u]at h
         simp only[cond_true]at h
         cases h
         obtain⟨C,f1,f2⟩:=vn (w:=w) ok o a4 B hf
         cases C with
         |none=>exact f2.elim
         |some p=>
          obtain⟨j,R⟩:=p
          obtain⟨rfl,_,f3,f4⟩:=f2
          obtain⟨M,g1,g2,g3,g4⟩:=a4.get f3
          obtain⟨s1,s2,S⟩:=Mq (P:=P) u g2 o w
          refine iG.put H (o':=.map (Bn (fun e=>⟨k,e.val,e.born⟩) es i) c) (jv:=.map (b.modify i fun e=>{e with key:=k'}) c) hr hg a3 (fun _ _ h=>by cases h) (fun _ _ h=>by cases h) rfl ⟨rfl,a3,rfl,?_⟩ (run (.ok (.tuple #[R,.int .i64 (.ofNat e.born)]) _) ?_) (CX f4 (.int _ _))
          · rw[Array.toList_modify]
            exact kY.set a4 (fun e=>⟨k,e.val,e.born⟩) (fun e=>⟨k',e.val,e.born⟩) (fun x x' hx=>⟨o,hx.2.1,hx.2.2⟩) i
          · intro x hx
            rw[<-hx,ft f1]
            simp only
            have hi:b[i]?=some M:=by simpa using g1
            rw[hi]
            simp only[Option.map_some,Option.getD_some]
            rw[ft s1,ft (qt _ a2 A),<-g4];rfl
      · rename_i hf
        obtain⟨C,f1,f2⟩:=vn (w:=w) ok o a4 B hf
        cases C with
        |some p=>exact f2.elim
        |none=>
         split at h
         · rename_i z F
           cases h
           have K:fP g z z:=fP.of_flat g (ok.ru F)
           refine iG.put H (o':=.map (es++[⟨k,z,c⟩]) (c+1)) (jv:=.map (b.push {key:=k',val:=z,born:=c}) (c+1)) hr hg a3 (fun _ _ h=>by cases h) (fun _ _ h=>by cases h) rfl ⟨rfl,a3,rfl,?_⟩ (run (.ok (.tuple #[z,.int .i64 (.ofNat c)]) _) ?_) (CX K (.int _ _))
           · rw[Array.toList_push]
             exact a4.push ⟨o,K,rfl⟩
           · intro x hx
             rw[<-hx,ft f1]
             simp only
             rw[ft (ok.qq F w),ft (qt _ a2 A)];rfl
         · cases h
      · cases h
   · cases h
 · cases h
theorem Eh{b:Nat}{v v':Value}(o:fP g v v'):∀(es j:List MapEntry) (r:List MapEntry),kY g es j->F5 b v es=some r->
 ∃i,j.findIdx? (fun e=>(e.born:Int)==((b:Nat):Int))=some i/\kY g r (j.modify i fun e=>{e with val:=v'})
 |[],_,_,_,h=>by cases h
 |_::_,[],_,h,_=>by have:=h.1;simp at this
 |e::es,p::j,r,hr,h=>by
  simp only[F5]at h
  obtain⟨r1,r2,m⟩:=hr.head
  cases hb:Nat.beq e.born b with
  |true=>
   rw[hb]at h
   simp only[cond_true]at h;cases h
   have hb:=fC hb
   refine⟨0,?_,?_⟩
   · rw[List.findIdx?_cons,if_pos (by rw[<-m,hb];simp)]
   · rw[List.modify_zero_cons];exact kY.cons ⟨r1,o,m⟩ hr.tail
  |false=>
   rw[hb]at h
   simp only[cond_false]at h
   obtain⟨l,h1,rfl⟩:=fI.1 h
   obtain⟨i,u,y⟩:=Eh o es j l hr.tail h1
   have jI:p.born≠b:=fun q=>by rw[<-m]at q;rw[q,Nat.beq_refl]at hb;cases hb
   refine⟨i+1,?_,?_⟩
   · rw[List.findIdx?_cons,if_neg (by simp;omega),u];rfl
   · rw[List.modify_succ_cons];exact kY.cons ⟨r1,r2,m⟩ y
theorem Gk(H:gx B0 w0 g O G w){t:TypeId}{m z s A v v':Value}{u:uq}(h:Cq O m s v=some u)(F:fP g m z)(J:fP g s A)(K:fP g v v'):
 iG B0 w0 g O G n w ((do Instr.entryStore t z A v';pure undef:Sem Value).run P w) (undef,u,0):=by
 unfold Cq at h
 split at h
 · rename_i r y b
   split at h
   · rename_i es c hr
     obtain⟨l,h1,rfl⟩:=fI.1 h
     obtain⟨rr,hg,rfl⟩:=F.wq
     obtain rfl:=J.lj
     obtain⟨j,_,a2,a3,a4⟩:=H.AJ hr hg
     have o:∀B e f,Obj.map j c≠.cells B e f:=fun _ _ _ h=>by cases h
     obtain⟨i,C,E⟩:=Eh K es j.toList l a4 h1
     refine iG.put H (o':=.map l c) (jv:=.map (j.modify i fun e=>{e with val:=v'}) c) hr hg a3 (fun _ _ h=>by cases h) (fun _ _ h=>by cases h) rfl ⟨rfl,a3,rfl,by rw[Array.toList_modify];exact E⟩ ?_ (fP.undef g)
     have:(Instr.entryStore t (.map (some rr)) (.int y (.ofNat b)) v').run P w=.ok () (w.putObj rr (.map (j.modify i fun e=>{e with val:=v'}) c)):=by
      unfold Instr.entryStore
      simp only
      rw[ft (oO a2 o)]
      simp only
      rw[ft (show(asInt (.int y (.ofNat b))).run P w=.ok (.ofNat b) w from rfl)]
      have:j.findIdx? (fun e=>(e.born:Int)==Int.ofNat b)=some i:=by
       have q:=List.findIdx?_toArray (p:=fun e:MapEntry=>(e.born:Int)==Int.ofNat b) (l:=j.toList)
       rw[Array.toArray_toList]at q
       rw[q];exact C
      rw[this]
      exact qt _ a2 o
     rw[ft this];rfl
   · cases h
 · cases h
end
end
end Sw
namespace Sw
noncomputable section
open Go Go.RowKit
section
variable {T:Ty}{P:Program}{B0:Nat}{w0:World}{g:Gm}{O:Hp}{G n:Nat}{w:World}
theorem Mr(ok:T.Ok P)(H:gx B0 w0 g O G w){t:TypeId}{x x':Value}{e:qj}(h:Mo T O t x n=some e)(rx:fP g x x'):
 iG B0 w0 g O G n w ((Instr.range t x').run P w) e:=by
 unfold Mo at h
 split at h
 · rename_i s hu
   cases h
   obtain rfl:=rx.lr
   refine iG.new H (o:=.FY s 0) (jv:=.stringIter s 0) (fun _ _ h=>by cases h) rfl (fun _=>⟨rfl,H.base,rfl,rfl⟩) ?_ (v':=.pointer (some ⟨w.heap.size,0,none⟩)) (.ptr (Gm.ma _ _ _ _))
   unfold Instr.range
   rw[ft (ok.gV hu w)]
   simp only
   rfl
 · rename_i k el hu
   cases h
   obtain rfl:=rx.qo
   refine iG.new H (o:=.mapIter none 0 [] 0) (jv:=.mapIter none 0 #[] 0) (fun _ _ h=>by cases h) rfl (fun _=>⟨rfl,H.base,rfl,rfl,rfl,trivial⟩) ?_ (v':=.pointer (some ⟨w.heap.size,0,none⟩)) (.ptr (Gm.ma _ _ _ _))
   unfold Instr.range
   rw[ft (ok.gV hu w)]
   simp only
   rfl
 · rename_i k el m hu
   split at h
   · rename_i es c hm
     cases h
     obtain⟨rr,hg,rfl⟩:=rx.wq
     obtain⟨b,_,a2,a3,a4⟩:=H.AJ hm hg
     refine iG.new H (o:=.mapIter (some m) c [] c) (jv:=.mapIter (some rr) c #[] c) (fun _ _ h=>by cases h) rfl (fun f0=>⟨rfl,H.base,rfl,rfl,rfl,?_⟩) ?_ (v':=.pointer (some ⟨w.heap.size,0,none⟩)) (.ptr (Gm.ma _ _ _ _))
     · exact(Gm.rq f0.ga _ _).1 _ _ hg
     · unfold Instr.range
       rw[ft (ok.gV hu w)]
       simp only
       rw[ft (oO a2 (fun _ _ _ h=>by cases h))]
       rfl
   · cases h
 · cases h
def IM(g:Gm):Option Nat->Option Nat->Prop
 |none,none=>True
 |some a,some a'=>g.ga a=some (a',0)
 |_,_=>False
theorem gx.Ms(H:gx B0 w0 g O G w){b:Nat}{m:Option Nat}{s st:Nat}{seen:List Nat}(h:O b=some (.mapIter m s seen st)){rb ro:Nat}(hb:g.ga b=some (rb,ro)):
 ∃j e,ro=0/\w.heap[rb]?=some (.mapIter j s e st)/\B0<=rb/\seen=e.toList/\IM g m j:=by
 obtain⟨jv,a2,a3⟩:=(H.live b _ h).2 _ _ hb
 cases jv<;>first|exact a3.elim|skip
 rename_i j _ _ _
 obtain⟨rfl,o,rfl,p,rfl,u⟩:=a3
 refine⟨_,_,rfl,a2,o,p,?_⟩
 cases m<;>cases j<;>exact u
theorem Ie{b:Nat}:∀(es j:List MapEntry) (e:MapEntry),kY g es j->es.find? (fun e=>Nat.beq e.born b)=some e->∃m,j.find? (fun e=>e.born==b)=some m/\fP g e.key m.key/\fP g e.val m.val
 |[],_,_,_,h=>by cases h
 |_::_,[],_,h,_=>by have:=h.1;simp at this
 |x::es,x'::j,e,hr,h=>by
  obtain⟨r1,r2,o⟩:=hr.head
  rw[List.find?_cons]at h
  rw[List.find?_cons]
  cases hb:Nat.beq x.born b with
  |true=>
   rw[hb]at h;cases h
   have hb:=fC hb
   have:(x'.born==b)=true:=by rw[<-o,hb];simp
   rw[this];exact⟨x',rfl,r1,r2⟩
  |false=>
   rw[hb]at h
   have:(x'.born==b)=false:=by
    cases q:(x'.born==b)with
    |false=>rfl
    |true=>rw[beq_iff_eq]at q;rw[o,q,Nat.beq_refl]at hb;cases hb
   rw[this]
   exact Ie es j e hr.tail h
theorem Mt(H:gx B0 w0 g O G w){x x' v:Value}(h:Mp O x=some v)(rx:fP g x x'):
 iG B0 w0 g O G n w ((Instr.entry x').run P w) (v,[],0):=by
 unfold Mp at h
 split at h
 · rename_i r B
   split at h
   · rename_i m ju seen st hr
     split at h
     · rename_i b es clock hs hm
       cases hb:Nat.beq clock st with
       |false=>rw[hb]at h;cases h
       |true=>
        rw[hb]at h
        simp only[cond_true]at h
        split at h
        · rename_i e hf
          cases h
          obtain⟨rfl,rb,ro,hg,rfl⟩:=rx.sL
          obtain⟨u,j,rfl,a2,a3,a4,a5⟩:=H.Ms hr hg
          cases u with
          |none=>exact a5.elim
          |some u=>
           have a5:g.ga m=some (u,0):=a5
           obtain⟨o,_,b2,A,y⟩:=H.AJ hm a5
           obtain⟨p,c1,c2,z⟩:=Ie es o.toList e y hf
           refine iG.pure H (v':=.tuple #[p.key,p.val]) ?_ (CX c2 z)
           unfold Instr.entry
           simp only[Nat.add_zero]
           rw[ft (oO a2 (fun _ _ _ h=>by cases h))]
           simp only
           have:j.back?=some b:=by
            rw[a4]at hs
            rw[<-Array.getLast?_toList];exact hs
           rw[this]
           simp only
           rw[ft (oO b2 (fun _ _ _ h=>by cases h))]
           simp only
           have hb:=fC hb
           subst hb
           rw[if_neg (by simp)]
           have q:o.find? (fun e=>e.born==b)=some p:=by rw[<-Array.find?_toList];exact c1
           rw[q];rfl
        · cases h
     · cases h
   · cases h
 · cases h
theorem Qh{x y x' y' v:Value}(h:Sw.max2 x y=some v)(rx:fP g x x')(j:fP g y y')(w:World):(Builtin.max2 x' y').run P w=.ok v w/\fP g v v:=by
 unfold Sw.max2 at h
 split at h
 · rename_i k a m b
   cases h
   obtain rfl:=rx.lj
   obtain rfl:=j.lj
   refine⟨?_,.int _ _⟩
   rw[EH]
   simp only[Builtin.max2,gt_iff_lt]
   by_cases e:a<b
   · rw[if_pos e,decide_eq_true e];rfl
   · rw[if_neg e,decide_eq_false e];rfl
 · cases h
theorem Qi{x y x' y' v:Value}(h:Sw.min2 x y=some v)(rx:fP g x x')(j:fP g y y')(w:World):(Builtin.min2 x' y').run P w=.ok v w/\fP g v v:=by
 unfold Sw.min2 at h
 split at h
 · rename_i k a m b
   cases h
   obtain rfl:=rx.lj
   obtain rfl:=j.lj
   refine⟨?_,.int _ _⟩
   rw[EH]
   simp only[Builtin.min2]
   by_cases e:b<a
   · rw[if_pos e,decide_eq_true e];rfl
   · rw[if_neg e,decide_eq_false e];rfl
 · cases h
theorem Ct{f:Value->Value->Option Value}{f':Value->Value->Sem Value}(hf:∀x y x' y' v,f x y=some v->fP g x x'->fP g y y'->(f' x' y').run P w=.ok v w/\fP g v v):
 ∀(l b:List Value) (x x' v:Value),LO f x l=some v->fP g x x'->gZ g l b->∃v',(b.foldlM f' x').run P w=.ok v' w/\fP g v v'
 |[],[],x,x',v,h,rx,_=>by cases h;exact⟨x',rfl,rx⟩
 |[],_::_,_,_,_,_,_,hl=>by have:=hl.1;simp at this
 |_::_,[],_,_,_,_,_,hl=>by have:=hl.1;simp at this
 |y::l,y'::b,x,x',v,h,rx,hl=>by
  simp only[LO]at h
  split at h
  · rename_i z e
    obtain⟨h1,D⟩:=hf _ _ _ _ _ e rx hl.head
    obtain⟨v',h3,h4⟩:=Ct hf l b z z v h D hl.tail
    refine⟨v',?_,h4⟩
    rw[List.foldlM_cons,ft h1];exact h3
  · cases h
theorem Qj(H:gx B0 w0 g O G w){ts:Array TypeId}{ty:TypeId}{l:List Value}{e:Array Value}{v:Value}(hl:gZ g l e.toList)(h:Jr Sw.max2 l=some v):
 iG B0 w0 g O G n w ((Builtin.max_ ts ty e).run P w) (v,[],0):=by
 unfold Jr at h
 cases l with
 |nil=>cases h
 |cons x xs=>
  cases b:e.toList with
  |nil=>rw[b]at hl;have:=hl.1;simp at this
  |cons x' j=>
   rw[b]at hl
   obtain⟨v',h1,D⟩:=Ct (P:=P) (w:=w) (f':=Builtin.max2) (fun x y x' y' v h rx m=>Qh h rx m w) xs j x x' v h hl.head hl.tail
   refine iG.pure H (v':=v') ?_ D
   unfold Builtin.max_
   rw[b];exact h1
theorem Qk(H:gx B0 w0 g O G w){ts:Array TypeId}{ty:TypeId}{l:List Value}{e:Array Value}{v:Value}(hl:gZ g l e.toList)(h:Jr Sw.min2 l=some v):
 iG B0 w0 g O G n w ((Builtin.min_ ts ty e).run P w) (v,[],0):=by
 unfold Jr at h
 cases l with
 |nil=>cases h
 |cons x xs=>
  cases b:e.toList with
  |nil=>rw[b]at hl;have:=hl.1;simp at this
  |cons x' j=>
   rw[b]at hl
   obtain⟨v',h1,D⟩:=Ct (P:=P) (w:=w) (f':=Builtin.min2) (fun x y x' y' v h rx m=>Qi h rx m w) xs j x x' v h hl.head hl.tail
   refine iG.pure H (v':=v') ?_ D
   unfold Builtin.min_
   rw[b];exact h1
end
end
end Sw
