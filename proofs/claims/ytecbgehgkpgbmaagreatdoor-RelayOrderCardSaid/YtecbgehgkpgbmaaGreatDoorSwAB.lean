/- A part of the proof that the law returns true for every input that its row speaks of. No condition is added. -/
import Derived.Test.YtecbgehgkpgbmaaGreatDoorSwAA
namespace Sw
noncomputable section
open Go Go.RowKit
def strs(s:ByteArray):List UInt8:=s.data.toList
def wm:List UInt8->List UInt8->Bool
 |[],[]=>true
 |a::x,b::y=>Nat.beq a.toNat b.toNat&&wm x y
 |_,_=>false
def Hs:List UInt8->List UInt8->Bool
 |_,[]=>false
 |[],_::_=>true
 |a::x,b::y=>Nat.blt a.toNat b.toNat||(Nat.beq a.toNat b.toNat&&Hs x y)
theorem QW(a b:UInt8):Nat.beq a.toNat b.toNat=(a==b):=by
 rw[Bool.eq_iff_iff]
 constructor
 · intro h;have:=Nat.eq_of_beq_eq_true h;simp;exact UInt8.toNat_inj.1 this
 · intro h;simp at h;subst h;exact Nat.beq_refl _
theorem WJ(a b:UInt8):Nat.blt a.toNat b.toNat=decide (a<b):=by
 rw[Bool.eq_iff_iff,mq];simp[UInt8.lt_iff_toNat_lt]
theorem wI(x y:List UInt8):wm x y=(x==y):=by
 induction x generalizing y with
 |nil=>cases y<;>rfl
 |cons a x ih=>cases y with
  |nil=>rfl
  |cons b y=>simp only[wm,QW,ih];rfl
theorem WK(x y:List UInt8):Hs x y=Op.bytesLess x y:=by
 induction x generalizing y with
 |nil=>cases y<;>rfl
 |cons a x ih=>cases y with
  |nil=>rfl
  |cons b y=>simp only[Hs,QW,WJ,ih,Op.bytesLess]
theorem ByteArray.zV(s:ByteArray):s.toList=s.data.toList:=by
 have key:∀(n i:Nat) (r:List UInt8),s.size-i=n->ByteArray.toList.loop s i r=r.reverse++s.data.toList.drop i:=by
  intro n
  induction n with
  |zero=>
   intro i r h
   rw[ByteArray.toList.loop,if_neg (by omega),List.drop_eq_nil_of_le]
   · simp
   · rw[Array.length_toList];show s.size<=i;omega
  |succ n ih=>
   intro i r h
   have hi:i<s.size:=by omega
   rw[ByteArray.toList.loop,if_pos hi,ih (i+1) _ (by omega)]
   have j:i<s.data.toList.length:=by rw[Array.length_toList];exact hi
   rw[List.drop_eq_getElem_cons j]
   have:s.get! i=s.data.toList[i]:=by
    show s.data[i]! =_
    have o:i<s.data.size:=hi
    exact getElem!_pos s.data i o
   rw[this]
   simp
 unfold ByteArray.toList
 rw[key _ 0 [] rfl]
 simp
theorem ByteArray.IS(a b:ByteArray):(a==b)=wm (strs a) (strs b):=by
 rw[wI]
 show(a.data==b.data)=(a.data.toList==b.data.toList)
 rw[Bool.eq_iff_iff,beq_iff_eq,beq_iff_eq,Array.toList_inj]
def D4(op:BinOp)(a b:ByteArray):Option Value:=
 match op with
 |.add=>bif Nat.blt (strs a).length 1073741824&&Nat.blt (strs b).length 1073741824 then some (.string ⟨(strs a++strs b).toArray⟩)else none
 |.eql=>some (.bool (wm (strs a) (strs b)))
 |.neq=>some (.bool (!(wm (strs a) (strs b))))
 |.lss=>some (.bool (Hs (strs a) (strs b)))
 |.leq=>some (.bool (Hs (strs a) (strs b)||wm (strs a) (strs b)))
 |.gtr=>some (.bool (!(Hs (strs a) (strs b)||wm (strs a) (strs b))))
 |.geq=>some (.bool (!(Hs (strs a) (strs b))))
 |_=>none
theorem Pn{op:BinOp}{a b:ByteArray}{v:Value}(h:D4 op a b=some v)(P:Program)(w:World):(Op.stringOp op a b).run P w=.ok v w:=by
 have e1:(a.toList==b.toList)=wm (strs a) (strs b):=by rw[wI,ByteArray.zV,ByteArray.zV];rfl
 have e2:Op.bytesLess a.toList b.toList=Hs (strs a) (strs b):=by rw[WK,ByteArray.zV,ByteArray.zV];rfl
 unfold D4 at h
 split at h
 · cases hb:(Nat.blt (strs a).length 1073741824&&Nat.blt (strs b).length 1073741824)with
   |false=>rw[hb]at h;cases h
   |true=>
    rw[hb]at h
    simp only[cond_true,Option.some.injEq]at h
    subst h
    rw[Bool.and_eq_true,mq,mq]at hb
    have o:a.size=(strs a).length:=by unfold strs;rw[Array.length_toList];rfl
    have C:b.size=(strs b).length:=by unfold strs;rw[Array.length_toList];rfl
    simp only[Op.stringOp]
    rw[if_neg (by simp only[IntKind.max,IntKind.signed,IntKind.bits,if_true];omega)]
    have:a++b=⟨(strs a++strs b).toArray⟩:=by
     have:(a++b).data=(strs a++strs b).toArray:=by
      rw[ByteArray.data_append];unfold strs;simp
     cases j:a++b with
     |mk d=>rw[j]at this;simp only at this;rw[this]
    rw[this]
    rfl
 all_goals
  first
   |(cases h;simp only[Op.stringOp,e1,e2];rfl)
   |cases h
def Hu(op:BinOp)(k:IntKind)(x y:Int):Option Value:=
 match op with
 |.add=>some (.int k (gD k (x+y)))
 |.sub=>some (.int k (gD k (x-y)))
 |.mul=>some (.int k (gD k (x*y)))
 |.quo=>bif km y 0 then none else some (.int k (gD k (x.tdiv y)))
 |.rem=>bif km y 0 then none else some (.int k (x.tmod y))
 |.eql=>some (.bool (km x y))
 |.neq=>some (.bool (!(km x y)))
 |.lss=>some (.bool (ru x y))
 |.leq=>some (.bool (DA x y))
 |.gtr=>some (.bool (ru y x))
 |.geq=>some (.bool (DA y x))
 |.and|.or|.xor|.andNot=>(Pm op k x y).map (.int k ·)
 |_=>none
def Ca(op:BinOp)(k:IntKind)(x y:Int):Option Value:=
 match y with
 |.ofNat n=>match op with
  |.shl=>some (.int k (gD k (x*.ofNat (Nat.pow 2 (bif Nat.ble n k.bits then n else k.bits)))))
  |.shr=>some (.int k (x.fdiv (.ofNat (Nat.pow 2 (bif Nat.ble n k.bits then n else k.bits)))))
  |_=>none
 |.negSucc _=>none
def WL:Operand->Bool
 |.const _=>true
 |_=>false
def LC(T:Ty)(rec:TypeId->Value->Value->Option Bool):List Field->List Value->List Value->Option Bool
 |[],_,_=>some true
 |f::fs,xs,j=>
  match xE T f.type xs f.offset,xE T f.type j f.offset with
  |some x,some y=>match rec f.type x y with
   |some true=>LC T rec fs xs j
   |some false=>some false
   |none=>none
  |_,_=>none
def LD(T:Ty)(rec:TypeId->Value->Value->Option Bool)(el:TypeId)(s:Nat)(xs j:List Value):Nat->Nat->Option Bool
 |0,_=>some true
 |n+1,i=>
  match xE T el xs (i*s),xE T el j (i*s)with
  |some x,some y=>match rec el x y with
   |some true=>LD T rec el s xs j n (i+1)
   |some false=>some false
   |none=>none
  |_,_=>none
def xg(T:Ty):Nat->TypeId->Value->Value->Option Bool
 |0,_,_,_=>none
 |d+1,t,x,y=>
  match T.ji t,x,y with
  |some .bool,.bool a,.bool b=>some (a==b)
  |some (.int _),.int k a,.int k' b=>if k=k' then some (km a b)else none
  |some .string,.string a,.string b=>some (wm (strs a) (strs b))
  |some (.pointer _),.pointer none,.pointer b=>some b.isNone
  |some (.pointer _),.pointer (some _),.pointer none=>some false
  |some (.interface _),.nilIface,.nilIface=>some true
  |some (.interface _),.nilIface,.iface _ _=>some false
  |some (.interface _),.iface _ _,.nilIface=>some false
  |some (.struct fs),.agg xs,.agg j=>bif T.Gn t then LC T (xg T d) fs.toList xs.toList j.toList else none
  |some (.array n el),.agg xs,.agg j=>bif T.Gn t then(T.size el).bind fun s=>LD T (xg T d) el s xs.toList j.toList n 0 else none
  |some (.slice _),.slice none _ _,.slice b _ _=>some b.isNone
  |some (.slice _),.slice (some _) _ _,.slice none _ _=>some false
  |some (.map _ _),.map none,.map b=>some b.isNone
  |some (.map _ _),.map (some _),.map none=>some false
  |some (.func _ _ _),.nilFunc,.nilFunc=>some true
  |some (.func _ _ _),.nilFunc,.func _ _ _=>some false
  |some (.func _ _ _),.func _ _ _,.nilFunc=>some false
  |_,_,_=>none
section
variable {T:Ty}{P:Program}{B0:Nat}{w0:World}{g:Gm}{hp:Hp}{nx n:Nat}{w:World}
theorem LF{op:BinOp}{k:IntKind}{x y:Int}{v:Value}(h:Hu op k x y=some v)(t:TypeId)(w:World):(binOp op t (.int k x) (.int k y)).run P w=.ok v w:=by
 unfold Hu at h
 split at h
 · cases h;rw[tt];simp[binOp,Op.intArith]
 · cases h;rw[tt];simp[binOp,Op.intArith]
 · cases h;rw[tt];simp[binOp,Op.intArith]
 · cases hy:km y 0 with
   |true=>rw[hy]at h;cases h
   |false=>
    rw[hy]at h;cases h
    have:y≠0:=fun e=>by rw[lH.2 e]at hy;cases hy
    rw[tt];simp[binOp,Op.intDiv,this]
 · cases hy:km y 0 with
   |true=>rw[hy]at h;cases h
   |false=>
    rw[hy]at h;cases h
    have:y≠0:=fun e=>by rw[lH.2 e]at hy;cases hy
    simp[binOp,Op.intDiv,this]
 · cases h;rw[DZ];simp[binOp,Op.intCmp]
 · cases h;rw[DZ];simp[binOp,Op.intCmp];rfl
 · cases h;rw[DY];simp[binOp,Op.intCmp]
 · cases h;rw[Lz];simp[binOp,Op.intCmp]
 · cases h;rw[DY];simp[binOp,Op.intCmp]
 · cases h;rw[Lz];simp[binOp,Op.intCmp]
 · obtain⟨r,h1,rfl⟩:=Option.map_eq_some_iff.1 h
   simpa[binOp]using uI h1 P w
 · obtain⟨r,h1,rfl⟩:=Option.map_eq_some_iff.1 h
   simpa[binOp]using uI h1 P w
 · obtain⟨r,h1,rfl⟩:=Option.map_eq_some_iff.1 h
   simpa[binOp]using uI h1 P w
 · obtain⟨r,h1,rfl⟩:=Option.map_eq_some_iff.1 h
   simpa[binOp]using uI h1 P w
 · cases h
theorem Ta(n m:Nat):(bif Nat.ble n m then n else m)=min n m:=by
 cases h:Nat.ble n m with
 |true=>have:=Nat.le_of_ble_eq_true h;simp;omega
 |false=>
  have:¬n<=m:=fun k=>by rw[Nat.ble_eq_true_of_le k]at h;cases h
  simp;omega
theorem D5{op:BinOp}{k k':IntKind}{x y:Int}{v:Value}(h:Ca op k x y=some v)(t:TypeId)(w:World):(binOp op t (.int k x) (.int k' y)).run P w=.ok v w:=by
 unfold Ca at h
 split at h
 · rename_i n
   have e:∀m:Nat,(Int.ofNat (Nat.pow 2 m))=(2:Int)^m:=fun m=>by
    show((2^m:Nat):Int)=_
    rw[Int.natCast_pow];rfl
   split at h
   · cases h
     rw[tt,Ta,e]
     simp only[binOp,Op.shift]
     rw[if_neg (by exact Int.not_lt.2 (Int.natCast_nonneg n))]
     rfl
   · cases h
     rw[Ta,e]
     simp only[binOp,Op.shift]
     rw[if_neg (by exact Int.not_lt.2 (Int.natCast_nonneg n))]
     rfl
   · cases h
 · cases h
theorem Po(ok:T.Ok P){rec:TypeId->Value->Value->Option Bool}{d:Nat}{w:World}
 (ih:∀t x y x' y' b,rec t x y=some b->fQ g x x'->fQ g y y'->(Op.equalIn d t x' y').run P w=.ok b w) {xs U j o:Array Value} (hx:r5 g xs j) (hy:r5 g U o):
 ∀(fs:List Field) (b:Bool),(∀f∈fs,f.name≠ "_")->LC T rec fs xs.toList U.toList=some b->
  (forIn fs ((none,()):Option Bool×Unit) fun f (_:Option Bool×Unit)=>
    if f.name≠ "_" then do
     let a<-part f.type j f.offset
     let c<-part f.type o f.offset
     let e<-Op.equalIn d f.type a c
     if(!e)=true then pure (ForInStep.done (some false,()))else pure (ForInStep.yield (none,()))
    else pure (ForInStep.yield (none,())):Sem (Option Bool×Unit)).run P w=.ok (if b then(none,())else(some false,())) w:=by
 intro fs
 induction fs with
 |nil=>intro b _ h;simp[LC]at h;subst h;rfl
 |cons f fs C=>
  intro b hn h
  simp only[LC]at h
  split at h
  · rename_i x y ex aa
    obtain⟨x',I,rx⟩:=tq ok ex hx w
    obtain⟨y',J,R⟩:=tq ok aa hy w
    rw[List.forIn_cons]
    have hf:=hn f (List.mem_cons_self ..)
    split at h
    · rename_i hr
      have he:=ih _ _ _ _ _ _ hr rx R
      have step:(if f.name≠ "_" then do
       let a<-part f.type j f.offset
       let c<-part f.type o f.offset
       let e<-Op.equalIn d f.type a c
       if(!e)=true then pure (ForInStep.done (some false,()))else pure (ForInStep.yield (none,()))
       else pure (ForInStep.yield (none,())):Sem (ForInStep (Option Bool×Unit))).run P w=.ok (ForInStep.yield (none,())) w:=by
       rw[if_pos hf,fw I,fw J,fw he];rfl
      rw[fw step]
      exact C b (fun q ab=>hn q (List.mem_cons_of_mem _ ab)) h
    · rename_i hr
      cases h
      have he:=ih _ _ _ _ _ _ hr rx R
      have step:(if f.name≠ "_" then do
       let a<-part f.type j f.offset
       let c<-part f.type o f.offset
       let e<-Op.equalIn d f.type a c
       if(!e)=true then pure (ForInStep.done (some false,()))else pure (ForInStep.yield (none,()))
       else pure (ForInStep.yield (none,())):Sem (ForInStep (Option Bool×Unit))).run P w=.ok (ForInStep.done (some false,())) w:=by
       rw[if_pos hf,fw I,fw J,fw he];rfl
      rw[fw step]
      rfl
    · cases h
  · cases h
theorem Pp(ok:T.Ok P){rec:TypeId->Value->Value->Option Bool}{d:Nat}{w:World}
 (ih:∀t x y x' y' b,rec t x y=some b->fQ g x x'->fQ g y y'->(Op.equalIn d t x' y').run P w=.ok b w) {xs aa o C:Array Value} (hx:r5 g xs o) (hy:r5 g aa C) (el:TypeId) (s:Nat):
 ∀(n i:Nat) (b:Bool),LD T rec el s xs.toList aa.toList n i=some b->
  (forIn (List.range' i n) ((none,()):Option Bool×Unit) fun j (_:Option Bool×Unit)=>do
    let a<-part el o (j*s)
    let c<-part el C (j*s)
    let e<-Op.equalIn d el a c
    if(!e)=true then pure (ForInStep.done (some false,()))else pure (ForInStep.yield (none,())):Sem (Option Bool×Unit)).run P w=.ok (if b then(none,())else(some false,())) w:=by
 intro n
 induction n with
 |zero=>intro i b h;simp only[LD,Option.some.injEq]at h;subst h;rfl
 |succ n I=>
  intro i b h
  simp only[LD]at h
  split at h
  · rename_i x y ex ab
    obtain⟨x',J,rx⟩:=tq ok ex hx w
    obtain⟨y',R,U⟩:=tq ok ab hy w
    rw[List.range'_succ,List.forIn_cons]
    split at h
    · rename_i hr
      have he:=ih _ _ _ _ _ _ hr rx U
      have step:(do
       let a<-part el o (i*s)
       let c<-part el C (i*s)
       let e<-Op.equalIn d el a c
       if(!e)=true then pure (ForInStep.done (some false,()))else pure (ForInStep.yield (none,())):Sem (ForInStep (Option Bool×Unit))).run P w=.ok (ForInStep.yield (none,())) w:=by
       rw[fw J,fw R,fw he];rfl
      rw[fw step]
      exact I (i+1) b h
    · rename_i hr
      cases h
      have he:=ih _ _ _ _ _ _ hr rx U
      have step:(do
       let a<-part el o (i*s)
       let c<-part el C (i*s)
       let e<-Op.equalIn d el a c
       if(!e)=true then pure (ForInStep.done (some false,()))else pure (ForInStep.yield (none,())):Sem (ForInStep (Option Bool×Unit))).run P w=.ok (ForInStep.done (some false,())) w:=by
       rw[fw J,fw R,fw he];rfl
      rw[fw step]
      rfl
    · cases h
  · cases h
theorem D6(ok:T.Ok P){w:World}:∀(d d':Nat) (t:TypeId) (x y x' y':Value) (b:Bool),d<=d'->xg T d t x y=some b->fQ g x x'->fQ g y y'->(Op.equalIn d' t x' y').run P w=.ok b w:=by
 intro d
 induction d with
 |zero=>intro d' t x y x' y' b _ h;cases h
 |succ d ih=>
  intro d' t x y x' y' b hd h rx j
  obtain⟨d',rfl⟩:∃e,d'=e+1:=⟨d'-1,by omega⟩
  unfold xg at h
  split at h
  · rename_i hu
    cases h
    obtain rfl:=rx.rK;obtain rfl:=j.rK
    unfold Op.equalIn;rw[fw (ok.gS hu w)];rfl
  · rename_i k a k' b' hu
    obtain rfl:=rx.kQ;obtain rfl:=j.kQ
    split at h
    · rename_i hk;cases h;subst hk
      unfold Op.equalIn;rw[fw (ok.gS hu w)]
      simp only[if_true]
      rw[DZ];rfl
    · cases h
  · rename_i hu
    cases h
    obtain rfl:=rx.kS;obtain rfl:=j.kS
    unfold Op.equalIn;rw[fw (ok.gS hu w)]
    rw[<-ByteArray.IS];rfl
  · rename_i e b1 hu
    cases h
    obtain rfl:=rx.tW
    unfold Op.equalIn;rw[fw (ok.gS hu w)]
    cases b1 with
    |none=>obtain rfl:=j.tW;rfl
    |some a=>obtain⟨_,rb,ro,_,rfl⟩:=j.sn;rfl
  · rename_i e a hu
    cases h
    obtain⟨_,rb,ro,_,rfl⟩:=rx.sn
    obtain rfl:=j.tW
    unfold Op.equalIn;rw[fw (ok.gS hu w)];rfl
  · rename_i hu
    cases h
    obtain rfl:=rx.oz;obtain rfl:=j.oz
    unfold Op.equalIn;rw[fw (ok.gS hu w)];rfl
  · rename_i hu
    cases h
    obtain rfl:=rx.oz;obtain⟨_,rfl,_⟩:=j.xe
    unfold Op.equalIn;rw[fw (ok.gS hu w)];rfl
  · rename_i hu
    cases h
    obtain⟨_,rfl,_⟩:=rx.xe;obtain rfl:=j.oz
    unfold Op.equalIn;rw[fw (ok.gS hu w)];rfl
  · rename_i fs xs U hu
    cases he:T.Gn t with
    |false=>rw[he]at h;cases h
    |true=>
     rw[he]at h
     simp only[cond_true]at h
     obtain⟨o1,_,R⟩:=ok.eq t he
     obtain⟨I,rfl,o⟩:=rx.sR
     obtain⟨J,rfl,C⟩:=j.sR
     have:=Po (w:=w) (d:=d') ok (fun t x y x' y' b hr r1 r2=>ih d' t x y x' y' b (by omega) hr r1 r2) o C fs.toList b (R fs (ok.ji hu)) h
     unfold Op.equalIn
     rw[fw (ok.gS hu w)]
     simp only
     rw[fw (show(program).run P w=.ok P w from rfl),if_neg (by rw[o1];simp)]
     rw[<-Array.forIn_toList,fw this]
     cases b<;>rfl
  · rename_i n el xs U hu
    cases he:T.Gn t with
    |false=>rw[he]at h;cases h
    |true=>
     rw[he]at h
     simp only[cond_true]at h
     obtain⟨s,hs,h⟩:=Option.bind_eq_some_iff.1 h
     obtain⟨I,rfl,o⟩:=rx.sR
     obtain⟨J,rfl,C⟩:=j.sR
     have:=Pp (w:=w) (d:=d') ok (fun t x y x' y' b hr r1 r2=>ih d' t x y x' y' b (by omega) hr r1 r2) o C el s n 0 b h
     unfold Op.equalIn
     rw[fw (ok.gS hu w)]
     simp only
     rw[fw (ok.nS hs w)]
     rw[Std.Legacy.Range.forIn_eq_forIn_range']
     simp only[Std.Legacy.Range.size,Nat.sub_zero,Nat.add_sub_cancel,Nat.div_one]
     rw[fw this]
     cases b<;>rfl
  · rename_i b1 aa c1 hu
    cases h
    obtain⟨_,_,rfl⟩:=rx.lT
    unfold Op.equalIn;rw[fw (ok.gS hu w)]
    cases b1 with
    |none=>obtain⟨_,_,rfl⟩:=j.lT;rfl
    |some a=>rcases j.mK with⟨_,_,_,rfl⟩|⟨_,rb,ro,c2,_,_,_,rfl⟩<;>rfl
  · rename_i hu
    cases h
    obtain⟨_,_,rfl⟩:=j.lT
    unfold Op.equalIn;rw[fw (ok.gS hu w)]
    rcases rx.mK with⟨_,_,_,rfl⟩|⟨_,rb,ro,c2,_,_,_,rfl⟩<;>rfl
  · rename_i b1 hu
    cases h
    obtain rfl:=rx.pX
    unfold Op.equalIn;rw[fw (ok.gS hu w)]
    cases b1 with
    |none=>obtain rfl:=j.pX;rfl
    |some a=>obtain⟨_,_,rfl⟩:=j.vE;rfl
  · rename_i hu
    cases h
    obtain rfl:=j.pX;obtain⟨_,_,rfl⟩:=rx.vE
    unfold Op.equalIn;rw[fw (ok.gS hu w)];rfl
  · rename_i hu
    cases h
    obtain rfl:=rx.se;obtain rfl:=j.se
    unfold Op.equalIn;rw[fw (ok.gS hu w)];rfl
  · rename_i hu
    cases h
    obtain rfl:=rx.se
    unfold Op.equalIn;rw[fw (ok.gS hu w)]
    cases j<;>rfl
  · rename_i hu
    cases h
    obtain rfl:=j.se
    unfold Op.equalIn;rw[fw (ok.gS hu w)]
    cases rx<;>rfl
  · cases h
end
end
end Sw
namespace Sw
noncomputable section
open Go Go.RowKit
def Pq:IntKind->Nat
 |.i8=>0|.i16=>1|.i32=>2|.i64=>3|.u8=>4|.u16=>5|.u32=>6|.u64=>7
def vO(k k':IntKind):Bool:=Nat.beq (Pq k) (Pq k')
theorem ve{k k':IntKind}(h:vO k k'=true):k=k':=by
 have:=Nat.eq_of_beq_eq_true h
 cases k<;>cases k'<;>first|rfl|(simp[Pq]at this)
def Fk(T:Ty)(t:TypeId)(xo yo:Operand)(x y:Value):Bool:=
 match x,y with
 |.nilIface,.nilIface=>WL xo||WL yo
 |.agg _,.agg _=>T.Gn t
 |_,_=>true
def wy(T:Ty)(op:BinOp)(t:TypeId)(xo yo:Operand)(x y:Value):Option Value:=
 match x,y with
 |.int k a,.int k' b=>match op with
  |.shl=>Ca .shl k a b
  |.shr=>Ca .shr k a b
  |op=>bif vO k k' then Hu op k a b else none
 |.string a,.string b=>D4 op a b
 |x,y=>bif Fk T t xo yo x y then
   (match op with
   |.eql=>(xg T 12 t x y).map .bool
   |.neq=>(xg T 12 t x y).map fun b=>.bool (!b)
   |_=>none)else none
section
variable {T:Ty}{P:Program}{B0:Nat}{w0:World}{g:Gm}{hp:Hp}{nx n:Nat}{w:World}
theorem zv{op:BinOp}{t:TypeId}{xo yo:Operand}{x y:Value}(h1:∀c d,¬(x=.agg c/\y=.agg d))(h2:¬(x=.nilIface/\y=.nilIface))(w:World):(eqGuard op t xo yo x y).run P w=.ok () w:=by
 cases op<;>first|rfl|skip
 all_goals
  unfold eqGuard
  simp only[Bool.not_true,Bool.false_eq_true,if_false]
  split
  · exact(h2 ⟨rfl,rfl⟩).elim
  · exact(h1 _ _ ⟨rfl,rfl⟩).elim
  · rfl
theorem Ky(ok:T.Ok P){op:BinOp}{t:TypeId}{xo yo:Operand}{x y x' y':Value}(h:Fk T t xo yo x y=true)(rx:fQ g x x')(j:fQ g y y')(w:World):(eqGuard op t xo yo x' y').run P w=.ok () w:=by
 unfold Fk at h
 split at h
 · obtain rfl:=rx.oz
   obtain rfl:=j.oz
   cases op<;>first|rfl|skip
   all_goals
    unfold eqGuard
    simp only[Bool.not_true,Bool.false_eq_true,if_false]
    cases xo<;>cases yo<;>first|(simp[WL]at h;done)|rfl
 · obtain⟨o,rfl,_⟩:=rx.sR
   obtain⟨C,rfl,_⟩:=j.sR
   cases op<;>first|rfl|skip
   all_goals
    unfold eqGuard
    simp only[Bool.not_true,Bool.false_eq_true,if_false]
    rw[fw (show(program).run P w=.ok P w from rfl),fw (show(program).run P w=.ok P w from rfl)]
    rw[(ok.eq t h).2.1]
    rfl
 · rename_i h1 h2
   refine zv ?_ ?_ w
   · rintro c d ⟨rfl,rfl⟩
     cases rx;cases j
     exact h2 _ _ rfl rfl
   · rintro ⟨rfl,rfl⟩
     cases rx;cases j
     exact h1 rfl rfl
theorem Hv(ok:T.Ok P)(H:gu B0 w0 g hp nx w){op:BinOp}{t:TypeId}{xo yo:Operand}{x y x' y' v:Value}(h:wy T op t xo yo x y=some v)(rx:fQ g x x')(j:fQ g y y'):
 iC B0 w0 g hp nx n w ((do eqGuard op t xo yo x' y';binOp op t x' y':Sem Value).run P w) (v,[],0):=by
 unfold wy at h
 split at h
 · rename_i k a k' b
   obtain rfl:=rx.kQ
   obtain rfl:=j.kQ
   have o:=zv (P:=P) (op:=op) (t:=t) (xo:=xo) (yo:=yo) (x:=.int k a) (y:=.int k' b) (fun c d h=>by cases h.1) (fun h=>by cases h.1) w
   have U:∀r:Value,(binOp op t (.int k a) (.int k' b)).run P w=.ok r w->fQ g r r->iC B0 w0 g hp nx n w ((do eqGuard op t xo yo (.int k a) (.int k' b);binOp op t (.int k a) (.int k' b):Sem Value).run P w) (r,[],0):=
    fun r h1 h2=>iC.pure H (by rw[fw o];exact h1) h2
   split at h
   · refine U v (D5 h t w) ?_
     unfold Ca at h
     split at h
     · split at h<;>first|(cases h;exact .int _ _)|cases h
     · cases h
   · refine U v (D5 h t w) ?_
     unfold Ca at h
     split at h
     · split at h<;>first|(cases h;exact .int _ _)|cases h
     · cases h
   · cases hk:vO k k' with
     |false=>rw[hk]at h;cases h
     |true=>
      rw[hk]at h
      simp only[cond_true]at h
      obtain rfl:=ve hk
      refine U v (LF h t w) ?_
      unfold Hu at h
      split at h<;>first|(cases h;first|exact .int _ _|exact .bool _)|skip
      · cases hy:km b 0<;>rw[hy]at h<;>cases h;exact .int _ _
      · cases hy:km b 0<;>rw[hy]at h<;>cases h;exact .int _ _
      all_goals first|(cases h;done)|(obtain⟨r,_,rfl⟩:=Option.map_eq_some_iff.1 h;exact .int _ _)
 · rename_i a b
   obtain rfl:=rx.kS
   obtain rfl:=j.kS
   have o:=zv (P:=P) (op:=op) (t:=t) (xo:=xo) (yo:=yo) (x:=.string a) (y:=.string b) (fun c d h=>by cases h.1) (fun h=>by cases h.1) w
   refine iC.pure H (v':=v) ?_ ?_
   · rw[fw o]
     have:=Pn h P w
     have e:binOp op t (.string a) (.string b)=Op.stringOp op a b:=by cases op<;>rfl
     rw[e];exact this
   · unfold D4 at h
     split at h<;>first|(cases h;done)|(cases h;exact .bool _)|skip
     cases hb:(Nat.blt (strs a).length 1073741824&&Nat.blt (strs b).length 1073741824)<;>rw[hb]at h<;>cases h
     exact .string _
 · rename_i h1 h2
   cases hg:Fk T t xo yo x y with
   |false=>rw[hg]at h;cases h
   |true=>
    rw[hg]at h
    simp only[cond_true]at h
    have o:=Ky ok (op:=op) hg rx j w
    have C:∀k a k' b,¬(x'=.int k a/\y'=.int k' b):=by
     rintro k a k' b ⟨rfl,rfl⟩
     cases rx;cases j;exact h1 _ _ _ _ rfl rfl
    have I:∀a b,¬(x'=.string a/\y'=.string b):=by
     rintro a b ⟨rfl,rfl⟩
     cases rx;cases j;exact h2 _ _ rfl rfl
    have R:∀k b,x'≠.float k b:=by rintro k b rfl;cases rx
    have J:∀k b c,x'≠.complex k b c:=by rintro k b c rfl;cases rx
    split at h
    · obtain⟨b,hb,rfl⟩:=Option.map_eq_some_iff.1 h
      refine iC.pure H (v':=.bool b) ?_ (.bool _)
      rw[fw o]
      have e:binOp .eql t x' y'=(do pure (.bool (<-Op.equal t x' y'))):=by
       unfold binOp
       split<;>first|rfl|contradiction|(exfalso;first|exact C _ _ _ _ ⟨rfl,rfl⟩|exact I _ _ ⟨rfl,rfl⟩|exact R _ _ rfl|exact J _ _ _ rfl)
      rw[e,fw (show(Op.equal t x' y').run P w=.ok b w from D6 ok 12 Op.maxDepth t x y x' y' b (by decide) hb rx j)]
      rfl
    · obtain⟨b,hb,rfl⟩:=Option.map_eq_some_iff.1 h
      refine iC.pure H (v':=.bool (!b)) ?_ (.bool _)
      rw[fw o]
      have e:binOp .neq t x' y'=(do pure (.bool (!(<-Op.equal t x' y')))):=by
       unfold binOp
       split<;>first|rfl|contradiction|(exfalso;first|exact C _ _ _ _ ⟨rfl,rfl⟩|exact I _ _ ⟨rfl,rfl⟩|exact R _ _ rfl|exact J _ _ _ rfl)
      rw[e,fw (show(Op.equal t x' y').run P w=.ok b w from D6 ok 12 Op.maxDepth t x y x' y' b (by decide) hb rx j)]
      rfl
    · cases h
def WM(op:UnOp)(x:Value):Option Value:=
 match op,x with
 |.neg,.int k m=>some (.int k (gD k (0-m)))
 |.not,.bool b=>some (.bool (!b))
 |.xor,.int .u64 m=>some (.int .u64 (wV .u64 (Nat.xor 18446744073709551615 (qO .u64 m))))
 |.xor,.int .u32 m=>some (.int .u32 (wV .u32 (Nat.xor 4294967295 (qO .u32 m))))
 |_,_=>none
theorem QX(H:gu B0 w0 g hp nx w){op:UnOp}{x x' v:Value}(h:WM op x=some v)(rx:fQ g x x'):iC B0 w0 g hp nx n w ((Op.unary op x').run P w) (v,[],0):=by
 unfold WM at h
 split at h
 · rename_i k m
   cases h;obtain rfl:=rx.kQ
   refine iC.pure H ?_ (.int _ _)
   rw[tt];rfl
 · cases h;obtain rfl:=rx.rK
   exact iC.pure H rfl (.bool _)
 · rename_i m
   cases h;obtain rfl:=rx.kQ
   refine iC.pure H ?_ (.int _ _)
   exact uI (op:=.xor) (k:=.u64) (x:=18446744073709551615) (y:=m) rfl P w
 · rename_i m
   cases h;obtain rfl:=rx.kQ
   refine iC.pure H ?_ (.int _ _)
   exact uI (op:=.xor) (k:=.u32) (x:=4294967295) (y:=m) rfl P w
 · cases h
def CY(T:Ty)(t:TypeId)(x:Value):Option Value:=
 match T.ji t with
 |some (.interface _)=>none
 |some _=>some (.iface t x)
 |none=>none
theorem Gr(ok:T.Ok P)(H:gu B0 w0 g hp nx w){t:TypeId}{x x' v:Value}(h:CY T t x=some v)(rx:fQ g x x'):iC B0 w0 g hp nx n w ((Instr.makeInterface t x').run P w) (v,[],0):=by
 unfold CY at h
 split at h
 · cases h
 · rename_i d hn hu
   cases h
   refine iC.pure H ?_ (.iface rx)
   unfold Instr.makeInterface
   rw[fw (ok.gS hu w)]
   cases d<;>first|rfl|exact(hn _ rfl).elim
 · cases h
def D7(fn:Fn)(x y:Array Value):Option Value:=
 match fn with
 |.func _=>some (.func fn x y)
 |.method _=>some (.func fn x y)
 |_=>none
theorem Hw(H:gu B0 w0 g hp nx w){fn:Fn}{x y x' y':Array Value}{v:Value}(h:D7 fn x y=some v)(rx:r5 g x x')(j:r5 g y y'):iC B0 w0 g hp nx n w ((Instr.makeFunc fn x' y').run P w) (v,[],0):=by
 unfold D7 at h
 split at h
 · cases h;exact iC.pure H rfl (.func rx.1 j.1 rx.2 j.2)
 · cases h;exact iC.pure H rfl (.method rx.1 j.1 rx.2 j.2)
 · cases h
def Gs(x:Value)(i:Nat):Option Value:=
 match x with
 |.tuple vs=>vs.toList[i]?
 |_=>none
theorem IT(H:gu B0 w0 g hp nx w){x x' v:Value}{i:Nat}(h:Gs x i=some v)(rx:fQ g x x'):iC B0 w0 g hp nx n w ((Instr.extract x' i).run P w) (v,[],0):=by
 unfold Gs at h
 split at h
 · obtain⟨j,rfl,hx⟩:=rx.DV
   obtain⟨v',h1,h2⟩:=hx.toList.get h
   have:j[i]?=some v':=by simpa using h1
   refine iC.pure H (v':=v') ?_ h2
   simp only[Instr.extract,this]
   rfl
 · cases h
def lA(c a b:Value):Option Value:=
 match c with
 |.bool true=>some a
 |.bool false=>some b
 |_=>none
def D8(x:Value):Option Value:=
 match x with
 |.pointer (some _)=>some x
 |.func (.func _) _ _=>some x
 |.func (.yield _) _ _=>some x
 |.iface _ _=>some x
 |_=>none
def Gt(T:Ty)(hp:Hp)(t:TypeId)(x:Value):Option Value:=
 match T.ji t,x with
 |some .string,.string s=>some (.int .i64 (.ofNat s.data.toList.length))
 |some (.array k _),_=>some (.int .i64 (.ofNat k))
 |some (.slice _),.slice _ l _=>some (.int .i64 (.ofNat l))
 |some (.map _ _),.map none=>some (.int .i64 0)
 |some (.map _ _),.map (some r)=>match hp r with
  |some (.map es _)=>some (.int .i64 (.ofNat es.length))
  |_=>none
 |_,_=>none
theorem gu.zW(H:gu B0 w0 g hp nx w){b:Nat}{es:List MapEntry}{c:Nat}(h:hp b=some (.map es c)){rb ro:Nat}(hb:g.gb b=some (rb,ro)):
 ∃j,ro=0/\w.heap[rb]?=some (.map j c)/\B0<=rb/\kN g es j.toList:=by
 obtain⟨jq,a2,a3⟩:=(H.live b _ h).2 _ _ hb
 cases jq<;>first|exact a3.elim|skip
 obtain⟨rfl,o,rfl,C⟩:=a3
 exact⟨_,rfl,a2,o,C⟩
theorem nZ{r:Nat}{o:Obj}(h:w.heap[r]?=some o)(hc:∀c e f,o≠.cells c e f):(getObj r).run P w=.ok o w:=by
 unfold getObj
 simp only[Sem.run,h]
 all_goals (cases o<;>first|exact(hc _ _ _ rfl).elim|rfl)
theorem Ps(ok:T.Ok P)(H:gu B0 w0 g hp nx w){t:TypeId}{ts:Array TypeId}(o:ts[0]?=some t){x x' v:Value}(h:Gt T hp t x=some v)(rx:fQ g x x')(args:Array Value)(j:args[0]?=some x')(ty:TypeId):
 iC B0 w0 g hp nx n w ((Builtin.len_ ts ty args).run P w) (v,[],0):=by
 unfold Gt at h
 split at h
 · rename_i s hu
   cases h;obtain rfl:=rx.kS
   refine iC.pure H ?_ (.int _ _)
   simp only[Builtin.len_,o,j]
   rw[fw (ok.gS hu w)]
   show Result.ok _ w=_
   unfold goInt
   rw[Array.length_toList];rfl
 · rename_i k el hu
   cases h
   refine iC.pure H ?_ (.int _ _)
   simp only[Builtin.len_,o,j]
   rw[fw (ok.gS hu w)]
   cases x'<;>rfl
 · rename_i el a l c hu
   cases h
   refine iC.pure H ?_ (.int _ _)
   simp only[Builtin.len_,o,j]
   rw[fw (ok.gS hu w)]
   cases rx<;>rfl
 · rename_i hu
   cases h;obtain rfl:=rx.pX
   refine iC.pure H ?_ (.int _ _)
   simp only[Builtin.len_,o,j]
   rw[fw (ok.gS hu w)]
   rfl
 · rename_i r hu
   split at h
   · rename_i es c hr
     cases h
     obtain⟨rr,hg,rfl⟩:=rx.vE
     obtain⟨C,_,a2,_,a4⟩:=H.zW hr hg
     refine iC.pure H ?_ (.int _ _)
     simp only[Builtin.len_,o,j]
     rw[fw (ok.gS hu w)]
     simp only
     rw[fw (nZ a2 (fun _ _ _ h=>by cases h))]
     show Result.ok _ w=_
     unfold goInt
     rw[a4.1,Array.length_toList];rfl
   · cases h
 · cases h
end
end
end Sw
namespace Sw
noncomputable section
open Go Go.RowKit
def Cb(b:UInt8):Value:=.int .u8 b.toNat
def pn(T:Ty)(xt:TypeId)(x:Value):Option (Nat×Bool):=
 match T.ji xt,x with
 |some (.int _),.int _ (.ofNat l)=>bif Nat.blt l 2147483648 then some (l,true)else none
 |some (.int _),_=>none
 |some _,.slice _ l _=>some (l,false)
 |some _,.string s=>some ((strs s).length,false)
 |_,_=>none
def lK(hp:Hp)(k:Nat)(x:Value):Option (List Value):=
 match x with
 |.slice (some ⟨b,off,none⟩) _ _=>match k with
  |0=>some []
  |_=>match hp b with
   |some (.cells cs _)=>lJ k (cs.drop off)
   |_=>none
 |.slice (some _) _ _=>match k with|0=>some []|_=>none
 |.slice none _ _=>some []
 |.string s=>lJ k ((strs s).map Cb)
 |_=>none
section
variable {T:Ty}{P:Program}{B0:Nat}{w0:World}{g:Gm}{hp:Hp}{nx n:Nat}{w:World}
theorem Cc(H:gu B0 w0 g hp nx w){k m size:Nat}{x x':Value}{l:List Value}(h:lK hp k x=some l)(rx:fQ g x x')(hk:k=m*size)(hs:∀s,x=.string s->size=1/\m<=(strs s).length)
 (hl:∀a l c,x=.slice a l c->m<=l):∃j,(Builtin.firstCells size m x').run P w=.ok j.toArray w/\gX g l j:=by
 have zero:∀a:Addr,m*size=0->(Builtin.firstCells size m (.slice (some a) 0 0)).run P w=.ok #[] w:=fun a h0=>by
  simp only[Builtin.firstCells]
  rw[h0];rfl
 unfold lK at h
 split at h
 · rename_i b off R J
   have hm:=hl _ _ _ rfl
   rcases rx.mK with⟨a2,rfl,rfl,rfl⟩|⟨_,rb,ro,c2,hg,_,_,rfl⟩
   · have I:m=0:=by omega
     subst I
     simp only[Nat.zero_mul]at hk
     subst hk
     cases h
     exact⟨[],zero a2 (by omega),gX.nil g⟩
   · split at h
     · cases h
       refine⟨[],?_,gX.nil g⟩
       simp only[Builtin.firstCells]
       rw[<-hk];rfl
     · split at h
       · rename_i cs U hb
         obtain⟨j,h1,h2⟩:=H.loadCells (P:=P) hb hg h
         refine⟨j,?_,h2⟩
         simp only[Builtin.firstCells]
         rw[<-hk];exact h1
       · cases h
 · split at h
   · cases h
     refine⟨[],?_,gX.nil g⟩
     rcases rx.mK with⟨a2,rfl,rfl,rfl⟩|⟨_,rb,ro,c2,hg,_,_,rfl⟩<;>
     · simp only[Builtin.firstCells]
       rw[<-hk];rfl
   · cases h
 · cases h
   obtain⟨_,_,rfl⟩:=rx.lT
   exact⟨[],rfl,gX.nil g⟩
 · rename_i s
   obtain rfl:=rx.kS
   obtain⟨h1,h2⟩:=hs s rfl
   subst h1
   simp only[Nat.mul_one]at hk
   subst hk
   obtain⟨rfl,_⟩:=vI _ _ _ h
   refine⟨((strs s).map Cb).take k,?_,?_⟩
   · simp only[Builtin.firstCells]
     have:(s.extract 0 k).data.map (fun b=>(Value.int .u8 b.toNat))=(((strs s).map Cb).take k).toArray:=by
      rw[zL]
      unfold strs
      simp only[List.drop_zero,Nat.sub_zero,List.map_toArray,<-List.map_take]
      rfl
     rw[this];rfl
   · refine⟨rfl,fun i v v' e o=>?_⟩
     rw[e]at o;cases o
     rw[List.getElem?_take]at e
     split at e
     · rw[List.getElem?_map]at e
       cases C:(strs s)[i]? with
       |none=>rw[C]at e;cases e
       |some b=>rw[C]at e;cases e;exact .int _ _
     · cases e
 · cases h
theorem gX.Vw{x x':List Value}(h:gX g x x')(o:x.all one=true):∀v∈x',one v=true:=by
 rw[List.all_eq_true]at o
 intro v' C
 obtain⟨i,hi,e⟩:=List.mem_iff_getElem.1 C
 have j:i<x.length:=by rw[h.1];exact hi
 have:=h.2 i x[i] x'[i] (List.getElem?_eq_getElem j) (List.getElem?_eq_getElem hi)
 rw[e]at this
 rw[<-this.one]
 exact o _ (List.getElem_mem j)
theorem QY(m:Nat):∀(r c:Nat),c<=2*m+192->Builtin.growBy m r c<=2*m+192:=by
 intro r
 induction r with
 |zero=>intro c h;exact h
 |succ r ih=>
  intro c h
  unfold Builtin.growBy
  split
  · exact h
  · exact ih _ (by omega)
theorem nextslicecap_le{m c:Nat}(h:c<m):Builtin.nextslicecap m c<=2*m+192:=by
 unfold Builtin.nextslicecap
 split
 · omega
 · split
   · omega
   · exact QY m 4 c (by omega)
def tZ(size:Nat)(x:Value):Bool:=
 match x with
 |.string _=>Nat.beq size 1
 |_=>true
def ml(hp:Hp)(z:Value)(m size:Nat)(mD:Bool)(x:Value):Option (List Value):=
 bif mD then some (kC m z.cells.toList)else bif tZ size x then lK hp (m*size) x else none
theorem D9{hp:Hp}{z:Value}{m size:Nat}{x:Value}{new:List Value}(h:ml hp z m size false x=some new):lK hp (m*size) x=some new/\∀s,x=.string s->size=1:=by
 unfold ml at h
 simp only[cond_false]at h
 cases hs:tZ size x with
 |false=>rw[hs]at h;cases h
 |true=>
  rw[hs]at h
  exact⟨h,fun s e=>by subst e;exact Nat.eq_of_beq_eq_true hs⟩
def beyond(f:Nat)(e:Mem):Bool:=Nat.blt f (e.base+e.len)
theorem D_{f:Nat}{e:Mem}(h:beyond f e=false):e.base+e.len<=f:=by
 unfold beyond at h
 have:¬f<e.base+e.len:=fun k=>by rw[mq.2 k]at h;cases h
 omega
def pC(hp:Hp)(base:Option Addr)(l size:Nat)(new:List Value)(m n:Nat):Option pR:=
 match base with
 |none=>some (.slice (some ⟨n+1,0,none⟩) (l+m) (l+m),
   [(n,some (jM.group [⟨n+1,0,new.length⟩])),(n+1,some (jM.cells new ⟨false,some n,0,size⟩))],2)
 |some ⟨b,off,none⟩=>match hp b with
  |some (.cells cs mt)=>(match l*size with|0=>some []|k=>lJ k (cs.drop off)).bind fun j=>match mt.mu with
   |none=>some (.slice (some ⟨n+1,0,none⟩) (l+m) (l+m),
     [(n,some (jM.group [⟨n+1,0,(j++new).length⟩])),(n+1,some (jM.cells (j++new) ⟨false,some n,0,size⟩))],2)
   |some gr=>match hp gr with
    |some (.group ms)=>
     bif (!mt.ro&&Nat.beq mt.unit size)&&nT hp (beyond (mt.base+off+l*size)) ms then
      some (.slice (some ⟨n,0,none⟩) (l+m) (l+m),
       mN (beyond (mt.base+off+l*size)) ms++[(gr,some (jM.group ((ms.filter fun e=>!(beyond (mt.base+off+l*size) e))++([⟨n,mt.base+off,(j++new).length⟩]:List Mem)))),
        (n,some (jM.cells (j++new) ⟨false,some gr,mt.base+off,size⟩))],1)
     else none
    |_=>none
  |_=>none
 |_=>none
def jZ(T:Ty)(hp:Hp)(st xt:TypeId)(s x:Value)(n:Nat):Option pR:=
 match T.ji st,s with
 |some (.slice el),.slice base l c=>
  match T.size el,T.zero el,T.info el,pn T xt x with
  |some size,some z,some inf,some (m,mD)=>
   (ml hp z m size mD x).bind fun new=>
     bif new.all one&&(Nat.ble ((l+m)*inf.bytes) 70368744177664&&(Nat.ble inf.bytes 1073741824&&Nat.ble (l+m) 70368744177664))then
      (bif Nat.ble (l+m) c then
        (match base,new with
        |_,[]=>some (.slice base (l+m) c,[],0)
        |some ⟨b,off,none⟩,new=>match hp b with
         |some (.cells cs mt)=>(nU hp b cs mt (off+l*size) new).map fun u=>(.slice base (l+m) c,u,0)
         |_=>none
        |_,_=>none)
      else pC hp base l size new m n)
     else none
  |_,_,_,_=>none
 |_,_=>none
theorem Hx{xt:TypeId}{x x':Value}{m:Nat}{mD:Bool}(h:pn T xt x=some (m,mD))(rx:fQ g x x')(w:World):
 ∃d,T.ji xt=some d/\(match d with|.int _=>true|_=>false)=mD/\
  (mD=true->∃k,x'=.int k (m:Int)/\m<2147483648)/\(mD=false->(Builtin.lenOf x').run P w=.ok m w/\(∀s,x=.string s->m=(strs s).length)/\∀a l c,x=.slice a l c->m=l):=by
 unfold pn at h
 split at h
 · rename_i j kx l hu
   cases hb:Nat.blt l 2147483648 with
   |false=>rw[hb]at h;cases h
   |true=>
    rw[hb]at h
    cases h
    obtain rfl:=rx.kQ
    exact⟨_,hu,rfl,fun _=>⟨_,rfl,mq.1 hb⟩,fun h=>by cases h⟩
 · cases h
 · rename_i d a l c hn hu
   cases h
   refine⟨d,hu,?_,fun h=>(by cases h),fun _=>⟨?_,fun s h=>(by cases h),fun a l c h=>(by cases h;rfl)⟩⟩
   · cases d<;>first|rfl|exact(hn _ rfl).elim
   · cases rx<;>rfl
 · rename_i d s hn hu
   cases h
   refine⟨d,hu,?_,fun h=>(by cases h),fun _=>⟨?_,fun s h=>(by cases h;rfl),fun a l c h=>(by cases h)⟩⟩
   · cases d<;>first|rfl|exact(hn _ rfl).elim
   · obtain rfl:=rx.kS
     show Result.ok _ w=_
     rw[show(strs s).length=s.size from by unfold strs;rw[Array.length_toList];rfl]
 · cases h
theorem Cd(ok:T.Ok P){el:TypeId}{z:Value}{size:Nat}(C:T.zero el=some z)(I:z.cells.size=size)(H:gu B0 w0 g hp nx w){m:Nat}{mD:Bool}{x x':Value}{new:List Value}
 (h:ml hp z m size mD x=some new) (rx:fQ g x x') (hn:mD=false->(∀s,x=.string s->m=(strs s).length)/\∀a l c,x=.slice a l c->m=l):
 ∃j,((if !mD then Builtin.firstCells size m x' else if m*size=0 then pure #[]else do pure (Builtin.zeroCells (<-zeroValue el).cells m):Sem (Array Value))).run P w=.ok j.toArray w/\gX g new j/\(mD=true->new.length=m*size):=by
 cases mD with
 |true=>
  unfold ml at h
  simp only[cond_true,Option.some.injEq]at h
  subst h
  have hl:∀k,(kC k z.cells.toList).length=k*size:=fun k=>by
   induction k with
   |zero=>simp[kC]
   |succ k ih=>simp only[kC,List.length_append,ih,Array.length_toList,I];rw[Nat.succ_mul];omega
  refine⟨kC m z.cells.toList,?_,(gX.Bj (ok.qN C)).kC m,fun _=>hl m⟩
  simp only[Bool.not_true,Bool.false_eq_true,if_false]
  by_cases h0:m*size=0
  · rw[if_pos h0]
    have:=hl m
    rw[h0]at this
    rw[List.length_eq_zero_iff.1 this]
    rfl
  · rw[if_neg h0,fw (ok.pZ C w)]
    have:Builtin.zeroCells z.cells m=(kC m z.cells.toList).toArray:=by
     unfold Builtin.zeroCells
     rw[<-B_ z.cells m]
    rw[this];rfl
 |false=>
  obtain⟨h,o⟩:=D9 h
  obtain⟨h1,h2⟩:=hn rfl
  obtain⟨U,J,R⟩:=Cc (P:=P) H h rx rfl (fun s e=>⟨o s e,by rw[h1 s e];exact Nat.le_refl _⟩) (fun a l c e=>by rw[h2 a l c e];exact Nat.le_refl _)
  exact⟨U,by simpa using J,R,fun h=>by cases h⟩
structure Ce(T:Ty)(P:Program)(st xt el:TypeId)(size:Nat)(qP:Array TypeId)(n9:Array Value)(base:Option Addr)(l c m:Nat)(x':Value)(mD:Bool)(inf:TypeInfo):Prop where
 ji:T.ji st=some (.slice el)
 size:T.size el=some size
 YP:qP[0]?=some st
 U4:qP[1]?=some xt
 a0:n9[0]?=some (.slice base l c)
 a1:n9[1]?=some x'
 xd:∃d,T.ji xt=some d/\(match d with|.int _=>true|_=>false)=mD
 YQ:mD=true->∃k,x'=.int k (m:Int)/\m<2147483648
 len:mD=false->∀w,(Builtin.lenOf x').run P w=.ok m w
 Bm:T.info el=some inf
 small:(l+m)*inf.bytes<=70368744177664/\inf.bytes<=1073741824/\l+m<=70368744177664
theorem wrap_small{m:Nat}(h:m<2147483648):IntKind.i64.wrap (m:Int)=m:=by
 have:=tt .i64 (m:Int)
 rw[<-this]
 show gD .i64 (.ofNat m)=_
 unfold gD
 have hr:qO .i64 (.ofNat m)=m:=by
  show m%18446744073709551616=m
  exact Nat.mod_eq_of_lt (by omega)
 rw[hr]
 unfold wV
 have:Nat.ble (zR .i64) m=false:=by
  cases hb:Nat.ble (zR .i64) m with
  |false=>rfl
  |true=>have:=Nat.le_of_ble_eq_true hb;simp only[zR]at this;omega
 rw[this];rfl
theorem Ce.fits(ok:T.Ok P){st xt el:TypeId}{size:Nat}{qP:Array TypeId}{n9:Array Value}{base:Option Addr}{l c m:Nat}{x':Value}{mD:Bool}{inf:TypeInfo}
 (A:Ce T P st xt el size qP n9 base l c m x' mD inf) {C:List Value}
 (hn:((if !mD then Builtin.firstCells size m x' else if m*size=0 then pure #[]else do pure (Builtin.zeroCells (<-zeroValue el).cells m):Sem (Array Value))).run P w=.ok C.toArray w) (j:l+m<=c) (ty:TypeId) {w':World}
 (I:∀a,base=some a->(storeCells (a.add (l*size)) C).run P w=.ok () w') (o:base=none->w'=w):
 (Builtin.append_ qP ty n9).run P w=.ok (.slice base (l+m) c) w':=by
 obtain⟨d,hd,J⟩:=A.xd
 unfold Builtin.append_
 simp only[A.YP,A.U4,A.a0,A.a1]
 rw[fw (ok.gS A.ji w)]
 simp only
 rw[fw (ok.nS A.size w),fw (ok.gS hd w),pure_bind]
 cases mD with
 |true=>
  cases d<;>first|(cases J;done)|skip
  obtain⟨k,rfl,hk⟩:=A.YQ rfl
  simp only[if_true,asInt,asIntOf,pure_bind,wrap_small hk]
  rw[if_neg (by omega),fw (ok.rM A.Bm w),if_neg (by
   have h1:m*inf.bytes<=(l+m)*inf.bytes:=Nat.mul_le_mul_right _ (by omega)
   have:=A.small.1
   have h2:((m:Int)*(inf.bytes:Int))=((m*inf.bytes:Nat):Int):=by rw[Int.natCast_mul]
   rw[h2];omega)]
  simp only[Int.toNat_natCast,if_pos j]
  rw[fw hn]
  cases base with
  |none=>rw[o rfl];rfl
  |some a=>simp only;rw[fw (I a rfl)];rfl
 |false=>
  have hl:=A.len rfl w
  split
  · cases J
  · simp only[Bool.false_eq_true,if_false]
    rw[fw hl,if_pos j,fw hn]
    cases base with
    |none=>rw[o rfl];rfl
    |some a=>simp only;rw[fw (I a rfl)];rfl
theorem Cf(gm c:Nat)(el:TypeId)(w:World):∃t,gm<=t/\(choose (.appendCap gm c el)).run P w=.ok t w.drew:=
 ⟨gm+(w.tape w.drawn (.appendCap gm c el))%(2^63-gm),Nat.le_add_right _ _,rfl⟩
theorem run_askRoom(b:Nat)(w:World):(askRoom b).run P w=.ok () w:=by
 unfold askRoom
 split<;>rfl
theorem Ce.U5(ok:T.Ok P){st xt el:TypeId}{size:Nat}{qP:Array TypeId}{n9:Array Value}{base:Option Addr}{l c m:Nat}{x':Value}{mD:Bool}{inf:TypeInfo}
 (A:Ce T P st xt el size qP n9 base l c m x' mD inf) {C o:List Value} {z:Value} (ae:T.zero el=some z)
 (hn:((if !mD then Builtin.firstCells size m x' else if m*size=0 then pure #[]else do pure (Builtin.zeroCells (<-zeroValue el).cells m):Sem (Array Value))).run P w.drew=.ok o.toArray w.drew)
 (ad:(Builtin.firstCells size l (.slice base l c)).run P w.drew=.ok C.toArray w.drew) (ab:c<l+m) (ty:TypeId):
 ∃t,l+m<=t/\(Builtin.append_ qP ty n9).run P w=.ok (.slice (some ⟨w.heap.size,0,none⟩) (l+m) t) (w.drew.alloc (.cells (C++o++kC (t-(l+m)) z.cells.toList).toArray el)):=by
 obtain⟨d,hd,aa⟩:=A.xd
 obtain⟨t,af,R⟩:=Cf (P:=P) (l+m) c el w
 have U:∀k,Builtin.zeroCells z.cells k=(kC k z.cells.toList).toArray:=fun k=>by
  unfold Builtin.zeroCells;rw[<-B_ z.cells k]
 refine⟨t,af,?_⟩
 have I:¬(((l+m:Nat):Int)>IntKind.i64.max):=fun h1=>by
  have h2:=A.small.2.2
  have h3:IntKind.i64.max=9223372036854775807:=by decide
  rw[h3]at h1
  omega
 have J:¬(Builtin.nextslicecap (l+m) c*inf.bytes>2^48):=fun h=>by
  have h1:=nextslicecap_le ab
  obtain⟨s1,s2,_⟩:=A.small
  have h2:Builtin.nextslicecap (l+m) c*inf.bytes<=(2*(l+m)+192)*inf.bytes:=Nat.mul_le_mul_right _ h1
  have h3:(2*(l+m)+192)*inf.bytes=2*((l+m)*inf.bytes)+192*inf.bytes:=by rw[Nat.add_mul,Nat.mul_assoc]
  omega
 unfold Builtin.append_
 simp only[A.YP,A.U4,A.a0,A.a1]
 rw[fw (ok.gS A.ji w)]
 simp only
 rw[fw (ok.nS A.size w),fw (ok.gS hd w),pure_bind]
 have j:¬(l+m<=c):=by omega
 cases mD with
 |true=>
  cases d<;>first|(cases aa;done)|skip
  obtain⟨k,rfl,hk⟩:=A.YQ rfl
  simp only[if_true,asInt,asIntOf,pure_bind,wrap_small hk]
  rw[if_neg (by omega),fw (ok.rM A.Bm w),if_neg (by
   have h1:m*inf.bytes<=(l+m)*inf.bytes:=Nat.mul_le_mul_right _ (by omega)
   have:=A.small.1
   have h2:((m:Int)*(inf.bytes:Int))=((m*inf.bytes:Nat):Int):=by rw[Int.natCast_mul]
   rw[h2];omega)]
  simp only[Int.toNat_natCast,if_neg j]
  rw[fw (ok.rM A.Bm w),if_neg (fun h=>I h.1),fw (ok.rM A.Bm w),if_neg J,fw R,fw (ok.rM A.Bm w.drew),fw (run_askRoom _ _),fw ad,fw hn,fw (ok.pZ ae w.drew),fw (s4 _ _ _)]
  rw[U]
  simp
 |false=>
  have hl:=A.len rfl w
  split
  · cases aa
  · simp only[Bool.false_eq_true,if_false]
    rw[fw hl,if_neg j,fw (ok.rM A.Bm w),if_neg (fun h=>I h.1),fw (ok.rM A.Bm w),if_neg J,fw R,fw (ok.rM A.Bm w.drew),fw (run_askRoom _ _),fw ad,fw hn,fw (ok.pZ ae w.drew),fw (s4 _ _ _)]
    rw[U]
    simp
theorem Ea{α:Type}{k:Nat}{l r:List α}(h:lJ k l=some r):r.length=k:=by
 obtain⟨rfl,h2⟩:=vI _ _ _ h
 simp;omega
theorem AF{α:Type}(z:List α):∀k,(kC k z).length=k*z.length
 |0=>by simp[kC]
 |k+1=>by simp only[kC,List.length_append,AF z k];rw[Nat.succ_mul];omega
theorem LH{z:Value}{size m:Nat}{mD:Bool}{x x':Value}{new:List Value}(h:ml hp z m size mD x=some new)(j:z.cells.size=size)(rx:fQ g x x')
 (hn:mD=false->∀a l c,x=.slice a l c->m=l):new.length=m*size:=by
 cases mD with
 |true=>
  unfold ml at h
  simp only[cond_true,Option.some.injEq]at h
  subst h
  rw[AF,Array.length_toList,j]
 |false=>
  obtain⟨h,_⟩:=D9 h
  unfold lK at h
  split at h
  · split at h
    · rename_i h0
      cases h;simp;exact h0.symm
    · split at h
      · exact Ea h
      · cases h
  · split at h
    · rename_i h0;cases h;simp;exact h0.symm
    · cases h
  · rename_i l c
    cases h
    obtain⟨rfl,_,_⟩:=rx.lT
    have:=hn rfl _ _ _ rfl
    subst this;simp
  · exact Ea h
  · cases h
theorem gu.Gu(H:gu B0 w0 g hp nx w)(f0:CT g hp n)(f1:CT g hp (n+1)){fg:Nat}(h1:nx<=fg)(h2:n+2<=fg){cs lv rest:List Value}(hc:gX g cs lv)(el:TypeId)(unit:Nat):
 gu B0 w0 (g.add (n+1) (w.heap.size,0) (some ((lv++rest).length,unit))) ((hp.set n (some (.group [⟨n+1,0,cs.length⟩]))).set (n+1) (some (.cells cs ⟨false,some n,0,unit⟩))) fg (w.alloc (.cells (lv++rest).toArray el)):=by
 have H1:gu B0 w0 g (hp.set n (some (.group [⟨n+1,0,cs.length⟩]))) fg w:=H.Ln _ h1 (by omega) f0.gb (fun b cs m e k=>by
  obtain⟨ms,a1,_⟩:=H.mem b cs m n e k
  rw[f0.hp]at a1;cases a1)
 refine H1.alloc f1.gb f1.room (by rw[Hp.gP _ _ (by omega)];exact f1.hp) (Nat.le_refl _) (by omega) _ _ _ rfl ?_ ?_
 · refine⟨by simp[hc.1],fun i v v' e j=>?_,fun _=>⟨H.base,.inl rfl⟩,fun gr e=>?_,fun e=>by cases e⟩
   · have hi:i<cs.length:=(List.getElem?_eq_some_iff.1 e).1
     simp only[Nat.zero_add,List.getElem?_toArray]at j
     rw[List.getElem?_append,if_pos (by rw[<-hc.1];exact hi)]at j
     exact(hc.2 i v v' e j).mono (Gm.qM f1.gb _ _)
   · rw[Gm.sx]
     simp
 · intro o m1 gr e k
   cases e;cases k
   exact⟨_,Hp.jH _ _ _,List.mem_cons_self ..⟩
theorem gu.QZ(H:gu B0 w0 g hp nx w){gr:Nat}{ms:List Mem}(j:hp gr=some (.group ms)){ov:Mem->Bool}(J:nT hp ov ms=true)(f0:CT g hp n){fg:Nat}(h1:nx<=fg)(h2:n+1<=fg)
 {cs lv rest:List Value} (hc:gX g cs lv) (el:TypeId) (unit base:Nat):
 gu B0 w0 (g.add n (w.heap.size,0) (some ((lv++rest).length,unit))) (hp.tI (mN ov ms++[(gr,some (jM.group ((ms.filter fun e=>!(ov e))++([⟨n,base,cs.length⟩]:List Mem)))),(n,some (jM.cells cs ⟨false,some gr,base,unit⟩))])) fg
  (w.alloc (.cells (lv++rest).toArray el)):=by
 obtain⟨K,R,ab⟩:=H.BJ j ov (zu J) [⟨n,base,cs.length⟩]
 rw[Hp.CS]
 have I:((hp.tI (mN ov ms)).set gr (some (.group ((ms.filter fun e=>!(ov e))++[⟨n,base,cs.length⟩])))) n=none:=by
  have jG:n≠gr:=fun h=>by subst h;rw[f0.hp]at j;cases j
  rw[Hp.gP _ _ jG]
  cases e:(hp.tI (mN ov ms)) n with
  |none=>rfl
  |some o=>have:=(R n o e).1;rw[f0.hp]at this;cases this
 refine K.alloc f0.gb f0.room I h1 (by omega) _ _ _ rfl ?_ ?_
 · refine⟨by simp[hc.1],fun i v v' e C=>?_,fun _=>⟨H.base,.inl rfl⟩,fun gr e=>?_,fun e=>by cases e⟩
   · have hi:i<cs.length:=(List.getElem?_eq_some_iff.1 e).1
     simp only[Nat.zero_add,List.getElem?_toArray]at C
     rw[List.getElem?_append,if_pos (by rw[<-hc.1];exact hi)]at C
     exact(hc.2 i v v' e C).mono (Gm.qM f0.gb _ _)
   · rw[Gm.sx]
     simp
 · intro U m1 aa e k
   cases e;cases k
   exact⟨_,Hp.jH _ _ _,List.mem_append.2 (.inr (List.mem_cons_self ..))⟩
end
end
end Sw
namespace Sw
noncomputable section
open Go Go.RowKit
section
variable {T:Ty}{P:Program}{B0:Nat}{w0:World}{g:Gm}{hp:Hp}{nx n:Nat}{w:World}
theorem gu.ym(H:gu B0 w0 g hp nx w){b off:Nat}{cs o:List Value}{mt:gl}(hb:hp b=some (.cells cs mt)){l size c2:Nat}{I:Option Addr}
 (j:(match l*size with|0=>some []|k=>lJ k (cs.drop off))=some o) (hs:(∃a2,l=0/\I=some a2)\/∃rb ro,g.gb b=some (rb,ro)/\I=some ⟨rb,ro+off,none⟩):
 o.length=l*size/\∃C,(Builtin.firstCells size l (.slice I l c2)).run P w=.ok C.toArray w/\gX g o C:=by
 by_cases h0:l*size=0
 · rw[h0]at j
   simp only at j
   cases j
   refine⟨by simp[h0],[],?_,gX.nil g⟩
   rcases hs with⟨a2,_,rfl⟩|⟨rb,ro,_,rfl⟩<;>
   · simp only[Builtin.firstCells]
     rw[h0];rfl
 · obtain⟨k,hk⟩:∃k,l*size=k+1:=⟨l*size-1,by omega⟩
   rw[hk]at j
   simp only at j
   refine⟨by rw[hk];exact Ea j,?_⟩
   rcases hs with⟨a2,rfl,_⟩|⟨rb,ro,hg,rfl⟩
   · simp at h0
   · obtain⟨J,h1,h2⟩:=H.loadCells (P:=P) hb hg j
     refine⟨J,?_,h2⟩
     simp only[Builtin.firstCells]
     rw[hk];exact h1
theorem Pt{cs o:List Value}{off k:Nat}(j:(match k with|0=>some []|k=>lJ k (cs.drop off))=some o):∀i v,o[i]?=some v->cs[off+i]?=some v/\i<k:=by
 intro i v e
 cases k with
 |zero=>simp only at j;cases j;simp at e
 |succ k=>
  simp only at j
  obtain⟨rfl,_⟩:=vI _ _ _ j
  rw[List.getElem?_take]at e
  split at e
  · rename_i hi
    exact⟨by simpa using e,hi⟩
  · cases e
theorem Kz(ok:T.Ok P)(H:gu B0 w0 g hp nx w){st xt:TypeId}{s bg x x':Value}{e:pR}(h:jZ T hp st xt s x n=some e)(rs:fQ g s bg)(rx:fQ g x x')
 {qP:Array TypeId} {n9:Array Value} (t0:qP[0]?=some st) (t1:qP[1]?=some xt) (a0:n9[0]?=some bg) (a1:n9[1]?=some x') (ty:TypeId):
 iC B0 w0 g hp nx n w ((Builtin.append_ qP ty n9).run P w) e:=by
 unfold jZ at h
 split at h
 · rename_i el base l c hu
   split at h
   · rename_i size z inf m mD aB ax pa bh
     obtain⟨new,av,h⟩:=Option.bind_eq_some_iff.1 h
     cases hb:(new.all one&&(Nat.ble ((l+m)*inf.bytes) 70368744177664&&(Nat.ble inf.bytes 1073741824&&Nat.ble (l+m) 70368744177664)))with
     |false=>rw[hb]at h;cases h
     |true=>
      rw[hb]at h
      simp only[cond_true]at h
      simp only[Bool.and_eq_true]at hb
      obtain⟨aw,b1,b2,a6⟩:=hb
      have b1:=Nat.le_of_ble_eq_true b1
      have b2:=Nat.le_of_ble_eq_true b2
      have a6:=Nat.le_of_ble_eq_true a6
      obtain⟨d,hd,bj,bd,hlen⟩:=Hx (P:=P) bh rx w
      have aq:z.cells.size=size:=by
       have h1:inf.zero=some z:=by
        unfold Ty.zero at ax;rw[pa]at ax;exact ax
       have h2:=ok.U3 el inf z pa h1
       unfold Ty.size at aB;rw[pa]at aB;cases aB;exact h2
      have aA:new.length=m*size:=LH av aq rx (fun hf=>(hlen hf).2.2)
      have aT:∀w,mD=false->(Builtin.lenOf x').run P w=.ok m w:=fun bG hf=>by
       obtain⟨_,_,_,_,q⟩:=Hx (P:=P) bh rx bG
       exact(q hf).1
      have aN:mD=false->(∀s,x=.string s->m=(strs s).length)/\∀a l c,x=.slice a l c->m=l:=fun hf=>⟨(hlen hf).2.1,(hlen hf).2.2⟩
      have hr:∃I c2,bg=.slice I l c2/\c<=c2/\((base=none/\I=none/\l=0/\c=0/\c2=0)\/(∃a a2,base=some a/\I=some a2/\l=0/\c=0/\c2=0)\/
       ∃a rb ro,base=some a/\a.spot=none/\g.gb a.block=some (rb,ro)/\I=some ⟨rb,ro+a.off,none⟩/\l<=c/\Ff g a.block (ro+a.off) c c2):=by
       cases base with
       |none=>
        obtain⟨rfl,rfl,rfl⟩:=rs.lT
        exact⟨none,0,rfl,Nat.le_refl _,.inl ⟨rfl,rfl,rfl,rfl,rfl⟩⟩
       |some a=>
        rcases rs.mK with⟨a2,rfl,rfl,rfl⟩|⟨an,rb,ro,c2,hg,hl,hc,rfl⟩
        · exact⟨some a2,0,rfl,Nat.le_refl _,.inr (.inl ⟨a,a2,rfl,rfl,rfl,rfl,rfl⟩)⟩
        · exact⟨_,c2,rfl,by rcases hc with h|⟨h,_⟩<;>omega,.inr (.inr ⟨a,rb,ro,rfl,an,hg,rfl,hl,hc⟩)⟩
      obtain⟨I,c2,rfl,bJ,hr⟩:=hr
      have A:Ce T P st xt el size qP n9 I l c2 m x' mD inf:=⟨hu,aB,t0,t1,a0,a1,⟨d,hd,bj⟩,bd,fun hf w=>aT w hf,pa,b1,b2,a6⟩
      obtain⟨U,aJ,xF,_⟩:=Cd (P:=P) (w:=w) ok ax aq H av rx aN
      have a8:U.length=m*size:=by rw[<-xF.1];exact aA
      cases J:Nat.ble (l+m) c with
      |true=>
       rw[J]at h
       simp only[cond_true]at h
       have J:=Nat.le_of_ble_eq_true J
       split at h
       ·
        cases h
        have:U=[]:=by rw[<-List.length_eq_zero_iff,<-xF.1];rfl
        subst this
        have C:=A.fits (w':=w) ok aJ (by omega) ty (fun _ _=>rfl) (fun _=>rfl)
        refine iC.pure H C ?_
        rcases hr with⟨rfl,rfl,rfl,rfl,rfl⟩|⟨a,a2,rfl,rfl,rfl,rfl,rfl⟩|⟨a,rb,ro,rfl,an,hg,rfl,hl,hc⟩
        · have:0+m=0:=by omega
          rw[this];exact .pW
        · have:0+m=0:=by omega
          rw[this];exact .nY _ _
        · obtain⟨bO,bP,bH⟩:=a
          simp only at an;subst an
          exact .slice hg J hc
       · rename_i b off jG
         split at h
         · rename_i cs mt aa
           obtain⟨u,bn,rfl⟩:=Option.map_eq_some_iff.1 h
           have bM:m≠0:=fun h0=>jG (by rw[<-List.length_eq_zero_iff,aA,h0];simp)
           rcases hr with⟨R,_⟩|⟨a,a2,_,_,rfl,rfl,_⟩|⟨a,rb,ro,aF,an,hg,rfl,hl,hc⟩
           · cases R
           · omega
           · cases aF
             simp only at hg
             have ai:∀v∈new,one v=true:=by rw[List.all_eq_true]at aw;exact aw
             obtain⟨w',r1,r2,bt,bS⟩:=vK (P:=P) H aa hg bn xF ai
             have C:=A.fits (w':=w') ok aJ (by omega) ty (fun a aF=>by
              cases aF
              rw[Addr.tY]
              simp only[Nat.add_assoc]
              exact r1) (fun h=>by cases h)
             intro fg h1 h2 hf
             refine⟨g,_,w',C,Gm.le_refl g,fun _ h=>.inl h,?_,r2.An h1,bt,by omega,pk.refl _ _⟩
             exact .slice hg J hc
         · cases h
       · cases h
      |false=>
       rw[J]at h
       simp only[cond_false]at h
       have J:c<l+m:=by
        have:¬(l+m<=c):=fun k=>by rw[Nat.ble_eq_true_of_le k]at J;cases J
        omega
       have aD:gu B0 w0 g hp nx w.drew:=H.of_heap rfl rfl rfl rfl
       obtain⟨ae,aY,aH,_⟩:=Cd (P:=P) (w:=w.drew) ok ax aq aD av rx aN
       have a_:ae.length=m*size:=by rw[<-aH.1];exact aA
       unfold pC at h
       split at h
       ·
        cases h
        rcases hr with⟨_,rfl,rfl,rfl,rfl⟩|⟨a,a2,R,_⟩|⟨a,rb,ro,R,_⟩
        · have bC:(Builtin.firstCells size 0 (.slice none 0 0)).run P w.drew=.ok ([]:List Value).toArray w.drew:=rfl
          obtain⟨t,aO,C⟩:=A.U5 ok ax aY bC (by omega) ty
          intro fg h1 h2 hf
          have f0:=hf 0 (by show 0<2;omega)
          have f1:=hf 1 (by show 1<2;omega)
          have au:=aD.Gu f0 f1 h1 h2 aH (rest:=kC (t-(0+m)) z.cells.toList) el size
          simp only[List.nil_append]at C
          refine⟨_,_,_,C,Gm.qM f1.gb _ _,?_,?_,au,?_,by simp,pk.new⟩
          · intro b hb
            by_cases aG:b=n+1
            · exact .inr ⟨by omega,by show b<n+2;omega⟩
            · rw[Gm.jV _ _ _ aG]at hb;exact .inl hb
          · refine .slice (off:=0) (Gm.lQ _ _ _ _) (Nat.le_refl _) ?_
            by_cases h0:0+m=t
            · exact .inl h0
            · refine .inr ⟨by omega,_,_,Gm.sx _ _ _ _,?_⟩
              rw[List.length_append,AF,a_,show z.cells.toList.length=size from by rw[Array.length_toList,aq]]
              rw[<-Nat.add_mul]
              have:m+(t-(0+m))=t:=by omega
              rw[this];omega
          · exact fun rb ad hn=>(sZ.alloc w.drew _).other rb (by have:rb<w.heap.size:=ad;show rb≠w.heap.size;omega)
        · cases R
        · cases R
       · rename_i b off _
         split at h
         · rename_i cs mt aa
           obtain⟨ar,hold,h⟩:=Option.bind_eq_some_iff.1 h
           have bl:(∃a2,l=0/\I=some a2)\/∃rb ro,g.gb b=some (rb,ro)/\I=some ⟨rb,ro+off,none⟩:=by
            rcases hr with⟨R,_⟩|⟨a,a2,_,rfl,rfl,_⟩|⟨a,rb,ro,R,_,hg,rfl,_⟩
            · cases R
            · exact .inl ⟨a2,rfl,rfl⟩
            · cases R;exact .inr ⟨rb,ro,hg,rfl⟩
           obtain⟨ol,aj,bp,bq⟩:=aD.ym (P:=P) (c2:=c2) aa hold bl
           have aK:gX g (ar++new) (aj++ae):=bq.append aH
           have aL:(ar++new).length=(l+m)*size:=by rw[List.length_append,ol,aA,Nat.add_mul]
           have aU:(aj++ae).length=(l+m)*size:=by rw[<-aK.1];exact aL
           have grown:∀(af:c2<l+m),∃t,l+m<=t/\(Builtin.append_ qP ty n9).run P w=.ok (.slice (some ⟨w.heap.size,0,none⟩) (l+m) t) (w.drew.alloc (.cells ((aj++ae)++kC (t-(l+m)) z.cells.toList).toArray el)):=
            fun af=>A.U5 ok ax aY bp af ty
           have room:∀t,l+m<=t->((aj++ae)++kC (t-(l+m)) z.cells.toList).length=t*size:=fun t aO=>by
            rw[List.length_append,aU,AF,Array.length_toList,aq,<-Nat.add_mul]
            congr 1;omega
           split at h
           ·
            rename_i az
            cases h
            have af:c2<l+m:=by
             rcases hr with⟨R,_⟩|⟨a,a2,_,_,_,_,rfl⟩|⟨a,rb,ro,R,_,hg,_,_,hc⟩
             · cases R
             · omega
             · cases R
               rcases hc with hc|⟨_,rs,u,al,_⟩
               · omega
               · obtain⟨rc,bz,bA,bf,_,_,_,_,aQ⟩:=H.uG aa (by assumption)
                 rw[aQ az]at al;cases al
            obtain⟨t,aO,C⟩:=grown af
            intro fg h1 h2 hf
            have f0:=hf 0 (by show 0<2;omega)
            have f1:=hf 1 (by show 1<2;omega)
            have au:=aD.Gu f0 f1 h1 h2 aK (rest:=kC (t-(l+m)) z.cells.toList) el size
            refine⟨_,_,_,C,Gm.qM f1.gb _ _,?_,?_,au,?_,by simp,pk.new⟩
            · intro b hb
              by_cases aG:b=n+1
              · exact .inr ⟨by omega,by show b<n+2;omega⟩
              · rw[Gm.jV _ _ _ aG]at hb;exact .inl hb
            · refine .slice (off:=0) (Gm.lQ _ _ _ _) (Nat.le_refl _) ?_
              by_cases h0:l+m=t
              · exact .inl h0
              · refine .inr ⟨by omega,_,_,Gm.sx _ _ _ _,?_⟩
                rw[room t aO];simp
            · exact fun rb ad hn=>(sZ.alloc w.drew _).other rb (by have:rb<w.heap.size:=ad;show rb≠w.heap.size;omega)
           · rename_i gr ah
             split at h
             · rename_i ms qF
               cases ay:((!mt.ro&&Nat.beq mt.unit size)&&nT hp (beyond (mt.base+off+l*size)) ms)with
               |false=>rw[ay]at h;cases h
               |true=>
                rw[ay]at h
                simp only[cond_true]at h
                cases h
                rw[Bool.and_eq_true,Bool.and_eq_true]at ay
                obtain⟨⟨ag,aP⟩,az⟩:=ay
                have ag:mt.ro=false:=by simpa using ag
                have aP:=Nat.eq_of_beq_eq_true aP
                by_cases af:c2<l+m
                ·
                 obtain⟨t,aO,C⟩:=grown af
                 intro fg h1 h2 hf
                 have f0:=hf 0 (by show 0<1;omega)
                 have au:=aD.QZ qF az f0 h1 h2 aK (rest:=kC (t-(l+m)) z.cells.toList) el size (mt.base+off)
                 refine⟨_,_,_,C,Gm.qM f0.gb _ _,Gm.B8,?_,au,?_,by simp,pk.new⟩
                 · refine .slice (off:=0) (Gm.lQ _ _ _ _) (Nat.le_refl _) ?_
                   by_cases h0:l+m=t
                   · exact .inl h0
                   · refine .inr ⟨by omega,_,_,Gm.sx _ _ _ _,?_⟩
                     rw[room t aO];simp
                 · exact fun rb ad hn=>(sZ.alloc w.drew _).other rb (by have:rb<w.heap.size:=ad;show rb≠w.heap.size;omega)
                ·
                 rcases hr with⟨R,_⟩|⟨a,a2,_,_,_,_,rfl⟩|⟨a,rb,ro,R,_,hg,rfl,hl,hc⟩
                 · cases R
                 · omega
                 · cases R
                   simp only at hg hc
                   obtain⟨rc,bz,bA,bf,bQ,bD,aQ,bE,_⟩:=H.uG aa hg
                   rcases hc with hc|⟨_,rs,u,al,aS⟩
                   · omega
                   · have aV:=bE gr ah
                     rw[aV]at al;cases al
                     rw[aP]at aS
                     have bB:(l+m)*size<=c2*size:=Nat.mul_le_mul_right _ (by omega)
                     have bL:(l+m)*size=l*size+m*size:=Nat.add_mul _ _ _
                     have ai:=xF.Vw aw
                     obtain⟨w',r1,r2,bt⟩:=B7 (P:=P) (rb:=rb) (k:=ro+off+l*size) U 0 w rc bf (by omega) (aQ ag).2.free ai
                     simp only[Nat.add_zero]at r2
                     have C:=A.fits (w':=w') ok aJ (by omega) ty (fun a aF=>by cases aF;rw[Addr.tY];exact r1) (fun h=>by cases h)
                     intro fg h1 h2 hf
                     have f0:=hf 0 (by show 0<1;omega)
                     simp only[Nat.add_zero]at f0
                     obtain⟨K,br,bR⟩:=H.BJ qF (beyond (mt.base+off+l*size)) (zu az) [⟨n,mt.base+off,(ar++new).length⟩]
                     have bk:((hp.tI (mN (beyond (mt.base+off+l*size)) ms)).set gr (some (.group ((ms.filter fun e=>!(beyond (mt.base+off+l*size) e))++[⟨n,mt.base+off,(ar++new).length⟩])))) n=none:=by
                      have jG:n≠gr:=fun h=>by subst h;rw[f0.hp]at qF;cases qF
                      rw[Hp.gP _ _ jG]
                      cases e:(hp.tI (mN (beyond (mt.base+off+l*size)) ms)) n with
                      |none=>rfl
                      |some o=>have:=(br n o e).1;rw[f0.hp]at this;cases this
                     have bc:(rc.toList.take (ro+off+l*size)++U++rc.toList.drop (ro+off+l*size+U.length)).toArray.size=rc.size:=by simp;omega
                     have aZ:(rc.toList.take (ro+off+l*size)).length=ro+off+l*size:=by simp;omega
                     have aI:∀j,j<ro+off+l*size->(rc.toList.take (ro+off+l*size)++U++rc.toList.drop (ro+off+l*size+U.length)).toArray[j]?=rc[j]?:=fun j hj=>by
                      simp only[List.getElem?_toArray]
                      rw[List.append_assoc,List.getElem?_append,aZ,if_pos hj,List.getElem?_take,if_pos hj,Array.getElem?_toList]
                     have au:=K.WH (rb:=rb) (pos:=ro+off) (gr:=gr) (base:=mt.base+off) (unit:=size) bf r2 (aQ ag).1 (aQ ag).2 bc (n:=n) (fg:=fg) (lo:=ro+off+l*size) f0.gb bk h1 (by show n<fg;have:n+1<=fg:=h2;omega) (ar++new)
                      (by rw[aL];omega) (by
                        intro i v v' e aC
                        rw[List.getElem?_append,ol]at e
                        by_cases hi:i<l*size
                        · rw[if_pos hi]at e
                          rw[aI _ (by omega)]at aC
                          obtain⟨e3,_⟩:=Pt hold i v e
                          exact bD (off+i) v v' e3 (by rw[<-Nat.add_assoc];exact aC)
                        · rw[if_neg hi]at e
                          simp only[List.getElem?_toArray]at aC
                          rw[List.append_assoc,List.getElem?_append,aZ,if_neg (by omega),List.getElem?_append]at aC
                          have bK:i-l*size<new.length:=(List.getElem?_eq_some_iff.1 e).1
                          rw[if_pos (by rw[a8];omega),show ro+off+i-(ro+off+l*size)=i-l*size from by omega]at aC
                          exact xF.2 _ v v' e aC) aI (by
                        intro b1 o1 bs e1 e2
                        have a7:b1≠gr:=fun h=>by
                         subst h
                         have:=H.o7 _ _ qF
                         rw[this]at e2;cases e2
                        rw[Hp.gP _ _ a7]at e1
                        obtain⟨aW,bu⟩:=br b1 _ e1
                        by_cases aX:b1=b
                        · subst aX
                          rw[aa]at aW;cases aW
                          rw[hg]at e2;cases e2
                          obtain⟨bo,aR,z2⟩:=H.mem b1 cs mt gr aa ah
                          rw[qF]at aR;cases aR
                          cases ak:beyond (mt.base+off+l*size) ⟨b1,mt.base,cs.length⟩with
                          |true=>exact(bu _ z2 ak rfl).elim
                          |false=>
                           have:=D_ ak
                           simp only at this
                           exact⟨cs,mt,rfl,ah,by omega,by omega⟩
                        · have aM:=H.sep b1 b _ _ rb bs ro aX aW aa e2 hg
                          cases o1<;>first|exact aM.elim|skip
                          rename_i aE m1
                          rcases aM with⟨_,y⟩|⟨bI,bw,bx,bT⟩
                          · rw[ag]at y;cases y
                          · rw[ah]at bx;cases bx
                            obtain⟨bo,aR,z2⟩:=H.mem b1 aE m1 gr aW bw
                            rw[qF]at aR;cases aR
                            cases ak:beyond (mt.base+off+l*size) ⟨b1,m1.base,aE.length⟩with
                            |true=>exact(bu _ z2 ak rfl).elim
                            |false=>
                             have:=D_ ak
                             simp only at this
                             exact⟨aE,m1,rfl,bw,by omega,by omega⟩)
                      ⟨_,Hp.jH _ _ _,List.mem_append.2 (.inr (List.mem_cons_self ..))⟩
                     refine⟨_,_,w',C,Gm.qM f0.gb (rb,ro+off) (some (rc.size,size)),Gm.B8,?_,?_,?_,by omega,pk.add (.inl ⟨_,_,hg⟩)⟩
                     · have:=fQ.slice (g:=g.add n (rb,ro+off) (some (rc.size,size))) (b:=n) (off:=0) (rb:=rb) (ro:=ro+off) (l:=l+m) (c1:=l+m) (c2:=c2) (Gm.lQ _ _ _ _) (Nat.le_refl _) (by
                        by_cases h0:l+m=c2
                        · exact .inl h0
                        · exact .inr ⟨by omega,_,_,Gm.sx _ _ _ _,by omega⟩)
                       simpa using this
                     · rw[Hp.CS];exact au
                     · exact fun r bN hn=>by
                        by_cases ad:r=rb
                        · subst ad;exact(hn b _ ro aa hg).elim
                        · exact r2.other r ad
             · cases h
         · cases h
       · cases h
   · cases h
 · cases h
end
end
end Sw
namespace Sw
noncomputable section
open Go Go.RowKit
def Eb:Value->Value->Bool
 |.int k a,.int k' b=>vO k k'&&km a b
 |.string a,.string b=>wm (strs a) (strs b)
 |.bool a,.bool b=>(bif a then b else !b)
 |_,_=>false
def Cg:List Value->List Value->Bool
 |[],[]=>true
 |x::xs,y::j=>Eb x y&&Cg xs j
 |_,_=>false
def Bn:Value->Value->Bool
 |.agg a,.agg b=>Cg a.toList b.toList
 |a,b=>Eb a b
def K8(part:TypeId->Nat->Option Value)(rec:TypeId->Value->Bool):List Field->Bool
 |[]=>true
 |f::fs=>(match part f.type f.offset with
  |some p=>rec f.type p
  |none=>false)&&K8 part rec fs
def uU(T:Ty):Nat->TypeId->Value->Bool
 |0,_,_=>false
 |n+1,t,v=>
  match T.ji t,v with
  |some (.int _),_=>true
  |some .string,_=>true
  |some .bool,_=>true
  |some (.struct fs),.agg cs=>K8 (fun t off=>xE T t cs.toList off) (uU T n) fs.toList
  |_,_=>false
def rE(T:Ty)(kt:TypeId)(a b:Value):Option Bool:=
 match T.ji kt with
 |some (.int _)=>(match a,b with
  |.int k x,.int k' y=>bif vO k k' then some (km x y)else none
  |_,_=>none)
 |some .string=>(match a,b with
  |.string x,.string y=>some (wm (strs x) (strs y))
  |_,_=>none)
 |some (.struct _)=>xg T 12 kt a b
 |_=>none
def r7(eq:Value->Option Bool):List MapEntry->Nat->Option (Option (Nat×MapEntry))
 |[],_=>some none
 |e::es,i=>match eq e.key with
  |some true=>some (some (i,e))
  |some false=>r7 eq es (i+1)
  |none=>none
def AG(f:MapEntry->MapEntry):List MapEntry->Nat->List MapEntry
 |[],_=>[]
 |e::es,0=>f e::es
 |e::es,n+1=>e::AG f es n
def mapOf(hp:Hp)(m:Value):Option (List MapEntry×Nat):=
 match m with
 |.map none=>some ([],0)
 |.map (some r)=>(match hp r with
  |some (.map es c)=>some (es,c)
  |_=>none)
 |_=>none
def o8(T:Ty)(hp:Hp)(t:TypeId)(m k:Value)(j:Bool):Option Value:=
 match T.ji t with
 |some (.map kt el)=>
  (match mapOf hp m with
  |some (es,_)=>bif uU T 8 kt k then
    (match r7 (rE T kt k) es 0 with
    |some (some (_,e))=>some (bif j then .tuple #[e.val,.bool true]else e.val)
    |some none=>(match T.zero el with
     |some z=>some (bif j then .tuple #[z,.bool false]else z)
     |none=>none)
    |none=>none)else none
  |none=>none)
 |_=>none
def s5(T:Ty)(hp:Hp)(t:TypeId)(m k v:Value):Option tH:=
 match T.ji t,m with
 |some (.map kt _),.map (some r)=>(match hp r with
  |some (.map es c)=>bif uU T 8 kt k then
    (match r7 (rE T kt k) es 0 with
    |some (some (i,e))=>bif Bn e.key k then some [(r,some (.map (AG (fun e=>⟨k,v,e.born⟩) es i) c))]else none
    |some none=>some [(r,some (.map (es++[⟨k,v,c⟩]) (c+1)))]
    |none=>none)else none
  |_=>none)
 |_,_=>none
def Ec(T:Ty)(hp:Hp)(t:TypeId)(m k:Value):Option pR:=
 match T.ji t,m with
 |some (.map kt el),.map (some r)=>(match hp r with
  |some (.map es c)=>bif uU T 8 kt k then
    (match r7 (rE T kt k) es 0 with
    |some (some (i,e))=>bif Bn e.key k then some (.tuple #[e.val,.int .i64 (.ofNat e.born)],[(r,some (.map (AG (fun e=>⟨k,e.val,e.born⟩) es i) c))],0)else none
    |some none=>(match T.zero el with
     |some z=>some (.tuple #[z,.int .i64 (.ofNat c)],[(r,some (.map (es++[⟨k,z,c⟩]) (c+1)))],0)
     |none=>none)
    |none=>none)else none
  |_=>none)
 |_,_=>none
def Fl(born:Nat)(v:Value):List MapEntry->Option (List MapEntry)
 |[]=>none
 |e::es=>bif Nat.beq e.born born then some (⟨e.key,v,e.born⟩::es)else(Fl born v es).map (e::·)
def BL(hp:Hp)(m s v:Value):Option tH:=
 match m,s with
 |.map (some r),.int _ (.ofNat b)=>(match hp r with
  |some (.map es c)=>(Fl b v es).map fun es=>[(r,some (.map es c))]
  |_=>none)
 |_,_=>none
def CZ(T:Ty)(t:TypeId)(r:Option Value)(n:Nat):Option pR:=
 match r with
 |none=>some (.map (some n),[(n,some (.map [] 0))],1)
 |some (.int _ _)=>(match T.ji t with
  |some (.map _ _)=>some (.map (some n),[(n,some (.map [] 0))],1)
  |_=>none)
 |_=>none
def vP(T:Ty)(t:TypeId)(len cap:Value)(n:Nat):Option pR:=
 match T.ji t,len,cap with
 |some (.slice el),.int _ (.ofNat l),.int _ (.ofNat c)=>
  (match T.info el with
  |some inf=>(match inf.zero with
   |some z=>bif Nat.ble l c&&(Nat.ble (c*inf.bytes) 1099511627776&&Nat.blt c 2147483648)then some (vd n (kC c z.cells.toList) l c)else none
   |none=>none)
  |none=>none)
 |_,_,_=>none
def Ed(x:Value):Option Nat:=
 match x with
 |.slice _ l _=>some l
 |.string s=>some (strs s).length
 |_=>none
def AH(a b:Nat):Nat:=bif Nat.ble a b then a else b
def Pu(T:Ty)(hp:Hp)(C:TypeId)(d s:Value):Option pR:=
 match T.ji C,d with
 |some (.slice el),.slice base dl _=>
  (match T.size el,Ed s with
  |some size,some j=>
   (match (bif tZ size s then lK hp (AH j dl*size) s else none)with
   |some cs=>(match base,cs with
    |_,[]=>some (.int .i64 (.ofNat (AH j dl)),[],0)
    |some ⟨b,off,none⟩,cs=>bif cs.all one then(match hp b with
     |some (.cells o mt)=>(nU hp b o mt off cs).map fun u=>(.int .i64 (.ofNat (AH j dl)),u,0)
     |_=>none)else none
    |_,_=>none)
   |none=>none)
  |_,_=>none)
 |_,_=>none
def LI(T:Ty)(hp:Hp)(t:TypeId)(x:Value):Option pR:=
 match T.ji t with
 |some d=>(match x with
  |.map none=>some (.tuple #[],[],0)
  |.slice none _ _=>some (.tuple #[],[],0)
  |.slice (some _) 0 _=>some (.tuple #[],[],0)
  |.map (some r)=>(match hp r with
   |some (.map _ c)=>some (.tuple #[],[(r,some (.map [] c))],0)
   |_=>none)
  |.slice (some ⟨b,off,none⟩) n _=>(match d with
   |.slice el=>(match T.zero el,hp b with
    |some z,some (.cells j mt)=>(match nU hp b j mt off (kC n z.cells.toList)with
     |some u=>some (.tuple #[],u,0)
     |none=>none)
    |_,_=>none)
   |_=>none)
  |_=>none)
 |none=>none
def Tb(T:Ty)(hp:Hp)(t:TypeId)(x:Value):Option Value:=
 match T.ji t,x with
 |some (.array n _),_=>some (.int .i64 (.ofNat n))
 |some (.slice _),.slice none _ c=>some (.int .i64 (.ofNat c))
 |some (.slice _),.slice (some a) _ c=>(match hp a.block with
  |some (.cells _ mt)=>(match mt.mu with
   |none=>some (.int .i64 (.ofNat c))
   |some _=>none)
  |_=>none)
 |_,_=>none
def max2:Value->Value->Option Value
 |.int k x,.int _ y=>some (.int k (bif ru x y then y else x))
 |_,_=>none
def min2:Value->Value->Option Value
 |.int k x,.int _ y=>some (.int k (bif ru y x then y else x))
 |_,_=>none
def K9(f:Value->Value->Option Value):Value->List Value->Option Value
 |x,[]=>some x
 |x,y::j=>(match f x y with
  |some z=>K9 f z j
  |none=>none)
def IU(f:Value->Value->Option Value):List Value->Option Value
 |[]=>none
 |x::xs=>K9 f x xs
def bytesOf:List Value->Option (List UInt8)
 |[]=>some []
 |.int .u8 (.ofNat k)::vs=>(match bytesOf vs with
  |some j=>some (UInt8.ofNat k::j)
  |none=>none)
 |_=>none
def t_(T:Ty)(hp:Hp)(s d:TypeId)(x:Value)(n:Nat):Option pR:=
 match T.ji s,T.ji d,x with
 |some _,some (.int k),.int _ m=>some (.int k (gD k m),[],0)
 |some _,some .string,.string s=>some (.string s,[],0)
 |some _,some (.slice e),.string s=>(match T.ji e with
  |some (.int .u8)=>some (.slice (some ⟨n+1,0,none⟩) (strs s).length (strs s).length,
    [(n,some (jM.group [⟨n+1,0,(strs s).length⟩])),(n+1,some (jM.cells ((strs s).map Cb) ⟨false,some n,0,1⟩))],2)
  |_=>none)
 |some (.slice e),some .string,.slice base l _=>(match T.ji e with
  |some (.int .u8)=>bif Nat.beq l 0 then some (.string ⟨#[]⟩,[],0)else(match base with
   |none=>some (.string ⟨#[]⟩,[],0)
   |some ⟨b,off,none⟩=>(match hp b with
    |some (.cells cs _)=>(match lJ l (cs.drop off)with
     |some vs=>(match bytesOf vs with
      |some j=>some (.string ⟨j.toArray⟩,[],0)
      |none=>none)
     |none=>none)
    |_=>none)
   |_=>none)
  |_=>none)
 |some (.slice _),some (.slice e),.slice (some ⟨b,off,none⟩) l c=>bif Nat.beq s d then(match T.ji e,hp b with
  |some (.int .u8),some (.cells _ mt)=>bif mt.ro||Nat.beq c 0 then none else some (.slice (some ⟨b,off,none⟩) l c,[],0)
  |_,_=>none)else none
 |_,_,_=>none
def BM(T:Ty)(x:Value)(a:TypeId)(j:Bool):Option Value:=
 match T.ji a,x with
 |some (.interface _),_=>none
 |some _,.nilIface=>bif j then(T.zero a).map fun z=>.tuple #[z,.bool false]else none
 |some _,.iface t v=>bif Nat.beq t a then some (bif j then .tuple #[v,.bool true]else v)
   else bif j then(T.zero a).map fun z=>.tuple #[z,.bool false]else none
 |_,_=>none
def LJ(T:Ty)(hp:Hp)(t:TypeId)(x:Value)(n:Nat):Option pR:=
 match T.ji t,x with
 |some .string,.string s=>some (.pointer (some ⟨n,0,none⟩),[(n,some (.Fe s 0))],1)
 |some (.map _ _),.map none=>some (.pointer (some ⟨n,0,none⟩),[(n,some (.mapIter none 0 [] 0))],1)
 |some (.map _ _),.map (some m)=>(match hp m with
  |some (.map _ c)=>some (.pointer (some ⟨n,0,none⟩),[(n,some (.mapIter (some m) c [] c))],1)
  |_=>none)
 |_,_=>none
def Pv(n:Nat):List Nat->Bool
 |[]=>false
 |x::xs=>Nat.beq x n||Pv n xs
def zY(seen:List Nat)(since:Nat)(j:Bool):List MapEntry->List MapEntry
 |[]=>[]
 |e::es=>bif Pv e.born seen then zY seen since j es else bif (bif Nat.blt e.born since then j else !j)then e::zY seen since j es else zY seen since j es
def Ee(last:Nat):List MapEntry->Bool
 |[]=>true
 |e::es=>Nat.ble last e.born&&Ee last es
def Fo(hp:Hp)(m since:Nat)(seen:List Nat)(last:Nat):Option (List (Option MapEntry)×Nat):=
 match hp m with
 |some (.map es clock)=>
  bif !seen.isEmpty&&(!es.isEmpty&&Ee last es)then none else
  (match zY seen since true es with
  |[]=>some (none::(zY seen since false es).map some,clock)
  |j=>some ((j++zY seen since false es).map some,clock))
 |_=>none
def LK(hp:Hp)(it:Value):Option Value:=
 match it with
 |.pointer (some ⟨r,0,_⟩)=>(match hp r with
  |some (.mapIter (some m) _ seen OH)=>(match seen.getLast?,hp m with
   |some j,some (.map es clock)=>bif Nat.beq clock OH then
     (match es.find? (fun e=>Nat.beq e.born j)with
     |some e=>some (.tuple #[e.key,e.val])
     |none=>none)else none
   |_,_=>none)
  |_=>none)
 |_=>none
end
end Sw
namespace Sw
noncomputable section
open Go Go.RowKit
theorem AI{a b:ByteArray}(h:strs a=strs b):a=b:=by
 cases a;cases b
 unfold strs at h
 simp only at h
 rw[Array.toList_inj.1 h]
theorem JM{a b:Value}(h:Eb a b=true):a=b/\(∀g v,fQ g a v->v=a)/\∀n,Instr.sameBits n a a=true:=by
 unfold Eb at h
 split at h
 · rw[Bool.and_eq_true]at h
   obtain rfl:=ve h.1
   obtain rfl:=lH.1 h.2
   exact⟨rfl,fun g v r=>r.kQ,fun n=>by cases n<;>simp[Instr.sameBits]⟩
 · rw[wI,beq_iff_eq]at h
   obtain rfl:=AI h
   exact⟨rfl,fun g v r=>r.kS,fun n=>by cases n<;>(simp only[Instr.sameBits];rw[ByteArray.IS,wI];simp)⟩
 · rename_i a b
   have:a=b:=by cases a<;>cases b<;>first|rfl|(simp at h)
   subst this
   exact⟨rfl,fun g v r=>r.rK,fun n=>by cases n<;>simp[Instr.sameBits]⟩
 · cases h
theorem JN:∀{x y:List Value},Cg x y=true->x=y/\(∀g z,gX g x z->z=x)/\∀n,(x.zip x).all (fun p=>Instr.sameBits n p.1 p.2)=true
 |[],[],_=>⟨rfl,fun g z r=>by have:=r.1;exact(List.length_eq_zero_iff.1 (by simpa using this.symm)),fun n=>rfl⟩
 |[],_::_,h=>by cases h
 |_::_,[],h=>by cases h
 |x::xs,y::I,h=>by
  simp only[Cg,Bool.and_eq_true]at h
  obtain⟨rfl,h2,h3⟩:=JM h.1
  obtain⟨rfl,j,o⟩:=JN h.2
  refine⟨rfl,fun g z r=>?_,fun n=>?_⟩
  · cases z with
    |nil=>have:=r.1;simp at this
    |cons z C=>
     rw[h2 g z r.head,j g C r.tail]
  · simp only[List.zip_cons_cons,List.all_cons,Bool.and_eq_true]
    exact⟨h3 n,o n⟩
theorem Tc{a b:Value}(h:Bn a b=true):a=b/\(∀g v,fQ g a v->v=a)/\∀n,Instr.sameBits (n+1) a a=true:=by
 unfold Bn at h
 split at h
 · obtain⟨h1,h2,h3⟩:=JN h
   have:=Array.toList_inj.1 h1
   subst this
   refine⟨rfl,fun g v r=>?_,fun n=>?_⟩
   · obtain⟨x',rfl,hx⟩:=r.sR
     rw[Array.toList_inj.1 (h2 g x'.toList hx.toList)]
   · simp only[Instr.sameBits,Bool.and_eq_true,beq_self_eq_true,true_and]
     exact h3 n
 · obtain⟨h1,h2,h3⟩:=JM h
   exact⟨h1,h2,fun n=>h3 _⟩
section
variable {T:Ty}{P:Program}{B0:Nat}{w0:World}{g:Gm}{hp:Hp}{nx n:Nat}{w:World}
theorem NT(ok:T.Ok P){rec:TypeId->Value->Bool}{m:Nat}{empty:Bool}{w:World}
 (ih:∀t v v',rec t v=true->fQ g v v'->(Instr.checkKey empty m t v').run P w=.ok () w) {xs j:Array Value} (hx:r5 g xs j):
 ∀(fs:List Field),K8 (fun t off=>xE T t xs.toList off) rec fs=true->
  (forIn fs PUnit.unit fun f (_:PUnit)=>do
    if f.name≠ "_" then Instr.checkKey empty m f.type (<-part f.type j f.offset)
    pure (ForInStep.yield PUnit.unit):Sem PUnit).run P w=.ok PUnit.unit w:=by
 intro fs
 induction fs with
 |nil=>intro _;rfl
 |cons f fs o=>
  intro h
  simp only[K8,Bool.and_eq_true]at h
  obtain⟨h1,h2⟩:=h
  cases hp:xE T f.type xs.toList f.offset with
  |none=>rw[hp]at h1;cases h1
  |some x=>
   rw[hp]at h1
   obtain⟨x',C,rx⟩:=tq ok hp hx w
   rw[List.forIn_cons]
   have step:(do
    if f.name≠ "_" then Instr.checkKey empty m f.type (<-part f.type j f.offset)
    pure (ForInStep.yield PUnit.unit):Sem (ForInStep PUnit)).run P w=.ok (ForInStep.yield PUnit.unit) w:=by
    by_cases hf:f.name≠ "_"
    · rw[if_pos hf,fw C,fw (ih _ _ _ h1 rx)]
      rfl
    · rw[if_neg hf];rfl
   rw[fw step]
   exact o h2
theorem BN(ok:T.Ok P){empty:Bool}{w:World}:∀(d d':Nat) (t:TypeId) (v v':Value),d<=d'->uU T d t v=true->fQ g v v'->(Instr.checkKey empty d' t v').run P w=.ok () w:=by
 intro d
 induction d with
 |zero=>intro d' t v v' _ h;cases h
 |succ d ih=>
  intro d' t v v' hd h r
  obtain⟨d',rfl⟩:∃e,d'=e+1:=⟨d'-1,by omega⟩
  unfold uU at h
  unfold Instr.checkKey
  split at h
  · rename_i hu;rw[fw (ok.gS hu w)];rfl
  · rename_i hu;rw[fw (ok.gS hu w)];rfl
  · rename_i hu;rw[fw (ok.gS hu w)];rfl
  · rename_i fs cs hu
    obtain⟨o,rfl,j⟩:=r.sR
    rw[fw (ok.gS hu w)]
    have:=NT (w:=w) (m:=d') (empty:=empty) ok (fun t v v' hr r1=>ih d' t v v' (by omega) hr r1) j fs.toList h
    simp only
    rw[<-Array.forIn_toList]
    exact(fw (f:=fun _=>(pure ():Sem Unit)) this).trans rfl
  · cases h
theorem kN.tail{e j:MapEntry}{x x':List MapEntry}(h:kN g (e::x) (j::x')):kN g x x':=
 ⟨by have:=h.1;simpa using this,fun i a b p q=>h.2 (i+1) a b (by simpa using p) (by simpa using q)⟩
theorem kN.head{e j:MapEntry}{x x':List MapEntry}(h:kN g (e::x) (j::x')):fQ g e.key j.key/\fQ g e.val j.val/\e.born=j.born:=h.2 0 e j rfl rfl
theorem kN.nil:kN g [] []:=⟨rfl,fun i e j h=>by simp at h⟩
theorem kN.cons{e j:MapEntry}{x x':List MapEntry}(h:fQ g e.key j.key/\fQ g e.val j.val/\e.born=j.born)(k:kN g x x'):kN g (e::x) (j::x'):=
 ⟨by simp[k.1],fun i a b p q=>by
   cases i with
   |zero=>simp at p q;subst p;subst q;exact h
   |succ i=>simp at p q;exact k.2 i a b p q⟩
def Ef(g:Gm)(es:List MapEntry)(i0:Nat)(r:Option (Nat×MapEntry))(o:Option (Nat×Value)):Prop:=
 match r,o with
 |none,none=>True
 |some (i,e),some (j,v')=>i=j/\i0<=i/\es[i-i0]?=some e/\fQ g e.val v'
 |_,_=>False
theorem Ef.step{e0:MapEntry}{es:List MapEntry}{i0:Nat}{r:Option (Nat×MapEntry)}{o:Option (Nat×Value)}(h:Ef g es (i0+1) r o):Ef g (e0::es) i0 r o:=by
 unfold Ef at*
 split at h
 · trivial
 · obtain⟨h1,h2,h3,h4⟩:=h
   refine⟨h1,by omega,?_,h4⟩
   rename_i i e _ _
   obtain⟨j,hj⟩:∃j,i-i0=j+1:=⟨i-i0-1,by omega⟩
   rw[hj];simp only[List.getElem?_cons_succ]
   rw[show j=i-(i0+1)from by omega];exact h3
 · exact h.elim
theorem zw{kind:TypeDesc}{eq:Value->Option Bool}{k':Value}(C:∀v v' b,eq v=some b->fQ g v v'->Instr.sameNow kind k' v'=some b):
 ∀(es j:List MapEntry) (i:Nat) (r:Option (Nat×MapEntry)),kN g es j->r7 eq es i=some r->∃o,Instr.findNow kind k' j i=some o/\Ef g es i r o
 |[],[],i,r,_,h=>by simp[r7]at h;subst h;exact⟨none,rfl,trivial⟩
 |[],_::_,_,_,h,_=>by have:=h.1;simp at this
 |_::_,[],_,_,h,_=>by have:=h.1;simp at this
 |e::es,I::j,i,r,hr,h=>by
  obtain⟨r1,r2,J⟩:=hr.head
  simp only[r7]at h
  split at h
  · rename_i he
    cases h
    refine⟨some (i,I.val),?_,rfl,Nat.le_refl _,by simp,r2⟩
    simp only[Instr.findNow,C _ _ _ he r1]
  · rename_i he
    obtain⟨o,h1,h2⟩:=zw C es j (i+1) r hr.tail h
    refine⟨o,?_,h2.step⟩
    simp only[Instr.findNow,C _ _ _ he r1]
    exact h1
  · cases h
theorem AJ{kt:TypeId}{eq:Value->Option Bool}{k':Value}(C:∀v v' b,eq v=some b->fQ g v v'->(Op.equal kt k' v').run P w=.ok b w):
 ∀(es j:List MapEntry) (i:Nat) (r:Option (Nat×MapEntry)),kN g es j->r7 eq es i=some r->∃o,(Instr.findAsking kt k' j i).run P w=.ok o w/\Ef g es i r o
 |[],[],i,r,_,h=>by simp[r7]at h;subst h;exact⟨none,rfl,trivial⟩
 |[],_::_,_,_,h,_=>by have:=h.1;simp at this
 |_::_,[],_,_,h,_=>by have:=h.1;simp at this
 |e::es,I::j,i,r,hr,h=>by
  obtain⟨r1,r2,J⟩:=hr.head
  simp only[r7]at h
  split at h
  · rename_i he
    cases h
    refine⟨some (i,I.val),?_,rfl,Nat.le_refl _,by simp,r2⟩
    simp only[Instr.findAsking]
    rw[fw (C _ _ _ he r1)];rfl
  · rename_i he
    obtain⟨o,h1,h2⟩:=AJ C es j (i+1) r hr.tail h
    refine⟨o,?_,h2.step⟩
    simp only[Instr.findAsking]
    rw[fw (C _ _ _ he r1)]
    exact h1
  · cases h
theorem Eg{d:Nat}{t:TypeId}{v:Value}(h:uU T d t v=true):∃u,T.ji t=some u:=by
 cases d with
 |zero=>cases h
 |succ d=>
  unfold uU at h
  cases hu:T.ji t with
  |none=>rw[hu]at h;cases h
  |some u=>exact⟨u,rfl⟩
theorem uJ(ok:T.Ok P){kt:TypeId}{k k':Value}(R:fQ g k k'){es j:List MapEntry}(hr:kN g es j){r:Option (Nat×MapEntry)}(U:∃u,T.ji kt=some u)(h:r7 (rE T kt k) es 0=some r):
 ∃o,(Instr.findKey kt k' j).run P w=.ok o w/\Ef g es 0 r o:=by
 have empty:∀d,T.ji kt=some d->es=[]->∃o,(Instr.findKey kt k' j).run P w=.ok o w/\Ef g es 0 r o:=by
  intro d hu he
  subst he
  have:j=[]:=by have:=hr.1;exact List.length_eq_zero_iff.1 (by simpa using this.symm)
  subst this
  simp[r7]at h;subst h
  refine⟨none,?_,trivial⟩
  unfold Instr.findKey
  rw[fw (ok.gS hu w)];rfl
 cases hu:T.ji kt with
 |none=>obtain⟨u,J⟩:=U;rw[hu]at J;cases J
 |some d=>
  by_cases C:es=[]
  · exact empty d hu C
  · cases d with
    |int ae=>
     obtain⟨o,h1,h2⟩:=zw (g:=g) (kind:=.int ae) (eq:=rE T kt k) (k':=k') (by
      intro v v' b hb I
      simp only[rE,hu]at hb
      split at hb
      · rename_i ab x ad y
        obtain rfl:=R.kQ
        obtain rfl:=I.kQ
        cases hs:vO ab ad with
        |false=>rw[hs]at hb;cases hb
        |true=>
         rw[hs]at hb;simp only[cond_true]at hb;cases hb
         obtain rfl:=ve hs
         simp only[Instr.sameNow,if_true]
         rw[DZ]
      · cases hb) es j 0 r hr h
     refine⟨o,?_,h2⟩
     unfold Instr.findKey
     rw[fw (ok.gS hu w),h1];rfl
    |string=>
     obtain⟨o,h1,h2⟩:=zw (g:=g) (kind:=.string) (eq:=rE T kt k) (k':=k') (by
      intro v v' b hb I
      simp only[rE,hu]at hb
      split at hb
      · obtain rfl:=R.kS
        obtain rfl:=I.kS
        cases hb
        simp only[Instr.sameNow]
        rw[ByteArray.IS]
      · cases hb) es j 0 r hr h
     refine⟨o,?_,h2⟩
     unfold Instr.findKey
     rw[fw (ok.gS hu w),h1];rfl
    |struct fs=>
     obtain⟨o,h1,h2⟩:=AJ (P:=P) (w:=w) (g:=g) (kt:=kt) (eq:=rE T kt k) (k':=k') (by
      intro v v' b hb I
      simp only[rE,hu]at hb
      exact D6 ok 12 Op.maxDepth kt k v k' v' b (by decide) hb R I) es j 0 r hr h
     refine⟨o,?_,h2⟩
     unfold Instr.findKey
     rw[fw (ok.gS hu w)]
     cases es with
     |nil=>exact(C rfl).elim
     |cons e es=>
      cases j with
      |nil=>have:=hr.1;simp at this
      |cons aa j=>
       have:Instr.findNow (.struct fs) k' (aa::j) 0=none:=by simp[Instr.findNow,Instr.sameNow]
       rw[this];exact h1
    |_=>
     cases es with
     |nil=>exact(C rfl).elim
     |cons e es=>simp only[r7,rE,hu]at h;cases h
end
end
end Sw
namespace Sw
noncomputable section
open Go Go.RowKit
section
variable {T:Ty}{P:Program}{B0:Nat}{w0:World}{g:Gm}{hp:Hp}{nx n:Nat}{w:World}
theorem p0{r:Nat}{o:Obj}(o':Obj)(h:w.heap[r]?=some o)(hc:∀c e f,o≠.cells c e f):(setObj r o').run P w=.ok () (w.putObj r o'):=by
 unfold setObj
 simp only[Sem.run,h]
 cases o<;>first|exact(hc _ _ _ rfl).elim|rfl
theorem iC.put(H:gu B0 w0 g hp nx w){r rr:Nat}{o o':jM Tm}{jq:Obj}(hr:hp r=some o)(hg:g.gb r=some (rr,0))(J:B0<=rr)
 (hc:∀cs m,o≠.cells cs m) (C:∀cs m,o'≠.cells cs m) (I:o'.Am=false) (j:oP B0 g r o' rr 0 jq) {x:Result Value} {v v':Value} (hx:x=.ok v' (w.putObj rr jq)) (R:fQ g v v'):
 iC B0 w0 g hp nx n w x (v,[(r,some o')],0):=by
 intro fg h1 _ _
 refine⟨g,v',_,hx,Gm.le_refl g,fun _ h=>.inl h,R,(H.setObj hr hg hc C I jq J j).An h1,?_,by simp,pk.refl _ _⟩
 intro rb U hn
 have jz:rr<w.heap.size:=(H.rq _ _ _ hg).2
 exact(sZ.putObj jz jq).other rb (fun e=>by subst e;exact hn r o 0 hr hg)
theorem iC.new(H:gu B0 w0 g hp nx w){o:jM Tm}{jq:Obj}(hc:∀cs m,o≠.cells cs m)(C:o.Am=false)
 (j:CT g hp n->oP B0 (g.add n (w.heap.size,0) none) n o w.heap.size 0 jq) {x:Result Value} {v v':Value} (hx:x=.ok v' (w.alloc jq)) (I:fQ (g.add n (w.heap.size,0) none) v v'):
 iC B0 w0 g hp nx n w x (v,[(n,some o)],1):=by
 intro fg h1 h2 hf
 have f0:=hf 0 (by show 0<1;omega)
 simp only[Nat.add_zero]at f0
 have hl:n<fg:=by have:n+1<=fg:=h2;omega
 exact⟨_,v',_,hx,Gm.qM f0.gb _ _,Gm.B8,I,H.alloc f0.gb f0.room f0.hp h1 hl o jq none C (j f0) (fun cs m gr e=>(hc _ _ e).elim),uT.alloc _ _ _ _,by simp,pk.new⟩
theorem IV(H:gu B0 w0 g hp nx w){t:TypeId}(ok:T.Ok P){r j:Option Value}{e:pR}(h:CZ T t r n=some e)(rr:BK g r j):
 iC B0 w0 g hp nx n w ((Instr.makeMap t j).run P w) e:=by
 have key:∀x:Result Value,x=.ok (.map (some w.heap.size)) (w.alloc (.map #[] 0))->iC B0 w0 g hp nx n w x (.map (some n),[(n,some (.map [] 0))],1):=fun x hx=>
  iC.new H (o:=.map [] 0) (jq:=.map #[] 0) (fun _ _ h=>by cases h) rfl (fun _=>⟨rfl,H.base,rfl,kN.nil⟩) hx (.map (Gm.lQ _ _ _ _))
 unfold CZ at h
 split at h
 · cases h
   cases j with
   |some _=>exact rr.elim
   |none=>
    refine key _ ?_
    unfold Instr.makeMap
    simp only
    rw[fw (run_newObj _ w)];rfl
 · rename_i k m
   split at h
   · rename_i kt el hu
     cases h
     cases j with
     |none=>exact rr.elim
     |some x'=>
      have:fQ g (.int k m) x':=rr
      obtain rfl:=this.kQ
      refine key _ ?_
      unfold Instr.makeMap
      simp only
      rw[fw (ok.gS hu w)]
      rfl
   · cases h
 · cases h
theorem NU(H:gu B0 w0 g hp nx w){m o:Value}{es:List MapEntry}{c:Nat}(h:mapOf hp m=some (es,c))(C:fQ g m o):
 (m=.map none/\o=.map none/\es=[])\/∃r rr j,m=.map (some r)/\o=.map (some rr)/\hp r=some (.map es c)/\g.gb r=some (rr,0)/\w.heap[rr]?=some (.map j c)/\B0<=rr/\kN g es j.toList:=by
 unfold mapOf at h
 split at h
 · cases h;obtain rfl:=C.pX;exact .inl ⟨rfl,rfl,rfl⟩
 · rename_i r
   split at h
   · rename_i es c hr
     cases h
     obtain⟨rr,hg,rfl⟩:=C.vE
     obtain⟨j,_,a2,a3,a4⟩:=H.zW hr hg
     exact .inr ⟨r,rr,j,rfl,rfl,hr,hg,a2,a3,a4⟩
   · cases h
 · cases h
def Gv(kt el:TypeId)(k:Value)(b:Bool)(es:Array MapEntry):Sem Value:=do
 Instr.checkKey es.isEmpty 10000 kt k
 match<-Instr.findKey kt k es.toList with
 |some (_,v)=>pure (if b=true then .tuple #[v,.bool true]else v)
 |none=>do
  let z<-zeroValue el
  pure (if b=true then .tuple #[z,.bool false]else z)
theorem KA(ok:T.Ok P)(H:gu B0 w0 g hp nx w){t:TypeId}{m aa k k' v:Value}{b:Bool}(h:o8 T hp t m k b=some v)(af:fQ g m aa)(ad:fQ g k k'):
 iC B0 w0 g hp nx n w ((Instr.lookup t aa k' b).run P w) (v,[],0):=by
 unfold o8 at h
 split at h
 · rename_i kt el hu
   split at h
   · rename_i es c hm
     cases hk:uU T 8 kt k with
     |false=>rw[hk]at h;cases h
     |true=>
      rw[hk]at h
      simp only[cond_true]at h
      have J:=Eg hk
      have U:∀emp,(Instr.checkKey emp 10000 kt k').run P w=.ok () w:=fun emp=>BN ok 8 10000 kt k k' (by decide) hk ad
      obtain⟨C,he,I⟩:∃C:Array MapEntry,kN g es C.toList/\
       ∀x,(Gv kt el k' b C).run P w=x->(Instr.lookup t aa k' b).run P w=x:=by
       rcases NU H hm af with⟨rfl,rfl,rfl⟩|⟨r,rr,C,rfl,rfl,hr,hg,a2,a3,a4⟩
       · refine⟨#[],kN.nil,fun x hx=>?_⟩
         unfold Instr.lookup
         rw[fw (ok.gS hu w)]
         exact hx
       · refine⟨C,a4,fun x hx=>?_⟩
         unfold Instr.lookup
         rw[fw (ok.gS hu w)]
         simp only
         rw[fw (nZ a2 (fun _ _ _ h=>by cases h))]
         exact hx
      split at h
      · rename_i i e hf
        cases h
        obtain⟨ab,f1,f2⟩:=uJ (w:=w) ok ad he J hf
        cases ab with
        |none=>exact f2.elim
        |some p=>
         obtain⟨j,v'⟩:=p
         obtain⟨rfl,_,_,R⟩:=f2
         refine iC.pure H (v':=bif b then .tuple #[v',.bool true]else v') ?_ ?_
         · apply I
           unfold Gv
           rw[fw (U _),fw f1]
           cases b<;>rfl
         · cases b
           · exact R
           · refine .tuple rfl (fun i a a' q o=>?_)
             match i with
             |0=>simp at q o;subst q;subst o;exact R
             |1=>simp at q o;subst q;subst o;exact .bool _
             |i+2=>simp at q
      · rename_i hf
        obtain⟨ab,f1,f2⟩:=uJ (w:=w) ok ad he J hf
        cases ab with
        |some p=>exact f2.elim
        |none=>
         split at h
         · rename_i z ae
           cases h
           have R:fQ g z z:=fQ.of_flat g (ok.qN ae)
           refine iC.pure H (v':=bif b then .tuple #[z,.bool false]else z) ?_ ?_
           · apply I
             unfold Gv
             rw[fw (U _),fw f1]
             simp only
             rw[fw (ok.pZ ae w)]
             cases b<;>rfl
           · cases b
             · exact R
             · refine .tuple rfl (fun i a a' q o=>?_)
               match i with
               |0=>simp at q o;subst q;subst o;exact R
               |1=>simp at q o;subst q;subst o;exact .bool _
               |i+2=>simp at q
         · cases h
      · cases h
   · cases h
 · cases h
theorem kN.set{es j:List MapEntry}(h:kN g es j)(f f':MapEntry->MapEntry)(hf:∀e o,fQ g e.key o.key/\fQ g e.val o.val/\e.born=o.born->fQ g (f e).key (f' o).key/\fQ g (f e).val (f' o).val/\(f e).born=(f' o).born):
 ∀i,kN g (AG f es i) (j.modify i f'):=by
 revert j
 induction es with
 |nil=>
  intro j h i
  cases j with
  |nil=>cases i<;>exact kN.nil
  |cons _ _=>have:=h.1;simp at this
 |cons e es ih=>
  intro j h i
  cases j with
  |nil=>have:=h.1;simp at this
  |cons o j=>
   cases i with
   |zero=>simp only[AG,List.modify_zero_cons];exact kN.cons (hf _ _ h.head) h.tail
   |succ i=>simp only[AG,List.modify_succ_cons];exact kN.cons h.head (ih h.tail i)
theorem kN.push{es C:List MapEntry}(h:kN g es C){e o:MapEntry}(he:fQ g e.key o.key/\fQ g e.val o.val/\e.born=o.born):kN g (es++[e]) (C++[o]):=by
 refine⟨by simp[h.1],fun i a a' p q=>?_⟩
 rw[List.getElem?_append]at p q
 by_cases hi:i<es.length
 · rw[if_pos hi]at p;rw[if_pos (h.1▸hi)]at q;exact h.2 i a a' p q
 · rw[if_neg hi]at p;rw[if_neg (h.1▸hi)]at q
   rw[<-h.1]at q
   cases hj:i-es.length with
   |zero=>rw[hj]at p q;simp at p q;subst p;subst q;exact he
   |succ j=>rw[hj]at p;simp at p
theorem kN.get{es j:List MapEntry}(h:kN g es j){i:Nat}{e:MapEntry}(p:es[i]?=some e):∃o,j[i]?=some o/\fQ g e.key o.key/\fQ g e.val o.val/\e.born=o.born:=by
 have hi:i<es.length:=(List.getElem?_eq_some_iff.1 p).1
 have C:i<j.length:=h.1▸hi
 exact⟨j[i],List.getElem?_eq_getElem C,h.2 i e _ p (List.getElem?_eq_getElem C)⟩
theorem LL{a b a' b':Value}(h:Bn a b=true)(j:fQ g a a')(rb:fQ g b b')(w:World):(Instr.keyThatStays a' b').run P w=.ok b' w/\b'=b/\a=b:=by
 obtain⟨rfl,h2,h3⟩:=Tc h
 have h1:=h2 _ _ j
 have h4:=h2 _ _ rb
 subst h1
 subst h4
 refine⟨?_,rfl,rfl⟩
 unfold Instr.keyThatStays
 rw[if_pos (h3 9999)];rfl
theorem AK(ok:T.Ok P)(H:gu B0 w0 g hp nx w){t:TypeId}{m ad k k' v v':Value}{u:tH}(h:s5 T hp t m k v=some u)(ag:fQ g m ad)(C:fQ g k k')(ae:fQ g v v'):
 iC B0 w0 g hp nx n w ((do Instr.mapUpdate t ad k' v';pure undef:Sem Value).run P w) (undef,u,0):=by
 unfold s5 at h
 split at h
 · rename_i kt el r hu
   split at h
   · rename_i es c hr
     cases hk:uU T 8 kt k with
     |false=>rw[hk]at h;cases h
     |true=>
      rw[hk]at h
      simp only[cond_true]at h
      have R:=Eg hk
      have ab:(Instr.checkKey false 10000 kt k').run P w=.ok () w:=BN ok 8 10000 kt k k' (by decide) hk C
      obtain⟨rr,hg,rfl⟩:=ag.vE
      obtain⟨o,_,a2,a3,a4⟩:=H.zW hr hg
      have J:∀af e f,Obj.map o c≠.cells af e f:=fun _ _ _ h=>by cases h
      have run:∀o',(∀x,(do match<-Instr.findKey kt k' o.toList with
       |some (i,_)=>do
        let key<-Instr.keyThatStays (((o[i]?).map (·.key)).getD k') k'
        setObj rr (.map (o.modify i fun e=>{e with key,val:=v'}) c)
       |none=>setObj rr (.map (o.push {key:=k',val:=v',born:=c}) (c+1)):Sem Unit).run P w=x->x=.ok () (w.putObj rr o'))->
       (do Instr.mapUpdate t (.map (some rr)) k' v';pure undef:Sem Value).run P w=.ok undef (w.putObj rr o'):=by
       intro o' hx
       have:(Instr.mapUpdate t (.map (some rr)) k' v').run P w=.ok () (w.putObj rr o'):=by
        unfold Instr.mapUpdate
        rw[fw (ok.gS hu w)]
        simp only
        rw[fw (nZ a2 J)]
        simp only
        rw[fw ab]
        exact hx _ rfl
       rw[fw this];rfl
      split at h
      · rename_i i e hf
        cases I:Bn e.key k with
        |false=>rw[I]at h;cases h
        |true=>
         rw[I]at h
         simp only[cond_true]at h
         cases h
         obtain⟨U,f1,f2⟩:=uJ (w:=w) ok C a4 R hf
         cases U with
         |none=>exact f2.elim
         |some p=>
          obtain⟨j,ai⟩:=p
          obtain⟨rfl,_,f3,_⟩:=f2
          obtain⟨aa,g1,g2,g3,g4⟩:=a4.get f3
          obtain⟨s1,s2,ah⟩:=LL (P:=P) I g2 C w
          refine iC.put H (o':=.map (AG (fun e=>⟨k,v,e.born⟩) es i) c) (jq:=.map (o.modify i fun e=>{e with key:=k',val:=v'}) c) hr hg a3 (fun _ _ h=>by cases h) (fun _ _ h=>by cases h) rfl ⟨rfl,a3,rfl,?_⟩ (run _ ?_) (fQ.undef g)
          · rw[Array.toList_modify]
            exact kN.set a4 (fun e=>⟨k,v,e.born⟩) (fun e=>⟨k',v',e.born⟩) (fun x x' hx=>⟨C,ae,hx.2.2⟩) i
          · intro x hx
            rw[<-hx,fw f1]
            simp only
            have:((o[i]?).map (·.key)).getD k'=aa.key:=by
             have:o[i]?=some aa:=by simpa using g1
             rw[this];rfl
            rw[this,fw s1,p0 _ a2 J]
      · rename_i hf
        cases h
        obtain⟨U,f1,f2⟩:=uJ (w:=w) ok C a4 R hf
        cases U with
        |some p=>exact f2.elim
        |none=>
         refine iC.put H (o':=.map (es++[⟨k,v,c⟩]) (c+1)) (jq:=.map (o.push {key:=k',val:=v',born:=c}) (c+1)) hr hg a3 (fun _ _ h=>by cases h) (fun _ _ h=>by cases h) rfl ⟨rfl,a3,rfl,?_⟩ (run _ ?_) (fQ.undef g)
         · rw[Array.toList_push]
           exact a4.push ⟨C,ae,rfl⟩
         · intro x hx
           rw[<-hx,fw f1]
           simp only
           rw[p0 _ a2 J]
      · cases h
   · cases h
 · cases h
theorem Ch{a a' b b':Value}(h:fQ g a a')(k:fQ g b b'):fQ g (.tuple #[a,b]) (.tuple #[a',b']):=by
 refine .tuple rfl (fun i x x' q j=>?_)
 match i with
 |0=>simp at q j;subst q;subst j;exact h
 |1=>simp at q j;subst q;subst j;exact k
 |i+2=>simp at q
theorem Hy(ok:T.Ok P)(H:gu B0 w0 g hp nx w){t:TypeId}{m ad k k':Value}{e:pR}(h:Ec T hp t m k=some e)(ah:fQ g m ad)(C:fQ g k k'):
 iC B0 w0 g hp nx n w ((Instr.mapEntry t ad k').run P w) e:=by
 unfold Ec at h
 split at h
 · rename_i kt el r hu
   split at h
   · rename_i es c hr
     cases hk:uU T 8 kt k with
     |false=>rw[hk]at h;cases h
     |true=>
      rw[hk]at h
      simp only[cond_true]at h
      have R:=Eg hk
      have aa:(Instr.checkKey false 10000 kt k').run P w=.ok () w:=BN ok 8 10000 kt k k' (by decide) hk C
      obtain⟨rr,hg,rfl⟩:=ah.vE
      obtain⟨o,_,a2,a3,a4⟩:=H.zW hr hg
      have J:∀af e f,Obj.map o c≠.cells af e f:=fun _ _ _ h=>by cases h
      have run:∀y,(∀x,(do match<-Instr.findKey kt k' o.toList with
       |some (i,v)=>do
        let key<-Instr.keyThatStays (((o[i]?).map (·.key)).getD k') k'
        setObj rr (.map (o.modify i fun e=>{e with key}) c)
        pure (.tuple #[v,goInt (((o[i]?).map (·.born)).getD 0)])
       |none=>do
        let zero<-zeroValue el
        setObj rr (.map (o.push {key:=k',val:=zero,born:=c}) (c+1))
        pure (.tuple #[zero,goInt c]):Sem Value).run P w=x->x=y)->
       (Instr.mapEntry t (.map (some rr)) k').run P w=y:=by
       intro y hx
       unfold Instr.mapEntry
       rw[fw (ok.gS hu w)]
       simp only
       rw[fw (nZ a2 J)]
       simp only
       rw[fw aa]
       exact hx _ rfl
      split at h
      · rename_i i e hf
        cases I:Bn e.key k with
        |false=>rw[I]at h;cases h
        |true=>
         rw[I]at h
         simp only[cond_true]at h
         cases h
         obtain⟨U,f1,f2⟩:=uJ (w:=w) ok C a4 R hf
         cases U with
         |none=>exact f2.elim
         |some p=>
          obtain⟨j,ai⟩:=p
          obtain⟨rfl,_,f3,f4⟩:=f2
          obtain⟨ag,g1,g2,g3,g4⟩:=a4.get f3
          obtain⟨s1,s2,aj⟩:=LL (P:=P) I g2 C w
          refine iC.put H (o':=.map (AG (fun e=>⟨k,e.val,e.born⟩) es i) c) (jq:=.map (o.modify i fun e=>{e with key:=k'}) c) hr hg a3 (fun _ _ h=>by cases h) (fun _ _ h=>by cases h) rfl ⟨rfl,a3,rfl,?_⟩ (run (.ok (.tuple #[ai,.int .i64 (.ofNat e.born)]) _) ?_) (Ch f4 (.int _ _))
          · rw[Array.toList_modify]
            exact kN.set a4 (fun e=>⟨k,e.val,e.born⟩) (fun e=>⟨k',e.val,e.born⟩) (fun x x' hx=>⟨C,hx.2.1,hx.2.2⟩) i
          · intro x hx
            rw[<-hx,fw f1]
            simp only
            have hi:o[i]?=some ag:=by simpa using g1
            rw[hi]
            simp only[Option.map_some,Option.getD_some]
            rw[fw s1,fw (p0 _ a2 J),<-g4];rfl
      · rename_i hf
        obtain⟨U,f1,f2⟩:=uJ (w:=w) ok C a4 R hf
        cases U with
        |some p=>exact f2.elim
        |none=>
         split at h
         · rename_i z ab
           cases h
           have ae:fQ g z z:=fQ.of_flat g (ok.qN ab)
           refine iC.put H (o':=.map (es++[⟨k,z,c⟩]) (c+1)) (jq:=.map (o.push {key:=k',val:=z,born:=c}) (c+1)) hr hg a3 (fun _ _ h=>by cases h) (fun _ _ h=>by cases h) rfl ⟨rfl,a3,rfl,?_⟩ (run (.ok (.tuple #[z,.int .i64 (.ofNat c)]) _) ?_) (Ch ae (.int _ _))
           · rw[Array.toList_push]
             exact a4.push ⟨C,ae,rfl⟩
           · intro x hx
             rw[<-hx,fw f1]
             simp only
             rw[fw (ok.pZ ab w),fw (p0 _ a2 J)];rfl
         · cases h
      · cases h
   · cases h
 · cases h
theorem DB{b:Nat}{v v':Value}(C:fQ g v v'):∀(es j:List MapEntry) (r:List MapEntry),kN g es j->Fl b v es=some r->
 ∃i,j.findIdx? (fun e=>(e.born:Int)==((b:Nat):Int))=some i/\kN g r (j.modify i fun e=>{e with val:=v'})
 |[],_,_,_,h=>by cases h
 |_::_,[],_,h,_=>by have:=h.1;simp at this
 |e::es,I::j,r,hr,h=>by
  simp only[Fl]at h
  obtain⟨r1,r2,o⟩:=hr.head
  cases hb:Nat.beq e.born b with
  |true=>
   rw[hb]at h
   simp only[cond_true]at h;cases h
   have hb:=Nat.eq_of_beq_eq_true hb
   refine⟨0,?_,?_⟩
   · rw[List.findIdx?_cons,if_pos (by rw[<-o,hb];simp)]
   · rw[List.modify_zero_cons];exact kN.cons ⟨r1,C,o⟩ hr.tail
  |false=>
   rw[hb]at h
   simp only[cond_false]at h
   obtain⟨l,h1,rfl⟩:=Option.map_eq_some_iff.1 h
   obtain⟨i,J,R⟩:=DB C es j l hr.tail h1
   have jG:I.born≠b:=fun q=>by rw[<-o]at q;rw[q,Nat.beq_refl]at hb;cases hb
   refine⟨i+1,?_,?_⟩
   · rw[List.findIdx?_cons,if_neg (by simp;omega),J];rfl
   · rw[List.modify_succ_cons];exact kN.cons ⟨r1,r2,o⟩ R
theorem FH(H:gu B0 w0 g hp nx w){t:TypeId}{m I s J v v':Value}{u:tH}(h:BL hp m s v=some u)(ab:fQ g m I)(rs:fQ g s J)(ad:fQ g v v'):
 iC B0 w0 g hp nx n w ((do Instr.entryStore t I J v';pure undef:Sem Value).run P w) (undef,u,0):=by
 unfold BL at h
 split at h
 · rename_i r C b
   split at h
   · rename_i es c hr
     obtain⟨l,h1,rfl⟩:=Option.map_eq_some_iff.1 h
     obtain⟨rr,hg,rfl⟩:=ab.vE
     obtain rfl:=rs.kQ
     obtain⟨j,_,a2,a3,a4⟩:=H.zW hr hg
     have o:∀R e f,Obj.map j c≠.cells R e f:=fun _ _ _ h=>by cases h
     obtain⟨i,U,aa⟩:=DB ad es j.toList l a4 h1
     refine iC.put H (o':=.map l c) (jq:=.map (j.modify i fun e=>{e with val:=v'}) c) hr hg a3 (fun _ _ h=>by cases h) (fun _ _ h=>by cases h) rfl ⟨rfl,a3,rfl,by rw[Array.toList_modify];exact aa⟩ ?_ (fQ.undef g)
     have:(Instr.entryStore t (.map (some rr)) (.int C (.ofNat b)) v').run P w=.ok () (w.putObj rr (.map (j.modify i fun e=>{e with val:=v'}) c)):=by
      unfold Instr.entryStore
      simp only
      rw[fw (nZ a2 o)]
      simp only
      rw[fw (show(asInt (.int C (.ofNat b))).run P w=.ok (.ofNat b) w from rfl)]
      have:j.findIdx? (fun e=>(e.born:Int)==Int.ofNat b)=some i:=by
       have q:=List.findIdx?_toArray (p:=fun e:MapEntry=>(e.born:Int)==Int.ofNat b) (l:=j.toList)
       rw[Array.toArray_toList]at q
       rw[q];exact U
      rw[this]
      exact p0 _ a2 o
     rw[fw this];rfl
   · cases h
 · cases h
end
end
end Sw
namespace Sw
noncomputable section
open Go Go.RowKit
section
variable {T:Ty}{P:Program}{B0:Nat}{w0:World}{g:Gm}{hp:Hp}{nx n:Nat}{w:World}
theorem LM(ok:T.Ok P)(H:gu B0 w0 g hp nx w){t:TypeId}{x x':Value}{e:pR}(h:LJ T hp t x n=some e)(rx:fQ g x x'):
 iC B0 w0 g hp nx n w ((Instr.range t x').run P w) e:=by
 unfold LJ at h
 split at h
 · rename_i s hu
   cases h
   obtain rfl:=rx.kS
   refine iC.new H (o:=.Fe s 0) (jq:=.stringIter s 0) (fun _ _ h=>by cases h) rfl (fun _=>⟨rfl,H.base,rfl,rfl⟩) ?_ (v':=.pointer (some ⟨w.heap.size,0,none⟩)) (.ptr (Gm.lQ _ _ _ _))
   unfold Instr.range
   rw[fw (ok.gS hu w)]
   simp only
   rfl
 · rename_i k el hu
   cases h
   obtain rfl:=rx.pX
   refine iC.new H (o:=.mapIter none 0 [] 0) (jq:=.mapIter none 0 #[] 0) (fun _ _ h=>by cases h) rfl (fun _=>⟨rfl,H.base,rfl,rfl,rfl,trivial⟩) ?_ (v':=.pointer (some ⟨w.heap.size,0,none⟩)) (.ptr (Gm.lQ _ _ _ _))
   unfold Instr.range
   rw[fw (ok.gS hu w)]
   simp only
   rfl
 · rename_i k el m hu
   split at h
   · rename_i es c hm
     cases h
     obtain⟨rr,hg,rfl⟩:=rx.vE
     obtain⟨j,_,a2,a3,a4⟩:=H.zW hm hg
     refine iC.new H (o:=.mapIter (some m) c [] c) (jq:=.mapIter (some rr) c #[] c) (fun _ _ h=>by cases h) rfl (fun f0=>⟨rfl,H.base,rfl,rfl,rfl,?_⟩) ?_ (v':=.pointer (some ⟨w.heap.size,0,none⟩)) (.ptr (Gm.lQ _ _ _ _))
     · exact(Gm.qM f0.gb _ _).1 _ _ hg
     · unfold Instr.range
       rw[fw (ok.gS hu w)]
       simp only
       rw[fw (nZ a2 (fun _ _ _ h=>by cases h))]
       rfl
   · cases h
 · cases h
def IM(g:Gm):Option Nat->Option Nat->Prop
 |none,none=>True
 |some a,some a'=>g.gb a=some (a',0)
 |_,_=>False
theorem gu.LN(H:gu B0 w0 g hp nx w){b:Nat}{m:Option Nat}{s st:Nat}{seen:List Nat}(h:hp b=some (.mapIter m s seen st)){rb ro:Nat}(hb:g.gb b=some (rb,ro)):
 ∃o j,ro=0/\w.heap[rb]?=some (.mapIter o s j st)/\B0<=rb/\seen=j.toList/\IM g m o:=by
 obtain⟨jq,a2,a3⟩:=(H.live b _ h).2 _ _ hb
 cases jq<;>first|exact a3.elim|skip
 rename_i o _ _ _
 obtain⟨rfl,C,rfl,I,rfl,J⟩:=a3
 refine⟨_,_,rfl,a2,C,I,?_⟩
 cases m<;>cases o<;>exact J
theorem Hz{b:Nat}:∀(es j:List MapEntry) (e:MapEntry),kN g es j->es.find? (fun e=>Nat.beq e.born b)=some e->∃o,j.find? (fun e=>e.born==b)=some o/\fQ g e.key o.key/\fQ g e.val o.val
 |[],_,_,_,h=>by cases h
 |_::_,[],_,h,_=>by have:=h.1;simp at this
 |x::es,x'::j,e,hr,h=>by
  obtain⟨r1,r2,C⟩:=hr.head
  rw[List.find?_cons]at h
  rw[List.find?_cons]
  cases hb:Nat.beq x.born b with
  |true=>
   rw[hb]at h;cases h
   have hb:=Nat.eq_of_beq_eq_true hb
   have:(x'.born==b)=true:=by rw[<-C,hb];simp
   rw[this];exact⟨x',rfl,r1,r2⟩
  |false=>
   rw[hb]at h
   have:(x'.born==b)=false:=by
    cases q:(x'.born==b)with
    |false=>rfl
    |true=>rw[beq_iff_eq]at q;rw[C,q,Nat.beq_refl]at hb;cases hb
   rw[this]
   exact Hz es j e hr.tail h
theorem LO(H:gu B0 w0 g hp nx w){x x' v:Value}(h:LK hp x=some v)(rx:fQ g x x'):
 iC B0 w0 g hp nx n w ((Instr.entry x').run P w) (v,[],0):=by
 unfold LK at h
 split at h
 · rename_i r sp
   split at h
   · rename_i m since seen st hr
     split at h
     · rename_i j es clock hs hm
       cases hb:Nat.beq clock st with
       |false=>rw[hb]at h;cases h
       |true=>
        rw[hb]at h
        simp only[cond_true]at h
        split at h
        · rename_i e hf
          cases h
          obtain⟨rfl,rb,ro,hg,rfl⟩:=rx.sn
          obtain⟨J,o,rfl,a2,a3,a4,a5⟩:=H.LN hr hg
          cases J with
          |none=>exact a5.elim
          |some J=>
           have a5:g.gb m=some (J,0):=a5
           obtain⟨C,_,b2,aa,R⟩:=H.zW hm a5
           obtain⟨I,c1,c2,U⟩:=Hz es C.toList e R hf
           refine iC.pure H (v':=.tuple #[I.key,I.val]) ?_ (Ch c2 U)
           unfold Instr.entry
           simp only[Nat.add_zero]
           rw[fw (nZ a2 (fun _ _ _ h=>by cases h))]
           simp only
           have:o.back?=some j:=by
            rw[a4]at hs
            rw[<-Array.getLast?_toList];exact hs
           rw[this]
           simp only
           rw[fw (nZ b2 (fun _ _ _ h=>by cases h))]
           simp only
           have hb:=Nat.eq_of_beq_eq_true hb
           subst hb
           rw[if_neg (by simp)]
           have q:C.find? (fun e=>e.born==j)=some I:=by rw[<-Array.find?_toList];exact c1
           rw[q];rfl
        · cases h
     · cases h
   · cases h
 · cases h
theorem Pw{x y x' y' v:Value}(h:Sw.max2 x y=some v)(rx:fQ g x x')(o:fQ g y y')(w:World):(Builtin.max2 x' y').run P w=.ok v w/\fQ g v v:=by
 unfold Sw.max2 at h
 split at h
 · rename_i k a C b
   cases h
   obtain rfl:=rx.kQ
   obtain rfl:=o.kQ
   refine⟨?_,.int _ _⟩
   rw[DY]
   simp only[Builtin.max2,gt_iff_lt]
   by_cases j:a<b
   · rw[if_pos j,decide_eq_true j];rfl
   · rw[if_neg j,decide_eq_false j];rfl
 · cases h
theorem Px{x y x' y' v:Value}(h:Sw.min2 x y=some v)(rx:fQ g x x')(o:fQ g y y')(w:World):(Builtin.min2 x' y').run P w=.ok v w/\fQ g v v:=by
 unfold Sw.min2 at h
 split at h
 · rename_i k a C b
   cases h
   obtain rfl:=rx.kQ
   obtain rfl:=o.kQ
   refine⟨?_,.int _ _⟩
   rw[DY]
   simp only[Builtin.min2]
   by_cases j:b<a
   · rw[if_pos j,decide_eq_true j];rfl
   · rw[if_neg j,decide_eq_false j];rfl
 · cases h
theorem BO{f:Value->Value->Option Value}{f':Value->Value->Sem Value}(hf:∀x y x' y' v,f x y=some v->fQ g x x'->fQ g y y'->(f' x' y').run P w=.ok v w/\fQ g v v):
 ∀(l j:List Value) (x x' v:Value),K9 f x l=some v->fQ g x x'->gX g l j->∃v',(j.foldlM f' x').run P w=.ok v' w/\fQ g v v'
 |[],[],x,x',v,h,rx,_=>by cases h;exact⟨x',rfl,rx⟩
 |[],_::_,_,_,_,_,_,hl=>by have:=hl.1;simp at this
 |_::_,[],_,_,_,_,_,hl=>by have:=hl.1;simp at this
 |y::l,y'::j,x,x',v,h,rx,hl=>by
  simp only[K9]at h
  split at h
  · rename_i z o
    obtain⟨h1,h2⟩:=hf _ _ _ _ _ o rx hl.head
    obtain⟨v',h3,h4⟩:=BO hf l j z z v h h2 hl.tail
    refine⟨v',?_,h4⟩
    rw[List.foldlM_cons,fw h1];exact h3
  · cases h
theorem Py(H:gu B0 w0 g hp nx w){ts:Array TypeId}{ty:TypeId}{l:List Value}{o:Array Value}{v:Value}(hl:gX g l o.toList)(h:IU Sw.max2 l=some v):
 iC B0 w0 g hp nx n w ((Builtin.max_ ts ty o).run P w) (v,[],0):=by
 unfold IU at h
 cases l with
 |nil=>cases h
 |cons x xs=>
  cases j:o.toList with
  |nil=>rw[j]at hl;have:=hl.1;simp at this
  |cons x' C=>
   rw[j]at hl
   obtain⟨v',h1,h2⟩:=BO (P:=P) (w:=w) (f':=Builtin.max2) (fun x y x' y' v h rx I=>Pw h rx I w) xs C x x' v h hl.head hl.tail
   refine iC.pure H (v':=v') ?_ h2
   unfold Builtin.max_
   rw[j];exact h1
theorem Pz(H:gu B0 w0 g hp nx w){ts:Array TypeId}{ty:TypeId}{l:List Value}{o:Array Value}{v:Value}(hl:gX g l o.toList)(h:IU Sw.min2 l=some v):
 iC B0 w0 g hp nx n w ((Builtin.min_ ts ty o).run P w) (v,[],0):=by
 unfold IU at h
 cases l with
 |nil=>cases h
 |cons x xs=>
  cases j:o.toList with
  |nil=>rw[j]at hl;have:=hl.1;simp at this
  |cons x' C=>
   rw[j]at hl
   obtain⟨v',h1,h2⟩:=BO (P:=P) (w:=w) (f':=Builtin.min2) (fun x y x' y' v h rx I=>Px h rx I w) xs C x x' v h hl.head hl.tail
   refine iC.pure H (v':=v') ?_ h2
   unfold Builtin.min_
   rw[j];exact h1
end
end
end Sw
