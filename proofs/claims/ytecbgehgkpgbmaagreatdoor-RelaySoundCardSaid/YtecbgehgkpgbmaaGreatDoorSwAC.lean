/- A part of the proof that the law returns true for every input that its row speaks of. No condition is added. -/
import Derived.Test.YtecbgehgkpgbmaaGreatDoorSwAB
namespace Sw
noncomputable section
open Go Go.RowKit
section
variable {T:Ty}{P:Program}{B0:Nat}{w0:World}{g:Gm}{O:Hp}{G n:Nat}{w:World}
theorem GS(ok:T.Ok P)(H:gm B0 w0 g O G w){t:TypeId}{l c A o:Value}{e:p0}(h:wi T t l c n=some e)(rl:fK g l A)(C:fK g c o):
 iA B0 w0 g O G n w ((Instr.makeSlice t A o).run P w) e:=by
 unfold wi at h
 split at h
 · rename_i el J l K c hu
   split at h
   · rename_i inf pq
     split at h
     · rename_i z u
       cases hb:(Nat.ble l c&&(Nat.ble (c*inf.bytes) 1099511627776&&Nat.blt c 2147483648))with
       |false=>rw[hb]at h;cases h
       |true=>
        rw[hb]at h
        simp only[cond_true]at h
        cases h
        simp only[Bool.and_eq_true]at hb
        obtain⟨b1,b2,m⟩:=hb
        have b1:=fa b1
        have b2:=fa b2
        have m:=mE.1 m
        obtain rfl:=rl.kU
        obtain rfl:=C.kU
        have hzero:T.zero el=some z:=by unfold Ty.zero;rw[pq];exact u
        have b:T.size el=some inf.size:=by unfold Ty.size;rw[pq];rfl
        have j:=ok.VI el inf z pq u
        have F:IntKind.i64.wrap (Int.ofNat l)=(l:Int):=wrap_small (by omega)
        have E:IntKind.i64.wrap (Int.ofNat c)=(c:Int):=wrap_small m
        refine BG H (Z:=kH c z.cells.toList) (lA:=kH c z.cells.toList) (gV.kH (gV.BF (ok.qT hzero)) c) b1 el ?_
        unfold Instr.makeSlice
        rw[fk (ok.gQ hu w)]
        simp only[asInt,asIntOf,pure_bind]
        rw[fk (ok.rT pq w)]
        simp only[F,E]
        have B:¬(((decide ((c:Int)<0)||decide ((inf.bytes:Int)*(c:Int)>2^48))||decide ((l:Int)<0)||decide ((l:Int)>(c:Int)))=true):=by
         have:(inf.bytes:Int)*(c:Int)<=1099511627776:=by
          have:((inf.bytes*c:Nat):Int)<=1099511627776:=by rw[Nat.mul_comm];omega
          simpa using this
         simp only[Bool.or_eq_true,decide_eq_true_eq]
         have p:(2:Int)^48=281474976710656:=by decide
         rw[p]
         omega
        rw[if_neg B]
        simp only[Int.toNat_natCast]
        rw[fk (run_askRoom _ _),fk (ok.n_ b w)]
        have fin:∀zero:Array Value,((Array.range (c*inf.size)).map (zero[· %zero.size]!))=(kH c z.cells.toList).toArray->
         (do let a<-newRow el ((Array.range (c*inf.size)).map (zero[· %zero.size]!));pure (.slice (some a) l c):Sem Value).run P w=.ok (.slice (some ⟨w.heap.size,0,none⟩) l c) (w.alloc (.cells (kH c z.cells.toList).toArray el)):=by
         intro zero y
         rw[y,fk (tk _ _ _)];rfl
        by_cases h0:c*inf.size=0
        · rw[if_pos h0]
          refine fin #[] ?_
          rw[h0]
          have:kH c z.cells.toList=[]:=by
           rw[<-List.length_eq_zero_iff,A7,Array.length_toList,j];exact h0
          rw[this];simp
        · rw[if_neg h0]
          have step:(do pure (<-zeroValue el).cells:Sem (Array Value)).run P w=.ok z.cells w:=by rw[fk (ok.qe hzero w)];rfl
          have:((Array.range (c*inf.size)).map (z.cells[· %z.cells.size]!))=(kH c z.cells.toList).toArray:=by
           rw[<-j,<-Array.toList_inj,Cy]
          have f:=fin z.cells this
          first
           |(rw[fk step];exact f)
           |(rw[fk (ok.qe hzero w)];exact f)
     · cases h
   · cases h
 · cases h
theorem P1(ok:T.Ok P)(H:gm B0 w0 g O G w){t:TypeId}{ts:Array TypeId}(j:ts[0]?=some t){x x' v:Value}(h:TP T O t x=some v)(rx:fK g x x')(args:Array Value)(b:args[0]?=some x')(ty:TypeId):
 iA B0 w0 g O G n w ((Builtin.cap_ ts ty args).run P w) (v,[],0):=by
 unfold TP at h
 split at h
 · rename_i k el hu
   cases h
   refine iA.pure H ?_ (.int _ _)
   simp only[Builtin.cap_,j,b]
   rw[fk (ok.gQ hu w)]
   cases x'<;>rfl
 · rename_i el l c hu
   cases h
   obtain⟨rfl,rfl,rfl⟩:=rx.lW
   refine iA.pure H ?_ (.int _ _)
   simp only[Builtin.cap_,j,b]
   rw[fk (ok.gQ hu w)]
   rfl
 · rename_i el a l c hu
   split at h
   · rename_i Z mt hb
     split at h
     · rename_i o
       cases h
       rcases rx.mW with⟨a2,rfl,rfl,rfl⟩|⟨_,rb,ro,c2,hg,hl,hc,rfl⟩
       · refine iA.pure H ?_ (.int _ _)
         simp only[Builtin.cap_,j,b]
         rw[fk (ok.gQ hu w)]
         rfl
       · obtain⟨J,y,z,A,B,C,E,F,p⟩:=H.uZ hb hg
         have e:=p o
         have m:c=c2:=by
          rcases hc with hc|⟨_,K,u,D,_⟩
          · exact hc
          · rw[e]at D;cases D
         subst m
         refine iA.pure H ?_ (.int _ _)
         simp only[Builtin.cap_,j,b]
         rw[fk (ok.gQ hu w)]
         rfl
     · cases h
   · cases h
 · cases h
theorem iA.jC(H:gm B0 w0 g O G w){b off rb ro:Nat}{Z vs e:List Value}{m:gi}{u:ub}(hb:O b=some (.cells Z m))(hg:g.fW b=some (rb,ro))(hu:oh O b Z m off vs=some u)
 (p:gV g vs e) (j:∀v∈vs,one v=true) {x:Result Value} {v v':Value} (hx:∀w',(storeCells ⟨rb,ro+off,none⟩ e).run P w=.ok () w'->x=.ok v' w') (o:fK g v v'):
 iA B0 w0 g O G n w x (v,u,0):=by
 obtain⟨w',r1,r2,y,z⟩:=v_ (P:=P) H hb hg hu p j
 intro e5 h1 _ _
 exact⟨g,v',w',hx w' r1,Gm.le_refl g,fun _ h=>.inl h,o,r2.AM h1,y,by omega,pD.refl _ _⟩
theorem TR{z:Value}(h:flat z=true):∀v∈z.cells.toList,one v=true:=by
 intro v b
 unfold flat at h
 split at h
 · rename_i Z
   rw[List.all_eq_true]at h
   have:=h v b
   unfold FJ at this
   split at this<;>first|rfl|cases this
 · rename_i hn
   have:z.cells=#[z]:=by
    unfold Value.cells
    split
    · exact(hn _ rfl).elim
    · rfl
   rw[this]at b
   simp at b
   subst b
   unfold FJ at h
   split at h<;>first|rfl|cases h
theorem Mb{z:List Value}(h:∀v∈z,one v=true):∀m,∀v∈kH m z,one v=true
 |0,v,b=>by simp[kH]at b
 |m+1,v,b=>by
  simp only[kH,List.mem_append]at b
  rcases b with b|b
  · exact h v b
  · exact Mb h m v b
theorem Mc(ok:T.Ok P)(H:gm B0 w0 g O G w){t:TypeId}{ts:Array TypeId}(m:ts[0]?=some t){x x':Value}{e:p0}(h:L5 T O t x=some e)(rx:fK g x x')(args:Array Value)(j:args[0]?=some x')(ty:TypeId):
 iA B0 w0 g O G n w ((Builtin.clear_ ts ty args).run P w) e:=by
 have rt:fK g (.tuple #[]) (.tuple #[]):=fK.undef g
 unfold L5 at h
 split at h
 · rename_i d hu
   split at h
   · cases h
     obtain rfl:=rx.qc
     refine iA.pure H ?_ rt
     simp only[Builtin.clear_,m,j]
     rw[fk (ok.gQ hu w)]
     rfl
   · cases h
     obtain⟨rfl,rfl,rfl⟩:=rx.lW
     refine iA.pure H ?_ rt
     simp only[Builtin.clear_,m,j]
     rw[fk (ok.gQ hu w)]
     rfl
   · rename_i a c
     cases h
     have:∃a2 c2,x'=.slice (some a2) 0 c2:=by
      rcases rx.mW with⟨a2,_,_,rfl⟩|⟨_,rb,ro,c2,_,_,_,rfl⟩
      · exact⟨_,_,rfl⟩
      · exact⟨_,_,rfl⟩
     obtain⟨a2,c2,rfl⟩:=this
     refine iA.pure H ?_ rt
     simp only[Builtin.clear_,m,j]
     rw[fk (ok.gQ hu w)]
     rfl
   · rename_i r
     split at h
     · rename_i es c hr
       cases h
       obtain⟨rr,hg,rfl⟩:=rx.vW
       obtain⟨B,_,a2,a3,a4⟩:=H.As hr hg
       have A:∀F e f,Obj.map B c≠.cells F e f:=fun _ _ _ h=>by cases h
       refine iA.put H (o':=.map [] c) (jo:=.map #[] c) hr hg a3 (fun _ _ h=>by cases h) (fun _ _ h=>by cases h) rfl ⟨rfl,a3,rfl,kP.nil⟩ ?_ rt
       simp only[Builtin.clear_,m,j]
       rw[fk (ok.gQ hu w)]
       rw[fk (oy a2 A)]
       simp only
       rw[fk (qf _ a2 A)]
       rfl
     · cases h
   · rename_i b off p c y
     split at h
     · rename_i el
       split at h
       · rename_i z J mt E hb
         split at h
         · rename_i u C
           cases h
           have BH:=ok.qT E
           rcases rx.mW with⟨a2,rfl,rfl,rfl⟩|⟨_,rb,ro,c2,hg,hl,hc,rfl⟩
           · exact(y rfl).elim
           · refine iA.jC (P:=P) H hb hg C (gV.kH (gV.BF BH) p) (Mb (TR BH) p) (fun w' hw=>?_) rt
             simp only[Builtin.clear_,m,j]
             rw[fk (ok.gQ hu w)]
             obtain⟨o,rfl⟩:∃o,p=o+1:=⟨p-1,by have:p≠0:=fun h=>y h;omega⟩
             simp only
             rw[fk (ok.qe E w)]
             have:(Builtin.zeroCells z.cells (o+1)).toList=kH (o+1) z.cells.toList:=by
              unfold Builtin.zeroCells;exact Cy z.cells (o+1)
             rw[this,fk hw]
             rfl
         · cases h
       · cases h
     · cases h
   · cases h
 · cases h
theorem Oc(ok:T.Ok P)(H:gm B0 w0 g O G w){t:TypeId}{ts:Array TypeId}(X:ts[0]?=some t){d d' x x':Value}{e:p0}(h:PV T O t d x=some e)(rd:fK g d d')(rx:fK g x x')
 (args:Array Value) (W:args[0]?=some d') (hb:args[1]?=some x') (ty:TypeId):iA B0 w0 g O G n w ((Builtin.copy_ ts ty args).run P w) e:=by
 unfold PV at h
 split at h
 · rename_i el base B cap hu
   split at h
   · rename_i size E R p
     split at h
     · rename_i Z j
       cases C:uD size x with
       |false=>rw[C]at j;cases j
       |true=>
        rw[C]at j
        simp only[cond_true]at j
        have z:A9 E B=Nat.min E B:=TO E B
        have hlen:(Builtin.lenOf x').run P w=.ok E w:=by
         unfold EE at p
         split at p
         · rename_i a l c
           cases p
           cases rx<;>rfl
         · rename_i s
           cases p
           obtain rfl:=rx.kY
           have:s.size=(strs s).length:=by unfold strs;rw[Array.length_toList];rfl
           show Result.ok s.size w=_
           rw[this]
         · cases p
        obtain⟨lA,c1,c2⟩:=CB (P:=P) (size:=size) (m:=A9 E B) H j rx rfl (fun s hs=>by
         subst hs
         simp only[EE]at p;cases p
         refine⟨fj C,?_⟩
         rw[z];exact Nat.min_le_left _ _) (fun a l c hs=>by
         subst hs
         simp only[EE]at p;cases p
         rw[z];exact Nat.min_le_left _ _)
        have hd:∃o F,d'=.slice o B F/\((base=none/\o=none)\/(∃a2,o=some a2/\B=0)\/∃b off rb ro,base=some ⟨b,off,none⟩/\g.fW b=some (rb,ro)/\o=some ⟨rb,ro+off,none⟩):=by
         cases base with
         |none=>obtain⟨rfl,rfl,rfl⟩:=rd.lW;exact⟨none,0,rfl,.inl ⟨rfl,rfl⟩⟩
         |some a=>
          rcases rd.mW with⟨a2,rfl,rfl,rfl⟩|⟨L,rb,ro,c2,hg,hl,hc,rfl⟩
          · exact⟨_,_,rfl,.inr (.inl ⟨_,rfl,rfl⟩)⟩
          · obtain⟨b,off,ac⟩:=a
            simp only at L;subst L
            exact⟨_,_,rfl,.inr (.inr ⟨b,off,rb,ro,rfl,hg,rfl⟩)⟩
        obtain⟨o,F,rfl,J⟩:=hd
        have run:∀y,(do
         if let some a:=o then storeCells a lA
         pure (goInt (A9 E B)):Sem Value).run P w=y->(Builtin.copy_ ts ty args).run P w=y:=by
         intro y hy
         simp only[Builtin.copy_,X,W,hb]
         rw[fk (ok.gQ hu w)]
         simp only
         rw[fk hlen,fk (ok.n_ R w),<-z,fk c1]
         exact hy
        split at h
        · cases h
          have:lA=[]:=by rw[<-List.length_eq_zero_iff,<-c2.1];rfl
          subst this
          refine iA.pure H (run _ ?_) (.int _ _)
          cases o<;>rfl
        · rename_i b off jB
          cases A:Z.all one with
          |false=>rw[A]at h;cases h
          |true=>
           rw[A]at h
           simp only[cond_true]at h
           split at h
           · rename_i ab mt N
             obtain⟨u,S,rfl⟩:=fx.1 h
             have K:∀v∈Z,one v=true:=by rw[List.all_eq_true]at A;exact A
             rcases J with⟨M,_⟩|⟨a2,rfl,rfl⟩|⟨b',aa,rb,ro,M,hg,rfl⟩
             · cases M
             · exfalso
               have:A9 E 0=0:=by rw[z];exact Nat.min_zero _
               rw[this,Nat.zero_mul]at j
               apply jB
               unfold lL at j
               split at j<;>first|(cases j;rfl)|(simp[lH]at j;exact j.symm)|(simp at j;exact j.symm)|(cases j;done)
             · cases M
               refine iA.jC (P:=P) H N hg S c2 K (fun w' hw=>run _ ?_) (.int _ _)
               simp only
               rw[fk hw];rfl
           · cases h
        · cases h
     · cases h
   · cases h
 · cases h
theorem F5(ok:T.Ok P)(H:gm B0 w0 g O G w){x x' v:Value}{xt a:TypeId}{b:Bool}(h:Ca T x a b=some v)(rx:fK g x x'):
 iA B0 w0 g O G n w ((Instr.typeAssert x' xt a b).run P w) (v,[],0):=by
 unfold Ca at h
 split at h
 · cases h
 · rename_i d m hu
   obtain rfl:=rx.oQ
   cases b with
   |false=>cases h
   |true=>
    simp only[cond_true]at h
    obtain⟨z,o,rfl⟩:=fx.1 h
    refine iA.pure H ?_ (CH (fK.of_flat g (ok.qT o)) (.bool _))
    unfold Instr.typeAssert
    rw[fk (ok.gQ hu w)]
    have run:∀s:Option TypeId,(do if true=true then pure (Value.tuple #[<-zeroValue a,.bool false])else runtimePanic (.typeAssertion s none a ""):Sem Value).run P w=.ok (.tuple #[z,.bool false]) w:=fun s=>by
     rw[if_pos rfl,fk (ok.qe o w)];rfl
    cases d<;>first|(exact(m _ rfl).elim)|exact run (some xt)
 · rename_i d t v0 m hu
   obtain⟨v',rfl,p⟩:=rx.xC
   cases j:Nat.beq t a with
   |true=>
    rw[j]at h
    simp only[cond_true]at h
    cases h
    have j:=fj j
    subst j
    refine iA.pure H (v':=bif b then .tuple #[v',.bool true]else v') ?_ ?_
    · unfold Instr.typeAssert
      rw[fk (ok.gQ hu w)]
      cases d<;>first|(exact(m _ rfl).elim)|(simp only[if_true];cases b<;>rfl)
    · cases b
      · exact p
      · exact CH p (.bool _)
   |false=>
    rw[j]at h
    simp only[cond_false]at h
    have jB:t≠a:=fun e=>by subst e;rw[Nat.beq_refl]at j;cases j
    cases b with
    |false=>cases h
    |true=>
     simp only[cond_true]at h
     obtain⟨z,o,rfl⟩:=fx.1 h
     refine iA.pure H ?_ (CH (fK.of_flat g (ok.qT o)) (.bool _))
     unfold Instr.typeAssert
     rw[fk (ok.gQ hu w)]
     have run:∀(s r:Option TypeId),(do if true=true then pure (Value.tuple #[<-zeroValue a,.bool false])else runtimePanic (.typeAssertion s r a ""):Sem Value).run P w=.ok (.tuple #[z,.bool false]) w:=fun s r=>by
      rw[if_pos rfl,fk (ok.qe o w)];rfl
     cases d<;>first|(exact(m _ rfl).elim)|(simp only[if_neg jB];exact run (some xt) (some t))
 · cases h
end
end
end Sw
namespace Sw
noncomputable section
open Go Go.RowKit
section
variable {T:Ty}{P:Program}{B0:Nat}{w0:World}{g:Gm}{O:Hp}{G n:Nat}{w:World}
theorem tj.freeze{rb:Nat}{b:Array Value}{el:TypeId}{m:Nat×Nat}(hw:w.heap[rb]?=some (.cells b el m))(hf:GJ b.size m):
 ∃j,GJ b.size j/\tj w (w.freeze ⟨rb,b.size,none⟩ 1) rb (.cells b el j):=by
 have jA:=sq hw
 obtain⟨lo,hi⟩:=m
 refine⟨if lo==hi then(b.size,b.size+1)else(min lo b.size,max hi (b.size+1)),?_,?_⟩
 · split
   · exact .inr (e9 _)
   · rename_i h
     rcases hf with hf|hf
     · simp only at hf;subst hf;simp at h
     · refine .inr ?_
       show b.size<=min lo b.size
       have:b.size<=lo:=hf
       omega
 · have e:w.freeze ⟨rb,b.size,none⟩ 1={w with heap:=w.heap.modify rb fun
    |.cells c elem (lo,hi)=>.cells c elem (if lo==hi then(b.size,b.size+1)else(min lo b.size,max hi (b.size+1)))
    |o=>o}:=rfl
   rw[e]
   refine⟨rfl,rfl,rfl,by simp,?_,fun k hk=>?_,e9 _⟩
   · simp only[Array.getElem?_modify,if_true,hw];rfl
   · simp only[Array.getElem?_modify,if_neg (Ne.symm hk)]
theorem gm.Rs(H:gm B0 w0 g O G w){w':World}{rb:Nat}{u:Array Value}{el:TypeId}{z m:Nat×Nat}(hw:w.heap[rb]?=some (.cells u el z))(A:B0<=rb)(hf:GJ u.size m)
 (j:tj w w' rb (.cells u el m)):gm B0 w0 g O G w':=by
 refine⟨?_,?_,?_,?_,H.ph,H.mem,H.sep,H.room⟩
 · exact H.below.trans ⟨⟨j.os,j.tape,j.output,j.size,fun k hk=>j.other k (by omega)⟩,j.drawn⟩
 · have:=H.base;have:=j.size;omega
 · intro b r1 r2 e
   obtain⟨p,q⟩:=H.rH b r1 r2 e
   exact⟨p,by have:=j.size;omega⟩
 · intro b ob e
   obtain⟨p,q⟩:=H.live b ob e
   refine⟨p,fun r1 r2 a1=>?_⟩
   obtain⟨y,a2,a3⟩:=q r1 r2 a1
   by_cases o:r1=rb
   · subst o
     rw[hw]at a2;cases a2
     refine⟨_,j.at_,?_⟩
     cases ob<;>first|exact a3.elim|skip
     · obtain⟨B,C,J,E,F⟩:=a3
       exact⟨B,C,fun _=>⟨A,hf⟩,E,F⟩
     · rename_i d;cases d<;>exact a3.elim
   · exact⟨y,(j.other r1 o).trans a2,a3⟩
theorem Ag{rb off:Nat}{b:Array Value}{el:TypeId}{e:Nat×Nat}(hw:w.heap[rb]?=some (.cells b el e)):
 (markStringish ⟨rb,off,none⟩).run P w=.ok () (w.freeze ⟨rb,b.size,none⟩ 1):=by
 unfold markStringish
 have:(shape rb).run P w=.ok (some (el,b.size)) w:=by
  simp[shape,Sem.run,World.shape?,hw]
 rw[fk this];rfl
theorem D0:∀(vs:List Value) (e:List UInt8),bytesOf vs=some e->∀(b:List Value),gV g vs b->∀s:ByteArray,
 (forIn b s fun c (s:ByteArray)=>(do
   let .int .u8 n:=c|stuck "bytesToString: byte expected"
   pure (ForInStep.yield (s.push (UInt8.ofNat n.toNat))):Sem (ForInStep ByteArray))).run P w=.ok ⟨(s.data.toList++e).toArray⟩ w
 |[],e,h,b,hl,s=>by
  cases h
  have:b=[]:=by have:=hl.1;exact List.length_eq_zero_iff.1 (by simpa using this.symm)
  subst this
  simp
 |v::vs,e,h,b,hl,s=>by
  unfold bytesOf at h
  split at h
  · cases ‹v::vs=[]›
  · rename_i k o m
    cases m
    split at h
    · rename_i j hb
      cases h
      cases b with
      |nil=>have:=hl.1;simp at this
      |cons v' b=>
       have:=hl.head
       obtain rfl:=this.kU
       rw[List.forIn_cons]
       rw[fk (show(pure (ForInStep.yield (s.push (UInt8.ofNat (Int.ofNat k).toNat))):Sem (ForInStep ByteArray)).run P w=.ok (ForInStep.yield (s.push (UInt8.ofNat k))) w from rfl)]
       simp only
       rw[D0 vs j hb b hl.tail (s.push (UInt8.ofNat k))]
       congr 2
       simp[ByteArray.push]
    · cases h
  · cases h
end
end
end Sw
namespace Sw
noncomputable section
open Go Go.RowKit
section
variable {T:Ty}{P:Program}{B0:Nat}{w0:World}{g:Gm}{O:Hp}{G n:Nat}{w:World}
theorem Eh(H:gm B0 w0 g O G w)(s:ByteArray)(el:TypeId):
 iA B0 w0 g O G n w ((Conv.stringToBytes el s).run P w) (.slice (some ⟨n+1,0,none⟩) (strs s).length (strs s).length,
  [(n,some (jM.group [⟨n+1,0,(strs s).length⟩])),(n+1,some (jM.cells ((strs s).map CA) ⟨false,some n,0,1⟩))],2):=by
 have z:gm B0 w0 g O G w.drew:=H.of_heap rfl rfl rfl rfl
 obtain⟨t,K,C⟩:=CF (P:=P) s.size 0 el w
 have hlen:s.size=(strs s).length:=by unfold strs;rw[Array.length_toList];rfl
 have p:gV g ((strs s).map CA) ((strs s).map CA):=by
  refine⟨rfl,fun i v v' e A=>?_⟩
  rw[e]at A;cases A
  rw[List.getElem?_map]at e
  obtain⟨b,_,rfl⟩:=fx.1 e
  exact .int _ _
 have o:(s.data.map (fun b=>(.int .u8 b.toNat:Value)))++Array.replicate (t-s.size) (Value.int .u8 0)=((strs s).map CA++List.replicate (t-s.size) (Value.int .u8 0)).toArray:=by
  rw[<-Array.toList_inj]
  simp[strs]
  intro a _;rfl
 intro e5 h1 D hf
 have f0:=hf 0 (by show 0<2;omega)
 have f1:=hf 1 (by show 1<2;omega)
 have E:=z.GQ f0 f1 h1 D p (rest:=List.replicate (t-s.size) (Value.int .u8 0)) el 1
 have hw:(w.drew.alloc (.cells ((strs s).map CA++List.replicate (t-s.size) (Value.int .u8 0)).toArray el)).heap[w.drew.heap.size]?=some (.cells ((strs s).map CA++List.replicate (t-s.size) (Value.int .u8 0)).toArray el):=World.alloc_heap_new _ _
 obtain⟨J,F,y⟩:=tj.freeze hw (.inl rfl)
 have u:(Conv.stringToBytes el s).run P w=.ok (.slice (some ⟨w.drew.heap.size,0,none⟩) (strs s).length t) ((w.drew.alloc (.cells ((strs s).map CA++List.replicate (t-s.size) (Value.int .u8 0)).toArray el)).freeze ⟨w.drew.heap.size,((strs s).map CA++List.replicate (t-s.size) (Value.int .u8 0)).toArray.size,none⟩ 1):=by
  unfold Conv.stringToBytes
  rw[fk C]
  simp only
  rw[o,fk (tk _ _ _),fk (Ag hw),hlen]
  rfl
 have j:=E.Rs hw z.base F y
 rw[show(List.map CA (strs s)).length=(strs s).length from List.length_map ..]at j
 refine⟨_,_,_,u,Gm.qS f1.fW _ _,?_,?_,j,?_,?_,pD.new⟩
 · intro b hb
   by_cases B:b=n+1
   · exact .inr ⟨by omega,by show b<n+2;omega⟩
   · rw[Gm.jY _ _ _ B]at hb;exact .inl hb
 · refine .slice (off:=0) (Gm.lS _ _ _ _) (Nat.le_refl _) ?_
   by_cases h0:(strs s).length=t
   · exact .inl h0
   · refine .inr ⟨by omega,_,_,Gm.sG _ _ _ _,?_⟩
     simp
     omega
 · intro rb m hn
   rw[y.other rb (by have:rb<w.heap.size:=m;show rb≠w.heap.size;omega)]
   exact(tj.alloc w.drew _).other rb (by have:rb<w.heap.size:=m;show rb≠w.heap.size;omega)
 · refine Nat.le_trans ?_ y.size
   exact(tj.alloc w.drew _).size
theorem Ja(ok:T.Ok P)(H:gm B0 w0 g O G w){s d:TypeId}{x x':Value}{e:p0}(h:uE T O s d x n=some e)(rx:fK g x x'):
 iA B0 w0 g O G n w ((Go.convert s d x').run P w) e:=by
 unfold uE at h
 split at h
 · rename_i ds k m ag o j
   cases h
   obtain rfl:=rx.kU
   refine iA.pure H ?_ (.int _ _)
   unfold Go.convert
   rw[fk (ok.gQ o w),fk (ok.gQ j w),tI]
   rfl
 · rename_i ds C o j
   cases h
   obtain rfl:=rx.kY
   refine iA.pure H ?_ (.string _)
   unfold Go.convert
   rw[fk (ok.gQ o w),fk (ok.gQ j w)]
   cases ds<;>rfl
 · rename_i ds el C o j
   split at h
   · rename_i z
     cases h
     obtain rfl:=rx.kY
     have:=Eh (P:=P) (n:=n) H C el
     have e:(Go.convert s d (.string C)).run P w=(Conv.stringToBytes el C).run P w:=by
      unfold Go.convert
      rw[fk (ok.gQ o w),fk (ok.gQ j w)]
      cases ds<;>(simp only;rw[fk (ok.gQ z w)])
     rw[e];exact this
   · cases h
 · rename_i el base l c o j
   split at h
   · rename_i z
     have e:∀b l c,(Go.convert s d (.slice b l c)).run P w=(Conv.bytesToString (.slice b l c)).run P w:=by
      intro b l c
      unfold Go.convert
      rw[fk (ok.gQ o w),fk (ok.gQ j w)]
      simp only
      rw[fk (ok.gQ z w)]
     cases u:Nat.beq l 0 with
     |true=>
      rw[u]at h
      simp only[cond_true]at h
      cases h
      have u:=fj u
      subst u
      refine iA.pure H ?_ (.string _)
      cases rx<;>(rw[e];rfl)
     |false=>
     rw[u]at h
     simp only[cond_false]at h
     split at h
     · cases h
       obtain⟨rfl,rfl,rfl⟩:=rx.lW
       refine iA.pure H ?_ (.string _)
       rw[e];rfl
     · rename_i b off
       split at h
       · rename_i Z mt hb
         split at h
         · rename_i vs B
           split at h
           · rename_i F A
             cases h
             refine iA.pure H (v':=.string ⟨F.toArray⟩) ?_ (.string _)
             rcases rx.mW with⟨a2,rfl,rfl,rfl⟩|⟨_,rb,ro,c2,hg,hl,hc,rfl⟩
             · simp[lH]at B
               subst B
               simp[bytesOf]at A
               subst A
               rw[e];rfl
             · rw[e]
               obtain⟨N,R,S⟩:=H.loadCells (P:=P) hb hg B
               unfold Conv.bytesToString
               simp only
               rw[fk R]
               have:=D0 (P:=P) (w:=w) vs F A N S ByteArray.empty
               rw[<-List.forIn_toArray]at this
               exact(fk (f:=fun s=>(pure (Value.string s):Sem Value)) this).trans (by
                show Result.ok (Value.string ⟨(ByteArray.empty.data.toList++F).toArray⟩) w=_
                rfl)
           · cases h
         · cases h
       · cases h
     · cases h
   · cases h
 · rename_i e1 el b off l c o j
   cases y:Nat.beq s d with
   |false=>rw[y]at h;cases h
   |true=>
    rw[y]at h
    simp only[cond_true]at h
    have y:=fj y
    subst y
    split at h
    · rename_i Z mt z hb
      cases p:(mt.ro||Nat.beq c 0)with
      |true=>rw[p]at h;cases h
      |false=>
       rw[p]at h
       simp only[cond_false]at h
       cases h
       rw[Bool.or_eq_false_iff]at p
       obtain⟨E,L⟩:=p
       have e:∀a l c,(Go.convert s s (.slice (some a) l c)).run P w=(do markStringish a;pure (.slice (some a) l c):Sem Value).run P w:=by
        intro a l c
        unfold Go.convert
        rw[fk (ok.gQ o w),fk (ok.gQ j w)]
        simp only
        rw[fk (ok.gQ z w)]
        simp only[beq_self_eq_true]
       rcases rx.mW with⟨a2,rfl,rfl,rfl⟩|⟨_,rb,ro,c2,hg,hl,hc,rfl⟩
       · cases L
       · obtain⟨ah,aa,ab,J,ac,ad,M,ae,af⟩:=H.uZ hb hg
         obtain⟨X,W,K⟩:=tj.freeze J (M E).2
         intro e5 h1 D hf
         refine⟨g,_,_,?_,Gm.le_refl g,fun _ h=>.inl h,.slice hg hl hc,(H.Rs J (M E).1 W K).AM h1,?_,K.size,pD.refl _ _⟩
         · rw[e,fk (Ag J)];rfl
         · intro r hr hn
           exact K.other r (fun h=>by subst h;exact hn b _ ro hb hg)
    · cases h
 · cases h
end
end
end Sw
namespace Sw
noncomputable section
open Go
inductive Tr(α:Type) where
 |nil
 |node (v:Option α) (l r:Tr α)
def Tr.Xz{α:Type}:Tr α->Nat->Option α
 |.nil,_=>none
 |.node v l r,n=>if n=1 then v else if n%2=0 then l.Xz (n/2)else r.Xz (n/2)
def Tr.yN{α:Type}(t:Tr α):Nat->Option α:=
 Tr.rec (motive:=fun _=>Nat->Option α) (fun _=>none)
  (fun v _ _ b e n=>Bool.rec (motive:=fun _=>Option α) (Nat.rec (motive:=fun _=>Option α) (b (Nat.div n 2)) (fun _ _=>e (Nat.div n 2)) (Nat.land n 1)) v (Nat.beq n 1)) t
def Tr.get{α:Type}(t:Tr α)(n:Nat):Option α:=t.yN (Nat.succ n)
def Tr.ZF{α:Type}:Nat->Nat->Option α->Tr α
 |0,_,_=>.nil
 |f+1,n,o=>if n=1 then .node o .nil .nil else if n%2=0 then .node none (Tr.ZF f (n/2) o) .nil else .node none .nil (Tr.ZF f (n/2) o)
def Tr.mk{α:Type}(f:Nat):Nat->Option α->Tr α:=
 Nat.rec (motive:=fun _=>Nat->Option α->Tr α) (fun _ _=>.nil)
  (fun _ ih n o=>Bool.rec (motive:=fun _=>Tr α) (Nat.rec (motive:=fun _=>Tr α) (.node none (ih (Nat.div n 2) o) .nil) (fun _ _=>.node none .nil (ih (Nat.div n 2) o)) (Nat.land n 1)) (.node o .nil .nil) (Nat.beq n 1)) f
def Tr.XA{α:Type}:Tr α->Nat->Option α->Tr α
 |.nil,n,o=>Tr.mk n n o
 |.node v l r,n,o=>if n=1 then .node o l r else if n%2=0 then .node v (l.XA (n/2) o) r else .node v l (r.XA (n/2) o)
def Tr.zQ{α:Type}(t:Tr α):Nat->Option α->Tr α:=
 Tr.rec (motive:=fun _=>Nat->Option α->Tr α) (fun n o=>Tr.mk n n o)
  (fun v l r j m n o=>Bool.rec (motive:=fun _=>Tr α)
    (Nat.rec (motive:=fun _=>Tr α)
      (Tr.rec (motive:=fun _=>Tr α) (.node v .nil r) (fun v' b e _ _=>.node v (.node v' b e) r) (j (Nat.div n 2) o))
      (fun _ _=>Tr.rec (motive:=fun _=>Tr α) (.node v l .nil) (fun v' b e _ _=>.node v l (.node v' b e)) (m (Nat.div n 2) o)) (Nat.land n 1))
    (.node o l r) (Nat.beq n 1)) t
def Tr.set{α:Type}(t:Tr α)(n:Nat)(o:Option α):Tr α:=t.zQ (Nat.succ n) o
abbrev Ht:=Tr (jM Tm)
structure St where
 I:Tm
 ds:List Deferred
 O:Ht
 G:Nat
 Z:List Nat
inductive XB(α:Type) where
 |ok (a:α)
 |gk (m:Nat)
structure wj where
 body:Code
 nt:Nat
 ud:List ResultVar
abbrev R:=XB (Nat×St)
abbrev KC:=Value->Ht->Nat->List Nat->R
structure Jb where
 run:List Value->Ht->Nat->List Nat->KC->R->R
structure Env where
 T:Ty
 F:FuncId->Option wj
 M:TypeId->String->Option FuncId
 K:FuncId->Option Jb
 low:Nat
structure Od where
 run:Tm->Value
def fV:Operand->Od
 |.tmp i=>Acc.casesOn (acc i) fun g _=>⟨g⟩
 |.const v=>⟨fun _=>v⟩
 |.global g=>⟨fun _=>.pointer (some ⟨g,0,none⟩)⟩
 |.func f=>⟨fun _=>.func (.func f) #[] #[]⟩
def sZ:List Operand->List Od
 |[]=>[]
 |x::xs=>fV x::sZ xs
def runs:List Od->Tm->List Value
 |[],_=>[]
 |o::os,t=>o.run t::runs os t
def zi:List (Nat×Operand)->List (Nat×Od)
 |[]=>[]
 |(i,x)::xs=>(i,fV x)::zi xs
def tJ:List (Nat×Od)->Tm->List (Nat×Value)
 |[],_=>[]
 |(i,o)::os,t=>(i,o.run t)::tJ os t
def Cd:Option Operand->Option Od
 |some x=>some (fV x)
 |none=>none
def EI:Option Od->Tm->Option Value
 |some x,t=>some (x.run t)
 |none,_=>none
structure Dc where
 run:Tm->Value->Tm
def kh:Option Nat->Dc
 |some i=>Acc.casesOn (acc i) fun _ s=>⟨s⟩
 |none=>⟨fun t _=>t⟩
def CI:Nat->Nat->List Dc
 |0,_=>[]
 |n+1,i=>kh (some i)::CI n (i+1)
abbrev K1:=Value->R
abbrev K2:=p0->R
def kI(o:Option Value)(b:K1):R:=match o with
 |some v=>b v
 |none=>.gk 0
def qB(o:Option p0)(b:K2):R:=match o with
 |some v=>b v
 |none=>.gk 0
def yO(o:Option ub)(b:K2):R:=match o with
 |some u=>b (undef,u,0)
 |none=>.gk 0
def bi:Builtin->Ty->Hp->Nat->List TypeId->List Value->K1->K2->R
 |.len=>fun T O _ ts l b _=>(match ts,l with|t::_,x::_=>kI (GP T O t x) b|_,_=>.gk 0)
 |.append=>fun T O n ts l _ e=>(match ts,l with|t::u::_,x::y::_=>qB (jN T O t u x y n) e|_,_=>.gk 0)
 |.cap=>fun T O _ ts l b _=>(match ts,l with|t::_,x::_=>kI (TP T O t x) b|_,_=>.gk 0)
 |.clear=>fun T O _ ts l _ e=>(match ts,l with|t::_,x::_=>qB (L5 T O t x) e|_,_=>.gk 0)
 |.copy=>fun T O _ ts l _ e=>(match ts,l with|t::_,x::y::_=>qB (PV T O t x y) e|_,_=>.gk 0)
 |.max=>fun _ _ _ _ l b _=>kI (I9 max2 l) b
 |.min=>fun _ _ _ _ l b _=>kI (I9 min2 l) b
 |_=>fun _ _ _ _ _ _ _=>.gk 0
structure VL where
 run:Ty->Hp->Nat->Tm->K1->K2->R
def xE:Op->VL
 |.move x=>Od.casesOn (fV x) fun ex=>⟨fun _ _ _ I e _=>e (ex I)⟩
 |.assign x=>Od.casesOn (fV x) fun ex=>⟨fun _ _ _ I e _=>e (ex I)⟩
 |.pick c a b=>Od.casesOn (fV c) fun A=>Od.casesOn (fV a) fun p=>Od.casesOn (fV b) fun C=>⟨fun _ _ _ I e _=>kI (kZ (A I) (p I) (C I)) e⟩
 |.alloc el=>⟨fun T _ n I _ j=>(match T.zero el with|some z=>j (B8 n z.cells.toList)|none=>.gk 0)⟩
 |.box _ x=>Od.casesOn (fV x) fun ex=>⟨fun _ _ n I _ j=>j (B8 n (ex I).cells.toList)⟩
 |.build t ps=>(fun(l:List (Nat×Od))=>⟨fun T _ _ I e _=>kI (LN T t (tJ l I)) e⟩) (zi ps.toList)
 |.buildSlice t len ps=>(fun(l:List (Nat×Od))=>⟨fun T _ n I _ j=>qB (qM T t len (tJ l I) n) j⟩) (zi ps.toList)
 |.load t a=>Od.casesOn (fV a) fun p=>⟨fun T O _ I e _=>kI (j9 T O t (p I)) e⟩
 |.store t a v=>Od.casesOn (fV a) fun p=>Od.casesOn (fV v) fun ev=>⟨fun T O _ I _ j=>yO (wV T O t (p I) (ev I)) j⟩
 |.nilCheck x=>Od.casesOn (fV x) fun ex=>⟨fun _ _ _ I e _=>kI (Ey (ex I)) e⟩
 |.binOp op t x y _=>Od.casesOn (fV x) fun ex=>Od.casesOn (fV y) fun E=>⟨fun T _ _ I e _=>kI (zN T op t x y (ex I) (E I)) e⟩
 |.unOp op _ x=>Od.casesOn (fV x) fun ex=>⟨fun _ _ _ I e _=>kI (Xy op (ex I)) e⟩
 |.convert s d x=>Od.casesOn (fV x) fun ex=>⟨fun T O n I _ j=>qB (uE T O s d (ex I) n) j⟩
 |.makeInterface t x=>Od.casesOn (fV x) fun ex=>⟨fun T _ _ I e _=>kI (Dn T t (ex I)) e⟩
 |.makeFunc fn a b=>(fun(F J:List Od)=>⟨fun _ _ _ I e _=>kI (Ex fn (runs F I).toArray (runs J I).toArray) e⟩) (sZ a.toList) (sZ b.toList)
 |.makeMap t r=>(fun(o:Option Od)=>⟨fun T _ n I _ j=>qB (Dp T t (EI o I) n) j⟩) (Cd r)
 |.makeSlice t l c=>Od.casesOn (fV l) fun el=>Od.casesOn (fV c) fun A=>⟨fun T _ n I _ j=>qB (wi T t (el I) (A I) n) j⟩
 |.slice t x a b c=>Od.casesOn (fV x) fun ex=>(fun(K ob L:Option Od)=>⟨fun T O _ I e _=>kI (sH T O t (ex I) (EI K I) (EI ob I) (EI L I)) e⟩) (Cd a) (Cd b) (Cd c)
 |.fieldAddr t x f=>Od.casesOn (fV x) fun ex=>⟨fun T _ _ I e _=>kI (Dm T t (ex I) f) e⟩
 |.field t x f=>Od.casesOn (fV x) fun ex=>⟨fun T _ _ I e _=>kI (LP T t (ex I) f) e⟩
 |.indexAddr t x i=>Od.casesOn (fV x) fun ex=>Od.casesOn (fV i) fun u=>⟨fun T _ _ I e _=>kI (mH T t (ex I) (u I)) e⟩
 |.index t x i=>Od.casesOn (fV x) fun ex=>Od.casesOn (fV i) fun u=>⟨fun T _ _ I e _=>kI (wW T t (ex I) (u I)) e⟩
 |.lookup t x i ok=>Od.casesOn (fV x) fun ex=>Od.casesOn (fV i) fun u=>⟨fun T O _ I e _=>kI (pj T O t (ex I) (u I) ok) e⟩
 |.mapUpdate t m k v=>Od.casesOn (fV m) fun em=>Od.casesOn (fV k) fun ek=>Od.casesOn (fV v) fun ev=>⟨fun T O _ I _ j=>yO (tn T O t (em I) (ek I) (ev I)) j⟩
 |.insert t m k v=>Od.casesOn (fV m) fun em=>Od.casesOn (fV k) fun ek=>Od.casesOn (fV v) fun ev=>⟨fun T O _ I _ j=>yO (tn T O t (em I) (ek I) (ev I)) j⟩
 |.mapEntry t m k=>Od.casesOn (fV m) fun em=>Od.casesOn (fV k) fun ek=>⟨fun T O _ I _ j=>qB (ED T O t (em I) (ek I)) j⟩
 |.entryStore _ m s v=>Od.casesOn (fV m) fun em=>Od.casesOn (fV s) fun es=>Od.casesOn (fV v) fun ev=>⟨fun _ O _ I _ j=>yO (B_ O (em I) (es I) (ev I)) j⟩
 |.range t x=>Od.casesOn (fV x) fun ex=>⟨fun T O n I _ j=>qB (L6 T O t (ex I) n) j⟩
 |.entry it=>Od.casesOn (fV it) fun B=>⟨fun _ O _ I e _=>kI (L7 O (B I)) e⟩
 |.typeAssert x _ a ok=>Od.casesOn (fV x) fun ex=>⟨fun T _ _ I e _=>kI (Ca T (ex I) a ok) e⟩
 |.extract x i=>Od.casesOn (fV x) fun ex=>⟨fun _ _ _ I e _=>kI (GO (ex I) i) e⟩
 |_=>⟨fun _ _ _ _ _ _=>.gk 0⟩
def zS(low:Nat):ub->Ht->Option Ht
 |[],h=>some h
 |(b,o)::e,h=>bif Nat.ble low b then zS low e (h.set b o)else none
structure Fm where
 fn:FuncId
 nt:Nat
 XC:Option Nat
abbrev Rec:=Fm->Code->St->R
def vD:List Tmp->List Value->Tm->Option Tm
 |[],[],t=>some t
 |p::ps,v::vs,t=>vD ps vs ((kh (some p)).run t v)
 |_,_,_=>none
def qC:List Dc->List Value->Tm->Option Tm
 |_,[],t=>some t
 |d::ds,v::vs,t=>qC ds vs (d.run t v)
 |[],_::_,_=>none
def zj:List Dc:=CI 64 0
def mS(T:Ty)(O:Hp)(t:Tm):List ResultVar->Option (List Value)
 |[]=>some []
 |.tmp i::b=>(match mS T O t b with
  |some vs=>some ((fV (.tmp i)).run t::vs)
  |none=>none)
 |.cell a ty::b=>(match j9 T O ty ((fV (.tmp a)).run t),mS T O t b with
  |some v,some vs=>some (v::vs)
  |_,_=>none)
def qE:List Value->Value
 |[v]=>v
 |vs=>.tuple vs.toArray
def yP(low:Nat):List Deferred->Ht->Option Ht
 |[],h=>some h
 |d::ds,h=>(match d.target with
  |.collected r=>(match h.get r with
   |some (.deferred (some []))=>bif Nat.ble low r then yP low ds (h.set r (some (.deferred none)))else none
   |_=>none)
  |_=>none)
def sI(rec:Rec)(f:FuncId)(fi:wj)(l:List Value)(O:Ht)(G:Nat)(Z:List Nat)(k:List Deferred->Tm->Ht->Nat->List Nat->R):R:=
 bif Nat.ble l.length fi.nt then(match qC zj l Tm.undef with
  |some t=>(match rec ⟨f,fi.nt,none⟩ fi.body ⟨t,[],O,G,Z⟩with
   |.ok (o,⟨I,ds,O,G,Z⟩)=>bif Nat.ble o 1 then k ds I O G Z else .gk 0
   |.gk m=>.gk m)
  |none=>.gk 0)else .gk 0
def yQ(T:Ty)(fi:wj)(I:Tm)(k:KC)(O:Ht)(G:Nat)(Z:List Nat):R:=
 match mS T O.get I fi.ud with
 |some vs=>k (qE vs) O G Z
 |none=>.gk 0
def EJ(e:Env)(rec:Rec)(f:FuncId)(l:List Value)(O:Ht)(G:Nat)(Z:List Nat)(k:KC):R:=
 match e.F f with
 |some fi=>sI rec f fi l O G Z (fun ds I O G Z=>match yP e.low ds O with
   |some h=>yQ e.T fi I k h G Z
   |none=>.gk 0)
 |none=>.gk 0
def Rt(T:Ty)(nt:Nat)(o1 o2:List Oper)(x:Nat):Bool:=match o1,o2 with
 |[⟨some a,.call ⟨.builtin .recover,_,_⟩,_,_,_,none⟩,⟨some b,.assign (.tmp a'),_,_,_,none⟩],[⟨some c,.move (.tmp b'),_,_,_,none⟩,⟨some d,.binOp .neq t (.tmp e) (.const .nilIface) _,_,_,_,none⟩]=>
  (Nat.beq a a'&&(Nat.beq b b'&&(Nat.beq c e&&Nat.beq d x)))&&((Nat.blt a nt&&(Nat.blt b nt&&(Nat.blt c nt&&Nat.blt d nt)))&&
    (match zN T .neq t (.tmp e) (.const .nilIface) .nilIface .nilIface with|some (.bool false)=>true|_=>false))
 |_,_=>false
def HT(T:Ty)(fi:wj):Bool:=match fi.ud,fi.body with
 |[],.seq (.region _ o1 false) (.seq (.region _ o2 false) (.cond (.tmp x) _ .skip))=>Rt T fi.nt o1.toList o2.toList x
 |_,_=>false
def lK(e:Env)(rec:Rec):List Deferred->Ht->Nat->List Nat->(Ht->Nat->List Nat->R)->R
 |[],O,G,Z,k=>k O G Z
 |d::ds,O,G,Z,k=>(match d.target with
  |.collected r=>(match O.get r with
   |some (.deferred (some []))=>bif Nat.ble e.low r then lK e rec ds (O.set r (some (.deferred none))) G Z k else .gk 0
   |_=>.gk 0)
  |.fn (.func f) cap=>(match e.F f with
   |some fi=>bif HT e.T fi then lK e rec ds O G Z k else EJ e rec f (d.args.toList++cap.toList) O G Z (fun _ O G Z=>lK e rec ds O G Z k)
   |none=>.gk 0)
  |_=>.gk 0)
def ue(e:Env)(rec:Rec)(f:FuncId)(l:List Value)(O:Ht)(G:Nat)(Z:List Nat)(k:KC):R:=
 match e.F f with
 |some fi=>sI rec f fi l O G Z (fun ds I O G Z=>lK e rec ds O G Z (fun O G Z=>yQ e.T fi I k O G Z))
 |none=>.gk 0
def nh(e:Env)(rec:Rec)(f:FuncId)(l:List Value)(O:Ht)(G:Nat)(Z:List Nat)(k:KC):R:=
 match e.K f with
 |some b=>b.run l O G Z k (ue e rec f l O G Z k)
 |none=>ue e rec f l O G Z k
def wY(o:Nat):Option Code:=match o with
 |0=>none
 |1=>some .ret
 |k+2=>some (.exit k)
def Av(c:Option Code):Option Nat:=match c with
 |none=>some 0
 |some .ret=>some 1
 |some (.exit k)=>some (k+2)
 |_=>none
def qg(e:Env)(rec:Rec)(l:Nat)(oz:List Value)(O:Ht)(G:Nat)(Z:List Nat)(k:KC):R:=
 match O.get l with
 |some (.loop r)=>bif Nat.ble e.low l then
   (match vD r.params oz r.tmps with
   |some t=>(match rec ⟨r.fn,r.nt,some l⟩ r.assign ⟨t,[],O,G,Z⟩with
    |.ok (o,⟨I,ds,O,G,Z⟩)=>bif Nat.beq o 0 then
      (match O.get l with
      |some (.loop r1)=>(match r1.state with
       |.ready=>(match rec ⟨r.fn,r.nt,some l⟩ r.body ⟨I,ds,O.set l (some (.loop {r1 with state:=.busy})),G,Z⟩with
        |.ok (o2,⟨_,ds,O,G,Z⟩)=>(match O.get l,ds with
         |some (.loop r2),[]=>k (.bool (Nat.beq o2 0)) (O.set l (some (.loop {r2 with state:=(bif Nat.beq o2 0 then .ready else .done),pending:=wY o2}))) G Z
         |_,_=>.gk 0)
        |.gk m=>.gk m)
       |_=>.gk 0)
      |_=>.gk 0)else .gk 0
    |.gk m=>.gk m)
   |none=>.gk 0)else .gk 0
 |_=>.gk 0
def BK(e:Env)(rec:Rec)(f:Value)(l:List Value)(O:Ht)(G:Nat)(Z:List Nat)(k:KC):R:=
 match f with
 |.func (.func f) a b=>nh e rec f (a.toList++l++b.toList) O G Z k
 |.func (.yield y) _ _=>qg e rec y l O G Z k
 |_=>.gk 0
def FO(e:Env)(rec:Rec)(r:Value)(name:String)(l:List Value)(O:Ht)(G:Nat)(Z:List Nat)(k:KC):R:=
 match r with
 |.iface t v=>(match e.M t name with
  |some f=>nh e rec f (v::l) O G Z k
  |none=>.gk 0)
 |_=>.gk 0
def Ce:Nat->List (Option MapEntry)->Option (Option MapEntry)
 |_,[]=>none
 |0,x::_=>some x
 |n+1,_::xs=>Ce n xs
def uF(low:Nat)(it:Value)(O:Ht)(G:Nat)(Z:List Nat)(k:KC):R:=
 match it with
 |.pointer (some ⟨r,0,_⟩)=>(match O.get r with
  |some (.mapIter none _ _ _)=>k (.tuple #[.bool false]) O G Z
  |some (.mapIter (some m) jm seen last)=>bif Nat.ble low r then(match FN O.get m jm seen last with
   |some (l,clock)=>
    let go:=fun(x:Option MapEntry) (Z:List Nat)=>match x with
     |some x=>k (.tuple #[.bool true,x.key,x.val]) (O.set r (some (.mapIter (some m) jm (seen++[x.born]) clock))) G Z
     |none=>k (.tuple #[.bool false]) O G Z
    match l with
    |[x]=>go x Z
    |l=>match Z with
     |[]=>.gk l.length
     |c::Z=>match Ce c l with
      |some x=>go x Z
      |none=>.gk 0
   |none=>.gk 0)else .gk 0
  |_=>.gk 0)
 |_=>.gk 0
structure ZG where
 run:Env->Rec->Tm->Ht->Nat->List Nat->KC->R
def XD(ts:List TypeId)(l:List Od):Callee->ZG
 |.value f=>Od.casesOn (fV f) fun j=>⟨fun e rec I O G Z k=>BK e rec (j I) (runs l I) O G Z k⟩
 |.invoke r m=>Od.casesOn (fV r) fun er=>⟨fun e rec I O G Z k=>FO e rec (er I) m (runs l I) O G Z k⟩
 |.builtin b=>⟨fun e _ I O G Z k=>bi b e.T O.get G ts (runs l I) (fun v=>k v O G Z) (fun f=>match f with
   |(v,jC,m)=>match zS e.low jC O with
    |some h=>k v h (G+m) Z
    |none=>.gk 0)⟩
def yR(c:Call)(fm:Fm)(I:Tm):Option Deferred:=
 match fm.XC,c.callee with
  |none,.value f=>(match (fV f).run I with
   |.func (.func f) a b=>some ⟨.fn (.func f) b,(a.toList++runs (sZ c.args.toList) I).toArray⟩
   |_=>none)
  |_,_=>none
structure Cl where
 run:Env->Rec->Fm->Tm->List Deferred->Ht->Nat->List Nat->(St->R)->R
def tK(b:Tm->Value->Tm)(low:Nat)(I:Tm)(ds:List Deferred)(O:Ht)(G:Nat)(Z:List Nat)(k:St->R)(f:p0):R:=
 match f with
 |(v,jC,m)=>match zS low jC O with
  |some h=>k ⟨b I v,ds,h,G+m,Z⟩
  |none=>.gk 0
def qh:Op->Option Nat->Cl
 |.call c=>fun d=>Dc.casesOn (kh d) fun b=>ZG.casesOn (XD c.argTypes.toList (sZ c.args.toList) c.callee) fun run=>⟨fun e rec _ I ds O G Z k=>run e rec I O G Z (fun v O G Z=>k ⟨b I v,ds,O,G,Z⟩)⟩
 |.defer c=>fun d=>Dc.casesOn (kh d) fun b=>⟨fun _ _ fm I ds O G Z k=>(match yR c fm I with
  |some x=>k ⟨b I undef,x::ds,O,G,Z⟩
  |none=>.gk 0)⟩
 |.next it false=>fun d=>Dc.casesOn (kh d) fun b=>Od.casesOn (fV it) fun j=>⟨fun e _ _ I ds O G Z k=>uF e.low (j I) O G Z (fun v O G Z=>k ⟨b I v,ds,O,G,Z⟩)⟩
 |op=>fun d=>Dc.casesOn (kh d) fun b=>VL.casesOn (xE op) fun run=>⟨fun e _ _ I ds O G Z k=>run e.T O.get G I (fun v=>k ⟨b I v,ds,O,G,Z⟩) (tK b e.low I ds O G Z k)⟩
def ni(w:Bool)(v:Value):Bool:=
 match v with
 |.bool b=>(bif b then w else !w)
 |_=>false
def kA(all:List Oper)(j:Nat):Option Od:=
 match nD j all with
  |some o=>Cd (match o.dst with|some d=>some (.tmp d)|none=>none)
  |none=>none
def iJ(all:List Oper)(o:Oper):Cl:=
 match o with
 |⟨dst,op,_,_,_,guard⟩=>match guard with
  |none=>qh op dst
  |some (j,w)=>(match kA all j with
   |some g=>Cl.casesOn (qh op dst) fun run=>Dc.casesOn (kh dst) fun m=>Od.casesOn g fun b=>
    ⟨fun e rec fm I ds O G Z k=>Bool.casesOn (ni w (b I)) (k ⟨m I undef,ds,O,G,Z⟩) (run e rec fm I ds O G Z k)⟩
   |none=>⟨fun _ _ _ _ _ _ _ _ _=>.gk 0⟩)
def gW(all:List Oper):List Oper->List Cl
 |[]=>[]
 |o::os=>iJ all o::gW all os
def XE:List Cl->Env->Rec->Fm->St->R
 |[],_,_,_,s=>.ok (0,s)
 |c::os,e,rec,fm,s=>match s with
  |⟨I,ds,O,G,Z⟩=>c.run e rec fm I ds O G Z (fun s=>XE os e rec fm s)
def wk(l:List Cl):Env->Rec->Fm->St->R:=
 List.rec (motive:=fun _=>Env->Rec->Fm->St->R) (fun _ _ _ s=>.ok (0,s))
  (fun c _ ih e rec fm s=>St.rec (motive:=fun _=>R) (fun I ds O G Z=>Cl.rec (motive:=fun _=>R) (fun run=>run e rec fm I ds O G Z (fun s=>ih e rec fm s)) c) s) l
def VM(o:Option p0)(b:K1):R:=match o with
 |some (v,[],0)=>b v
 |_=>.gk 0
structure O6 where
 run:Ty->Hp->Nat->Tm->K1->R
def BL:Op->O6
 |.convert s d x=>Od.casesOn (fV x) fun ex=>⟨fun T O n I b=>VM (uE T O s d (ex I) n) b⟩
 |_=>⟨fun _ _ _ _ _=>.gk 0⟩
def EK(op:Op)(dst:Option Nat):Cl:=Dc.casesOn (kh dst) fun b=>O6.casesOn (BL op) fun run=>
 ⟨fun e _ _ I ds O G Z k=>run e.T O.get G I (fun v=>k ⟨b I v,ds,O,G,Z⟩)⟩
def GU(all:List Oper)(o:Oper):Cl:=
 match o with
 |⟨dst,op,_,_,_,guard⟩=>match guard with
  |none=>EK op dst
  |some (j,w)=>(match kA all j with
   |some g=>Cl.casesOn (EK op dst) fun run=>Dc.casesOn (kh dst) fun m=>Od.casesOn g fun b=>
    ⟨fun e rec fm I ds O G Z k=>Bool.casesOn (ni w (b I)) (k ⟨m I undef,ds,O,G,Z⟩) (run e rec fm I ds O G Z k)⟩
   |none=>⟨fun _ _ _ _ _ _ _ _ _=>.gk 0⟩)
def s_(fl:Bool)(all:List Oper)(o:Oper):Cl:=bif fl&&pK o.op then GU all o else iJ all o
def uG(f:Value->Value->Bool):List Value->List Value->Bool
 |[],[]=>true
 |x::xs,y::b=>f x y&&uG f xs b
 |_,_=>false
def lg:Nat->Value->Value->Bool
 |_,.bool a,.bool b=>(bif a then b else !b)
 |_,.int k a,.int k' b=>wh k k'&&kC a b
 |_,.string a,.string b=>wF (strs a) (strs b)
 |_,.pointer none,.pointer none=>true
 |_,.pointer (some ⟨b,o,none⟩),.pointer (some ⟨b',o',none⟩)=>Nat.beq b b'&&Nat.beq o o'
 |_,.slice none l c,.slice none j e=>Nat.beq l j&&Nat.beq c e
 |_,.slice (some ⟨b,o,none⟩) l c,.slice (some ⟨b',o',none⟩) j e=>Nat.beq b b'&&(Nat.beq o o'&&(Nat.beq l j&&Nat.beq c e))
 |_,.map none,.map none=>true
 |_,.map (some a),.map (some b)=>Nat.beq a b
 |_,.nilFunc,.nilFunc=>true
 |_,.nilIface,.nilIface=>true
 |n+1,.func (.func f) x y,.func (.func f') x' y'=>Nat.beq f f'&&(uG (lg n) x.toList x'.toList&&uG (lg n) y.toList y'.toList)
 |n+1,.func (.yield f) x y,.func (.yield f') x' y'=>Nat.beq f f'&&(uG (lg n) x.toList x'.toList&&uG (lg n) y.toList y'.toList)
 |n+1,.iface t v,.iface m v'=>Nat.beq t m&&lg n v v'
 |n+1,.agg x,.agg y=>uG (lg n) x.toList y.toList
 |n+1,.tuple x,.tuple y=>uG (lg n) x.toList y.toList
 |_,_,_=>false
def yS(op:Op):O6:=
 match op with
 |.call c=>(match c.callee with
  |.builtin b=>(fun(ts:List TypeId) (l:List Od)=>(⟨fun T O n I e=>bi b T O n ts (runs l I) e (fun _=>.gk 0)⟩:O6)) c.argTypes.toList (sZ c.args.toList)
  |_=>⟨fun _ _ _ _ _=>.gk 0⟩)
 |op=>VL.casesOn (xE op) fun run=>⟨fun T O n I e=>run T O n I e (fun _=>.gk 0)⟩
def vg(fl:Bool)(op:Op):O6:=bif fl&&pK op then BL op else yS op
def wL:Value->Option Nat
 |.pointer (some ⟨b,0,none⟩)=>some b
 |.slice (some ⟨b,0,none⟩) _ _=>some b
 |_=>none
def CJ(m:gi):Bool:=!m.ro&&((match m.mG with|none=>true|some _=>false)&&(Nat.beq m.base 0&&Nat.beq m.unit 0))
structure tq where
 run:Ty->Ht->Nat->Tm->R->R
def TS(fl:Bool)(op:Op)(d:Option Nat):tq:=
 O6.casesOn (vg fl op) fun b=>match d with
  |some d=>Acc.casesOn (acc d) fun gd _=>⟨fun T O n I k=>b T O.get n I (fun v=>bif lg 8 v (gd I)then k else .gk 0)⟩
  |none=>⟨fun T O n I k=>b T O.get n I (fun _=>k)⟩
def TU(op:Op)(d:Option Nat):tq:=
 VL.casesOn (xE op) fun run=>match d with
  |some d=>Acc.casesOn (acc d) fun gd _=>⟨fun T O _ I k=>match wL (gd I)with
   |some m=>run T O.get m I (fun _=>.gk 0) (fun f=>match f with
    |(v,jC,_)=>match jC,O.get m with
     |[(_,some (.cells Z _))],some (.cells lA b)=>bif lg 8 v (gd I)&&(uG (lg 8) Z lA&&CJ b)then k else .gk 0
     |_,_=>.gk 0)
   |none=>.gk 0⟩
  |none=>⟨fun _ _ _ _ _=>.gk 0⟩
def xg(fl:Bool)(o:Oper):tq:=bif Nat.beq (kF fl o.op) 1 then TU o.op o.dst else TS fl o.op o.dst
def AN(d:Option Nat)(I:Tm):Bool:=match d with
 |some d=>lg 8 undef (I.get d)
 |none=>true
def GW(fl:Bool)(all:List Oper)(o:Oper):tq:=
 match o.guard with
 |none=>xg fl o
 |some (j,w)=>match kA all j with
  |some g=>tq.casesOn (xg fl o) fun run=>Od.casesOn g fun b=>⟨fun T O n I k=>Bool.casesOn (ni w (b I)) (bif AN o.dst I then k else .gk 0) (run T O n I k)⟩
  |none=>⟨fun _ _ _ _ _=>.gk 0⟩
def XF:Cl:=⟨fun _ _ _ _ _ _ _ _ _=>.gk 0⟩
def pN(fl:Bool)(all:List Oper)(i:Nat):Cl:=match nD i all with
 |some o=>s_ fl all o
 |none=>XF
def vo(fl:Bool)(all:List Oper)(i:Nat):tq:=match nD i all with
 |some o=>GW fl all o
 |none=>⟨fun _ _ _ _ _=>.gk 0⟩
structure Ka where
 ne:List Cl
 qK:List tq
 kQ:Option Cl
def Ah(fl:Bool)(all:List Oper):List vX->List Ka
 |[]=>[]
 |s::b=>⟨s.ne.map (pN fl all),s.qK.map (vo fl all),s.kQ.map (pN fl all)⟩::Ah fl all b
def yT:List Cl->Env->Rec->Fm->St->(St->R)->R
 |[],_,_,_,s,k=>k s
 |c::l,e,rec,fm,s,k=>match s with
  |⟨I,ds,O,G,Z⟩=>c.run e rec fm I ds O G Z (fun s=>yT l e rec fm s k)
def xh:List tq->Env->St->R->R
 |[],_,_,k=>k
 |c::l,e,s,k=>match s with
  |⟨I,ds,O,G,Z⟩=>c.run e.T O G I (xh l e ⟨I,ds,O,G,Z⟩ k)
def oR:List Ka->Env->Rec->Fm->St->R
 |[],_,_,_,_=>.gk 0
 |s::b,e,rec,fm,st=>yT s.ne e rec fm st (fun st1=>xh s.qK e st1 (match s.kQ with
  |none=>.ok (0,st1)
  |some c=>match st1 with
   |⟨I,ds,O,G,Z⟩=>c.run e rec fm I ds O G Z (fun st2=>oR b e rec fm st2)))
structure CC where
 run:Env->Rec->Fm->St->R
def YS:Code->CC
 |.skip=>⟨fun _ _ _ s=>.ok (0,s)⟩
 |.label _=>⟨fun _ _ _ s=>.ok (0,s)⟩
 |.seq a b=>⟨fun _ rec fm s=>(match rec fm a s with
  |.ok (o,s1)=>(match o with
   |0=>rec fm b s1
   |o+1=>.ok (o+1,s1))
  |.gk m=>.gk m)⟩
 |.cond x a b=>Od.casesOn (fV x) fun ex=>⟨fun _ rec fm s=>(match s with
  |⟨I,ds,O,G,Z⟩=>match ex I with
   |.bool c=>(match c with
    |true=>rec fm a ⟨I,ds,O,G,Z⟩
    |false=>rec fm b ⟨I,ds,O,G,Z⟩)
   |_=>.gk 0)⟩
 |.block id b=>⟨fun _ rec fm s=>(match rec fm b s with
  |.ok (o,s1)=>bif Nat.beq o (id+2)then .ok (0,s1)else .ok (o,s1)
  |.gk m=>.gk m)⟩
 |.loop b=>⟨fun _ rec fm s=>(match rec fm b s with
  |.ok (o,s1)=>(match o with
   |0=>rec fm (.loop b) s1
   |o+1=>.ok (o+1,s1))
  |.gk m=>.gk m)⟩
 |.scope b=>⟨fun _ rec fm s=>rec fm b s⟩
 |.exit id=>⟨fun _ _ _ s=>.ok (id+2,s)⟩
 |.ret=>⟨fun _ _ _ s=>.ok (1,s)⟩
 |.region _ ops draw=>(match draw with
  |false=>⟨fun e rec fm s=>wk (gW ops.toList ops.toList) e rec fm s⟩
  |true=>(fun l=>⟨fun e rec fm s=>oR l e rec fm s⟩) (Ah (vY ops.toList) ops.toList (xZ (vY ops.toList) ops.toList).r6))
 |.rangeFunc f params assign body=>⟨fun e rec fm s=>(match s with
  |⟨I,ds,O,G,Z⟩=>
   (match (match fm.XC with
     |none=>some (G,G+1,O.set G (some (.deferred (some []))),[(⟨.collected G,#[]⟩:Deferred)])
     |some l=>(match O.get l with
      |some (.loop r)=>some (r.defers,G,O,[])
      |_=>none))with
   |some (j,l,h,mark)=>
    BK e rec ((fV f).run I) [.func (.yield l) #[] #[]] (h.set l (some (.loop ⟨.ready,none,fm.fn,I,fm.nt,params.toList,assign,body,j⟩))) (l+1) Z (fun _ O G Z=>match O.get l with
     |some (.loop r)=>(match r.state with
      |.busy=>.gk 0
      |_=>(match Av r.pending with
       |some o=>.ok (o,⟨I,mark++ds,O.set l (some (.loop {r with state:=.exhausted})),G,Z⟩)
       |none=>.gk 0))
     |_=>.gk 0)
   |none=>.gk 0))⟩
 |_=>⟨fun _ _ _ _=>.gk 0⟩
def vp(c:Code)(e:Env)(rec:Rec)(fm:Fm)(s:St):R:=CC.casesOn (motive:=fun _=>R) (YS c) fun run=>run e rec fm s
def evI(g:Rec->Rec):Nat->Rec
 |0=>fun _ _ _=>.gk 0
 |n+1=>g (evI g n)
def iter(g:Rec->Rec)(n:Nat):Rec:=Nat.rec (motive:=fun _=>Rec) (fun _ _ _=>.gk 0) (fun _ ih=>g ih) n
def ev(e:Env)(n:Nat):Rec:=iter (fun rec fm c s=>vp c e rec fm s) n
end
end Sw
namespace Sw
noncomputable section
open Go Go.RowKit
def HU:Result Next->Result Value
 |.ok (.value v) w=>.ok v w
 |.ok .skip w=>.ok undef w
 |.ok _ w=>.halt (.stuck "") w
 |.halt h w=>.halt h w
section
variable {T:Ty}{P:Program}{B0:Nat}{w0:World}{g:Gm}{O:Hp}{G n:Nat}{w:World}
theorem XG{r:Result Next}{v:Value}{w:World}(h:HU r=.ok v w):r=.ok (.value v) w\/(r=.ok .skip w/\v=undef):=by
 unfold HU at h
 split at h<;>first|(cases h;first|exact .inl rfl|exact .inr ⟨rfl,rfl⟩)|cases h
theorem P3(s:Sem Value)(w:World):HU ((do pure (Next.value (<-s)):Sem Next).run P w)=s.run P w:=by
 show HU ((s >>= fun x=>pure (Next.value x)).run P w)=_
 rw[Sem.run_bind]
 cases s.run P w<;>rfl
theorem YT(s:Sem Unit)(w:World):HU ((do s;pure Next.skip:Sem Next).run P w)=(do s;pure undef:Sem Value).run P w:=by
 show HU ((s >>= fun _=>pure Next.skip).run P w)=(s >>= fun _=>pure undef).run P w
 rw[Sem.run_bind,Sem.run_bind]
 cases s.run P w<;>rfl
def nL(P:Program)(B0:Nat)(w0:World)(g:Gm)(O:Hp)(G n:Nat)(w:World)(r:Result Next)(f:p0):Prop:=iA B0 w0 g O G n w (HU r) f
theorem nL.v{s:Sem Value}{f:p0}(h:iA B0 w0 g O G n w (s.run P w) f):nL P B0 w0 g O G n w ((do pure (Next.value (<-s)):Sem Next).run P w) f:=by
 unfold nL;rw[P3];exact h
theorem nL.u{s:Sem Unit}{f:p0}(h:iA B0 w0 g O G n w ((do s;pure undef:Sem Value).run P w) f):nL P B0 w0 g O G n w ((do s;pure Next.skip:Sem Next).run P w) f:=by
 unfold nL;rw[YT];exact h
def kR(Q:p0->Prop)(r:List Nat->R)(e:List Nat->K1)(b:List Nat->K2):Prop:=(∀i,∃m,r i=.gk m)\/(∃v,(∀i,r i=e i v)/\Q (v,[],0))\/∃f,(∀i,r i=b i f)/\Q f
theorem kR.kI{Q:p0->Prop}{o:Option Value}{b:List Nat->K1}{e:List Nat->K2}(h:∀v,o=some v->Q (v,[],0)):kR Q (fun i=>kI o (b i)) b e:=by
 cases o with
 |none=>exact .inl fun _=>⟨0,rfl⟩
 |some v=>exact .inr (.inl ⟨v,fun _=>rfl,h v rfl⟩)
theorem kR.qB{Q:p0->Prop}{o:Option p0}{e:List Nat->K1}{b:List Nat->K2}(h:∀f,o=some f->Q f):kR Q (fun i=>qB o (b i)) e b:=by
 cases o with
 |none=>exact .inl fun _=>⟨0,rfl⟩
 |some v=>exact .inr (.inr ⟨v,fun _=>rfl,h v rfl⟩)
theorem kR.yO{Q:p0->Prop}{o:Option ub}{e:List Nat->K1}{b:List Nat->K2}(h:∀u,o=some u->Q (undef,u,0)):kR Q (fun i=>yO o (b i)) e b:=by
 cases o with
 |none=>exact .inl fun _=>⟨0,rfl⟩
 |some u=>exact .inr (.inr ⟨_,fun _=>rfl,h u rfl⟩)
def vt(g:Gm)(I:Tm)(ρ:Operand->Value)(l:List Operand):Prop:=∀x∈l,fK g ((fV x).run I) (ρ x)
theorem yU{I:Tm}{ρ:Operand->Value}:∀(l:List Operand),vt g I ρ l->gV g (runs (sZ l) I) (l.map ρ)
 |[],_=>gV.nil g
 |x::l,h=>gV.cons (h x (fh ..)) (yU l fun y hy=>h y (fw _ hy))
theorem Dk.cons{i:Nat}{v v':Value}{x x':List (Nat×Value)}(h:fK g v v')(k:Dk g x x'):Dk g ((i,v)::x) ((i,v')::x'):=
 ⟨by simp[k.1],fun j p m e b=>by
   cases j with
   |zero=>simp at e b;subst e;subst b;exact⟨rfl,h⟩
   |succ j=>simp at e b;exact k.2 j p m e b⟩
theorem EL{I:Tm}{ρ:Operand->Value}:∀(l:List (Nat×Operand)),vt g I ρ (l.map (·.2))->Dk g (tJ (zi l) I) (l.map fun p=>(p.1,ρ p.2))
 |[],_=>⟨rfl,fun i p b e _=>by simp[zi,tJ]at e⟩
 |(i,x)::l,h=>Dk.cons (h x (by simp)) (EL l fun y hy=>h y (by simp at hy⊢;exact .inr hy))
theorem Dq{I:Tm}{ρ:Operand->Value}(o:Option Operand)(h:vt g I ρ o.toList):B9 g (EI (Cd o) I) (o.map ρ):=by
 cases o with
 |none=>trivial
 |some x=>exact h x (by simp)
end
end
end Sw
namespace Sw
noncomputable section
open Go Go.RowKit
section
variable {T:Ty}{P:Program}{B0:Nat}{w0:World}{g:Gm}{O:Hp}{G n:Nat}{w:World}
theorem P4(H:gm B0 w0 g O G w){dst:Option Tmp}{ty:TypeId}{pos:String}{after:Array Edge}{guard:Option (Nat×Bool)}{ρ:Operand->Value}{c a b:Operand}{p m o v:Value}
 (h:kZ p m o=some v) (j:fK g p (ρ c)) (u:fK g m (ρ a)) (rb:fK g o (ρ b)):nL P B0 w0 g O G n w ((execOp ρ ⟨dst,.pick c a b,ty,pos,after,guard⟩).run P w) (v,[],0):=by
 have go:∀(e:Bool) (v':Value),ρ c=.bool e->(if e=true then ρ a else ρ b)=v'->fK g v v'->nL P B0 w0 g O G n w ((execOp ρ ⟨dst,.pick c a b,ty,pos,after,guard⟩).run P w) (v,[],0):=by
  intro e v' h1 D h3
  refine iA.pure H (v':=v') ?_ h3
  simp only[execOp]
  rw[h1,<-D]
  rfl
 unfold kZ at h
 split at h
 · cases h
   exact go true _ j.rR rfl u
 · cases h
   exact go false _ j.rR rfl rb
 · cases h
theorem Jd(H:gm B0 w0 g O G w){dst:Option Tmp}{ty:TypeId}{pos:String}{after:Array Edge}{guard:Option (Nat×Bool)}{ρ:Operand->Value}{x:Operand}{b v:Value}
 (h:Ey b=some v) (rx:fK g b (ρ x)):nL P B0 w0 g O G n w ((execOp ρ ⟨dst,.nilCheck x,ty,pos,after,guard⟩).run P w) (v,[],0):=by
 have go:(execOp ρ ⟨dst,.nilCheck x,ty,pos,after,guard⟩).run P w=.ok (.value (ρ x)) w->fK g v (ρ x)->nL P B0 w0 g O G n w ((execOp ρ ⟨dst,.nilCheck x,ty,pos,after,guard⟩).run P w) (v,[],0):=by
  intro h1 D
  rw[h1]
  exact iA.pure H rfl D
 unfold Ey at h
 split at h
 · cases h
   refine go ?_ rx
   obtain⟨_,rb,ro,_,e⟩:=rx.sy
   simp only[execOp];rw[e];rfl
 · cases h
   refine go ?_ rx
   obtain⟨_,_,e,_⟩:=rx.GF
   simp only[execOp];rw[e];rfl
 · cases h
   refine go ?_ rx
   simp only[execOp]
   generalize ρ x=r at rx
   cases rx
   rfl
 · cases h
   refine go ?_ rx
   obtain⟨_,e,_⟩:=rx.xC
   simp only[execOp];rw[e];rfl
 · cases h
theorem Kb(ok:T.Ok P)(cl:T.Cx)(H:gm B0 w0 g O G w){o:Oper}{I:Tm}{ρ:Operand->Value}(j:vt g I ρ o.op.operands.toList)(L:List Nat->K1)(K:List Nat->K2):
 kR (nL P B0 w0 g O G n w ((execOp ρ o).run P w)) (fun i=>(xE o.op).run T O n I (L i) (K i)) L K:=by
 obtain⟨dst,op,ty,pos,after,guard⟩:=o
 simp only at j
 cases op with
 |move x=>
  have rx:=j x (by simp[Op.operands])
  exact .inr (.inl ⟨_,fun _=>rfl,iA.pure H rfl rx⟩)
 |assign x=>
  have rx:=j x (by simp[Op.operands])
  exact .inr (.inl ⟨_,fun _=>rfl,iA.pure H rfl rx⟩)
 |pick c a b=>
  have E:=j c (by simp[Op.operands])
  have A:=j a (by simp[Op.operands])
  have rb:=j b (by simp[Op.operands])
  refine kR.kI fun v h=>?_
  exact P4 H h E A rb
 |load t a=>
  have A:=j a (by simp[Op.operands])
  refine kR.kI fun v h=>?_
  obtain⟨v',h1,D⟩:=Ga (P:=P) ok H h A
  exact nL.v (iA.pure H h1 D)
 |binOp op t x y X=>
  have rx:=j x (by simp[Op.operands])
  have W:=j y (by simp[Op.operands])
  refine kR.kI fun v h=>?_
  exact nL.v (HO ok H h rx W)
 |unOp op t x=>
  have rx:=j x (by simp[Op.operands])
  refine kR.kI fun v h=>?_
  exact nL.v (Ro H h rx)
 |box el x=>
  have rx:=j x (by simp[Op.operands])
  exact .inr (.inr ⟨_,fun _=>rfl,nL.v (PN H rx)⟩)
 |convert s d x=>
  have rx:=j x (by simp[Op.operands])
  refine kR.qB fun v h=>?_
  exact nL.v (Ja ok H h rx)
 |makeInterface t x=>
  have rx:=j x (by simp[Op.operands])
  refine kR.kI fun v h=>?_
  exact nL.v (GN ok H h rx)
 |makeSlice t l c=>
  have rl:=j l (by simp[Op.operands])
  have E:=j c (by simp[Op.operands])
  refine kR.qB fun v h=>?_
  exact nL.v (GS ok H h rl E)
 |fieldAddr t x f=>
  have rx:=j x (by simp[Op.operands])
  refine kR.kI fun v h=>?_
  exact nL.v (GL ok H h rx)
 |field t x f=>
  have rx:=j x (by simp[Op.operands])
  refine kR.kI fun v h=>?_
  exact nL.v (LQ ok H h rx)
 |indexAddr t x i=>
  have rx:=j x (by simp[Op.operands])
  have F:=j i (by simp[Op.operands])
  refine kR.kI fun v h=>?_
  exact nL.v (GM ok H h rx F)
 |index t x i=>
  have rx:=j x (by simp[Op.operands])
  have F:=j i (by simp[Op.operands])
  refine kR.kI fun v h=>?_
  exact nL.v (LS ok H h rx F)
 |lookup t x i b=>
  have rx:=j x (by simp[Op.operands])
  have F:=j i (by simp[Op.operands])
  refine kR.kI fun v h=>?_
  exact nL.v (KV ok H h rx F)
 |mapUpdate t m k v=>
  have B:=j m (by simp[Op.operands])
  have J:=j k (by simp[Op.operands])
  have C:=j v (by simp[Op.operands])
  refine kR.yO fun u h=>?_
  exact nL.u (Bb ok H h B J C)
 |insert t m k v=>
  have B:=j m (by simp[Op.operands])
  have J:=j k (by simp[Op.operands])
  have C:=j v (by simp[Op.operands])
  refine kR.yO fun u h=>?_
  exact nL.u (Bb ok H h B J C)
 |mapEntry t m k=>
  have B:=j m (by simp[Op.operands])
  have J:=j k (by simp[Op.operands])
  refine kR.qB fun u h=>?_
  exact nL.v (HR ok H h B J)
 |entryStore t m s v=>
  have B:=j m (by simp[Op.operands])
  have S:=j s (by simp[Op.operands])
  have C:=j v (by simp[Op.operands])
  refine kR.yO fun u h=>?_
  exact nL.u (F4 H h B S C)
 |range t x=>
  have rx:=j x (by simp[Op.operands])
  refine kR.qB fun v h=>?_
  exact nL.v (L9 ok H h rx)
 |entry it=>
  have rx:=j it (by simp[Op.operands])
  refine kR.kI fun v h=>?_
  exact nL.v (Ma H h rx)
 |typeAssert x xt a b=>
  have rx:=j x (by simp[Op.operands])
  refine kR.kI fun v h=>?_
  exact nL.v (F5 ok H h rx)
 |extract x i=>
  have rx:=j x (by simp[Op.operands])
  refine kR.kI fun v h=>?_
  exact nL.v (I8 H h rx)
 |build t ps=>
  have M:=EL (g:=g) (I:=I) (ρ:=ρ) ps.toList (fun x hx=>j x (by simp[Op.operands]at hx⊢;exact hx))
  refine kR.kI fun v h=>?_
  have:=LO (n:=n) ok cl H h M
  have e:(ps.toList.map fun p=>(p.1,ρ p.2)).toArray=ps.map fun p=>(p.1,ρ p.2):=by rw[<-Array.toList_inj];simp
  rw[e]at this
  exact nL.v this
 |buildSlice t len ps=>
  have M:=EL (g:=g) (I:=I) (ρ:=ρ) ps.toList (fun x hx=>j x (by simp[Op.operands]at hx⊢;exact hx))
  refine kR.qB fun v h=>?_
  have:=F3 (n:=n) ok H h M
  have e:(ps.toList.map fun p=>(p.1,ρ p.2)).toArray=ps.map fun p=>(p.1,ρ p.2):=by rw[<-Array.toList_inj];simp
  rw[e]at this
  exact nL.v this
 |alloc el=>
  show kR _ (fun i=>match T.zero el with|some z=>K i (B8 n z.cells.toList)|none=>.gk 0) L K
  cases N:T.zero el with
  |some z=>
   exact .inr (.inr ⟨_,fun _=>rfl,nL.v (LL ok H N)⟩)
  |none=>exact .inl fun _=>⟨0,rfl⟩
 |store t a v=>
  have A:=j a (by simp[Op.operands])
  have C:=j v (by simp[Op.operands])
  refine kR.yO fun u h=>?_
  obtain⟨w',h1,D,h3,h4⟩:=LK ok H h A C
  refine nL.u (fun e5 R _ _=>⟨g,undef,w',?_,Gm.le_refl g,fun _ h=>.inl h,fK.undef g,D.AM R,h3,by omega,pD.refl _ _⟩)
  rw[fk h1];rfl
 |nilCheck x=>
  have rx:=j x (by simp[Op.operands])
  refine kR.kI fun v h=>?_
  exact Jd H h rx
 |makeFunc fn a b=>
  have A:=yU (g:=g) (I:=I) (ρ:=ρ) a.toList (fun x hx=>j x (by simp[Op.operands]at hx⊢;exact .inl hx))
  have rb:=yU (g:=g) (I:=I) (ρ:=ρ) b.toList (fun x hx=>j x (by simp[Op.operands]at hx⊢;exact .inr hx))
  refine kR.kI fun v h=>?_
  have:=HP (P:=P) (n:=n) H h A.toArray rb.toArray
  have e:∀c:Array Operand,(c.toList.map ρ).toArray=c.map ρ:=fun c=>by rw[<-Array.toList_inj];simp
  rw[e,e]at this
  exact nL.v this
 |makeMap t r=>
  have rr:=Dq (g:=g) (I:=I) (ρ:=ρ) r (fun y hy=>j y (by simp[Op.operands]at hy⊢;exact hy))
  refine kR.qB fun v h=>?_
  exact nL.v (I_ H ok h rr)
 |slice t x a b c=>
  have rx:=j x (by simp[Op.operands])
  have A:=Dq (g:=g) (I:=I) (ρ:=ρ) a (fun y hy=>j y (by simp[Op.operands]at hy⊢;simp[hy]))
  have rb:=Dq (g:=g) (I:=I) (ρ:=ρ) b (fun y hy=>j y (by simp[Op.operands]at hy⊢;simp[hy]))
  have E:=Dq (g:=g) (I:=I) (ρ:=ρ) c (fun y hy=>j y (by simp[Op.operands]at hy⊢;simp[hy]))
  refine kR.kI fun v h=>?_
  exact nL.v (LU ok H h rx A rb E)
 |_=>exact .inl fun _=>⟨0,rfl⟩
end
end
end Sw
namespace Sw
noncomputable section
open Go Go.RowKit
section
variable {T:Ty}{P:Program}{B0:Nat}{w0:World}{g:Gm}{O:Hp}{G n:Nat}{w:World}
theorem gV.Me{x:Value}{xs:List Value}{b:List Value}(h:gV g (x::xs) b):∃x',b.toArray[0]?=some x'/\fK g x x':=by
 obtain⟨x',h1,D⟩:=h.get (i:=0) rfl
 exact⟨x',by simpa using h1,D⟩
theorem gV.XH{x y:Value}{xs:List Value}{b:List Value}(h:gV g (x::y::xs) b):∃y',b.toArray[1]?=some y'/\fK g y y':=by
 obtain⟨x',h1,D⟩:=h.get (i:=1) rfl
 exact⟨x',by simpa using h1,D⟩
theorem Mf(ok:T.Ok P)(H:gm B0 w0 g O G w){b:Builtin}{ts:List TypeId}{l p:List Value}(hl:gV g l p)(ty:TypeId)(e:Array Bool)(m:List Nat->K1)(j:List Nat->K2):
 kR (nL P B0 w0 g O G n w ((Go.builtin b ts.toArray ty e p.toArray).run P w)) (fun i=>bi b T O n ts l (m i) (j i)) m j:=by
 have fail:∀Q,kR Q (fun _=>.gk 0) m j:=fun _=>.inl fun _=>⟨0,rfl⟩
 cases b<;>first|exact fail _|skip
 ·
  rcases ts with _|⟨t,_|⟨u,ts⟩⟩<;>first|exact fail _|skip
  rcases l with _|⟨x,_|⟨y,l⟩⟩<;>first|exact fail _|skip
  · skip
    obtain⟨x',a0,rx⟩:=hl.Me
    obtain⟨y',a1,o⟩:=hl.XH
    refine kR.qB fun f h=>?_
    exact nL.v (KU ok H h rx o (by simp) (by simp) a0 a1 ty)
 ·
  rcases ts with _|⟨t,ts⟩<;>first|exact fail _|skip
  rcases l with _|⟨x,l⟩<;>first|exact fail _|skip
  · skip
    obtain⟨x',a0,rx⟩:=hl.Me
    refine kR.kI fun f h=>?_
    exact nL.v (P1 ok H (by simp) h rx _ a0 ty)
 ·
  rcases ts with _|⟨t,ts⟩<;>first|exact fail _|skip
  rcases l with _|⟨x,l⟩<;>first|exact fail _|skip
  · skip
    obtain⟨x',a0,rx⟩:=hl.Me
    refine kR.qB fun f h=>?_
    exact nL.v (Mc ok H (by simp) h rx _ a0 ty)
 ·
  rcases ts with _|⟨t,ts⟩<;>first|exact fail _|skip
  rcases l with _|⟨x,_|⟨y,l⟩⟩<;>first|exact fail _|skip
  · skip
    obtain⟨x',a0,rx⟩:=hl.Me
    obtain⟨y',a1,o⟩:=hl.XH
    refine kR.qB fun f h=>?_
    exact nL.v (Oc ok H (by simp) h rx o _ a0 a1 ty)
 ·
  rcases ts with _|⟨t,ts⟩<;>first|exact fail _|skip
  rcases l with _|⟨x,l⟩<;>first|exact fail _|skip
  · skip
    obtain⟨x',a0,rx⟩:=hl.Me
    refine kR.kI fun f h=>?_
    exact nL.v (PT ok H (by simp) h rx _ a0 ty)
 · refine kR.kI fun f h=>?_
   exact nL.v (PZ H (by simpa using hl) h)
 · refine kR.kI fun f h=>?_
   exact nL.v (P0 H (by simpa using hl) h)
end
end
end Sw
namespace Sw
noncomputable section
open Go Go.RowKit
def At(b:Frame)(a:Act)(todo:List Item):Frame:={b with tmps:=a.tmps,todo,defers:=a.defers,mode:=.run}
section
variable {P:Program}{b:Frame}{a:Act}{k:List Item}{Z:List Frame}{w:World}
theorem At.eval(b:Frame)(a:Act)(todo:List Item)(x:Operand):(At b a todo).eval x=a.eval x:=by cases x<;>rfl
theorem O7:step P (lone (At b a (.code .skip::k)) Z w)=.next (lone (At b a k) Z w):=step_lone_go (by simp[stepG,stepG.exec,At])
theorem TV{l:Nat}:step P (lone (At b a (.code (.label l)::k)) Z w)=.next (lone (At b a k) Z w):=step_lone_go (by simp[stepG,stepG.exec,At])
theorem P5{id:Nat}:step P (lone (At b a (.inBlock id::k)) Z w)=.next (lone (At b a k) Z w):=step_lone_go (by simp[stepG,stepG.exec,At])
theorem P6{c:Code}:step P (lone (At b a (.inScope c::k)) Z w)=.next (lone (At b a k) Z w):=step_lone_go (by simp[stepG,stepG.exec,At])
theorem HV{x y:Code}:step P (lone (At b a (.code (.seq x y)::k)) Z w)=.next (lone (At b a (.code x::.code y::k)) Z w):=step_lone_go (by simp[stepG,stepG.exec,At])
theorem O9{c:Operand}{x y:Code}{t:Bool}(h:a.eval c=.bool t):step P (lone (At b a (.code (.cond c x y)::k)) Z w)=.next (lone (At b a (.code (if t then x else y)::k)) Z w):=
 step_lone_go (by
  have:=At.eval b a (.code (.cond c x y)::k) c
  simp only[At]at this
  simp[stepG,stepG.exec,At,this,h])
theorem GX{id:Nat}{c:Code}:step P (lone (At b a (.code (.block id c)::k)) Z w)=.next (lone (At b a (.code c::.inBlock id::k)) Z w):=step_lone_go (by simp[stepG,stepG.exec,At])
theorem Mg{c:Code}:step P (lone (At b a (.code (.scope c)::k)) Z w)=.next (lone (At b a (.code c::.inScope c::k)) Z w):=step_lone_go (by simp[stepG,stepG.exec,At])
theorem Je{c:Code}:step P (lone (At b a (.code (.loop c)::k)) Z w)=.next (lone (At b a (.code c::.inLoop c::k)) Z w):=step_lone_go (by simp[stepG,stepG.exec,At])
theorem Ru{c:Code}:step P (lone (At b a (.inLoop c::k)) Z w)=.next (lone (At b a (.code c::.inLoop c::k)) Z w):=step_lone_go (by simp[stepG,stepG.exec,At])
theorem Wh{id:Nat}{k':List Item}(h:exitTo id k=some k'):step P (lone (At b a (.code (.exit id)::k)) Z w)=.next (lone (At b a k') Z w):=step_lone_go (by simp[stepG,stepG.exec,At,h])
theorem EM{id:Nat}{ops:Array Oper}:step P (lone (At b a (.code (.region id ops false)::k)) Z w)=.next (lone (At b a (.inRegion ops (List.range ops.size)::k)) Z w):=
 step_lone_go (by simp[stepG,stepG.exec,At])
theorem yc{ops:Array Oper}:step P (lone (At b a (.inRegion ops []::k)) Z w)=.next (lone (At b a k) Z w):=step_lone_go (by simp[stepG,stepG.exec,At])
def AO(id:Nat):List Item->Prop
 |[]=>True
 |.inBlock i::k=>i≠id/\AO id k
 |_::k=>AO id k
theorem Cf{id:Nat}:∀(b k:List Item),AO id b->exitTo id (b++k)=exitTo id k
 |[],_,_=>rfl
 |x::b,k,h=>by
  cases x<;>first|exact Cf b k h|skip
  rename_i i
  obtain⟨h1,D⟩:=h
  show(if i==id then some (b++k)else exitTo id (b++k))=_
  rw[if_neg (by simpa using h1)]
  exact Cf b k D
def Ends(o:Nat)(k todo:List Item):Prop:=
 match o with
 |0=>todo=k
 |1=>∃b,todo=.code .ret::b
 |i+2=>∃b,todo=.code (.exit i)::(b++k)/\AO i b
end
end
end Sw
namespace Sw
noncomputable section
open Go Go.RowKit
def XI(g:Gm)(nt:Nat)(I:Tm)(ds:List Deferred)(a:Act):Prop:=rS g nt I a.tmps/\ny g ds a.defers
structure vE(B0:Nat)(w0:World)(g:Gm)(nt:Nat)(s:St)(a:Act)(w:World):Prop where
 heap:gm B0 w0 g s.O.get s.G w
 act:XI g nt s.I s.ds a
structure yd(g:Gm)(G:Nat)(g':Gm)(e5:Nat):Prop where
 le:g.le g'
 num:G<=e5
 new:∀b,g'.fW b≠none->g.fW b≠none\/G<=b
theorem yd.refl(g:Gm)(G:Nat):yd g G g G:=⟨Gm.le_refl g,e9 _,fun _ h=>.inl h⟩
theorem yd.trans{g g1 g2:Gm}{n j n2:Nat}(h:yd g n g1 j)(k:yd g1 j g2 n2):yd g n g2 n2:=
 ⟨Gm.le_trans h.le k.le,e8 h.num k.num,fun b e=>(k.new b e).elim (fun e=>h.new b e) (fun e=>.inr (e8 h.num e))⟩
def Kept(g:Gm)(w w':World):Prop:=w.heap.size<=w'.heap.size/\∀rb,rb<w.heap.size->(∀b ro,g.fW b≠some (rb,ro))->w'.heap[rb]?=w.heap[rb]?
theorem Kept.refl(g:Gm)(w:World):Kept g w w:=⟨e9 _,fun _ _ _=>rfl⟩
theorem Kept.trans{g g':Gm}{w w1 m:World}(h:Kept g w w1)(hn:pD g g' w)(k:Kept g' w1 m):Kept g w m:=
 ⟨Nat.le_trans h.1 k.1,fun rb jA j=>by
   refine(k.2 rb (e4 jA h.1) (fun b ro e=>?_)).trans (h.2 rb jA j)
   rcases hn b rb ro e with⟨o,p,q⟩|q
   · exact j o p q
   · omega⟩
structure lI(g:Gm)(G:Nat)(w:World)(g':Gm)(e5:Nat)(w':World):Prop where
 ext:yd g G g' e5
 kept:Kept g w w'
 held:pD g g' w
theorem lI.refl(g:Gm)(G:Nat)(w:World):lI g G w g G w:=⟨yd.refl _ _,Kept.refl _ _,pD.refl _ _⟩
theorem lI.trans{g g1 g2:Gm}{n j n2:Nat}{w w1 m:World}(h:lI g n w g1 j w1)(k:lI g1 j w1 g2 n2 m):lI g n w g2 n2 m:=
 ⟨h.ext.trans k.ext,h.kept.trans h.held k.kept,fun b rb ro e=>by
   rcases k.held b rb ro e with⟨o,p,q⟩|q
   · exact h.held o rb p q
   · exact .inr (e8 h.kept.1 q)⟩
end
end Sw
namespace Sw
noncomputable section
open Go Go.RowKit
def jE(P:Program)(B0:Nat)(w0:World)(b:Frame)(nt:Nat)(g:Gm)(G:Nat)(c:Code)(a:Act)(w:World)(o:Nat)(e:St)(ks:List Item)(fs:List Frame):Prop:=
 ∃a' w' g',vE B0 w0 g' nt e a' w'/\lI g G w g' e.G w'/\
  ∃todo,Ends o ks todo/\Steps P (lone (At b a (.code c::ks)) fs w) (lone (At b a' todo) fs w')
def lV(f:List Nat->R)(oI:(List Nat->R)->Prop):Prop:=
 ∃pre:List Nat,(∀p c q,pre=p++c::q->∃m,f p=.gk m/\c<m)/\oI (fun rest=>f (pre++rest))
def zV(f:List Nat->R):Prop:=∀rest,∃m,f rest=.gk m
theorem lV.here{f:List Nat->R}{oI:(List Nat->R)->Prop}(h:oI f):lV f oI:=⟨[],(fun p c q e=>by cases p<;>cases e),h⟩
theorem Ai{b j p q:List Nat}{c:Nat}(h:b++j=p++c::q):(∃o,b=p++c::o)\/∃m,p=b++m/\j=m++c::q:=by
 induction b generalizing p with
 |nil=>exact .inr ⟨p,rfl,h⟩
 |cons x xs ih=>
  cases p with
  |nil=>simp at h;obtain⟨rfl,_⟩:=h;exact .inl ⟨xs,rfl⟩
  |cons y u=>
   simp at h
   obtain⟨rfl,h⟩:=h
   rcases ih h with⟨o,rfl⟩|⟨m,rfl,e⟩
   · exact .inl ⟨o,rfl⟩
   · exact .inr ⟨m,rfl,e⟩
theorem lV.bind{f:List Nat->R}{oI m:(List Nat->R)->Prop}(h:lV f oI)(k:∀f',oI f'->lV f' m):lV f m:=by
 obtain⟨b,p1,h1⟩:=h
 obtain⟨j,o,D⟩:=k _ h1
 refine⟨b++j,fun p c q e=>?_,?_⟩
 · rcases Ai e with⟨u,e1⟩|⟨pp,rfl,e2⟩
   · exact p1 p c u e1
   · exact o pp c q e2
 · have:(fun rest=>f (b++j++rest))=fun rest=>f (b++(j++rest)):=by funext r;rw[List.append_assoc]
   rw[this];exact D
theorem lV.map{f f2:List Nat->R}{oI u:(List Nat->R)->Prop}(h:lV f oI)(hn:∀p m,f p=.gk m->f2 p=.gk m)
 (k:∀pre,oI (fun rest=>f (pre++rest))->lV (fun rest=>f2 (pre++rest)) u):lV f2 u:=by
 obtain⟨j,p1,h1⟩:=h
 obtain⟨o,y,D⟩:=k j h1
 refine⟨j++o,fun p c q e=>?_,?_⟩
 · rcases Ai e with⟨z,e1⟩|⟨pp,rfl,e2⟩
   · obtain⟨m,a,b⟩:=p1 p c z e1
     exact⟨m,hn _ _ a,b⟩
   · exact y pp c q e2
 · have:(fun rest=>f2 (j++o++rest))=fun rest=>f2 (j++(o++rest)):=by funext r;rw[List.append_assoc]
   rw[this];exact D
theorem lV.mono{f:List Nat->R}{oI e:(List Nat->R)->Prop}(h:lV f oI)(k:∀f',oI f'->e f'):lV f e:=by
 obtain⟨pre,a,b⟩:=h;exact⟨pre,a,k _ b⟩
theorem lV.dead{f:List Nat->R}{oI:(List Nat->R)->Prop}(h:zV f):lV f fun r=>zV r\/oI r:=.here (.inl h)
def St.at(s:St)(Z:List Nat):St:={s with Z}
def vh(P:Program)(B0:Nat)(w0:World)(b:Frame)(nt:Nat)(g:Gm)(G:Nat)(c:Code)(a:Act)(w:World)(ks:List Item)(fs:List Frame)(r:List Nat->R):Prop:=
 lV r fun e=>zV e\/∃o j,(∀Z,e Z=.ok (o,j.at Z))/\jE P B0 w0 b nt g G c a w o j ks fs
end
end Sw
namespace Sw
noncomputable section
open Go Go.RowKit
section
variable {P:Program}{B0:Nat}{w0:World}{b:Frame}{nt:Nat}{g:Gm}{G:Nat}{a:Act}{w:World}{ks:List Item}{fs:List Frame}
theorem jE.here{c:Code}{o:Nat}{s:St}(h:vE B0 w0 g nt s a w)(hs:∃todo,Ends o ks todo/\Steps P (lone (At b a (.code c::ks)) fs w) (lone (At b a todo) fs w)):
 jE P B0 w0 b nt g s.G c a w o s ks fs:=
 ⟨a,w,g,h,lI.refl _ _ _,hs⟩
theorem jE.skip{s:St}(h:vE B0 w0 g nt s a w):jE P B0 w0 b nt g s.G .skip a w 0 s ks fs:=.here h ⟨ks,rfl,.one O7⟩
theorem jE.label{l:Nat}{s:St}(h:vE B0 w0 g nt s a w):jE P B0 w0 b nt g s.G (.label l) a w 0 s ks fs:=.here h ⟨ks,rfl,.one TV⟩
theorem jE.exit{i:Nat}{s:St}(h:vE B0 w0 g nt s a w):jE P B0 w0 b nt g s.G (.exit i) a w (i+2) s ks fs:=.here h ⟨_,⟨[],rfl,trivial⟩,.refl ..⟩
theorem jE.ret{s:St}(h:vE B0 w0 g nt s a w):jE P B0 w0 b nt g s.G .ret a w 1 s ks fs:=.here h ⟨_,⟨ks,rfl⟩,.refl ..⟩
theorem jE.Lu{c c1:Code}{o:Nat}{s1:St}(x:List Item)(h:jE P B0 w0 b nt g G c1 a w (o+1) s1 (x++ks) fs)(hx:∀i,o=i+1->AO i x)
 (hc:Steps P (lone (At b a (.code c::ks)) fs w) (lone (At b a (.code c1::(x++ks))) fs w)):jE P B0 w0 b nt g G c a w (o+1) s1 ks fs:=by
 obtain⟨a1,w1,g1,r1,e1,todo,j,st⟩:=h
 refine⟨a1,w1,g1,r1,e1,todo,?_,hc.trans st⟩
 cases o with
 |zero=>exact j
 |succ i=>
  obtain⟨m,e,hn⟩:=j
  refine⟨m++x,by rw[e,List.append_assoc],?_⟩
  have hx:=hx i rfl
  clear e
  induction m with
  |nil=>exact hx
  |cons y p ih=>
   cases y<;>first|exact ih hn|exact⟨hn.1,ih hn.2⟩
theorem jE.GY{c1 c2:Code}{o:Nat}{s1:St}(h:jE P B0 w0 b nt g G c1 a w (o+1) s1 (.code c2::ks) fs):jE P B0 w0 b nt g G (.seq c1 c2) a w (o+1) s1 ks fs:=
 jE.Lu [.code c2] h (fun _ _=>trivial) (.one HV)
theorem jE.YU{c:Code}{o:Nat}{s1 s2:St}{a1:Act}{w1:World}{g1:Gm}(e1:lI g G w g1 s1.G w1)(t1:∃todo,Ends 0 (.inLoop c::ks) todo/\Steps P (lone (At b a (.code c::.inLoop c::ks)) fs w) (lone (At b a1 todo) fs w1))(k:jE P B0 w0 b nt g1 s1.G (.loop c) a1 w1 o s2 ks fs):
 jE P B0 w0 b nt g G (.loop c) a w o s2 ks fs:=by
 obtain⟨a2,z,g2,r2,e2,j,p,n,st2⟩:=k
 obtain⟨y,u,st1⟩:=t1
 have u:y=.inLoop c::ks:=u
 subst u
 refine⟨a2,z,g2,r2,e1.trans e2,j,p,((Steps.one Je).trans st1).trans ?_⟩
 cases n with
 |zero=>
  exfalso
  have st2:Stepped.next (lone (At b a1 (.code (.loop c)::ks)) fs w1)=.next (lone (At b a2 j) fs z):=st2
  have:(.code (.loop c)::ks:List Item)=j:=by
   have:=congrArg (fun x=>match x with|Stepped.next m=>(m.gs[0]?).map (fun g:Goroutine=>g.frame.todo)|_=>none) st2
   simpa[lone,At]using this
  subst this
  cases o with
  |zero=>have:(.code (.loop c)::ks:List Item)=ks:=p;exact(List.cons_ne_self _ _ this).elim
  |succ o=>
   cases o with
   |zero=>obtain⟨A,e⟩:=p;cases e
   |succ i=>obtain⟨A,e,_⟩:=p;cases e
 |succ n=>
  have st2:(match step P (lone (At b a1 (.code (.loop c)::ks)) fs w1)with|.next m=>runN P n m|e=>e)=.next (lone (At b a2 j) fs z):=st2
  rw[Je]at st2
  exact .head Ru ⟨n,st2⟩
theorem jE.EN{c:Code}{o:Nat}{s1:St}(h:jE P B0 w0 b nt g G c a w (o+1) s1 (.inLoop c::ks) fs):jE P B0 w0 b nt g G (.loop c) a w (o+1) s1 ks fs:=
 jE.Lu [.inLoop c] h (fun _ _=>trivial) (.one Je)
theorem jE.more{c c1:Code}{o o':Nat}{s1:St}{p:List Item}(h:jE P B0 w0 b nt g G c1 a w o s1 p fs)
 (hc:Steps P (lone (At b a (.code c::ks)) fs w) (lone (At b a (.code c1::p)) fs w))
 (hd:∀a1 w1 todo,Ends o p todo->∃e,Ends o' ks e/\Steps P (lone (At b a1 todo) fs w1) (lone (At b a1 e) fs w1)):jE P B0 w0 b nt g G c a w o' s1 ks fs:=by
 obtain⟨a1,w1,g1,r1,e1,j,u,st1⟩:=h
 obtain⟨m,y,st2⟩:=hd a1 w1 j u
 exact⟨a1,w1,g1,r1,e1,m,y,(hc.trans st1).trans st2⟩
theorem jE.TW{c:Code}{id:Nat}{s1:St}(h:jE P B0 w0 b nt g G c a w 0 s1 (.inBlock id::ks) fs):jE P B0 w0 b nt g G (.block id c) a w 0 s1 ks fs:=
 h.more (.one GX) fun a1 w1 todo e=>⟨ks,rfl,by have e:todo=.inBlock id::ks:=e;subst e;exact .one P5⟩
theorem jE.EO{c:Code}{id:Nat}{s1:St}(h:jE P B0 w0 b nt g G c a w (id+2) s1 (.inBlock id::ks) fs):jE P B0 w0 b nt g G (.block id c) a w 0 s1 ks fs:=
 h.more (.one GX) fun a1 w1 todo e=>⟨ks,rfl,by
  obtain⟨j,rfl,hn⟩:=e
  refine .one (Wh ?_)
  rw[Cf _ _ hn]
  simp[exitTo]⟩
theorem jE.P7{c:Code}{id o:Nat}{s1:St}(h:jE P B0 w0 b nt g G c a w (o+1) s1 (.inBlock id::ks) fs)(jB:o+1≠id+2):jE P B0 w0 b nt g G (.block id c) a w (o+1) s1 ks fs:=
 jE.Lu [.inBlock id] h (fun i e=>⟨by omega,trivial⟩) (.one GX)
theorem jE.TX{c:Code}{s1:St}(h:jE P B0 w0 b nt g G c a w 0 s1 (.inScope c::ks) fs):jE P B0 w0 b nt g G (.scope c) a w 0 s1 ks fs:=
 h.more (.one Mg) fun a1 w1 todo e=>⟨ks,rfl,by have e:todo=.inScope c::ks:=e;subst e;exact .one P6⟩
theorem jE.P8{c:Code}{o:Nat}{s1:St}(h:jE P B0 w0 b nt g G c a w (o+1) s1 (.inScope c::ks) fs):jE P B0 w0 b nt g G (.scope c) a w (o+1) s1 ks fs:=
 jE.Lu [.inScope c] h (fun _ _=>trivial) (.one Mg)
theorem jE.cond{x:Operand}{c1 c2:Code}{t:Bool}{o:Nat}{s1:St}(hx:a.eval x=.bool t)(h:jE P B0 w0 b nt g G (if t then c1 else c2) a w o s1 ks fs):jE P B0 w0 b nt g G (.cond x c1 c2) a w o s1 ks fs:=
 h.more (.one (O9 hx)) fun a1 w1 todo e=>⟨todo,e,.refl ..⟩
end
end
end Sw
namespace Sw
noncomputable section
open Go Go.RowKit
section
variable {P:Program}{b:Frame}{a:Act}{k:List Item}{Z:List Frame}{w w':World}{ops:Array Oper}{i:Nat}{rest:List Nat}{o:Oper}
theorem At.YV(b:Frame)(a:Act)(todo:List Item):(At b a todo).eval=a.eval:=funext (At.eval b a todo)
theorem At.finish(b:Frame)(a:Act)(ops:Array Oper)(i:Nat)(rest:List Nat)(k:List Item)(v:Value):
 (At b a (.inRegion ops (i::rest)::k)).finish v=At b (a.put ((ops[i]?).bind (·.dst)) v) (.inRegion ops rest::k):=by
 cases h:(ops[i]?).bind (·.dst)<;>simp[Frame.finish,At,Act.put,h]
def qF:Op->Bool
 |.defer _=>false
 |_=>true
theorem HW(j:ops[i]?=some o)(hw:Region.wanted o (yielded ops a.tmps)=true)(hd:b.roundOf=none\/qF o.op=true):
 stepG P true {frame:=At b a (.inRegion ops (i::rest)::k),callers:=Z,status:=.running,dying:=none} w=
  stepG.apply P true (At b a (.inRegion ops (i::rest)::k)) Z none (execOp a.eval o) w:=by
 have he:=At.YV b a (.inRegion ops (i::rest)::k)
 simp only[At]at he
 rcases hd with hd|hd
 · simp[stepG,stepG.exec,stepG.oper,Frame.oper?,At,j,hw,hd]at he⊢
   rw[he]
 · cases e:o.op<;>first|(rw[e]at hd;cases hd;done)|skip
   all_goals
    simp[stepG,stepG.exec,stepG.oper,Frame.oper?,At,j,hw,e]at he⊢
    rw[he]
    try (cases b.roundOf<;>rfl)
theorem Dr{v:Value}(j:ops[i]?=some o)(hw:Region.wanted o (yielded ops a.tmps)=true)(hd:b.roundOf=none\/qF o.op=true)(h:(execOp a.eval o).run P w=.ok (.value v) w'):
 step P (lone (At b a (.inRegion ops (i::rest)::k)) Z w)=.next (lone (At b (a.put o.dst v) (.inRegion ops rest::k)) Z w'):=by
 have e:=At.finish b a ops i rest k v
 rw[j]at e
 refine step_lone_go ?_
 rw[HW j hw hd]
 have e:(At b a (.inRegion ops (i::rest)::k)).finish v=At b (a.put o.dst v) (.inRegion ops rest::k):=e
 rw[<-e]
 simp[stepG.apply,h]
theorem Rv{v:Value}(j:ops[i]?=some o)(hw:Region.wanted o (yielded ops a.tmps)=true)(hd:b.roundOf=none\/qF o.op=true)(h:(execOp a.eval o).run P w=.ok .skip w')(m:v=undef):
 step P (lone (At b a (.inRegion ops (i::rest)::k)) Z w)=.next (lone (At b (a.put o.dst v) (.inRegion ops rest::k)) Z w'):=by
 subst m
 have e:=At.finish b a ops i rest k undef
 rw[j]at e
 refine step_lone_go ?_
 rw[HW j hw hd]
 have e:(At b a (.inRegion ops (i::rest)::k)).finish undef=At b (a.put o.dst undef) (.inRegion ops rest::k):=e
 rw[<-e]
 simp[stepG.apply,h]
theorem EP{v:Value}(e:ops[i]?=some o)(hw:Region.wanted o (yielded ops a.tmps)=true)(hd:b.roundOf=none\/qF o.op=true)(h:HU ((execOp a.eval o).run P w)=.ok v w'):
 step P (lone (At b a (.inRegion ops (i::rest)::k)) Z w)=.next (lone (At b (a.put o.dst v) (.inRegion ops rest::k)) Z w'):=by
 rcases XG h with h|⟨h,j⟩
 · exact Dr e hw hd h
 · exact Rv e hw hd h j
theorem D4(j:ops[i]?=some o)(hw:Region.wanted o (yielded ops a.tmps)=false):
 step P (lone (At b a (.inRegion ops (i::rest)::k)) Z w)=.next (lone (At b (a.put o.dst undef) (.inRegion ops rest::k)) Z w):=by
 have e:=At.finish b a ops i rest k undef
 rw[j]at e
 refine step_lone_go ?_
 have e:(At b a (.inRegion ops (i::rest)::k)).finish undef=At b (a.put o.dst undef) (.inRegion ops rest::k):=e
 rw[<-e]
 simp[stepG,stepG.exec,At,j,hw]
end
end
end Sw
namespace Sw
noncomputable section
open Go Go.RowKit
theorem P9(n:Nat):Nat.land n 1=n%2:=Nat.and_one_is_mod n
theorem Tr.vF{α:Type}(v:Option α)(l r:Tr α)(n:Nat):(Tr.node v l r).yN n=if n=1 then v else if n%2=0 then l.yN (n/2)else r.yN (n/2):=by
 show(Bool.rec (motive:=fun _=>Option α) (Nat.rec (motive:=fun _=>Option α) (l.yN (Nat.div n 2)) (fun _ _=>r.yN (Nat.div n 2)) (Nat.land n 1)) v (Nat.beq n 1))=_
 by_cases h:n=1
 · subst h;rfl
 · rw[if_neg h]
   have:Nat.beq n 1=false:=by
    cases e:Nat.beq n 1 with
    |false=>rfl
    |true=>exact absurd (fj e) h
   rw[this,P9]
   rcases Nat.mod_two_eq_zero_or_one n with e|e<;>rw[e]<;>rfl
theorem Tr.Wi{α:Type}(f n:Nat)(o:Option α):Tr.mk (f+1) n o=if n=1 then .node o .nil .nil else if n%2=0 then .node none (Tr.mk f (n/2) o) .nil else .node none .nil (Tr.mk f (n/2) o):=by
 show(Bool.rec (motive:=fun _=>Tr α) (Nat.rec (motive:=fun _=>Tr α) (.node none (Tr.mk f (Nat.div n 2) o) .nil) (fun _ _=>.node none .nil (Tr.mk f (Nat.div n 2) o)) (Nat.land n 1)) (.node o .nil .nil) (Nat.beq n 1))=_
 by_cases h:n=1
 · subst h;rfl
 · rw[if_neg h]
   have:Nat.beq n 1=false:=by
    cases e:Nat.beq n 1 with
    |false=>rfl
    |true=>exact absurd (fj e) h
   rw[this,P9]
   rcases Nat.mod_two_eq_zero_or_one n with e|e<;>rw[e]<;>rfl
theorem Tr.XJ{α:Type}(o:Option α):∀(f n m:Nat),1<=n->1<=m->n<=f->(Tr.mk f n o).yN m=if m=n then o else none:=by
 intro f
 induction f with
 |zero=>intro n m h1 _ h;omega
 |succ f ih=>
  intro n m h1 hm h
  rw[Tr.Wi]
  by_cases D:n=1
  · rw[if_pos D,Tr.vF,D]
    by_cases h3:m=1
    · rw[if_pos h3,if_pos h3]
    · rw[if_neg h3,if_neg h3];split<;>rfl
  · rw[if_neg D]
    by_cases h4:n%2=0
    · rw[if_pos h4,Tr.vF]
      by_cases h3:m=1
      · rw[if_pos h3,if_neg (by omega)]
      · rw[if_neg h3]
        by_cases b:m%2=0
        · rw[if_pos b,ih _ _ (by omega) (by omega) (by omega)]
          by_cases j:m=n
          · rw[if_pos j,if_pos (by omega)]
          · rw[if_neg j,if_neg (by omega)]
        · rw[if_neg b,if_neg (by intro e;omega)];rfl
    · rw[if_neg h4,Tr.vF]
      by_cases h3:m=1
      · rw[if_pos h3,if_neg (by omega)]
      · rw[if_neg h3]
        by_cases b:m%2=0
        · rw[if_pos b,if_neg (by intro e;omega)];rfl
        · rw[if_neg b,ih _ _ (by omega) (by omega) (by omega)]
          by_cases j:m=n
          · rw[if_pos j,if_pos (by omega)]
          · rw[if_neg j,if_neg (by omega)]
theorem Tr.TY{α:Type}(n:Nat)(o:Option α):(Tr.nil:Tr α).zQ n o=Tr.mk n n o:=rfl
theorem Tr.Rw{α:Type}(v:Option α)(l r:Tr α)(n:Nat)(o:Option α):(Tr.node v l r).zQ n o=if n=1 then .node o l r else if n%2=0 then .node v (l.zQ (n/2) o) r else .node v l (r.zQ (n/2) o):=by
 show(Bool.rec (motive:=fun _=>Tr α)
  (Nat.rec (motive:=fun _=>Tr α)
    (Tr.rec (motive:=fun _=>Tr α) (.node v .nil r) (fun v' b j _ _=>.node v (.node v' b j) r) (l.zQ (Nat.div n 2) o))
    (fun _ _=>Tr.rec (motive:=fun _=>Tr α) (.node v l .nil) (fun v' b j _ _=>.node v l (.node v' b j)) (r.zQ (Nat.div n 2) o)) (Nat.land n 1))
  (.node o l r) (Nat.beq n 1))=_
 by_cases h:n=1
 · subst h;rfl
 · rw[if_neg h]
   have:Nat.beq n 1=false:=by
    cases e:Nat.beq n 1 with
    |false=>rfl
    |true=>exact absurd (fj e) h
   rw[this,P9]
   have eta:∀(t:Tr α) (F:Tr α->Tr α),Tr.rec (motive:=fun _=>Tr α) (F .nil) (fun v' b j _ _=>F (.node v' b j)) t=F t:=fun t F=>by cases t<;>rfl
   rcases Nat.mod_two_eq_zero_or_one n with e|e<;>rw[e]
   · exact eta (l.zQ (Nat.div n 2) o) (fun t=>.node v t r)
   · exact eta (r.zQ (Nat.div n 2) o) (fun t=>.node v l t)
theorem Tr.Kc{α:Type}(t:Tr α)(o:Option α):∀n m:Nat,1<=n->1<=m->(t.zQ n o).yN m=if m=n then o else t.yN m:=by
 induction t with
 |nil=>intro n m h1 D;rw[Tr.TY,Tr.XJ o n n m h1 D (Nat.le_refl _)];rfl
 |node v l r p u=>
  intro n m h1 D
  rw[Tr.Rw,Tr.vF v l r m]
  by_cases hn:n=1
  · rw[if_pos hn,Tr.vF]
    by_cases hm:m=1
    · rw[if_pos hm,if_pos (show m=n by omega)]
    · rw[if_neg hm,if_neg (show¬m=n by omega),if_neg hm]
  · rw[if_neg hn]
    by_cases he:n%2=0
    · rw[if_pos he,Tr.vF]
      by_cases hm:m=1
      · rw[if_pos hm,if_neg (by omega),if_pos hm]
      · rw[if_neg hm]
        by_cases b:m%2=0
        · rw[if_pos b,p _ _ (by omega) (by omega)]
          by_cases j:m=n
          · rw[if_pos j,if_pos (by omega)]
          · rw[if_neg j,if_neg (by omega),if_neg hm,if_pos b]
        · rw[if_neg b,if_neg (by intro e;omega),if_neg hm,if_neg b]
    · rw[if_neg he,Tr.vF]
      by_cases hm:m=1
      · rw[if_pos hm,if_neg (by omega),if_pos hm]
      · rw[if_neg hm]
        by_cases b:m%2=0
        · rw[if_pos b,if_neg (by intro e;omega),if_neg hm,if_pos b]
        · rw[if_neg b,u _ _ (by omega) (by omega)]
          by_cases j:m=n
          · rw[if_pos j,if_pos (by omega)]
          · rw[if_neg j,if_neg (by omega),if_neg hm,if_neg b]
theorem Tr.nT(t:Ht)(n:Nat)(o:Option (jM Tm)):(t.set n o).get=Hp.set t.get n o:=by
 funext m
 show(t.zQ (n+1) o).yN (m+1)=if m=n then o else t.yN (m+1)
 rw[Tr.Kc t o _ _ (by omega) (by omega)]
 by_cases h:m=n
 · rw[if_pos h,if_pos (by omega)]
 · rw[if_neg h,if_neg (by omega)]
theorem G0(low:Nat):∀(jC:ub) (h j:Ht),zS low jC h=some j->j.get=Hp.uc h.get jC
 |[],h,j,e=>by cases e;rfl
 |(b,o)::m,h,j,e=>by
  unfold zS at e
  cases hb:Nat.ble low b with
  |false=>rw[hb]at e;cases e
  |true=>
   rw[hb]at e
   have:=G0 low m _ _ e
   rw[this,Tr.nT];rfl
end
end Sw
namespace Sw
noncomputable section
open Go Go.RowKit
theorem Ds(d:Nat)(t:Tm)(v:Value):(kh (some d)).run t v=t.set d v:=rfl
theorem fK.G1(g:Gm):∀(n:Nat) (v:Value),zu n v=true->fK g v v:=by
 intro n
 induction n with
 |zero=>
  intro v h
  unfold zu at h
  split at h<;>first|(cases h;done)|skip
  · exact .bool _
  · exact .int _ _
  · exact .string _
  · exact .nilPtr
  · exact .qb
  · exact .vz
  · exact .nilFunc
  · exact .nilIface
  · exact .func rfl rfl (fun i v v' e=>by simp at e) (fun i v v' e=>by simp at e)
  all_goals (rename_i h0;exact absurd h0 (by simp))
 |succ n ih=>
  intro v h
  unfold zu at h
  split at h<;>first|(cases h;done)|skip
  · exact .bool _
  · exact .int _ _
  · exact .string _
  · exact .nilPtr
  · exact .qb
  · exact .vz
  · exact .nilFunc
  · exact .nilIface
  · exact .func rfl rfl (fun i v v' e=>by simp at e) (fun i v v' e=>by simp at e)
  · rename_i m x hm
    cases hm
    rw[List.all_eq_true]at h
    refine .agg rfl fun i v v' e b=>?_
    rw[e]at b;cases b
    exact ih v (h v (by obtain⟨hi,rfl⟩:=fU.1 e;simp))
  · rename_i m x hm
    cases hm
    rw[List.all_eq_true]at h
    refine .tuple rfl fun i v v' e b=>?_
    rw[e]at b;cases b
    exact ih v (h v (by obtain⟨hi,rfl⟩:=fU.1 e;simp))
  · rename_i m t v hm
    cases hm
    exact .iface (ih v h)
theorem G2{g:Gm}{ng nt:Nat}{I:Tm}{a:Act}(b:rS g nt I a.tmps)(hg:k_ g ng){x:Operand}(h:Ep ng nt x=true):fK g ((fV x).run I) (a.eval x):=by
 cases x with
 |tmp i=>
  have hi:i<nt:=fa h
  exact b.2 i hi
 |const v=>exact fK.G1 g 4 v h
 |global i=>
  have hi:i<ng:=fa h
  have:=fK.ptr (off:=0) (hg i hi)
  exact this
 |func f=>exact .func rfl rfl (fun i v v' e=>by simp at e) (fun i v v' e=>by simp at e)
theorem Rx{g:Gm}{ng nt:Nat}{I:Tm}{a:Act}(b:rS g nt I a.tmps)(hg:k_ g ng){l:List Operand}(h:l.all (Ep ng nt)=true):vt g I a.eval l:=
 fun x hx=>G2 b hg (fE.1 h x hx)
theorem rS.put{g:Gm}{nt:Nat}{I:Tm}{a:Act}(b:rS g nt I a.tmps)(hn:nt<=512){d:Option Tmp}(hd:VG nt d=true){v v':Value}(j:fK g v v'):
 rS g nt ((kh d).run I v) (a.put d v').tmps:=by
 cases d with
 |none=>exact b
 |some d=>
  have hd:@LT.lt Nat _ d nt:=fa hd
  have e:@LT.lt Nat _ d 512:=e4 hd hn
  refine⟨by simp[Act.put];exact b.1,fun i hi=>?_⟩
  rw[Ds,Tm.nT _ _ e (by omega)]
  by_cases h:d=i
  · subst h
    rw[if_pos rfl]
    have:(a.put (some d) v').tmps.getD d undef=v':=by
     have:@LT.lt Nat _ d a.tmps.size:=by rw[b.1];exact hi
     simp[Act.put,Array.getD,this]
    rw[this];exact j
  · rw[if_neg h]
    have:(a.put (some d) v').tmps.getD i undef=a.tmps.getD i undef:=by
     simp only[Act.put,Array.getD_eq_getD_getElem?]
     rw[Array.getElem?_setIfInBounds_ne h]
    rw[this];exact b.2 i hi
theorem put_defers(a:Act)(d:Option Tmp)(v:Value):(a.put d v).defers=a.defers:=by cases d<;>rfl
end
end Sw
namespace Sw
noncomputable section
open Go Go.RowKit
def zv(P:Program)(B0:Nat)(w0:World)(b:Frame)(g:Gm)(G:Nat)(ops:Array Oper)(i:Nat)(dst:Option Tmp)(a:Act)(w:World)(v:Value)(j:List Deferred)(eZ:Ht)(e5:Nat)(rest:List Nat)(ks:List Item)(fs:List Frame):Prop:=
 ∃v' e w' g',gm B0 w0 g' eZ.get e5 w'/\fK g' v v'/\ny g' j e/\lI g G w g' e5 w'/\
  Steps P (lone (At b a (.inRegion ops (i::rest)::ks)) fs w) (lone (At b ({a with defers:=e}.put dst v') (.inRegion ops rest::ks)) fs w')
def uf(P:Program)(B0:Nat)(w0:World)(b:Frame)(g:Gm)(I:Tm)(G:Nat)(ops:Array Oper)(i:Nat)(dst:Option Tmp)(a:Act)(w:World)(rest:List Nat)(ks:List Item)(fs:List Frame)(run:List Nat->(St->R)->R):Prop:=
 ∀k:St->R,lV (fun Z=>run Z k) fun f'=>zV f'\/∃v e eZ e5,(∀Z,f' Z=k ⟨(kh dst).run I v,e,eZ,e5,Z⟩)/\zv P B0 w0 b g G ops i dst a w v e eZ e5 rest ks fs
section
variable {P:Program}{B0:Nat}{w0:World}{b:Frame}{nt:Nat}{g:Gm}{G:Nat}{a:Act}{w:World}{ops:Array Oper}{i:Nat}{o:Oper}{I:Tm}{ds:List Deferred}{O:Ht}{rest:List Nat}{ks:List Item}{fs:List Frame}
theorem vm.kept{w':World}{O:Hp}(h:vm g O w w')(hs:w.heap.size<=w'.heap.size):Kept g w w':=
 ⟨hs,fun rb jA e=>h rb jA fun b _ ro _=>e b ro⟩
theorem iA.Ry(H:gm B0 w0 g O.get G w)(hd:ny g ds a.defers)(p:ops[i]?=some o)(hw:Region.wanted o (yielded ops a.tmps)=true)(hr:b.roundOf=none\/qF o.op=true)
 {v:Value} {jC:ub} {m:Nat} {eZ:Ht} {low:Nat} (h:nL P B0 w0 g O.get G G w ((execOp a.eval o).run P w) (v,jC,m)) (hu:zS low jC O=some eZ):
 zv P B0 w0 b g G ops i o.dst a w v ds eZ (G+m) rest ks fs:=by
 obtain⟨g',v',w',e⟩:=h (G+m) (gv _ _) (e9 _) (fun j hj=>H.fresh (gv _ _))
 refine⟨v',a.defers,w',g',?_,e.val,hd.mono e.le,⟨⟨e.le,gv _ _,fun b' hb=>?_⟩,e.keeps.kept e.size,e.held⟩,?_⟩
 · rw[G0 _ _ _ _ hu];exact e.rel
 · rcases e.new b' hb with h|h
   · exact .inl h
   · exact .inr h.1
 · exact .one (EP p hw hr e.run)
theorem kR.ye(H:gm B0 w0 g O.get G w)(hd:ny g ds a.defers)(e:ops[i]?=some o)(hw:Region.wanted o (yielded ops a.tmps)=true)(hr:b.roundOf=none\/qF o.op=true)
 {low:Nat} {run:K1->K2->R}
 (h:∀p j,kR (nL P B0 w0 g O.get G G w ((execOp a.eval o).run P w)) (fun i=>run (p i) (j i)) p j):
 uf P B0 w0 b g I G ops i o.dst a w rest ks fs fun Z k=>run (fun v=>k ⟨(kh o.dst).run I v,ds,O,G,Z⟩) (tK (kh o.dst).run low I ds O G Z k):=by
 intro k
 refine .here ?_
 rcases h (fun Z v=>k ⟨(kh o.dst).run I v,ds,O,G,Z⟩) (fun Z=>tK (kh o.dst).run low I ds O G Z k)with h|⟨v,h,q⟩|⟨f,h,q⟩
 · exact .inl fun Z=>h Z
 · refine .inr ⟨v,ds,O,G,h,?_⟩
   exact iA.Ry (m:=0) H hd e hw hr q (low:=0) rfl
 · obtain⟨v,jC,m⟩:=f
   cases hu:zS low jC O with
   |none=>exact .inl fun Z=>⟨0,by rw[h];simp[tK,hu]⟩
   |some eZ=>exact .inr ⟨v,ds,eZ,G+m,fun Z=>by rw[h];simp[tK,hu],iA.Ry H hd e hw hr q hu⟩
end
end
end Sw
namespace Sw
noncomputable section
open Go Go.RowKit
structure mP(P:Program)(ng:Nat)(e:Env):Prop where
 T:e.T.Ok P
 cl:e.T.Cx
 F:∀f fi,e.F f=some fi->∃fn,P.funcs[f]?=some fn/\fn.body=some fi.body/\fn.ntmps=fi.nt/\fn.results.toList=fi.ud/\(fn.name== "runtime.NumGoroutine")=false/\fi.nt<=512/\codeOk ng fi.nt fi.body=true/\
  fi.ud.all (fun|.tmp i=>Nat.blt i fi.nt|.cell i _=>Nat.blt i fi.nt)=true
 M:∀t name f,e.M t name=some f->∀(v:Value) (w:World),(method (P.types.size+Made.depth) t v name).run P w=.ok (f,v) w
section
variable {P:Program}{ng:Nat}{e:Env}{B0:Nat}{w0:World}{b:Frame}{nt:Nat}{g:Gm}{G:Nat}{a:Act}{w:World}{I:Tm}{O:Hp}
theorem Jf{t:TypeId}{v v':Value}(h:(Instr.loadAt t v).run P w=.ok v' w):(do loadVar t (<-asAddr v):Sem Value).run P w=.ok v' w:=by
 unfold Instr.loadAt Instr.sureAddr at h
 unfold asAddr
 cases v with
 |pointer x=>
  cases x with
  |some a=>exact h
  |none=>exact nomatch (show Result.halt (.stuck _) w=Result.ok v' w from h)
 |_=>exact nomatch (show Result.halt (.stuck _) w=Result.ok v' w from h)
def P_(T:Ty)(O:Hp)(t:Tm):ResultVar->Option Value
 |.tmp i=>some ((fV (.tmp i)).run t)
 |.cell a ty=>j9 T O ty ((fV (.tmp a)).run t)
theorem Of(T:Ty)(O:Hp)(t:Tm)(r:ResultVar)(b:List ResultVar):mS T O t (r::b)=(P_ T O t r).bind fun v=>(mS T O t b).map (v::·):=by
 cases r with
 |tmp i=>simp only[mS,P_,Option.bind_some];cases mS T O t b<;>rfl
 |cell a ty=>simp only[mS,P_];cases j9 T O ty ((fV (.tmp a)).run t)<;>cases mS T O t b<;>rfl
def CK(tmps:Array Value):ResultVar->Sem Value
 |.tmp t=>pure (tmps.getD t undef)
 |.cell a t=>do loadVar t (<-asAddr (tmps.getD a undef))
theorem Qa{T:Ty}(ok:T.Ok P)(H:gm B0 w0 g O G w)(b:rS g nt I a.tmps){r:ResultVar}(hr:(match r with|.tmp i=>Nat.blt i nt|.cell i _=>Nat.blt i nt)=true){v:Value}(h:P_ T O I r=some v):
 ∃v',(CK a.tmps r).run P w=.ok v' w/\fK g v v':=by
 cases r with
 |tmp i=>
  cases h
  exact⟨_,rfl,b.2 i (fa hr)⟩
 |cell i ty=>
  obtain⟨v',h1,D⟩:=Ga (P:=P) ok H h (b.2 i (fa hr))
  exact⟨v',Jf h1,D⟩
theorem EQ{T:Ty}(ok:T.Ok P)(H:gm B0 w0 g O G w)(j:rS g nt I a.tmps):∀(b:List ResultVar),b.all (fun|.tmp i=>Nat.blt i nt|.cell i _=>Nat.blt i nt)=true->∀vs,mS T O I b=some vs->
 ∃e,(b.mapM (CK a.tmps)).run P w=.ok e w/\gV g vs e
 |[],_,vs,h=>by cases h;exact⟨[],rfl,gV.nil g⟩
 |r::b,hr,vs,h=>by
  rw[Of]at h
  rw[List.all_cons,Bool.and_eq_true]at hr
  obtain⟨v,h1,D⟩:=fD.1 h
  obtain⟨l,h3,rfl⟩:=fx.1 D
  obtain⟨v',m,o⟩:=Qa ok H j (r:=r) (by cases r<;>exact hr.1) h1
  obtain⟨y,p,u⟩:=EQ ok H j b hr.2 l h3
  refine⟨v'::y,?_,gV.cons o u⟩
  rw[List.mapM_cons,fk m,fk p];rfl
theorem Og{vs b:List Value}(h:gV g vs b):fK g (qE vs) (if h:b.toArray.size=1 then b.toArray[0]else .tuple b.toArray):=by
 match vs,b,h with
 |[],[],h=>exact .tuple rfl (fun i v v' e=>by simp at e)
 |[v],[v'],h=>exact h.head
 |v::u::l,v'::m::j,h=>
  simp only[qE]
  rw[dif_neg (by simp)]
  exact .tuple h.toArray.1 h.toArray.2
 |[],_::_,h=>cases h.1
 |_::_,[],h=>cases h.1
 |[_],_::_::_,h=>cases h.1
 |_::_::_,[_],h=>cases h.1
theorem D5{T:Ty}(ok:T.Ok P)(H:gm B0 w0 g O G w)(o:rS g nt I a.tmps){fn:Func}{b:List ResultVar}(hf:fn.results.toList=b)(hr:b.all (fun|.tmp i=>Nat.blt i nt|.cell i _=>Nat.blt i nt)=true){vs:List Value}
 (h:mS T O I b=some vs):∃v',(results fn a.tmps).run P w=.ok v' w/\fK g (qE vs) v':=by
 obtain⟨j,h1,D⟩:=EQ ok H o b hr vs h
 refine⟨_,?_,Og D⟩
 have e:results fn a.tmps=(do let vs<-fn.results.mapM (CK a.tmps);pure (if h:vs.size=1 then vs[0]else .tuple vs)):=by
  unfold results
  refine congrArg (fun m:Sem (Array Value)=>m >>= fun vs=>pure (if h:vs.size=1 then vs[0]else .tuple vs)) ?_
  exact congrArg (fun f=>Array.mapM f fn.results) (funext fun r=>by cases r<;>rfl)
 rw[e]
 have e2:(fn.results.mapM (CK a.tmps)).run P w=.ok j.toArray w:=by
  have:fn.results.mapM (CK a.tmps)=(do let l<-b.mapM (CK a.tmps);pure l.toArray):=by
   rw[<-hf,Array.mapM_eq_mapM_toList];rfl
  rw[this,fk h1];rfl
 rw[fk e2]
 rfl
end
end
end Sw
namespace Sw
noncomputable section
open Go Go.RowKit
theorem Qb{α:Type}(x:α):∀n,(g8 α n).get (r8 x)=x
 |0|1|2|3|4|5|6=>rfl
 |_+7=>rfl
theorem Tm.Rz(j:Nat):Tm.undef.get j=Go.undef:=by
 show(acc j).get Tm.undef=_
 rw[Wc]
 unfold Tm.undef
 rw[Qb,Qb,Qb]
theorem Gb:∀(n i:Nat) (l:List Value) (t0 t:Tm),i+n<=512->qC (CI n i) l t0=some t->l.length<=n/\∀j,j<512->t.get j=if i<=j/\j<i+l.length then l.getD (j-i) Go.undef else t0.get j
 |n,i,[],t0,t,_,h=>by
  have:t=t0:=by cases n<;>(simp only[CI,qC]at h;cases h;rfl)
  subst this
  exact⟨by simp,fun j _=>by rw[if_neg (by simp)]⟩
 |0,i,v::l,t0,t,_,h=>by simp[CI,qC]at h
 |n+1,i,v::l,t0,t,hn,h=>by
  simp only[CI,qC]at h
  obtain⟨h1,D⟩:=Gb n (i+1) l _ t (by omega) h
  refine⟨by simp;omega,fun j hj=>?_⟩
  rw[D j hj,Ds,Tm.nT _ _ (by omega) hj]
  by_cases b:i=j
  · subst b
    rw[if_neg (by omega),if_pos rfl,if_pos (by simp)]
    simp
  · rw[if_neg b]
    by_cases hb:i+1<=j/\j<i+1+l.length
    · rw[if_pos hb,if_pos (by simp;omega)]
      have:j-i=(j-(i+1))+1:=by omega
      rw[this];simp
    · rw[if_neg hb,if_neg (by simp;omega)]
theorem Qc{g:Gm}{nt:Nat}{l:List Value}{args:Array Value}{t:Tm}(hn:nt<=512)(hl:l.length<=nt)(hr:gV g l args.toList)(h:qC zj l Tm.undef=some t):
 rS g nt t (args++Array.replicate (nt-args.size) Go.undef):=by
 obtain⟨_,D⟩:=Gb 64 0 l _ t (by omega) h
 have hs:args.size=l.length:=by have:=hr.1;simp at this;omega
 refine⟨by simp;omega,fun i hi=>?_⟩
 rw[D i (by omega)]
 by_cases hb:i<l.length
 · rw[if_pos ⟨Nat.zero_le _,by omega⟩]
   have b:i<args.size:=by omega
   have e1:l.getD (i-0) Go.undef=l[i]:=by simp[hb]
   have e2:(args++Array.replicate (nt-args.size) Go.undef).getD i Go.undef=args[i]:=by
    rw[Array.getD_eq_getD_getElem?,Array.getElem?_append_left b];simp[b]
   rw[e1,e2]
   exact hr.2 i _ _ (by simp[hb]) (by simp[b])
 · rw[if_neg (by omega),Tm.Rz]
   have e2:(args++Array.replicate (nt-args.size) Go.undef).getD i Go.undef=Go.undef:=by
    rw[Array.getD_eq_getD_getElem?,Array.getElem?_append_right (by omega)]
    simp[Array.getElem?_replicate]
    split<;>rfl
   rw[e2];exact fK.undef g
def xj(g:Gm)(b:Frame):Option Nat->Prop
 |none=>b.roundOf=none
 |some l=>∃rl,b.roundOf=some rl/\g.fW l=some (rl,0)
def oM(P:Program)(ng:Nat)(B0:Nat)(w0:World)(rec:Rec):Prop:=
 ∀(fm:Fm) (c:Code) (s:St) (b:Frame) (a:Act) (w:World) (g:Gm),b.fn=fm.fn->xj g b fm.XC->k_ g ng->fm.nt<=512->r7 g fm.nt c->vE B0 w0 g fm.nt s a w->∀(ks:List Item) (fs:List Frame),
  vh P B0 w0 b fm.nt g s.G c a w ks fs fun Z=>rec fm c (s.at Z)
structure YW(P:Program)(kind:CallKind)(f:FuncId)(fr:Frame)(a:Act):Prop where
 mode:fr.mode=.returning
 kind:fr.kind=kind
 fn:fr.fn=f
 tmps:fr.tmps=a.tmps
 defers:fr.defers=a.defers
def Kd(P:Program)(B0:Nat)(w0:World)(kind:CallKind)(g:Gm)(G:Nat)(f:FuncId)(nt:Nat)(args:Array Value)(w:World)(ds:List Deferred)(I:Tm)(eZ:Ht)(e5:Nat)(fs:List Frame):Prop:=
 ∃a' w' g',gm B0 w0 g' eZ.get e5 w'/\rS g' nt I a'.tmps/\ny g' ds a'.defers/\lI g G w g' e5 w'/\
  ∃fr,Steps P (lone (Frame.enter P f args kind) fs w) (lone fr fs w')/\YW P kind f fr a'
section
variable {P:Program}{ng:Nat}{e:Env}{B0:Nat}{w0:World}{b:Frame}{nt:Nat}{g:Gm}{G:Nat}{a:Act}{w:World}{I:Tm}{O:Ht}{rec:Rec}
theorem Gc{Z:List Frame}(hr:b.roundOf=none):step P (lone (At b a []) Z w)=.next (lone {At b a []with mode:=.returning} Z w):=
 step_lone_go (by simp[stepG,stepG.exec,At,hr])
theorem Oh{Z:List Frame}{k:List Item}(hr:b.roundOf=none):step P (lone (At b a (.code .ret::k)) Z w)=.next (lone {At b a (.code .ret::k)with mode:=.returning} Z w):=
 step_lone_go (by simp[stepG,stepG.exec,At,hr])
theorem Gd(ok:mP P ng e)(ih:oM P ng B0 w0 rec)(H:gm B0 w0 g O.get G w)(hg:k_ g ng){f:FuncId}{fi:wj}(hf:e.F f=some fi){l:List Value}{args:Array Value}(hl:gV g l args.toList)(kind:CallKind)(fs:List Frame)
 (k:List Deferred->Tm->Ht->Nat->List Nat->R):
 lV (fun Z=>sI rec f fi l O G Z k) fun f'=>zV f'\/∃ds I eZ e5,(∀Z,f' Z=k ds I eZ e5 Z)/\Kd P B0 w0 kind g G f fi.nt args w ds I eZ e5 fs:=by
 obtain⟨fn,f1,f2,f3,f4,f5,f6,f7,f8⟩:=ok.F f fi hf
 cases hb:Nat.ble l.length fi.nt with
 |false=>exact .dead fun Z=>⟨0,by simp[sI,hb]⟩
 |true=>
  cases hs:qC zj l Tm.undef with
  |none=>exact .dead fun Z=>⟨0,by simp[sI,hb,hs]⟩
  |some t=>
   have hlen:=fa hb
   have hT:=Qc (g:=g) f6 hlen hl hs
   let a0:Act:=⟨args++Array.replicate (fi.nt-args.size) Go.undef,[]⟩
   have he:∀kind,Frame.enter P f args kind=At (Frame.enter P f args kind) a0 [.code fi.body]:=fun kind=>by simp[Frame.enter,At,f1,f2,f3,a0]
   have A:vE B0 w0 g fi.nt ⟨t,[],O,G,[]⟩ a0 w:=⟨H,hT,⟨rfl,fun i d d' h=>by simp at h⟩⟩
   have ye:=ih ⟨f,fi.nt,none⟩ fi.body ⟨t,[],O,G,[]⟩ (Frame.enter P f args kind) a0 w g (by simp[Frame.enter]) (by simp[Frame.enter,xj]) hg f6 ⟨ng,hg,f7⟩ A [] fs
   refine lV.map ye (fun p m h=>?_) fun pre h=>?_
   · have h:rec ⟨f,fi.nt,none⟩ fi.body ⟨t,[],O,G,p⟩=.gk m:=h
     simp[sI,hb,hs,h]
   · refine .here ?_
     rcases h with h|⟨o,j,h,L⟩
     · refine .inl fun Z=>?_
       obtain⟨m,h⟩:=h Z
       have h:rec ⟨f,fi.nt,none⟩ fi.body ⟨t,[],O,G,pre++Z⟩=.gk m:=h
       exact⟨m,by simp[sI,hb,hs,h]⟩
     · have h:∀Z,rec ⟨f,fi.nt,none⟩ fi.body ⟨t,[],O,G,pre++Z⟩=.ok (o,j.at Z):=h
       cases y:Nat.ble o 1 with
       |false=>exact .inl fun Z=>⟨0,by simp[sI,hb,hs,h,St.at,y]⟩
       |true=>
        refine .inr ⟨j.ds,j.I,j.O,j.G,fun Z=>by simp[sI,hb,hs,h,St.at,y],?_⟩
        obtain⟨a',w',g',S',z,todo,b,st⟩:=L
        refine⟨a',w',g',S'.heap,S'.act.1,S'.act.2,z,?_⟩
        have hr:(Frame.enter P f args kind).roundOf=none:=by simp[Frame.enter]
        have hk:(Frame.enter P f args kind).kind=kind:=by simp[Frame.enter]
        have u:(Frame.enter P f args kind).fn=f:=by simp[Frame.enter]
        rw[<-he]at st
        have:=fa y
        match o,b with
        |0,b=>
         have b:todo=[]:=b
         subst b
         exact⟨_,st.trans (.one (Gc hr)),rfl,hk,u,rfl,rfl⟩
        |1,b=>
         obtain⟨B,rfl⟩:=b
         exact⟨_,st.trans (.one (Oh hr)),rfl,hk,u,rfl,rfl⟩
        |o+2,_=>omega
end
end
end Sw
namespace Sw
noncomputable section
open Go Go.RowKit
section
variable {P:Program}{ng:Nat}{e:Env}{B0:Nat}{w0:World}{b:Frame}{nt:Nat}{g:Gm}{G:Nat}{a:Act}{w:World}{I:Tm}{O:Ht}{rec:Rec}
theorem lI.putObj{r rr ro:Nat}(hg:g.fW r=some (rr,ro))(o:Obj):lI g G w g G (w.putObj rr o):=
 ⟨yd.refl _ _,⟨by simp,fun rb _ b=>World.putObj_heap_other (fun h=>b r ro (by rw[hg,h]))⟩,pD.refl _ _⟩
theorem lI.alloc{n e5:Nat}(hn:G<=n)(hx:n<e5)(hg:g.fW n=none)(o:Obj)(room:Option (Nat×Nat)):lI g G w (g.add n (w.heap.size,0) room) e5 (w.alloc o):=
 ⟨⟨Gm.qS hg _ _,by omega,fun b hb=>by
   by_cases h:b=n
   · exact .inr (by omega)
   · rw[Gm.jY _ _ _ h]at hb;exact .inl hb⟩,⟨by simp,fun rb jA _=>(tj.alloc w o).other rb (by omega)⟩,pD.new⟩
theorem lI.more{g':Gm}{w':World}{b n2:Nat}(h:lI g G w g' b w')(k:b<=n2):lI g G w g' n2 w':=⟨⟨h.ext.le,e8 h.ext.num k,h.ext.new⟩,h.kept,h.held⟩
def qq(P:Program)(B0:Nat)(w0:World)(kind:CallKind)(g:Gm)(G:Nat)(f:FuncId)(args:Array Value)(w:World)(v:Value)(eZ:Ht)(e5:Nat)(fs:List Frame):Prop:=
 ∃v' w' g',gm B0 w0 g' eZ.get e5 w'/\fK g' v v'/\lI g G w g' e5 w'/\
  ∃fr,Steps P (lone (Frame.enter P f args kind) fs w) (lone fr fs w')/\fr.mode=.returning/\fr.defers=[]/\fr.kind=kind/\fr.fn=f/\∃fn,P.funcs[fr.fn]?=some fn/\(results fn fr.tmps).run P w'=.ok v' w'
def tL(P:Program)(B0:Nat)(w0:World)(kind:CallKind)(g:Gm)(G:Nat)(f:FuncId)(args:Array Value)(w:World)(fs:List Frame)(run:List Nat->KC->R):Prop:=
 ∀k:KC,lV (fun Z=>run Z k) fun f'=>zV f'\/∃v eZ e5,(∀Z,f' Z=k v eZ e5 Z)/\qq P B0 w0 kind g G f args w v eZ e5 fs
theorem Bc{f:FuncId}{fn:Func}{c:Code}(hf:P.funcs[f]?=some fn)(hb:fn.body=some c)(hn:(fn.name== "runtime.NumGoroutine")=false)(args:Array Value):(callFunc f args).run P w=.ok (.enter f args) w:=by
 unfold callFunc
 have:(program:Sem Program).run P w=.ok P w:=rfl
 rw[fk this,hf]
 simp[hn,hb]
theorem run_takeDeferred{r:Nat}{ds:List Deferred}(h:w.heap[r]?=some (.deferred (some ds))):(Instr.takeDeferred r).run P w=.ok ds (w.putObj r (.deferred none)):=by
 have hc:∀c e f,Obj.deferred (some ds)≠.cells c e f:=fun _ _ _ h=>by cases h
 unfold Instr.takeDeferred
 rw[fk (oy h hc)]
 simp only
 rw[fk (qf _ h hc)];rfl
theorem ER{fr:Frame}{Z:List Frame}{r:Nat}{x:Array Value}{ds l:List Deferred}(hm:fr.mode=.returning)(hd:fr.defers=⟨.collected r,x⟩::ds)(h:w.heap[r]?=some (.deferred (some l))):
 step P (lone fr Z w)=.next (lone {fr with defers:=l++ds} Z (w.putObj r (.deferred none))):=
 step_lone_go (by simp[stepG,unwind,hm,hd,run_takeDeferred h])
theorem ES{fr:Frame}{Z:List Frame}{f:FuncId}{fn:Func}{c:Code}(hf:P.funcs[f]?=some fn)(hb:fn.body=some c)(hn:(fn.name== "runtime.NumGoroutine")=false){cap x:Array Value}{ds:List Deferred}
 (hm:fr.mode=.returning) (hd:fr.defers=⟨.fn (.func f) cap,x⟩::ds):
 step P (lone fr Z w)=.next (lone (Frame.enter P f (x++cap) .deferred) ({fr with defers:=ds}::Z) w):=by
 have h:(invoke (.fn (.func f) cap) x).run P w=.ok (.enter f (x++cap)) w:=Bc hf hb hn _
 exact step_lone_go (by simp[stepG,unwind,hm,hd,callDeferred,h])
theorem Aj{fr c:Frame}{Z:List Frame}{v:Value}(hm:fr.mode=.returning)(hd:fr.defers=[])(hk:fr.kind=.deferred){fn:Func}(hf:P.funcs[fr.fn]?=some fn)(hr:(results fn fr.tmps).run P w=.ok v w)(hc:c.mode=.returning):
 step P (lone fr (c::Z) w)=.next (lone c Z w):=
 step_lone_go (by simp[stepG,unwind,doReturn,hm,hd,hk,hf,hr,hc])
def tc(P:Program)(B0:Nat)(w0:World)(g:Gm)(G:Nat)(w:World)(eZ:Ht)(e5:Nat)(fr:Frame)(fs:List Frame):Prop:=
 ∃w' g',gm B0 w0 g' eZ.get e5 w'/\lI g G w g' e5 w'/\Steps P (lone fr fs w) (lone {fr with defers:=[]} fs w')
theorem ny.wm{b:List Deferred}(h:ny g [] b):b=[]:=by have:=h.1;cases b<;>first|rfl|cases this
theorem ny.cons_inv{d:Deferred}{ds j:List Deferred}(h:ny g (d::ds) j):∃d' b,j=d'::b/\B6 g d d'/\ny g ds b:=by
 cases j with
 |nil=>cases h.1
 |cons d' b=>exact⟨d',b,rfl,h.2 0 d d' rfl rfl,by have:=h.1;simpa using this,fun i x x' e m=>h.2 (i+1) x x' (by simpa using e) (by simpa using m)⟩
theorem tc.nil(H:gm B0 w0 g O.get G w){fr:Frame}{fs:List Frame}(hd:fr.defers=[]):tc P B0 w0 g G w O G fr fs:=
 ⟨w,g,H,lI.refl _ _ _,by
   have:{fr with defers:=[]}=fr:=by rw[<-hd]
   rw[this];exact .refl ..⟩
theorem tc.GH(H:gm B0 w0 g O.get G w){r:Nat}{d':Deferred}{b:List Deferred}(hr:O.get r=some (.deferred (some [])))(hd:B6 g ⟨.collected r,#[]⟩ d'){eZ:Ht}{e5:Nat}{fr:Frame}{fs:List Frame}(hm:fr.mode=.returning)(he:fr.defers=d'::b)
 (k:∀w1,gm B0 w0 g (O.set r (some (.deferred none))).get G w1->tc P B0 w0 g G w1 eZ e5 {fr with defers:=b} fs):tc P B0 w0 g G w eZ e5 fr fs:=by
 cases hd with
 |@GH _ rr hg=>
  obtain⟨jo,D,h3⟩:=(H.live _ _ hr).2 _ _ hg
  cases jo<;>first|exact h3.elim|skip
  rename_i l
  cases l with
  |none=>exact h3.elim
  |some l=>
   obtain⟨_,e,h4⟩:=h3
   cases ny.wm h4
   have H1:=H.setObj hr hg (o':=.deferred none) (fun _ _ h=>by cases h) (fun _ _ h=>by cases h) rfl (.deferred none) e ⟨rfl,e⟩
   rw[<-Tr.nT]at H1
   obtain⟨w',g',R,E,st⟩:=k _ H1
   exact⟨w',g',R,(lI.putObj hg _).trans E,.head (ER hm he D) st⟩
theorem D6{low:Nat}:∀(ds b:List Deferred) (O eZ:Ht) (w:World) (fr:Frame) (fs:List Frame),gm B0 w0 g O.get G w->ny g ds b->yP low ds O=some eZ->fr.mode=.returning->fr.defers=b->tc P B0 w0 g G w eZ G fr fs
 |[],b,O,eZ,w,fr,fs,H,hd,h,_,he=>by
  cases h
  cases ny.wm hd
  exact tc.nil H he
 |d::ds,b,O,eZ,w,fr,fs,H,hd,h,hm,he=>by
  obtain⟨d',e,rfl,h1,D⟩:=hd.cons_inv
  obtain⟨m,j⟩:=d
  cases m<;>first|(simp[yP]at h;done)|skip
  rename_i r
  simp only[yP]at h
  split at h
  · rename_i hr
    cases hb:Nat.ble low r with
    |false=>rw[hb]at h;cases h
    |true=>
     rw[hb]at h
     have:j=#[]:=by cases h1;rfl
     subst this
     exact tc.GH H hr h1 hm he fun w1 H1=>D6 ds e _ eZ w1 _ fs H1 D h hm rfl
  · cases h
theorem qq.Jg(ok:mP P ng e){kind:CallKind}{f:FuncId}{fi:wj}(hf:e.F f=some fi){args:Array Value}{ds:List Deferred}{m jq:Ht}{j oT:Nat}{vs:List Value}{fs:List Frame}
 (hb:Kd P B0 w0 kind g G f fi.nt args w ds I m j fs) (hu:∀fr w1 g1,gm B0 w0 g1 m.get j w1->ny g1 ds fr.defers->yd g G g1 j->fr.mode=.returning->tc P B0 w0 g1 j w1 jq oT fr fs) (hr:mS e.T jq.get I fi.ud=some vs):
 qq P B0 w0 kind g G f args w (qE vs) jq oT fs:=by
 obtain⟨fn,f1,f2,f3,f4,f5,f6,f7,f8⟩:=ok.F f fi hf
 obtain⟨a',w1,g1,H1,A,z,o,fr,s1,b⟩:=hb
 obtain⟨y,g2,u,p,st2⟩:=hu fr w1 g1 H1 (by rw[b.defers];exact z) o.ext b.mode
 obtain⟨v',r1,r2⟩:=D5 ok.T u (A.mono p.ext.le) f4 f8 hr
 refine⟨v',y,g2,u,r2,o.trans p,{fr with defers:=[]},s1.trans st2,b.mode,rfl,b.kind,b.fn,fn,?_,?_⟩
 · show P.funcs[fr.fn]?=_;rw[b.fn];exact f1
 · show(results fn fr.tmps).run P y=_;rw[b.tmps];exact r1
theorem Oi(ok:mP P ng e)(ih:oM P ng B0 w0 rec)(H:gm B0 w0 g O.get G w)(hg:k_ g ng){f:FuncId}{l:List Value}{args:Array Value}(hl:gV g l args.toList)(kind:CallKind)(fs:List Frame):
 (∃fi,e.F f=some fi)->tL P B0 w0 kind g G f args w fs fun Z k=>EJ e rec f l O G Z k:=by
 rintro ⟨fi,hf⟩ k
 have h0:(fun Z=>EJ e rec f l O G Z k)=fun Z=>sI rec f fi l O G Z (fun ds I O G Z=>match yP e.low ds O with
  |some h=>yQ e.T fi I k h G Z
  |none=>.gk 0):=by funext Z;simp only[EJ,hf]<;>rfl
 rw[h0]
 refine(Gd ok ih H hg hf hl kind fs _).mono fun f' h=>?_
 rcases h with h|⟨ds,I,b,j,h,B⟩
 · exact .inl h
 · cases hu:yP e.low ds b with
   |none=>exact .inl fun Z=>⟨0,by rw[h,hu]⟩
   |some jq=>
    cases hr:mS e.T jq.get I fi.ud with
    |none=>exact .inl fun Z=>⟨0,by rw[h,hu];simp[yQ,hr]⟩
    |some vs=>
     refine .inr ⟨qE vs,jq,j,fun Z=>by rw[h,hu];simp[yQ,hr],?_⟩
     exact qq.Jg ok hf B (fun fr w1 g1 H1 m _ hm=>D6 ds fr.defers b jq w1 fr fs H1 m hu hm rfl) hr
end
end
end Sw
