/- A part of the proof that the law returns true for every input that its row speaks of. No condition is added. -/
import Derived.Test.YtecbgehgkpgbmaaGreatDoorSwAB
namespace Sw
noncomputable section
open Go Go.RowKit
section
variable {T:Ty}{P:Program}{B0:Nat}{w0:World}{g:Gm}{O:Hp}{G n:Nat}{w:World}
theorem He(ok:T.Ok P)(H:gx B0 w0 g O G w){t:TypeId}{l c A o:Value}{e:qj}(h:wE T t l c n=some e)(rl:fP g l A)(C:fP g c o):
 iG B0 w0 g O G n w ((Instr.makeSlice t A o).run P w) e:=by
 unfold wE at h
 split at h
 · rename_i el J l K c hu
   split at h
   · rename_i inf pI
     split at h
     · rename_i z u
       cases hb:(Nat.ble l c&&(Nat.ble (c*inf.bytes) 1099511627776&&Nat.blt c 2147483648))with
       |false=>rw[hb]at h;cases h
       |true=>
        rw[hb]at h
        simp only[cond_true]at h
        cases h
        simp only[Bool.and_eq_true]at hb
        obtain⟨b1,b2,m⟩:=hb
        have b1:=fk b1
        have b2:=fk b2
        have m:=mN.1 m
        obtain rfl:=rl.lj
        obtain rfl:=C.lj
        have hzero:T.zero el=some z:=by unfold Ty.zero;rw[pI];exact u
        have b:T.size el=some inf.size:=by unfold Ty.size;rw[pI];rfl
        have j:=ok.V5 el inf z pI u
        have F:IntKind.i64.wrap (Int.ofNat l)=(l:Int):=wrap_small (by omega)
        have E:IntKind.i64.wrap (Int.ofNat c)=(c:Int):=wrap_small m
        refine BW H (Z:=kP c z.cells.toList) (lJ:=kP c z.cells.toList) (gZ.kP (gZ.BV (ok.ru hzero)) c) b1 el ?_
        unfold Instr.makeSlice
        rw[ft (ok.gV hu w)]
        simp only[asInt,asIntOf,pure_bind]
        rw[ft (ok.sa pI w)]
        simp only[F,E]
        have B:¬(((decide ((c:Int)<0)||decide ((inf.bytes:Int)*(c:Int)>2^48))||decide ((l:Int)<0)||decide ((l:Int)>(c:Int)))=true):=by
         have:(inf.bytes:Int)*(c:Int)<=1099511627776:=by
          have:((inf.bytes*c:Nat):Int)<=1099511627776:=by rw[Nat.mul_comm];omega
          simpa using this
         simp only[Bool.or_eq_true,decide_eq_true_eq]
         have p:(2:Int)^48=281474976710656:=by decide
         rw[p]
         omega
        rw[if_neg B]
        simp only[Int.toNat_natCast]
        rw[ft (run_askRoom _ _),ft (ok.oE b w)]
        have fin:∀zero:Array Value,((Array.range (c*inf.size)).map (zero[· %zero.size]!))=(kP c z.cells.toList).toArray->
         (do let a<-newRow el ((Array.range (c*inf.size)).map (zero[· %zero.size]!));pure (.slice (some a) l c):Sem Value).run P w=.ok (.slice (some ⟨w.heap.size,0,none⟩) l c) (w.alloc (.cells (kP c z.cells.toList).toArray el)):=by
         intro zero y
         rw[y,ft (tE _ _ _)];rfl
        by_cases h0:c*inf.size=0
        · rw[if_pos h0]
          refine fin #[] ?_
          rw[h0]
          have:kP c z.cells.toList=[]:=by
           rw[<-List.length_eq_zero_iff,Bm,Array.length_toList,j];exact h0
          rw[this];simp
        · rw[if_neg h0]
          have step:(do pure (<-zeroValue el).cells:Sem (Array Value)).run P w=.ok z.cells w:=by rw[ft (ok.qq hzero w)];rfl
          have:((Array.range (c*inf.size)).map (z.cells[· %z.cells.size]!))=(kP c z.cells.toList).toArray:=by
           rw[<-j,<-Array.toList_inj,CP]
          have f:=fin z.cells this
          first
           |(rw[ft step];exact f)
           |(rw[ft (ok.qq hzero w)];exact f)
     · cases h
   · cases h
 · cases h
theorem Ql(ok:T.Ok P)(H:gx B0 w0 g O G w){t:TypeId}{ts:Array TypeId}(j:ts[0]?=some t){x x' v:Value}(h:Ud T O t x=some v)(rx:fP g x x')(args:Array Value)(b:args[0]?=some x')(ty:TypeId):
 iG B0 w0 g O G n w ((Builtin.cap_ ts ty args).run P w) (v,[],0):=by
 unfold Ud at h
 split at h
 · rename_i k el hu
   cases h
   refine iG.pure H ?_ (.int _ _)
   simp only[Builtin.cap_,j,b]
   rw[ft (ok.gV hu w)]
   cases x'<;>rfl
 · rename_i el l c hu
   cases h
   obtain⟨rfl,rfl,rfl⟩:=rx.mf
   refine iG.pure H ?_ (.int _ _)
   simp only[Builtin.cap_,j,b]
   rw[ft (ok.gV hu w)]
   rfl
 · rename_i el a l c hu
   split at h
   · rename_i Z mt hb
     split at h
     · rename_i o
       cases h
       rcases rx.nk with⟨a2,rfl,rfl,rfl⟩|⟨_,rb,ro,c2,hg,hl,hc,rfl⟩
       · refine iG.pure H ?_ (.int _ _)
         simp only[Builtin.cap_,j,b]
         rw[ft (ok.gV hu w)]
         rfl
       · obtain⟨J,y,z,A,B,C,E,F,p⟩:=H.vk hb hg
         have e:=p o
         have m:c=c2:=by
          rcases hc with hc|⟨_,K,u,D,_⟩
          · exact hc
          · rw[e]at D;cases D
         subst m
         refine iG.pure H ?_ (.int _ _)
         simp only[Builtin.cap_,j,b]
         rw[ft (ok.gV hu w)]
         rfl
     · cases h
   · cases h
 · cases h
theorem iG.jJ(H:gx B0 w0 g O G w){b off rb ro:Nat}{Z vs e:List Value}{m:gm}{u:uq}(hb:O b=some (.cells Z m))(hg:g.ga b=some (rb,ro))(hu:oG O b Z m off vs=some u)
 (p:gZ g vs e) (j:∀v∈vs,one v=true) {x:Result Value} {v v':Value} (hx:∀w',(storeCells ⟨rb,ro+off,none⟩ e).run P w=.ok () w'->x=.ok v' w') (o:fP g v v'):
 iG B0 w0 g O G n w x (v,u,0):=by
 obtain⟨w',r1,r2,y,z⟩:=wz (P:=P) H hb hg hu p j
 intro e_ h1 _ _
 exact⟨g,v',w',hx w' r1,Gm.le_refl g,fun _ h=>.inl h,o,r2.A5 h1,y,by omega,pQ.refl _ _⟩
theorem Uf{z:Value}(h:flat z=true):∀v∈z.cells.toList,one v=true:=by
 intro v b
 unfold flat at h
 split at h
 · rename_i Z
   rw[List.all_eq_true]at h
   have:=h v b
   unfold F2 at this
   split at this<;>first|rfl|cases this
 · rename_i hn
   have:z.cells=#[z]:=by
    unfold Value.cells
    split
    · exact(hn _ rfl).elim
    · rfl
   rw[this]at b
   simp at b
   subst b
   unfold F2 at h
   split at h<;>first|rfl|cases h
theorem Mu{z:List Value}(h:∀v∈z,one v=true):∀m,∀v∈kP m z,one v=true
 |0,v,b=>by simp[kP]at b
 |m+1,v,b=>by
  simp only[kP,List.mem_append]at b
  rcases b with b|b
  · exact h v b
  · exact Mu h m v b
theorem Mv(ok:T.Ok P)(H:gx B0 w0 g O G w){t:TypeId}{ts:Array TypeId}(m:ts[0]?=some t){x x':Value}{e:qj}(h:Mn T O t x=some e)(rx:fP g x x')(args:Array Value)(j:args[0]?=some x')(ty:TypeId):
 iG B0 w0 g O G n w ((Builtin.clear_ ts ty args).run P w) e:=by
 have rt:fP g (.tuple #[]) (.tuple #[]):=fP.undef g
 unfold Mn at h
 split at h
 · rename_i d hu
   split at h
   · cases h
     obtain rfl:=rx.qo
     refine iG.pure H ?_ rt
     simp only[Builtin.clear_,m,j]
     rw[ft (ok.gV hu w)]
     rfl
   · cases h
     obtain⟨rfl,rfl,rfl⟩:=rx.mf
     refine iG.pure H ?_ rt
     simp only[Builtin.clear_,m,j]
     rw[ft (ok.gV hu w)]
     rfl
   · rename_i a c
     cases h
     have:∃a2 c2,x'=.slice (some a2) 0 c2:=by
      rcases rx.nk with⟨a2,_,_,rfl⟩|⟨_,rb,ro,c2,_,_,_,rfl⟩
      · exact⟨_,_,rfl⟩
      · exact⟨_,_,rfl⟩
     obtain⟨a2,c2,rfl⟩:=this
     refine iG.pure H ?_ rt
     simp only[Builtin.clear_,m,j]
     rw[ft (ok.gV hu w)]
     rfl
   · rename_i r
     split at h
     · rename_i es c hr
       cases h
       obtain⟨rr,hg,rfl⟩:=rx.wq
       obtain⟨B,_,a2,a3,a4⟩:=H.AJ hr hg
       have A:∀F e f,Obj.map B c≠.cells F e f:=fun _ _ _ h=>by cases h
       refine iG.put H (o':=.map [] c) (jv:=.map #[] c) hr hg a3 (fun _ _ h=>by cases h) (fun _ _ h=>by cases h) rfl ⟨rfl,a3,rfl,kY.nil⟩ ?_ rt
       simp only[Builtin.clear_,m,j]
       rw[ft (ok.gV hu w)]
       rw[ft (oO a2 A)]
       simp only
       rw[ft (qt _ a2 A)]
       rfl
     · cases h
   · rename_i b off p c y
     split at h
     · rename_i el
       split at h
       · rename_i z J mt E hb
         split at h
         · rename_i u C
           cases h
           have BX:=ok.ru E
           rcases rx.nk with⟨a2,rfl,rfl,rfl⟩|⟨_,rb,ro,c2,hg,hl,hc,rfl⟩
           · exact(y rfl).elim
           · refine iG.jJ (P:=P) H hb hg C (gZ.kP (gZ.BV BX) p) (Mu (Uf BX) p) (fun w' hw=>?_) rt
             simp only[Builtin.clear_,m,j]
             rw[ft (ok.gV hu w)]
             obtain⟨o,rfl⟩:∃o,p=o+1:=⟨p-1,by have:p≠0:=fun h=>y h;omega⟩
             simp only
             rw[ft (ok.qq E w)]
             have:(Builtin.zeroCells z.cells (o+1)).toList=kP (o+1) z.cells.toList:=by
              unfold Builtin.zeroCells;exact CP z.cells (o+1)
             rw[this,ft hw]
             rfl
         · cases h
       · cases h
     · cases h
   · cases h
 · cases h
theorem OB(ok:T.Ok P)(H:gx B0 w0 g O G w){t:TypeId}{ts:Array TypeId}(X:ts[0]?=some t){d d' x x':Value}{e:qj}(h:Qf T O t d x=some e)(rd:fP g d d')(rx:fP g x x')
 (args:Array Value) (W:args[0]?=some d') (hb:args[1]?=some x') (ty:TypeId):iG B0 w0 g O G n w ((Builtin.copy_ ts ty args).run P w) e:=by
 unfold Qf at h
 split at h
 · rename_i el base B cap hu
   split at h
   · rename_i size E R p
     split at h
     · rename_i Z j
       cases C:uR size x with
       |false=>rw[C]at j;cases j
       |true=>
        rw[C]at j
        simp only[cond_true]at j
        have z:Bo E B=Nat.min E B:=Uc E B
        have hlen:(Builtin.lenOf x').run P w=.ok E w:=by
         unfold EV at p
         split at p
         · rename_i a l c
           cases p
           cases rx<;>rfl
         · rename_i s
           cases p
           obtain rfl:=rx.lr
           have:s.size=(strs s).length:=by unfold strs;rw[Array.length_toList];rfl
           show Result.ok s.size w=_
           rw[this]
         · cases p
        obtain⟨lJ,c1,c2⟩:=CS (P:=P) (size:=size) (m:=Bo E B) H j rx rfl (fun s hs=>by
         subst hs
         simp only[EV]at p;cases p
         refine⟨fC C,?_⟩
         rw[z];exact Nat.min_le_left _ _) (fun a l c hs=>by
         subst hs
         simp only[EV]at p;cases p
         rw[z];exact Nat.min_le_left _ _)
        have hd:∃o F,d'=.slice o B F/\((base=none/\o=none)\/(∃a2,o=some a2/\B=0)\/∃b off rb ro,base=some ⟨b,off,none⟩/\g.ga b=some (rb,ro)/\o=some ⟨rb,ro+off,none⟩):=by
         cases base with
         |none=>obtain⟨rfl,rfl,rfl⟩:=rd.mf;exact⟨none,0,rfl,.inl ⟨rfl,rfl⟩⟩
         |some a=>
          rcases rd.nk with⟨a2,rfl,rfl,rfl⟩|⟨L,rb,ro,c2,hg,hl,hc,rfl⟩
          · exact⟨_,_,rfl,.inr (.inl ⟨_,rfl,rfl⟩)⟩
          · obtain⟨b,off,ad⟩:=a
            simp only at L;subst L
            exact⟨_,_,rfl,.inr (.inr ⟨b,off,rb,ro,rfl,hg,rfl⟩)⟩
        obtain⟨o,F,rfl,J⟩:=hd
        have run:∀y,(do
         if let some a:=o then storeCells a lJ
         pure (goInt (Bo E B)):Sem Value).run P w=y->(Builtin.copy_ ts ty args).run P w=y:=by
         intro y hy
         simp only[Builtin.copy_,X,W,hb]
         rw[ft (ok.gV hu w)]
         simp only
         rw[ft hlen,ft (ok.oE R w),<-z,ft c1]
         exact hy
        split at h
        · cases h
          have:lJ=[]:=by rw[<-List.length_eq_zero_iff,<-c2.1];rfl
          subst this
          refine iG.pure H (run _ ?_) (.int _ _)
          cases o<;>rfl
        · rename_i b off jI
          cases A:Z.all one with
          |false=>rw[A]at h;cases h
          |true=>
           rw[A]at h
           simp only[cond_true]at h
           split at h
           · rename_i ab mt N
             obtain⟨u,S,rfl⟩:=fI.1 h
             have K:∀v∈Z,one v=true:=by rw[List.all_eq_true]at A;exact A
             rcases J with⟨M,_⟩|⟨a2,rfl,rfl⟩|⟨b',aa,rb,ro,M,hg,rfl⟩
             · cases M
             · exfalso
               have:Bo E 0=0:=by rw[z];exact Nat.min_zero _
               rw[this,Nat.zero_mul]at j
               apply jI
               unfold lU at j
               split at j<;>first|(cases j;rfl)|(simp[lQ]at j;exact j.symm)|(simp at j;exact j.symm)|(cases j;done)
             · cases M
               refine iG.jJ (P:=P) H N hg S c2 K (fun w' hw=>run _ ?_) (.int _ _)
               simp only
               rw[ft hw];rfl
           · cases h
        · cases h
     · cases h
   · cases h
 · cases h
theorem Gl(ok:T.Ok P)(H:gx B0 w0 g O G w){x x' v:Value}{xt a:TypeId}{b:Bool}(h:Cr T x a b=some v)(rx:fP g x x'):
 iG B0 w0 g O G n w ((Instr.typeAssert x' xt a b).run P w) (v,[],0):=by
 unfold Cr at h
 split at h
 · cases h
 · rename_i d m hu
   obtain rfl:=rx.o8
   cases b with
   |false=>cases h
   |true=>
    simp only[cond_true]at h
    obtain⟨z,o,rfl⟩:=fI.1 h
    refine iG.pure H ?_ (CX (fP.of_flat g (ok.ru o)) (.bool _))
    unfold Instr.typeAssert
    rw[ft (ok.gV hu w)]
    have run:∀s:Option TypeId,(do if true=true then pure (Value.tuple #[<-zeroValue a,.bool false])else runtimePanic (.typeAssertion s none a ""):Sem Value).run P w=.ok (.tuple #[z,.bool false]) w:=fun s=>by
     rw[if_pos rfl,ft (ok.qq o w)];rfl
    cases d<;>first|(exact(m _ rfl).elim)|exact run (some xt)
 · rename_i d t v0 m hu
   obtain⟨v',rfl,p⟩:=rx.xR
   cases j:Nat.beq t a with
   |true=>
    rw[j]at h
    simp only[cond_true]at h
    cases h
    have j:=fC j
    subst j
    refine iG.pure H (v':=bif b then .tuple #[v',.bool true]else v') ?_ ?_
    · unfold Instr.typeAssert
      rw[ft (ok.gV hu w)]
      cases d<;>first|(exact(m _ rfl).elim)|(simp only[if_true];cases b<;>rfl)
    · cases b
      · exact p
      · exact CX p (.bool _)
   |false=>
    rw[j]at h
    simp only[cond_false]at h
    have jI:t≠a:=fun e=>by subst e;rw[Nat.beq_refl]at j;cases j
    cases b with
    |false=>cases h
    |true=>
     simp only[cond_true]at h
     obtain⟨z,o,rfl⟩:=fI.1 h
     refine iG.pure H ?_ (CX (fP.of_flat g (ok.ru o)) (.bool _))
     unfold Instr.typeAssert
     rw[ft (ok.gV hu w)]
     have run:∀(s r:Option TypeId),(do if true=true then pure (Value.tuple #[<-zeroValue a,.bool false])else runtimePanic (.typeAssertion s r a ""):Sem Value).run P w=.ok (.tuple #[z,.bool false]) w:=fun s r=>by
      rw[if_pos rfl,ft (ok.qq o w)];rfl
     cases d<;>first|(exact(m _ rfl).elim)|(simp only[if_neg jI];exact run (some xt) (some t))
 · cases h
end
end
end Sw
namespace Sw
noncomputable section
open Go Go.RowKit
section
variable {T:Ty}{P:Program}{B0:Nat}{w0:World}{g:Gm}{O:Hp}{G n:Nat}{w:World}
theorem tD.freeze{rb:Nat}{b:Array Value}{el:TypeId}{m:Nat×Nat}(hw:w.heap[rb]?=some (.cells b el m))(hf:G3 b.size m):
 ∃j,G3 b.size j/\tD w (w.freeze ⟨rb,b.size,none⟩ 1) rb (.cells b el j):=by
 have jH:=sG hw
 obtain⟨lo,hi⟩:=m
 refine⟨if lo==hi then(b.size,b.size+1)else(min lo b.size,max hi (b.size+1)),?_,?_⟩
 · split
   · exact .inr (fg _)
   · rename_i h
     rcases hf with hf|hf
     · simp only at hf;subst hf;simp at h
     · refine .inr ?_
       show b.size<=min lo b.size
       have:b.size<=lo:=hf
       omega
 · have e:w.freeze ⟨rb,b.size,none⟩ 1={w with heap:=w.heap.modify rb fun
    |.cells c elem (lo,hi)=>.cells c elem (if lo==hi then(b.size,b.size+1)else(min lo b.size,max hi (b.size+1)))
    |o=>o}:=rfl
   rw[e]
   refine⟨rfl,rfl,rfl,by simp,?_,fun k hk=>?_,fg _⟩
   · simp only[Array.getElem?_modify,if_true,hw];rfl
   · simp only[Array.getElem?_modify,if_neg (Ne.symm hk)]
theorem gx.RO(H:gx B0 w0 g O G w){w':World}{rb:Nat}{u:Array Value}{el:TypeId}{z m:Nat×Nat}(hw:w.heap[rb]?=some (.cells u el z))(A:B0<=rb)(hf:G3 u.size m)
 (j:tD w w' rb (.cells u el m)):gx B0 w0 g O G w':=by
 refine⟨?_,?_,?_,?_,H.pC,H.mem,H.sep,H.room⟩
 · exact H.below.trans ⟨⟨j.os,j.tape,j.output,j.size,fun k hk=>j.other k (by omega)⟩,j.drawn⟩
 · have:=H.base;have:=j.size;omega
 · intro b r1 r2 e
   obtain⟨p,q⟩:=H.rT b r1 r2 e
   exact⟨p,by have:=j.size;omega⟩
 · intro b ob e
   obtain⟨p,q⟩:=H.live b ob e
   refine⟨p,fun r1 r2 a1=>?_⟩
   obtain⟨y,a2,a3⟩:=q r1 r2 a1
   by_cases o:r1=rb
   · subst o
     rw[hw]at a2;cases a2
     refine⟨_,j.at_,?_⟩
     cases ob<;>first|exact a3.elim|skip
     · obtain⟨B,C,J,E,F⟩:=a3
       exact⟨B,C,fun _=>⟨A,hf⟩,E,F⟩
     · rename_i d;cases d<;>exact a3.elim
   · exact⟨y,(j.other r1 o).trans a2,a3⟩
theorem Aw{rb off:Nat}{b:Array Value}{el:TypeId}{e:Nat×Nat}(hw:w.heap[rb]?=some (.cells b el e)):
 (markStringish ⟨rb,off,none⟩).run P w=.ok () (w.freeze ⟨rb,b.size,none⟩ 1):=by
 unfold markStringish
 have:(shape rb).run P w=.ok (some (el,b.size)) w:=by
  simp[shape,Sem.run,World.shape?,hw]
 rw[ft this];rfl
theorem Ei:∀(vs:List Value) (e:List UInt8),bytesOf vs=some e->∀(b:List Value),gZ g vs b->∀s:ByteArray,
 (forIn b s fun c (s:ByteArray)=>(do
   let .int .u8 n:=c|stuck "bytesToString: byte expected"
   pure (ForInStep.yield (s.push (UInt8.ofNat n.toNat))):Sem (ForInStep ByteArray))).run P w=.ok ⟨(s.data.toList++e).toArray⟩ w
 |[],e,h,b,hl,s=>by
  cases h
  have:b=[]:=by have:=hl.1;exact List.length_eq_zero_iff.1 (by simpa using this.symm)
  subst this
  simp
 |v::vs,e,h,b,hl,s=>by
  unfold bytesOf at h
  split at h
  · cases ‹v::vs=[]›
  · rename_i k o m
    cases m
    split at h
    · rename_i j hb
      cases h
      cases b with
      |nil=>have:=hl.1;simp at this
      |cons v' b=>
       have:=hl.head
       obtain rfl:=this.lj
       rw[List.forIn_cons]
       rw[ft (show(pure (ForInStep.yield (s.push (UInt8.ofNat (Int.ofNat k).toNat))):Sem (ForInStep ByteArray)).run P w=.ok (ForInStep.yield (s.push (UInt8.ofNat k))) w from rfl)]
       simp only
       rw[Ei vs j hb b hl.tail (s.push (UInt8.ofNat k))]
       congr 2
       simp[ByteArray.push]
    · cases h
  · cases h
end
end
end Sw
namespace Sw
noncomputable section
open Go Go.RowKit
section
variable {T:Ty}{P:Program}{B0:Nat}{w0:World}{g:Gm}{O:Hp}{G n:Nat}{w:World}
theorem Ey(H:gx B0 w0 g O G w)(s:ByteArray)(el:TypeId):
 iG B0 w0 g O G n w ((Conv.stringToBytes el s).run P w) (.slice (some ⟨n+1,0,none⟩) (strs s).length (strs s).length,
  [(n,some (jT.group [⟨n+1,0,(strs s).length⟩])),(n+1,some (jT.cells ((strs s).map CR) ⟨false,some n,0,1⟩))],2):=by
 have z:gx B0 w0 g O G w.drew:=H.of_heap rfl rfl rfl rfl
 obtain⟨t,K,C⟩:=CV (P:=P) s.size 0 el w
 have hlen:s.size=(strs s).length:=by unfold strs;rw[Array.length_toList];rfl
 have p:gZ g ((strs s).map CR) ((strs s).map CR):=by
  refine⟨rfl,fun i v v' e A=>?_⟩
  rw[e]at A;cases A
  rw[List.getElem?_map]at e
  obtain⟨b,_,rfl⟩:=fI.1 e
  exact .int _ _
 have o:(s.data.map (fun b=>(.int .u8 b.toNat:Value)))++Array.replicate (t-s.size) (Value.int .u8 0)=((strs s).map CR++List.replicate (t-s.size) (Value.int .u8 0)).toArray:=by
  rw[<-Array.toList_inj]
  simp[strs]
  intro a _;rfl
 intro e_ h1 D hf
 have f0:=hf 0 (by show 0<2;omega)
 have f1:=hf 1 (by show 1<2;omega)
 have E:=z.Ha f0 f1 h1 D p (rest:=List.replicate (t-s.size) (Value.int .u8 0)) el 1
 have hw:(w.drew.alloc (.cells ((strs s).map CR++List.replicate (t-s.size) (Value.int .u8 0)).toArray el)).heap[w.drew.heap.size]?=some (.cells ((strs s).map CR++List.replicate (t-s.size) (Value.int .u8 0)).toArray el):=World.alloc_heap_new _ _
 obtain⟨J,F,y⟩:=tD.freeze hw (.inl rfl)
 have u:(Conv.stringToBytes el s).run P w=.ok (.slice (some ⟨w.drew.heap.size,0,none⟩) (strs s).length t) ((w.drew.alloc (.cells ((strs s).map CR++List.replicate (t-s.size) (Value.int .u8 0)).toArray el)).freeze ⟨w.drew.heap.size,((strs s).map CR++List.replicate (t-s.size) (Value.int .u8 0)).toArray.size,none⟩ 1):=by
  unfold Conv.stringToBytes
  rw[ft C]
  simp only
  rw[o,ft (tE _ _ _),ft (Aw hw),hlen]
  rfl
 have j:=E.RO hw z.base F y
 rw[show(List.map CR (strs s)).length=(strs s).length from List.length_map ..]at j
 refine⟨_,_,_,u,Gm.rq f1.ga _ _,?_,?_,j,?_,?_,pQ.new⟩
 · intro b hb
   by_cases B:b=n+1
   · exact .inr ⟨by omega,by show b<n+2;omega⟩
   · rw[Gm.j5 _ _ _ B]at hb;exact .inl hb
 · refine .slice (off:=0) (Gm.ma _ _ _ _) (Nat.le_refl _) ?_
   by_cases h0:(strs s).length=t
   · exact .inl h0
   · refine .inr ⟨by omega,_,_,Gm.sS _ _ _ _,?_⟩
     simp
     omega
 · intro rb m hn
   rw[y.other rb (by have:rb<w.heap.size:=m;show rb≠w.heap.size;omega)]
   exact(tD.alloc w.drew _).other rb (by have:rb<w.heap.size:=m;show rb≠w.heap.size;omega)
 · refine Nat.le_trans ?_ y.size
   exact(tD.alloc w.drew _).size
theorem Jt(ok:T.Ok P)(H:gx B0 w0 g O G w){s d:TypeId}{x x':Value}{e:qj}(h:uS T O s d x n=some e)(rx:fP g x x'):
 iG B0 w0 g O G n w ((Go.convert s d x').run P w) e:=by
 unfold uS at h
 split at h
 · rename_i ds k m ah o j
   cases h
   obtain rfl:=rx.lj
   refine iG.pure H ?_ (.int _ _)
   unfold Go.convert
   rw[ft (ok.gV o w),ft (ok.gV j w),tU]
   rfl
 · rename_i ds C o j
   cases h
   obtain rfl:=rx.lr
   refine iG.pure H ?_ (.string _)
   unfold Go.convert
   rw[ft (ok.gV o w),ft (ok.gV j w)]
   cases ds<;>rfl
 · rename_i ds el C o j
   split at h
   · rename_i z
     cases h
     obtain rfl:=rx.lr
     have:=Ey (P:=P) (n:=n) H C el
     have e:(Go.convert s d (.string C)).run P w=(Conv.stringToBytes el C).run P w:=by
      unfold Go.convert
      rw[ft (ok.gV o w),ft (ok.gV j w)]
      cases ds<;>(simp only;rw[ft (ok.gV z w)])
     rw[e];exact this
   · cases h
 · rename_i el base l c o j
   split at h
   · rename_i z
     have e:∀b l c,(Go.convert s d (.slice b l c)).run P w=(Conv.bytesToString (.slice b l c)).run P w:=by
      intro b l c
      unfold Go.convert
      rw[ft (ok.gV o w),ft (ok.gV j w)]
      simp only
      rw[ft (ok.gV z w)]
     cases u:Nat.beq l 0 with
     |true=>
      rw[u]at h
      simp only[cond_true]at h
      cases h
      have u:=fC u
      subst u
      refine iG.pure H ?_ (.string _)
      cases rx<;>(rw[e];rfl)
     |false=>
     rw[u]at h
     simp only[cond_false]at h
     split at h
     · cases h
       obtain⟨rfl,rfl,rfl⟩:=rx.mf
       refine iG.pure H ?_ (.string _)
       rw[e];rfl
     · rename_i b off
       split at h
       · rename_i Z mt hb
         split at h
         · rename_i vs B
           split at h
           · rename_i F A
             cases h
             refine iG.pure H (v':=.string ⟨F.toArray⟩) ?_ (.string _)
             rcases rx.nk with⟨a2,rfl,rfl,rfl⟩|⟨_,rb,ro,c2,hg,hl,hc,rfl⟩
             · simp[lQ]at B
               subst B
               simp[bytesOf]at A
               subst A
               rw[e];rfl
             · rw[e]
               obtain⟨N,R,S⟩:=H.loadCells (P:=P) hb hg B
               unfold Conv.bytesToString
               simp only
               rw[ft R]
               have:=Ei (P:=P) (w:=w) vs F A N S ByteArray.empty
               rw[<-List.forIn_toArray]at this
               exact(ft (f:=fun s=>(pure (Value.string s):Sem Value)) this).trans (by
                show Result.ok (Value.string ⟨(ByteArray.empty.data.toList++F).toArray⟩) w=_
                rfl)
           · cases h
         · cases h
       · cases h
     · cases h
   · cases h
 · rename_i e1 el b off l c o j
   cases y:Nat.beq s d with
   |false=>rw[y]at h;cases h
   |true=>
    rw[y]at h
    simp only[cond_true]at h
    have y:=fC y
    subst y
    split at h
    · rename_i Z mt z hb
      cases p:(mt.ro||Nat.beq c 0)with
      |true=>rw[p]at h;cases h
      |false=>
       rw[p]at h
       simp only[cond_false]at h
       cases h
       rw[Bool.or_eq_false_iff]at p
       obtain⟨E,L⟩:=p
       have e:∀a l c,(Go.convert s s (.slice (some a) l c)).run P w=(do markStringish a;pure (.slice (some a) l c):Sem Value).run P w:=by
        intro a l c
        unfold Go.convert
        rw[ft (ok.gV o w),ft (ok.gV j w)]
        simp only
        rw[ft (ok.gV z w)]
        simp only[beq_self_eq_true]
       rcases rx.nk with⟨a2,rfl,rfl,rfl⟩|⟨_,rb,ro,c2,hg,hl,hc,rfl⟩
       · cases L
       · obtain⟨ai,aa,ab,J,ad,ae,M,af,ag⟩:=H.vk hb hg
         obtain⟨X,W,K⟩:=tD.freeze J (M E).2
         intro e_ h1 D hf
         refine⟨g,_,_,?_,Gm.le_refl g,fun _ h=>.inl h,.slice hg hl hc,(H.RO J (M E).1 W K).A5 h1,?_,K.size,pQ.refl _ _⟩
         · rw[e,ft (Aw J)];rfl
         · intro r hr hn
           exact K.other r (fun h=>by subst h;exact hn b _ ro hb hg)
    · cases h
 · cases h
end
end
end Sw
namespace Sw
noncomputable section
open Go
inductive Tr(α:Type) where
 |nil
 |node (v:Option α) (l r:Tr α)
def Tr.XU{α:Type}:Tr α->Nat->Option α
 |.nil,_=>none
 |.node v l r,n=>if n=1 then v else if n%2=0 then l.XU (n/2)else r.XU (n/2)
def Tr.y5{α:Type}(t:Tr α):Nat->Option α:=
 Tr.rec (motive:=fun _=>Nat->Option α) (fun _=>none)
  (fun v _ _ b e n=>Bool.rec (motive:=fun _=>Option α) (Nat.rec (motive:=fun _=>Option α) (b (Nat.div n 2)) (fun _ _=>e (Nat.div n 2)) (Nat.land n 1)) v (Nat.beq n 1)) t
def Tr.get{α:Type}(t:Tr α)(n:Nat):Option α:=t.y5 (Nat.succ n)
def Tr.Z0{α:Type}:Nat->Nat->Option α->Tr α
 |0,_,_=>.nil
 |f+1,n,o=>if n=1 then .node o .nil .nil else if n%2=0 then .node none (Tr.Z0 f (n/2) o) .nil else .node none .nil (Tr.Z0 f (n/2) o)
def Tr.mk{α:Type}(f:Nat):Nat->Option α->Tr α:=
 Nat.rec (motive:=fun _=>Nat->Option α->Tr α) (fun _ _=>.nil)
  (fun _ ih n o=>Bool.rec (motive:=fun _=>Tr α) (Nat.rec (motive:=fun _=>Tr α) (.node none (ih (Nat.div n 2) o) .nil) (fun _ _=>.node none .nil (ih (Nat.div n 2) o)) (Nat.land n 1)) (.node o .nil .nil) (Nat.beq n 1)) f
def Tr.XV{α:Type}:Tr α->Nat->Option α->Tr α
 |.nil,n,o=>Tr.mk n n o
 |.node v l r,n,o=>if n=1 then .node o l r else if n%2=0 then .node v (l.XV (n/2) o) r else .node v l (r.XV (n/2) o)
def Tr.Af{α:Type}(t:Tr α):Nat->Option α->Tr α:=
 Tr.rec (motive:=fun _=>Nat->Option α->Tr α) (fun n o=>Tr.mk n n o)
  (fun v l r j m n o=>Bool.rec (motive:=fun _=>Tr α)
    (Nat.rec (motive:=fun _=>Tr α)
      (Tr.rec (motive:=fun _=>Tr α) (.node v .nil r) (fun v' b e _ _=>.node v (.node v' b e) r) (j (Nat.div n 2) o))
      (fun _ _=>Tr.rec (motive:=fun _=>Tr α) (.node v l .nil) (fun v' b e _ _=>.node v l (.node v' b e)) (m (Nat.div n 2) o)) (Nat.land n 1))
    (.node o l r) (Nat.beq n 1)) t
def Tr.set{α:Type}(t:Tr α)(n:Nat)(o:Option α):Tr α:=t.Af (Nat.succ n) o
abbrev Ht:=Tr (jT Tm)
structure St where
 I:Tm
 ds:List Deferred
 O:Ht
 G:Nat
 Z:List Nat
inductive XW(α:Type) where
 |ok (a:α)
 |gu (m:Nat)
structure wF where
 body:Code
 nt:Nat
 uu:List ResultVar
abbrev R:=XW (Nat×St)
abbrev KC:=Value->Ht->Nat->List Nat->R
structure Ju where
 run:List Value->Ht->Nat->List Nat->KC->R->R
structure Env where
 T:Ty
 F:FuncId->Option wF
 M:TypeId->String->Option FuncId
 K:FuncId->Option Ju
 low:Nat
structure Od where
 run:Tm->Value
def f_:Operand->Od
 |.tmp i=>Acc.casesOn (acc i) fun g _=>⟨g⟩
 |.const v=>⟨fun _=>v⟩
 |.global g=>⟨fun _=>.pointer (some ⟨g,0,none⟩)⟩
 |.func f=>⟨fun _=>.func (.func f) #[] #[]⟩
def tk:List Operand->List Od
 |[]=>[]
 |x::xs=>f_ x::tk xs
def runs:List Od->Tm->List Value
 |[],_=>[]
 |o::os,t=>o.run t::runs os t
def zz:List (Nat×Operand)->List (Nat×Od)
 |[]=>[]
 |(i,x)::xs=>(i,f_ x)::zz xs
def tV:List (Nat×Od)->Tm->List (Nat×Value)
 |[],_=>[]
 |(i,o)::os,t=>(i,o.run t)::tV os t
def Cu:Option Operand->Option Od
 |some x=>some (f_ x)
 |none=>none
def EZ:Option Od->Tm->Option Value
 |some x,t=>some (x.run t)
 |none,_=>none
structure Dc where
 run:Tm->Value->Tm
def kp:Option Nat->Dc
 |some i=>Acc.casesOn (acc i) fun _ s=>⟨s⟩
 |none=>⟨fun t _=>t⟩
def CY:Nat->Nat->List Dc
 |0,_=>[]
 |n+1,i=>kp (some i)::CY n (i+1)
abbrev K1:=Value->R
abbrev K2:=qj->R
def kQ(o:Option Value)(b:K1):R:=match o with
 |some v=>b v
 |none=>.gu 0
def qO(o:Option qj)(b:K2):R:=match o with
 |some v=>b v
 |none=>.gu 0
def y6(o:Option uq)(b:K2):R:=match o with
 |some u=>b (undef,u,0)
 |none=>.gu 0
def bi:Builtin->Ty->Hp->Nat->List TypeId->List Value->K1->K2->R
 |.len=>fun T O _ ts l b _=>(match ts,l with|t::_,x::_=>kQ (G_ T O t x) b|_,_=>.gu 0)
 |.append=>fun T O n ts l _ e=>(match ts,l with|t::u::_,x::y::_=>qO (jU T O t u x y n) e|_,_=>.gu 0)
 |.cap=>fun T O _ ts l b _=>(match ts,l with|t::_,x::_=>kQ (Ud T O t x) b|_,_=>.gu 0)
 |.clear=>fun T O _ ts l _ e=>(match ts,l with|t::_,x::_=>qO (Mn T O t x) e|_,_=>.gu 0)
 |.copy=>fun T O _ ts l _ e=>(match ts,l with|t::_,x::y::_=>qO (Qf T O t x y) e|_,_=>.gu 0)
 |.max=>fun _ _ _ _ l b _=>kQ (Jr max2 l) b
 |.min=>fun _ _ _ _ l b _=>kQ (Jr min2 l) b
 |_=>fun _ _ _ _ _ _ _=>.gu 0
structure V8 where
 run:Ty->Hp->Nat->Tm->K1->K2->R
def xT:Op->V8
 |.move x=>Od.casesOn (f_ x) fun ex=>⟨fun _ _ _ I e _=>e (ex I)⟩
 |.assign x=>Od.casesOn (f_ x) fun ex=>⟨fun _ _ _ I e _=>e (ex I)⟩
 |.pick c a b=>Od.casesOn (f_ c) fun A=>Od.casesOn (f_ a) fun p=>Od.casesOn (f_ b) fun C=>⟨fun _ _ _ I e _=>kQ (lu (A I) (p I) (C I)) e⟩
 |.alloc el=>⟨fun T _ n I _ j=>(match T.zero el with|some z=>j (Co n z.cells.toList)|none=>.gu 0)⟩
 |.box _ x=>Od.casesOn (f_ x) fun ex=>⟨fun _ _ n I _ j=>j (Co n (ex I).cells.toList)⟩
 |.build t ps=>(fun(l:List (Nat×Od))=>⟨fun T _ _ I e _=>kQ (L_ T t (tV l I)) e⟩) (zz ps.toList)
 |.buildSlice t len ps=>(fun(l:List (Nat×Od))=>⟨fun T _ n I _ j=>qO (qY T t len (tV l I) n) j⟩) (zz ps.toList)
 |.load t a=>Od.casesOn (f_ a) fun p=>⟨fun T O _ I e _=>kQ (kh T O t (p I)) e⟩
 |.store t a v=>Od.casesOn (f_ a) fun p=>Od.casesOn (f_ v) fun ev=>⟨fun T O _ I _ j=>y6 (xe T O t (p I) (ev I)) j⟩
 |.nilCheck x=>Od.casesOn (f_ x) fun ex=>⟨fun _ _ _ I e _=>kQ (EO (ex I)) e⟩
 |.binOp op t x y _=>Od.casesOn (f_ x) fun ex=>Od.casesOn (f_ y) fun E=>⟨fun T _ _ I e _=>kQ (Ac T op t x y (ex I) (E I)) e⟩
 |.unOp op _ x=>Od.casesOn (f_ x) fun ex=>⟨fun _ _ _ I e _=>kQ (XT op (ex I)) e⟩
 |.convert s d x=>Od.casesOn (f_ x) fun ex=>⟨fun T O n I _ j=>qO (uS T O s d (ex I) n) j⟩
 |.makeInterface t x=>Od.casesOn (f_ x) fun ex=>⟨fun T _ _ I e _=>kQ (DE T t (ex I)) e⟩
 |.makeFunc fn a b=>(fun(F J:List Od)=>⟨fun _ _ _ I e _=>kQ (EN fn (runs F I).toArray (runs J I).toArray) e⟩) (tk a.toList) (tk b.toList)
 |.makeMap t r=>(fun(o:Option Od)=>⟨fun T _ n I _ j=>qO (DF T t (EZ o I) n) j⟩) (Cu r)
 |.makeSlice t l c=>Od.casesOn (f_ l) fun el=>Od.casesOn (f_ c) fun A=>⟨fun T _ n I _ j=>qO (wE T t (el I) (A I) n) j⟩
 |.slice t x a b c=>Od.casesOn (f_ x) fun ex=>(fun(K ob L:Option Od)=>⟨fun T O _ I e _=>kQ (sT T O t (ex I) (EZ K I) (EZ ob I) (EZ L I)) e⟩) (Cu a) (Cu b) (Cu c)
 |.fieldAddr t x f=>Od.casesOn (f_ x) fun ex=>⟨fun T _ _ I e _=>kQ (DD T t (ex I) f) e⟩
 |.field t x f=>Od.casesOn (f_ x) fun ex=>⟨fun T _ _ I e _=>kQ (Mb T t (ex I) f) e⟩
 |.indexAddr t x i=>Od.casesOn (f_ x) fun ex=>Od.casesOn (f_ i) fun u=>⟨fun T _ _ I e _=>kQ (mQ T t (ex I) (u I)) e⟩
 |.index t x i=>Od.casesOn (f_ x) fun ex=>Od.casesOn (f_ i) fun u=>⟨fun T _ _ I e _=>kQ (xf T t (ex I) (u I)) e⟩
 |.lookup t x i ok=>Od.casesOn (f_ x) fun ex=>Od.casesOn (f_ i) fun u=>⟨fun T O _ I e _=>kQ (pD T O t (ex I) (u I) ok) e⟩
 |.mapUpdate t m k v=>Od.casesOn (f_ m) fun em=>Od.casesOn (f_ k) fun ek=>Od.casesOn (f_ v) fun ev=>⟨fun T O _ I _ j=>y6 (tF T O t (em I) (ek I) (ev I)) j⟩
 |.insert t m k v=>Od.casesOn (f_ m) fun em=>Od.casesOn (f_ k) fun ek=>Od.casesOn (f_ v) fun ev=>⟨fun T O _ I _ j=>y6 (tF T O t (em I) (ek I) (ev I)) j⟩
 |.mapEntry t m k=>Od.casesOn (f_ m) fun em=>Od.casesOn (f_ k) fun ek=>⟨fun T O _ I _ j=>qO (EU T O t (em I) (ek I)) j⟩
 |.entryStore _ m s v=>Od.casesOn (f_ m) fun em=>Od.casesOn (f_ s) fun es=>Od.casesOn (f_ v) fun ev=>⟨fun _ O _ I _ j=>y6 (Cq O (em I) (es I) (ev I)) j⟩
 |.range t x=>Od.casesOn (f_ x) fun ex=>⟨fun T O n I _ j=>qO (Mo T O t (ex I) n) j⟩
 |.entry it=>Od.casesOn (f_ it) fun B=>⟨fun _ O _ I e _=>kQ (Mp O (B I)) e⟩
 |.typeAssert x _ a ok=>Od.casesOn (f_ x) fun ex=>⟨fun T _ _ I e _=>kQ (Cr T (ex I) a ok) e⟩
 |.extract x i=>Od.casesOn (f_ x) fun ex=>⟨fun _ _ _ I e _=>kQ (G9 (ex I) i) e⟩
 |_=>⟨fun _ _ _ _ _ _=>.gu 0⟩
def Ah(low:Nat):uq->Ht->Option Ht
 |[],h=>some h
 |(b,o)::e,h=>bif Nat.ble low b then Ah low e (h.set b o)else none
structure Fm where
 fn:FuncId
 nt:Nat
 XX:Option Nat
abbrev Rec:=Fm->Code->St->R
def vS:List Tmp->List Value->Tm->Option Tm
 |[],[],t=>some t
 |p::ps,v::vs,t=>vS ps vs ((kp (some p)).run t v)
 |_,_,_=>none
def qP:List Dc->List Value->Tm->Option Tm
 |_,[],t=>some t
 |d::ds,v::vs,t=>qP ds vs (d.run t v)
 |[],_::_,_=>none
def zA:List Dc:=CY 64 0
def nc(T:Ty)(O:Hp)(t:Tm):List ResultVar->Option (List Value)
 |[]=>some []
 |.tmp i::b=>(match nc T O t b with
  |some vs=>some ((f_ (.tmp i)).run t::vs)
  |none=>none)
 |.cell a ty::b=>(match kh T O ty ((f_ (.tmp a)).run t),nc T O t b with
  |some v,some vs=>some (v::vs)
  |_,_=>none)
def qQ:List Value->Value
 |[v]=>v
 |vs=>.tuple vs.toArray
def y7(low:Nat):List Deferred->Ht->Option Ht
 |[],h=>some h
 |d::ds,h=>(match d.target with
  |.collected r=>(match h.get r with
   |some (.deferred (some []))=>bif Nat.ble low r then y7 low ds (h.set r (some (.deferred none)))else none
   |_=>none)
  |_=>none)
def sU(rec:Rec)(f:FuncId)(fi:wF)(l:List Value)(O:Ht)(G:Nat)(Z:List Nat)(k:List Deferred->Tm->Ht->Nat->List Nat->R):R:=
 bif Nat.ble l.length fi.nt then(match qP zA l Tm.undef with
  |some t=>(match rec ⟨f,fi.nt,none⟩ fi.body ⟨t,[],O,G,Z⟩with
   |.ok (o,⟨I,ds,O,G,Z⟩)=>bif Nat.ble o 1 then k ds I O G Z else .gu 0
   |.gu m=>.gu m)
  |none=>.gu 0)else .gu 0
def y8(T:Ty)(fi:wF)(I:Tm)(k:KC)(O:Ht)(G:Nat)(Z:List Nat):R:=
 match nc T O.get I fi.uu with
 |some vs=>k (qQ vs) O G Z
 |none=>.gu 0
def E0(e:Env)(rec:Rec)(f:FuncId)(l:List Value)(O:Ht)(G:Nat)(Z:List Nat)(k:KC):R:=
 match e.F f with
 |some fi=>sU rec f fi l O G Z (fun ds I O G Z=>match y7 e.low ds O with
   |some h=>y8 e.T fi I k h G Z
   |none=>.gu 0)
 |none=>.gu 0
def RP(T:Ty)(nt:Nat)(o1 o2:List Oper)(x:Nat):Bool:=match o1,o2 with
 |[⟨some a,.call ⟨.builtin .recover,_,_⟩,_,_,_,none⟩,⟨some b,.assign (.tmp a'),_,_,_,none⟩],[⟨some c,.move (.tmp b'),_,_,_,none⟩,⟨some d,.binOp .neq t (.tmp e) (.const .nilIface) _,_,_,_,none⟩]=>
  (Nat.beq a a'&&(Nat.beq b b'&&(Nat.beq c e&&Nat.beq d x)))&&((Nat.blt a nt&&(Nat.blt b nt&&(Nat.blt c nt&&Nat.blt d nt)))&&
    (match Ac T .neq t (.tmp e) (.const .nilIface) .nilIface .nilIface with|some (.bool false)=>true|_=>false))
 |_,_=>false
def Ig(T:Ty)(fi:wF):Bool:=match fi.uu,fi.body with
 |[],.seq (.region _ o1 false) (.seq (.region _ o2 false) (.cond (.tmp x) _ .skip))=>RP T fi.nt o1.toList o2.toList x
 |_,_=>false
def lT(e:Env)(rec:Rec):List Deferred->Ht->Nat->List Nat->(Ht->Nat->List Nat->R)->R
 |[],O,G,Z,k=>k O G Z
 |d::ds,O,G,Z,k=>(match d.target with
  |.collected r=>(match O.get r with
   |some (.deferred (some []))=>bif Nat.ble e.low r then lT e rec ds (O.set r (some (.deferred none))) G Z k else .gu 0
   |_=>.gu 0)
  |.fn (.func f) cap=>(match e.F f with
   |some fi=>bif Ig e.T fi then lT e rec ds O G Z k else E0 e rec f (d.args.toList++cap.toList) O G Z (fun _ O G Z=>lT e rec ds O G Z k)
   |none=>.gu 0)
  |_=>.gu 0)
def uv(e:Env)(rec:Rec)(f:FuncId)(l:List Value)(O:Ht)(G:Nat)(Z:List Nat)(k:KC):R:=
 match e.F f with
 |some fi=>sU rec f fi l O G Z (fun ds I O G Z=>lT e rec ds O G Z (fun O G Z=>y8 e.T fi I k O G Z))
 |none=>.gu 0
def nC(e:Env)(rec:Rec)(f:FuncId)(l:List Value)(O:Ht)(G:Nat)(Z:List Nat)(k:KC):R:=
 match e.K f with
 |some b=>b.run l O G Z k (uv e rec f l O G Z k)
 |none=>uv e rec f l O G Z k
def xh(o:Nat):Option Code:=match o with
 |0=>none
 |1=>some .ret
 |k+2=>some (.exit k)
def AL(c:Option Code):Option Nat:=match c with
 |none=>some 0
 |some .ret=>some 1
 |some (.exit k)=>some (k+2)
 |_=>none
def qu(e:Env)(rec:Rec)(l:Nat)(oP:List Value)(O:Ht)(G:Nat)(Z:List Nat)(k:KC):R:=
 match O.get l with
 |some (.loop r)=>bif Nat.ble e.low l then
   (match vS r.params oP r.tmps with
   |some t=>(match rec ⟨r.fn,r.nt,some l⟩ r.assign ⟨t,[],O,G,Z⟩with
    |.ok (o,⟨I,ds,O,G,Z⟩)=>bif Nat.beq o 0 then
      (match O.get l with
      |some (.loop r1)=>(match r1.state with
       |.ready=>(match rec ⟨r.fn,r.nt,some l⟩ r.body ⟨I,ds,O.set l (some (.loop {r1 with state:=.busy})),G,Z⟩with
        |.ok (o2,⟨_,ds,O,G,Z⟩)=>(match O.get l,ds with
         |some (.loop r2),[]=>k (.bool (Nat.beq o2 0)) (O.set l (some (.loop {r2 with state:=(bif Nat.beq o2 0 then .ready else .done),pending:=xh o2}))) G Z
         |_,_=>.gu 0)
        |.gu m=>.gu m)
       |_=>.gu 0)
      |_=>.gu 0)else .gu 0
    |.gu m=>.gu m)
   |none=>.gu 0)else .gu 0
 |_=>.gu 0
def B2(e:Env)(rec:Rec)(f:Value)(l:List Value)(O:Ht)(G:Nat)(Z:List Nat)(k:KC):R:=
 match f with
 |.func (.func f) a b=>nC e rec f (a.toList++l++b.toList) O G Z k
 |.func (.yield y) _ _=>qu e rec y l O G Z k
 |_=>.gu 0
def F7(e:Env)(rec:Rec)(r:Value)(name:String)(l:List Value)(O:Ht)(G:Nat)(Z:List Nat)(k:KC):R:=
 match r with
 |.iface t v=>(match e.M t name with
  |some f=>nC e rec f (v::l) O G Z k
  |none=>.gu 0)
 |_=>.gu 0
def Cv:Nat->List (Option MapEntry)->Option (Option MapEntry)
 |_,[]=>none
 |0,x::_=>some x
 |n+1,_::xs=>Cv n xs
def uT(low:Nat)(it:Value)(O:Ht)(G:Nat)(Z:List Nat)(k:KC):R:=
 match it with
 |.pointer (some ⟨r,0,_⟩)=>(match O.get r with
  |some (.mapIter none _ _ _)=>k (.tuple #[.bool false]) O G Z
  |some (.mapIter (some m) ju seen last)=>bif Nat.ble low r then(match F6 O.get m ju seen last with
   |some (l,clock)=>
    let go:=fun(x:Option MapEntry) (Z:List Nat)=>match x with
     |some x=>k (.tuple #[.bool true,x.key,x.val]) (O.set r (some (.mapIter (some m) ju (seen++[x.born]) clock))) G Z
     |none=>k (.tuple #[.bool false]) O G Z
    match l with
    |[x]=>go x Z
    |l=>match Z with
     |[]=>.gu l.length
     |c::Z=>match Cv c l with
      |some x=>go x Z
      |none=>.gu 0
   |none=>.gu 0)else .gu 0
  |_=>.gu 0)
 |_=>.gu 0
structure Z1 where
 run:Env->Rec->Tm->Ht->Nat->List Nat->KC->R
def XY(ts:List TypeId)(l:List Od):Callee->Z1
 |.value f=>Od.casesOn (f_ f) fun j=>⟨fun e rec I O G Z k=>B2 e rec (j I) (runs l I) O G Z k⟩
 |.invoke r m=>Od.casesOn (f_ r) fun er=>⟨fun e rec I O G Z k=>F7 e rec (er I) m (runs l I) O G Z k⟩
 |.builtin b=>⟨fun e _ I O G Z k=>bi b e.T O.get G ts (runs l I) (fun v=>k v O G Z) (fun f=>match f with
   |(v,jJ,m)=>match Ah e.low jJ O with
    |some h=>k v h (G+m) Z
    |none=>.gu 0)⟩
def y9(c:Call)(fm:Fm)(I:Tm):Option Deferred:=
 match fm.XX,c.callee with
  |none,.value f=>(match (f_ f).run I with
   |.func (.func f) a b=>some ⟨.fn (.func f) b,(a.toList++runs (tk c.args.toList) I).toArray⟩
   |_=>none)
  |_,_=>none
structure Cl where
 run:Env->Rec->Fm->Tm->List Deferred->Ht->Nat->List Nat->(St->R)->R
def tW(b:Tm->Value->Tm)(low:Nat)(I:Tm)(ds:List Deferred)(O:Ht)(G:Nat)(Z:List Nat)(k:St->R)(f:qj):R:=
 match f with
 |(v,jJ,m)=>match Ah low jJ O with
  |some h=>k ⟨b I v,ds,h,G+m,Z⟩
  |none=>.gu 0
def qv:Op->Option Nat->Cl
 |.call c=>fun d=>Dc.casesOn (kp d) fun b=>Z1.casesOn (XY c.argTypes.toList (tk c.args.toList) c.callee) fun run=>⟨fun e rec _ I ds O G Z k=>run e rec I O G Z (fun v O G Z=>k ⟨b I v,ds,O,G,Z⟩)⟩
 |.defer c=>fun d=>Dc.casesOn (kp d) fun b=>⟨fun _ _ fm I ds O G Z k=>(match y9 c fm I with
  |some x=>k ⟨b I undef,x::ds,O,G,Z⟩
  |none=>.gu 0)⟩
 |.next it false=>fun d=>Dc.casesOn (kp d) fun b=>Od.casesOn (f_ it) fun j=>⟨fun e _ _ I ds O G Z k=>uT e.low (j I) O G Z (fun v O G Z=>k ⟨b I v,ds,O,G,Z⟩)⟩
 |op=>fun d=>Dc.casesOn (kp d) fun b=>V8.casesOn (xT op) fun run=>⟨fun e _ _ I ds O G Z k=>run e.T O.get G I (fun v=>k ⟨b I v,ds,O,G,Z⟩) (tW b e.low I ds O G Z k)⟩
def nD(w:Bool)(v:Value):Bool:=
 match v with
 |.bool b=>(bif b then w else !w)
 |_=>false
def kL(all:List Oper)(j:Nat):Option Od:=
 match nP j all with
  |some o=>Cu (match o.dst with|some d=>some (.tmp d)|none=>none)
  |none=>none
def iQ(all:List Oper)(o:Oper):Cl:=
 match o with
 |⟨dst,op,_,_,_,guard⟩=>match guard with
  |none=>qv op dst
  |some (j,w)=>(match kL all j with
   |some g=>Cl.casesOn (qv op dst) fun run=>Dc.casesOn (kp dst) fun m=>Od.casesOn g fun b=>
    ⟨fun e rec fm I ds O G Z k=>Bool.casesOn (nD w (b I)) (k ⟨m I undef,ds,O,G,Z⟩) (run e rec fm I ds O G Z k)⟩
   |none=>⟨fun _ _ _ _ _ _ _ _ _=>.gu 0⟩)
def g_(all:List Oper):List Oper->List Cl
 |[]=>[]
 |o::os=>iQ all o::g_ all os
def XZ:List Cl->Env->Rec->Fm->St->R
 |[],_,_,_,s=>.ok (0,s)
 |c::os,e,rec,fm,s=>match s with
  |⟨I,ds,O,G,Z⟩=>c.run e rec fm I ds O G Z (fun s=>XZ os e rec fm s)
def wG(l:List Cl):Env->Rec->Fm->St->R:=
 List.rec (motive:=fun _=>Env->Rec->Fm->St->R) (fun _ _ _ s=>.ok (0,s))
  (fun c _ ih e rec fm s=>St.rec (motive:=fun _=>R) (fun I ds O G Z=>Cl.rec (motive:=fun _=>R) (fun run=>run e rec fm I ds O G Z (fun s=>ih e rec fm s)) c) s) l
def V9(o:Option qj)(b:K1):R:=match o with
 |some (v,[],0)=>b v
 |_=>.gu 0
structure Ps where
 run:Ty->Hp->Nat->Tm->K1->R
def B3:Op->Ps
 |.convert s d x=>Od.casesOn (f_ x) fun ex=>⟨fun T O n I b=>V9 (uS T O s d (ex I) n) b⟩
 |_=>⟨fun _ _ _ _ _=>.gu 0⟩
def E4(op:Op)(dst:Option Nat):Cl:=Dc.casesOn (kp dst) fun b=>Ps.casesOn (B3 op) fun run=>
 ⟨fun e _ _ I ds O G Z k=>run e.T O.get G I (fun v=>k ⟨b I v,ds,O,G,Z⟩)⟩
def Hf(all:List Oper)(o:Oper):Cl:=
 match o with
 |⟨dst,op,_,_,_,guard⟩=>match guard with
  |none=>E4 op dst
  |some (j,w)=>(match kL all j with
   |some g=>Cl.casesOn (E4 op dst) fun run=>Dc.casesOn (kp dst) fun m=>Od.casesOn g fun b=>
    ⟨fun e rec fm I ds O G Z k=>Bool.casesOn (nD w (b I)) (k ⟨m I undef,ds,O,G,Z⟩) (run e rec fm I ds O G Z k)⟩
   |none=>⟨fun _ _ _ _ _ _ _ _ _=>.gu 0⟩)
def tw(fl:Bool)(all:List Oper)(o:Oper):Cl:=bif fl&&pX o.op then Hf all o else iQ all o
def uU(f:Value->Value->Bool):List Value->List Value->Bool
 |[],[]=>true
 |x::xs,y::b=>f x y&&uU f xs b
 |_,_=>false
def lx:Nat->Value->Value->Bool
 |_,.bool a,.bool b=>(bif a then b else !b)
 |_,.int k a,.int k' b=>wD k k'&&kN a b
 |_,.string a,.string b=>wV (strs a) (strs b)
 |_,.pointer none,.pointer none=>true
 |_,.pointer (some ⟨b,o,none⟩),.pointer (some ⟨b',o',none⟩)=>Nat.beq b b'&&Nat.beq o o'
 |_,.slice none l c,.slice none j e=>Nat.beq l j&&Nat.beq c e
 |_,.slice (some ⟨b,o,none⟩) l c,.slice (some ⟨b',o',none⟩) j e=>Nat.beq b b'&&(Nat.beq o o'&&(Nat.beq l j&&Nat.beq c e))
 |_,.map none,.map none=>true
 |_,.map (some a),.map (some b)=>Nat.beq a b
 |_,.nilFunc,.nilFunc=>true
 |_,.nilIface,.nilIface=>true
 |n+1,.func (.func f) x y,.func (.func f') x' y'=>Nat.beq f f'&&(uU (lx n) x.toList x'.toList&&uU (lx n) y.toList y'.toList)
 |n+1,.func (.yield f) x y,.func (.yield f') x' y'=>Nat.beq f f'&&(uU (lx n) x.toList x'.toList&&uU (lx n) y.toList y'.toList)
 |n+1,.iface t v,.iface m v'=>Nat.beq t m&&lx n v v'
 |n+1,.agg x,.agg y=>uU (lx n) x.toList y.toList
 |n+1,.tuple x,.tuple y=>uU (lx n) x.toList y.toList
 |_,_,_=>false
def y_(op:Op):Ps:=
 match op with
 |.call c=>(match c.callee with
  |.builtin b=>(fun(ts:List TypeId) (l:List Od)=>(⟨fun T O n I e=>bi b T O n ts (runs l I) e (fun _=>.gu 0)⟩:Ps)) c.argTypes.toList (tk c.args.toList)
  |_=>⟨fun _ _ _ _ _=>.gu 0⟩)
 |op=>V8.casesOn (xT op) fun run=>⟨fun T O n I e=>run T O n I e (fun _=>.gu 0)⟩
def vz(fl:Bool)(op:Op):Ps:=bif fl&&pX op then B3 op else y_ op
def w5:Value->Option Nat
 |.pointer (some ⟨b,0,none⟩)=>some b
 |.slice (some ⟨b,0,none⟩) _ _=>some b
 |_=>none
def CZ(m:gm):Bool:=!m.ro&&((match m.mP with|none=>true|some _=>false)&&(Nat.beq m.base 0&&Nat.beq m.unit 0))
structure tG where
 run:Ty->Ht->Nat->Tm->R->R
def Ug(fl:Bool)(op:Op)(d:Option Nat):tG:=
 Ps.casesOn (vz fl op) fun b=>match d with
  |some d=>Acc.casesOn (acc d) fun gd _=>⟨fun T O n I k=>b T O.get n I (fun v=>bif lx 8 v (gd I)then k else .gu 0)⟩
  |none=>⟨fun T O n I k=>b T O.get n I (fun _=>k)⟩
def Uh(op:Op)(d:Option Nat):tG:=
 V8.casesOn (xT op) fun run=>match d with
  |some d=>Acc.casesOn (acc d) fun gd _=>⟨fun T O _ I k=>match w5 (gd I)with
   |some m=>run T O.get m I (fun _=>.gu 0) (fun f=>match f with
    |(v,jJ,_)=>match jJ,O.get m with
     |[(_,some (.cells Z _))],some (.cells lJ b)=>bif lx 8 v (gd I)&&(uU (lx 8) Z lJ&&CZ b)then k else .gu 0
     |_,_=>.gu 0)
   |none=>.gu 0⟩
  |none=>⟨fun _ _ _ _ _=>.gu 0⟩
def xA(fl:Bool)(o:Oper):tG:=bif Nat.beq (kO fl o.op) 1 then Uh o.op o.dst else Ug fl o.op o.dst
def A6(d:Option Nat)(I:Tm):Bool:=match d with
 |some d=>lx 8 undef (I.get d)
 |none=>true
def Hg(fl:Bool)(all:List Oper)(o:Oper):tG:=
 match o.guard with
 |none=>xA fl o
 |some (j,w)=>match kL all j with
  |some g=>tG.casesOn (xA fl o) fun run=>Od.casesOn g fun b=>⟨fun T O n I k=>Bool.casesOn (nD w (b I)) (bif A6 o.dst I then k else .gu 0) (run T O n I k)⟩
  |none=>⟨fun _ _ _ _ _=>.gu 0⟩
def X0:Cl:=⟨fun _ _ _ _ _ _ _ _ _=>.gu 0⟩
def p0(fl:Bool)(all:List Oper)(i:Nat):Cl:=match nP i all with
 |some o=>tw fl all o
 |none=>X0
def vI(fl:Bool)(all:List Oper)(i:Nat):tG:=match nP i all with
 |some o=>Hg fl all o
 |none=>⟨fun _ _ _ _ _=>.gu 0⟩
structure Kt where
 ne:List Cl
 qW:List tG
 kZ:Option Cl
def Ax(fl:Bool)(all:List Oper):List wu->List Kt
 |[]=>[]
 |s::b=>⟨s.ne.map (p0 fl all),s.qW.map (vI fl all),s.kZ.map (p0 fl all)⟩::Ax fl all b
def zc:List Cl->Env->Rec->Fm->St->(St->R)->R
 |[],_,_,_,s,k=>k s
 |c::l,e,rec,fm,s,k=>match s with
  |⟨I,ds,O,G,Z⟩=>c.run e rec fm I ds O G Z (fun s=>zc l e rec fm s k)
def xB:List tG->Env->St->R->R
 |[],_,_,k=>k
 |c::l,e,s,k=>match s with
  |⟨I,ds,O,G,Z⟩=>c.run e.T O G I (xB l e ⟨I,ds,O,G,Z⟩ k)
def o9:List Kt->Env->Rec->Fm->St->R
 |[],_,_,_,_=>.gu 0
 |s::b,e,rec,fm,st=>zc s.ne e rec fm st (fun st1=>xB s.qW e st1 (match s.kZ with
  |none=>.ok (0,st1)
  |some c=>match st1 with
   |⟨I,ds,O,G,Z⟩=>c.run e rec fm I ds O G Z (fun st2=>o9 b e rec fm st2)))
structure CC where
 run:Env->Rec->Fm->St->R
def Zc:Code->CC
 |.skip=>⟨fun _ _ _ s=>.ok (0,s)⟩
 |.label _=>⟨fun _ _ _ s=>.ok (0,s)⟩
 |.seq a b=>⟨fun _ rec fm s=>(match rec fm a s with
  |.ok (o,s1)=>(match o with
   |0=>rec fm b s1
   |o+1=>.ok (o+1,s1))
  |.gu m=>.gu m)⟩
 |.cond x a b=>Od.casesOn (f_ x) fun ex=>⟨fun _ rec fm s=>(match s with
  |⟨I,ds,O,G,Z⟩=>match ex I with
   |.bool c=>(match c with
    |true=>rec fm a ⟨I,ds,O,G,Z⟩
    |false=>rec fm b ⟨I,ds,O,G,Z⟩)
   |_=>.gu 0)⟩
 |.block id b=>⟨fun _ rec fm s=>(match rec fm b s with
  |.ok (o,s1)=>bif Nat.beq o (id+2)then .ok (0,s1)else .ok (o,s1)
  |.gu m=>.gu m)⟩
 |.loop b=>⟨fun _ rec fm s=>(match rec fm b s with
  |.ok (o,s1)=>(match o with
   |0=>rec fm (.loop b) s1
   |o+1=>.ok (o+1,s1))
  |.gu m=>.gu m)⟩
 |.scope b=>⟨fun _ rec fm s=>rec fm b s⟩
 |.exit id=>⟨fun _ _ _ s=>.ok (id+2,s)⟩
 |.ret=>⟨fun _ _ _ s=>.ok (1,s)⟩
 |.region _ ops draw=>(match draw with
  |false=>⟨fun e rec fm s=>wG (g_ ops.toList ops.toList) e rec fm s⟩
  |true=>(fun l=>⟨fun e rec fm s=>o9 l e rec fm s⟩) (Ax (wv ops.toList) ops.toList (yn (wv ops.toList) ops.toList).sk))
 |.rangeFunc f params assign body=>⟨fun e rec fm s=>(match s with
  |⟨I,ds,O,G,Z⟩=>
   (match (match fm.XX with
     |none=>some (G,G+1,O.set G (some (.deferred (some []))),[(⟨.collected G,#[]⟩:Deferred)])
     |some l=>(match O.get l with
      |some (.loop r)=>some (r.defers,G,O,[])
      |_=>none))with
   |some (j,l,h,mark)=>
    B2 e rec ((f_ f).run I) [.func (.yield l) #[] #[]] (h.set l (some (.loop ⟨.ready,none,fm.fn,I,fm.nt,params.toList,assign,body,j⟩))) (l+1) Z (fun _ O G Z=>match O.get l with
     |some (.loop r)=>(match r.state with
      |.busy=>.gu 0
      |_=>(match AL r.pending with
       |some o=>.ok (o,⟨I,mark++ds,O.set l (some (.loop {r with state:=.exhausted})),G,Z⟩)
       |none=>.gu 0))
     |_=>.gu 0)
   |none=>.gu 0))⟩
 |_=>⟨fun _ _ _ _=>.gu 0⟩
def vJ(c:Code)(e:Env)(rec:Rec)(fm:Fm)(s:St):R:=CC.casesOn (motive:=fun _=>R) (Zc c) fun run=>run e rec fm s
def evI(g:Rec->Rec):Nat->Rec
 |0=>fun _ _ _=>.gu 0
 |n+1=>g (evI g n)
def iter(g:Rec->Rec)(n:Nat):Rec:=Nat.rec (motive:=fun _=>Rec) (fun _ _ _=>.gu 0) (fun _ ih=>g ih) n
def ev(e:Env)(n:Nat):Rec:=iter (fun rec fm c s=>vJ c e rec fm s) n
end
end Sw
namespace Sw
noncomputable section
open Go Go.RowKit
def Ih:Result Next->Result Value
 |.ok (.value v) w=>.ok v w
 |.ok .skip w=>.ok undef w
 |.ok _ w=>.halt (.stuck "") w
 |.halt h w=>.halt h w
section
variable {T:Ty}{P:Program}{B0:Nat}{w0:World}{g:Gm}{O:Hp}{G n:Nat}{w:World}
theorem X1{r:Result Next}{v:Value}{w:World}(h:Ih r=.ok v w):r=.ok (.value v) w\/(r=.ok .skip w/\v=undef):=by
 unfold Ih at h
 split at h<;>first|(cases h;first|exact .inl rfl|exact .inr ⟨rfl,rfl⟩)|cases h
theorem Qn(s:Sem Value)(w:World):Ih ((do pure (Next.value (<-s)):Sem Next).run P w)=s.run P w:=by
 show Ih ((s >>= fun x=>pure (Next.value x)).run P w)=_
 rw[Sem.run_bind]
 cases s.run P w<;>rfl
theorem Zd(s:Sem Unit)(w:World):Ih ((do s;pure Next.skip:Sem Next).run P w)=(do s;pure undef:Sem Value).run P w:=by
 show Ih ((s >>= fun _=>pure Next.skip).run P w)=(s >>= fun _=>pure undef).run P w
 rw[Sem.run_bind,Sem.run_bind]
 cases s.run P w<;>rfl
def nY(P:Program)(B0:Nat)(w0:World)(g:Gm)(O:Hp)(G n:Nat)(w:World)(r:Result Next)(f:qj):Prop:=iG B0 w0 g O G n w (Ih r) f
theorem nY.v{s:Sem Value}{f:qj}(h:iG B0 w0 g O G n w (s.run P w) f):nY P B0 w0 g O G n w ((do pure (Next.value (<-s)):Sem Next).run P w) f:=by
 unfold nY;rw[Qn];exact h
theorem nY.u{s:Sem Unit}{f:qj}(h:iG B0 w0 g O G n w ((do s;pure undef:Sem Value).run P w) f):nY P B0 w0 g O G n w ((do s;pure Next.skip:Sem Next).run P w) f:=by
 unfold nY;rw[Zd];exact h
def k_(Q:qj->Prop)(r:List Nat->R)(e:List Nat->K1)(b:List Nat->K2):Prop:=(∀i,∃m,r i=.gu m)\/(∃v,(∀i,r i=e i v)/\Q (v,[],0))\/∃f,(∀i,r i=b i f)/\Q f
theorem k_.kQ{Q:qj->Prop}{o:Option Value}{b:List Nat->K1}{e:List Nat->K2}(h:∀v,o=some v->Q (v,[],0)):k_ Q (fun i=>kQ o (b i)) b e:=by
 cases o with
 |none=>exact .inl fun _=>⟨0,rfl⟩
 |some v=>exact .inr (.inl ⟨v,fun _=>rfl,h v rfl⟩)
theorem k_.qO{Q:qj->Prop}{o:Option qj}{e:List Nat->K1}{b:List Nat->K2}(h:∀f,o=some f->Q f):k_ Q (fun i=>qO o (b i)) e b:=by
 cases o with
 |none=>exact .inl fun _=>⟨0,rfl⟩
 |some v=>exact .inr (.inr ⟨v,fun _=>rfl,h v rfl⟩)
theorem k_.y6{Q:qj->Prop}{o:Option uq}{e:List Nat->K1}{b:List Nat->K2}(h:∀u,o=some u->Q (undef,u,0)):k_ Q (fun i=>y6 o (b i)) e b:=by
 cases o with
 |none=>exact .inl fun _=>⟨0,rfl⟩
 |some u=>exact .inr (.inr ⟨_,fun _=>rfl,h u rfl⟩)
def vK(g:Gm)(I:Tm)(ρ:Operand->Value)(l:List Operand):Prop:=∀x∈l,fP g ((f_ x).run I) (ρ x)
theorem zd{I:Tm}{ρ:Operand->Value}:∀(l:List Operand),vK g I ρ l->gZ g (runs (tk l) I) (l.map ρ)
 |[],_=>gZ.nil g
 |x::l,h=>gZ.cons (h x (fz ..)) (zd l fun y hy=>h y (fG _ hy))
theorem DB.cons{i:Nat}{v v':Value}{x x':List (Nat×Value)}(h:fP g v v')(k:DB g x x'):DB g ((i,v)::x) ((i,v')::x'):=
 ⟨by simp[k.1],fun j p m e b=>by
   cases j with
   |zero=>simp at e b;subst e;subst b;exact⟨rfl,h⟩
   |succ j=>simp at e b;exact k.2 j p m e b⟩
theorem E5{I:Tm}{ρ:Operand->Value}:∀(l:List (Nat×Operand)),vK g I ρ (l.map (·.2))->DB g (tV (zz l) I) (l.map fun p=>(p.1,ρ p.2))
 |[],_=>⟨rfl,fun i p b e _=>by simp[zz,tV]at e⟩
 |(i,x)::l,h=>DB.cons (h x (by simp)) (E5 l fun y hy=>h y (by simp at hy⊢;exact .inr hy))
theorem DG{I:Tm}{ρ:Operand->Value}(o:Option Operand)(h:vK g I ρ o.toList):Cp g (EZ (Cu o) I) (o.map ρ):=by
 cases o with
 |none=>trivial
 |some x=>exact h x (by simp)
end
end
end Sw
namespace Sw
noncomputable section
open Go Go.RowKit
section
variable {T:Ty}{P:Program}{B0:Nat}{w0:World}{g:Gm}{O:Hp}{G n:Nat}{w:World}
theorem Qo(H:gx B0 w0 g O G w){dst:Option Tmp}{ty:TypeId}{pos:String}{after:Array Edge}{guard:Option (Nat×Bool)}{ρ:Operand->Value}{c a b:Operand}{p m o v:Value}
 (h:lu p m o=some v) (j:fP g p (ρ c)) (u:fP g m (ρ a)) (rb:fP g o (ρ b)):nY P B0 w0 g O G n w ((execOp ρ ⟨dst,.pick c a b,ty,pos,after,guard⟩).run P w) (v,[],0):=by
 have go:∀(e:Bool) (v':Value),ρ c=.bool e->(if e=true then ρ a else ρ b)=v'->fP g v v'->nY P B0 w0 g O G n w ((execOp ρ ⟨dst,.pick c a b,ty,pos,after,guard⟩).run P w) (v,[],0):=by
  intro e v' h1 D h3
  refine iG.pure H (v':=v') ?_ h3
  simp only[execOp]
  rw[h1,<-D]
  rfl
 unfold lu at h
 split at h
 · cases h
   exact go true _ j.r9 rfl u
 · cases h
   exact go false _ j.r9 rfl rb
 · cases h
theorem Jw(H:gx B0 w0 g O G w){dst:Option Tmp}{ty:TypeId}{pos:String}{after:Array Edge}{guard:Option (Nat×Bool)}{ρ:Operand->Value}{x:Operand}{b v:Value}
 (h:EO b=some v) (rx:fP g b (ρ x)):nY P B0 w0 g O G n w ((execOp ρ ⟨dst,.nilCheck x,ty,pos,after,guard⟩).run P w) (v,[],0):=by
 have go:(execOp ρ ⟨dst,.nilCheck x,ty,pos,after,guard⟩).run P w=.ok (.value (ρ x)) w->fP g v (ρ x)->nY P B0 w0 g O G n w ((execOp ρ ⟨dst,.nilCheck x,ty,pos,after,guard⟩).run P w) (v,[],0):=by
  intro h1 D
  rw[h1]
  exact iG.pure H rfl D
 unfold EO at h
 split at h
 · cases h
   refine go ?_ rx
   obtain⟨_,rb,ro,_,e⟩:=rx.sL
   simp only[execOp];rw[e];rfl
 · cases h
   refine go ?_ rx
   obtain⟨_,_,e,_⟩:=rx.G0
   simp only[execOp];rw[e];rfl
 · cases h
   refine go ?_ rx
   simp only[execOp]
   generalize ρ x=r at rx
   cases rx
   rfl
 · cases h
   refine go ?_ rx
   obtain⟨_,e,_⟩:=rx.xR
   simp only[execOp];rw[e];rfl
 · cases h
theorem Ku(ok:T.Ok P)(cl:T.CO)(H:gx B0 w0 g O G w){o:Oper}{I:Tm}{ρ:Operand->Value}(j:vK g I ρ o.op.operands.toList)(L:List Nat->K1)(K:List Nat->K2):
 k_ (nY P B0 w0 g O G n w ((execOp ρ o).run P w)) (fun i=>(xT o.op).run T O n I (L i) (K i)) L K:=by
 obtain⟨dst,op,ty,pos,after,guard⟩:=o
 simp only at j
 cases op with
 |move x=>
  have rx:=j x (by simp[Op.operands])
  exact .inr (.inl ⟨_,fun _=>rfl,iG.pure H rfl rx⟩)
 |assign x=>
  have rx:=j x (by simp[Op.operands])
  exact .inr (.inl ⟨_,fun _=>rfl,iG.pure H rfl rx⟩)
 |pick c a b=>
  have E:=j c (by simp[Op.operands])
  have A:=j a (by simp[Op.operands])
  have rb:=j b (by simp[Op.operands])
  refine k_.kQ fun v h=>?_
  exact Qo H h E A rb
 |load t a=>
  have A:=j a (by simp[Op.operands])
  refine k_.kQ fun v h=>?_
  obtain⟨v',h1,D⟩:=Gt (P:=P) ok H h A
  exact nY.v (iG.pure H h1 D)
 |binOp op t x y X=>
  have rx:=j x (by simp[Op.operands])
  have W:=j y (by simp[Op.operands])
  refine k_.kQ fun v h=>?_
  exact nY.v (H_ ok H h rx W)
 |unOp op t x=>
  have rx:=j x (by simp[Op.operands])
  refine k_.kQ fun v h=>?_
  exact nY.v (RL H h rx)
 |box el x=>
  have rx:=j x (by simp[Op.operands])
  exact .inr (.inr ⟨_,fun _=>rfl,nY.v (P8 H rx)⟩)
 |convert s d x=>
  have rx:=j x (by simp[Op.operands])
  refine k_.qO fun v h=>?_
  exact nY.v (Jt ok H h rx)
 |makeInterface t x=>
  have rx:=j x (by simp[Op.operands])
  refine k_.kQ fun v h=>?_
  exact nY.v (G7 ok H h rx)
 |makeSlice t l c=>
  have rl:=j l (by simp[Op.operands])
  have E:=j c (by simp[Op.operands])
  refine k_.qO fun v h=>?_
  exact nY.v (He ok H h rl E)
 |fieldAddr t x f=>
  have rx:=j x (by simp[Op.operands])
  refine k_.kQ fun v h=>?_
  exact nY.v (G5 ok H h rx)
 |field t x f=>
  have rx:=j x (by simp[Op.operands])
  refine k_.kQ fun v h=>?_
  exact nY.v (Mc ok H h rx)
 |indexAddr t x i=>
  have rx:=j x (by simp[Op.operands])
  have F:=j i (by simp[Op.operands])
  refine k_.kQ fun v h=>?_
  exact nY.v (G6 ok H h rx F)
 |index t x i=>
  have rx:=j x (by simp[Op.operands])
  have F:=j i (by simp[Op.operands])
  refine k_.kQ fun v h=>?_
  exact nY.v (Me ok H h rx F)
 |lookup t x i b=>
  have rx:=j x (by simp[Op.operands])
  have F:=j i (by simp[Op.operands])
  refine k_.kQ fun v h=>?_
  exact nY.v (Lh ok H h rx F)
 |mapUpdate t m k v=>
  have B:=j m (by simp[Op.operands])
  have J:=j k (by simp[Op.operands])
  have C:=j v (by simp[Op.operands])
  refine k_.y6 fun u h=>?_
  exact nY.u (Br ok H h B J C)
 |insert t m k v=>
  have B:=j m (by simp[Op.operands])
  have J:=j k (by simp[Op.operands])
  have C:=j v (by simp[Op.operands])
  refine k_.y6 fun u h=>?_
  exact nY.u (Br ok H h B J C)
 |mapEntry t m k=>
  have B:=j m (by simp[Op.operands])
  have J:=j k (by simp[Op.operands])
  refine k_.qO fun u h=>?_
  exact nY.v (Ic ok H h B J)
 |entryStore t m s v=>
  have B:=j m (by simp[Op.operands])
  have S:=j s (by simp[Op.operands])
  have C:=j v (by simp[Op.operands])
  refine k_.y6 fun u h=>?_
  exact nY.u (Gk H h B S C)
 |range t x=>
  have rx:=j x (by simp[Op.operands])
  refine k_.qO fun v h=>?_
  exact nY.v (Mr ok H h rx)
 |entry it=>
  have rx:=j it (by simp[Op.operands])
  refine k_.kQ fun v h=>?_
  exact nY.v (Mt H h rx)
 |typeAssert x xt a b=>
  have rx:=j x (by simp[Op.operands])
  refine k_.kQ fun v h=>?_
  exact nY.v (Gl ok H h rx)
 |extract x i=>
  have rx:=j x (by simp[Op.operands])
  refine k_.kQ fun v h=>?_
  exact nY.v (Jq H h rx)
 |build t ps=>
  have M:=E5 (g:=g) (I:=I) (ρ:=ρ) ps.toList (fun x hx=>j x (by simp[Op.operands]at hx⊢;exact hx))
  refine k_.kQ fun v h=>?_
  have:=Ma (n:=n) ok cl H h M
  have e:(ps.toList.map fun p=>(p.1,ρ p.2)).toArray=ps.map fun p=>(p.1,ρ p.2):=by rw[<-Array.toList_inj];simp
  rw[e]at this
  exact nY.v this
 |buildSlice t len ps=>
  have M:=E5 (g:=g) (I:=I) (ρ:=ρ) ps.toList (fun x hx=>j x (by simp[Op.operands]at hx⊢;exact hx))
  refine k_.qO fun v h=>?_
  have:=Gj (n:=n) ok H h M
  have e:(ps.toList.map fun p=>(p.1,ρ p.2)).toArray=ps.map fun p=>(p.1,ρ p.2):=by rw[<-Array.toList_inj];simp
  rw[e]at this
  exact nY.v this
 |alloc el=>
  show k_ _ (fun i=>match T.zero el with|some z=>K i (Co n z.cells.toList)|none=>.gu 0) L K
  cases N:T.zero el with
  |some z=>
   exact .inr (.inr ⟨_,fun _=>rfl,nY.v (L8 ok H N)⟩)
  |none=>exact .inl fun _=>⟨0,rfl⟩
 |store t a v=>
  have A:=j a (by simp[Op.operands])
  have C:=j v (by simp[Op.operands])
  refine k_.y6 fun u h=>?_
  obtain⟨w',h1,D,h3,h4⟩:=L7 ok H h A C
  refine nY.u (fun e_ R _ _=>⟨g,undef,w',?_,Gm.le_refl g,fun _ h=>.inl h,fP.undef g,D.A5 R,h3,by omega,pQ.refl _ _⟩)
  rw[ft h1];rfl
 |nilCheck x=>
  have rx:=j x (by simp[Op.operands])
  refine k_.kQ fun v h=>?_
  exact Jw H h rx
 |makeFunc fn a b=>
  have A:=zd (g:=g) (I:=I) (ρ:=ρ) a.toList (fun x hx=>j x (by simp[Op.operands]at hx⊢;exact .inl hx))
  have rb:=zd (g:=g) (I:=I) (ρ:=ρ) b.toList (fun x hx=>j x (by simp[Op.operands]at hx⊢;exact .inr hx))
  refine k_.kQ fun v h=>?_
  have:=Ia (P:=P) (n:=n) H h A.toArray rb.toArray
  have e:∀c:Array Operand,(c.toList.map ρ).toArray=c.map ρ:=fun c=>by rw[<-Array.toList_inj];simp
  rw[e,e]at this
  exact nY.v this
 |makeMap t r=>
  have rr:=DG (g:=g) (I:=I) (ρ:=ρ) r (fun y hy=>j y (by simp[Op.operands]at hy⊢;exact hy))
  refine k_.qO fun v h=>?_
  exact nY.v (Js H ok h rr)
 |slice t x a b c=>
  have rx:=j x (by simp[Op.operands])
  have A:=DG (g:=g) (I:=I) (ρ:=ρ) a (fun y hy=>j y (by simp[Op.operands]at hy⊢;simp[hy]))
  have rb:=DG (g:=g) (I:=I) (ρ:=ρ) b (fun y hy=>j y (by simp[Op.operands]at hy⊢;simp[hy]))
  have E:=DG (g:=g) (I:=I) (ρ:=ρ) c (fun y hy=>j y (by simp[Op.operands]at hy⊢;simp[hy]))
  refine k_.kQ fun v h=>?_
  exact nY.v (Mf ok H h rx A rb E)
 |_=>exact .inl fun _=>⟨0,rfl⟩
end
end
end Sw
namespace Sw
noncomputable section
open Go Go.RowKit
section
variable {T:Ty}{P:Program}{B0:Nat}{w0:World}{g:Gm}{O:Hp}{G n:Nat}{w:World}
theorem gZ.Mx{x:Value}{xs:List Value}{b:List Value}(h:gZ g (x::xs) b):∃x',b.toArray[0]?=some x'/\fP g x x':=by
 obtain⟨x',h1,D⟩:=h.get (i:=0) rfl
 exact⟨x',by simpa using h1,D⟩
theorem gZ.X2{x y:Value}{xs:List Value}{b:List Value}(h:gZ g (x::y::xs) b):∃y',b.toArray[1]?=some y'/\fP g y y':=by
 obtain⟨x',h1,D⟩:=h.get (i:=1) rfl
 exact⟨x',by simpa using h1,D⟩
theorem My(ok:T.Ok P)(H:gx B0 w0 g O G w){b:Builtin}{ts:List TypeId}{l p:List Value}(hl:gZ g l p)(ty:TypeId)(e:Array Bool)(m:List Nat->K1)(j:List Nat->K2):
 k_ (nY P B0 w0 g O G n w ((Go.builtin b ts.toArray ty e p.toArray).run P w)) (fun i=>bi b T O n ts l (m i) (j i)) m j:=by
 have fail:∀Q,k_ Q (fun _=>.gu 0) m j:=fun _=>.inl fun _=>⟨0,rfl⟩
 cases b<;>first|exact fail _|skip
 ·
  rcases ts with _|⟨t,_|⟨u,ts⟩⟩<;>first|exact fail _|skip
  rcases l with _|⟨x,_|⟨y,l⟩⟩<;>first|exact fail _|skip
  · skip
    obtain⟨x',a0,rx⟩:=hl.Mx
    obtain⟨y',a1,o⟩:=hl.X2
    refine k_.qO fun f h=>?_
    exact nY.v (Lg ok H h rx o (by simp) (by simp) a0 a1 ty)
 ·
  rcases ts with _|⟨t,ts⟩<;>first|exact fail _|skip
  rcases l with _|⟨x,l⟩<;>first|exact fail _|skip
  · skip
    obtain⟨x',a0,rx⟩:=hl.Mx
    refine k_.kQ fun f h=>?_
    exact nY.v (Ql ok H (by simp) h rx _ a0 ty)
 ·
  rcases ts with _|⟨t,ts⟩<;>first|exact fail _|skip
  rcases l with _|⟨x,l⟩<;>first|exact fail _|skip
  · skip
    obtain⟨x',a0,rx⟩:=hl.Mx
    refine k_.qO fun f h=>?_
    exact nY.v (Mv ok H (by simp) h rx _ a0 ty)
 ·
  rcases ts with _|⟨t,ts⟩<;>first|exact fail _|skip
  rcases l with _|⟨x,_|⟨y,l⟩⟩<;>first|exact fail _|skip
  · skip
    obtain⟨x',a0,rx⟩:=hl.Mx
    obtain⟨y',a1,o⟩:=hl.X2
    refine k_.qO fun f h=>?_
    exact nY.v (OB ok H (by simp) h rx o _ a0 a1 ty)
 ·
  rcases ts with _|⟨t,ts⟩<;>first|exact fail _|skip
  rcases l with _|⟨x,l⟩<;>first|exact fail _|skip
  · skip
    obtain⟨x',a0,rx⟩:=hl.Mx
    refine k_.kQ fun f h=>?_
    exact nY.v (Qd ok H (by simp) h rx _ a0 ty)
 · refine k_.kQ fun f h=>?_
   exact nY.v (Qj H (by simpa using hl) h)
 · refine k_.kQ fun f h=>?_
   exact nY.v (Qk H (by simpa using hl) h)
end
end
end Sw
namespace Sw
noncomputable section
open Go Go.RowKit
def At(b:Frame)(a:Act)(todo:List Item):Frame:={b with tmps:=a.tmps,todo,defers:=a.defers,mode:=.run}
section
variable {P:Program}{b:Frame}{a:Act}{k:List Item}{Z:List Frame}{w:World}
theorem At.eval(b:Frame)(a:Act)(todo:List Item)(x:Operand):(At b a todo).eval x=a.eval x:=by cases x<;>rfl
theorem Pt:step P (lone (At b a (.code .skip::k)) Z w)=.next (lone (At b a k) Z w):=step_lone_go (by simp[stepG,stepG.exec,At])
theorem Ui{l:Nat}:step P (lone (At b a (.code (.label l)::k)) Z w)=.next (lone (At b a k) Z w):=step_lone_go (by simp[stepG,stepG.exec,At])
theorem Qp{id:Nat}:step P (lone (At b a (.inBlock id::k)) Z w)=.next (lone (At b a k) Z w):=step_lone_go (by simp[stepG,stepG.exec,At])
theorem Qq{c:Code}:step P (lone (At b a (.inScope c::k)) Z w)=.next (lone (At b a k) Z w):=step_lone_go (by simp[stepG,stepG.exec,At])
theorem Ii{x y:Code}:step P (lone (At b a (.code (.seq x y)::k)) Z w)=.next (lone (At b a (.code x::.code y::k)) Z w):=step_lone_go (by simp[stepG,stepG.exec,At])
theorem Pu{c:Operand}{x y:Code}{t:Bool}(h:a.eval c=.bool t):step P (lone (At b a (.code (.cond c x y)::k)) Z w)=.next (lone (At b a (.code (if t then x else y)::k)) Z w):=
 step_lone_go (by
  have:=At.eval b a (.code (.cond c x y)::k) c
  simp only[At]at this
  simp[stepG,stepG.exec,At,this,h])
theorem Hh{id:Nat}{c:Code}:step P (lone (At b a (.code (.block id c)::k)) Z w)=.next (lone (At b a (.code c::.inBlock id::k)) Z w):=step_lone_go (by simp[stepG,stepG.exec,At])
theorem Mz{c:Code}:step P (lone (At b a (.code (.scope c)::k)) Z w)=.next (lone (At b a (.code c::.inScope c::k)) Z w):=step_lone_go (by simp[stepG,stepG.exec,At])
theorem Jx{c:Code}:step P (lone (At b a (.code (.loop c)::k)) Z w)=.next (lone (At b a (.code c::.inLoop c::k)) Z w):=step_lone_go (by simp[stepG,stepG.exec,At])
theorem RQ{c:Code}:step P (lone (At b a (.inLoop c::k)) Z w)=.next (lone (At b a (.code c::.inLoop c::k)) Z w):=step_lone_go (by simp[stepG,stepG.exec,At])
theorem WE{id:Nat}{k':List Item}(h:exitTo id k=some k'):step P (lone (At b a (.code (.exit id)::k)) Z w)=.next (lone (At b a k') Z w):=step_lone_go (by simp[stepG,stepG.exec,At,h])
theorem E6{id:Nat}{ops:Array Oper}:step P (lone (At b a (.code (.region id ops false)::k)) Z w)=.next (lone (At b a (.inRegion ops (List.range ops.size)::k)) Z w):=
 step_lone_go (by simp[stepG,stepG.exec,At])
theorem yu{ops:Array Oper}:step P (lone (At b a (.inRegion ops []::k)) Z w)=.next (lone (At b a k) Z w):=step_lone_go (by simp[stepG,stepG.exec,At])
def A7(id:Nat):List Item->Prop
 |[]=>True
 |.inBlock i::k=>i≠id/\A7 id k
 |_::k=>A7 id k
theorem Cw{id:Nat}:∀(b k:List Item),A7 id b->exitTo id (b++k)=exitTo id k
 |[],_,_=>rfl
 |x::b,k,h=>by
  cases x<;>first|exact Cw b k h|skip
  rename_i i
  obtain⟨h1,D⟩:=h
  show(if i==id then some (b++k)else exitTo id (b++k))=_
  rw[if_neg (by simpa using h1)]
  exact Cw b k D
def Ends(o:Nat)(k todo:List Item):Prop:=
 match o with
 |0=>todo=k
 |1=>∃b,todo=.code .ret::b
 |i+2=>∃b,todo=.code (.exit i)::(b++k)/\A7 i b
end
end
end Sw
namespace Sw
noncomputable section
open Go Go.RowKit
def X3(g:Gm)(nt:Nat)(I:Tm)(ds:List Deferred)(a:Act):Prop:=r_ g nt I a.tmps/\nK g ds a.defers
structure vT(B0:Nat)(w0:World)(g:Gm)(nt:Nat)(s:St)(a:Act)(w:World):Prop where
 heap:gx B0 w0 g s.O.get s.G w
 act:X3 g nt s.I s.ds a
structure yv(g:Gm)(G:Nat)(g':Gm)(e_:Nat):Prop where
 le:g.le g'
 num:G<=e_
 new:∀b,g'.ga b≠none->g.ga b≠none\/G<=b
theorem yv.refl(g:Gm)(G:Nat):yv g G g G:=⟨Gm.le_refl g,fg _,fun _ h=>.inl h⟩
theorem yv.trans{g g1 g2:Gm}{n j n2:Nat}(h:yv g n g1 j)(k:yv g1 j g2 n2):yv g n g2 n2:=
 ⟨Gm.le_trans h.le k.le,ff h.num k.num,fun b e=>(k.new b e).elim (fun e=>h.new b e) (fun e=>.inr (ff h.num e))⟩
def Kept(g:Gm)(w w':World):Prop:=w.heap.size<=w'.heap.size/\∀rb,rb<w.heap.size->(∀b ro,g.ga b≠some (rb,ro))->w'.heap[rb]?=w.heap[rb]?
theorem Kept.refl(g:Gm)(w:World):Kept g w w:=⟨fg _,fun _ _ _=>rfl⟩
theorem Kept.trans{g g':Gm}{w w1 m:World}(h:Kept g w w1)(hn:pQ g g' w)(k:Kept g' w1 m):Kept g w m:=
 ⟨Nat.le_trans h.1 k.1,fun rb jH j=>by
   refine(k.2 rb (fb jH h.1) (fun b ro e=>?_)).trans (h.2 rb jH j)
   rcases hn b rb ro e with⟨o,p,q⟩|q
   · exact j o p q
   · omega⟩
structure lR(g:Gm)(G:Nat)(w:World)(g':Gm)(e_:Nat)(w':World):Prop where
 ext:yv g G g' e_
 kept:Kept g w w'
 held:pQ g g' w
theorem lR.refl(g:Gm)(G:Nat)(w:World):lR g G w g G w:=⟨yv.refl _ _,Kept.refl _ _,pQ.refl _ _⟩
theorem lR.trans{g g1 g2:Gm}{n j n2:Nat}{w w1 m:World}(h:lR g n w g1 j w1)(k:lR g1 j w1 g2 n2 m):lR g n w g2 n2 m:=
 ⟨h.ext.trans k.ext,h.kept.trans h.held k.kept,fun b rb ro e=>by
   rcases k.held b rb ro e with⟨o,p,q⟩|q
   · exact h.held o rb p q
   · exact .inr (ff h.kept.1 q)⟩
end
end Sw
namespace Sw
noncomputable section
open Go Go.RowKit
def jL(P:Program)(B0:Nat)(w0:World)(b:Frame)(nt:Nat)(g:Gm)(G:Nat)(c:Code)(a:Act)(w:World)(o:Nat)(e:St)(ks:List Item)(fs:List Frame):Prop:=
 ∃a' w' g',vT B0 w0 g' nt e a' w'/\lR g G w g' e.G w'/\
  ∃todo,Ends o ks todo/\Steps P (lone (At b a (.code c::ks)) fs w) (lone (At b a' todo) fs w')
def me(f:List Nat->R)(oV:(List Nat->R)->Prop):Prop:=
 ∃pre:List Nat,(∀p c q,pre=p++c::q->∃m,f p=.gu m/\c<m)/\oV (fun rest=>f (pre++rest))
def Ai(f:List Nat->R):Prop:=∀rest,∃m,f rest=.gu m
theorem me.here{f:List Nat->R}{oV:(List Nat->R)->Prop}(h:oV f):me f oV:=⟨[],(fun p c q e=>by cases p<;>cases e),h⟩
theorem Ay{b j p q:List Nat}{c:Nat}(h:b++j=p++c::q):(∃o,b=p++c::o)\/∃m,p=b++m/\j=m++c::q:=by
 induction b generalizing p with
 |nil=>exact .inr ⟨p,rfl,h⟩
 |cons x xs ih=>
  cases p with
  |nil=>simp at h;obtain⟨rfl,_⟩:=h;exact .inl ⟨xs,rfl⟩
  |cons y u=>
   simp at h
   obtain⟨rfl,h⟩:=h
   rcases ih h with⟨o,rfl⟩|⟨m,rfl,e⟩
   · exact .inl ⟨o,rfl⟩
   · exact .inr ⟨m,rfl,e⟩
theorem me.bind{f:List Nat->R}{oV m:(List Nat->R)->Prop}(h:me f oV)(k:∀f',oV f'->me f' m):me f m:=by
 obtain⟨b,p1,h1⟩:=h
 obtain⟨j,o,D⟩:=k _ h1
 refine⟨b++j,fun p c q e=>?_,?_⟩
 · rcases Ay e with⟨u,e1⟩|⟨pp,rfl,e2⟩
   · exact p1 p c u e1
   · exact o pp c q e2
 · have:(fun rest=>f (b++j++rest))=fun rest=>f (b++(j++rest)):=by funext r;rw[List.append_assoc]
   rw[this];exact D
theorem me.map{f f2:List Nat->R}{oV u:(List Nat->R)->Prop}(h:me f oV)(hn:∀p m,f p=.gu m->f2 p=.gu m)
 (k:∀pre,oV (fun rest=>f (pre++rest))->me (fun rest=>f2 (pre++rest)) u):me f2 u:=by
 obtain⟨j,p1,h1⟩:=h
 obtain⟨o,y,D⟩:=k j h1
 refine⟨j++o,fun p c q e=>?_,?_⟩
 · rcases Ay e with⟨z,e1⟩|⟨pp,rfl,e2⟩
   · obtain⟨m,a,b⟩:=p1 p c z e1
     exact⟨m,hn _ _ a,b⟩
   · exact y pp c q e2
 · have:(fun rest=>f2 (j++o++rest))=fun rest=>f2 (j++(o++rest)):=by funext r;rw[List.append_assoc]
   rw[this];exact D
theorem me.mono{f:List Nat->R}{oV e:(List Nat->R)->Prop}(h:me f oV)(k:∀f',oV f'->e f'):me f e:=by
 obtain⟨pre,a,b⟩:=h;exact⟨pre,a,k _ b⟩
theorem me.dead{f:List Nat->R}{oV:(List Nat->R)->Prop}(h:Ai f):me f fun r=>Ai r\/oV r:=.here (.inl h)
def St.at(s:St)(Z:List Nat):St:={s with Z}
def vA(P:Program)(B0:Nat)(w0:World)(b:Frame)(nt:Nat)(g:Gm)(G:Nat)(c:Code)(a:Act)(w:World)(ks:List Item)(fs:List Frame)(r:List Nat->R):Prop:=
 me r fun e=>Ai e\/∃o j,(∀Z,e Z=.ok (o,j.at Z))/\jL P B0 w0 b nt g G c a w o j ks fs
end
end Sw
namespace Sw
noncomputable section
open Go Go.RowKit
section
variable {P:Program}{B0:Nat}{w0:World}{b:Frame}{nt:Nat}{g:Gm}{G:Nat}{a:Act}{w:World}{ks:List Item}{fs:List Frame}
theorem jL.here{c:Code}{o:Nat}{s:St}(h:vT B0 w0 g nt s a w)(hs:∃todo,Ends o ks todo/\Steps P (lone (At b a (.code c::ks)) fs w) (lone (At b a todo) fs w)):
 jL P B0 w0 b nt g s.G c a w o s ks fs:=
 ⟨a,w,g,h,lR.refl _ _ _,hs⟩
theorem jL.skip{s:St}(h:vT B0 w0 g nt s a w):jL P B0 w0 b nt g s.G .skip a w 0 s ks fs:=.here h ⟨ks,rfl,.one Pt⟩
theorem jL.label{l:Nat}{s:St}(h:vT B0 w0 g nt s a w):jL P B0 w0 b nt g s.G (.label l) a w 0 s ks fs:=.here h ⟨ks,rfl,.one Ui⟩
theorem jL.exit{i:Nat}{s:St}(h:vT B0 w0 g nt s a w):jL P B0 w0 b nt g s.G (.exit i) a w (i+2) s ks fs:=.here h ⟨_,⟨[],rfl,trivial⟩,.refl ..⟩
theorem jL.ret{s:St}(h:vT B0 w0 g nt s a w):jL P B0 w0 b nt g s.G .ret a w 1 s ks fs:=.here h ⟨_,⟨ks,rfl⟩,.refl ..⟩
theorem jL.LP{c c1:Code}{o:Nat}{s1:St}(x:List Item)(h:jL P B0 w0 b nt g G c1 a w (o+1) s1 (x++ks) fs)(hx:∀i,o=i+1->A7 i x)
 (hc:Steps P (lone (At b a (.code c::ks)) fs w) (lone (At b a (.code c1::(x++ks))) fs w)):jL P B0 w0 b nt g G c a w (o+1) s1 ks fs:=by
 obtain⟨a1,w1,g1,r1,e1,todo,j,st⟩:=h
 refine⟨a1,w1,g1,r1,e1,todo,?_,hc.trans st⟩
 cases o with
 |zero=>exact j
 |succ i=>
  obtain⟨m,e,hn⟩:=j
  refine⟨m++x,by rw[e,List.append_assoc],?_⟩
  have hx:=hx i rfl
  clear e
  induction m with
  |nil=>exact hx
  |cons y p ih=>
   cases y<;>first|exact ih hn|exact⟨hn.1,ih hn.2⟩
theorem jL.Hi{c1 c2:Code}{o:Nat}{s1:St}(h:jL P B0 w0 b nt g G c1 a w (o+1) s1 (.code c2::ks) fs):jL P B0 w0 b nt g G (.seq c1 c2) a w (o+1) s1 ks fs:=
 jL.LP [.code c2] h (fun _ _=>trivial) (.one Ii)
theorem jL.Ze{c:Code}{o:Nat}{s1 s2:St}{a1:Act}{w1:World}{g1:Gm}(e1:lR g G w g1 s1.G w1)(t1:∃todo,Ends 0 (.inLoop c::ks) todo/\Steps P (lone (At b a (.code c::.inLoop c::ks)) fs w) (lone (At b a1 todo) fs w1))(k:jL P B0 w0 b nt g1 s1.G (.loop c) a1 w1 o s2 ks fs):
 jL P B0 w0 b nt g G (.loop c) a w o s2 ks fs:=by
 obtain⟨a2,z,g2,r2,e2,j,p,n,st2⟩:=k
 obtain⟨y,u,st1⟩:=t1
 have u:y=.inLoop c::ks:=u
 subst u
 refine⟨a2,z,g2,r2,e1.trans e2,j,p,((Steps.one Jx).trans st1).trans ?_⟩
 cases n with
 |zero=>
  exfalso
  have st2:Stepped.next (lone (At b a1 (.code (.loop c)::ks)) fs w1)=.next (lone (At b a2 j) fs z):=st2
  have:(.code (.loop c)::ks:List Item)=j:=by
   have:=congrArg (fun x=>match x with|Stepped.next m=>(m.gs[0]?).map (fun g:Goroutine=>g.frame.todo)|_=>none) st2
   simpa[lone,At]using this
  subst this
  cases o with
  |zero=>have:(.code (.loop c)::ks:List Item)=ks:=p;exact(List.cons_ne_self _ _ this).elim
  |succ o=>
   cases o with
   |zero=>obtain⟨A,e⟩:=p;cases e
   |succ i=>obtain⟨A,e,_⟩:=p;cases e
 |succ n=>
  have st2:(match step P (lone (At b a1 (.code (.loop c)::ks)) fs w1)with|.next m=>runN P n m|e=>e)=.next (lone (At b a2 j) fs z):=st2
  rw[Jx]at st2
  exact .head RQ ⟨n,st2⟩
theorem jL.E7{c:Code}{o:Nat}{s1:St}(h:jL P B0 w0 b nt g G c a w (o+1) s1 (.inLoop c::ks) fs):jL P B0 w0 b nt g G (.loop c) a w (o+1) s1 ks fs:=
 jL.LP [.inLoop c] h (fun _ _=>trivial) (.one Jx)
theorem jL.more{c c1:Code}{o o':Nat}{s1:St}{p:List Item}(h:jL P B0 w0 b nt g G c1 a w o s1 p fs)
 (hc:Steps P (lone (At b a (.code c::ks)) fs w) (lone (At b a (.code c1::p)) fs w))
 (hd:∀a1 w1 todo,Ends o p todo->∃e,Ends o' ks e/\Steps P (lone (At b a1 todo) fs w1) (lone (At b a1 e) fs w1)):jL P B0 w0 b nt g G c a w o' s1 ks fs:=by
 obtain⟨a1,w1,g1,r1,e1,j,u,st1⟩:=h
 obtain⟨m,y,st2⟩:=hd a1 w1 j u
 exact⟨a1,w1,g1,r1,e1,m,y,(hc.trans st1).trans st2⟩
theorem jL.Uj{c:Code}{id:Nat}{s1:St}(h:jL P B0 w0 b nt g G c a w 0 s1 (.inBlock id::ks) fs):jL P B0 w0 b nt g G (.block id c) a w 0 s1 ks fs:=
 h.more (.one Hh) fun a1 w1 todo e=>⟨ks,rfl,by have e:todo=.inBlock id::ks:=e;subst e;exact .one Qp⟩
theorem jL.E8{c:Code}{id:Nat}{s1:St}(h:jL P B0 w0 b nt g G c a w (id+2) s1 (.inBlock id::ks) fs):jL P B0 w0 b nt g G (.block id c) a w 0 s1 ks fs:=
 h.more (.one Hh) fun a1 w1 todo e=>⟨ks,rfl,by
  obtain⟨j,rfl,hn⟩:=e
  refine .one (WE ?_)
  rw[Cw _ _ hn]
  simp[exitTo]⟩
theorem jL.Qr{c:Code}{id o:Nat}{s1:St}(h:jL P B0 w0 b nt g G c a w (o+1) s1 (.inBlock id::ks) fs)(jI:o+1≠id+2):jL P B0 w0 b nt g G (.block id c) a w (o+1) s1 ks fs:=
 jL.LP [.inBlock id] h (fun i e=>⟨by omega,trivial⟩) (.one Hh)
theorem jL.Uk{c:Code}{s1:St}(h:jL P B0 w0 b nt g G c a w 0 s1 (.inScope c::ks) fs):jL P B0 w0 b nt g G (.scope c) a w 0 s1 ks fs:=
 h.more (.one Mz) fun a1 w1 todo e=>⟨ks,rfl,by have e:todo=.inScope c::ks:=e;subst e;exact .one Qq⟩
theorem jL.Qs{c:Code}{o:Nat}{s1:St}(h:jL P B0 w0 b nt g G c a w (o+1) s1 (.inScope c::ks) fs):jL P B0 w0 b nt g G (.scope c) a w (o+1) s1 ks fs:=
 jL.LP [.inScope c] h (fun _ _=>trivial) (.one Mz)
theorem jL.cond{x:Operand}{c1 c2:Code}{t:Bool}{o:Nat}{s1:St}(hx:a.eval x=.bool t)(h:jL P B0 w0 b nt g G (if t then c1 else c2) a w o s1 ks fs):jL P B0 w0 b nt g G (.cond x c1 c2) a w o s1 ks fs:=
 h.more (.one (Pu hx)) fun a1 w1 todo e=>⟨todo,e,.refl ..⟩
end
end
end Sw
namespace Sw
noncomputable section
open Go Go.RowKit
section
variable {P:Program}{b:Frame}{a:Act}{k:List Item}{Z:List Frame}{w w':World}{ops:Array Oper}{i:Nat}{rest:List Nat}{o:Oper}
theorem At.Zf(b:Frame)(a:Act)(todo:List Item):(At b a todo).eval=a.eval:=funext (At.eval b a todo)
theorem At.finish(b:Frame)(a:Act)(ops:Array Oper)(i:Nat)(rest:List Nat)(k:List Item)(v:Value):
 (At b a (.inRegion ops (i::rest)::k)).finish v=At b (a.put ((ops[i]?).bind (·.dst)) v) (.inRegion ops rest::k):=by
 cases h:(ops[i]?).bind (·.dst)<;>simp[Frame.finish,At,Act.put,h]
def qR:Op->Bool
 |.defer _=>false
 |_=>true
theorem Ij(j:ops[i]?=some o)(hw:Region.wanted o (yielded ops a.tmps)=true)(hd:b.roundOf=none\/qR o.op=true):
 stepG P true {frame:=At b a (.inRegion ops (i::rest)::k),callers:=Z,status:=.running,dying:=none} w=
  stepG.apply P true (At b a (.inRegion ops (i::rest)::k)) Z none (execOp a.eval o) w:=by
 have he:=At.Zf b a (.inRegion ops (i::rest)::k)
 simp only[At]at he
 rcases hd with hd|hd
 · simp[stepG,stepG.exec,stepG.oper,Frame.oper?,At,j,hw,hd]at he⊢
   rw[he]
 · cases e:o.op<;>first|(rw[e]at hd;cases hd;done)|skip
   all_goals
    simp[stepG,stepG.exec,stepG.oper,Frame.oper?,At,j,hw,e]at he⊢
    rw[he]
    try (cases b.roundOf<;>rfl)
theorem DH{v:Value}(j:ops[i]?=some o)(hw:Region.wanted o (yielded ops a.tmps)=true)(hd:b.roundOf=none\/qR o.op=true)(h:(execOp a.eval o).run P w=.ok (.value v) w'):
 step P (lone (At b a (.inRegion ops (i::rest)::k)) Z w)=.next (lone (At b (a.put o.dst v) (.inRegion ops rest::k)) Z w'):=by
 have e:=At.finish b a ops i rest k v
 rw[j]at e
 refine step_lone_go ?_
 rw[Ij j hw hd]
 have e:(At b a (.inRegion ops (i::rest)::k)).finish v=At b (a.put o.dst v) (.inRegion ops rest::k):=e
 rw[<-e]
 simp[stepG.apply,h]
theorem RR{v:Value}(j:ops[i]?=some o)(hw:Region.wanted o (yielded ops a.tmps)=true)(hd:b.roundOf=none\/qR o.op=true)(h:(execOp a.eval o).run P w=.ok .skip w')(m:v=undef):
 step P (lone (At b a (.inRegion ops (i::rest)::k)) Z w)=.next (lone (At b (a.put o.dst v) (.inRegion ops rest::k)) Z w'):=by
 subst m
 have e:=At.finish b a ops i rest k undef
 rw[j]at e
 refine step_lone_go ?_
 rw[Ij j hw hd]
 have e:(At b a (.inRegion ops (i::rest)::k)).finish undef=At b (a.put o.dst undef) (.inRegion ops rest::k):=e
 rw[<-e]
 simp[stepG.apply,h]
theorem E9{v:Value}(e:ops[i]?=some o)(hw:Region.wanted o (yielded ops a.tmps)=true)(hd:b.roundOf=none\/qR o.op=true)(h:Ih ((execOp a.eval o).run P w)=.ok v w'):
 step P (lone (At b a (.inRegion ops (i::rest)::k)) Z w)=.next (lone (At b (a.put o.dst v) (.inRegion ops rest::k)) Z w'):=by
 rcases X1 h with h|⟨h,j⟩
 · exact DH e hw hd h
 · exact RR e hw hd h j
theorem Ej(j:ops[i]?=some o)(hw:Region.wanted o (yielded ops a.tmps)=false):
 step P (lone (At b a (.inRegion ops (i::rest)::k)) Z w)=.next (lone (At b (a.put o.dst undef) (.inRegion ops rest::k)) Z w):=by
 have e:=At.finish b a ops i rest k undef
 rw[j]at e
 refine step_lone_go ?_
 have e:(At b a (.inRegion ops (i::rest)::k)).finish undef=At b (a.put o.dst undef) (.inRegion ops rest::k):=e
 rw[<-e]
 simp[stepG,stepG.exec,At,j,hw]
end
end
end Sw
namespace Sw
noncomputable section
open Go Go.RowKit
theorem Qt(n:Nat):Nat.land n 1=n%2:=Nat.and_one_is_mod n
theorem Tr.vU{α:Type}(v:Option α)(l r:Tr α)(n:Nat):(Tr.node v l r).y5 n=if n=1 then v else if n%2=0 then l.y5 (n/2)else r.y5 (n/2):=by
 show(Bool.rec (motive:=fun _=>Option α) (Nat.rec (motive:=fun _=>Option α) (l.y5 (Nat.div n 2)) (fun _ _=>r.y5 (Nat.div n 2)) (Nat.land n 1)) v (Nat.beq n 1))=_
 by_cases h:n=1
 · subst h;rfl
 · rw[if_neg h]
   have:Nat.beq n 1=false:=by
    cases e:Nat.beq n 1 with
    |false=>rfl
    |true=>exact absurd (fC e) h
   rw[this,Qt]
   rcases Nat.mod_two_eq_zero_or_one n with e|e<;>rw[e]<;>rfl
theorem Tr.WG{α:Type}(f n:Nat)(o:Option α):Tr.mk (f+1) n o=if n=1 then .node o .nil .nil else if n%2=0 then .node none (Tr.mk f (n/2) o) .nil else .node none .nil (Tr.mk f (n/2) o):=by
 show(Bool.rec (motive:=fun _=>Tr α) (Nat.rec (motive:=fun _=>Tr α) (.node none (Tr.mk f (Nat.div n 2) o) .nil) (fun _ _=>.node none .nil (Tr.mk f (Nat.div n 2) o)) (Nat.land n 1)) (.node o .nil .nil) (Nat.beq n 1))=_
 by_cases h:n=1
 · subst h;rfl
 · rw[if_neg h]
   have:Nat.beq n 1=false:=by
    cases e:Nat.beq n 1 with
    |false=>rfl
    |true=>exact absurd (fC e) h
   rw[this,Qt]
   rcases Nat.mod_two_eq_zero_or_one n with e|e<;>rw[e]<;>rfl
theorem Tr.X4{α:Type}(o:Option α):∀(f n m:Nat),1<=n->1<=m->n<=f->(Tr.mk f n o).y5 m=if m=n then o else none:=by
 intro f
 induction f with
 |zero=>intro n m h1 _ h;omega
 |succ f ih=>
  intro n m h1 hm h
  rw[Tr.WG]
  by_cases D:n=1
  · rw[if_pos D,Tr.vU,D]
    by_cases h3:m=1
    · rw[if_pos h3,if_pos h3]
    · rw[if_neg h3,if_neg h3];split<;>rfl
  · rw[if_neg D]
    by_cases h4:n%2=0
    · rw[if_pos h4,Tr.vU]
      by_cases h3:m=1
      · rw[if_pos h3,if_neg (by omega)]
      · rw[if_neg h3]
        by_cases b:m%2=0
        · rw[if_pos b,ih _ _ (by omega) (by omega) (by omega)]
          by_cases j:m=n
          · rw[if_pos j,if_pos (by omega)]
          · rw[if_neg j,if_neg (by omega)]
        · rw[if_neg b,if_neg (by intro e;omega)];rfl
    · rw[if_neg h4,Tr.vU]
      by_cases h3:m=1
      · rw[if_pos h3,if_neg (by omega)]
      · rw[if_neg h3]
        by_cases b:m%2=0
        · rw[if_pos b,if_neg (by intro e;omega)];rfl
        · rw[if_neg b,ih _ _ (by omega) (by omega) (by omega)]
          by_cases j:m=n
          · rw[if_pos j,if_pos (by omega)]
          · rw[if_neg j,if_neg (by omega)]
theorem Tr.Ul{α:Type}(n:Nat)(o:Option α):(Tr.nil:Tr α).Af n o=Tr.mk n n o:=rfl
theorem Tr.RS{α:Type}(v:Option α)(l r:Tr α)(n:Nat)(o:Option α):(Tr.node v l r).Af n o=if n=1 then .node o l r else if n%2=0 then .node v (l.Af (n/2) o) r else .node v l (r.Af (n/2) o):=by
 show(Bool.rec (motive:=fun _=>Tr α)
  (Nat.rec (motive:=fun _=>Tr α)
    (Tr.rec (motive:=fun _=>Tr α) (.node v .nil r) (fun v' b j _ _=>.node v (.node v' b j) r) (l.Af (Nat.div n 2) o))
    (fun _ _=>Tr.rec (motive:=fun _=>Tr α) (.node v l .nil) (fun v' b j _ _=>.node v l (.node v' b j)) (r.Af (Nat.div n 2) o)) (Nat.land n 1))
  (.node o l r) (Nat.beq n 1))=_
 by_cases h:n=1
 · subst h;rfl
 · rw[if_neg h]
   have:Nat.beq n 1=false:=by
    cases e:Nat.beq n 1 with
    |false=>rfl
    |true=>exact absurd (fC e) h
   rw[this,Qt]
   have eta:∀(t:Tr α) (F:Tr α->Tr α),Tr.rec (motive:=fun _=>Tr α) (F .nil) (fun v' b j _ _=>F (.node v' b j)) t=F t:=fun t F=>by cases t<;>rfl
   rcases Nat.mod_two_eq_zero_or_one n with e|e<;>rw[e]
   · exact eta (l.Af (Nat.div n 2) o) (fun t=>.node v t r)
   · exact eta (r.Af (Nat.div n 2) o) (fun t=>.node v l t)
theorem Tr.Kv{α:Type}(t:Tr α)(o:Option α):∀n m:Nat,1<=n->1<=m->(t.Af n o).y5 m=if m=n then o else t.y5 m:=by
 induction t with
 |nil=>intro n m h1 D;rw[Tr.Ul,Tr.X4 o n n m h1 D (Nat.le_refl _)];rfl
 |node v l r p u=>
  intro n m h1 D
  rw[Tr.RS,Tr.vU v l r m]
  by_cases hn:n=1
  · rw[if_pos hn,Tr.vU]
    by_cases hm:m=1
    · rw[if_pos hm,if_pos (show m=n by omega)]
    · rw[if_neg hm,if_neg (show¬m=n by omega),if_neg hm]
  · rw[if_neg hn]
    by_cases he:n%2=0
    · rw[if_pos he,Tr.vU]
      by_cases hm:m=1
      · rw[if_pos hm,if_neg (by omega),if_pos hm]
      · rw[if_neg hm]
        by_cases b:m%2=0
        · rw[if_pos b,p _ _ (by omega) (by omega)]
          by_cases j:m=n
          · rw[if_pos j,if_pos (by omega)]
          · rw[if_neg j,if_neg (by omega),if_neg hm,if_pos b]
        · rw[if_neg b,if_neg (by intro e;omega),if_neg hm,if_neg b]
    · rw[if_neg he,Tr.vU]
      by_cases hm:m=1
      · rw[if_pos hm,if_neg (by omega),if_pos hm]
      · rw[if_neg hm]
        by_cases b:m%2=0
        · rw[if_pos b,if_neg (by intro e;omega),if_neg hm,if_pos b]
        · rw[if_neg b,u _ _ (by omega) (by omega)]
          by_cases j:m=n
          · rw[if_pos j,if_pos (by omega)]
          · rw[if_neg j,if_neg (by omega),if_neg hm,if_neg b]
theorem Tr.oh(t:Ht)(n:Nat)(o:Option (jT Tm)):(t.set n o).get=Hp.set t.get n o:=by
 funext m
 show(t.Af (n+1) o).y5 (m+1)=if m=n then o else t.y5 (m+1)
 rw[Tr.Kv t o _ _ (by omega) (by omega)]
 by_cases h:m=n
 · rw[if_pos h,if_pos (by omega)]
 · rw[if_neg h,if_neg (by omega)]
theorem Hj(low:Nat):∀(jJ:uq) (h j:Ht),Ah low jJ h=some j->j.get=Hp.ur h.get jJ
 |[],h,j,e=>by cases e;rfl
 |(b,o)::m,h,j,e=>by
  unfold Ah at e
  cases hb:Nat.ble low b with
  |false=>rw[hb]at e;cases e
  |true=>
   rw[hb]at e
   have:=Hj low m _ _ e
   rw[this,Tr.oh];rfl
end
end Sw
namespace Sw
noncomputable section
open Go Go.RowKit
theorem DI(d:Nat)(t:Tm)(v:Value):(kp (some d)).run t v=t.set d v:=rfl
theorem fP.Hk(g:Gm):∀(n:Nat) (v:Value),zJ n v=true->fP g v v:=by
 intro n
 induction n with
 |zero=>
  intro v h
  unfold zJ at h
  split at h<;>first|(cases h;done)|skip
  · exact .bool _
  · exact .int _ _
  · exact .string _
  · exact .nilPtr
  · exact .qn
  · exact .vO
  · exact .nilFunc
  · exact .nilIface
  · exact .func rfl rfl (fun i v v' e=>by simp at e) (fun i v v' e=>by simp at e)
  all_goals (rename_i h0;exact absurd h0 (by simp))
 |succ n ih=>
  intro v h
  unfold zJ at h
  split at h<;>first|(cases h;done)|skip
  · exact .bool _
  · exact .int _ _
  · exact .string _
  · exact .nilPtr
  · exact .qn
  · exact .vO
  · exact .nilFunc
  · exact .nilIface
  · exact .func rfl rfl (fun i v v' e=>by simp at e) (fun i v v' e=>by simp at e)
  · rename_i m x hm
    cases hm
    rw[List.all_eq_true]at h
    refine .agg rfl fun i v v' e b=>?_
    rw[e]at b;cases b
    exact ih v (h v (by obtain⟨hi,rfl⟩:=gf.1 e;simp))
  · rename_i m x hm
    cases hm
    rw[List.all_eq_true]at h
    refine .tuple rfl fun i v v' e b=>?_
    rw[e]at b;cases b
    exact ih v (h v (by obtain⟨hi,rfl⟩:=gf.1 e;simp))
  · rename_i m t v hm
    cases hm
    exact .iface (ih v h)
theorem Hl{g:Gm}{ng nt:Nat}{I:Tm}{a:Act}(b:r_ g nt I a.tmps)(hg:lv g ng){x:Operand}(h:EG ng nt x=true):fP g ((f_ x).run I) (a.eval x):=by
 cases x with
 |tmp i=>
  have hi:i<nt:=fk h
  exact b.2 i hi
 |const v=>exact fP.Hk g 4 v h
 |global i=>
  have hi:i<ng:=fk h
  have:=fP.ptr (off:=0) (hg i hi)
  exact this
 |func f=>exact .func rfl rfl (fun i v v' e=>by simp at e) (fun i v v' e=>by simp at e)
theorem RT{g:Gm}{ng nt:Nat}{I:Tm}{a:Act}(b:r_ g nt I a.tmps)(hg:lv g ng){l:List Operand}(h:l.all (EG ng nt)=true):vK g I a.eval l:=
 fun x hx=>Hl b hg (fO.1 h x hx)
theorem r_.put{g:Gm}{nt:Nat}{I:Tm}{a:Act}(b:r_ g nt I a.tmps)(hn:nt<=512){d:Option Tmp}(hd:V3 nt d=true){v v':Value}(j:fP g v v'):
 r_ g nt ((kp d).run I v) (a.put d v').tmps:=by
 cases d with
 |none=>exact b
 |some d=>
  have hd:@LT.lt Nat _ d nt:=fk hd
  have e:@LT.lt Nat _ d 512:=fb hd hn
  refine⟨by simp[Act.put];exact b.1,fun i hi=>?_⟩
  rw[DI,Tm.oh _ _ e (by omega)]
  by_cases h:d=i
  · subst h
    rw[if_pos rfl]
    have:(a.put (some d) v').tmps.getD d undef=v':=by
     have:@LT.lt Nat _ d a.tmps.size:=by rw[b.1];exact hi
     simp[Act.put,Array.getD,this]
    rw[this];exact j
  · rw[if_neg h]
    have:(a.put (some d) v').tmps.getD i undef=a.tmps.getD i undef:=by
     simp only[Act.put,Array.getD_eq_getD_getElem?]
     rw[Array.getElem?_setIfInBounds_ne h]
    rw[this];exact b.2 i hi
theorem put_defers(a:Act)(d:Option Tmp)(v:Value):(a.put d v).defers=a.defers:=by cases d<;>rfl
end
end Sw
namespace Sw
noncomputable section
open Go Go.RowKit
def zK(P:Program)(B0:Nat)(w0:World)(b:Frame)(g:Gm)(G:Nat)(ops:Array Oper)(i:Nat)(dst:Option Tmp)(a:Act)(w:World)(v:Value)(j:List Deferred)(e9:Ht)(e_:Nat)(rest:List Nat)(ks:List Item)(fs:List Frame):Prop:=
 ∃v' e w' g',gx B0 w0 g' e9.get e_ w'/\fP g' v v'/\nK g' j e/\lR g G w g' e_ w'/\
  Steps P (lone (At b a (.inRegion ops (i::rest)::ks)) fs w) (lone (At b ({a with defers:=e}.put dst v') (.inRegion ops rest::ks)) fs w')
def uw(P:Program)(B0:Nat)(w0:World)(b:Frame)(g:Gm)(I:Tm)(G:Nat)(ops:Array Oper)(i:Nat)(dst:Option Tmp)(a:Act)(w:World)(rest:List Nat)(ks:List Item)(fs:List Frame)(run:List Nat->(St->R)->R):Prop:=
 ∀k:St->R,me (fun Z=>run Z k) fun f'=>Ai f'\/∃v e e9 e_,(∀Z,f' Z=k ⟨(kp dst).run I v,e,e9,e_,Z⟩)/\zK P B0 w0 b g G ops i dst a w v e e9 e_ rest ks fs
section
variable {P:Program}{B0:Nat}{w0:World}{b:Frame}{nt:Nat}{g:Gm}{G:Nat}{a:Act}{w:World}{ops:Array Oper}{i:Nat}{o:Oper}{I:Tm}{ds:List Deferred}{O:Ht}{rest:List Nat}{ks:List Item}{fs:List Frame}
theorem vF.kept{w':World}{O:Hp}(h:vF g O w w')(hs:w.heap.size<=w'.heap.size):Kept g w w':=
 ⟨hs,fun rb jH e=>h rb jH fun b _ ro _=>e b ro⟩
theorem iG.RU(H:gx B0 w0 g O.get G w)(hd:nK g ds a.defers)(p:ops[i]?=some o)(hw:Region.wanted o (yielded ops a.tmps)=true)(hr:b.roundOf=none\/qR o.op=true)
 {v:Value} {jJ:uq} {m:Nat} {e9:Ht} {low:Nat} (h:nY P B0 w0 g O.get G G w ((execOp a.eval o).run P w) (v,jJ,m)) (hu:Ah low jJ O=some e9):
 zK P B0 w0 b g G ops i o.dst a w v ds e9 (G+m) rest ks fs:=by
 obtain⟨g',v',w',e⟩:=h (G+m) (gv _ _) (fg _) (fun j hj=>H.fresh (gv _ _))
 refine⟨v',a.defers,w',g',?_,e.val,hd.mono e.le,⟨⟨e.le,gv _ _,fun b' hb=>?_⟩,e.keeps.kept e.size,e.held⟩,?_⟩
 · rw[Hj _ _ _ _ hu];exact e.rel
 · rcases e.new b' hb with h|h
   · exact .inl h
   · exact .inr h.1
 · exact .one (E9 p hw hr e.run)
theorem k_.yw(H:gx B0 w0 g O.get G w)(hd:nK g ds a.defers)(e:ops[i]?=some o)(hw:Region.wanted o (yielded ops a.tmps)=true)(hr:b.roundOf=none\/qR o.op=true)
 {low:Nat} {run:K1->K2->R}
 (h:∀p j,k_ (nY P B0 w0 g O.get G G w ((execOp a.eval o).run P w)) (fun i=>run (p i) (j i)) p j):
 uw P B0 w0 b g I G ops i o.dst a w rest ks fs fun Z k=>run (fun v=>k ⟨(kp o.dst).run I v,ds,O,G,Z⟩) (tW (kp o.dst).run low I ds O G Z k):=by
 intro k
 refine .here ?_
 rcases h (fun Z v=>k ⟨(kp o.dst).run I v,ds,O,G,Z⟩) (fun Z=>tW (kp o.dst).run low I ds O G Z k)with h|⟨v,h,q⟩|⟨f,h,q⟩
 · exact .inl fun Z=>h Z
 · refine .inr ⟨v,ds,O,G,h,?_⟩
   exact iG.RU (m:=0) H hd e hw hr q (low:=0) rfl
 · obtain⟨v,jJ,m⟩:=f
   cases hu:Ah low jJ O with
   |none=>exact .inl fun Z=>⟨0,by rw[h];simp[tW,hu]⟩
   |some e9=>exact .inr ⟨v,ds,e9,G+m,fun Z=>by rw[h];simp[tW,hu],iG.RU H hd e hw hr q hu⟩
end
end
end Sw
namespace Sw
noncomputable section
open Go Go.RowKit
structure mY(P:Program)(ng:Nat)(e:Env):Prop where
 T:e.T.Ok P
 cl:e.T.CO
 F:∀f fi,e.F f=some fi->∃fn,P.funcs[f]?=some fn/\fn.body=some fi.body/\fn.ntmps=fi.nt/\fn.results.toList=fi.uu/\(fn.name== "runtime.NumGoroutine")=false/\fi.nt<=512/\codeOk ng fi.nt fi.body=true/\
  fi.uu.all (fun|.tmp i=>Nat.blt i fi.nt|.cell i _=>Nat.blt i fi.nt)=true
 M:∀t name f,e.M t name=some f->∀(v:Value) (w:World),(method (P.types.size+Made.depth) t v name).run P w=.ok (f,v) w
section
variable {P:Program}{ng:Nat}{e:Env}{B0:Nat}{w0:World}{b:Frame}{nt:Nat}{g:Gm}{G:Nat}{a:Act}{w:World}{I:Tm}{O:Hp}
theorem Jy{t:TypeId}{v v':Value}(h:(Instr.loadAt t v).run P w=.ok v' w):(do loadVar t (<-asAddr v):Sem Value).run P w=.ok v' w:=by
 unfold Instr.loadAt Instr.sureAddr at h
 unfold asAddr
 cases v with
 |pointer x=>
  cases x with
  |some a=>exact h
  |none=>exact nomatch (show Result.halt (.stuck _) w=Result.ok v' w from h)
 |_=>exact nomatch (show Result.halt (.stuck _) w=Result.ok v' w from h)
def Qu(T:Ty)(O:Hp)(t:Tm):ResultVar->Option Value
 |.tmp i=>some ((f_ (.tmp i)).run t)
 |.cell a ty=>kh T O ty ((f_ (.tmp a)).run t)
theorem OD(T:Ty)(O:Hp)(t:Tm)(r:ResultVar)(b:List ResultVar):nc T O t (r::b)=(Qu T O t r).bind fun v=>(nc T O t b).map (v::·):=by
 cases r with
 |tmp i=>simp only[nc,Qu,Option.bind_some];cases nc T O t b<;>rfl
 |cell a ty=>simp only[nc,Qu];cases kh T O ty ((f_ (.tmp a)).run t)<;>cases nc T O t b<;>rfl
def C0(tmps:Array Value):ResultVar->Sem Value
 |.tmp t=>pure (tmps.getD t undef)
 |.cell a t=>do loadVar t (<-asAddr (tmps.getD a undef))
theorem Qv{T:Ty}(ok:T.Ok P)(H:gx B0 w0 g O G w)(b:r_ g nt I a.tmps){r:ResultVar}(hr:(match r with|.tmp i=>Nat.blt i nt|.cell i _=>Nat.blt i nt)=true){v:Value}(h:Qu T O I r=some v):
 ∃v',(C0 a.tmps r).run P w=.ok v' w/\fP g v v':=by
 cases r with
 |tmp i=>
  cases h
  exact⟨_,rfl,b.2 i (fk hr)⟩
 |cell i ty=>
  obtain⟨v',h1,D⟩:=Gt (P:=P) ok H h (b.2 i (fk hr))
  exact⟨v',Jy h1,D⟩
theorem E_{T:Ty}(ok:T.Ok P)(H:gx B0 w0 g O G w)(j:r_ g nt I a.tmps):∀(b:List ResultVar),b.all (fun|.tmp i=>Nat.blt i nt|.cell i _=>Nat.blt i nt)=true->∀vs,nc T O I b=some vs->
 ∃e,(b.mapM (C0 a.tmps)).run P w=.ok e w/\gZ g vs e
 |[],_,vs,h=>by cases h;exact⟨[],rfl,gZ.nil g⟩
 |r::b,hr,vs,h=>by
  rw[OD]at h
  rw[List.all_cons,Bool.and_eq_true]at hr
  obtain⟨v,h1,D⟩:=fM.1 h
  obtain⟨l,h3,rfl⟩:=fI.1 D
  obtain⟨v',m,o⟩:=Qv ok H j (r:=r) (by cases r<;>exact hr.1) h1
  obtain⟨y,p,u⟩:=E_ ok H j b hr.2 l h3
  refine⟨v'::y,?_,gZ.cons o u⟩
  rw[List.mapM_cons,ft m,ft p];rfl
theorem OE{vs b:List Value}(h:gZ g vs b):fP g (qQ vs) (if h:b.toArray.size=1 then b.toArray[0]else .tuple b.toArray):=by
 match vs,b,h with
 |[],[],h=>exact .tuple rfl (fun i v v' e=>by simp at e)
 |[v],[v'],h=>exact h.head
 |v::u::l,v'::m::j,h=>
  simp only[qQ]
  rw[dif_neg (by simp)]
  exact .tuple h.toArray.1 h.toArray.2
 |[],_::_,h=>cases h.1
 |_::_,[],h=>cases h.1
 |[_],_::_::_,h=>cases h.1
 |_::_::_,[_],h=>cases h.1
theorem Ek{T:Ty}(ok:T.Ok P)(H:gx B0 w0 g O G w)(o:r_ g nt I a.tmps){fn:Func}{b:List ResultVar}(hf:fn.results.toList=b)(hr:b.all (fun|.tmp i=>Nat.blt i nt|.cell i _=>Nat.blt i nt)=true){vs:List Value}
 (h:nc T O I b=some vs):∃v',(results fn a.tmps).run P w=.ok v' w/\fP g (qQ vs) v':=by
 obtain⟨j,h1,D⟩:=E_ ok H o b hr vs h
 refine⟨_,?_,OE D⟩
 have e:results fn a.tmps=(do let vs<-fn.results.mapM (C0 a.tmps);pure (if h:vs.size=1 then vs[0]else .tuple vs)):=by
  unfold results
  refine congrArg (fun m:Sem (Array Value)=>m >>= fun vs=>pure (if h:vs.size=1 then vs[0]else .tuple vs)) ?_
  exact congrArg (fun f=>Array.mapM f fn.results) (funext fun r=>by cases r<;>rfl)
 rw[e]
 have e2:(fn.results.mapM (C0 a.tmps)).run P w=.ok j.toArray w:=by
  have:fn.results.mapM (C0 a.tmps)=(do let l<-b.mapM (C0 a.tmps);pure l.toArray):=by
   rw[<-hf,Array.mapM_eq_mapM_toList];rfl
  rw[this,ft h1];rfl
 rw[ft e2]
 rfl
end
end
end Sw
namespace Sw
noncomputable section
open Go Go.RowKit
theorem Qw{α:Type}(x:α):∀n,(g8 α n).get (r8 x)=x
 |0|1|2|3|4|5|6=>rfl
 |_+7=>rfl
theorem Tm.RV(j:Nat):Tm.undef.get j=Go.undef:=by
 show(acc j).get Tm.undef=_
 rw[Wx]
 unfold Tm.undef
 rw[Qw,Qw,Qw]
theorem Gu:∀(n i:Nat) (l:List Value) (t0 t:Tm),i+n<=512->qP (CY n i) l t0=some t->l.length<=n/\∀j,j<512->t.get j=if i<=j/\j<i+l.length then l.getD (j-i) Go.undef else t0.get j
 |n,i,[],t0,t,_,h=>by
  have:t=t0:=by cases n<;>(simp only[CY,qP]at h;cases h;rfl)
  subst this
  exact⟨by simp,fun j _=>by rw[if_neg (by simp)]⟩
 |0,i,v::l,t0,t,_,h=>by simp[CY,qP]at h
 |n+1,i,v::l,t0,t,hn,h=>by
  simp only[CY,qP]at h
  obtain⟨h1,D⟩:=Gu n (i+1) l _ t (by omega) h
  refine⟨by simp;omega,fun j hj=>?_⟩
  rw[D j hj,DI,Tm.oh _ _ (by omega) hj]
  by_cases b:i=j
  · subst b
    rw[if_neg (by omega),if_pos rfl,if_pos (by simp)]
    simp
  · rw[if_neg b]
    by_cases hb:i+1<=j/\j<i+1+l.length
    · rw[if_pos hb,if_pos (by simp;omega)]
      have:j-i=(j-(i+1))+1:=by omega
      rw[this];simp
    · rw[if_neg hb,if_neg (by simp;omega)]
theorem Qx{g:Gm}{nt:Nat}{l:List Value}{args:Array Value}{t:Tm}(hn:nt<=512)(hl:l.length<=nt)(hr:gZ g l args.toList)(h:qP zA l Tm.undef=some t):
 r_ g nt t (args++Array.replicate (nt-args.size) Go.undef):=by
 obtain⟨_,D⟩:=Gu 64 0 l _ t (by omega) h
 have hs:args.size=l.length:=by have:=hr.1;simp at this;omega
 refine⟨by simp;omega,fun i hi=>?_⟩
 rw[D i (by omega)]
 by_cases hb:i<l.length
 · rw[if_pos ⟨Nat.zero_le _,by omega⟩]
   have b:i<args.size:=by omega
   have e1:l.getD (i-0) Go.undef=l[i]:=by simp[hb]
   have e2:(args++Array.replicate (nt-args.size) Go.undef).getD i Go.undef=args[i]:=by
    rw[Array.getD_eq_getD_getElem?,Array.getElem?_append_left b];simp[b]
   rw[e1,e2]
   exact hr.2 i _ _ (by simp[hb]) (by simp[b])
 · rw[if_neg (by omega),Tm.RV]
   have e2:(args++Array.replicate (nt-args.size) Go.undef).getD i Go.undef=Go.undef:=by
    rw[Array.getD_eq_getD_getElem?,Array.getElem?_append_right (by omega)]
    simp[Array.getElem?_replicate]
    split<;>rfl
   rw[e2];exact fP.undef g
def xC(g:Gm)(b:Frame):Option Nat->Prop
 |none=>b.roundOf=none
 |some l=>∃rl,b.roundOf=some rl/\g.ga l=some (rl,0)
def o5(P:Program)(ng:Nat)(B0:Nat)(w0:World)(rec:Rec):Prop:=
 ∀(fm:Fm) (c:Code) (s:St) (b:Frame) (a:Act) (w:World) (g:Gm),b.fn=fm.fn->xC g b fm.XX->lv g ng->fm.nt<=512->sn g fm.nt c->vT B0 w0 g fm.nt s a w->∀(ks:List Item) (fs:List Frame),
  vA P B0 w0 b fm.nt g s.G c a w ks fs fun Z=>rec fm c (s.at Z)
structure Zg(P:Program)(kind:CallKind)(f:FuncId)(fr:Frame)(a:Act):Prop where
 mode:fr.mode=.returning
 kind:fr.kind=kind
 fn:fr.fn=f
 tmps:fr.tmps=a.tmps
 defers:fr.defers=a.defers
def Kw(P:Program)(B0:Nat)(w0:World)(kind:CallKind)(g:Gm)(G:Nat)(f:FuncId)(nt:Nat)(args:Array Value)(w:World)(ds:List Deferred)(I:Tm)(e9:Ht)(e_:Nat)(fs:List Frame):Prop:=
 ∃a' w' g',gx B0 w0 g' e9.get e_ w'/\r_ g' nt I a'.tmps/\nK g' ds a'.defers/\lR g G w g' e_ w'/\
  ∃fr,Steps P (lone (Frame.enter P f args kind) fs w) (lone fr fs w')/\Zg P kind f fr a'
section
variable {P:Program}{ng:Nat}{e:Env}{B0:Nat}{w0:World}{b:Frame}{nt:Nat}{g:Gm}{G:Nat}{a:Act}{w:World}{I:Tm}{O:Ht}{rec:Rec}
theorem Gv{Z:List Frame}(hr:b.roundOf=none):step P (lone (At b a []) Z w)=.next (lone {At b a []with mode:=.returning} Z w):=
 step_lone_go (by simp[stepG,stepG.exec,At,hr])
theorem OF{Z:List Frame}{k:List Item}(hr:b.roundOf=none):step P (lone (At b a (.code .ret::k)) Z w)=.next (lone {At b a (.code .ret::k)with mode:=.returning} Z w):=
 step_lone_go (by simp[stepG,stepG.exec,At,hr])
theorem Gw(ok:mY P ng e)(ih:o5 P ng B0 w0 rec)(H:gx B0 w0 g O.get G w)(hg:lv g ng){f:FuncId}{fi:wF}(hf:e.F f=some fi){l:List Value}{args:Array Value}(hl:gZ g l args.toList)(kind:CallKind)(fs:List Frame)
 (k:List Deferred->Tm->Ht->Nat->List Nat->R):
 me (fun Z=>sU rec f fi l O G Z k) fun f'=>Ai f'\/∃ds I e9 e_,(∀Z,f' Z=k ds I e9 e_ Z)/\Kw P B0 w0 kind g G f fi.nt args w ds I e9 e_ fs:=by
 obtain⟨fn,f1,f2,f3,f4,f5,f6,f7,f8⟩:=ok.F f fi hf
 cases hb:Nat.ble l.length fi.nt with
 |false=>exact .dead fun Z=>⟨0,by simp[sU,hb]⟩
 |true=>
  cases hs:qP zA l Tm.undef with
  |none=>exact .dead fun Z=>⟨0,by simp[sU,hb,hs]⟩
  |some t=>
   have hlen:=fk hb
   have hT:=Qx (g:=g) f6 hlen hl hs
   let a0:Act:=⟨args++Array.replicate (fi.nt-args.size) Go.undef,[]⟩
   have he:∀kind,Frame.enter P f args kind=At (Frame.enter P f args kind) a0 [.code fi.body]:=fun kind=>by simp[Frame.enter,At,f1,f2,f3,a0]
   have A:vT B0 w0 g fi.nt ⟨t,[],O,G,[]⟩ a0 w:=⟨H,hT,⟨rfl,fun i d d' h=>by simp at h⟩⟩
   have yw:=ih ⟨f,fi.nt,none⟩ fi.body ⟨t,[],O,G,[]⟩ (Frame.enter P f args kind) a0 w g (by simp[Frame.enter]) (by simp[Frame.enter,xC]) hg f6 ⟨ng,hg,f7⟩ A [] fs
   refine me.map yw (fun p m h=>?_) fun pre h=>?_
   · have h:rec ⟨f,fi.nt,none⟩ fi.body ⟨t,[],O,G,p⟩=.gu m:=h
     simp[sU,hb,hs,h]
   · refine .here ?_
     rcases h with h|⟨o,j,h,L⟩
     · refine .inl fun Z=>?_
       obtain⟨m,h⟩:=h Z
       have h:rec ⟨f,fi.nt,none⟩ fi.body ⟨t,[],O,G,pre++Z⟩=.gu m:=h
       exact⟨m,by simp[sU,hb,hs,h]⟩
     · have h:∀Z,rec ⟨f,fi.nt,none⟩ fi.body ⟨t,[],O,G,pre++Z⟩=.ok (o,j.at Z):=h
       cases y:Nat.ble o 1 with
       |false=>exact .inl fun Z=>⟨0,by simp[sU,hb,hs,h,St.at,y]⟩
       |true=>
        refine .inr ⟨j.ds,j.I,j.O,j.G,fun Z=>by simp[sU,hb,hs,h,St.at,y],?_⟩
        obtain⟨a',w',g',S',z,todo,b,st⟩:=L
        refine⟨a',w',g',S'.heap,S'.act.1,S'.act.2,z,?_⟩
        have hr:(Frame.enter P f args kind).roundOf=none:=by simp[Frame.enter]
        have hk:(Frame.enter P f args kind).kind=kind:=by simp[Frame.enter]
        have u:(Frame.enter P f args kind).fn=f:=by simp[Frame.enter]
        rw[<-he]at st
        have:=fk y
        match o,b with
        |0,b=>
         have b:todo=[]:=b
         subst b
         exact⟨_,st.trans (.one (Gv hr)),rfl,hk,u,rfl,rfl⟩
        |1,b=>
         obtain⟨B,rfl⟩:=b
         exact⟨_,st.trans (.one (OF hr)),rfl,hk,u,rfl,rfl⟩
        |o+2,_=>omega
end
end
end Sw
namespace Sw
noncomputable section
open Go Go.RowKit
section
variable {P:Program}{ng:Nat}{e:Env}{B0:Nat}{w0:World}{b:Frame}{nt:Nat}{g:Gm}{G:Nat}{a:Act}{w:World}{I:Tm}{O:Ht}{rec:Rec}
theorem lR.putObj{r rr ro:Nat}(hg:g.ga r=some (rr,ro))(o:Obj):lR g G w g G (w.putObj rr o):=
 ⟨yv.refl _ _,⟨by simp,fun rb _ b=>World.putObj_heap_other (fun h=>b r ro (by rw[hg,h]))⟩,pQ.refl _ _⟩
theorem lR.alloc{n e_:Nat}(hn:G<=n)(hx:n<e_)(hg:g.ga n=none)(o:Obj)(room:Option (Nat×Nat)):lR g G w (g.add n (w.heap.size,0) room) e_ (w.alloc o):=
 ⟨⟨Gm.rq hg _ _,by omega,fun b hb=>by
   by_cases h:b=n
   · exact .inr (by omega)
   · rw[Gm.j5 _ _ _ h]at hb;exact .inl hb⟩,⟨by simp,fun rb jH _=>(tD.alloc w o).other rb (by omega)⟩,pQ.new⟩
theorem lR.more{g':Gm}{w':World}{b n2:Nat}(h:lR g G w g' b w')(k:b<=n2):lR g G w g' n2 w':=⟨⟨h.ext.le,ff h.ext.num k,h.ext.new⟩,h.kept,h.held⟩
def qF(P:Program)(B0:Nat)(w0:World)(kind:CallKind)(g:Gm)(G:Nat)(f:FuncId)(args:Array Value)(w:World)(v:Value)(e9:Ht)(e_:Nat)(fs:List Frame):Prop:=
 ∃v' w' g',gx B0 w0 g' e9.get e_ w'/\fP g' v v'/\lR g G w g' e_ w'/\
  ∃fr,Steps P (lone (Frame.enter P f args kind) fs w) (lone fr fs w')/\fr.mode=.returning/\fr.defers=[]/\fr.kind=kind/\fr.fn=f/\∃fn,P.funcs[fr.fn]?=some fn/\(results fn fr.tmps).run P w'=.ok v' w'
def tX(P:Program)(B0:Nat)(w0:World)(kind:CallKind)(g:Gm)(G:Nat)(f:FuncId)(args:Array Value)(w:World)(fs:List Frame)(run:List Nat->KC->R):Prop:=
 ∀k:KC,me (fun Z=>run Z k) fun f'=>Ai f'\/∃v e9 e_,(∀Z,f' Z=k v e9 e_ Z)/\qF P B0 w0 kind g G f args w v e9 e_ fs
theorem Bs{f:FuncId}{fn:Func}{c:Code}(hf:P.funcs[f]?=some fn)(hb:fn.body=some c)(hn:(fn.name== "runtime.NumGoroutine")=false)(args:Array Value):(callFunc f args).run P w=.ok (.enter f args) w:=by
 unfold callFunc
 have:(program:Sem Program).run P w=.ok P w:=rfl
 rw[ft this,hf]
 simp[hn,hb]
theorem run_takeDeferred{r:Nat}{ds:List Deferred}(h:w.heap[r]?=some (.deferred (some ds))):(Instr.takeDeferred r).run P w=.ok ds (w.putObj r (.deferred none)):=by
 have hc:∀c e f,Obj.deferred (some ds)≠.cells c e f:=fun _ _ _ h=>by cases h
 unfold Instr.takeDeferred
 rw[ft (oO h hc)]
 simp only
 rw[ft (qt _ h hc)];rfl
theorem Fa{fr:Frame}{Z:List Frame}{r:Nat}{x:Array Value}{ds l:List Deferred}(hm:fr.mode=.returning)(hd:fr.defers=⟨.collected r,x⟩::ds)(h:w.heap[r]?=some (.deferred (some l))):
 step P (lone fr Z w)=.next (lone {fr with defers:=l++ds} Z (w.putObj r (.deferred none))):=
 step_lone_go (by simp[stepG,unwind,hm,hd,run_takeDeferred h])
theorem Fb{fr:Frame}{Z:List Frame}{f:FuncId}{fn:Func}{c:Code}(hf:P.funcs[f]?=some fn)(hb:fn.body=some c)(hn:(fn.name== "runtime.NumGoroutine")=false){cap x:Array Value}{ds:List Deferred}
 (hm:fr.mode=.returning) (hd:fr.defers=⟨.fn (.func f) cap,x⟩::ds):
 step P (lone fr Z w)=.next (lone (Frame.enter P f (x++cap) .deferred) ({fr with defers:=ds}::Z) w):=by
 have h:(invoke (.fn (.func f) cap) x).run P w=.ok (.enter f (x++cap)) w:=Bs hf hb hn _
 exact step_lone_go (by simp[stepG,unwind,hm,hd,callDeferred,h])
theorem Az{fr c:Frame}{Z:List Frame}{v:Value}(hm:fr.mode=.returning)(hd:fr.defers=[])(hk:fr.kind=.deferred){fn:Func}(hf:P.funcs[fr.fn]?=some fn)(hr:(results fn fr.tmps).run P w=.ok v w)(hc:c.mode=.returning):
 step P (lone fr (c::Z) w)=.next (lone c Z w):=
 step_lone_go (by simp[stepG,unwind,doReturn,hm,hd,hk,hf,hr,hc])
def tx(P:Program)(B0:Nat)(w0:World)(g:Gm)(G:Nat)(w:World)(e9:Ht)(e_:Nat)(fr:Frame)(fs:List Frame):Prop:=
 ∃w' g',gx B0 w0 g' e9.get e_ w'/\lR g G w g' e_ w'/\Steps P (lone fr fs w) (lone {fr with defers:=[]} fs w')
theorem nK.wH{b:List Deferred}(h:nK g [] b):b=[]:=by have:=h.1;cases b<;>first|rfl|cases this
theorem nK.cons_inv{d:Deferred}{ds j:List Deferred}(h:nK g (d::ds) j):∃d' b,j=d'::b/\Cm g d d'/\nK g ds b:=by
 cases j with
 |nil=>cases h.1
 |cons d' b=>exact⟨d',b,rfl,h.2 0 d d' rfl rfl,by have:=h.1;simpa using this,fun i x x' e m=>h.2 (i+1) x x' (by simpa using e) (by simpa using m)⟩
theorem tx.nil(H:gx B0 w0 g O.get G w){fr:Frame}{fs:List Frame}(hd:fr.defers=[]):tx P B0 w0 g G w O G fr fs:=
 ⟨w,g,H,lR.refl _ _ _,by
   have:{fr with defers:=[]}=fr:=by rw[<-hd]
   rw[this];exact .refl ..⟩
theorem tx.G2(H:gx B0 w0 g O.get G w){r:Nat}{d':Deferred}{b:List Deferred}(hr:O.get r=some (.deferred (some [])))(hd:Cm g ⟨.collected r,#[]⟩ d'){e9:Ht}{e_:Nat}{fr:Frame}{fs:List Frame}(hm:fr.mode=.returning)(he:fr.defers=d'::b)
 (k:∀w1,gx B0 w0 g (O.set r (some (.deferred none))).get G w1->tx P B0 w0 g G w1 e9 e_ {fr with defers:=b} fs):tx P B0 w0 g G w e9 e_ fr fs:=by
 cases hd with
 |@G2 _ rr hg=>
  obtain⟨jv,D,h3⟩:=(H.live _ _ hr).2 _ _ hg
  cases jv<;>first|exact h3.elim|skip
  rename_i l
  cases l with
  |none=>exact h3.elim
  |some l=>
   obtain⟨_,e,h4⟩:=h3
   cases nK.wH h4
   have H1:=H.setObj hr hg (o':=.deferred none) (fun _ _ h=>by cases h) (fun _ _ h=>by cases h) rfl (.deferred none) e ⟨rfl,e⟩
   rw[<-Tr.oh]at H1
   obtain⟨w',g',R,E,st⟩:=k _ H1
   exact⟨w',g',R,(lR.putObj hg _).trans E,.head (Fa hm he D) st⟩
theorem El{low:Nat}:∀(ds b:List Deferred) (O e9:Ht) (w:World) (fr:Frame) (fs:List Frame),gx B0 w0 g O.get G w->nK g ds b->y7 low ds O=some e9->fr.mode=.returning->fr.defers=b->tx P B0 w0 g G w e9 G fr fs
 |[],b,O,e9,w,fr,fs,H,hd,h,_,he=>by
  cases h
  cases nK.wH hd
  exact tx.nil H he
 |d::ds,b,O,e9,w,fr,fs,H,hd,h,hm,he=>by
  obtain⟨d',e,rfl,h1,D⟩:=hd.cons_inv
  obtain⟨m,j⟩:=d
  cases m<;>first|(simp[y7]at h;done)|skip
  rename_i r
  simp only[y7]at h
  split at h
  · rename_i hr
    cases hb:Nat.ble low r with
    |false=>rw[hb]at h;cases h
    |true=>
     rw[hb]at h
     have:j=#[]:=by cases h1;rfl
     subst this
     exact tx.G2 H hr h1 hm he fun w1 H1=>El ds e _ e9 w1 _ fs H1 D h hm rfl
  · cases h
theorem qF.Jz(ok:mY P ng e){kind:CallKind}{f:FuncId}{fi:wF}(hf:e.F f=some fi){args:Array Value}{ds:List Deferred}{m jy:Ht}{j o_:Nat}{vs:List Value}{fs:List Frame}
 (hb:Kw P B0 w0 kind g G f fi.nt args w ds I m j fs) (hu:∀fr w1 g1,gx B0 w0 g1 m.get j w1->nK g1 ds fr.defers->yv g G g1 j->fr.mode=.returning->tx P B0 w0 g1 j w1 jy o_ fr fs) (hr:nc e.T jy.get I fi.uu=some vs):
 qF P B0 w0 kind g G f args w (qQ vs) jy o_ fs:=by
 obtain⟨fn,f1,f2,f3,f4,f5,f6,f7,f8⟩:=ok.F f fi hf
 obtain⟨a',w1,g1,H1,A,z,o,fr,s1,b⟩:=hb
 obtain⟨y,g2,u,p,st2⟩:=hu fr w1 g1 H1 (by rw[b.defers];exact z) o.ext b.mode
 obtain⟨v',r1,r2⟩:=Ek ok.T u (A.mono p.ext.le) f4 f8 hr
 refine⟨v',y,g2,u,r2,o.trans p,{fr with defers:=[]},s1.trans st2,b.mode,rfl,b.kind,b.fn,fn,?_,?_⟩
 · show P.funcs[fr.fn]?=_;rw[b.fn];exact f1
 · show(results fn fr.tmps).run P y=_;rw[b.tmps];exact r1
theorem OG(ok:mY P ng e)(ih:o5 P ng B0 w0 rec)(H:gx B0 w0 g O.get G w)(hg:lv g ng){f:FuncId}{l:List Value}{args:Array Value}(hl:gZ g l args.toList)(kind:CallKind)(fs:List Frame):
 (∃fi,e.F f=some fi)->tX P B0 w0 kind g G f args w fs fun Z k=>E0 e rec f l O G Z k:=by
 rintro ⟨fi,hf⟩ k
 have h0:(fun Z=>E0 e rec f l O G Z k)=fun Z=>sU rec f fi l O G Z (fun ds I O G Z=>match y7 e.low ds O with
  |some h=>y8 e.T fi I k h G Z
  |none=>.gu 0):=by funext Z;simp only[E0,hf]<;>rfl
 rw[h0]
 refine(Gw ok ih H hg hf hl kind fs _).mono fun f' h=>?_
 rcases h with h|⟨ds,I,b,j,h,B⟩
 · exact .inl h
 · cases hu:y7 e.low ds b with
   |none=>exact .inl fun Z=>⟨0,by rw[h,hu]⟩
   |some jy=>
    cases hr:nc e.T jy.get I fi.uu with
    |none=>exact .inl fun Z=>⟨0,by rw[h,hu];simp[y8,hr]⟩
    |some vs=>
     refine .inr ⟨qQ vs,jy,j,fun Z=>by rw[h,hu];simp[y8,hr],?_⟩
     exact qF.Jz ok hf B (fun fr w1 g1 H1 m _ hm=>El ds fr.defers b jy w1 fr fs H1 m hu hm rfl) hr
end
end
end Sw
