/- A part of the proof that the law returns true for every input that its row speaks of. No condition is added. -/
import Derived.Test.YtecbgehgkpgbmaaGreatDoorSwAB
namespace Sw
noncomputable section
open Go Go.RowKit
section
variable {T:Ty}{P:Program}{B0:Nat}{w0:World}{g:Gm}{hp:Hp}{nx n:Nat}{w:World}
theorem Gw(ok:T.Ok P)(H:gu B0 w0 g hp nx w){t:TypeId}{l c aa I:Value}{e:pR}(h:vP T t l c n=some e)(rl:fQ g l aa)(rc:fQ g c I):
 iC B0 w0 g hp nx n w ((Instr.makeSlice t aa I).run P w) e:=by
 unfold vP at h
 split at h
 · rename_i el ae l af c hu
   split at h
   · rename_i inf pa
     split at h
     · rename_i z R
       cases hb:(Nat.ble l c&&(Nat.ble (c*inf.bytes) 1099511627776&&Nat.blt c 2147483648))with
       |false=>rw[hb]at h;cases h
       |true=>
        rw[hb]at h
        simp only[cond_true]at h
        cases h
        simp only[Bool.and_eq_true]at hb
        obtain⟨b1,b2,C⟩:=hb
        have b1:=Nat.le_of_ble_eq_true b1
        have b2:=Nat.le_of_ble_eq_true b2
        have C:=mq.1 C
        obtain rfl:=rl.kQ
        obtain rfl:=rc.kQ
        have hzero:T.zero el=some z:=by unfold Ty.zero;rw[pa];exact R
        have j:T.size el=some inf.size:=by unfold Ty.size;rw[pa];rfl
        have o:=ok.U3 el inf z pa R
        have wl:IntKind.i64.wrap (Int.ofNat l)=(l:Int):=wrap_small (by omega)
        have ad:IntKind.i64.wrap (Int.ofNat c)=(c:Int):=wrap_small C
        refine Bk H (cs:=kC c z.cells.toList) (lv:=kC c z.cells.toList) (gX.kC (gX.Bj (ok.qN hzero)) c) b1 el ?_
        unfold Instr.makeSlice
        rw[fw (ok.gS hu w)]
        simp only[asInt,asIntOf,pure_bind]
        rw[fw (ok.rM pa w)]
        simp only[wl,ad]
        have ab:¬(((decide ((c:Int)<0)||decide ((inf.bytes:Int)*(c:Int)>2^48))||decide ((l:Int)<0)||decide ((l:Int)>(c:Int)))=true):=by
         have:(inf.bytes:Int)*(c:Int)<=1099511627776:=by
          have:((inf.bytes*c:Nat):Int)<=1099511627776:=by rw[Nat.mul_comm];omega
          simpa using this
         simp only[Bool.or_eq_true,decide_eq_true_eq]
         have J:(2:Int)^48=281474976710656:=by decide
         rw[J]
         omega
        rw[if_neg ab]
        simp only[Int.toNat_natCast]
        rw[fw (run_askRoom _ _),fw (ok.nS j w)]
        have fin:∀zero:Array Value,((Array.range (c*inf.size)).map (zero[· %zero.size]!))=(kC c z.cells.toList).toArray->
         (do let a<-newRow el ((Array.range (c*inf.size)).map (zero[· %zero.size]!));pure (.slice (some a) l c):Sem Value).run P w=.ok (.slice (some ⟨w.heap.size,0,none⟩) l c) (w.alloc (.cells (kC c z.cells.toList).toArray el)):=by
         intro zero U
         rw[U,fw (s4 _ _ _)];rfl
        by_cases h0:c*inf.size=0
        · rw[if_pos h0]
          refine fin #[] ?_
          rw[h0]
          have:kC c z.cells.toList=[]:=by
           rw[<-List.length_eq_zero_iff,AF,Array.length_toList,o];exact h0
          rw[this];simp
        · rw[if_neg h0]
          have step:(do pure (<-zeroValue el).cells:Sem (Array Value)).run P w=.ok z.cells w:=by rw[fw (ok.pZ hzero w)];rfl
          have:((Array.range (c*inf.size)).map (z.cells[· %z.cells.size]!))=(kC c z.cells.toList).toArray:=by
           rw[<-o,<-Array.toList_inj,B_]
          have f:=fin z.cells this
          first
           |(rw[fw step];exact f)
           |(rw[fw (ok.pZ hzero w)];exact f)
     · cases h
   · cases h
 · cases h
theorem PA(ok:T.Ok P)(H:gu B0 w0 g hp nx w){t:TypeId}{ts:Array TypeId}(C:ts[0]?=some t){x x' v:Value}(h:Tb T hp t x=some v)(rx:fQ g x x')(args:Array Value)(j:args[0]?=some x')(ty:TypeId):
 iC B0 w0 g hp nx n w ((Builtin.cap_ ts ty args).run P w) (v,[],0):=by
 unfold Tb at h
 split at h
 · rename_i k el hu
   cases h
   refine iC.pure H ?_ (.int _ _)
   simp only[Builtin.cap_,C,j]
   rw[fw (ok.gS hu w)]
   cases x'<;>rfl
 · rename_i el l c hu
   cases h
   obtain⟨rfl,rfl,rfl⟩:=rx.lT
   refine iC.pure H ?_ (.int _ _)
   simp only[Builtin.cap_,C,j]
   rw[fw (ok.gS hu w)]
   rfl
 · rename_i el a l c hu
   split at h
   · rename_i cs mt hb
     split at h
     · rename_i J
       cases h
       rcases rx.mK with⟨a2,rfl,rfl,rfl⟩|⟨_,rb,ro,c2,hg,hl,hc,rfl⟩
       · refine iC.pure H ?_ (.int _ _)
         simp only[Builtin.cap_,C,j]
         rw[fw (ok.gS hu w)]
         rfl
       · obtain⟨rc,U,aa,ab,ad,ae,af,ag,R⟩:=H.uG hb hg
         have o:=R J
         have I:c=c2:=by
          rcases hc with hc|⟨_,rs,u,h2,_⟩
          · exact hc
          · rw[o]at h2;cases h2
         subst I
         refine iC.pure H ?_ (.int _ _)
         simp only[Builtin.cap_,C,j]
         rw[fw (ok.gS hu w)]
         rfl
     · cases h
   · cases h
 · cases h
theorem iC.jA(H:gu B0 w0 g hp nx w){b off rb ro:Nat}{cs vs j:List Value}{m:gl}{u:tH}(hb:hp b=some (.cells cs m))(hg:g.gb b=some (rb,ro))(hu:nU hp b cs m off vs=some u)
 (I:gX g vs j) (o:∀v∈vs,one v=true) {x:Result Value} {v v':Value} (hx:∀w',(storeCells ⟨rb,ro+off,none⟩ j).run P w=.ok () w'->x=.ok v' w') (C:fQ g v v'):
 iC B0 w0 g hp nx n w x (v,u,0):=by
 obtain⟨w',r1,r2,J,R⟩:=vK (P:=P) H hb hg hu I o
 intro fg h1 _ _
 exact⟨g,v',w',hx w' r1,Gm.le_refl g,fun _ h=>.inl h,C,r2.An h1,J,by omega,pk.refl _ _⟩
theorem Td{z:Value}(h:flat z=true):∀v∈z.cells.toList,one v=true:=by
 intro v j
 unfold flat at h
 split at h
 · rename_i cs
   rw[List.all_eq_true]at h
   have:=h v j
   unfold Fi at this
   split at this<;>first|rfl|cases this
 · rename_i hn
   have:z.cells=#[z]:=by
    unfold Value.cells
    split
    · exact(hn _ rfl).elim
    · rfl
   rw[this]at j
   simp at j
   subst j
   unfold Fi at h
   split at h<;>first|rfl|cases h
theorem LP{z:List Value}(h:∀v∈z,one v=true):∀m,∀v∈kC m z,one v=true
 |0,v,j=>by simp[kC]at j
 |m+1,v,j=>by
  simp only[kC,List.mem_append]at j
  rcases j with j|j
  · exact h v j
  · exact LP h m v j
theorem LQ(ok:T.Ok P)(H:gu B0 w0 g hp nx w){t:TypeId}{ts:Array TypeId}(o:ts[0]?=some t){x x':Value}{e:pR}(h:LI T hp t x=some e)(rx:fQ g x x')(args:Array Value)(j:args[0]?=some x')(ty:TypeId):
 iC B0 w0 g hp nx n w ((Builtin.clear_ ts ty args).run P w) e:=by
 have rt:fQ g (.tuple #[]) (.tuple #[]):=fQ.undef g
 unfold LI at h
 split at h
 · rename_i d hu
   split at h
   · cases h
     obtain rfl:=rx.pX
     refine iC.pure H ?_ rt
     simp only[Builtin.clear_,o,j]
     rw[fw (ok.gS hu w)]
     rfl
   · cases h
     obtain⟨rfl,rfl,rfl⟩:=rx.lT
     refine iC.pure H ?_ rt
     simp only[Builtin.clear_,o,j]
     rw[fw (ok.gS hu w)]
     rfl
   · rename_i a c
     cases h
     have:∃a2 c2,x'=.slice (some a2) 0 c2:=by
      rcases rx.mK with⟨a2,_,_,rfl⟩|⟨_,rb,ro,c2,_,_,_,rfl⟩
      · exact⟨_,_,rfl⟩
      · exact⟨_,_,rfl⟩
     obtain⟨a2,c2,rfl⟩:=this
     refine iC.pure H ?_ rt
     simp only[Builtin.clear_,o,j]
     rw[fw (ok.gS hu w)]
     rfl
   · rename_i r
     split at h
     · rename_i es c hr
       cases h
       obtain⟨rr,hg,rfl⟩:=rx.vE
       obtain⟨U,_,a2,a3,a4⟩:=H.zW hr hg
       have R:∀ad e f,Obj.map U c≠.cells ad e f:=fun _ _ _ h=>by cases h
       refine iC.put H (o':=.map [] c) (jq:=.map #[] c) hr hg a3 (fun _ _ h=>by cases h) (fun _ _ h=>by cases h) rfl ⟨rfl,a3,rfl,kN.nil⟩ ?_ rt
       simp only[Builtin.clear_,o,j]
       rw[fw (ok.gS hu w)]
       rw[fw (nZ a2 R)]
       simp only
       rw[fw (p0 _ a2 R)]
       rfl
     · cases h
   · rename_i b off I c J
     split at h
     · rename_i el
       split at h
       · rename_i z ae mt ab hb
         split at h
         · rename_i u aa
           cases h
           have Bl:=ok.qN ab
           rcases rx.mK with⟨a2,rfl,rfl,rfl⟩|⟨_,rb,ro,c2,hg,hl,hc,rfl⟩
           · exact(J rfl).elim
           · refine iC.jA (P:=P) H hb hg aa (gX.kC (gX.Bj Bl) I) (LP (Td Bl) I) (fun w' hw=>?_) rt
             simp only[Builtin.clear_,o,j]
             rw[fw (ok.gS hu w)]
             obtain⟨C,rfl⟩:∃C,I=C+1:=⟨I-1,by have:I≠0:=fun h=>J h;omega⟩
             simp only
             rw[fw (ok.pZ ab w)]
             have:(Builtin.zeroCells z.cells (C+1)).toList=kC (C+1) z.cells.toList:=by
              unfold Builtin.zeroCells;exact B_ z.cells (C+1)
             rw[this,fw hw]
             rfl
         · cases h
       · cases h
     · cases h
   · cases h
 · cases h
theorem NV(ok:T.Ok P)(H:gu B0 w0 g hp nx w){t:TypeId}{ts:Array TypeId}(ak:ts[0]?=some t){d d' x x':Value}{e:pR}(h:Pu T hp t d x=some e)(rd:fQ g d d')(rx:fQ g x x')
 (args:Array Value) (aj:args[0]?=some d') (hb:args[1]?=some x') (ty:TypeId):iC B0 w0 g hp nx n w ((Builtin.copy_ ts ty args).run P w) e:=by
 unfold Pu at h
 split at h
 · rename_i el base dl cap hu
   split at h
   · rename_i size U ah C
     split at h
     · rename_i cs j
       cases R:tZ size x with
       |false=>rw[R]at j;cases j
       |true=>
        rw[R]at j
        simp only[cond_true]at j
        have I:AH U dl=Nat.min U dl:=Ta U dl
        have hlen:(Builtin.lenOf x').run P w=.ok U w:=by
         unfold Ed at C
         split at C
         · rename_i a l c
           cases C
           cases rx<;>rfl
         · rename_i s
           cases C
           obtain rfl:=rx.kS
           have:s.size=(strs s).length:=by unfold strs;rw[Array.length_toList];rfl
           show Result.ok s.size w=_
           rw[this]
         · cases C
        obtain⟨lv,c1,c2⟩:=Cc (P:=P) (size:=size) (m:=AH U dl) H j rx rfl (fun s hs=>by
         subst hs
         simp only[Ed]at C;cases C
         refine⟨Nat.eq_of_beq_eq_true R,?_⟩
         rw[I];exact Nat.min_le_left _ _) (fun a l c hs=>by
         subst hs
         simp only[Ed]at C;cases C
         rw[I];exact Nat.min_le_left _ _)
        have hd:∃o aa,d'=.slice o dl aa/\((base=none/\o=none)\/(∃a2,o=some a2/\dl=0)\/∃b off rb ro,base=some ⟨b,off,none⟩/\g.gb b=some (rb,ro)/\o=some ⟨rb,ro+off,none⟩):=by
         cases base with
         |none=>obtain⟨rfl,rfl,rfl⟩:=rd.lT;exact⟨none,0,rfl,.inl ⟨rfl,rfl⟩⟩
         |some a=>
          rcases rd.mK with⟨a2,rfl,rfl,rfl⟩|⟨ae,rb,ro,c2,hg,hl,hc,rfl⟩
          · exact⟨_,_,rfl,.inr (.inl ⟨_,rfl,rfl⟩)⟩
          · obtain⟨b,off,sp⟩:=a
            simp only at ae;subst ae
            exact⟨_,_,rfl,.inr (.inr ⟨b,off,rb,ro,rfl,hg,rfl⟩)⟩
        obtain⟨o,aa,rfl,ab⟩:=hd
        have run:∀y,(do
         if let some a:=o then storeCells a lv
         pure (goInt (AH U dl)):Sem Value).run P w=y->(Builtin.copy_ ts ty args).run P w=y:=by
         intro y hy
         simp only[Builtin.copy_,ak,aj,hb]
         rw[fw (ok.gS hu w)]
         simp only
         rw[fw hlen,fw (ok.nS ah w),<-I,fw c1]
         exact hy
        split at h
        · cases h
          have:lv=[]:=by rw[<-List.length_eq_zero_iff,<-c2.1];rfl
          subst this
          refine iC.pure H (run _ ?_) (.int _ _)
          cases o<;>rfl
        · rename_i b off jG
          cases J:cs.all one with
          |false=>rw[J]at h;cases h
          |true=>
           rw[J]at h
           simp only[cond_true]at h
           split at h
           · rename_i an mt ag
             obtain⟨u,ai,rfl⟩:=Option.map_eq_some_iff.1 h
             have ad:∀v∈cs,one v=true:=by rw[List.all_eq_true]at J;exact J
             rcases ab with⟨af,_⟩|⟨a2,rfl,rfl⟩|⟨b',al,rb,ro,af,hg,rfl⟩
             · cases af
             · exfalso
               have:AH U 0=0:=by rw[I];exact Nat.min_zero _
               rw[this,Nat.zero_mul]at j
               apply jG
               unfold lK at j
               split at j<;>first|(cases j;rfl)|(simp[lJ]at j;exact j.symm)|(simp at j;exact j.symm)|(cases j;done)
             · cases af
               refine iC.jA (P:=P) H ag hg ai c2 ad (fun w' hw=>run _ ?_) (.int _ _)
               simp only
               rw[fw hw];rfl
           · cases h
        · cases h
     · cases h
   · cases h
 · cases h
theorem FI(ok:T.Ok P)(H:gu B0 w0 g hp nx w){x x' v:Value}{xt a:TypeId}{b:Bool}(h:BM T x a b=some v)(rx:fQ g x x'):
 iC B0 w0 g hp nx n w ((Instr.typeAssert x' xt a b).run P w) (v,[],0):=by
 unfold BM at h
 split at h
 · cases h
 · rename_i d o hu
   obtain rfl:=rx.oz
   cases b with
   |false=>cases h
   |true=>
    simp only[cond_true]at h
    obtain⟨z,C,rfl⟩:=Option.map_eq_some_iff.1 h
    refine iC.pure H ?_ (Ch (fQ.of_flat g (ok.qN C)) (.bool _))
    unfold Instr.typeAssert
    rw[fw (ok.gS hu w)]
    have run:∀s:Option TypeId,(do if true=true then pure (Value.tuple #[<-zeroValue a,.bool false])else runtimePanic (.typeAssertion s none a ""):Sem Value).run P w=.ok (.tuple #[z,.bool false]) w:=fun s=>by
     rw[if_pos rfl,fw (ok.pZ C w)];rfl
    cases d<;>first|(exact(o _ rfl).elim)|exact run (some xt)
 · rename_i d t v0 o hu
   obtain⟨v',rfl,I⟩:=rx.xe
   cases j:Nat.beq t a with
   |true=>
    rw[j]at h
    simp only[cond_true]at h
    cases h
    have j:=Nat.eq_of_beq_eq_true j
    subst j
    refine iC.pure H (v':=bif b then .tuple #[v',.bool true]else v') ?_ ?_
    · unfold Instr.typeAssert
      rw[fw (ok.gS hu w)]
      cases d<;>first|(exact(o _ rfl).elim)|(simp only[if_true];cases b<;>rfl)
    · cases b
      · exact I
      · exact Ch I (.bool _)
   |false=>
    rw[j]at h
    simp only[cond_false]at h
    have jG:t≠a:=fun e=>by subst e;rw[Nat.beq_refl]at j;cases j
    cases b with
    |false=>cases h
    |true=>
     simp only[cond_true]at h
     obtain⟨z,C,rfl⟩:=Option.map_eq_some_iff.1 h
     refine iC.pure H ?_ (Ch (fQ.of_flat g (ok.qN C)) (.bool _))
     unfold Instr.typeAssert
     rw[fw (ok.gS hu w)]
     have run:∀(s r:Option TypeId),(do if true=true then pure (Value.tuple #[<-zeroValue a,.bool false])else runtimePanic (.typeAssertion s r a ""):Sem Value).run P w=.ok (.tuple #[z,.bool false]) w:=fun s r=>by
      rw[if_pos rfl,fw (ok.pZ C w)];rfl
     cases d<;>first|(exact(o _ rfl).elim)|(simp only[if_neg jG];exact run (some xt) (some t))
 · cases h
end
end
end Sw
namespace Sw
noncomputable section
open Go Go.RowKit
section
variable {T:Ty}{P:Program}{B0:Nat}{w0:World}{g:Gm}{hp:Hp}{nx n:Nat}{w:World}
theorem sZ.freeze{rb:Nat}{rc:Array Value}{el:TypeId}{C:Nat×Nat}(hw:w.heap[rb]?=some (.cells rc el C))(hf:Gl rc.size C):
 ∃j,Gl rc.size j/\sZ w (w.freeze ⟨rb,rc.size,none⟩ 1) rb (.cells rc el j):=by
 have jz:=sf hw
 obtain⟨lo,hi⟩:=C
 refine⟨if lo==hi then(rc.size,rc.size+1)else(min lo rc.size,max hi (rc.size+1)),?_,?_⟩
 · split
   · exact .inr (Nat.le_refl _)
   · rename_i h
     rcases hf with hf|hf
     · simp only at hf;subst hf;simp at h
     · refine .inr ?_
       show rc.size<=min lo rc.size
       have:rc.size<=lo:=hf
       omega
 · have e:w.freeze ⟨rb,rc.size,none⟩ 1={w with heap:=w.heap.modify rb fun
    |.cells c elem (lo,hi)=>.cells c elem (if lo==hi then(rc.size,rc.size+1)else(min lo rc.size,max hi (rc.size+1)))
    |o=>o}:=rfl
   rw[e]
   refine⟨rfl,rfl,rfl,by simp,?_,fun k hk=>?_,Nat.le_refl _⟩
   · simp only[Array.getElem?_modify,if_true,hw];rfl
   · simp only[Array.getElem?_modify,if_neg (Ne.symm hk)]
theorem gu.Q0(H:gu B0 w0 g hp nx w){w':World}{rb:Nat}{rc:Array Value}{el:TypeId}{I j:Nat×Nat}(hw:w.heap[rb]?=some (.cells rc el I))(J:B0<=rb)(hf:Gl rc.size j)
 (U:sZ w w' rb (.cells rc el j)):gu B0 w0 g hp nx w':=by
 refine⟨?_,?_,?_,?_,H.o7,H.mem,H.sep,H.room⟩
 · exact H.below.trans ⟨⟨U.os,U.tape,U.output,U.size,fun k hk=>U.other k (by omega)⟩,U.drawn⟩
 · have:=H.base;have:=U.size;omega
 · intro b r1 r2 e
   obtain⟨p,q⟩:=H.rq b r1 r2 e
   exact⟨p,by have:=U.size;omega⟩
 · intro b ob e
   obtain⟨p,q⟩:=H.live b ob e
   refine⟨p,fun r1 r2 a1=>?_⟩
   obtain⟨C,a2,a3⟩:=q r1 r2 a1
   by_cases o:r1=rb
   · subst o
     rw[hw]at a2;cases a2
     refine⟨_,U.at_,?_⟩
     cases ob<;>first|exact a3.elim|skip
     · obtain⟨R,aa,ae,ab,ad⟩:=a3
       exact⟨R,aa,fun _=>⟨J,hf⟩,ab,ad⟩
     · rename_i d;cases d<;>exact a3.elim
   · exact⟨C,(U.other r1 o).trans a2,a3⟩
theorem zM{rb off:Nat}{rc:Array Value}{el:TypeId}{j:Nat×Nat}(hw:w.heap[rb]?=some (.cells rc el j)):
 (markStringish ⟨rb,off,none⟩).run P w=.ok () (w.freeze ⟨rb,rc.size,none⟩ 1):=by
 unfold markStringish
 have:(shape rb).run P w=.ok (some (el,rc.size)) w:=by
  simp[shape,Sem.run,World.shape?,hw]
 rw[fw this];rfl
theorem DC:∀(vs:List Value) (o:List UInt8),bytesOf vs=some o->∀(j:List Value),gX g vs j->∀s:ByteArray,
 (forIn j s fun c (s:ByteArray)=>(do
   let .int .u8 n:=c|stuck "bytesToString: byte expected"
   pure (ForInStep.yield (s.push (UInt8.ofNat n.toNat))):Sem (ForInStep ByteArray))).run P w=.ok ⟨(s.data.toList++o).toArray⟩ w
 |[],o,h,j,hl,s=>by
  cases h
  have:j=[]:=by have:=hl.1;exact List.length_eq_zero_iff.1 (by simpa using this.symm)
  subst this
  simp
 |v::vs,o,h,j,hl,s=>by
  unfold bytesOf at h
  split at h
  · cases ‹v::vs=[]›
  · rename_i k I heq
    cases heq
    split at h
    · rename_i C hb
      cases h
      cases j with
      |nil=>have:=hl.1;simp at this
      |cons v' j=>
       have:=hl.head
       obtain rfl:=this.kQ
       rw[List.forIn_cons]
       rw[fw (show(pure (ForInStep.yield (s.push (UInt8.ofNat (Int.ofNat k).toNat))):Sem (ForInStep ByteArray)).run P w=.ok (ForInStep.yield (s.push (UInt8.ofNat k))) w from rfl)]
       simp only
       rw[DC vs C hb j hl.tail (s.push (UInt8.ofNat k))]
       congr 2
       simp[ByteArray.push]
    · cases h
  · cases h
end
end
end Sw
namespace Sw
noncomputable section
open Go Go.RowKit
section
variable {T:Ty}{P:Program}{B0:Nat}{w0:World}{g:Gm}{hp:Hp}{nx n:Nat}{w:World}
theorem DR(H:gu B0 w0 g hp nx w)(s:ByteArray)(el:TypeId):
 iC B0 w0 g hp nx n w ((Conv.stringToBytes el s).run P w) (.slice (some ⟨n+1,0,none⟩) (strs s).length (strs s).length,
  [(n,some (jM.group [⟨n+1,0,(strs s).length⟩])),(n+1,some (jM.cells ((strs s).map Cb) ⟨false,some n,0,1⟩))],2):=by
 have U:gu B0 w0 g hp nx w.drew:=H.of_heap rfl rfl rfl rfl
 obtain⟨t,ah,ad⟩:=Cf (P:=P) s.size 0 el w
 have hlen:s.size=(strs s).length:=by unfold strs;rw[Array.length_toList];rfl
 have I:gX g ((strs s).map Cb) ((strs s).map Cb):=by
  refine⟨rfl,fun i v v' e aa=>?_⟩
  rw[e]at aa;cases aa
  rw[List.getElem?_map]at e
  obtain⟨b,_,rfl⟩:=Option.map_eq_some_iff.1 e
  exact .int _ _
 have C:(s.data.map (fun b=>(.int .u8 b.toNat:Value)))++Array.replicate (t-s.size) (Value.int .u8 0)=((strs s).map Cb++List.replicate (t-s.size) (Value.int .u8 0)).toArray:=by
  rw[<-Array.toList_inj]
  simp[strs]
  intro a _;rfl
 intro fg h1 h2 hf
 have f0:=hf 0 (by show 0<2;omega)
 have f1:=hf 1 (by show 1<2;omega)
 have ae:=U.Gu f0 f1 h1 h2 I (rest:=List.replicate (t-s.size) (Value.int .u8 0)) el 1
 have hw:(w.drew.alloc (.cells ((strs s).map Cb++List.replicate (t-s.size) (Value.int .u8 0)).toArray el)).heap[w.drew.heap.size]?=some (.cells ((strs s).map Cb++List.replicate (t-s.size) (Value.int .u8 0)).toArray el):=World.alloc_heap_new _ _
 obtain⟨ag,af,R⟩:=sZ.freeze hw (.inl rfl)
 have J:(Conv.stringToBytes el s).run P w=.ok (.slice (some ⟨w.drew.heap.size,0,none⟩) (strs s).length t) ((w.drew.alloc (.cells ((strs s).map Cb++List.replicate (t-s.size) (Value.int .u8 0)).toArray el)).freeze ⟨w.drew.heap.size,((strs s).map Cb++List.replicate (t-s.size) (Value.int .u8 0)).toArray.size,none⟩ 1):=by
  unfold Conv.stringToBytes
  rw[fw ad]
  simp only
  rw[C,fw (s4 _ _ _),fw (zM hw),hlen]
  rfl
 have j:=ae.Q0 hw U.base af R
 rw[show(List.map Cb (strs s)).length=(strs s).length from List.length_map ..]at j
 refine⟨_,_,_,J,Gm.qM f1.gb _ _,?_,?_,j,?_,?_,pk.new⟩
 · intro b hb
   by_cases ab:b=n+1
   · exact .inr ⟨by omega,by show b<n+2;omega⟩
   · rw[Gm.jV _ _ _ ab]at hb;exact .inl hb
 · refine .slice (off:=0) (Gm.lQ _ _ _ _) (Nat.le_refl _) ?_
   by_cases h0:(strs s).length=t
   · exact .inl h0
   · refine .inr ⟨by omega,_,_,Gm.sx _ _ _ _,?_⟩
     simp
     omega
 · intro rb o hn
   rw[R.other rb (by have:rb<w.heap.size:=o;show rb≠w.heap.size;omega)]
   exact(sZ.alloc w.drew _).other rb (by have:rb<w.heap.size:=o;show rb≠w.heap.size;omega)
 · refine Nat.le_trans ?_ R.size
   exact(sZ.alloc w.drew _).size
theorem IW(ok:T.Ok P)(H:gu B0 w0 g hp nx w){s d:TypeId}{x x':Value}{e:pR}(h:t_ T hp s d x n=some e)(rx:fQ g x x'):
 iC B0 w0 g hp nx n w ((Go.convert s d x').run P w) e:=by
 unfold t_ at h
 split at h
 · rename_i ds k m ay o j
   cases h
   obtain rfl:=rx.kQ
   refine iC.pure H ?_ (.int _ _)
   unfold Go.convert
   rw[fw (ok.gS o w),fw (ok.gS j w),tt]
   rfl
 · rename_i ds ab o j
   cases h
   obtain rfl:=rx.kS
   refine iC.pure H ?_ (.string _)
   unfold Go.convert
   rw[fw (ok.gS o w),fw (ok.gS j w)]
   cases ds<;>rfl
 · rename_i ds el ab o j
   split at h
   · rename_i R
     cases h
     obtain rfl:=rx.kS
     have:=DR (P:=P) (n:=n) H ab el
     have e:(Go.convert s d (.string ab)).run P w=(Conv.stringToBytes el ab).run P w:=by
      unfold Go.convert
      rw[fw (ok.gS o w),fw (ok.gS j w)]
      cases ds<;>(simp only;rw[fw (ok.gS R w)])
     rw[e];exact this
   · cases h
 · rename_i el base l c o j
   split at h
   · rename_i R
     have e:∀b l c,(Go.convert s d (.slice b l c)).run P w=(Conv.bytesToString (.slice b l c)).run P w:=by
      intro b l c
      unfold Go.convert
      rw[fw (ok.gS o w),fw (ok.gS j w)]
      simp only
      rw[fw (ok.gS R w)]
     cases I:Nat.beq l 0 with
     |true=>
      rw[I]at h
      simp only[cond_true]at h
      cases h
      have I:=Nat.eq_of_beq_eq_true I
      subst I
      refine iC.pure H ?_ (.string _)
      cases rx<;>(rw[e];rfl)
     |false=>
     rw[I]at h
     simp only[cond_false]at h
     split at h
     · cases h
       obtain⟨rfl,rfl,rfl⟩:=rx.lT
       refine iC.pure H ?_ (.string _)
       rw[e];rfl
     · rename_i b off
       split at h
       · rename_i cs mt hb
         split at h
         · rename_i vs aa
           split at h
           · rename_i ae U
             cases h
             refine iC.pure H (v':=.string ⟨ae.toArray⟩) ?_ (.string _)
             rcases rx.mK with⟨a2,rfl,rfl,rfl⟩|⟨_,rb,ro,c2,hg,hl,hc,rfl⟩
             · simp[lJ]at aa
               subst aa
               simp[bytesOf]at U
               subst U
               rw[e];rfl
             · rw[e]
               obtain⟨aj,ak,al⟩:=H.loadCells (P:=P) hb hg aa
               unfold Conv.bytesToString
               simp only
               rw[fw ak]
               have:=DC (P:=P) (w:=w) vs ae U aj al ByteArray.empty
               rw[<-List.forIn_toArray]at this
               exact(fw (f:=fun s=>(pure (Value.string s):Sem Value)) this).trans (by
                show Result.ok (Value.string ⟨(ByteArray.empty.data.toList++ae).toArray⟩) w=_
                rfl)
           · cases h
         · cases h
       · cases h
     · cases h
   · cases h
 · rename_i e1 el b off l c o j
   cases J:Nat.beq s d with
   |false=>rw[J]at h;cases h
   |true=>
    rw[J]at h
    simp only[cond_true]at h
    have J:=Nat.eq_of_beq_eq_true J
    subst J
    split at h
    · rename_i cs mt R hb
      cases C:(mt.ro||Nat.beq c 0)with
      |true=>rw[C]at h;cases h
      |false=>
       rw[C]at h
       simp only[cond_false]at h
       cases h
       rw[Bool.or_eq_false_iff]at C
       obtain⟨ad,ah⟩:=C
       have e:∀a l c,(Go.convert s s (.slice (some a) l c)).run P w=(do markStringish a;pure (.slice (some a) l c):Sem Value).run P w:=by
        intro a l c
        unfold Go.convert
        rw[fw (ok.gS o w),fw (ok.gS j w)]
        simp only
        rw[fw (ok.gS R w)]
        simp only[beq_self_eq_true]
       rcases rx.mK with⟨a2,rfl,rfl,rfl⟩|⟨_,rb,ro,c2,hg,hl,hc,rfl⟩
       · cases ah
       · obtain⟨rc,aq,ar,af,au,av,ai,aw,ax⟩:=H.uG hb hg
         obtain⟨ao,an,ag⟩:=sZ.freeze af (ai ad).2
         intro fg h1 h2 hf
         refine⟨g,_,_,?_,Gm.le_refl g,fun _ h=>.inl h,.slice hg hl hc,(H.Q0 af (ai ad).1 an ag).An h1,?_,ag.size,pk.refl _ _⟩
         · rw[e,fw (zM af)];rfl
         · intro r hr hn
           exact ag.other r (fun h=>by subst h;exact hn b _ ro hb hg)
    · cases h
 · cases h
end
end
end Sw
namespace Sw
noncomputable section
open Go
inductive Tr(α:Type) where
 |nil
 |node (v:Option α) (l r:Tr α)
def Tr.WQ{α:Type}:Tr α->Nat->Option α
 |.nil,_=>none
 |.node v l r,n=>if n=1 then v else if n%2=0 then l.WQ (n/2)else r.WQ (n/2)
def Tr.yn{α:Type}(t:Tr α):Nat->Option α:=
 Tr.rec (motive:=fun _=>Nat->Option α) (fun _=>none)
  (fun v _ _ j o n=>Bool.rec (motive:=fun _=>Option α) (Nat.rec (motive:=fun _=>Option α) (j (Nat.div n 2)) (fun _ _=>o (Nat.div n 2)) (Nat.land n 1)) v (Nat.beq n 1)) t
def Tr.get{α:Type}(t:Tr α)(n:Nat):Option α:=t.yn (Nat.succ n)
def Tr.YR{α:Type}:Nat->Nat->Option α->Tr α
 |0,_,_=>.nil
 |f+1,n,o=>if n=1 then .node o .nil .nil else if n%2=0 then .node none (Tr.YR f (n/2) o) .nil else .node none .nil (Tr.YR f (n/2) o)
def Tr.mk{α:Type}(f:Nat):Nat->Option α->Tr α:=
 Nat.rec (motive:=fun _=>Nat->Option α->Tr α) (fun _ _=>.nil)
  (fun _ ih n o=>Bool.rec (motive:=fun _=>Tr α) (Nat.rec (motive:=fun _=>Tr α) (.node none (ih (Nat.div n 2) o) .nil) (fun _ _=>.node none .nil (ih (Nat.div n 2) o)) (Nat.land n 1)) (.node o .nil .nil) (Nat.beq n 1)) f
def Tr.WR{α:Type}:Tr α->Nat->Option α->Tr α
 |.nil,n,o=>Tr.mk n n o
 |.node v l r,n,o=>if n=1 then .node o l r else if n%2=0 then .node v (l.WR (n/2) o) r else .node v l (r.WR (n/2) o)
def Tr.zx{α:Type}(t:Tr α):Nat->Option α->Tr α:=
 Tr.rec (motive:=fun _=>Nat->Option α->Tr α) (fun n o=>Tr.mk n n o)
  (fun v l r I J n o=>Bool.rec (motive:=fun _=>Tr α)
    (Nat.rec (motive:=fun _=>Tr α)
      (Tr.rec (motive:=fun _=>Tr α) (.node v .nil r) (fun v' j C _ _=>.node v (.node v' j C) r) (I (Nat.div n 2) o))
      (fun _ _=>Tr.rec (motive:=fun _=>Tr α) (.node v l .nil) (fun v' j C _ _=>.node v l (.node v' j C)) (J (Nat.div n 2) o)) (Nat.land n 1))
    (.node o l r) (Nat.beq n 1)) t
def Tr.set{α:Type}(t:Tr α)(n:Nat)(o:Option α):Tr α:=t.zx (Nat.succ n) o
abbrev Ht:=Tr (jM Tm)
structure St where
 to:Tm
 ds:List Deferred
 hp:Ht
 nx:Nat
 cs:List Nat
inductive WS(α:Type) where
 |ok (a:α)
 |gm (m:Nat)
structure vQ where
 body:Code
 nt:Nat
 res:List ResultVar
abbrev R:=WS (Nat×St)
abbrev KC:=Value->Ht->Nat->List Nat->R
structure IX where
 run:List Value->Ht->Nat->List Nat->KC->R->R
structure Env where
 T:Ty
 F:FuncId->Option vQ
 M:TypeId->String->Option FuncId
 K:FuncId->Option IX
 low:Nat
structure Od where
 run:Tm->Value
def aaj:Operand->Od
 |.tmp i=>Acc.casesOn (acc i) fun g _=>⟨g⟩
 |.const v=>⟨fun _=>v⟩
 |.global g=>⟨fun _=>.pointer (some ⟨g,0,none⟩)⟩
 |.func f=>⟨fun _=>.func (.func f) #[] #[]⟩
def sP:List Operand->List Od
 |[]=>[]
 |x::xs=>aaj x::sP xs
def runs:List Od->Tm->List Value
 |[],_=>[]
 |o::os,t=>o.run t::runs os t
def yU:List (Nat×Operand)->List (Nat×Od)
 |[]=>[]
 |(i,x)::xs=>(i,aaj x)::yU xs
def tu:List (Nat×Od)->Tm->List (Nat×Value)
 |[],_=>[]
 |(i,o)::os,t=>(i,o.run t)::tu os t
def BP:Option Operand->Option Od
 |some x=>some (aaj x)
 |none=>none
def Eh:Option Od->Tm->Option Value
 |some x,t=>some (x.run t)
 |none,_=>none
structure Dc where
 run:Tm->Value->Tm
def ka:Option Nat->Dc
 |some i=>Acc.casesOn (acc i) fun _ s=>⟨s⟩
 |none=>⟨fun t _=>t⟩
def Ci:Nat->Nat->List Dc
 |0,_=>[]
 |n+1,i=>ka (some i)::Ci n (i+1)
abbrev K1:=Value->R
abbrev K2:=pR->R
def kF(o:Option Value)(j:K1):R:=match o with
 |some v=>j v
 |none=>.gm 0
def qy(o:Option pR)(j:K2):R:=match o with
 |some v=>j v
 |none=>.gm 0
def yp(o:Option tH)(j:K2):R:=match o with
 |some u=>j (undef,u,0)
 |none=>.gm 0
def bi:Builtin->Ty->Hp->Nat->List TypeId->List Value->K1->K2->R
 |.len=>fun T hp _ ts l j _=>(match ts,l with|t::_,x::_=>kF (Gt T hp t x) j|_,_=>.gm 0)
 |.append=>fun T hp n ts l _ o=>(match ts,l with|t::u::_,x::y::_=>qy (jZ T hp t u x y n) o|_,_=>.gm 0)
 |.cap=>fun T hp _ ts l j _=>(match ts,l with|t::_,x::_=>kF (Tb T hp t x) j|_,_=>.gm 0)
 |.clear=>fun T hp _ ts l _ o=>(match ts,l with|t::_,x::_=>qy (LI T hp t x) o|_,_=>.gm 0)
 |.copy=>fun T hp _ ts l _ o=>(match ts,l with|t::_,x::y::_=>qy (Pu T hp t x y) o|_,_=>.gm 0)
 |.max=>fun _ _ _ _ l j _=>kF (IU max2 l) j
 |.min=>fun _ _ _ _ l j _=>kF (IU min2 l) j
 |_=>fun _ _ _ _ _ _ _=>.gm 0
structure U6 where
 run:Ty->Hp->Nat->Tm->K1->K2->R
def xh:Op->U6
 |.move x=>Od.casesOn (aaj x) fun ex=>⟨fun _ _ _ to j _=>j (ex to)⟩
 |.assign x=>Od.casesOn (aaj x) fun ex=>⟨fun _ _ _ to j _=>j (ex to)⟩
 |.pick c a b=>Od.casesOn (aaj c) fun R=>Od.casesOn (aaj a) fun I=>Od.casesOn (aaj b) fun aa=>⟨fun _ _ _ to j _=>kF (lA (R to) (I to) (aa to)) j⟩
 |.alloc el=>⟨fun T _ n to _ C=>(match T.zero el with|some z=>C (eNew n z.cells.toList)|none=>.gm 0)⟩
 |.box _ x=>Od.casesOn (aaj x) fun ex=>⟨fun _ _ n to _ C=>C (eNew n (ex to).cells.toList)⟩
 |.build t ps=>(fun(l:List (Nat×Od))=>⟨fun T _ _ to j _=>kF (Ls T t (tu l to)) j⟩) (yU ps.toList)
 |.buildSlice t len ps=>(fun(l:List (Nat×Od))=>⟨fun T _ n to _ C=>qy (qH T t len (tu l to) n) C⟩) (yU ps.toList)
 |.load t a=>Od.casesOn (aaj a) fun I=>⟨fun T hp _ to j _=>kF (kB T hp t (I to)) j⟩
 |.store t a v=>Od.casesOn (aaj a) fun I=>Od.casesOn (aaj v) fun ev=>⟨fun T hp _ to _ C=>yp (wG T hp t (I to) (ev to)) C⟩
 |.nilCheck x=>Od.casesOn (aaj x) fun ex=>⟨fun _ _ _ to j _=>kF (D8 (ex to)) j⟩
 |.binOp op t x y _=>Od.casesOn (aaj x) fun ex=>Od.casesOn (aaj y) fun ab=>⟨fun T _ _ to j _=>kF (wy T op t x y (ex to) (ab to)) j⟩
 |.unOp op _ x=>Od.casesOn (aaj x) fun ex=>⟨fun _ _ _ to j _=>kF (WM op (ex to)) j⟩
 |.convert s d x=>Od.casesOn (aaj x) fun ex=>⟨fun T hp n to _ C=>qy (t_ T hp s d (ex to) n) C⟩
 |.makeInterface t x=>Od.casesOn (aaj x) fun ex=>⟨fun T _ _ to j _=>kF (CY T t (ex to)) j⟩
 |.makeFunc fn a b=>(fun(ad ae:List Od)=>⟨fun _ _ _ to j _=>kF (D7 fn (runs ad to).toArray (runs ae to).toArray) j⟩) (sP a.toList) (sP b.toList)
 |.makeMap t r=>(fun(o:Option Od)=>⟨fun T _ n to _ C=>qy (CZ T t (Eh o to) n) C⟩) (BP r)
 |.makeSlice t l c=>Od.casesOn (aaj l) fun el=>Od.casesOn (aaj c) fun R=>⟨fun T _ n to _ C=>qy (vP T t (el to) (R to) n) C⟩
 |.slice t x a b c=>Od.casesOn (aaj x) fun ex=>(fun(af ob ag:Option Od)=>⟨fun T hp _ to j _=>kF (sy T hp t (ex to) (Eh af to) (Eh ob to) (Eh ag to)) j⟩) (BP a) (BP b) (BP c)
 |.fieldAddr t x f=>Od.casesOn (aaj x) fun ex=>⟨fun T _ _ to j _=>kF (CX T t (ex to) f) j⟩
 |.field t x f=>Od.casesOn (aaj x) fun ex=>⟨fun T _ _ to j _=>kF (Lu T t (ex to) f) j⟩
 |.indexAddr t x i=>Od.casesOn (aaj x) fun ex=>Od.casesOn (aaj i) fun J=>⟨fun T _ _ to j _=>kF (lh T t (ex to) (J to)) j⟩
 |.index t x i=>Od.casesOn (aaj x) fun ex=>Od.casesOn (aaj i) fun J=>⟨fun T _ _ to j _=>kF (wH T t (ex to) (J to)) j⟩
 |.lookup t x i ok=>Od.casesOn (aaj x) fun ex=>Od.casesOn (aaj i) fun J=>⟨fun T hp _ to j _=>kF (o8 T hp t (ex to) (J to) ok) j⟩
 |.mapUpdate t m k v=>Od.casesOn (aaj m) fun em=>Od.casesOn (aaj k) fun ek=>Od.casesOn (aaj v) fun ev=>⟨fun T hp _ to _ C=>yp (s5 T hp t (em to) (ek to) (ev to)) C⟩
 |.insert t m k v=>Od.casesOn (aaj m) fun em=>Od.casesOn (aaj k) fun ek=>Od.casesOn (aaj v) fun ev=>⟨fun T hp _ to _ C=>yp (s5 T hp t (em to) (ek to) (ev to)) C⟩
 |.mapEntry t m k=>Od.casesOn (aaj m) fun em=>Od.casesOn (aaj k) fun ek=>⟨fun T hp _ to _ C=>qy (Ec T hp t (em to) (ek to)) C⟩
 |.entryStore _ m s v=>Od.casesOn (aaj m) fun em=>Od.casesOn (aaj s) fun es=>Od.casesOn (aaj v) fun ev=>⟨fun _ hp _ to _ C=>yp (BL hp (em to) (es to) (ev to)) C⟩
 |.range t x=>Od.casesOn (aaj x) fun ex=>⟨fun T hp n to _ C=>qy (LJ T hp t (ex to) n) C⟩
 |.entry it=>Od.casesOn (aaj it) fun U=>⟨fun _ hp _ to j _=>kF (LK hp (U to)) j⟩
 |.typeAssert x _ a ok=>Od.casesOn (aaj x) fun ex=>⟨fun T _ _ to j _=>kF (BM T (ex to) a ok) j⟩
 |.extract x i=>Od.casesOn (aaj x) fun ex=>⟨fun _ _ _ to j _=>kF (Gs (ex to) i) j⟩
 |_=>⟨fun _ _ _ _ _ _=>.gm 0⟩
def zz(low:Nat):tH->Ht->Option Ht
 |[],h=>some h
 |(b,o)::us,h=>bif Nat.ble low b then zz low us (h.set b o)else none
structure Fm where
 fn:FuncId
 nt:Nat
 WT:Option Nat
abbrev Rec:=Fm->Code->St->R
def vf:List Tmp->List Value->Tm->Option Tm
 |[],[],t=>some t
 |p::ps,v::vs,t=>vf ps vs ((ka (some p)).run t v)
 |_,_,_=>none
def setArgs:List Dc->List Value->Tm->Option Tm
 |_,[],t=>some t
 |d::ds,v::vs,t=>setArgs ds vs (d.run t v)
 |[],_::_,_=>none
def yV:List Dc:=Ci 64 0
def mH(T:Ty)(hp:Hp)(t:Tm):List ResultVar->Option (List Value)
 |[]=>some []
 |.tmp i::rs=>(match mH T hp t rs with
  |some vs=>some ((aaj (.tmp i)).run t::vs)
  |none=>none)
 |.cell a ty::rs=>(match kB T hp ty ((aaj (.tmp a)).run t),mH T hp t rs with
  |some v,some vs=>some (v::vs)
  |_,_=>none)
def qz:List Value->Value
 |[v]=>v
 |vs=>.tuple vs.toArray
def yq(low:Nat):List Deferred->Ht->Option Ht
 |[],h=>some h
 |d::ds,h=>(match d.target with
  |.collected r=>(match h.get r with
   |some (.deferred (some []))=>bif Nat.ble low r then yq low ds (h.set r (some (.deferred none)))else none
   |_=>none)
  |_=>none)
def sA(rec:Rec)(f:FuncId)(fi:vQ)(l:List Value)(hp:Ht)(nx:Nat)(cs:List Nat)(k:List Deferred->Tm->Ht->Nat->List Nat->R):R:=
 bif Nat.ble l.length fi.nt then(match setArgs yV l Tm.undef with
  |some t=>(match rec ⟨f,fi.nt,none⟩ fi.body ⟨t,[],hp,nx,cs⟩with
   |.ok (o,⟨to,ds,hp,nx,cs⟩)=>bif Nat.ble o 1 then k ds to hp nx cs else .gm 0
   |.gm m=>.gm m)
  |none=>.gm 0)else .gm 0
def yr(T:Ty)(fi:vQ)(to:Tm)(k:KC)(hp:Ht)(nx:Nat)(cs:List Nat):R:=
 match mH T hp.get to fi.res with
 |some vs=>k (qz vs) hp nx cs
 |none=>.gm 0
def Ei(e:Env)(rec:Rec)(f:FuncId)(l:List Value)(hp:Ht)(nx:Nat)(cs:List Nat)(k:KC):R:=
 match e.F f with
 |some fi=>sA rec f fi l hp nx cs (fun ds to hp nx cs=>match yq e.low ds hp with
   |some h=>yr e.T fi to k h nx cs
   |none=>.gm 0)
 |none=>.gm 0
def Q1(T:Ty)(nt:Nat)(o1 o2:List Oper)(x:Nat):Bool:=match o1,o2 with
 |[⟨some a,.call ⟨.builtin .recover,_,_⟩,_,_,_,none⟩,⟨some b,.assign (.tmp a'),_,_,_,none⟩],[⟨some c,.move (.tmp b'),_,_,_,none⟩,⟨some d,.binOp .neq t (.tmp j) (.const .nilIface) _,_,_,_,none⟩]=>
  (Nat.beq a a'&&(Nat.beq b b'&&(Nat.beq c j&&Nat.beq d x)))&&((Nat.blt a nt&&(Nat.blt b nt&&(Nat.blt c nt&&Nat.blt d nt)))&&
    (match wy T .neq t (.tmp j) (.const .nilIface) .nilIface .nilIface with|some (.bool false)=>true|_=>false))
 |_,_=>false
def HA(T:Ty)(fi:vQ):Bool:=match fi.res,fi.body with
 |[],.seq (.region _ o1 false) (.seq (.region _ o2 false) (.cond (.tmp x) _ .skip))=>Q1 T fi.nt o1.toList o2.toList x
 |_,_=>false
def lI(e:Env)(rec:Rec):List Deferred->Ht->Nat->List Nat->(Ht->Nat->List Nat->R)->R
 |[],hp,nx,cs,k=>k hp nx cs
 |d::ds,hp,nx,cs,k=>(match d.target with
  |.collected r=>(match hp.get r with
   |some (.deferred (some []))=>bif Nat.ble e.low r then lI e rec ds (hp.set r (some (.deferred none))) nx cs k else .gm 0
   |_=>.gm 0)
  |.fn (.func f) cap=>(match e.F f with
   |some fi=>bif HA e.T fi then lI e rec ds hp nx cs k else Ei e rec f (d.args.toList++cap.toList) hp nx cs (fun _ hp nx cs=>lI e rec ds hp nx cs k)
   |none=>.gm 0)
  |_=>.gm 0)
def tJ(e:Env)(rec:Rec)(f:FuncId)(l:List Value)(hp:Ht)(nx:Nat)(cs:List Nat)(k:KC):R:=
 match e.F f with
 |some fi=>sA rec f fi l hp nx cs (fun ds to hp nx cs=>lI e rec ds hp nx cs (fun hp nx cs=>yr e.T fi to k hp nx cs))
 |none=>.gm 0
def mP(e:Env)(rec:Rec)(f:FuncId)(l:List Value)(hp:Ht)(nx:Nat)(cs:List Nat)(k:KC):R:=
 match e.K f with
 |some j=>j.run l hp nx cs k (tJ e rec f l hp nx cs k)
 |none=>tJ e rec f l hp nx cs k
def wJ(o:Nat):Option Code:=match o with
 |0=>none
 |1=>some .ret
 |k+2=>some (.exit k)
def zZ(c:Option Code):Option Nat:=match c with
 |none=>some 0
 |some .ret=>some 1
 |some (.exit k)=>some (k+2)
 |_=>none
def p_(e:Env)(rec:Rec)(l:Nat)(n9:List Value)(hp:Ht)(nx:Nat)(cs:List Nat)(k:KC):R:=
 match hp.get l with
 |some (.loop r)=>bif Nat.ble e.low l then
   (match vf r.params n9 r.tmps with
   |some t=>(match rec ⟨r.fn,r.nt,some l⟩ r.assign ⟨t,[],hp,nx,cs⟩with
    |.ok (o,⟨to,ds,hp,nx,cs⟩)=>bif Nat.beq o 0 then
      (match hp.get l with
      |some (.loop r1)=>(match r1.state with
       |.ready=>(match rec ⟨r.fn,r.nt,some l⟩ r.body ⟨to,ds,hp.set l (some (.loop {r1 with state:=.busy})),nx,cs⟩with
        |.ok (o2,⟨_,ds,hp,nx,cs⟩)=>(match hp.get l,ds with
         |some (.loop r2),[]=>k (.bool (Nat.beq o2 0)) (hp.set l (some (.loop {r2 with state:=(bif Nat.beq o2 0 then .ready else .done),pending:=wJ o2}))) nx cs
         |_,_=>.gm 0)
        |.gm m=>.gm m)
       |_=>.gm 0)
      |_=>.gm 0)else .gm 0
    |.gm m=>.gm m)
   |none=>.gm 0)else .gm 0
 |_=>.gm 0
def Bo(e:Env)(rec:Rec)(f:Value)(l:List Value)(hp:Ht)(nx:Nat)(cs:List Nat)(k:KC):R:=
 match f with
 |.func (.func f) a b=>mP e rec f (a.toList++l++b.toList) hp nx cs k
 |.func (.yield y) _ _=>p_ e rec y l hp nx cs k
 |_=>.gm 0
def Fp(e:Env)(rec:Rec)(r:Value)(name:String)(l:List Value)(hp:Ht)(nx:Nat)(cs:List Nat)(k:KC):R:=
 match r with
 |.iface t v=>(match e.M t name with
  |some f=>mP e rec f (v::l) hp nx cs k
  |none=>.gm 0)
 |_=>.gm 0
def BQ:Nat->List (Option MapEntry)->Option (Option MapEntry)
 |_,[]=>none
 |0,x::_=>some x
 |n+1,_::xs=>BQ n xs
def ua(low:Nat)(it:Value)(hp:Ht)(nx:Nat)(cs:List Nat)(k:KC):R:=
 match it with
 |.pointer (some ⟨r,0,_⟩)=>(match hp.get r with
  |some (.mapIter none _ _ _)=>k (.tuple #[.bool false]) hp nx cs
  |some (.mapIter (some m) since seen last)=>bif Nat.ble low r then(match Fo hp.get m since seen last with
   |some (l,clock)=>
    let go:=fun(x:Option MapEntry) (cs:List Nat)=>match x with
     |some x=>k (.tuple #[.bool true,x.key,x.val]) (hp.set r (some (.mapIter (some m) since (seen++[x.born]) clock))) nx cs
     |none=>k (.tuple #[.bool false]) hp nx cs
    match l with
    |[x]=>go x cs
    |l=>match cs with
     |[]=>.gm l.length
     |c::cs=>match BQ c l with
      |some x=>go x cs
      |none=>.gm 0
   |none=>.gm 0)else .gm 0
  |_=>.gm 0)
 |_=>.gm 0
structure YS where
 run:Env->Rec->Tm->Ht->Nat->List Nat->KC->R
def WU(ts:List TypeId)(l:List Od):Callee->YS
 |.value f=>Od.casesOn (aaj f) fun j=>⟨fun e rec to hp nx cs k=>Bo e rec (j to) (runs l to) hp nx cs k⟩
 |.invoke r m=>Od.casesOn (aaj r) fun er=>⟨fun e rec to hp nx cs k=>Fp e rec (er to) m (runs l to) hp nx cs k⟩
 |.builtin b=>⟨fun e _ to hp nx cs k=>bi b e.T hp.get nx ts (runs l to) (fun v=>k v hp nx cs) (fun f=>match f with
   |(v,jA,m)=>match zz e.low jA hp with
    |some h=>k v h (nx+m) cs
    |none=>.gm 0)⟩
def yu(c:Call)(fm:Fm)(to:Tm):Option Deferred:=
 match fm.WT,c.callee with
  |none,.value f=>(match (aaj f).run to with
   |.func (.func f) a b=>some ⟨.fn (.func f) b,(a.toList++runs (sP c.args.toList) to).toArray⟩
   |_=>none)
  |_,_=>none
structure Cl where
 run:Env->Rec->Fm->Tm->List Deferred->Ht->Nat->List Nat->(St->R)->R
def tw(j:Tm->Value->Tm)(low:Nat)(to:Tm)(ds:List Deferred)(hp:Ht)(nx:Nat)(cs:List Nat)(k:St->R)(f:pR):R:=
 match f with
 |(v,jA,m)=>match zz low jA hp with
  |some h=>k ⟨j to v,ds,h,nx+m,cs⟩
  |none=>.gm 0
def qa:Op->Option Nat->Cl
 |.call c=>fun d=>Dc.casesOn (ka d) fun j=>YS.casesOn (WU c.argTypes.toList (sP c.args.toList) c.callee) fun run=>⟨fun e rec _ to ds hp nx cs k=>run e rec to hp nx cs (fun v hp nx cs=>k ⟨j to v,ds,hp,nx,cs⟩)⟩
 |.defer c=>fun d=>Dc.casesOn (ka d) fun j=>⟨fun _ _ fm to ds hp nx cs k=>(match yu c fm to with
  |some x=>k ⟨j to undef,x::ds,hp,nx,cs⟩
  |none=>.gm 0)⟩
 |.next it false=>fun d=>Dc.casesOn (ka d) fun j=>Od.casesOn (aaj it) fun o=>⟨fun e _ _ to ds hp nx cs k=>ua e.low (o to) hp nx cs (fun v hp nx cs=>k ⟨j to v,ds,hp,nx,cs⟩)⟩
 |op=>fun d=>Dc.casesOn (ka d) fun j=>U6.casesOn (xh op) fun run=>⟨fun e _ _ to ds hp nx cs k=>run e.T hp.get nx to (fun v=>k ⟨j to v,ds,hp,nx,cs⟩) (tw j e.low to ds hp nx cs k)⟩
def mQ(w:Bool)(v:Value):Bool:=
 match v with
 |.bool b=>(bif b then w else !w)
 |_=>false
def kn(all:List Oper)(j:Nat):Option Od:=
 match m_ j all with
  |some o=>BP (match o.dst with|some d=>some (.tmp d)|none=>none)
  |none=>none
def iH(all:List Oper)(o:Oper):Cl:=
 match o with
 |⟨dst,op,_,_,_,guard⟩=>match guard with
  |none=>qa op dst
  |some (j,w)=>(match kn all j with
   |some g=>Cl.casesOn (qa op dst) fun run=>Dc.casesOn (ka dst) fun I=>Od.casesOn g fun C=>
    ⟨fun e rec fm to ds hp nx cs k=>Bool.casesOn (mQ w (C to)) (k ⟨I to undef,ds,hp,nx,cs⟩) (run e rec fm to ds hp nx cs k)⟩
   |none=>⟨fun _ _ _ _ _ _ _ _ _=>.gm 0⟩)
def gY(all:List Oper):List Oper->List Cl
 |[]=>[]
 |o::os=>iH all o::gY all os
def WW:List Cl->Env->Rec->Fm->St->R
 |[],_,_,_,s=>.ok (0,s)
 |c::os,e,rec,fm,s=>match s with
  |⟨to,ds,hp,nx,cs⟩=>c.run e rec fm to ds hp nx cs (fun s=>WW os e rec fm s)
def vR(l:List Cl):Env->Rec->Fm->St->R:=
 List.rec (motive:=fun _=>Env->Rec->Fm->St->R) (fun _ _ _ s=>.ok (0,s))
  (fun c _ ih e rec fm s=>St.rec (motive:=fun _=>R) (fun to ds hp nx cs=>Cl.rec (motive:=fun _=>R) (fun run=>run e rec fm to ds hp nx cs (fun s=>ih e rec fm s)) c) s) l
def U7(o:Option pR)(j:K1):R:=match o with
 |some (v,[],0)=>j v
 |_=>.gm 0
structure OJ where
 run:Ty->Hp->Nat->Tm->K1->R
def Bp:Op->OJ
 |.convert s d x=>Od.casesOn (aaj x) fun ex=>⟨fun T hp n to j=>U7 (t_ T hp s d (ex to) n) j⟩
 |_=>⟨fun _ _ _ _ _=>.gm 0⟩
def Ej(op:Op)(dst:Option Nat):Cl:=Dc.casesOn (ka dst) fun j=>OJ.casesOn (Bp op) fun run=>
 ⟨fun e _ _ to ds hp nx cs k=>run e.T hp.get nx to (fun v=>k ⟨j to v,ds,hp,nx,cs⟩)⟩
def Gx(all:List Oper)(o:Oper):Cl:=
 match o with
 |⟨dst,op,_,_,_,guard⟩=>match guard with
  |none=>Ej op dst
  |some (j,w)=>(match kn all j with
   |some g=>Cl.casesOn (Ej op dst) fun run=>Dc.casesOn (ka dst) fun I=>Od.casesOn g fun C=>
    ⟨fun e rec fm to ds hp nx cs k=>Bool.casesOn (mQ w (C to)) (k ⟨I to undef,ds,hp,nx,cs⟩) (run e rec fm to ds hp nx cs k)⟩
   |none=>⟨fun _ _ _ _ _ _ _ _ _=>.gm 0⟩)
def sT(fl:Bool)(all:List Oper)(o:Oper):Cl:=bif fl&&pz o.op then Gx all o else iH all o
def ub(f:Value->Value->Bool):List Value->List Value->Bool
 |[],[]=>true
 |x::xs,y::j=>f x y&&ub f xs j
 |_,_=>false
def kY:Nat->Value->Value->Bool
 |_,.bool a,.bool b=>(bif a then b else !b)
 |_,.int k a,.int k' b=>vO k k'&&km a b
 |_,.string a,.string b=>wm (strs a) (strs b)
 |_,.pointer none,.pointer none=>true
 |_,.pointer (some ⟨b,o,none⟩),.pointer (some ⟨b',o',none⟩)=>Nat.beq b b'&&Nat.beq o o'
 |_,.slice none l c,.slice none C j=>Nat.beq l C&&Nat.beq c j
 |_,.slice (some ⟨b,o,none⟩) l c,.slice (some ⟨b',o',none⟩) C j=>Nat.beq b b'&&(Nat.beq o o'&&(Nat.beq l C&&Nat.beq c j))
 |_,.map none,.map none=>true
 |_,.map (some a),.map (some b)=>Nat.beq a b
 |_,.nilFunc,.nilFunc=>true
 |_,.nilIface,.nilIface=>true
 |n+1,.func (.func f) x y,.func (.func f') x' y'=>Nat.beq f f'&&(ub (kY n) x.toList x'.toList&&ub (kY n) y.toList y'.toList)
 |n+1,.func (.yield f) x y,.func (.yield f') x' y'=>Nat.beq f f'&&(ub (kY n) x.toList x'.toList&&ub (kY n) y.toList y'.toList)
 |n+1,.iface t v,.iface I v'=>Nat.beq t I&&kY n v v'
 |n+1,.agg x,.agg y=>ub (kY n) x.toList y.toList
 |n+1,.tuple x,.tuple y=>ub (kY n) x.toList y.toList
 |_,_,_=>false
def yv(op:Op):OJ:=
 match op with
 |.call c=>(match c.callee with
  |.builtin b=>(fun(ts:List TypeId) (l:List Od)=>(⟨fun T hp n to j=>bi b T hp n ts (runs l to) j (fun _=>.gm 0)⟩:OJ)) c.argTypes.toList (sP c.args.toList)
  |_=>⟨fun _ _ _ _ _=>.gm 0⟩)
 |op=>U6.casesOn (xh op) fun run=>⟨fun T hp n to j=>run T hp n to j (fun _=>.gm 0)⟩
def uR(fl:Bool)(op:Op):OJ:=bif fl&&pz op then Bp op else yv op
def wz:Value->Option Nat
 |.pointer (some ⟨b,0,none⟩)=>some b
 |.slice (some ⟨b,0,none⟩) _ _=>some b
 |_=>none
def Cj(m:gl):Bool:=!m.ro&&((match m.mu with|none=>true|some _=>false)&&(Nat.beq m.base 0&&Nat.beq m.unit 0))
structure s6 where
 run:Ty->Ht->Nat->Tm->R->R
def Te(fl:Bool)(op:Op)(d:Option Nat):s6:=
 OJ.casesOn (uR fl op) fun j=>match d with
  |some d=>Acc.casesOn (acc d) fun gd _=>⟨fun T hp n to k=>j T hp.get n to (fun v=>bif kY 8 v (gd to)then k else .gm 0)⟩
  |none=>⟨fun T hp n to k=>j T hp.get n to (fun _=>k)⟩
def Tf(op:Op)(d:Option Nat):s6:=
 U6.casesOn (xh op) fun run=>match d with
  |some d=>Acc.casesOn (acc d) fun gd _=>⟨fun T hp _ to k=>match wz (gd to)with
   |some m=>run T hp.get m to (fun _=>.gm 0) (fun f=>match f with
    |(v,jA,_)=>match jA,hp.get m with
     |[(_,some (.cells cs _))],some (.cells lv j)=>bif kY 8 v (gd to)&&(ub (kY 8) cs lv&&Cj j)then k else .gm 0
     |_,_=>.gm 0)
   |none=>.gm 0⟩
  |none=>⟨fun _ _ _ _ _=>.gm 0⟩
def wW(fl:Bool)(o:Oper):s6:=bif Nat.beq (kA fl o.op) 1 then Tf o.op o.dst else Te fl o.op o.dst
def Ao(d:Option Nat)(to:Tm):Bool:=match d with
 |some d=>kY 8 undef (to.get d)
 |none=>true
def Gy(fl:Bool)(all:List Oper)(o:Oper):s6:=
 match o.guard with
 |none=>wW fl o
 |some (j,w)=>match kn all j with
  |some g=>s6.casesOn (wW fl o) fun run=>Od.casesOn g fun C=>⟨fun T hp n to k=>Bool.casesOn (mQ w (C to)) (bif Ao o.dst to then k else .gm 0) (run T hp n to k)⟩
  |none=>⟨fun _ _ _ _ _=>.gm 0⟩
def WX:Cl:=⟨fun _ _ _ _ _ _ _ _ _=>.gm 0⟩
def pD(fl:Bool)(all:List Oper)(i:Nat):Cl:=match m_ i all with
 |some o=>sT fl all o
 |none=>WX
def uV(fl:Bool)(all:List Oper)(i:Nat):s6:=match m_ i all with
 |some o=>Gy fl all o
 |none=>⟨fun _ _ _ _ _=>.gm 0⟩
structure JO where
 ne:List Cl
 pQ:List s6
 ln:Option Cl
def zN(fl:Bool)(all:List Oper):List vF->List JO
 |[]=>[]
 |s::j=>⟨s.ne.map (pD fl all),s.pQ.map (uV fl all),s.ln.map (pD fl all)⟩::zN fl all j
def yw:List Cl->Env->Rec->Fm->St->(St->R)->R
 |[],_,_,_,s,k=>k s
 |c::l,e,rec,fm,s,k=>match s with
  |⟨to,ds,hp,nx,cs⟩=>c.run e rec fm to ds hp nx cs (fun s=>yw l e rec fm s k)
def wX:List s6->Env->St->R->R
 |[],_,_,k=>k
 |c::l,e,s,k=>match s with
  |⟨to,ds,hp,nx,cs⟩=>c.run e.T hp nx to (wX l e ⟨to,ds,hp,nx,cs⟩ k)
def oE:List JO->Env->Rec->Fm->St->R
 |[],_,_,_,_=>.gm 0
 |s::j,e,rec,fm,st=>yw s.ne e rec fm st (fun st1=>wX s.pQ e st1 (match s.ln with
  |none=>.ok (0,st1)
  |some c=>match st1 with
   |⟨to,ds,hp,nx,cs⟩=>c.run e rec fm to ds hp nx cs (fun st2=>oE j e rec fm st2)))
structure CC where
 run:Env->Rec->Fm->St->R
def X3:Code->CC
 |.skip=>⟨fun _ _ _ s=>.ok (0,s)⟩
 |.label _=>⟨fun _ _ _ s=>.ok (0,s)⟩
 |.seq a b=>⟨fun _ rec fm s=>(match rec fm a s with
  |.ok (o,s1)=>(match o with
   |0=>rec fm b s1
   |o+1=>.ok (o+1,s1))
  |.gm m=>.gm m)⟩
 |.cond x a b=>Od.casesOn (aaj x) fun ex=>⟨fun _ rec fm s=>(match s with
  |⟨to,ds,hp,nx,cs⟩=>match ex to with
   |.bool c=>(match c with
    |true=>rec fm a ⟨to,ds,hp,nx,cs⟩
    |false=>rec fm b ⟨to,ds,hp,nx,cs⟩)
   |_=>.gm 0)⟩
 |.block id b=>⟨fun _ rec fm s=>(match rec fm b s with
  |.ok (o,s1)=>bif Nat.beq o (id+2)then .ok (0,s1)else .ok (o,s1)
  |.gm m=>.gm m)⟩
 |.loop b=>⟨fun _ rec fm s=>(match rec fm b s with
  |.ok (o,s1)=>(match o with
   |0=>rec fm (.loop b) s1
   |o+1=>.ok (o+1,s1))
  |.gm m=>.gm m)⟩
 |.scope b=>⟨fun _ rec fm s=>rec fm b s⟩
 |.exit id=>⟨fun _ _ _ s=>.ok (id+2,s)⟩
 |.ret=>⟨fun _ _ _ s=>.ok (1,s)⟩
 |.region _ ops draw=>(match draw with
  |false=>⟨fun e rec fm s=>vR (gY ops.toList ops.toList) e rec fm s⟩
  |true=>(fun l=>⟨fun e rec fm s=>oE l e rec fm s⟩) (zN (vH ops.toList) ops.toList (xD (vH ops.toList) ops.toList).rT))
 |.rangeFunc f params assign body=>⟨fun e rec fm s=>(match s with
  |⟨to,ds,hp,nx,cs⟩=>
   (match (match fm.WT with
     |none=>some (nx,nx+1,hp.set nx (some (.deferred (some []))),[(⟨.collected nx,#[]⟩:Deferred)])
     |some l=>(match hp.get l with
      |some (.loop r)=>some (r.defers,nx,hp,[])
      |_=>none))with
   |some (j,l,h,mark)=>
    Bo e rec ((aaj f).run to) [.func (.yield l) #[] #[]] (h.set l (some (.loop ⟨.ready,none,fm.fn,to,fm.nt,params.toList,assign,body,j⟩))) (l+1) cs (fun _ hp nx cs=>match hp.get l with
     |some (.loop r)=>(match r.state with
      |.busy=>.gm 0
      |_=>(match zZ r.pending with
       |some o=>.ok (o,⟨to,mark++ds,hp.set l (some (.loop {r with state:=.exhausted})),nx,cs⟩)
       |none=>.gm 0))
     |_=>.gm 0)
   |none=>.gm 0))⟩
 |_=>⟨fun _ _ _ _=>.gm 0⟩
def uW(c:Code)(e:Env)(rec:Rec)(fm:Fm)(s:St):R:=CC.casesOn (motive:=fun _=>R) (X3 c) fun run=>run e rec fm s
def ZU(g:Rec->Rec):Nat->Rec
 |0=>fun _ _ _=>.gm 0
 |n+1=>g (ZU g n)
def iter(g:Rec->Rec)(n:Nat):Rec:=Nat.rec (motive:=fun _=>Rec) (fun _ _ _=>.gm 0) (fun _ ih=>g ih) n
def ev(e:Env)(n:Nat):Rec:=iter (fun rec fm c s=>uW c e rec fm s) n
end
end Sw
namespace Sw
noncomputable section
open Go Go.RowKit
def HB:Result Next->Result Value
 |.ok (.value v) w=>.ok v w
 |.ok .skip w=>.ok undef w
 |.ok _ w=>.halt (.stuck "") w
 |.halt h w=>.halt h w
section
variable {T:Ty}{P:Program}{B0:Nat}{w0:World}{g:Gm}{hp:Hp}{nx n:Nat}{w:World}
theorem WY{r:Result Next}{v:Value}{w:World}(h:HB r=.ok v w):r=.ok (.value v) w\/(r=.ok .skip w/\v=undef):=by
 unfold HB at h
 split at h<;>first|(cases h;first|exact .inl rfl|exact .inr ⟨rfl,rfl⟩)|cases h
theorem PC(s:Sem Value)(w:World):HB ((do pure (Next.value (<-s)):Sem Next).run P w)=s.run P w:=by
 show HB ((s >>= fun x=>pure (Next.value x)).run P w)=_
 rw[Sem.run_bind]
 cases s.run P w<;>rfl
theorem X4(s:Sem Unit)(w:World):HB ((do s;pure Next.skip:Sem Next).run P w)=(do s;pure undef:Sem Value).run P w:=by
 show HB ((s >>= fun _=>pure Next.skip).run P w)=(s >>= fun _=>pure undef).run P w
 rw[Sem.run_bind,Sem.run_bind]
 cases s.run P w<;>rfl
def nF(P:Program)(B0:Nat)(w0:World)(g:Gm)(hp:Hp)(nx n:Nat)(w:World)(r:Result Next)(f:pR):Prop:=iC B0 w0 g hp nx n w (HB r) f
theorem nF.v{s:Sem Value}{f:pR}(h:iC B0 w0 g hp nx n w (s.run P w) f):nF P B0 w0 g hp nx n w ((do pure (Next.value (<-s)):Sem Next).run P w) f:=by
 unfold nF;rw[PC];exact h
theorem nF.u{s:Sem Unit}{f:pR}(h:iC B0 w0 g hp nx n w ((do s;pure undef:Sem Value).run P w) f):nF P B0 w0 g hp nx n w ((do s;pure Next.skip:Sem Next).run P w) f:=by
 unfold nF;rw[X4];exact h
def kP(Q:pR->Prop)(r:List Nat->R)(o:List Nat->K1)(j:List Nat->K2):Prop:=(∀i,∃m,r i=.gm m)\/(∃v,(∀i,r i=o i v)/\Q (v,[],0))\/∃f,(∀i,r i=j i f)/\Q f
theorem kP.kF{Q:pR->Prop}{o:Option Value}{j:List Nat->K1}{C:List Nat->K2}(h:∀v,o=some v->Q (v,[],0)):kP Q (fun i=>kF o (j i)) j C:=by
 cases o with
 |none=>exact .inl fun _=>⟨0,rfl⟩
 |some v=>exact .inr (.inl ⟨v,fun _=>rfl,h v rfl⟩)
theorem kP.qy{Q:pR->Prop}{o:Option pR}{C:List Nat->K1}{j:List Nat->K2}(h:∀f,o=some f->Q f):kP Q (fun i=>qy o (j i)) C j:=by
 cases o with
 |none=>exact .inl fun _=>⟨0,rfl⟩
 |some v=>exact .inr (.inr ⟨v,fun _=>rfl,h v rfl⟩)
theorem kP.yp{Q:pR->Prop}{o:Option tH}{C:List Nat->K1}{j:List Nat->K2}(h:∀u,o=some u->Q (undef,u,0)):kP Q (fun i=>yp o (j i)) C j:=by
 cases o with
 |none=>exact .inl fun _=>⟨0,rfl⟩
 |some u=>exact .inr (.inr ⟨_,fun _=>rfl,h u rfl⟩)
def uX(g:Gm)(to:Tm)(ρ:Operand->Value)(l:List Operand):Prop:=∀x∈l,fQ g ((aaj x).run to) (ρ x)
theorem yx{to:Tm}{ρ:Operand->Value}:∀(l:List Operand),uX g to ρ l->gX g (runs (sP l) to) (l.map ρ)
 |[],_=>gX.nil g
 |x::l,h=>gX.cons (h x (List.mem_cons_self ..)) (yx l fun y hy=>h y (List.mem_cons_of_mem _ hy))
theorem CV.cons{i:Nat}{v v':Value}{x x':List (Nat×Value)}(h:fQ g v v')(k:CV g x x'):CV g ((i,v)::x) ((i,v')::x'):=
 ⟨by simp[k.1],fun j p C e o=>by
   cases j with
   |zero=>simp at e o;subst e;subst o;exact⟨rfl,h⟩
   |succ j=>simp at e o;exact k.2 j p C e o⟩
theorem Ek{to:Tm}{ρ:Operand->Value}:∀(l:List (Nat×Operand)),uX g to ρ (l.map (·.2))->CV g (tu (yU l) to) (l.map fun p=>(p.1,ρ p.2))
 |[],_=>⟨rfl,fun i p j e _=>by simp[yU,tu]at e⟩
 |(i,x)::l,h=>CV.cons (h x (by simp)) (Ek l fun y hy=>h y (by simp at hy⊢;exact .inr hy))
theorem C0{to:Tm}{ρ:Operand->Value}(o:Option Operand)(h:uX g to ρ o.toList):BK g (Eh (BP o) to) (o.map ρ):=by
 cases o with
 |none=>trivial
 |some x=>exact h x (by simp)
end
end
end Sw
namespace Sw
noncomputable section
open Go Go.RowKit
section
variable {T:Ty}{P:Program}{B0:Nat}{w0:World}{g:Gm}{hp:Hp}{nx n:Nat}{w:World}
theorem PD(H:gu B0 w0 g hp nx w){dst:Option Tmp}{ty:TypeId}{pos:String}{after:Array Edge}{guard:Option (Nat×Bool)}{ρ:Operand->Value}{c a b:Operand}{I o C v:Value}
 (h:lA I o C=some v) (rc:fQ g I (ρ c)) (J:fQ g o (ρ a)) (rb:fQ g C (ρ b)):nF P B0 w0 g hp nx n w ((execOp ρ ⟨dst,.pick c a b,ty,pos,after,guard⟩).run P w) (v,[],0):=by
 have go:∀(j:Bool) (v':Value),ρ c=.bool j->(if j=true then ρ a else ρ b)=v'->fQ g v v'->nF P B0 w0 g hp nx n w ((execOp ρ ⟨dst,.pick c a b,ty,pos,after,guard⟩).run P w) (v,[],0):=by
  intro j v' h1 h2 h3
  refine iC.pure H (v':=v') ?_ h3
  simp only[execOp]
  rw[h1,<-h2]
  rfl
 unfold lA at h
 split at h
 · cases h
   exact go true _ rc.rK rfl J
 · cases h
   exact go false _ rc.rK rfl rb
 · cases h
theorem IZ(H:gu B0 w0 g hp nx w){dst:Option Tmp}{ty:TypeId}{pos:String}{after:Array Edge}{guard:Option (Nat×Bool)}{ρ:Operand->Value}{x:Operand}{j v:Value}
 (h:D8 j=some v) (rx:fQ g j (ρ x)):nF P B0 w0 g hp nx n w ((execOp ρ ⟨dst,.nilCheck x,ty,pos,after,guard⟩).run P w) (v,[],0):=by
 have go:(execOp ρ ⟨dst,.nilCheck x,ty,pos,after,guard⟩).run P w=.ok (.value (ρ x)) w->fQ g v (ρ x)->nF P B0 w0 g hp nx n w ((execOp ρ ⟨dst,.nilCheck x,ty,pos,after,guard⟩).run P w) (v,[],0):=by
  intro h1 h2
  rw[h1]
  exact iC.pure H rfl h2
 unfold D8 at h
 split at h
 · cases h
   refine go ?_ rx
   obtain⟨_,rb,ro,_,e⟩:=rx.sn
   simp only[execOp];rw[e];rfl
 · cases h
   refine go ?_ rx
   obtain⟨_,_,e,_⟩:=rx.Gi
   simp only[execOp];rw[e];rfl
 · cases h
   refine go ?_ rx
   simp only[execOp]
   generalize ρ x=r at rx
   cases rx
   rfl
 · cases h
   refine go ?_ rx
   obtain⟨_,e,_⟩:=rx.xe
   simp only[execOp];rw[e];rfl
 · cases h
theorem JP(ok:T.Ok P)(cl:T.B9)(H:gu B0 w0 g hp nx w){o:Oper}{to:Tm}{ρ:Operand->Value}(j:uX g to ρ o.op.operands.toList)(ab:List Nat->K1)(aa:List Nat->K2):
 kP (nF P B0 w0 g hp nx n w ((execOp ρ o).run P w)) (fun i=>(xh o.op).run T hp n to (ab i) (aa i)) ab aa:=by
 obtain⟨dst,op,ty,pos,after,guard⟩:=o
 simp only at j
 cases op with
 |move x=>
  have rx:=j x (by simp[Op.operands])
  exact .inr (.inl ⟨_,fun _=>rfl,iC.pure H rfl rx⟩)
 |assign x=>
  have rx:=j x (by simp[Op.operands])
  exact .inr (.inl ⟨_,fun _=>rfl,iC.pure H rfl rx⟩)
 |pick c a b=>
  have rc:=j c (by simp[Op.operands])
  have C:=j a (by simp[Op.operands])
  have rb:=j b (by simp[Op.operands])
  refine kP.kF fun v h=>?_
  exact PD H h rc C rb
 |load t a=>
  have C:=j a (by simp[Op.operands])
  refine kP.kF fun v h=>?_
  obtain⟨v',h1,h2⟩:=FQ (P:=P) ok H h C
  exact nF.v (iC.pure H h1 h2)
 |binOp op t x y ah=>
  have rx:=j x (by simp[Op.operands])
  have ag:=j y (by simp[Op.operands])
  refine kP.kF fun v h=>?_
  exact nF.v (Hv ok H h rx ag)
 |unOp op t x=>
  have rx:=j x (by simp[Op.operands])
  refine kP.kF fun v h=>?_
  exact nF.v (QX H h rx)
 |box el x=>
  have rx:=j x (by simp[Op.operands])
  exact .inr (.inr ⟨_,fun _=>rfl,nF.v (Pl H rx)⟩)
 |convert s d x=>
  have rx:=j x (by simp[Op.operands])
  refine kP.qy fun v h=>?_
  exact nF.v (IW ok H h rx)
 |makeInterface t x=>
  have rx:=j x (by simp[Op.operands])
  refine kP.kF fun v h=>?_
  exact nF.v (Gr ok H h rx)
 |makeSlice t l c=>
  have rl:=j l (by simp[Op.operands])
  have rc:=j c (by simp[Op.operands])
  refine kP.qy fun v h=>?_
  exact nF.v (Gw ok H h rl rc)
 |fieldAddr t x f=>
  have rx:=j x (by simp[Op.operands])
  refine kP.kF fun v h=>?_
  exact nF.v (Gp ok H h rx)
 |field t x f=>
  have rx:=j x (by simp[Op.operands])
  refine kP.kF fun v h=>?_
  exact nF.v (Lv ok H h rx)
 |indexAddr t x i=>
  have rx:=j x (by simp[Op.operands])
  have R:=j i (by simp[Op.operands])
  refine kP.kF fun v h=>?_
  exact nF.v (Gq ok H h rx R)
 |index t x i=>
  have rx:=j x (by simp[Op.operands])
  have R:=j i (by simp[Op.operands])
  refine kP.kF fun v h=>?_
  exact nF.v (Lx ok H h rx R)
 |lookup t x i b=>
  have rx:=j x (by simp[Op.operands])
  have R:=j i (by simp[Op.operands])
  refine kP.kF fun v h=>?_
  exact nF.v (KA ok H h rx R)
 |mapUpdate t m k v=>
  have I:=j m (by simp[Op.operands])
  have U:=j k (by simp[Op.operands])
  have J:=j v (by simp[Op.operands])
  refine kP.yp fun u h=>?_
  exact nF.u (AK ok H h I U J)
 |insert t m k v=>
  have I:=j m (by simp[Op.operands])
  have U:=j k (by simp[Op.operands])
  have J:=j v (by simp[Op.operands])
  refine kP.yp fun u h=>?_
  exact nF.u (AK ok H h I U J)
 |mapEntry t m k=>
  have I:=j m (by simp[Op.operands])
  have U:=j k (by simp[Op.operands])
  refine kP.qy fun u h=>?_
  exact nF.v (Hy ok H h I U)
 |entryStore t m s v=>
  have I:=j m (by simp[Op.operands])
  have rs:=j s (by simp[Op.operands])
  have J:=j v (by simp[Op.operands])
  refine kP.yp fun u h=>?_
  exact nF.u (FH H h I rs J)
 |range t x=>
  have rx:=j x (by simp[Op.operands])
  refine kP.qy fun v h=>?_
  exact nF.v (LM ok H h rx)
 |entry it=>
  have rx:=j it (by simp[Op.operands])
  refine kP.kF fun v h=>?_
  exact nF.v (LO H h rx)
 |typeAssert x xt a b=>
  have rx:=j x (by simp[Op.operands])
  refine kP.kF fun v h=>?_
  exact nF.v (FI ok H h rx)
 |extract x i=>
  have rx:=j x (by simp[Op.operands])
  refine kP.kF fun v h=>?_
  exact nF.v (IT H h rx)
 |build t ps=>
  have ad:=Ek (g:=g) (to:=to) (ρ:=ρ) ps.toList (fun x hx=>j x (by simp[Op.operands]at hx⊢;exact hx))
  refine kP.kF fun v h=>?_
  have:=Lt (n:=n) ok cl H h ad
  have e:(ps.toList.map fun p=>(p.1,ρ p.2)).toArray=ps.map fun p=>(p.1,ρ p.2):=by rw[<-Array.toList_inj];simp
  rw[e]at this
  exact nF.v this
 |buildSlice t len ps=>
  have ad:=Ek (g:=g) (to:=to) (ρ:=ρ) ps.toList (fun x hx=>j x (by simp[Op.operands]at hx⊢;exact hx))
  refine kP.qy fun v h=>?_
  have:=FG (n:=n) ok H h ad
  have e:(ps.toList.map fun p=>(p.1,ρ p.2)).toArray=ps.map fun p=>(p.1,ρ p.2):=by rw[<-Array.toList_inj];simp
  rw[e]at this
  exact nF.v this
 |alloc el=>
  show kP _ (fun i=>match T.zero el with|some z=>aa i (eNew n z.cells.toList)|none=>.gm 0) ab aa
  cases ae:T.zero el with
  |some z=>
   exact .inr (.inr ⟨_,fun _=>rfl,nF.v (Lq ok H ae)⟩)
  |none=>exact .inl fun _=>⟨0,rfl⟩
 |store t a v=>
  have C:=j a (by simp[Op.operands])
  have J:=j v (by simp[Op.operands])
  refine kP.yp fun u h=>?_
  obtain⟨w',h1,h2,h3,h4⟩:=Lp ok H h C J
  refine nF.u (fun fg af _ _=>⟨g,undef,w',?_,Gm.le_refl g,fun _ h=>.inl h,fQ.undef g,h2.An af,h3,by omega,pk.refl _ _⟩)
  rw[fw h1];rfl
 |nilCheck x=>
  have rx:=j x (by simp[Op.operands])
  refine kP.kF fun v h=>?_
  exact IZ H h rx
 |makeFunc fn a b=>
  have C:=yx (g:=g) (to:=to) (ρ:=ρ) a.toList (fun x hx=>j x (by simp[Op.operands]at hx⊢;exact .inl hx))
  have rb:=yx (g:=g) (to:=to) (ρ:=ρ) b.toList (fun x hx=>j x (by simp[Op.operands]at hx⊢;exact .inr hx))
  refine kP.kF fun v h=>?_
  have:=Hw (P:=P) (n:=n) H h C.toArray rb.toArray
  have e:∀c:Array Operand,(c.toList.map ρ).toArray=c.map ρ:=fun c=>by rw[<-Array.toList_inj];simp
  rw[e,e]at this
  exact nF.v this
 |makeMap t r=>
  have rr:=C0 (g:=g) (to:=to) (ρ:=ρ) r (fun y hy=>j y (by simp[Op.operands]at hy⊢;exact hy))
  refine kP.qy fun v h=>?_
  exact nF.v (IV H ok h rr)
 |slice t x a b c=>
  have rx:=j x (by simp[Op.operands])
  have C:=C0 (g:=g) (to:=to) (ρ:=ρ) a (fun y hy=>j y (by simp[Op.operands]at hy⊢;simp[hy]))
  have rb:=C0 (g:=g) (to:=to) (ρ:=ρ) b (fun y hy=>j y (by simp[Op.operands]at hy⊢;simp[hy]))
  have rc:=C0 (g:=g) (to:=to) (ρ:=ρ) c (fun y hy=>j y (by simp[Op.operands]at hy⊢;simp[hy]))
  refine kP.kF fun v h=>?_
  exact nF.v (Ly ok H h rx C rb rc)
 |_=>exact .inl fun _=>⟨0,rfl⟩
end
end
end Sw
namespace Sw
noncomputable section
open Go Go.RowKit
section
variable {T:Ty}{P:Program}{B0:Nat}{w0:World}{g:Gm}{hp:Hp}{nx n:Nat}{w:World}
theorem gX.LS{x:Value}{xs:List Value}{j:List Value}(h:gX g (x::xs) j):∃x',j.toArray[0]?=some x'/\fQ g x x':=by
 obtain⟨x',h1,h2⟩:=h.get (i:=0) rfl
 exact⟨x',by simpa using h1,h2⟩
theorem gX.WZ{x y:Value}{xs:List Value}{j:List Value}(h:gX g (x::y::xs) j):∃y',j.toArray[1]?=some y'/\fQ g y y':=by
 obtain⟨x',h1,h2⟩:=h.get (i:=1) rfl
 exact⟨x',by simpa using h1,h2⟩
theorem LU(ok:T.Ok P)(H:gu B0 w0 g hp nx w){b:Builtin}{ts:List TypeId}{l I:List Value}(hl:gX g l I)(ty:TypeId)(consts:Array Bool)(o:List Nat->K1)(j:List Nat->K2):
 kP (nF P B0 w0 g hp nx n w ((Go.builtin b ts.toArray ty consts I.toArray).run P w)) (fun i=>bi b T hp n ts l (o i) (j i)) o j:=by
 have fail:∀Q,kP Q (fun _=>.gm 0) o j:=fun _=>.inl fun _=>⟨0,rfl⟩
 cases b<;>first|exact fail _|skip
 ·
  rcases ts with _|⟨t,_|⟨u,ts⟩⟩<;>first|exact fail _|skip
  rcases l with _|⟨x,_|⟨y,l⟩⟩<;>first|exact fail _|skip
  · skip
    obtain⟨x',a0,rx⟩:=hl.LS
    obtain⟨y',a1,C⟩:=hl.WZ
    refine kP.qy fun f h=>?_
    exact nF.v (Kz ok H h rx C (by simp) (by simp) a0 a1 ty)
 ·
  rcases ts with _|⟨t,ts⟩<;>first|exact fail _|skip
  rcases l with _|⟨x,l⟩<;>first|exact fail _|skip
  · skip
    obtain⟨x',a0,rx⟩:=hl.LS
    refine kP.kF fun f h=>?_
    exact nF.v (PA ok H (by simp) h rx _ a0 ty)
 ·
  rcases ts with _|⟨t,ts⟩<;>first|exact fail _|skip
  rcases l with _|⟨x,l⟩<;>first|exact fail _|skip
  · skip
    obtain⟨x',a0,rx⟩:=hl.LS
    refine kP.qy fun f h=>?_
    exact nF.v (LQ ok H (by simp) h rx _ a0 ty)
 ·
  rcases ts with _|⟨t,ts⟩<;>first|exact fail _|skip
  rcases l with _|⟨x,_|⟨y,l⟩⟩<;>first|exact fail _|skip
  · skip
    obtain⟨x',a0,rx⟩:=hl.LS
    obtain⟨y',a1,C⟩:=hl.WZ
    refine kP.qy fun f h=>?_
    exact nF.v (NV ok H (by simp) h rx C _ a0 a1 ty)
 ·
  rcases ts with _|⟨t,ts⟩<;>first|exact fail _|skip
  rcases l with _|⟨x,l⟩<;>first|exact fail _|skip
  · skip
    obtain⟨x',a0,rx⟩:=hl.LS
    refine kP.kF fun f h=>?_
    exact nF.v (Ps ok H (by simp) h rx _ a0 ty)
 · refine kP.kF fun f h=>?_
   exact nF.v (Py H (by simpa using hl) h)
 · refine kP.kF fun f h=>?_
   exact nF.v (Pz H (by simpa using hl) h)
end
end
end Sw
namespace Sw
noncomputable section
open Go Go.RowKit
def At(b:Frame)(a:Act)(todo:List Item):Frame:={b with tmps:=a.tmps,todo,defers:=a.defers,mode:=.run}
section
variable {P:Program}{b:Frame}{a:Act}{k:List Item}{cs:List Frame}{w:World}
theorem At.eval(b:Frame)(a:Act)(todo:List Item)(x:Operand):(At b a todo).eval x=a.eval x:=by cases x<;>rfl
theorem OK:step P (lone (At b a (.code .skip::k)) cs w)=.next (lone (At b a k) cs w):=step_lone_go (by simp[stepG,stepG.exec,At])
theorem Tg{l:Nat}:step P (lone (At b a (.code (.label l)::k)) cs w)=.next (lone (At b a k) cs w):=step_lone_go (by simp[stepG,stepG.exec,At])
theorem PE{id:Nat}:step P (lone (At b a (.inBlock id::k)) cs w)=.next (lone (At b a k) cs w):=step_lone_go (by simp[stepG,stepG.exec,At])
theorem PF{c:Code}:step P (lone (At b a (.inScope c::k)) cs w)=.next (lone (At b a k) cs w):=step_lone_go (by simp[stepG,stepG.exec,At])
theorem HD{x y:Code}:step P (lone (At b a (.code (.seq x y)::k)) cs w)=.next (lone (At b a (.code x::.code y::k)) cs w):=step_lone_go (by simp[stepG,stepG.exec,At])
theorem OL{c:Operand}{x y:Code}{t:Bool}(h:a.eval c=.bool t):step P (lone (At b a (.code (.cond c x y)::k)) cs w)=.next (lone (At b a (.code (if t then x else y)::k)) cs w):=
 step_lone_go (by
  have:=At.eval b a (.code (.cond c x y)::k) c
  simp only[At]at this
  simp[stepG,stepG.exec,At,this,h])
theorem Gz{id:Nat}{c:Code}:step P (lone (At b a (.code (.block id c)::k)) cs w)=.next (lone (At b a (.code c::.inBlock id::k)) cs w):=step_lone_go (by simp[stepG,stepG.exec,At])
theorem LV{c:Code}:step P (lone (At b a (.code (.scope c)::k)) cs w)=.next (lone (At b a (.code c::.inScope c::k)) cs w):=step_lone_go (by simp[stepG,stepG.exec,At])
theorem I0{c:Code}:step P (lone (At b a (.code (.loop c)::k)) cs w)=.next (lone (At b a (.code c::.inLoop c::k)) cs w):=step_lone_go (by simp[stepG,stepG.exec,At])
theorem Q2{c:Code}:step P (lone (At b a (.inLoop c::k)) cs w)=.next (lone (At b a (.code c::.inLoop c::k)) cs w):=step_lone_go (by simp[stepG,stepG.exec,At])
theorem Vx{id:Nat}{k':List Item}(h:exitTo id k=some k'):step P (lone (At b a (.code (.exit id)::k)) cs w)=.next (lone (At b a k') cs w):=step_lone_go (by simp[stepG,stepG.exec,At,h])
theorem El{id:Nat}{ops:Array Oper}:step P (lone (At b a (.code (.region id ops false)::k)) cs w)=.next (lone (At b a (.inRegion ops (List.range ops.size)::k)) cs w):=
 step_lone_go (by simp[stepG,stepG.exec,At])
theorem xG{ops:Array Oper}:step P (lone (At b a (.inRegion ops []::k)) cs w)=.next (lone (At b a k) cs w):=step_lone_go (by simp[stepG,stepG.exec,At])
def Ap(id:Nat):List Item->Prop
 |[]=>True
 |.inBlock i::k=>i≠id/\Ap id k
 |_::k=>Ap id k
theorem BR{id:Nat}:∀(j k:List Item),Ap id j->exitTo id (j++k)=exitTo id k
 |[],_,_=>rfl
 |x::j,k,h=>by
  cases x<;>first|exact BR j k h|skip
  rename_i i
  obtain⟨h1,h2⟩:=h
  show(if i==id then some (j++k)else exitTo id (j++k))=_
  rw[if_neg (by simpa using h1)]
  exact BR j k h2
def Ends(o:Nat)(k todo:List Item):Prop:=
 match o with
 |0=>todo=k
 |1=>∃j,todo=.code .ret::j
 |i+2=>∃j,todo=.code (.exit i)::(j++k)/\Ap i j
end
end
end Sw
namespace Sw
noncomputable section
open Go Go.RowKit
def W0(g:Gm)(nt:Nat)(to:Tm)(ds:List Deferred)(a:Act):Prop:=rL g nt to a.tmps/\mV g ds a.defers
structure vg(B0:Nat)(w0:World)(g:Gm)(nt:Nat)(s:St)(a:Act)(w:World):Prop where
 heap:gu B0 w0 g s.hp.get s.nx w
 act:W0 g nt s.to s.ds a
structure xH(g:Gm)(nx:Nat)(g':Gm)(fg:Nat):Prop where
 le:g.le g'
 num:nx<=fg
 new:∀b,g'.gb b≠none->g.gb b≠none\/nx<=b
theorem xH.refl(g:Gm)(nx:Nat):xH g nx g nx:=⟨Gm.le_refl g,Nat.le_refl _,fun _ h=>.inl h⟩
theorem xH.trans{g g1 g2:Gm}{n j n2:Nat}(h:xH g n g1 j)(k:xH g1 j g2 n2):xH g n g2 n2:=
 ⟨Gm.le_trans h.le k.le,Nat.le_trans h.num k.num,fun b e=>(k.new b e).elim (fun e=>h.new b e) (fun e=>.inr (Nat.le_trans h.num e))⟩
def Kept(g:Gm)(w w':World):Prop:=w.heap.size<=w'.heap.size/\∀rb,rb<w.heap.size->(∀b ro,g.gb b≠some (rb,ro))->w'.heap[rb]?=w.heap[rb]?
theorem Kept.refl(g:Gm)(w:World):Kept g w w:=⟨Nat.le_refl _,fun _ _ _=>rfl⟩
theorem Kept.trans{g g':Gm}{w o C:World}(h:Kept g w o)(hn:pk g g' w)(k:Kept g' o C):Kept g w C:=
 ⟨Nat.le_trans h.1 k.1,fun rb jz j=>by
   refine(k.2 rb (Nat.lt_of_lt_of_le jz h.1) (fun b ro e=>?_)).trans (h.2 rb jz j)
   rcases hn b rb ro e with⟨I,J,q⟩|q
   · exact j I J q
   · omega⟩
structure Ext(g:Gm)(nx:Nat)(w:World)(g':Gm)(fg:Nat)(w':World):Prop where
 ext:xH g nx g' fg
 kept:Kept g w w'
 held:pk g g' w
theorem Ext.refl(g:Gm)(nx:Nat)(w:World):Ext g nx w g nx w:=⟨xH.refl _ _,Kept.refl _ _,pk.refl _ _⟩
theorem Ext.trans{g g1 g2:Gm}{n j n2:Nat}{w o C:World}(h:Ext g n w g1 j o)(k:Ext g1 j o g2 n2 C):Ext g n w g2 n2 C:=
 ⟨h.ext.trans k.ext,h.kept.trans h.held k.kept,fun b rb ro e=>by
   rcases k.held b rb ro e with⟨I,J,q⟩|q
   · exact h.held I rb J q
   · exact .inr (Nat.le_trans h.kept.1 q)⟩
end
end Sw
namespace Sw
noncomputable section
open Go Go.RowKit
def jC(P:Program)(B0:Nat)(w0:World)(b:Frame)(nt:Nat)(g:Gm)(nx:Nat)(c:Code)(a:Act)(w:World)(o:Nat)(j:St)(ks:List Item)(fs:List Frame):Prop:=
 ∃a' w' g',vg B0 w0 g' nt j a' w'/\Ext g nx w g' j.nx w'/\
  ∃todo,Ends o ks todo/\Steps P (lone (At b a (.code c::ks)) fs w) (lone (At b a' todo) fs w')
def lS(f:List Nat->R)(oF:(List Nat->R)->Prop):Prop:=
 ∃pre:List Nat,(∀p c q,pre=p++c::q->∃m,f p=.gm m/\c<m)/\oF (fun rest=>f (pre++rest))
def zA(f:List Nat->R):Prop:=∀rest,∃m,f rest=.gm m
theorem lS.here{f:List Nat->R}{oF:(List Nat->R)->Prop}(h:oF f):lS f oF:=⟨[],(fun p c q e=>by cases p<;>cases e),h⟩
theorem zO{j o p q:List Nat}{c:Nat}(h:j++o=p++c::q):(∃I,j=p++c::I)\/∃C,p=j++C/\o=C++c::q:=by
 induction j generalizing p with
 |nil=>exact .inr ⟨p,rfl,h⟩
 |cons x xs ih=>
  cases p with
  |nil=>simp at h;obtain⟨rfl,_⟩:=h;exact .inl ⟨xs,rfl⟩
  |cons y J=>
   simp at h
   obtain⟨rfl,h⟩:=h
   rcases ih h with⟨I,rfl⟩|⟨C,rfl,e⟩
   · exact .inl ⟨I,rfl⟩
   · exact .inr ⟨C,rfl,e⟩
theorem lS.bind{f:List Nat->R}{oF C:(List Nat->R)->Prop}(h:lS f oF)(k:∀f',oF f'->lS f' C):lS f C:=by
 obtain⟨j,p1,h1⟩:=h
 obtain⟨o,I,h2⟩:=k _ h1
 refine⟨j++o,fun p c q e=>?_,?_⟩
 · rcases zO e with⟨J,e1⟩|⟨pp,rfl,e2⟩
   · exact p1 p c J e1
   · exact I pp c q e2
 · have:(fun rest=>f (j++o++rest))=fun rest=>f (j++(o++rest)):=by funext r;rw[List.append_assoc]
   rw[this];exact h2
theorem lS.map{f f2:List Nat->R}{oF C:(List Nat->R)->Prop}(h:lS f oF)(hn:∀p m,f p=.gm m->f2 p=.gm m)
 (k:∀pre,oF (fun rest=>f (pre++rest))->lS (fun rest=>f2 (pre++rest)) C):lS f2 C:=by
 obtain⟨j,p1,h1⟩:=h
 obtain⟨o,I,h2⟩:=k j h1
 refine⟨j++o,fun p c q e=>?_,?_⟩
 · rcases zO e with⟨J,e1⟩|⟨pp,rfl,e2⟩
   · obtain⟨m,a,b⟩:=p1 p c J e1
     exact⟨m,hn _ _ a,b⟩
   · exact I pp c q e2
 · have:(fun rest=>f2 (j++o++rest))=fun rest=>f2 (j++(o++rest)):=by funext r;rw[List.append_assoc]
   rw[this];exact h2
theorem lS.mono{f:List Nat->R}{oF j:(List Nat->R)->Prop}(h:lS f oF)(k:∀f',oF f'->j f'):lS f j:=by
 obtain⟨pre,a,b⟩:=h;exact⟨pre,a,k _ b⟩
theorem lS.dead{f:List Nat->R}{oF:(List Nat->R)->Prop}(h:zA f):lS f fun r=>zA r\/oF r:=.here (.inl h)
def St.at(s:St)(cs:List Nat):St:={s with cs}
def uS(P:Program)(B0:Nat)(w0:World)(b:Frame)(nt:Nat)(g:Gm)(nx:Nat)(c:Code)(a:Act)(w:World)(ks:List Item)(fs:List Frame)(r:List Nat->R):Prop:=
 lS r fun j=>zA j\/∃o C,(∀cs,j cs=.ok (o,C.at cs))/\jC P B0 w0 b nt g nx c a w o C ks fs
end
end Sw
namespace Sw
noncomputable section
open Go Go.RowKit
section
variable {P:Program}{B0:Nat}{w0:World}{b:Frame}{nt:Nat}{g:Gm}{nx:Nat}{a:Act}{w:World}{ks:List Item}{fs:List Frame}
theorem jC.here{c:Code}{o:Nat}{s:St}(h:vg B0 w0 g nt s a w)(hs:∃todo,Ends o ks todo/\Steps P (lone (At b a (.code c::ks)) fs w) (lone (At b a todo) fs w)):
 jC P B0 w0 b nt g s.nx c a w o s ks fs:=
 ⟨a,w,g,h,Ext.refl _ _ _,hs⟩
theorem jC.skip{s:St}(h:vg B0 w0 g nt s a w):jC P B0 w0 b nt g s.nx .skip a w 0 s ks fs:=.here h ⟨ks,rfl,.one OK⟩
theorem jC.label{l:Nat}{s:St}(h:vg B0 w0 g nt s a w):jC P B0 w0 b nt g s.nx (.label l) a w 0 s ks fs:=.here h ⟨ks,rfl,.one Tg⟩
theorem jC.exit{i:Nat}{s:St}(h:vg B0 w0 g nt s a w):jC P B0 w0 b nt g s.nx (.exit i) a w (i+2) s ks fs:=.here h ⟨_,⟨[],rfl,trivial⟩,.refl ..⟩
theorem jC.ret{s:St}(h:vg B0 w0 g nt s a w):jC P B0 w0 b nt g s.nx .ret a w 1 s ks fs:=.here h ⟨_,⟨ks,rfl⟩,.refl ..⟩
theorem jC.leave{c c1:Code}{o:Nat}{s1:St}(x:List Item)(h:jC P B0 w0 b nt g nx c1 a w (o+1) s1 (x++ks) fs)(hx:∀i,o=i+1->Ap i x)
 (hc:Steps P (lone (At b a (.code c::ks)) fs w) (lone (At b a (.code c1::(x++ks))) fs w)):jC P B0 w0 b nt g nx c a w (o+1) s1 ks fs:=by
 obtain⟨a1,I,g1,r1,e1,todo,j,st⟩:=h
 refine⟨a1,I,g1,r1,e1,todo,?_,hc.trans st⟩
 cases o with
 |zero=>exact j
 |succ i=>
  obtain⟨C,e,hn⟩:=j
  refine⟨C++x,by rw[e,List.append_assoc],?_⟩
  have hx:=hx i rfl
  clear e
  induction C with
  |nil=>exact hx
  |cons y J ih=>
   cases y<;>first|exact ih hn|exact⟨hn.1,ih hn.2⟩
theorem jC.GA{c1 c2:Code}{o:Nat}{s1:St}(h:jC P B0 w0 b nt g nx c1 a w (o+1) s1 (.code c2::ks) fs):jC P B0 w0 b nt g nx (.seq c1 c2) a w (o+1) s1 ks fs:=
 jC.leave [.code c2] h (fun _ _=>trivial) (.one HD)
theorem jC.X5{c:Code}{o:Nat}{s1 s2:St}{a1:Act}{J:World}{g1:Gm}(e1:Ext g nx w g1 s1.nx J)(t1:∃todo,Ends 0 (.inLoop c::ks) todo/\Steps P (lone (At b a (.code c::.inLoop c::ks)) fs w) (lone (At b a1 todo) fs J))(k:jC P B0 w0 b nt g1 s1.nx (.loop c) a1 J o s2 ks fs):
 jC P B0 w0 b nt g nx (.loop c) a w o s2 ks fs:=by
 obtain⟨a2,U,g2,r2,e2,j,C,n,st2⟩:=k
 obtain⟨R,I,st1⟩:=t1
 have I:R=.inLoop c::ks:=I
 subst I
 refine⟨a2,U,g2,r2,e1.trans e2,j,C,((Steps.one I0).trans st1).trans ?_⟩
 cases n with
 |zero=>
  exfalso
  have st2:Stepped.next (lone (At b a1 (.code (.loop c)::ks)) fs J)=.next (lone (At b a2 j) fs U):=st2
  have:(.code (.loop c)::ks:List Item)=j:=by
   have:=congrArg (fun x=>match x with|Stepped.next m=>(m.gs[0]?).map (fun g:Goroutine=>g.frame.todo)|_=>none) st2
   simpa[lone,At]using this
  subst this
  cases o with
  |zero=>have:(.code (.loop c)::ks:List Item)=ks:=C;exact(List.cons_ne_self _ _ this).elim
  |succ o=>
   cases o with
   |zero=>obtain⟨aa,e⟩:=C;cases e
   |succ i=>obtain⟨aa,e,_⟩:=C;cases e
 |succ n=>
  have st2:(match step P (lone (At b a1 (.code (.loop c)::ks)) fs J)with|.next m=>runN P n m|e=>e)=.next (lone (At b a2 j) fs U):=st2
  rw[I0]at st2
  exact .head Q2 ⟨n,st2⟩
theorem jC.Em{c:Code}{o:Nat}{s1:St}(h:jC P B0 w0 b nt g nx c a w (o+1) s1 (.inLoop c::ks) fs):jC P B0 w0 b nt g nx (.loop c) a w (o+1) s1 ks fs:=
 jC.leave [.inLoop c] h (fun _ _=>trivial) (.one I0)
theorem jC.more{c c1:Code}{o o':Nat}{s1:St}{R:List Item}(h:jC P B0 w0 b nt g nx c1 a w o s1 R fs)
 (hc:Steps P (lone (At b a (.code c::ks)) fs w) (lone (At b a (.code c1::R)) fs w))
 (hd:∀a1 C todo,Ends o R todo->∃j,Ends o' ks j/\Steps P (lone (At b a1 todo) fs C) (lone (At b a1 j) fs C)):jC P B0 w0 b nt g nx c a w o' s1 ks fs:=by
 obtain⟨a1,C,g1,r1,e1,I,U,st1⟩:=h
 obtain⟨J,aa,st2⟩:=hd a1 C I U
 exact⟨a1,C,g1,r1,e1,J,aa,(hc.trans st1).trans st2⟩
theorem jC.Th{c:Code}{id:Nat}{s1:St}(h:jC P B0 w0 b nt g nx c a w 0 s1 (.inBlock id::ks) fs):jC P B0 w0 b nt g nx (.block id c) a w 0 s1 ks fs:=
 h.more (.one Gz) fun a1 j todo e=>⟨ks,rfl,by have e:todo=.inBlock id::ks:=e;subst e;exact .one PE⟩
theorem jC.En{c:Code}{id:Nat}{s1:St}(h:jC P B0 w0 b nt g nx c a w (id+2) s1 (.inBlock id::ks) fs):jC P B0 w0 b nt g nx (.block id c) a w 0 s1 ks fs:=
 h.more (.one Gz) fun a1 o todo e=>⟨ks,rfl,by
  obtain⟨j,rfl,hn⟩:=e
  refine .one (Vx ?_)
  rw[BR _ _ hn]
  simp[exitTo]⟩
theorem jC.PG{c:Code}{id o:Nat}{s1:St}(h:jC P B0 w0 b nt g nx c a w (o+1) s1 (.inBlock id::ks) fs)(jG:o+1≠id+2):jC P B0 w0 b nt g nx (.block id c) a w (o+1) s1 ks fs:=
 jC.leave [.inBlock id] h (fun i e=>⟨by omega,trivial⟩) (.one Gz)
theorem jC.Ti{c:Code}{s1:St}(h:jC P B0 w0 b nt g nx c a w 0 s1 (.inScope c::ks) fs):jC P B0 w0 b nt g nx (.scope c) a w 0 s1 ks fs:=
 h.more (.one LV) fun a1 j todo e=>⟨ks,rfl,by have e:todo=.inScope c::ks:=e;subst e;exact .one PF⟩
theorem jC.PH{c:Code}{o:Nat}{s1:St}(h:jC P B0 w0 b nt g nx c a w (o+1) s1 (.inScope c::ks) fs):jC P B0 w0 b nt g nx (.scope c) a w (o+1) s1 ks fs:=
 jC.leave [.inScope c] h (fun _ _=>trivial) (.one LV)
theorem jC.cond{x:Operand}{c1 c2:Code}{t:Bool}{o:Nat}{s1:St}(hx:a.eval x=.bool t)(h:jC P B0 w0 b nt g nx (if t then c1 else c2) a w o s1 ks fs):jC P B0 w0 b nt g nx (.cond x c1 c2) a w o s1 ks fs:=
 h.more (.one (OL hx)) fun a1 j todo e=>⟨todo,e,.refl ..⟩
end
end
end Sw
namespace Sw
noncomputable section
open Go Go.RowKit
section
variable {P:Program}{b:Frame}{a:Act}{k:List Item}{cs:List Frame}{w w':World}{ops:Array Oper}{i:Nat}{rest:List Nat}{o:Oper}
theorem At.X6(b:Frame)(a:Act)(todo:List Item):(At b a todo).eval=a.eval:=funext (At.eval b a todo)
theorem At.finish(b:Frame)(a:Act)(ops:Array Oper)(i:Nat)(rest:List Nat)(k:List Item)(v:Value):
 (At b a (.inRegion ops (i::rest)::k)).finish v=At b (a.put ((ops[i]?).bind (·.dst)) v) (.inRegion ops rest::k):=by
 cases h:(ops[i]?).bind (·.dst)<;>simp[Frame.finish,At,Act.put,h]
def qA:Op->Bool
 |.defer _=>false
 |_=>true
theorem HF(C:ops[i]?=some o)(hw:Region.wanted o (yielded ops a.tmps)=true)(hd:b.roundOf=none\/qA o.op=true):
 stepG P true {frame:=At b a (.inRegion ops (i::rest)::k),callers:=cs,status:=.running,dying:=none} w=
  stepG.apply P true (At b a (.inRegion ops (i::rest)::k)) cs none (execOp a.eval o) w:=by
 have he:=At.X6 b a (.inRegion ops (i::rest)::k)
 simp only[At]at he
 rcases hd with hd|hd
 · simp[stepG,stepG.exec,stepG.oper,Frame.oper?,At,C,hw,hd]at he⊢
   rw[he]
 · cases j:o.op<;>first|(rw[j]at hd;cases hd;done)|skip
   all_goals
    simp[stepG,stepG.exec,stepG.oper,Frame.oper?,At,C,hw,j]at he⊢
    rw[he]
    try (cases b.roundOf<;>rfl)
theorem C1{v:Value}(C:ops[i]?=some o)(hw:Region.wanted o (yielded ops a.tmps)=true)(hd:b.roundOf=none\/qA o.op=true)(h:(execOp a.eval o).run P w=.ok (.value v) w'):
 step P (lone (At b a (.inRegion ops (i::rest)::k)) cs w)=.next (lone (At b (a.put o.dst v) (.inRegion ops rest::k)) cs w'):=by
 have j:=At.finish b a ops i rest k v
 rw[C]at j
 refine step_lone_go ?_
 rw[HF C hw hd]
 have j:(At b a (.inRegion ops (i::rest)::k)).finish v=At b (a.put o.dst v) (.inRegion ops rest::k):=j
 rw[<-j]
 simp[stepG.apply,h]
theorem Q3{v:Value}(C:ops[i]?=some o)(hw:Region.wanted o (yielded ops a.tmps)=true)(hd:b.roundOf=none\/qA o.op=true)(h:(execOp a.eval o).run P w=.ok .skip w')(I:v=undef):
 step P (lone (At b a (.inRegion ops (i::rest)::k)) cs w)=.next (lone (At b (a.put o.dst v) (.inRegion ops rest::k)) cs w'):=by
 subst I
 have j:=At.finish b a ops i rest k undef
 rw[C]at j
 refine step_lone_go ?_
 rw[HF C hw hd]
 have j:(At b a (.inRegion ops (i::rest)::k)).finish undef=At b (a.put o.dst undef) (.inRegion ops rest::k):=j
 rw[<-j]
 simp[stepG.apply,h]
theorem Eo{v:Value}(j:ops[i]?=some o)(hw:Region.wanted o (yielded ops a.tmps)=true)(hd:b.roundOf=none\/qA o.op=true)(h:HB ((execOp a.eval o).run P w)=.ok v w'):
 step P (lone (At b a (.inRegion ops (i::rest)::k)) cs w)=.next (lone (At b (a.put o.dst v) (.inRegion ops rest::k)) cs w'):=by
 rcases WY h with h|⟨h,C⟩
 · exact C1 j hw hd h
 · exact Q3 j hw hd h C
theorem DD(C:ops[i]?=some o)(hw:Region.wanted o (yielded ops a.tmps)=false):
 step P (lone (At b a (.inRegion ops (i::rest)::k)) cs w)=.next (lone (At b (a.put o.dst undef) (.inRegion ops rest::k)) cs w):=by
 have j:=At.finish b a ops i rest k undef
 rw[C]at j
 refine step_lone_go ?_
 have j:(At b a (.inRegion ops (i::rest)::k)).finish undef=At b (a.put o.dst undef) (.inRegion ops rest::k):=j
 rw[<-j]
 simp[stepG,stepG.exec,At,C,hw]
end
end
end Sw
namespace Sw
noncomputable section
open Go Go.RowKit
theorem PI(n:Nat):Nat.land n 1=n%2:=Nat.and_one_is_mod n
theorem Tr.vh{α:Type}(v:Option α)(l r:Tr α)(n:Nat):(Tr.node v l r).yn n=if n=1 then v else if n%2=0 then l.yn (n/2)else r.yn (n/2):=by
 show(Bool.rec (motive:=fun _=>Option α) (Nat.rec (motive:=fun _=>Option α) (l.yn (Nat.div n 2)) (fun _ _=>r.yn (Nat.div n 2)) (Nat.land n 1)) v (Nat.beq n 1))=_
 by_cases h:n=1
 · subst h;rfl
 · rw[if_neg h]
   have:Nat.beq n 1=false:=by
    cases e:Nat.beq n 1 with
    |false=>rfl
    |true=>exact absurd (Nat.eq_of_beq_eq_true e) h
   rw[this,PI]
   rcases Nat.mod_two_eq_zero_or_one n with e|e<;>rw[e]<;>rfl
theorem Tr.Vy{α:Type}(f n:Nat)(o:Option α):Tr.mk (f+1) n o=if n=1 then .node o .nil .nil else if n%2=0 then .node none (Tr.mk f (n/2) o) .nil else .node none .nil (Tr.mk f (n/2) o):=by
 show(Bool.rec (motive:=fun _=>Tr α) (Nat.rec (motive:=fun _=>Tr α) (.node none (Tr.mk f (Nat.div n 2) o) .nil) (fun _ _=>.node none .nil (Tr.mk f (Nat.div n 2) o)) (Nat.land n 1)) (.node o .nil .nil) (Nat.beq n 1))=_
 by_cases h:n=1
 · subst h;rfl
 · rw[if_neg h]
   have:Nat.beq n 1=false:=by
    cases e:Nat.beq n 1 with
    |false=>rfl
    |true=>exact absurd (Nat.eq_of_beq_eq_true e) h
   rw[this,PI]
   rcases Nat.mod_two_eq_zero_or_one n with e|e<;>rw[e]<;>rfl
theorem Tr.W1{α:Type}(o:Option α):∀(f n m:Nat),1<=n->1<=m->n<=f->(Tr.mk f n o).yn m=if m=n then o else none:=by
 intro f
 induction f with
 |zero=>intro n m h1 _ h;omega
 |succ f ih=>
  intro n m h1 hm h
  rw[Tr.Vy]
  by_cases h2:n=1
  · rw[if_pos h2,Tr.vh,h2]
    by_cases h3:m=1
    · rw[if_pos h3,if_pos h3]
    · rw[if_neg h3,if_neg h3];split<;>rfl
  · rw[if_neg h2]
    by_cases h4:n%2=0
    · rw[if_pos h4,Tr.vh]
      by_cases h3:m=1
      · rw[if_pos h3,if_neg (by omega)]
      · rw[if_neg h3]
        by_cases j:m%2=0
        · rw[if_pos j,ih _ _ (by omega) (by omega) (by omega)]
          by_cases C:m=n
          · rw[if_pos C,if_pos (by omega)]
          · rw[if_neg C,if_neg (by omega)]
        · rw[if_neg j,if_neg (by intro e;omega)];rfl
    · rw[if_neg h4,Tr.vh]
      by_cases h3:m=1
      · rw[if_pos h3,if_neg (by omega)]
      · rw[if_neg h3]
        by_cases j:m%2=0
        · rw[if_pos j,if_neg (by intro e;omega)];rfl
        · rw[if_neg j,ih _ _ (by omega) (by omega) (by omega)]
          by_cases C:m=n
          · rw[if_pos C,if_pos (by omega)]
          · rw[if_neg C,if_neg (by omega)]
theorem Tr.Tj{α:Type}(n:Nat)(o:Option α):(Tr.nil:Tr α).zx n o=Tr.mk n n o:=rfl
theorem Tr.Q4{α:Type}(v:Option α)(l r:Tr α)(n:Nat)(o:Option α):(Tr.node v l r).zx n o=if n=1 then .node o l r else if n%2=0 then .node v (l.zx (n/2) o) r else .node v l (r.zx (n/2) o):=by
 show(Bool.rec (motive:=fun _=>Tr α)
  (Nat.rec (motive:=fun _=>Tr α)
    (Tr.rec (motive:=fun _=>Tr α) (.node v .nil r) (fun v' j C _ _=>.node v (.node v' j C) r) (l.zx (Nat.div n 2) o))
    (fun _ _=>Tr.rec (motive:=fun _=>Tr α) (.node v l .nil) (fun v' j C _ _=>.node v l (.node v' j C)) (r.zx (Nat.div n 2) o)) (Nat.land n 1))
  (.node o l r) (Nat.beq n 1))=_
 by_cases h:n=1
 · subst h;rfl
 · rw[if_neg h]
   have:Nat.beq n 1=false:=by
    cases e:Nat.beq n 1 with
    |false=>rfl
    |true=>exact absurd (Nat.eq_of_beq_eq_true e) h
   rw[this,PI]
   have eta:∀(t:Tr α) (F:Tr α->Tr α),Tr.rec (motive:=fun _=>Tr α) (F .nil) (fun v' j C _ _=>F (.node v' j C)) t=F t:=fun t F=>by cases t<;>rfl
   rcases Nat.mod_two_eq_zero_or_one n with e|e<;>rw[e]
   · exact eta (l.zx (Nat.div n 2) o) (fun t=>.node v t r)
   · exact eta (r.zx (Nat.div n 2) o) (fun t=>.node v l t)
theorem Tr.JQ{α:Type}(t:Tr α)(o:Option α):∀n m:Nat,1<=n->1<=m->(t.zx n o).yn m=if m=n then o else t.yn m:=by
 induction t with
 |nil=>intro n m h1 h2;rw[Tr.Tj,Tr.W1 o n n m h1 h2 (Nat.le_refl _)];rfl
 |node v l r I J=>
  intro n m h1 h2
  rw[Tr.Q4,Tr.vh v l r m]
  by_cases hn:n=1
  · rw[if_pos hn,Tr.vh]
    by_cases hm:m=1
    · rw[if_pos hm,if_pos (show m=n by omega)]
    · rw[if_neg hm,if_neg (show¬m=n by omega),if_neg hm]
  · rw[if_neg hn]
    by_cases he:n%2=0
    · rw[if_pos he,Tr.vh]
      by_cases hm:m=1
      · rw[if_pos hm,if_neg (by omega),if_pos hm]
      · rw[if_neg hm]
        by_cases j:m%2=0
        · rw[if_pos j,I _ _ (by omega) (by omega)]
          by_cases C:m=n
          · rw[if_pos C,if_pos (by omega)]
          · rw[if_neg C,if_neg (by omega),if_neg hm,if_pos j]
        · rw[if_neg j,if_neg (by intro e;omega),if_neg hm,if_neg j]
    · rw[if_neg he,Tr.vh]
      by_cases hm:m=1
      · rw[if_pos hm,if_neg (by omega),if_pos hm]
      · rw[if_neg hm]
        by_cases j:m%2=0
        · rw[if_pos j,if_neg (by intro e;omega),if_neg hm,if_pos j]
        · rw[if_neg j,J _ _ (by omega) (by omega)]
          by_cases C:m=n
          · rw[if_pos C,if_pos (by omega)]
          · rw[if_neg C,if_neg (by omega),if_neg hm,if_neg j]
theorem Tr.nJ(t:Ht)(n:Nat)(o:Option (jM Tm)):(t.set n o).get=Hp.set t.get n o:=by
 funext m
 show(t.zx (n+1) o).yn (m+1)=if m=n then o else t.yn (m+1)
 rw[Tr.JQ t o _ _ (by omega) (by omega)]
 by_cases h:m=n
 · rw[if_pos h,if_pos (by omega)]
 · rw[if_neg h,if_neg (by omega)]
theorem GD(low:Nat):∀(jA:tH) (h j:Ht),zz low jA h=some j->j.get=Hp.tI h.get jA
 |[],h,j,e=>by cases e;rfl
 |(b,o)::us,h,j,e=>by
  unfold zz at e
  cases hb:Nat.ble low b with
  |false=>rw[hb]at e;cases e
  |true=>
   rw[hb]at e
   have:=GD low us _ _ e
   rw[this,Tr.nJ];rfl
end
end Sw
namespace Sw
noncomputable section
open Go Go.RowKit
theorem C2(d:Nat)(t:Tm)(v:Value):(ka (some d)).run t v=t.set d v:=rfl
theorem fQ.GF(g:Gm):∀(n:Nat) (v:Value),y6 n v=true->fQ g v v:=by
 intro n
 induction n with
 |zero=>
  intro v h
  unfold y6 at h
  split at h<;>first|(cases h;done)|skip
  · exact .bool _
  · exact .int _ _
  · exact .string _
  · exact .nilPtr
  · exact .pW
  · exact .u9
  · exact .nilFunc
  · exact .nilIface
  · exact .func rfl rfl (fun i v v' e=>by simp at e) (fun i v v' e=>by simp at e)
  all_goals (rename_i h0;exact absurd h0 (by simp))
 |succ n ih=>
  intro v h
  unfold y6 at h
  split at h<;>first|(cases h;done)|skip
  · exact .bool _
  · exact .int _ _
  · exact .string _
  · exact .nilPtr
  · exact .pW
  · exact .u9
  · exact .nilFunc
  · exact .nilIface
  · exact .func rfl rfl (fun i v v' e=>by simp at e) (fun i v v' e=>by simp at e)
  · rename_i m x hm
    cases hm
    rw[List.all_eq_true]at h
    refine .agg rfl fun i v v' e j=>?_
    rw[e]at j;cases j
    exact ih v (h v (by obtain⟨hi,rfl⟩:=Array.getElem?_eq_some_iff.1 e;simp))
  · rename_i m x hm
    cases hm
    rw[List.all_eq_true]at h
    refine .tuple rfl fun i v v' e j=>?_
    rw[e]at j;cases j
    exact ih v (h v (by obtain⟨hi,rfl⟩:=Array.getElem?_eq_some_iff.1 e;simp))
  · rename_i m t v hm
    cases hm
    exact .iface (ih v h)
theorem GG{g:Gm}{ng nt:Nat}{to:Tm}{a:Act}(j:rL g nt to a.tmps)(hg:kT g ng){x:Operand}(h:DX ng nt x=true):fQ g ((aaj x).run to) (a.eval x):=by
 cases x with
 |tmp i=>
  have hi:i<nt:=Nat.le_of_ble_eq_true h
  exact j.2 i hi
 |const v=>exact fQ.GF g 4 v h
 |global i=>
  have hi:i<ng:=Nat.le_of_ble_eq_true h
  have:=fQ.ptr (off:=0) (hg i hi)
  exact this
 |func f=>exact .func rfl rfl (fun i v v' e=>by simp at e) (fun i v v' e=>by simp at e)
theorem Q5{g:Gm}{ng nt:Nat}{to:Tm}{a:Act}(j:rL g nt to a.tmps)(hg:kT g ng){l:List Operand}(h:l.all (DX ng nt)=true):uX g to a.eval l:=
 fun x hx=>GG j hg (List.all_eq_true.1 h x hx)
theorem rL.put{g:Gm}{nt:Nat}{to:Tm}{a:Act}(j:rL g nt to a.tmps)(hn:nt<=512){d:Option Tmp}(hd:U1 nt d=true){v v':Value}(C:fQ g v v'):
 rL g nt ((ka d).run to v) (a.put d v').tmps:=by
 cases d with
 |none=>exact j
 |some d=>
  have hd:@LT.lt Nat _ d nt:=Nat.le_of_ble_eq_true hd
  have o:@LT.lt Nat _ d 512:=Nat.lt_of_lt_of_le hd hn
  refine⟨by simp[Act.put];exact j.1,fun i hi=>?_⟩
  rw[C2,Tm.nJ _ _ o (by omega)]
  by_cases h:d=i
  · subst h
    rw[if_pos rfl]
    have:(a.put (some d) v').tmps.getD d undef=v':=by
     have:@LT.lt Nat _ d a.tmps.size:=by rw[j.1];exact hi
     simp[Act.put,Array.getD,this]
    rw[this];exact C
  · rw[if_neg h]
    have:(a.put (some d) v').tmps.getD i undef=a.tmps.getD i undef:=by
     simp only[Act.put,Array.getD_eq_getD_getElem?]
     rw[Array.getElem?_setIfInBounds_ne h]
    rw[this];exact j.2 i hi
theorem put_defers(a:Act)(d:Option Tmp)(v:Value):(a.put d v).defers=a.defers:=by cases d<;>rfl
end
end Sw
namespace Sw
noncomputable section
open Go Go.RowKit
def y7(P:Program)(B0:Nat)(w0:World)(b:Frame)(g:Gm)(nx:Nat)(ops:Array Oper)(i:Nat)(dst:Option Tmp)(a:Act)(w:World)(v:Value)(o:List Deferred)(fe:Ht)(fg:Nat)(rest:List Nat)(ks:List Item)(fs:List Frame):Prop:=
 ∃v' j w' g',gu B0 w0 g' fe.get fg w'/\fQ g' v v'/\mV g' o j/\Ext g nx w g' fg w'/\
  Steps P (lone (At b a (.inRegion ops (i::rest)::ks)) fs w) (lone (At b ({a with defers:=j}.put dst v') (.inRegion ops rest::ks)) fs w')
def tK(P:Program)(B0:Nat)(w0:World)(b:Frame)(g:Gm)(to:Tm)(nx:Nat)(ops:Array Oper)(i:Nat)(dst:Option Tmp)(a:Act)(w:World)(rest:List Nat)(ks:List Item)(fs:List Frame)(run:List Nat->(St->R)->R):Prop:=
 ∀k:St->R,lS (fun cs=>run cs k) fun f'=>zA f'\/∃v j fe fg,(∀cs,f' cs=k ⟨(ka dst).run to v,j,fe,fg,cs⟩)/\y7 P B0 w0 b g nx ops i dst a w v j fe fg rest ks fs
section
variable {P:Program}{B0:Nat}{w0:World}{b:Frame}{nt:Nat}{g:Gm}{nx:Nat}{a:Act}{w:World}{ops:Array Oper}{i:Nat}{o:Oper}{to:Tm}{ds:List Deferred}{hp:Ht}{rest:List Nat}{ks:List Item}{fs:List Frame}
theorem uT.kept{w':World}{hp:Hp}(h:uT g hp w w')(hs:w.heap.size<=w'.heap.size):Kept g w w':=
 ⟨hs,fun rb jz j=>h rb jz fun b _ ro _=>j b ro⟩
theorem iC.Q6(H:gu B0 w0 g hp.get nx w)(hd:mV g ds a.defers)(C:ops[i]?=some o)(hw:Region.wanted o (yielded ops a.tmps)=true)(hr:b.roundOf=none\/qA o.op=true)
 {v:Value} {jA:tH} {m:Nat} {fe:Ht} {low:Nat} (h:nF P B0 w0 g hp.get nx nx w ((execOp a.eval o).run P w) (v,jA,m)) (hu:zz low jA hp=some fe):
 y7 P B0 w0 b g nx ops i o.dst a w v ds fe (nx+m) rest ks fs:=by
 obtain⟨g',v',w',e⟩:=h (nx+m) (Nat.le_add_right _ _) (Nat.le_refl _) (fun j hj=>H.fresh (Nat.le_add_right _ _))
 refine⟨v',a.defers,w',g',?_,e.val,hd.mono e.le,⟨⟨e.le,Nat.le_add_right _ _,fun b' hb=>?_⟩,e.keeps.kept e.size,e.held⟩,?_⟩
 · rw[GD _ _ _ _ hu];exact e.rel
 · rcases e.new b' hb with h|h
   · exact .inl h
   · exact .inr h.1
 · exact .one (Eo C hw hr e.run)
theorem kP.xI(H:gu B0 w0 g hp.get nx w)(hd:mV g ds a.defers)(j:ops[i]?=some o)(hw:Region.wanted o (yielded ops a.tmps)=true)(hr:b.roundOf=none\/qA o.op=true)
 {low:Nat} {run:K1->K2->R}
 (h:∀I C,kP (nF P B0 w0 g hp.get nx nx w ((execOp a.eval o).run P w)) (fun i=>run (I i) (C i)) I C):
 tK P B0 w0 b g to nx ops i o.dst a w rest ks fs fun cs k=>run (fun v=>k ⟨(ka o.dst).run to v,ds,hp,nx,cs⟩) (tw (ka o.dst).run low to ds hp nx cs k):=by
 intro k
 refine .here ?_
 rcases h (fun cs v=>k ⟨(ka o.dst).run to v,ds,hp,nx,cs⟩) (fun cs=>tw (ka o.dst).run low to ds hp nx cs k)with h|⟨v,h,q⟩|⟨f,h,q⟩
 · exact .inl fun cs=>h cs
 · refine .inr ⟨v,ds,hp,nx,h,?_⟩
   exact iC.Q6 (m:=0) H hd j hw hr q (low:=0) rfl
 · obtain⟨v,jA,m⟩:=f
   cases hu:zz low jA hp with
   |none=>exact .inl fun cs=>⟨0,by rw[h];simp[tw,hu]⟩
   |some fe=>exact .inr ⟨v,ds,fe,nx+m,fun cs=>by rw[h];simp[tw,hu],iC.Q6 H hd j hw hr q hu⟩
end
end
end Sw
namespace Sw
noncomputable section
open Go Go.RowKit
structure mE(P:Program)(ng:Nat)(e:Env):Prop where
 T:e.T.Ok P
 cl:e.T.B9
 F:∀f fi,e.F f=some fi->∃fn,P.funcs[f]?=some fn/\fn.body=some fi.body/\fn.ntmps=fi.nt/\fn.results.toList=fi.res/\(fn.name== "runtime.NumGoroutine")=false/\fi.nt<=512/\codeOk ng fi.nt fi.body=true/\
  fi.res.all (fun|.tmp i=>Nat.blt i fi.nt|.cell i _=>Nat.blt i fi.nt)=true
 M:∀t name f,e.M t name=some f->∀(v:Value) (w:World),(method (P.types.size+Made.depth) t v name).run P w=.ok (f,v) w
section
variable {P:Program}{ng:Nat}{e:Env}{B0:Nat}{w0:World}{b:Frame}{nt:Nat}{g:Gm}{nx:Nat}{a:Act}{w:World}{to:Tm}{hp:Hp}
theorem I1{t:TypeId}{v v':Value}(h:(Instr.loadAt t v).run P w=.ok v' w):(do loadVar t (<-asAddr v):Sem Value).run P w=.ok v' w:=by
 unfold Instr.loadAt Instr.sureAddr at h
 unfold asAddr
 cases v with
 |pointer x=>
  cases x with
  |some a=>exact h
  |none=>exact nomatch (show Result.halt (.stuck _) w=Result.ok v' w from h)
 |_=>exact nomatch (show Result.halt (.stuck _) w=Result.ok v' w from h)
def PJ(T:Ty)(hp:Hp)(t:Tm):ResultVar->Option Value
 |.tmp i=>some ((aaj (.tmp i)).run t)
 |.cell a ty=>kB T hp ty ((aaj (.tmp a)).run t)
theorem NW(T:Ty)(hp:Hp)(t:Tm)(r:ResultVar)(rs:List ResultVar):mH T hp t (r::rs)=(PJ T hp t r).bind fun v=>(mH T hp t rs).map (v::·):=by
 cases r with
 |tmp i=>simp only[mH,PJ,Option.bind_some];cases mH T hp t rs<;>rfl
 |cell a ty=>simp only[mH,PJ];cases kB T hp ty ((aaj (.tmp a)).run t)<;>cases mH T hp t rs<;>rfl
def Ck(tmps:Array Value):ResultVar->Sem Value
 |.tmp t=>pure (tmps.getD t undef)
 |.cell a t=>do loadVar t (<-asAddr (tmps.getD a undef))
theorem PK{T:Ty}(ok:T.Ok P)(H:gu B0 w0 g hp nx w)(j:rL g nt to a.tmps){r:ResultVar}(hr:(match r with|.tmp i=>Nat.blt i nt|.cell i _=>Nat.blt i nt)=true){v:Value}(h:PJ T hp to r=some v):
 ∃v',(Ck a.tmps r).run P w=.ok v' w/\fQ g v v':=by
 cases r with
 |tmp i=>
  cases h
  exact⟨_,rfl,j.2 i (Nat.le_of_ble_eq_true hr)⟩
 |cell i ty=>
  obtain⟨v',h1,h2⟩:=FQ (P:=P) ok H h (j.2 i (Nat.le_of_ble_eq_true hr))
  exact⟨v',I1 h1,h2⟩
theorem Ep{T:Ty}(ok:T.Ok P)(H:gu B0 w0 g hp nx w)(o:rL g nt to a.tmps):∀(rs:List ResultVar),rs.all (fun|.tmp i=>Nat.blt i nt|.cell i _=>Nat.blt i nt)=true->∀vs,mH T hp to rs=some vs->
 ∃j,(rs.mapM (Ck a.tmps)).run P w=.ok j w/\gX g vs j
 |[],_,vs,h=>by cases h;exact⟨[],rfl,gX.nil g⟩
 |r::rs,hr,vs,h=>by
  rw[NW]at h
  rw[List.all_cons,Bool.and_eq_true]at hr
  obtain⟨v,h1,h2⟩:=Option.bind_eq_some_iff.1 h
  obtain⟨l,h3,rfl⟩:=Option.map_eq_some_iff.1 h2
  obtain⟨v',C,I⟩:=PK ok H o (r:=r) (by cases r<;>exact hr.1) h1
  obtain⟨U,J,R⟩:=Ep ok H o rs hr.2 l h3
  refine⟨v'::U,?_,gX.cons I R⟩
  rw[List.mapM_cons,fw C,fw J];rfl
theorem NX{vs j:List Value}(h:gX g vs j):fQ g (qz vs) (if h:j.toArray.size=1 then j.toArray[0]else .tuple j.toArray):=by
 match vs,j,h with
 |[],[],h=>exact .tuple rfl (fun i v v' e=>by simp at e)
 |[v],[v'],h=>exact h.head
 |v::u::l,v'::C::o,h=>
  simp only[qz]
  rw[dif_neg (by simp)]
  exact .tuple h.toArray.1 h.toArray.2
 |[],_::_,h=>cases h.1
 |_::_,[],h=>cases h.1
 |[_],_::_::_,h=>cases h.1
 |_::_::_,[_],h=>cases h.1
theorem DE{T:Ty}(ok:T.Ok P)(H:gu B0 w0 g hp nx w)(o:rL g nt to a.tmps){fn:Func}{rs:List ResultVar}(hf:fn.results.toList=rs)(hr:rs.all (fun|.tmp i=>Nat.blt i nt|.cell i _=>Nat.blt i nt)=true){vs:List Value}
 (h:mH T hp to rs=some vs):∃v',(results fn a.tmps).run P w=.ok v' w/\fQ g (qz vs) v':=by
 obtain⟨j,h1,h2⟩:=Ep ok H o rs hr vs h
 refine⟨_,?_,NX h2⟩
 have e:results fn a.tmps=(do let vs<-fn.results.mapM (Ck a.tmps);pure (if h:vs.size=1 then vs[0]else .tuple vs)):=by
  unfold results
  refine congrArg (fun m:Sem (Array Value)=>m >>= fun vs=>pure (if h:vs.size=1 then vs[0]else .tuple vs)) ?_
  exact congrArg (fun f=>Array.mapM f fn.results) (funext fun r=>by cases r<;>rfl)
 rw[e]
 have e2:(fn.results.mapM (Ck a.tmps)).run P w=.ok j.toArray w:=by
  have:fn.results.mapM (Ck a.tmps)=(do let l<-rs.mapM (Ck a.tmps);pure l.toArray):=by
   rw[<-hf,Array.mapM_eq_mapM_toList];rfl
  rw[this,fw h1];rfl
 rw[fw e2]
 rfl
end
end
end Sw
namespace Sw
noncomputable section
open Go Go.RowKit
theorem PL{α:Type}(x:α):∀n,(g8 α n).get (r8 x)=x
 |0|1|2|3|4|5|6=>rfl
 |_+7=>rfl
theorem Tm.Q7(j:Nat):Tm.undef.get j=Go.undef:=by
 show(acc j).get Tm.undef=_
 rw[Vs]
 unfold Tm.undef
 rw[PL,PL,PL]
theorem FR:∀(n i:Nat) (l:List Value) (t0 t:Tm),i+n<=512->setArgs (Ci n i) l t0=some t->l.length<=n/\∀j,j<512->t.get j=if i<=j/\j<i+l.length then l.getD (j-i) Go.undef else t0.get j
 |n,i,[],t0,t,_,h=>by
  have:t=t0:=by cases n<;>(simp only[Ci,setArgs]at h;cases h;rfl)
  subst this
  exact⟨by simp,fun j _=>by rw[if_neg (by simp)]⟩
 |0,i,v::l,t0,t,_,h=>by simp[Ci,setArgs]at h
 |n+1,i,v::l,t0,t,hn,h=>by
  simp only[Ci,setArgs]at h
  obtain⟨h1,h2⟩:=FR n (i+1) l _ t (by omega) h
  refine⟨by simp;omega,fun j hj=>?_⟩
  rw[h2 j hj,C2,Tm.nJ _ _ (by omega) hj]
  by_cases o:i=j
  · subst o
    rw[if_neg (by omega),if_pos rfl,if_pos (by simp)]
    simp
  · rw[if_neg o]
    by_cases hb:i+1<=j/\j<i+1+l.length
    · rw[if_pos hb,if_pos (by simp;omega)]
      have:j-i=(j-(i+1))+1:=by omega
      rw[this];simp
    · rw[if_neg hb,if_neg (by simp;omega)]
theorem PM{g:Gm}{nt:Nat}{l:List Value}{args:Array Value}{t:Tm}(hn:nt<=512)(hl:l.length<=nt)(hr:gX g l args.toList)(h:setArgs yV l Tm.undef=some t):
 rL g nt t (args++Array.replicate (nt-args.size) Go.undef):=by
 obtain⟨_,h2⟩:=FR 64 0 l _ t (by omega) h
 have hs:args.size=l.length:=by have:=hr.1;simp at this;omega
 refine⟨by simp;omega,fun i hi=>?_⟩
 rw[h2 i (by omega)]
 by_cases hb:i<l.length
 · rw[if_pos ⟨Nat.zero_le _,by omega⟩]
   have j:i<args.size:=by omega
   have e1:l.getD (i-0) Go.undef=l[i]:=by simp[hb]
   have e2:(args++Array.replicate (nt-args.size) Go.undef).getD i Go.undef=args[i]:=by
    rw[Array.getD_eq_getD_getElem?,Array.getElem?_append_left j];simp[j]
   rw[e1,e2]
   exact hr.2 i _ _ (by simp[hb]) (by simp[j])
 · rw[if_neg (by omega),Tm.Q7]
   have e2:(args++Array.replicate (nt-args.size) Go.undef).getD i Go.undef=Go.undef:=by
    rw[Array.getD_eq_getD_getElem?,Array.getElem?_append_right (by omega)]
    simp[Array.getElem?_replicate]
    split<;>rfl
   rw[e2];exact fQ.undef g
def wY(g:Gm)(b:Frame):Option Nat->Prop
 |none=>b.roundOf=none
 |some l=>∃rl,b.roundOf=some rl/\g.gb l=some (rl,0)
def ot(P:Program)(ng:Nat)(B0:Nat)(w0:World)(rec:Rec):Prop:=
 ∀(fm:Fm) (c:Code) (s:St) (b:Frame) (a:Act) (w:World) (g:Gm),b.fn=fm.fn->wY g b fm.WT->kT g ng->fm.nt<=512->rU g fm.nt c->vg B0 w0 g fm.nt s a w->∀(ks:List Item) (fs:List Frame),
  uS P B0 w0 b fm.nt g s.nx c a w ks fs fun cs=>rec fm c (s.at cs)
structure X7(P:Program)(kind:CallKind)(f:FuncId)(fr:Frame)(a:Act):Prop where
 mode:fr.mode=.returning
 kind:fr.kind=kind
 fn:fr.fn=f
 tmps:fr.tmps=a.tmps
 defers:fr.defers=a.defers
def JR(P:Program)(B0:Nat)(w0:World)(kind:CallKind)(g:Gm)(nx:Nat)(f:FuncId)(nt:Nat)(args:Array Value)(w:World)(ds:List Deferred)(to:Tm)(fe:Ht)(fg:Nat)(fs:List Frame):Prop:=
 ∃a' w' g',gu B0 w0 g' fe.get fg w'/\rL g' nt to a'.tmps/\mV g' ds a'.defers/\Ext g nx w g' fg w'/\
  ∃fr,Steps P (lone (Frame.enter P f args kind) fs w) (lone fr fs w')/\X7 P kind f fr a'
section
variable {P:Program}{ng:Nat}{e:Env}{B0:Nat}{w0:World}{b:Frame}{nt:Nat}{g:Gm}{nx:Nat}{a:Act}{w:World}{to:Tm}{hp:Ht}{rec:Rec}
theorem FU{cs:List Frame}(hr:b.roundOf=none):step P (lone (At b a []) cs w)=.next (lone {At b a []with mode:=.returning} cs w):=
 step_lone_go (by simp[stepG,stepG.exec,At,hr])
theorem NY{cs:List Frame}{k:List Item}(hr:b.roundOf=none):step P (lone (At b a (.code .ret::k)) cs w)=.next (lone {At b a (.code .ret::k)with mode:=.returning} cs w):=
 step_lone_go (by simp[stepG,stepG.exec,At,hr])
theorem FV(ok:mE P ng e)(ih:ot P ng B0 w0 rec)(H:gu B0 w0 g hp.get nx w)(hg:kT g ng){f:FuncId}{fi:vQ}(hf:e.F f=some fi){l:List Value}{args:Array Value}(hl:gX g l args.toList)(kind:CallKind)(fs:List Frame)
 (k:List Deferred->Tm->Ht->Nat->List Nat->R):
 lS (fun cs=>sA rec f fi l hp nx cs k) fun f'=>zA f'\/∃ds to fe fg,(∀cs,f' cs=k ds to fe fg cs)/\JR P B0 w0 kind g nx f fi.nt args w ds to fe fg fs:=by
 obtain⟨fn,f1,f2,f3,f4,f5,f6,f7,f8⟩:=ok.F f fi hf
 cases hb:Nat.ble l.length fi.nt with
 |false=>exact .dead fun cs=>⟨0,by simp[sA,hb]⟩
 |true=>
  cases hs:setArgs yV l Tm.undef with
  |none=>exact .dead fun cs=>⟨0,by simp[sA,hb,hs]⟩
  |some t=>
   have hlen:=Nat.le_of_ble_eq_true hb
   have hT:=PM (g:=g) f6 hlen hl hs
   let a0:Act:=⟨args++Array.replicate (fi.nt-args.size) Go.undef,[]⟩
   have he:∀kind,Frame.enter P f args kind=At (Frame.enter P f args kind) a0 [.code fi.body]:=fun kind=>by simp[Frame.enter,At,f1,f2,f3,a0]
   have aa:vg B0 w0 g fi.nt ⟨t,[],hp,nx,[]⟩ a0 w:=⟨H,hT,⟨rfl,fun i d d' h=>by simp at h⟩⟩
   have xI:=ih ⟨f,fi.nt,none⟩ fi.body ⟨t,[],hp,nx,[]⟩ (Frame.enter P f args kind) a0 w g (by simp[Frame.enter]) (by simp[Frame.enter,wY]) hg f6 ⟨ng,hg,f7⟩ aa [] fs
   refine lS.map xI (fun p m h=>?_) fun pre h=>?_
   · have h:rec ⟨f,fi.nt,none⟩ fi.body ⟨t,[],hp,nx,p⟩=.gm m:=h
     simp[sA,hb,hs,h]
   · refine .here ?_
     rcases h with h|⟨o,C,h,L⟩
     · refine .inl fun cs=>?_
       obtain⟨m,h⟩:=h cs
       have h:rec ⟨f,fi.nt,none⟩ fi.body ⟨t,[],hp,nx,pre++cs⟩=.gm m:=h
       exact⟨m,by simp[sA,hb,hs,h]⟩
     · have h:∀cs,rec ⟨f,fi.nt,none⟩ fi.body ⟨t,[],hp,nx,pre++cs⟩=.ok (o,C.at cs):=h
       cases J:Nat.ble o 1 with
       |false=>exact .inl fun cs=>⟨0,by simp[sA,hb,hs,h,St.at,J]⟩
       |true=>
        refine .inr ⟨C.ds,C.to,C.hp,C.nx,fun cs=>by simp[sA,hb,hs,h,St.at,J],?_⟩
        obtain⟨a',w',g',S',U,todo,j,st⟩:=L
        refine⟨a',w',g',S'.heap,S'.act.1,S'.act.2,U,?_⟩
        have hr:(Frame.enter P f args kind).roundOf=none:=by simp[Frame.enter]
        have hk:(Frame.enter P f args kind).kind=kind:=by simp[Frame.enter]
        have I:(Frame.enter P f args kind).fn=f:=by simp[Frame.enter]
        rw[<-he]at st
        have:=Nat.le_of_ble_eq_true J
        match o,j with
        |0,j=>
         have j:todo=[]:=j
         subst j
         exact⟨_,st.trans (.one (FU hr)),rfl,hk,I,rfl,rfl⟩
        |1,j=>
         obtain⟨ab,rfl⟩:=j
         exact⟨_,st.trans (.one (NY hr)),rfl,hk,I,rfl,rfl⟩
        |o+2,_=>omega
end
end
end Sw
namespace Sw
noncomputable section
open Go Go.RowKit
section
variable {P:Program}{ng:Nat}{e:Env}{B0:Nat}{w0:World}{b:Frame}{nt:Nat}{g:Gm}{nx:Nat}{a:Act}{w:World}{to:Tm}{hp:Ht}{rec:Rec}
theorem Ext.putObj{r rr ro:Nat}(hg:g.gb r=some (rr,ro))(o:Obj):Ext g nx w g nx (w.putObj rr o):=
 ⟨xH.refl _ _,⟨by simp,fun rb _ j=>World.putObj_heap_other (fun h=>j r ro (by rw[hg,h]))⟩,pk.refl _ _⟩
theorem Ext.alloc{n fg:Nat}(hn:nx<=n)(hx:n<fg)(hg:g.gb n=none)(o:Obj)(room:Option (Nat×Nat)):Ext g nx w (g.add n (w.heap.size,0) room) fg (w.alloc o):=
 ⟨⟨Gm.qM hg _ _,by omega,fun b hb=>by
   by_cases h:b=n
   · exact .inr (by omega)
   · rw[Gm.jV _ _ _ h]at hb;exact .inl hb⟩,⟨by simp,fun rb jz _=>(sZ.alloc w o).other rb (by omega)⟩,pk.new⟩
theorem Ext.more{g':Gm}{w':World}{j n2:Nat}(h:Ext g nx w g' j w')(k:j<=n2):Ext g nx w g' n2 w':=⟨⟨h.ext.le,Nat.le_trans h.ext.num k,h.ext.new⟩,h.kept,h.held⟩
def qk(P:Program)(B0:Nat)(w0:World)(kind:CallKind)(g:Gm)(nx:Nat)(f:FuncId)(args:Array Value)(w:World)(v:Value)(fe:Ht)(fg:Nat)(fs:List Frame):Prop:=
 ∃v' w' g',gu B0 w0 g' fe.get fg w'/\fQ g' v v'/\Ext g nx w g' fg w'/\
  ∃fr,Steps P (lone (Frame.enter P f args kind) fs w) (lone fr fs w')/\fr.mode=.returning/\fr.defers=[]/\fr.kind=kind/\fr.fn=f/\∃fn,P.funcs[fr.fn]?=some fn/\(results fn fr.tmps).run P w'=.ok v' w'
def tx(P:Program)(B0:Nat)(w0:World)(kind:CallKind)(g:Gm)(nx:Nat)(f:FuncId)(args:Array Value)(w:World)(fs:List Frame)(run:List Nat->KC->R):Prop:=
 ∀k:KC,lS (fun cs=>run cs k) fun f'=>zA f'\/∃v fe fg,(∀cs,f' cs=k v fe fg cs)/\qk P B0 w0 kind g nx f args w v fe fg fs
theorem AL{f:FuncId}{fn:Func}{c:Code}(hf:P.funcs[f]?=some fn)(hb:fn.body=some c)(hn:(fn.name== "runtime.NumGoroutine")=false)(args:Array Value):(callFunc f args).run P w=.ok (.enter f args) w:=by
 unfold callFunc
 have:(program:Sem Program).run P w=.ok P w:=rfl
 rw[fw this,hf]
 simp[hn,hb]
theorem run_takeDeferred{r:Nat}{ds:List Deferred}(h:w.heap[r]?=some (.deferred (some ds))):(Instr.takeDeferred r).run P w=.ok ds (w.putObj r (.deferred none)):=by
 have hc:∀c e f,Obj.deferred (some ds)≠.cells c e f:=fun _ _ _ h=>by cases h
 unfold Instr.takeDeferred
 rw[fw (nZ h hc)]
 simp only
 rw[fw (p0 _ h hc)];rfl
theorem Er{fr:Frame}{cs:List Frame}{r:Nat}{x:Array Value}{ds l:List Deferred}(hm:fr.mode=.returning)(hd:fr.defers=⟨.collected r,x⟩::ds)(h:w.heap[r]?=some (.deferred (some l))):
 step P (lone fr cs w)=.next (lone {fr with defers:=l++ds} cs (w.putObj r (.deferred none))):=
 step_lone_go (by simp[stepG,unwind,hm,hd,run_takeDeferred h])
theorem Es{fr:Frame}{cs:List Frame}{f:FuncId}{fn:Func}{c:Code}(hf:P.funcs[f]?=some fn)(hb:fn.body=some c)(hn:(fn.name== "runtime.NumGoroutine")=false){cap x:Array Value}{ds:List Deferred}
 (hm:fr.mode=.returning) (hd:fr.defers=⟨.fn (.func f) cap,x⟩::ds):
 step P (lone fr cs w)=.next (lone (Frame.enter P f (x++cap) .deferred) ({fr with defers:=ds}::cs) w):=by
 have h:(invoke (.fn (.func f) cap) x).run P w=.ok (.enter f (x++cap)) w:=AL hf hb hn _
 exact step_lone_go (by simp[stepG,unwind,hm,hd,callDeferred,h])
theorem zP{fr c:Frame}{cs:List Frame}{v:Value}(hm:fr.mode=.returning)(hd:fr.defers=[])(hk:fr.kind=.deferred){fn:Func}(hf:P.funcs[fr.fn]?=some fn)(hr:(results fn fr.tmps).run P w=.ok v w)(hc:c.mode=.returning):
 step P (lone fr (c::cs) w)=.next (lone c cs w):=
 step_lone_go (by simp[stepG,unwind,doReturn,hm,hd,hk,hf,hr,hc])
def sU(P:Program)(B0:Nat)(w0:World)(g:Gm)(nx:Nat)(w:World)(fe:Ht)(fg:Nat)(fr:Frame)(fs:List Frame):Prop:=
 ∃w' g',gu B0 w0 g' fe.get fg w'/\Ext g nx w g' fg w'/\Steps P (lone fr fs w) (lone {fr with defers:=[]} fs w')
theorem mV.vT{j:List Deferred}(h:mV g [] j):j=[]:=by have:=h.1;cases j<;>first|rfl|cases this
theorem mV.cons_inv{d:Deferred}{ds o:List Deferred}(h:mV g (d::ds) o):∃d' j,o=d'::j/\BI g d d'/\mV g ds j:=by
 cases o with
 |nil=>cases h.1
 |cons d' j=>exact⟨d',j,rfl,h.2 0 d d' rfl rfl,by have:=h.1;simpa using this,fun i x x' e C=>h.2 (i+1) x x' (by simpa using e) (by simpa using C)⟩
theorem sU.nil(H:gu B0 w0 g hp.get nx w){fr:Frame}{fs:List Frame}(hd:fr.defers=[]):sU P B0 w0 g nx w hp nx fr fs:=
 ⟨w,g,H,Ext.refl _ _ _,by
   have:{fr with defers:=[]}=fr:=by rw[<-hd]
   rw[this];exact .refl ..⟩
theorem sU.Gk(H:gu B0 w0 g hp.get nx w){r:Nat}{d':Deferred}{j:List Deferred}(hr:hp.get r=some (.deferred (some [])))(hd:BI g ⟨.collected r,#[]⟩ d'){fe:Ht}{fg:Nat}{fr:Frame}{fs:List Frame}(hm:fr.mode=.returning)(he:fr.defers=d'::j)
 (k:∀C,gu B0 w0 g (hp.set r (some (.deferred none))).get nx C->sU P B0 w0 g nx C fe fg {fr with defers:=j} fs):sU P B0 w0 g nx w fe fg fr fs:=by
 cases hd with
 |@Gk _ rr hg=>
  obtain⟨jq,h2,h3⟩:=(H.live _ _ hr).2 _ _ hg
  cases jq<;>first|exact h3.elim|skip
  rename_i l
  cases l with
  |none=>exact h3.elim
  |some l=>
   obtain⟨_,o,h4⟩:=h3
   cases mV.vT h4
   have H1:=H.setObj hr hg (o':=.deferred none) (fun _ _ h=>by cases h) (fun _ _ h=>by cases h) rfl (.deferred none) o ⟨rfl,o⟩
   rw[<-Tr.nJ]at H1
   obtain⟨w',g',R,E,st⟩:=k _ H1
   exact⟨w',g',R,(Ext.putObj hg _).trans E,.head (Er hm he h2) st⟩
theorem DF{low:Nat}:∀(ds j:List Deferred) (hp fe:Ht) (w:World) (fr:Frame) (fs:List Frame),gu B0 w0 g hp.get nx w->mV g ds j->yq low ds hp=some fe->fr.mode=.returning->fr.defers=j->sU P B0 w0 g nx w fe nx fr fs
 |[],j,hp,fe,w,fr,fs,H,hd,h,_,he=>by
  cases h
  cases mV.vT hd
  exact sU.nil H he
 |d::ds,j,hp,fe,w,fr,fs,H,hd,h,hm,he=>by
  obtain⟨d',o,rfl,h1,h2⟩:=hd.cons_inv
  obtain⟨I,C⟩:=d
  cases I<;>first|(simp[yq]at h;done)|skip
  rename_i r
  simp only[yq]at h
  split at h
  · rename_i hr
    cases hb:Nat.ble low r with
    |false=>rw[hb]at h;cases h
    |true=>
     rw[hb]at h
     have:C=#[]:=by cases h1;rfl
     subst this
     exact sU.Gk H hr h1 hm he fun J H1=>DF ds o _ fe J _ fs H1 h2 h hm rfl
  · cases h
theorem qk.I2(ok:mE P ng e){kind:CallKind}{f:FuncId}{fi:vQ}(hf:e.F f=some fi){args:Array Value}{ds:List Deferred}{I jN:Ht}{o oG:Nat}{vs:List Value}{fs:List Frame}
 (hb:JR P B0 w0 kind g nx f fi.nt args w ds to I o fs) (hu:∀fr C g1,gu B0 w0 g1 I.get o C->mV g1 ds fr.defers->xH g nx g1 o->fr.mode=.returning->sU P B0 w0 g1 o C jN oG fr fs) (hr:mH e.T jN.get to fi.res=some vs):
 qk P B0 w0 kind g nx f args w (qz vs) jN oG fs:=by
 obtain⟨fn,f1,f2,f3,f4,f5,f6,f7,f8⟩:=ok.F f fi hf
 obtain⟨a',C,g1,H1,ad,ab,J,fr,s1,j⟩:=hb
 obtain⟨aa,g2,U,R,st2⟩:=hu fr C g1 H1 (by rw[j.defers];exact ab) J.ext j.mode
 obtain⟨v',r1,r2⟩:=DE ok.T U (ad.mono R.ext.le) f4 f8 hr
 refine⟨v',aa,g2,U,r2,J.trans R,{fr with defers:=[]},s1.trans st2,j.mode,rfl,j.kind,j.fn,fn,?_,?_⟩
 · show P.funcs[fr.fn]?=_;rw[j.fn];exact f1
 · show(results fn fr.tmps).run P aa=_;rw[j.tmps];exact r1
theorem NZ(ok:mE P ng e)(ih:ot P ng B0 w0 rec)(H:gu B0 w0 g hp.get nx w)(hg:kT g ng){f:FuncId}{l:List Value}{args:Array Value}(hl:gX g l args.toList)(kind:CallKind)(fs:List Frame):
 (∃fi,e.F f=some fi)->tx P B0 w0 kind g nx f args w fs fun cs k=>Ei e rec f l hp nx cs k:=by
 rintro ⟨fi,hf⟩ k
 have h0:(fun cs=>Ei e rec f l hp nx cs k)=fun cs=>sA rec f fi l hp nx cs (fun ds to hp nx cs=>match yq e.low ds hp with
  |some h=>yr e.T fi to k h nx cs
  |none=>.gm 0):=by funext cs;simp only[Ei,hf]<;>rfl
 rw[h0]
 refine(FV ok ih H hg hf hl kind fs _).mono fun f' h=>?_
 rcases h with h|⟨ds,to,j,o,h,B⟩
 · exact .inl h
 · cases hu:yq e.low ds j with
   |none=>exact .inl fun cs=>⟨0,by rw[h,hu]⟩
   |some jN=>
    cases hr:mH e.T jN.get to fi.res with
    |none=>exact .inl fun cs=>⟨0,by rw[h,hu];simp[yr,hr]⟩
    |some vs=>
     refine .inr ⟨qz vs,jN,o,fun cs=>by rw[h,hu];simp[yr,hr],?_⟩
     exact qk.I2 ok hf B (fun fr I g1 H1 C _ hm=>DF ds fr.defers j jN I fr fs H1 C hu hm rfl) hr
end
end
end Sw
