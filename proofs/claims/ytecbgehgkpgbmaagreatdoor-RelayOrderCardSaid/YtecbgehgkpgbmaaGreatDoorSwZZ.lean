/- A part of the proof that the law returns true for every input that its row speaks of. No condition is added. -/
import Derived.Test.YtecbgehgkpgbmaaGreatDoorSwAN
import Derived.Test.YtecbgehgkpgbmaaGreatDoorSwAZ
import Derived.Test.YtecbgehgkpgbmaaGreatDoorRows
import Derived.Test.YtecbgehgkpgbmaaGreatDoorSwBA
import Derived.Test.YtecbgehgkpgbmaaGreatDoorSwBB
import Derived.Test.YtecbgehgkpgbmaaGreatDoorSwBC
import Derived.Test.YtecbgehgkpgbmaaGreatDoorSwBD
import Derived.Test.YtecbgehgkpgbmaaGreatDoorSwBE
import Derived.Test.YtecbgehgkpgbmaaGreatDoorSwBF
import Derived.Lay
import Derived.SevenTiedAt
import Derived.Test.YtecbgehgkpgbmaaGreatDoorTie
import Derived.Test.YtecbgehgkpgbmaaGreatDoorCards
import Derived.JoinedOf
namespace Sw
noncomputable section
open Go Go.Proofs Go.Proofs.YtecbgehgkpgbmaaGreatDoor Go.RowKit Go.ChangeShapes Go.WideShapes
set_option maxRecDepth 100000
theorem Pj{hp:Ht}{nx k:Nat}{ls:List Value}(h:Rp Tryz.prog hp nx k 9 ls):∃x:ByteArray,ls=Y5 x:=by
 obtain⟨z,rfl,_⟩:=Rp.string (by kernel_rfl) h
 exact⟨z,rfl⟩
theorem pV{hp:Ht}{nx k:Nat}{ls:List Value}(h:Rp Tryz.prog hp nx k 3 ls):∃x:Int,ls=encI x:=by
 obtain⟨z,rfl,_⟩:=Rp.int (ik:=.i64) (by kernel_rfl) h
 exact⟨z,rfl⟩
theorem Yx{hp:Ht}{nx k:Nat}{ls:List Value}(h:Rp Tryz.prog hp nx k 140 ls):∃x:tz,ls=oQ x:=by
 obtain⟨n,lss,rfl,g⟩:=Rp.fields (ts:=[9,3]) (by kernel_rfl) h
 obtain⟨J,j,rfl,h0,g0⟩:=g.cons
 obtain⟨C,rfl⟩:=Pj h0
 obtain⟨R,o,rfl,h1,g1⟩:=g0.cons
 obtain⟨I,rfl⟩:=pV h1
 obtain rfl:=g1.nil
 exact⟨⟨C,I⟩,rfl⟩
theorem Zy{hp:Ht}{nx k:Nat}{ls:List Value}(h:Rp Tryz.prog hp nx k 22 ls):∃x:SV tz,ls=lG x/\gA oQ 2 hp nx x:=
 Rp.vk (enc:=oQ) (m:=2) (by kernel_rfl) (fun _=>rfl) (fun _ _ h=>Yx h) h
theorem Yy{hp:Ht}{nx k:Nat}{ls:List Value}(h:Rp Tryz.prog hp nx k 142 ls):∃x:sQ,ls=mi x:=by
 obtain⟨n,lss,rfl,g⟩:=Rp.fields (ts:=[3,3,3,3]) (by kernel_rfl) h
 obtain⟨ab,j,rfl,h0,g0⟩:=g.cons
 obtain⟨J,rfl⟩:=pV h0
 obtain⟨ad,o,rfl,h1,g1⟩:=g0.cons
 obtain⟨R,rfl⟩:=pV h1
 obtain⟨ae,C,rfl,h2,g2⟩:=g1.cons
 obtain⟨U,rfl⟩:=pV h2
 obtain⟨af,I,rfl,h3,g3⟩:=g2.cons
 obtain⟨aa,rfl⟩:=pV h3
 obtain rfl:=g3.nil
 exact⟨⟨J,R,U,aa⟩,rfl⟩
theorem Zz{hp:Ht}{nx k:Nat}{ls:List Value}(h:Rp Tryz.prog hp nx k 23 ls):∃x:SV sQ,ls=lG x/\gA mi 4 hp nx x:=
 Rp.vk (enc:=mi) (m:=4) (by kernel_rfl) (fun _=>rfl) (fun _ _ h=>Yy h) h
theorem Hk{hp:Ht}{nx k:Nat}{ls:List Value}(h:Rp Tryz.prog hp nx k 3 ls):∃x:Int,ls=encI x:=by
 obtain⟨z,rfl,hw⟩:=Rp.int (ik:=.i64) (by kernel_rfl) h
 exact⟨z,rfl⟩
theorem vX.up:∀{n:Nat} {hp:Ht} {nx:Nat} {c:RPart},vX n hp nx c->vX (n+1) hp nx c
 |0,_,_,_,h=>h.elim
 |_+1,_,_,_,h=>⟨⟨h.1.1,fun x hx=>(h.1.2 x hx).up⟩,h.2⟩
theorem XV{hp:Ht}{nx:Nat}:∀(k:Nat) {ls:List Value},Rp Tryz.prog hp nx k 144 ls->∃x:RPart,ls=jJ x/\vX k hp nx x:=by
 intro k
 induction k using Nat.strongRecOn with
 |_ k ih=>
  intro ls h
  obtain⟨n,lss,rfl,rfl,g⟩:=Rp.JL (ts:=[3,3,106]) (by kernel_rfl) h
  obtain⟨ab,o,rfl,h0,g0⟩:=g.cons
  obtain⟨U,rfl⟩:=Hk h0
  obtain⟨ad,C,rfl,h1,g1⟩:=g0.cons
  obtain⟨aa,rfl⟩:=Hk h1
  obtain⟨ae,I,rfl,h2,g2⟩:=g1.cons
  obtain rfl:=g2.nil
  obtain⟨j,s,rfl,rfl,J,R,q3⟩:=Rp.CP (enc:=jJ) (m:=3) (E:=fun j x=>vX j hp nx x) (by kernel_rfl) (fun _=>rfl) (fun j e l hl=>ih j (by omega) hl) h2
  rw[show Tryz.prog.bytesOf 144=40 from by kernel_rfl]at q3
  exact⟨.mk U aa s.v s.l,rfl,vX.up (show vX (j+1) hp nx _ from⟨⟨J,R⟩,q3⟩)⟩
theorem Yz{hp:Ht}{nx k:Nat}{ls:List Value}(h:Rp Tryz.prog hp nx k 106 ls):∃x:SV RPart,ls=lG x/\jt jJ 3 (fun hp nx y=>kL hp nx y) hp nx x:=by
 obtain⟨j,s,rfl,rfl,o,C,q3⟩:=Rp.CP (enc:=jJ) (m:=3) (E:=fun j x=>kL hp nx x) (by kernel_rfl) (fun _=>rfl) (fun j e l hl=>by obtain⟨x,e,hx⟩:=XV j hl;exact⟨x,e,_,hx⟩) h
 exact⟨s,rfl,⟨o,C⟩⟩
theorem YA{hp:Ht}{nx k:Nat}{ls:List Value}(h:Rp Tryz.prog hp nx k 365 ls):∃x:ou,ls=lN x:=by
 obtain⟨n,lss,rfl,g⟩:=Rp.fields (ts:=[3,3,3]) (by kernel_rfl) h
 obtain⟨U,j,rfl,h0,g0⟩:=g.cons
 obtain⟨I,rfl⟩:=pV h0
 obtain⟨aa,o,rfl,h1,g1⟩:=g0.cons
 obtain⟨J,rfl⟩:=pV h1
 obtain⟨ab,C,rfl,h2,g2⟩:=g1.cons
 obtain⟨R,rfl⟩:=pV h2
 obtain rfl:=g2.nil
 exact⟨⟨I,J,R⟩,rfl⟩
theorem YB{hp:Ht}{nx k:Nat}{ls:List Value}(h:Rp Tryz.prog hp nx k 107 ls):∃x:SV ou,ls=lG x/\gA lN 3 hp nx x:=
 Rp.vk (enc:=lN) (m:=3) (by kernel_rfl) (fun _=>rfl) (fun _ _ h=>YA h) h
theorem YC{hp:Ht}{nx k:Nat}{ls:List Value}(h:Rp Tryz.prog hp nx k 109 ls):∃x:j5,ls=iI x/\lO hp nx x:=by
 obtain⟨n,lss,rfl,g⟩:=Rp.fields (ts:=[9,106,3,107,3]) (by kernel_rfl) h
 obtain⟨af,j,rfl,h0,g0⟩:=g.cons
 obtain⟨U,rfl⟩:=Pj h0
 obtain⟨ag,o,rfl,h1,g1⟩:=g0.cons
 obtain⟨aa,rfl,R⟩:=Yz h1
 obtain⟨ah,C,rfl,h2,g2⟩:=g1.cons
 obtain⟨ab,rfl⟩:=pV h2
 obtain⟨ai,I,rfl,h3,g3⟩:=g2.cons
 obtain⟨ad,rfl,q3⟩:=YB h3
 obtain⟨aj,J,rfl,h4,g4⟩:=g3.cons
 obtain⟨ae,rfl⟩:=pV h4
 obtain rfl:=g4.nil
 exact⟨⟨U,aa,ab,ad,ae⟩,rfl,⟨R,q3⟩⟩
theorem ZA{hp:Ht}{nx k:Nat}{ls:List Value}(h:Rp Tryz.prog hp nx k 24 ls):∃x:SV j5,ls=lG x/\jt iI 5 (fun hp nx y=>lO hp nx y) hp nx x:=
 Rp.slice (E:=fun hp nx y=>lO hp nx y) (enc:=iI) (m:=5) (by kernel_rfl) (fun _=>rfl) (fun _ _ h=>YC h) h
theorem YD{hp:Ht}{nx k:Nat}{ls:List Value}(h:Rp Tryz.prog hp nx k 146 ls):∃x:qJ,ls=nj x:=by
 obtain⟨n,lss,rfl,g⟩:=Rp.fields (ts:=[9,3]) (by kernel_rfl) h
 obtain⟨J,j,rfl,h0,g0⟩:=g.cons
 obtain⟨C,rfl⟩:=Pj h0
 obtain⟨R,o,rfl,h1,g1⟩:=g0.cons
 obtain⟨I,rfl⟩:=pV h1
 obtain rfl:=g1.nil
 exact⟨⟨C,I⟩,rfl⟩
theorem ZB{hp:Ht}{nx k:Nat}{ls:List Value}(h:Rp Tryz.prog hp nx k 25 ls):∃x:SV qJ,ls=lG x/\gA nj 2 hp nx x:=
 Rp.vk (enc:=nj) (m:=2) (by kernel_rfl) (fun _=>rfl) (fun _ _ h=>YD h) h
theorem Y0{hp:Ht}{nx k:Nat}{ls:List Value}(h:Rp Tryz.prog hp nx k 4 ls):∃x:Bool,ls=Y4 x:=by
 obtain⟨z,rfl⟩:=Rp.bool (by kernel_rfl) h
 exact⟨z,rfl⟩
theorem YE{hp:Ht}{nx k:Nat}{ls:List Value}(h:Rp Tryz.prog hp nx k 355 ls):∃x:mC,ls=j9 x:=by
 obtain⟨n,lss,rfl,g⟩:=Rp.fields (ts:=[9,3,3,4]) (by kernel_rfl) h
 obtain⟨ab,j,rfl,h0,g0⟩:=g.cons
 obtain⟨J,rfl⟩:=Pj h0
 obtain⟨ad,o,rfl,h1,g1⟩:=g0.cons
 obtain⟨R,rfl⟩:=pV h1
 obtain⟨ae,C,rfl,h2,g2⟩:=g1.cons
 obtain⟨U,rfl⟩:=pV h2
 obtain⟨af,I,rfl,h3,g3⟩:=g2.cons
 obtain⟨aa,rfl⟩:=Y0 h3
 obtain rfl:=g3.nil
 exact⟨⟨J,R,U,aa⟩,rfl⟩
theorem ZC{hp:Ht}{nx k:Nat}{ls:List Value}(h:Rp Tryz.prog hp nx k 26 ls):∃x:SV mC,ls=lG x/\gA j9 4 hp nx x:=
 Rp.vk (enc:=j9) (m:=4) (by kernel_rfl) (fun _=>rfl) (fun _ _ h=>YE h) h
theorem YF{hp:Ht}{nx k:Nat}{ls:List Value}(h:Rp Tryz.prog hp nx k 359 ls):∃x:lP,ls=jS x:=by
 obtain⟨n,lss,rfl,g⟩:=Rp.fields (ts:=[9,3,3]) (by kernel_rfl) h
 obtain⟨U,j,rfl,h0,g0⟩:=g.cons
 obtain⟨I,rfl⟩:=Pj h0
 obtain⟨aa,o,rfl,h1,g1⟩:=g0.cons
 obtain⟨J,rfl⟩:=pV h1
 obtain⟨ab,C,rfl,h2,g2⟩:=g1.cons
 obtain⟨R,rfl⟩:=pV h2
 obtain rfl:=g2.nil
 exact⟨⟨I,J,R⟩,rfl⟩
theorem ZD{hp:Ht}{nx k:Nat}{ls:List Value}(h:Rp Tryz.prog hp nx k 27 ls):∃x:SV lP,ls=lG x/\gA jS 3 hp nx x:=
 Rp.vk (enc:=jS) (m:=3) (by kernel_rfl) (fun _=>rfl) (fun _ _ h=>YF h) h
theorem YG{hp:Ht}{nx k:Nat}{ls:List Value}(h:Rp Tryz.prog hp nx k 371 ls):∃x:oR,ls=lg x:=by
 obtain⟨n,lss,rfl,g⟩:=Rp.fields (ts:=[3,3,3,3]) (by kernel_rfl) h
 obtain⟨ab,j,rfl,h0,g0⟩:=g.cons
 obtain⟨J,rfl⟩:=pV h0
 obtain⟨ad,o,rfl,h1,g1⟩:=g0.cons
 obtain⟨R,rfl⟩:=pV h1
 obtain⟨ae,C,rfl,h2,g2⟩:=g1.cons
 obtain⟨U,rfl⟩:=pV h2
 obtain⟨af,I,rfl,h3,g3⟩:=g2.cons
 obtain⟨aa,rfl⟩:=pV h3
 obtain rfl:=g3.nil
 exact⟨⟨J,R,U,aa⟩,rfl⟩
theorem ZE{hp:Ht}{nx k:Nat}{ls:List Value}(h:Rp Tryz.prog hp nx k 28 ls):∃x:SV oR,ls=lG x/\gA lg 4 hp nx x:=
 Rp.vk (enc:=lg) (m:=4) (by kernel_rfl) (fun _=>rfl) (fun _ _ h=>YG h) h
theorem XW{hp:Ht}{nx:Nat}:∀(k:Nat) {ls:List Value},Rp Tryz.prog hp nx k 149 ls->∃x:RCond,ls=ig x/\te k hp nx x:=by
 intro k
 induction k using Nat.strongRecOn with
 |_ k ih=>
  intro ls h
  obtain⟨n,lss,rfl,rfl,g⟩:=Rp.JL (ts:=[3,3,3,147]) (by kernel_rfl) h
  obtain⟨ae,o,rfl,h0,g0⟩:=g.cons
  obtain⟨aa,rfl⟩:=Hk h0
  obtain⟨af,C,rfl,h1,g1⟩:=g0.cons
  obtain⟨ab,rfl⟩:=Hk h1
  obtain⟨ag,I,rfl,h2,g2⟩:=g1.cons
  obtain⟨ad,rfl⟩:=Hk h2
  obtain⟨ah,J,rfl,h3,g3⟩:=g2.cons
  obtain rfl:=g3.nil
  obtain⟨j,s,rfl,rfl,R,U,q3⟩:=Rp.CP (enc:=ig) (m:=4) (E:=fun j x=>te j hp nx x) (by kernel_rfl) (fun _=>rfl) (fun j e l hl=>ih j (by omega) hl) h3
  rw[show Tryz.prog.bytesOf 149=48 from by kernel_rfl]at q3
  exact⟨.mk aa ab ad s.v s.l,rfl,te.up (show te (j+1) hp nx _ from⟨⟨R,U⟩,q3⟩)⟩
theorem XX{hp:Ht}{nx:Nat}:∀(k:Nat) {ls:List Value},Rp Tryz.prog hp nx k 151 ls->∃x:RStep,ls=ju x/\qI k hp nx x:=by
 intro k
 induction k using Nat.strongRecOn with
 |_ k ih=>
  intro ls h
  obtain⟨n,lss,rfl,rfl,g⟩:=Rp.JL (ts:=[3,3,149,29,29]) (by kernel_rfl) h
  obtain⟨ai,J,rfl,h0,g0⟩:=g.cons
  obtain⟨af,rfl⟩:=Hk h0
  obtain⟨aj,R,rfl,h1,g1⟩:=g0.cons
  obtain⟨ag,rfl⟩:=Hk h1
  obtain⟨ak,U,rfl,h2,g2⟩:=g1.cons
  obtain⟨ah,rfl,c2⟩:=XW _ h2
  obtain⟨al,aa,rfl,h3,g3⟩:=g2.cons
  obtain⟨an,ab,rfl,h4,g4⟩:=g3.cons
  obtain rfl:=g4.nil
  obtain⟨j,s,rfl,rfl,ad,ae,q3⟩:=Rp.CP (enc:=ju) (m:=8) (E:=fun j x=>qI j hp nx x) (by kernel_rfl) (fun _=>rfl) (fun j e l hl=>ih j (by omega) hl) h3
  obtain⟨o,I,hj,rfl,r1,r2,C⟩:=Rp.CP (enc:=ju) (m:=8) (E:=fun j x=>qI j hp nx x) (by kernel_rfl) (fun _=>rfl) (fun j e l hl=>ih j (by omega) hl) h4
  obtain rfl:o=j:=by omega
  rw[show Tryz.prog.bytesOf 151=112 from by kernel_rfl]at q3 C
  exact⟨.mk af ag ah s.v s.l I.v I.l,rfl,qI.up (show qI (o+1) hp nx _ from⟨⟨_,c2⟩,⟨ad,ae⟩,⟨r1,r2⟩,q3,C⟩)⟩
theorem ZF{hp:Ht}{nx k:Nat}{ls:List Value}(h:Rp Tryz.prog hp nx k 29 ls):∃x:SV RStep,ls=lG x/\jt ju 8 (fun hp nx y=>j4 hp nx y) hp nx x/\x.l.length<=2932031007403:=by
 obtain⟨j,s,rfl,rfl,o,C,q3⟩:=Rp.CP (enc:=ju) (m:=8) (E:=fun j x=>j4 hp nx x) (by kernel_rfl) (fun _=>rfl) (fun j e l hl=>by obtain⟨x,e,hx⟩:=XX j hl;exact⟨x,e,_,hx⟩) h
 rw[show Tryz.prog.bytesOf 151=112 from by kernel_rfl]at q3
 have:reachBytes=140737488351232:=by decide
 exact⟨s,rfl,⟨o,C⟩,by omega⟩
theorem ZG{hp:Ht}{nx k:Nat}{ls:List Value}(h:Rp Tryz.prog hp nx k 31 ls):∃x:Fw,ls=zc x:=by
 obtain⟨n,lss,rfl,g⟩:=Rp.fields (ts:=[3,3,3,3,3]) (by kernel_rfl) h
 obtain⟨ae,j,rfl,h0,g0⟩:=g.cons
 obtain⟨R,rfl⟩:=pV h0
 obtain⟨af,o,rfl,h1,g1⟩:=g0.cons
 obtain⟨U,rfl⟩:=pV h1
 obtain⟨ag,C,rfl,h2,g2⟩:=g1.cons
 obtain⟨aa,rfl⟩:=pV h2
 obtain⟨ah,I,rfl,h3,g3⟩:=g2.cons
 obtain⟨ab,rfl⟩:=pV h3
 obtain⟨ai,J,rfl,h4,g4⟩:=g3.cons
 obtain⟨ad,rfl⟩:=pV h4
 obtain rfl:=g4.nil
 exact⟨⟨R,U,aa,ab,ad⟩,rfl⟩
theorem ZH{hp:Ht}{nx k:Nat}{ls:List Value}(h:Rp Tryz.prog hp nx k 33 ls):∃x:j7,ls=iz x/\oJ hp nx x/\x.nH.l.length<=2932031007403:=by
 obtain⟨n,lss,rfl,g⟩:=Rp.fields (ts:=[9,22,23,24,25,26,27,28,29,31,3,3]) (by kernel_rfl) h
 obtain⟨aL,ag,rfl,h0,g0⟩:=g.cons
 obtain⟨az,rfl⟩:=Pj h0
 obtain⟨aM,ah,rfl,h1,g1⟩:=g0.cons
 obtain⟨aA,rfl,au⟩:=Zy h1
 obtain⟨aN,ai,rfl,h2,g2⟩:=g1.cons
 obtain⟨aB,rfl,av⟩:=Zz h2
 obtain⟨aO,aj,rfl,h3,g3⟩:=g2.cons
 obtain⟨aC,rfl,q3⟩:=ZA h3
 obtain⟨aP,ak,rfl,h4,g4⟩:=g3.cons
 obtain⟨aD,rfl,aw⟩:=ZB h4
 obtain⟨aQ,al,rfl,aa,g5⟩:=g4.cons
 obtain⟨aE,rfl,ax⟩:=ZC aa
 obtain⟨aR,an,rfl,ab,g6⟩:=g5.cons
 obtain⟨aF,rfl,q6⟩:=ZD ab
 obtain⟨aS,ao,rfl,ad,g7⟩:=g6.cons
 obtain⟨aG,rfl,ay⟩:=ZE ad
 obtain⟨aT,aq,rfl,ae,g8⟩:=g7.cons
 obtain⟨aH,rfl,C⟩:=ZF ae
 obtain⟨aU,ar,rfl,af,g9⟩:=g8.cons
 obtain⟨aI,rfl⟩:=ZG af
 obtain⟨aJ,R,rfl,j,g10⟩:=g9.cons
 obtain⟨I,rfl⟩:=pV j
 obtain⟨aK,U,rfl,o,g11⟩:=g10.cons
 obtain⟨J,rfl⟩:=pV o
 obtain rfl:=g11.nil
 exact⟨⟨az,aA,aB,aC,aD,aE,aF,aG,aH,aI,I,J⟩,rfl,⟨au,av,q3,aw,ax,q6,ay,C.1⟩,C.2⟩
theorem YH{hp:Ht}{nx k:Nat}{ls:List Value}(h:Rp Tryz.prog hp nx k 255 ls):∃x:rQ,ls=j8 x:=by
 obtain⟨n,lss,rfl,g⟩:=Rp.fields (ts:=[3,3,3]) (by kernel_rfl) h
 obtain⟨U,j,rfl,h0,g0⟩:=g.cons
 obtain⟨I,rfl⟩:=pV h0
 obtain⟨aa,o,rfl,h1,g1⟩:=g0.cons
 obtain⟨J,rfl⟩:=pV h1
 obtain⟨ab,C,rfl,h2,g2⟩:=g1.cons
 obtain⟨R,rfl⟩:=pV h2
 obtain rfl:=g2.nil
 exact⟨⟨I,J,R⟩,rfl⟩
theorem ZI{hp:Ht}{nx k:Nat}{ls:List Value}(h:Rp Tryz.prog hp nx k 34 ls):∃x:SV rQ,ls=lG x/\gA j8 3 hp nx x:=
 Rp.vk (enc:=j8) (m:=3) (by kernel_rfl) (fun _=>rfl) (fun _ _ h=>YH h) h
theorem UW{hp:Ht}{nx k:Nat}{ls:List Value}(h:Rp Tryz.prog hp nx k 42 ls):∃x:SV Int,ls=lG x/\gA encI 1 hp nx x:=
 Rp.vk (enc:=encI) (m:=1) (by kernel_rfl) (fun _=>rfl) (fun _ _ h=>pV h) h
theorem ZJ{hp:Ht}{nx k:Nat}{ls:List Value}(h:Rp Tryz.prog hp nx k 35 ls):∃x:SV (SV Int),ls=lG x/\jt lG 1 (fun hp nx y=>gA encI 1 hp nx y) hp nx x:=
 Rp.slice (E:=fun hp nx y=>gA encI 1 hp nx y) (enc:=lG) (m:=1) (by kernel_rfl) (fun _=>rfl) (fun _ _ h=>UW h) h
theorem ZK{hp:Ht}{nx k:Nat}{ls:List Value}(h:Rp Tryz.prog hp nx k 37 ls):∃x:kM,ls=jE x/\oI hp nx x:=by
 obtain⟨n,lss,rfl,g⟩:=Rp.fields (ts:=[34,35]) (by kernel_rfl) h
 obtain⟨U,j,rfl,h0,g0⟩:=g.cons
 obtain⟨J,rfl,C⟩:=ZI h0
 obtain⟨aa,o,rfl,h1,g1⟩:=g0.cons
 obtain⟨R,rfl,I⟩:=ZJ h1
 obtain rfl:=g1.nil
 exact⟨⟨J,R⟩,rfl,⟨C,I⟩⟩
theorem ZL{hp:Ht}{nx k:Nat}{ls:List Value}(h:Rp Tryz.prog hp nx k 84 ls):∃x:Ac,ls=sW x:=by
 obtain⟨n,lss,rfl,g⟩:=Rp.fields (ts:=[3,3]) (by kernel_rfl) h
 obtain⟨J,j,rfl,h0,g0⟩:=g.cons
 obtain⟨C,rfl⟩:=pV h0
 obtain⟨R,o,rfl,h1,g1⟩:=g0.cons
 obtain⟨I,rfl⟩:=pV h1
 obtain rfl:=g1.nil
 exact⟨⟨C,I⟩,rfl⟩
theorem ZM{hp:Ht}{nx k:Nat}{ls:List Value}(h:Rp Tryz.prog hp nx k 38 ls):∃x:SV Ac,ls=lG x/\gA sW 2 hp nx x:=
 Rp.vk (enc:=sW) (m:=2) (by kernel_rfl) (fun _=>rfl) (fun _ _ h=>ZL h) h
theorem YI{hp:Ht}{nx k:Nat}{ls:List Value}(h:Rp Tryz.prog hp nx k 153 ls):∃x:jL,ls=ie x:=by
 obtain⟨n,lss,rfl,g⟩:=Rp.fields (ts:=[4,3,3,3]) (by kernel_rfl) h
 obtain⟨ab,j,rfl,h0,g0⟩:=g.cons
 obtain⟨J,rfl⟩:=Y0 h0
 obtain⟨ad,o,rfl,h1,g1⟩:=g0.cons
 obtain⟨R,rfl⟩:=pV h1
 obtain⟨ae,C,rfl,h2,g2⟩:=g1.cons
 obtain⟨U,rfl⟩:=pV h2
 obtain⟨af,I,rfl,h3,g3⟩:=g2.cons
 obtain⟨aa,rfl⟩:=pV h3
 obtain rfl:=g3.nil
 exact⟨⟨J,R,U,aa⟩,rfl⟩
theorem YJ{hp:Ht}{nx k:Nat}{ls:List Value}(h:Rp Tryz.prog hp nx k 117 ls):∃x:SV jL,ls=lG x/\gA ie 4 hp nx x:=
 Rp.vk (enc:=ie) (m:=4) (by kernel_rfl) (fun _=>rfl) (fun _ _ h=>YI h) h
theorem YK{hp:Ht}{nx k:Nat}{ls:List Value}(h:Rp Tryz.prog hp nx k 114 ls):∃x:SV (SV jL),ls=lG x/\jt lG 1 (fun hp nx y=>gA ie 4 hp nx y) hp nx x:=
 Rp.slice (E:=fun hp nx y=>gA ie 4 hp nx y) (enc:=lG) (m:=1) (by kernel_rfl) (fun _=>rfl) (fun _ _ h=>YJ h) h
theorem YL{hp:Ht}{nx k:Nat}{ls:List Value}(h:Rp Tryz.prog hp nx k 116 ls):∃x:i_,ls=je x/\mw hp nx x:=by
 obtain⟨n,lss,rfl,g⟩:=Rp.fields (ts:=[3,42,114]) (by kernel_rfl) h
 obtain⟨ab,j,rfl,h0,g0⟩:=g.cons
 obtain⟨R,rfl⟩:=pV h0
 obtain⟨ad,o,rfl,h1,g1⟩:=g0.cons
 obtain⟨U,rfl,I⟩:=UW h1
 obtain⟨ae,C,rfl,h2,g2⟩:=g1.cons
 obtain⟨aa,rfl,J⟩:=YK h2
 obtain rfl:=g2.nil
 exact⟨⟨R,U,aa⟩,rfl,⟨I,J⟩⟩
theorem ZN{hp:Ht}{nx k:Nat}{ls:List Value}(h:Rp Tryz.prog hp nx k 39 ls):∃x:SV i_,ls=lG x/\jt je 3 (fun hp nx y=>mw hp nx y) hp nx x:=
 Rp.slice (E:=fun hp nx y=>mw hp nx y) (enc:=je) (m:=3) (by kernel_rfl) (fun _=>rfl) (fun _ _ h=>YL h) h
theorem ZO{hp:Ht}{nx k:Nat}{ls:List Value}(h:Rp Tryz.prog hp nx k 41 ls):∃x:kU,ls=iK x/\ny hp nx x:=by
 obtain⟨n,lss,rfl,g⟩:=Rp.fields (ts:=[37,38,39]) (by kernel_rfl) h
 obtain⟨ad,j,rfl,h0,g0⟩:=g.cons
 obtain⟨U,rfl,I⟩:=ZK h0
 obtain⟨ae,o,rfl,h1,g1⟩:=g0.cons
 obtain⟨aa,rfl,J⟩:=ZM h1
 obtain⟨af,C,rfl,h2,g2⟩:=g1.cons
 obtain⟨ab,rfl,R⟩:=ZN h2
 obtain rfl:=g2.nil
 exact⟨⟨U,aa,ab⟩,rfl,⟨I,J,R⟩⟩
theorem ZP{hp:Ht}{nx k:Nat}{ls:List Value}(h:Rp Tryz.prog hp nx k 44 ls):∃x:oT,ls=lV x/\ui hp nx x:=by
 obtain⟨n,lss,rfl,g⟩:=Rp.fields (ts:=[42,3,3]) (by kernel_rfl) h
 obtain⟨aa,j,rfl,h0,g0⟩:=g.cons
 obtain⟨J,rfl,I⟩:=UW h0
 obtain⟨ab,o,rfl,h1,g1⟩:=g0.cons
 obtain⟨R,rfl⟩:=pV h1
 obtain⟨ad,C,rfl,h2,g2⟩:=g1.cons
 obtain⟨U,rfl⟩:=pV h2
 obtain rfl:=g2.nil
 exact⟨⟨J,R,U⟩,rfl,⟨I⟩⟩
def S4(t:TypeId):Bool:=has 4886216235416671712912435927888865410133257651741510587787970973474858164362108940494735437914023243650688877080 t
theorem YM(t:TypeId)(h:S4 t=true):zg Tryz.prog S4 t=true:=by
 have jz:t<372:=Rz (m:=4886216235416671712912435927888865410133257651741510587787970973474858164362108940494735437914023243650688877080) (N:=372) (by kernel_rfl) h
 have key:((List.range 372).all fun t=>!(S4 t)||zg Tryz.prog S4 t)=true:=by kernel_rfl
 have:=rO key jz
 rw[h]at this
 simpa using this
theorem Pk:s8 0 12 y4=true/\y4.all (Aw 12)=true:=⟨by kernel_rfl,by kernel_rfl⟩
theorem Y1:Tryz.prog.underlying 3=some (.int .i64):=by kernel_rfl
theorem MN:NO Tryz.prog 3 405=true:=by kernel_rfl
theorem Ww{W:World}(h:laidMetH Tryz.prog Rows.relayOrderRow.laid W):H7 y4 W:=by
 have h:laidMet Tryz.prog Rows.relayOrderRow.laid W:=h
 obtain⟨ps,h,_,_⟩:=h
 have key:∀(n:String) (g:Nat) (a b:Int),(n,.agg [.lit (.int .i64 a),.lit (.int .i64 b)])∈Rows.relayOrderRow.laid->Tryz.prog.globalNamed n=some g->(Tryz.prog.globals[g]?).map (·.type)=some 405->∀o:TB,o=⟨g,[.int .i64 a,.int .i64 b],false,0⟩->∀(j:Nat) (v:Value),o.cs[j]?=some v->W.cell? ⟨o.num,j,none⟩=some v:=fun n g a b hm hg C o e=>by
  subst e;exact UM Y1 MN h hm hg C
 intro o C
 simp only[y4,List.mem_cons,List.not_mem_nil,or_false]at C
 rcases C with e|e|e|e|e|e|e|e|e|e|e
 · exact key "stopwatch/facts.bibS" 0 1 9999 (by simp[Rows.relayOrderRow,Rows.laid_stopwatch_facts_bibS]) (by kernel_rfl) (by kernel_rfl) o e
 · exact key "stopwatch/facts.timeS" 1 (-1099511627776) 1099511627776 (by simp[Rows.relayOrderRow,Rows.laid_stopwatch_facts_timeS]) (by kernel_rfl) (by kernel_rfl) o e
 · exact key "stopwatch/facts.chipS" 2 0 1048576 (by simp[Rows.relayOrderRow,Rows.laid_stopwatch_facts_chipS]) (by kernel_rfl) (by kernel_rfl) o e
 · exact key "stopwatch/facts.matS" 3 0 39 (by simp[Rows.relayOrderRow,Rows.laid_stopwatch_facts_matS]) (by kernel_rfl) (by kernel_rfl) o e
 · exact key "stopwatch/facts.epochS" 4 0 255 (by simp[Rows.relayOrderRow,Rows.laid_stopwatch_facts_epochS]) (by kernel_rfl) (by kernel_rfl) o e
 · exact key "stopwatch/facts.lengthS" 5 0 1099511627776 (by simp[Rows.relayOrderRow,Rows.laid_stopwatch_facts_lengthS]) (by kernel_rfl) (by kernel_rfl) o e
 · exact key "stopwatch/facts.positionS" 6 0 255 (by simp[Rows.relayOrderRow,Rows.laid_stopwatch_facts_positionS]) (by kernel_rfl) (by kernel_rfl) o e
 · exact key "stopwatch/facts.caseS" 7 1 1048576 (by simp[Rows.relayOrderRow,Rows.laid_stopwatch_facts_caseS]) (by kernel_rfl) (by kernel_rfl) o e
 · exact key "stopwatch/facts.bitS" 8 0 1 (by simp[Rows.relayOrderRow,Rows.laid_stopwatch_facts_bitS]) (by kernel_rfl) (by kernel_rfl) o e
 · exact key "stopwatch/facts.crewS" 9 0 31 (by simp[Rows.relayOrderRow,Rows.laid_stopwatch_facts_crewS]) (by kernel_rfl) (by kernel_rfl) o e
 · exact key "stopwatch/facts.numberS" 10 1 1048576 (by simp[Rows.relayOrderRow,Rows.laid_stopwatch_facts_numberS]) (by kernel_rfl) (by kernel_rfl) o e
theorem Wx{w:World}(h:w.ShapedOpen Tryz.prog):∃m,w.cell? ⟨11,0,none⟩=some (.int .i64 m):=
 Go.Proofs.cell_of_shapedOpen_int (zero:=#[.int .i64 0]) (t:=3) h (of_decide_eq_true (by kernel_rfl)) (by kernel_rfl) rfl (by kernel_rfl) (by kernel_rfl) Y1
theorem UX{hp:Ht}{nx:Nat}{j:List Value}(h:xS Tryz.prog hp nx [33,41,44,3,3] j)(hf:∀(fe:Ht) (fg:Nat),nx<=fg->HE nx hp fe->∀b o,(xM y4 .nil).get b=some o->fe.get b=some o):WF ex 3 j hp nx (fO nx hp (gk True)):=by
 obtain⟨v0,ab,rfl,⟨aq,aj,h0,_,rfl⟩,g0⟩:=h.cons
 obtain⟨C,rfl,aa⟩:=ZH h0
 obtain⟨v1,ad,rfl,⟨ar,ak,h1,_,rfl⟩,g1⟩:=g0.cons
 obtain⟨I,rfl,ah⟩:=ZO h1
 obtain⟨v2,ae,rfl,⟨n2,al,h2,_,rfl⟩,g2⟩:=g1.cons
 obtain⟨J,rfl,ai⟩:=ZP h2
 obtain⟨v3,af,rfl,⟨au,an,h3,_,rfl⟩,g3⟩:=g2.cons
 obtain⟨R,rfl⟩:=pV h3
 obtain⟨v4,ag,rfl,⟨av,ao,h4,_,rfl⟩,g4⟩:=g3.cons
 obtain⟨U,rfl⟩:=pV h4
 obtain rfl:=g4.nil
 rw[show y0 Tryz.prog 33 (iz C)=.agg (iz C).toArray from by kernel_rfl]
 rw[show y0 Tryz.prog 41 (iK I)=.agg (iK I).toArray from by kernel_rfl]
 rw[show y0 Tryz.prog 44 (lV J)=.agg (lV J).toArray from by kernel_rfl]
 rw[show y0 Tryz.prog 3 (encI R)=.int .i64 (R)from by kernel_rfl]
 rw[show y0 Tryz.prog 3 (encI U)=.int .i64 (U)from by kernel_rfl]
 exact K4 Yt XN XO C I J R U hp nx aa.1 ah ai aa.2 fun fe fg hn he=>XT (hf fe fg hn he)
theorem Wy{H:Type}{enc:TypeId×Value->H}(W:World)(base:Nat)(args:Array Value)(ds:List (DataW H))(p:List MemPlace)
 (o:∀(j:Nat) t v,Tryz.f3.params[j]?=some t->args[j]?=some v->Value.okWide Tryz.prog W .any base t v)
 (I:DataW.TrodAll enc Tryz.prog W 0 (fun _=>true) true Tryz.f3.params.toList args.toList ds p) (C:∀k∈DataW.weightsEach Tryz.prog Tryz.f3.params.toList ds,k<=reachBytes) (hl:H7 y4 W) (J:W.ShapedOpen Tryz.prog):
 (∃d0 d1 d2 d3 d4,ds=[d0,d1,d2,d3,d4])/\Calls Tryz.prog 3 args W fun e R=>e=.returned (.bool true)/\Below W.heap.size W R:=by
 have hm:=Wx J
 have hs:11<W.heap.size:=by obtain⟨m,hm⟩:=hm;exact MB hm
 have hg:12<=W.heap.size:=hs
 rw[Tryz.params3]at I o C
 have hlen:=F9 I
 refine⟨?_,RA Yv (Zx _ _ ⟨hs,hm⟩) hg Pk.1 Pk.2 hl YM I C (fun j t v a b=>o j t v (by simpa using a) b) (fun t U=>?_) fun hp nx aa h hf=>UX h hf⟩
 · match ds,hlen with
   |[d0,d1,d2,d3,d4],_=>exact⟨_,_,_,_,_,rfl⟩
 · have:([33,41,44,3,3]:List TypeId).all S4=true:=by kernel_rfl
   exact List.all_eq_true.1 this t U
def ZQ:Array Value:=#[(.agg ⟨[.string ⟨#[]⟩,.slice none 0 0,.slice none 0 0,.slice none 0 0,.slice none 0 0,.slice none 0 0,.slice none 0 0,.slice none 0 0,.slice none 0 0,.int .i64 0,.int .i64 0,.int .i64 0,.int .i64 0,.int .i64 0,.int .i64 0,.int .i64 0]⟩),(.agg ⟨[.slice none 0 0,.slice none 0 0,.slice none 0 0,.slice none 0 0]⟩),(.agg ⟨[.slice none 0 0,.int .i64 0,.int .i64 0]⟩),(.int .i64 0),(.int .i64 0)]
theorem UY(os:Os)(args:Array Value):laidMetH Tryz.prog Rows.relayOrderRow.laid ((World.laidAll Tryz.prog os Rows.relayOrderRow.laid).forCall (fun _ _=>0) ⟨#[],args,[]⟩).memory:=by
 rw[MakeChecks.laidMetH_plain _ _ _ (by kernel_rfl)]
 exact laidMet_laidAll _ (by kernel_rfl) (by kernel_rfl)
theorem UZ:∀t∈Tryz.f3.params.toList,Tryz.prog.readableRec t=true/\t<Tryz.prog.types.size:=fun t j=>by
 have h:(Tryz.f3.params.toList.all fun t=>Tryz.prog.readableRec t&&Nat.blt t Tryz.prog.types.size)=true:=by kernel_rfl
 have:=List.all_eq_true.1 h t j
 rw[Bool.and_eq_true]at this
 exact⟨this.1,mq.1 this.2⟩
theorem QQ(os:Os)(started:os.Started)(H:Type)(enc:TypeId×Value->H):
 ReturnsInHanded {} Tryz.checked os 3 .any (fun w args=>(Rows.relayOrderSpec.pre enc Tryz.prog Tryz.f3 [] false w args/\laidMetH Tryz.prog Rows.relayOrderRow.laid w)/\sizedMet enc Tryz.prog Tryz.f3 (OpenSpec.ofChange Rows.relayOrderSpec) false w args)
  (Rows.relayOrderSpec.post enc Tryz.prog Tryz.f3 false true false false):=by
 refine My (C:=Tryz.checked) (t:=4) (X:=fun w _=>laidMetH Tryz.prog Rows.relayOrderRow.laid w) (fun _ _ _ aa h=>h.of_heap aa) (by kernel_rfl) started (by kernel_rfl) Tryz.func3
  (ChangeSpec.witness_shaped (enc:=enc) (C:=Tryz.checked) (os:=os) (X:=fun w _=>laidMetH Tryz.prog Rows.relayOrderRow.laid w) false (World.laidAll Tryz.prog os Rows.relayOrderRow.laid) ZQ 8 (World.laidAll_os _ _ _)
    (World.shaped_of_ZipB (by kernel_rfl) (by kernel_rfl)) (by kernel_rfl) (by kernel_rfl) (by kernel_rfl) (UY os _))
  (by kernel_rfl) rfl (by kernel_rfl) (by kernel_rfl) UZ ?_
 · intro W base args ds gs before p j R J o U I
   subst o
   obtain⟨⟨d0,d1,d2,d3,d4,rfl⟩,hc⟩:=Wy W base args ds p j R J (Ww U) I
   exact⟨rfl,hc⟩
theorem S5:joinedFacts Tryz.prog 3 Tryz.f3 Rows.relayOrderSpec Rows.relayOrderRow=true:=by
 unfold joinedFacts
 exact(ba (ba (ba (ba (ba (ba (ba (ba (ba (ba (ba (ba (ba (ba (ba (ba (ba (ba (ba (ba (ba (ba (ba (ba (ba (ba (ba (ba (ba (ba (ba Yw QO) NP) OC) OD) UP) SS) UQ) NQ) QN) K5) OB) UO) Wt) SU) QP) UR) OE) US) UT) NR) OF) NS) K6) K7) OG) SX) Wu) UU) SY) SZ) Wv)
theorem S6:Rows.RelayOrderSaid:=
 OpenClaim.holds_of_wide 3 Tryz.f3 rfl rfl rfl rfl rfl rfl rfl ⟨rfl,rfl,rfl,rfl,rfl⟩ rfl rfl rfl rfl rfl (by kernel_rfl) Tryz.func3 S5
  (of_decide_eq_true (by kernel_rfl)) (by unfold Func.isWrapper;rw[if_neg (of_decide_eq_false (by kernel_rfl))];exact⟨rfl,rfl⟩)
  (fun os started H enc _=>QQ os started H enc)
theorem Wz:Tryz.pinned.checked.prog=Tryz.prog:=rfl
theorem YN:false=Rows.relayOrderRow.goesBy Tryz.pinned.checked.prog:=SQ (by rw[Wz];exact SR) rfl
theorem XY:∀f fn,Tryz.pinned.checked.prog.funcNamed Rows.relayOrderRow.func=some f->Tryz.pinned.checked.prog.funcs[f]?=some fn->true=Tryz.pinned.checked.prog.looks []/\∀(j:Nat) t,fn.params[j]?=some t->Tryz.pinned.checked.prog.wantsStandIn t=false:=
 UN (f0:=3) (XU:=Tryz.f3) (by kernel_rfl) (by kernel_rfl) (by kernel_rfl) (by kernel_rfl)
theorem WA:Rows.relayOrderRow.wfByText (OpenSpec.ofChange Rows.relayOrderSpec)=true:=by kernel_rfl
theorem YO:Tryz.pinned.checked.prog.mainIs=some (true,("c7eda499b1e56a8b5b3af4e2d9a9772ef801ad781e908b2bee3dd112ac687c39":String).toList):=by kernel_rfl
end
end Sw
namespace Go.Proofs.YtecbgehgkpgbmaaGreatDoor
open Go
set_option maxRecDepth 100000
theorem relayOrder_card:Rows.RelayOrderCardSaid:=
 Claim7.holds_tied_plain_at (p:=Tryz.pinned) (s:=OpenSpec.ofChange Rows.relayOrderSpec) (c:=Rows.relayOrderRow) .later [] [.data,.data,.data,.data,.data,.data,.data,.data,.data,.data,.data] true (true, "c7eda499b1e56a8b5b3af4e2d9a9772ef801ad781e908b2bee3dd112ac687c39") true
  Sw.S6 (fun _ h=>by cases h) Sw.WA (fun _ h=>by cases h) relayOrder_row_tie rfl ⟨rfl,rfl⟩ Sw.YO rfl Sw.XY Sw.YN
end Go.Proofs.YtecbgehgkpgbmaaGreatDoor
