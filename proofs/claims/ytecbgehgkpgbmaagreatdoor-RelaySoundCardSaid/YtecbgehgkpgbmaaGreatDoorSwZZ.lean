/- A part of the proof that the law returns true for every input that its row speaks of. No condition is added. -/
import Derived.Test.YtecbgehgkpgbmaaGreatDoorSwAN
import Derived.Test.YtecbgehgkpgbmaaGreatDoorSwAZ
import Derived.Test.YtecbgehgkpgbmaaGreatDoorRows
import Derived.Test.YtecbgehgkpgbmaaGreatDoorSwBA
import Derived.Test.YtecbgehgkpgbmaaGreatDoorSwBB
import Derived.Test.YtecbgehgkpgbmaaGreatDoorSwBC
import Derived.Test.YtecbgehgkpgbmaaGreatDoorSwBD
import Derived.Test.YtecbgehgkpgbmaaGreatDoorSwBE
import Derived.Test.YtecbgehgkpgbmaaGreatDoorSwBF
import Derived.Lay
import Derived.SevenTiedAt
import Derived.Test.YtecbgehgkpgbmaaGreatDoorTie
import Derived.Test.YtecbgehgkpgbmaaGreatDoorCards
import Derived.JoinedOf
namespace Sw
noncomputable section
open Go Go.Proofs Go.Proofs.YtecbgehgkpgbmaaGreatDoor Go.RowKit Go.ChangeShapes Go.WideShapes
set_option maxRecDepth 100000
theorem P5{O:Ht}{G k:Nat}{b:List Value}(h:Rp Tryz.prog O G k 9 b):∃x:ByteArray,b=aad x:=by
 obtain⟨z,rfl,_⟩:=Rp.string (by kernel_rfl) h
 exact⟨z,rfl⟩
theorem qe{O:Ht}{G k:Nat}{b:List Value}(h:Rp Tryz.prog O G k 3 b):∃x:Int,b=encI x:=by
 obtain⟨z,rfl,_⟩:=Rp.int (ik:=.i64) (by kernel_rfl) h
 exact⟨z,rfl⟩
theorem ZF{O:Ht}{G k:Nat}{b:List Value}(h:Rp Tryz.prog O G k 140 b):∃x:tZ,b=pn x:=by
 obtain⟨n,lss,rfl,g⟩:=Rp.fields (ts:=[9,3]) (by kernel_rfl) h
 obtain⟨p,e,rfl,h0,g0⟩:=g.cons
 obtain⟨m,rfl⟩:=P5 h0
 obtain⟨u,j,rfl,h1,g1⟩:=g0.cons
 obtain⟨o,rfl⟩:=qe h1
 obtain rfl:=g1.nil
 exact⟨⟨m,o⟩,rfl⟩
theorem aaE{O:Ht}{G k:Nat}{b:List Value}(h:Rp Tryz.prog O G k 22 b):∃x:SV tZ,b=lL x/\gB pn 2 O G x:=
 Rp.vf (enc:=pn) (m:=2) (by kernel_rfl) (fun _=>rfl) (fun _ _ h=>ZF h) h
theorem ZG{O:Ht}{G k:Nat}{b:List Value}(h:Rp Tryz.prog O G k 142 b):∃x:tn,b=mH x:=by
 obtain⟨n,lss,rfl,g⟩:=Rp.fields (ts:=[3,3,3,3]) (by kernel_rfl) h
 obtain⟨A,e,rfl,h0,g0⟩:=g.cons
 obtain⟨p,rfl⟩:=qe h0
 obtain⟨B,j,rfl,h1,g1⟩:=g0.cons
 obtain⟨u,rfl⟩:=qe h1
 obtain⟨C,m,rfl,D,g2⟩:=g1.cons
 obtain⟨y,rfl⟩:=qe D
 obtain⟨E,o,rfl,h3,g3⟩:=g2.cons
 obtain⟨z,rfl⟩:=qe h3
 obtain rfl:=g3.nil
 exact⟨⟨p,u,y,z⟩,rfl⟩
theorem aaF{O:Ht}{G k:Nat}{b:List Value}(h:Rp Tryz.prog O G k 23 b):∃x:SV tn,b=lL x/\gB mH 4 O G x:=
 Rp.vf (enc:=mH) (m:=4) (by kernel_rfl) (fun _=>rfl) (fun _ _ h=>ZG h) h
theorem HX{O:Ht}{G k:Nat}{b:List Value}(h:Rp Tryz.prog O G k 3 b):∃x:Int,b=encI x:=by
 obtain⟨z,rfl,hw⟩:=Rp.int (ik:=.i64) (by kernel_rfl) h
 exact⟨z,rfl⟩
theorem wN.up:∀{n:Nat} {O:Ht} {G:Nat} {c:RPart},wN n O G c->wN (n+1) O G c
 |0,_,_,_,h=>h.elim
 |_+1,_,_,_,h=>⟨⟨h.1.1,fun x hx=>(h.1.2 x hx).up⟩,h.2⟩
theorem Y5{O:Ht}{G:Nat}:∀(k:Nat) {b:List Value},Rp Tryz.prog O G k 144 b->∃x:RPart,b=jQ x/\wN k O G x:=by
 intro k
 induction k using Nat.strongRecOn with
 |_ k ih=>
  intro b h
  obtain⟨n,lss,rfl,rfl,g⟩:=Rp.Kq (ts:=[3,3,106]) (by kernel_rfl) h
  obtain⟨C,o,rfl,h0,g0⟩:=g.cons
  obtain⟨A,rfl⟩:=HX h0
  obtain⟨F,p,rfl,h1,g1⟩:=g0.cons
  obtain⟨B,rfl⟩:=HX h1
  obtain⟨J,u,rfl,D,g2⟩:=g1.cons
  obtain rfl:=g2.nil
  obtain⟨j,s,rfl,rfl,y,z,q3⟩:=Rp.Dv (enc:=jQ) (m:=3) (E:=fun j x=>wN j O G x) (by kernel_rfl) (fun _=>rfl) (fun j e l hl=>ih j (by omega) hl) D
  rw[show Tryz.prog.bytesOf 144=40 from by kernel_rfl]at q3
  exact⟨.mk A B s.v s.l,rfl,wN.up (show wN (j+1) O G _ from⟨⟨y,z⟩,q3⟩)⟩
theorem ZH{O:Ht}{G k:Nat}{b:List Value}(h:Rp Tryz.prog O G k 106 b):∃x:SV RPart,b=lL x/\jC jQ 3 (fun O G y=>kV O G y) O G x:=by
 obtain⟨j,s,rfl,rfl,o,p,q3⟩:=Rp.Dv (enc:=jQ) (m:=3) (E:=fun j x=>kV O G x) (by kernel_rfl) (fun _=>rfl) (fun j e l hl=>by obtain⟨x,e,hx⟩:=Y5 j hl;exact⟨x,e,_,hx⟩) h
 exact⟨s,rfl,⟨o,p⟩⟩
theorem ZI{O:Ht}{G k:Nat}{b:List Value}(h:Rp Tryz.prog O G k 365 b):∃x:o7,b=lY x:=by
 obtain⟨n,lss,rfl,g⟩:=Rp.fields (ts:=[3,3,3]) (by kernel_rfl) h
 obtain⟨y,e,rfl,h0,g0⟩:=g.cons
 obtain⟨o,rfl⟩:=qe h0
 obtain⟨z,j,rfl,h1,g1⟩:=g0.cons
 obtain⟨p,rfl⟩:=qe h1
 obtain⟨A,m,rfl,D,g2⟩:=g1.cons
 obtain⟨u,rfl⟩:=qe D
 obtain rfl:=g2.nil
 exact⟨⟨o,p,u⟩,rfl⟩
theorem ZJ{O:Ht}{G k:Nat}{b:List Value}(h:Rp Tryz.prog O G k 107 b):∃x:SV o7,b=lL x/\gB lY 3 O G x:=
 Rp.vf (enc:=lY) (m:=3) (by kernel_rfl) (fun _=>rfl) (fun _ _ h=>ZI h) h
theorem ZK{O:Ht}{G k:Nat}{b:List Value}(h:Rp Tryz.prog O G k 109 b):∃x:kc,b=iS x/\lZ O G x:=by
 obtain⟨n,lss,rfl,g⟩:=Rp.fields (ts:=[9,106,3,107,3]) (by kernel_rfl) h
 obtain⟨E,e,rfl,h0,g0⟩:=g.cons
 obtain⟨y,rfl⟩:=P5 h0
 obtain⟨F,j,rfl,h1,g1⟩:=g0.cons
 obtain⟨z,rfl,u⟩:=ZH h1
 obtain⟨J,m,rfl,D,g2⟩:=g1.cons
 obtain⟨A,rfl⟩:=qe D
 obtain⟨K,o,rfl,h3,g3⟩:=g2.cons
 obtain⟨B,rfl,q3⟩:=ZJ h3
 obtain⟨L,p,rfl,h4,g4⟩:=g3.cons
 obtain⟨C,rfl⟩:=qe h4
 obtain rfl:=g4.nil
 exact⟨⟨y,z,A,B,C⟩,rfl,⟨u,q3⟩⟩
theorem aaG{O:Ht}{G k:Nat}{b:List Value}(h:Rp Tryz.prog O G k 24 b):∃x:SV kc,b=lL x/\jC iS 5 (fun O G y=>lZ O G y) O G x:=
 Rp.slice (E:=fun O G y=>lZ O G y) (enc:=iS) (m:=5) (by kernel_rfl) (fun _=>rfl) (fun _ _ h=>ZK h) h
theorem ZL{O:Ht}{G k:Nat}{b:List Value}(h:Rp Tryz.prog O G k 146 b):∃x:q_,b=nT x:=by
 obtain⟨n,lss,rfl,g⟩:=Rp.fields (ts:=[9,3]) (by kernel_rfl) h
 obtain⟨p,e,rfl,h0,g0⟩:=g.cons
 obtain⟨m,rfl⟩:=P5 h0
 obtain⟨u,j,rfl,h1,g1⟩:=g0.cons
 obtain⟨o,rfl⟩:=qe h1
 obtain rfl:=g1.nil
 exact⟨⟨m,o⟩,rfl⟩
theorem aaH{O:Ht}{G k:Nat}{b:List Value}(h:Rp Tryz.prog O G k 25 b):∃x:SV q_,b=lL x/\gB nT 2 O G x:=
 Rp.vf (enc:=nT) (m:=2) (by kernel_rfl) (fun _=>rfl) (fun _ _ h=>ZL h) h
theorem Z9{O:Ht}{G k:Nat}{b:List Value}(h:Rp Tryz.prog O G k 4 b):∃x:Bool,b=aac x:=by
 obtain⟨z,rfl⟩:=Rp.bool (by kernel_rfl) h
 exact⟨z,rfl⟩
theorem ZM{O:Ht}{G k:Nat}{b:List Value}(h:Rp Tryz.prog O G k 355 b):∃x:mV,b=kl x:=by
 obtain⟨n,lss,rfl,g⟩:=Rp.fields (ts:=[9,3,3,4]) (by kernel_rfl) h
 obtain⟨A,e,rfl,h0,g0⟩:=g.cons
 obtain⟨p,rfl⟩:=P5 h0
 obtain⟨B,j,rfl,h1,g1⟩:=g0.cons
 obtain⟨u,rfl⟩:=qe h1
 obtain⟨C,m,rfl,D,g2⟩:=g1.cons
 obtain⟨y,rfl⟩:=qe D
 obtain⟨E,o,rfl,h3,g3⟩:=g2.cons
 obtain⟨z,rfl⟩:=Z9 h3
 obtain rfl:=g3.nil
 exact⟨⟨p,u,y,z⟩,rfl⟩
theorem aaI{O:Ht}{G k:Nat}{b:List Value}(h:Rp Tryz.prog O G k 26 b):∃x:SV mV,b=lL x/\gB kl 4 O G x:=
 Rp.vf (enc:=kl) (m:=4) (by kernel_rfl) (fun _=>rfl) (fun _ _ h=>ZM h) h
theorem ZN{O:Ht}{G k:Nat}{b:List Value}(h:Rp Tryz.prog O G k 359 b):∃x:l_,b=j1 x:=by
 obtain⟨n,lss,rfl,g⟩:=Rp.fields (ts:=[9,3,3]) (by kernel_rfl) h
 obtain⟨y,e,rfl,h0,g0⟩:=g.cons
 obtain⟨o,rfl⟩:=P5 h0
 obtain⟨z,j,rfl,h1,g1⟩:=g0.cons
 obtain⟨p,rfl⟩:=qe h1
 obtain⟨A,m,rfl,D,g2⟩:=g1.cons
 obtain⟨u,rfl⟩:=qe D
 obtain rfl:=g2.nil
 exact⟨⟨o,p,u⟩,rfl⟩
theorem aaJ{O:Ht}{G k:Nat}{b:List Value}(h:Rp Tryz.prog O G k 27 b):∃x:SV l_,b=lL x/\gB j1 3 O G x:=
 Rp.vf (enc:=j1) (m:=3) (by kernel_rfl) (fun _=>rfl) (fun _ _ h=>ZN h) h
theorem ZO{O:Ht}{G k:Nat}{b:List Value}(h:Rp Tryz.prog O G k 371 b):∃x:po,b=lD x:=by
 obtain⟨n,lss,rfl,g⟩:=Rp.fields (ts:=[3,3,3,3]) (by kernel_rfl) h
 obtain⟨A,e,rfl,h0,g0⟩:=g.cons
 obtain⟨p,rfl⟩:=qe h0
 obtain⟨B,j,rfl,h1,g1⟩:=g0.cons
 obtain⟨u,rfl⟩:=qe h1
 obtain⟨C,m,rfl,D,g2⟩:=g1.cons
 obtain⟨y,rfl⟩:=qe D
 obtain⟨E,o,rfl,h3,g3⟩:=g2.cons
 obtain⟨z,rfl⟩:=qe h3
 obtain rfl:=g3.nil
 exact⟨⟨p,u,y,z⟩,rfl⟩
theorem aaK{O:Ht}{G k:Nat}{b:List Value}(h:Rp Tryz.prog O G k 28 b):∃x:SV po,b=lL x/\gB lD 4 O G x:=
 Rp.vf (enc:=lD) (m:=4) (by kernel_rfl) (fun _=>rfl) (fun _ _ h=>ZO h) h
theorem Y6{O:Ht}{G:Nat}:∀(k:Nat) {b:List Value},Rp Tryz.prog O G k 149 b->∃x:RCond,b=iw x/\tM k O G x:=by
 intro k
 induction k using Nat.strongRecOn with
 |_ k ih=>
  intro b h
  obtain⟨n,lss,rfl,rfl,g⟩:=Rp.Kq (ts:=[3,3,3,147]) (by kernel_rfl) h
  obtain⟨J,o,rfl,h0,g0⟩:=g.cons
  obtain⟨B,rfl⟩:=HX h0
  obtain⟨K,p,rfl,h1,g1⟩:=g0.cons
  obtain⟨C,rfl⟩:=HX h1
  obtain⟨L,u,rfl,D,g2⟩:=g1.cons
  obtain⟨F,rfl⟩:=HX D
  obtain⟨M,y,rfl,h3,g3⟩:=g2.cons
  obtain rfl:=g3.nil
  obtain⟨j,s,rfl,rfl,z,A,q3⟩:=Rp.Dv (enc:=iw) (m:=4) (E:=fun j x=>tM j O G x) (by kernel_rfl) (fun _=>rfl) (fun j e l hl=>ih j (by omega) hl) h3
  rw[show Tryz.prog.bytesOf 149=48 from by kernel_rfl]at q3
  exact⟨.mk B C F s.v s.l,rfl,tM.up (show tM (j+1) O G _ from⟨⟨z,A⟩,q3⟩)⟩
theorem Y7{O:Ht}{G:Nat}:∀(k:Nat) {b:List Value},Rp Tryz.prog O G k 151 b->∃x:RStep,b=jG x/\q9 k O G x:=by
 intro k
 induction k using Nat.strongRecOn with
 |_ k ih=>
  intro b h
  obtain⟨n,lss,rfl,rfl,g⟩:=Rp.Kq (ts:=[3,3,149,29,29]) (by kernel_rfl) h
  obtain⟨N,y,rfl,h0,g0⟩:=g.cons
  obtain⟨K,rfl⟩:=HX h0
  obtain⟨R,z,rfl,h1,g1⟩:=g0.cons
  obtain⟨L,rfl⟩:=HX h1
  obtain⟨S,A,rfl,D,g2⟩:=g1.cons
  obtain⟨M,rfl,c2⟩:=Y6 _ D
  obtain⟨W,B,rfl,h3,g3⟩:=g2.cons
  obtain⟨X,C,rfl,h4,g4⟩:=g3.cons
  obtain rfl:=g4.nil
  obtain⟨j,s,rfl,rfl,F,J,q3⟩:=Rp.Dv (enc:=jG) (m:=8) (E:=fun j x=>q9 j O G x) (by kernel_rfl) (fun _=>rfl) (fun j e l hl=>ih j (by omega) hl) h3
  obtain⟨o,u,hj,rfl,r1,r2,p⟩:=Rp.Dv (enc:=jG) (m:=8) (E:=fun j x=>q9 j O G x) (by kernel_rfl) (fun _=>rfl) (fun j e l hl=>ih j (by omega) hl) h4
  obtain rfl:o=j:=by omega
  rw[show Tryz.prog.bytesOf 151=112 from by kernel_rfl]at q3 p
  exact⟨.mk K L M s.v s.l u.v u.l,rfl,q9.up (show q9 (o+1) O G _ from⟨⟨_,c2⟩,⟨F,J⟩,⟨r1,r2⟩,q3,p⟩)⟩
theorem aaL{O:Ht}{G k:Nat}{b:List Value}(h:Rp Tryz.prog O G k 29 b):∃x:SV RStep,b=lL x/\jC jG 8 (fun O G y=>j_ O G y) O G x/\x.l.length<=2932031007403:=by
 obtain⟨j,s,rfl,rfl,o,p,q3⟩:=Rp.Dv (enc:=jG) (m:=8) (E:=fun j x=>j_ O G x) (by kernel_rfl) (fun _=>rfl) (fun j e l hl=>by obtain⟨x,e,hx⟩:=Y7 j hl;exact⟨x,e,_,hx⟩) h
 rw[show Tryz.prog.bytesOf 151=112 from by kernel_rfl]at q3
 have:reachBytes=140737488351232:=by decide
 exact⟨s,rfl,⟨o,p⟩,by omega⟩
theorem aaM{O:Ht}{G k:Nat}{b:List Value}(h:Rp Tryz.prog O G k 31 b):∃x:Ga,b=zO x:=by
 obtain⟨n,lss,rfl,g⟩:=Rp.fields (ts:=[3,3,3,3,3]) (by kernel_rfl) h
 obtain⟨C,e,rfl,h0,g0⟩:=g.cons
 obtain⟨u,rfl⟩:=qe h0
 obtain⟨E,j,rfl,h1,g1⟩:=g0.cons
 obtain⟨y,rfl⟩:=qe h1
 obtain⟨F,m,rfl,D,g2⟩:=g1.cons
 obtain⟨z,rfl⟩:=qe D
 obtain⟨J,o,rfl,h3,g3⟩:=g2.cons
 obtain⟨A,rfl⟩:=qe h3
 obtain⟨K,p,rfl,h4,g4⟩:=g3.cons
 obtain⟨B,rfl⟩:=qe h4
 obtain rfl:=g4.nil
 exact⟨⟨u,y,z,A,B⟩,rfl⟩
theorem aaN{O:Ht}{G k:Nat}{j:List Value}(h:Rp Tryz.prog O G k 33 j):∃x:ka,j=iT x/\pc O G x/\x.n_.l.length<=2932031007403:=by
 obtain⟨n,lss,rfl,g⟩:=Rp.fields (ts:=[9,22,23,24,25,26,27,28,29,31,3,3]) (by kernel_rfl) h
 obtain⟨aw,F,rfl,h0,g0⟩:=g.cons
 obtain⟨ag,rfl⟩:=P5 h0
 obtain⟨ax,J,rfl,h1,g1⟩:=g0.cons
 obtain⟨ah,rfl,aa⟩:=aaE h1
 obtain⟨ay,K,rfl,D,g2⟩:=g1.cons
 obtain⟨ai,rfl,ab⟩:=aaF D
 obtain⟨az,L,rfl,h3,g3⟩:=g2.cons
 obtain⟨aj,rfl,q3⟩:=aaG h3
 obtain⟨aA,M,rfl,h4,g4⟩:=g3.cons
 obtain⟨ak,rfl,ad⟩:=aaH h4
 obtain⟨aB,N,rfl,z,g5⟩:=g4.cons
 obtain⟨al,rfl,ae⟩:=aaI z
 obtain⟨aC,R,rfl,A,g6⟩:=g5.cons
 obtain⟨an,rfl,q6⟩:=aaJ A
 obtain⟨aD,S,rfl,B,g7⟩:=g6.cons
 obtain⟨ao,rfl,af⟩:=aaK B
 obtain⟨aE,W,rfl,C,g8⟩:=g7.cons
 obtain⟨aq,rfl,m⟩:=aaL C
 obtain⟨aF,X,rfl,E,g9⟩:=g8.cons
 obtain⟨ar,rfl⟩:=aaM E
 obtain⟨au,u,rfl,b,g10⟩:=g9.cons
 obtain⟨o,rfl⟩:=qe b
 obtain⟨av,y,rfl,e,g11⟩:=g10.cons
 obtain⟨p,rfl⟩:=qe e
 obtain rfl:=g11.nil
 exact⟨⟨ag,ah,ai,aj,ak,al,an,ao,aq,ar,o,p⟩,rfl,⟨aa,ab,q3,ad,ae,q6,af,m.1⟩,m.2⟩
theorem ZP{O:Ht}{G k:Nat}{b:List Value}(h:Rp Tryz.prog O G k 255 b):∃x:sf,b=kj x:=by
 obtain⟨n,lss,rfl,g⟩:=Rp.fields (ts:=[3,3,3]) (by kernel_rfl) h
 obtain⟨y,e,rfl,h0,g0⟩:=g.cons
 obtain⟨o,rfl⟩:=qe h0
 obtain⟨z,j,rfl,h1,g1⟩:=g0.cons
 obtain⟨p,rfl⟩:=qe h1
 obtain⟨A,m,rfl,D,g2⟩:=g1.cons
 obtain⟨u,rfl⟩:=qe D
 obtain rfl:=g2.nil
 exact⟨⟨o,p,u⟩,rfl⟩
theorem aaO{O:Ht}{G k:Nat}{b:List Value}(h:Rp Tryz.prog O G k 34 b):∃x:SV sf,b=lL x/\gB kj 3 O G x:=
 Rp.vf (enc:=kj) (m:=3) (by kernel_rfl) (fun _=>rfl) (fun _ _ h=>ZP h) h
theorem RC{O:Ht}{G k:Nat}{b:List Value}(h:Rp Tryz.prog O G k 42 b):∃x:SV Int,b=lL x/\gB encI 1 O G x:=
 Rp.vf (enc:=encI) (m:=1) (by kernel_rfl) (fun _=>rfl) (fun _ _ h=>qe h) h
theorem aaP{O:Ht}{G k:Nat}{b:List Value}(h:Rp Tryz.prog O G k 35 b):∃x:SV (SV Int),b=lL x/\jC lL 1 (fun O G y=>gB encI 1 O G y) O G x:=
 Rp.slice (E:=fun O G y=>gB encI 1 O G y) (enc:=lL) (m:=1) (by kernel_rfl) (fun _=>rfl) (fun _ _ h=>RC h) h
theorem aaQ{O:Ht}{G k:Nat}{b:List Value}(h:Rp Tryz.prog O G k 37 b):∃x:kg,b=ji x/\oy O G x:=by
 obtain⟨n,lss,rfl,g⟩:=Rp.fields (ts:=[34,35]) (by kernel_rfl) h
 obtain⟨y,e,rfl,h0,g0⟩:=g.cons
 obtain⟨p,rfl,m⟩:=aaO h0
 obtain⟨z,j,rfl,h1,g1⟩:=g0.cons
 obtain⟨u,rfl,o⟩:=aaP h1
 obtain rfl:=g1.nil
 exact⟨⟨p,u⟩,rfl,⟨m,o⟩⟩
theorem aaR{O:Ht}{G k:Nat}{b:List Value}(h:Rp Tryz.prog O G k 84 b):∃x:AR,b=tA x:=by
 obtain⟨n,lss,rfl,g⟩:=Rp.fields (ts:=[3,3]) (by kernel_rfl) h
 obtain⟨p,e,rfl,h0,g0⟩:=g.cons
 obtain⟨m,rfl⟩:=qe h0
 obtain⟨u,j,rfl,h1,g1⟩:=g0.cons
 obtain⟨o,rfl⟩:=qe h1
 obtain rfl:=g1.nil
 exact⟨⟨m,o⟩,rfl⟩
theorem aaS{O:Ht}{G k:Nat}{b:List Value}(h:Rp Tryz.prog O G k 38 b):∃x:SV AR,b=lL x/\gB tA 2 O G x:=
 Rp.vf (enc:=tA) (m:=2) (by kernel_rfl) (fun _=>rfl) (fun _ _ h=>aaR h) h
theorem ZQ{O:Ht}{G k:Nat}{b:List Value}(h:Rp Tryz.prog O G k 153 b):∃x:jg,b=gU x:=by
 obtain⟨n,lss,rfl,g⟩:=Rp.fields (ts:=[4,3,3,3]) (by kernel_rfl) h
 obtain⟨A,e,rfl,h0,g0⟩:=g.cons
 obtain⟨p,rfl⟩:=Z9 h0
 obtain⟨B,j,rfl,h1,g1⟩:=g0.cons
 obtain⟨u,rfl⟩:=qe h1
 obtain⟨C,m,rfl,D,g2⟩:=g1.cons
 obtain⟨y,rfl⟩:=qe D
 obtain⟨E,o,rfl,h3,g3⟩:=g2.cons
 obtain⟨z,rfl⟩:=qe h3
 obtain rfl:=g3.nil
 exact⟨⟨p,u,y,z⟩,rfl⟩
theorem ZR{O:Ht}{G k:Nat}{b:List Value}(h:Rp Tryz.prog O G k 117 b):∃x:SV jg,b=lL x/\gB gU 4 O G x:=
 Rp.vf (enc:=gU) (m:=4) (by kernel_rfl) (fun _=>rfl) (fun _ _ h=>ZQ h) h
theorem ZS{O:Ht}{G k:Nat}{b:List Value}(h:Rp Tryz.prog O G k 114 b):∃x:SV (SV jg),b=lL x/\jC lL 1 (fun O G y=>gB gU 4 O G y) O G x:=
 Rp.slice (E:=fun O G y=>gB gU 4 O G y) (enc:=lL) (m:=1) (by kernel_rfl) (fun _=>rfl) (fun _ _ h=>ZR h) h
theorem ZT{O:Ht}{G k:Nat}{b:List Value}(h:Rp Tryz.prog O G k 116 b):∃x:im,b=ja x/\mr O G x:=by
 obtain⟨n,lss,rfl,g⟩:=Rp.fields (ts:=[3,42,114]) (by kernel_rfl) h
 obtain⟨A,e,rfl,h0,g0⟩:=g.cons
 obtain⟨u,rfl⟩:=qe h0
 obtain⟨B,j,rfl,h1,g1⟩:=g0.cons
 obtain⟨y,rfl,o⟩:=RC h1
 obtain⟨C,m,rfl,D,g2⟩:=g1.cons
 obtain⟨z,rfl,p⟩:=ZS D
 obtain rfl:=g2.nil
 exact⟨⟨u,y,z⟩,rfl,⟨o,p⟩⟩
theorem aaT{O:Ht}{G k:Nat}{b:List Value}(h:Rp Tryz.prog O G k 39 b):∃x:SV im,b=lL x/\jC ja 3 (fun O G y=>mr O G y) O G x:=
 Rp.slice (E:=fun O G y=>mr O G y) (enc:=ja) (m:=3) (by kernel_rfl) (fun _=>rfl) (fun _ _ h=>ZT h) h
theorem aaU{O:Ht}{G k:Nat}{b:List Value}(h:Rp Tryz.prog O G k 41 b):∃x:jq,b=gO x/\kB O G x:=by
 obtain⟨n,lss,rfl,g⟩:=Rp.fields (ts:=[37,38,39]) (by kernel_rfl) h
 obtain⟨B,e,rfl,h0,g0⟩:=g.cons
 obtain⟨y,rfl,o⟩:=aaQ h0
 obtain⟨C,j,rfl,h1,g1⟩:=g0.cons
 obtain⟨z,rfl,p⟩:=aaS h1
 obtain⟨E,m,rfl,D,g2⟩:=g1.cons
 obtain⟨A,rfl,u⟩:=aaT D
 obtain rfl:=g2.nil
 exact⟨⟨y,z,A⟩,rfl,⟨o,p,u⟩⟩
theorem aaV{O:Ht}{G k:Nat}{b:List Value}(h:Rp Tryz.prog O G k 44 b):∃x:qM,b=pz x/\xG O G x:=by
 obtain⟨n,lss,rfl,g⟩:=Rp.fields (ts:=[42,3,3]) (by kernel_rfl) h
 obtain⟨z,e,rfl,h0,g0⟩:=g.cons
 obtain⟨p,rfl,o⟩:=RC h0
 obtain⟨A,j,rfl,h1,g1⟩:=g0.cons
 obtain⟨u,rfl⟩:=qe h1
 obtain⟨B,m,rfl,D,g2⟩:=g1.cons
 obtain⟨y,rfl⟩:=qe D
 obtain rfl:=g2.nil
 exact⟨⟨p,u,y⟩,rfl,⟨o⟩⟩
theorem ZU{O:Ht}{G k:Nat}{b:List Value}(h:Rp Tryz.prog O G k 198 b):∃x:sQ,b=vX x:=by
 obtain⟨n,lss,rfl,g⟩:=Rp.fields (ts:=[3,3]) (by kernel_rfl) h
 obtain⟨p,e,rfl,h0,g0⟩:=g.cons
 obtain⟨m,rfl⟩:=qe h0
 obtain⟨u,j,rfl,h1,g1⟩:=g0.cons
 obtain⟨o,rfl⟩:=qe h1
 obtain rfl:=g1.nil
 exact⟨⟨m,o⟩,rfl⟩
theorem aaW{O:Ht}{G k:Nat}{b:List Value}(h:Rp Tryz.prog O G k 56 b):∃x:SV sQ,b=lL x/\gB vX 2 O G x:=
 Rp.vf (enc:=vX) (m:=2) (by kernel_rfl) (fun _=>rfl) (fun _ _ h=>ZU h) h
theorem aaX{O:Ht}{G k:Nat}{b:List Value}(h:Rp Tryz.prog O G k 58 b):∃x:lW,b=kb x/\nz O G x:=by
 obtain⟨n,lss,rfl,g⟩:=Rp.fields (ts:=[3,42,56]) (by kernel_rfl) h
 obtain⟨A,e,rfl,h0,g0⟩:=g.cons
 obtain⟨u,rfl⟩:=qe h0
 obtain⟨B,j,rfl,h1,g1⟩:=g0.cons
 obtain⟨y,rfl,o⟩:=RC h1
 obtain⟨C,m,rfl,D,g2⟩:=g1.cons
 obtain⟨z,rfl,p⟩:=aaW D
 obtain rfl:=g2.nil
 exact⟨⟨u,y,z⟩,rfl,⟨o,p⟩⟩
def T6(t:TypeId):Bool:=has 4886216235416671712912435927888865410133257651741510989522482038222427049852632025785386068465131977319087342104 t
theorem ZV(t:TypeId)(h:T6 t=true):zS Tryz.prog T6 t=true:=by
 have jH:t<372:=Sk (m:=4886216235416671712912435927888865410133257651741510989522482038222427049852632025785386068465131977319087342104) (N:=372) (by kernel_rfl) h
 have key:((List.range 372).all fun t=>!(T6 t)||zS Tryz.prog T6 t)=true:=by kernel_rfl
 have:=sc key jH
 rw[h]at this
 simpa using this
theorem P6:tI 0 12 zG=true/\zG.all (Bc 12)=true:=⟨by kernel_rfl,by kernel_rfl⟩
theorem Z_:Tryz.prog.underlying 3=some (.int .i64):=by kernel_rfl
theorem Nr:Ou Tryz.prog 3 405=true:=by kernel_rfl
theorem XG{W:World}(h:laidMetH Tryz.prog Rows.relaySoundRow.laid W):IH zG W:=by
 have h:laidMet Tryz.prog Rows.relaySoundRow.laid W:=h
 obtain⟨ps,h,_,_⟩:=h
 have key:∀(n:String) (g:Nat) (a b:Int),(n,.agg [.lit (.int .i64 a),.lit (.int .i64 b)])∈Rows.relaySoundRow.laid->Tryz.prog.globalNamed n=some g->(Tryz.prog.globals[g]?).map (·.type)=some 405->∀m:TB,m=⟨g,[.int .i64 a,.int .i64 b],false,0⟩->∀(j:Nat) (v:Value),m.Z[j]?=some v->W.cell? ⟨m.num,j,none⟩=some v:=fun n g a b hm hg o m e=>by
  subst e;exact VO Z_ Nr h hm hg o
 intro m o
 simp only[zG,List.mem_cons,List.not_mem_nil,or_false]at o
 rcases o with e|e|e|e|e|e|e|e|e|e|e
 · exact key "stopwatch/facts.bibS" 0 1 9999 (by simp[Rows.relaySoundRow,Rows.laid_stopwatch_facts_bibS]) (by kernel_rfl) (by kernel_rfl) m e
 · exact key "stopwatch/facts.timeS" 1 (-1099511627776) 1099511627776 (by simp[Rows.relaySoundRow,Rows.laid_stopwatch_facts_timeS]) (by kernel_rfl) (by kernel_rfl) m e
 · exact key "stopwatch/facts.chipS" 2 0 1048576 (by simp[Rows.relaySoundRow,Rows.laid_stopwatch_facts_chipS]) (by kernel_rfl) (by kernel_rfl) m e
 · exact key "stopwatch/facts.matS" 3 0 39 (by simp[Rows.relaySoundRow,Rows.laid_stopwatch_facts_matS]) (by kernel_rfl) (by kernel_rfl) m e
 · exact key "stopwatch/facts.epochS" 4 0 255 (by simp[Rows.relaySoundRow,Rows.laid_stopwatch_facts_epochS]) (by kernel_rfl) (by kernel_rfl) m e
 · exact key "stopwatch/facts.lengthS" 5 0 1099511627776 (by simp[Rows.relaySoundRow,Rows.laid_stopwatch_facts_lengthS]) (by kernel_rfl) (by kernel_rfl) m e
 · exact key "stopwatch/facts.positionS" 6 0 255 (by simp[Rows.relaySoundRow,Rows.laid_stopwatch_facts_positionS]) (by kernel_rfl) (by kernel_rfl) m e
 · exact key "stopwatch/facts.caseS" 7 1 1048576 (by simp[Rows.relaySoundRow,Rows.laid_stopwatch_facts_caseS]) (by kernel_rfl) (by kernel_rfl) m e
 · exact key "stopwatch/facts.bitS" 8 0 1 (by simp[Rows.relaySoundRow,Rows.laid_stopwatch_facts_bitS]) (by kernel_rfl) (by kernel_rfl) m e
 · exact key "stopwatch/facts.crewS" 9 0 31 (by simp[Rows.relaySoundRow,Rows.laid_stopwatch_facts_crewS]) (by kernel_rfl) (by kernel_rfl) m e
 · exact key "stopwatch/facts.numberS" 10 1 1048576 (by simp[Rows.relaySoundRow,Rows.laid_stopwatch_facts_numberS]) (by kernel_rfl) (by kernel_rfl) m e
theorem XH{w:World}(h:w.ShapedOpen Tryz.prog):∃m,w.cell? ⟨11,0,none⟩=some (.int .i64 m):=
 Go.Proofs.cell_of_shapedOpen_int (zero:=#[.int .i64 0]) (t:=3) h (of_decide_eq_true (by kernel_rfl)) (by kernel_rfl) rfl (by kernel_rfl) (by kernel_rfl) Z_
theorem VX{O:Ht}{G:Nat}{e:List Value}(h:yF Tryz.prog O G [33,41,44,58] e)(hf:∀(e9:Ht) (e_:Nat),G<=e_->HE G O e9->∀b o,(yA zG .nil).get b=some o->e9.get b=some o):WF ex 4 e O G (fL G O (gi True)):=by
 obtain⟨v0,z,rfl,⟨N,J,h0,_,rfl⟩,g0⟩:=h.cons
 obtain⟨j,rfl,y⟩:=aaN h0
 obtain⟨W,A,rfl,⟨R,K,h1,_,rfl⟩,g1⟩:=g0.cons
 obtain⟨m,rfl,E⟩:=aaU h1
 obtain⟨v2,B,rfl,⟨n2,L,D,_,rfl⟩,g2⟩:=g1.cons
 obtain⟨p,rfl,F⟩:=aaV D
 obtain⟨v3,C,rfl,⟨S,M,h3,_,rfl⟩,g3⟩:=g2.cons
 obtain⟨u,rfl,q3⟩:=aaX h3
 obtain rfl:=g3.nil
 rw[show AT Tryz.prog 33 (iT j)=.agg (iT j).toArray from by kernel_rfl]
 rw[show AT Tryz.prog 41 (gO m)=.agg (gO m).toArray from by kernel_rfl]
 rw[show AT Tryz.prog 44 (pz p)=.agg (pz p).toArray from by kernel_rfl]
 rw[show AT Tryz.prog 58 (kb u)=.agg (kb u).toArray from by kernel_rfl]
 exact LJ ZB YX YY j m p u O G y.1 E F q3 y.2 fun e9 e_ hn he=>Y3 (hf e9 e_ hn he)
theorem XI{H:Type}{enc:TypeId×Value->H}(W:World)(base:Nat)(args:Array Value)(ds:List (DataW H))(p:List MemPlace)
 (o:∀(j:Nat) t v,Tryz.f4.params[j]?=some t->args[j]?=some v->Value.okWide Tryz.prog W .any base t v)
 (y:DataW.TrodAll enc Tryz.prog W 0 (fun _=>true) true Tryz.f4.params.toList args.toList ds p) (u:∀k∈DataW.weightsEach Tryz.prog Tryz.f4.params.toList ds,k<=reachBytes) (hl:IH zG W) (z:W.ShapedOpen Tryz.prog):
 (∃d0 d1 d2 d3,ds=[d0,d1,d2,d3])/\Calls Tryz.prog 4 args W fun e A=>e=.returned (.bool true)/\Below W.heap.size W A:=by
 have hm:=XH z
 have hs:11<W.heap.size:=by obtain⟨m,hm⟩:=hm;exact Nd hm
 have hg:12<=W.heap.size:=hs
 rw[Tryz.params4]at y o u
 have hlen:=GP y
 refine⟨?_,Sm ZD (aaD _ _ ⟨hs,hm⟩) hg P6.1 P6.2 hl ZV y u (fun j t v a b=>o j t v (by simpa using a) b) (fun t B=>?_) fun O G C h hf=>VX h hf⟩
 · match ds,hlen with
   |[d0,d1,d2,d3],_=>exact⟨_,_,_,_,rfl⟩
 · have:([33,41,44,58]:List TypeId).all T6=true:=by kernel_rfl
   exact List.all_eq_true.1 this t B
def aaY:Array Value:=#[(.agg ⟨[.string ⟨#[]⟩,.slice none 0 0,.slice none 0 0,.slice none 0 0,.slice none 0 0,.slice none 0 0,.slice none 0 0,.slice none 0 0,.slice none 0 0,.int .i64 0,.int .i64 0,.int .i64 0,.int .i64 0,.int .i64 0,.int .i64 0,.int .i64 0]⟩),(.agg ⟨[.slice none 0 0,.slice none 0 0,.slice none 0 0,.slice none 0 0]⟩),(.agg ⟨[.slice none 0 0,.int .i64 0,.int .i64 0]⟩),(.agg ⟨[.int .i64 0,.slice none 0 0,.slice none 0 0]⟩)]
theorem VY(os:Os)(args:Array Value):laidMetH Tryz.prog Rows.relaySoundRow.laid ((World.laidAll Tryz.prog os Rows.relaySoundRow.laid).forCall (fun _ _=>0) ⟨#[],args,[]⟩).memory:=by
 rw[MakeChecks.laidMetH_plain _ _ _ (by kernel_rfl)]
 exact laidMet_laidAll _ (by kernel_rfl) (by kernel_rfl)
theorem VZ:∀t∈Tryz.f4.params.toList,Tryz.prog.readableRec t=true/\t<Tryz.prog.types.size:=fun t b=>by
 have h:(Tryz.f4.params.toList.all fun t=>Tryz.prog.readableRec t&&Nat.blt t Tryz.prog.types.size)=true:=by kernel_rfl
 have:=List.all_eq_true.1 h t b
 rw[Bool.and_eq_true]at this
 exact⟨this.1,mN.1 this.2⟩
theorem RD(os:Os)(started:os.Started)(H:Type)(enc:TypeId×Value->H):
 ReturnsInHanded {} Tryz.checked os 4 .any (fun w args=>(Rows.relaySoundSpec.pre enc Tryz.prog Tryz.f4 [] false w args/\laidMetH Tryz.prog Rows.relaySoundRow.laid w)/\sizedMet enc Tryz.prog Tryz.f4 (OpenSpec.ofChange Rows.relaySoundSpec) false w args)
  (Rows.relaySoundSpec.post enc Tryz.prog Tryz.f4 false true false false):=by
 refine Na (C:=Tryz.checked) (t:=4) (X:=fun w _=>laidMetH Tryz.prog Rows.relaySoundRow.laid w) (fun _ _ _ y h=>h.of_heap y) (by kernel_rfl) started (by kernel_rfl) Tryz.func4
  (ChangeSpec.witness_shaped (enc:=enc) (C:=Tryz.checked) (os:=os) (X:=fun w _=>laidMetH Tryz.prog Rows.relaySoundRow.laid w) false (World.laidAll Tryz.prog os Rows.relaySoundRow.laid) aaY 8 (World.laidAll_os _ _ _)
    (World.shaped_of_ZipB (by kernel_rfl) (by kernel_rfl)) (by kernel_rfl) (by kernel_rfl) (by kernel_rfl) (VY os _))
  (by kernel_rfl) rfl (by kernel_rfl) (by kernel_rfl) VZ ?_
 · intro W base args ds gs before p b o m e u j
   subst e
   obtain⟨⟨d0,d1,d2,d3,rfl⟩,hc⟩:=XI W base args ds p b o m (XG u) j
   exact⟨rfl,hc⟩
theorem T7:joinedFacts Tryz.prog 4 Tryz.f4 Rows.relaySoundSpec Rows.relaySoundRow=true:=by
 unfold joinedFacts
 exact(ba (ba (ba (ba (ba (ba (ba (ba (ba (ba (ba (ba (ba (ba (ba (ba (ba (ba (ba (ba (ba (ba (ba (ba (ba (ba (ba (ba (ba (ba (ba ZE RA) Ov) Pk) Pl) VR) TY) VS) Ow) Rz) LK) Pj) VQ) XD) T0) RB) VT) Pm) VU) VV) Ox) Pn) Oy) LL) LM) Po) T2) XE) VW) T4) T5) XF)
theorem T8:Rows.RelaySoundSaid:=
 OpenClaim.holds_of_wide 4 Tryz.f4 rfl rfl rfl rfl rfl rfl rfl ⟨rfl,rfl,rfl,rfl,rfl⟩ rfl rfl rfl rfl rfl (by kernel_rfl) Tryz.func4 T7
  (of_decide_eq_true (by kernel_rfl)) (by unfold Func.isWrapper;rw[if_neg (of_decide_eq_false (by kernel_rfl))];exact⟨rfl,rfl⟩)
  (fun os started H enc _=>RD os started H enc)
theorem XJ:Tryz.pinned.checked.prog=Tryz.prog:=rfl
theorem ZW:false=Rows.relaySoundRow.goesBy Tryz.pinned.checked.prog:=TW (by rw[XJ];exact TX) rfl
theorem Y8:∀f fn,Tryz.pinned.checked.prog.funcNamed Rows.relaySoundRow.func=some f->Tryz.pinned.checked.prog.funcs[f]?=some fn->true=Tryz.pinned.checked.prog.looks []/\∀(j:Nat) t,fn.params[j]?=some t->Tryz.pinned.checked.prog.wantsStandIn t=false:=
 VP (f0:=4) (Y4:=Tryz.f4) (by kernel_rfl) (by kernel_rfl) (by kernel_rfl) (by kernel_rfl)
theorem XK:Rows.relaySoundRow.wfByText (OpenSpec.ofChange Rows.relaySoundSpec)=true:=by kernel_rfl
theorem ZX:Tryz.pinned.checked.prog.mainIs=some (true,("c7eda499b1e56a8b5b3af4e2d9a9772ef801ad781e908b2bee3dd112ac687c39":String).toList):=by kernel_rfl
end
end Sw
namespace Go.Proofs.YtecbgehgkpgbmaaGreatDoor
open Go
set_option maxRecDepth 100000
theorem relaySound_card:Rows.RelaySoundCardSaid:=
 Claim7.holds_tied_plain_at (p:=Tryz.pinned) (s:=OpenSpec.ofChange Rows.relaySoundSpec) (c:=Rows.relaySoundRow) .later [] [.data,.data,.data,.data,.data,.data,.data,.data,.data,.data,.data] true (true, "c7eda499b1e56a8b5b3af4e2d9a9772ef801ad781e908b2bee3dd112ac687c39") true
  Sw.T8 (fun _ h=>by cases h) Sw.XK (fun _ h=>by cases h) relaySound_row_tie rfl ⟨rfl,rfl⟩ Sw.ZX rfl Sw.Y8 Sw.ZW
end Go.Proofs.YtecbgehgkpgbmaaGreatDoor
