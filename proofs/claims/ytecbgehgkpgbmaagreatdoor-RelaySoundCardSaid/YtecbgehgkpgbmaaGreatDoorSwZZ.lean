/- A part of the proof that the law returns true for every input that its row speaks of. No condition is added. -/
import Derived.Test.YtecbgehgkpgbmaaGreatDoorSwAN
import Derived.Test.YtecbgehgkpgbmaaGreatDoorSwAZ
import Derived.Test.YtecbgehgkpgbmaaGreatDoorRows
import Derived.Test.YtecbgehgkpgbmaaGreatDoorSwBA
import Derived.Test.YtecbgehgkpgbmaaGreatDoorSwBB
import Derived.Test.YtecbgehgkpgbmaaGreatDoorSwBC
import Derived.Test.YtecbgehgkpgbmaaGreatDoorSwBD
import Derived.Test.YtecbgehgkpgbmaaGreatDoorSwBE
import Derived.Test.YtecbgehgkpgbmaaGreatDoorSwBF
import Derived.Lay
import Derived.SevenTiedAt
import Derived.Test.YtecbgehgkpgbmaaGreatDoorTie
import Derived.Test.YtecbgehgkpgbmaaGreatDoorCards
import Derived.JoinedOf
namespace Sw
noncomputable section
open Go Go.Proofs Go.Proofs.YtecbgehgkpgbmaaGreatDoor Go.RowKit Go.ChangeShapes Go.WideShapes
set_option maxRecDepth 100000
theorem PK{O:Ht}{G k:Nat}{b:List Value}(h:Rp Tryz.prog O G k 9 b):∃x:ByteArray,b=ZT x:=by
 obtain⟨z,rfl,_⟩:=Rp.string (by kernel_rfl) h
 exact⟨z,rfl⟩
theorem pV{O:Ht}{G k:Nat}{b:List Value}(h:Rp Tryz.prog O G k 3 b):∃x:Int,b=encI x:=by
 obtain⟨z,rfl,_⟩:=Rp.int (ik:=.i64) (by kernel_rfl) h
 exact⟨z,rfl⟩
theorem Zk{O:Ht}{G k:Nat}{b:List Value}(h:Rp Tryz.prog O G k 140 b):∃x:tN,b=o9 x:=by
 obtain⟨n,lss,rfl,g⟩:=Rp.fields (ts:=[9,3]) (by kernel_rfl) h
 obtain⟨p,e,rfl,h0,g0⟩:=g.cons
 obtain⟨m,rfl⟩:=PK h0
 obtain⟨u,j,rfl,h1,g1⟩:=g0.cons
 obtain⟨o,rfl⟩:=pV h1
 obtain rfl:=g1.nil
 exact⟨⟨m,o⟩,rfl⟩
theorem aaj{O:Ht}{G k:Nat}{b:List Value}(h:Rp Tryz.prog O G k 22 b):∃x:SV tN,b=lC x/\gx o9 2 O G x:=
 Rp.uU (enc:=o9) (m:=2) (by kernel_rfl) (fun _=>rfl) (fun _ _ h=>Zk h) h
theorem Zl{O:Ht}{G k:Nat}{b:List Value}(h:Rp Tryz.prog O G k 142 b):∃x:s6,b=my x:=by
 obtain⟨n,lss,rfl,g⟩:=Rp.fields (ts:=[3,3,3,3]) (by kernel_rfl) h
 obtain⟨A,e,rfl,h0,g0⟩:=g.cons
 obtain⟨p,rfl⟩:=pV h0
 obtain⟨B,j,rfl,h1,g1⟩:=g0.cons
 obtain⟨u,rfl⟩:=pV h1
 obtain⟨C,m,rfl,D,g2⟩:=g1.cons
 obtain⟨y,rfl⟩:=pV D
 obtain⟨E,o,rfl,h3,g3⟩:=g2.cons
 obtain⟨z,rfl⟩:=pV h3
 obtain rfl:=g3.nil
 exact⟨⟨p,u,y,z⟩,rfl⟩
theorem aak{O:Ht}{G k:Nat}{b:List Value}(h:Rp Tryz.prog O G k 23 b):∃x:SV s6,b=lC x/\gx my 4 O G x:=
 Rp.uU (enc:=my) (m:=4) (by kernel_rfl) (fun _=>rfl) (fun _ _ h=>Zl h) h
theorem HG{O:Ht}{G k:Nat}{b:List Value}(h:Rp Tryz.prog O G k 3 b):∃x:Int,b=encI x:=by
 obtain⟨z,rfl,hw⟩:=Rp.int (ik:=.i64) (by kernel_rfl) h
 exact⟨z,rfl⟩
theorem wy.up:∀{n:Nat} {O:Ht} {G:Nat} {c:RPart},wy n O G c->wy (n+1) O G c
 |0,_,_,_,h=>h.elim
 |_+1,_,_,_,h=>⟨⟨h.1.1,fun x hx=>(h.1.2 x hx).up⟩,h.2⟩
theorem YK{O:Ht}{G:Nat}:∀(k:Nat) {b:List Value},Rp Tryz.prog O G k 144 b->∃x:RPart,b=jJ x/\wy k O G x:=by
 intro k
 induction k using Nat.strongRecOn with
 |_ k ih=>
  intro b h
  obtain⟨n,lss,rfl,rfl,g⟩:=Rp.J8 (ts:=[3,3,106]) (by kernel_rfl) h
  obtain⟨C,o,rfl,h0,g0⟩:=g.cons
  obtain⟨A,rfl⟩:=HG h0
  obtain⟨F,p,rfl,h1,g1⟩:=g0.cons
  obtain⟨B,rfl⟩:=HG h1
  obtain⟨J,u,rfl,D,g2⟩:=g1.cons
  obtain rfl:=g2.nil
  obtain⟨j,s,rfl,rfl,y,z,q3⟩:=Rp.De (enc:=jJ) (m:=3) (E:=fun j x=>wy j O G x) (by kernel_rfl) (fun _=>rfl) (fun j e l hl=>ih j (by omega) hl) D
  rw[show Tryz.prog.bytesOf 144=40 from by kernel_rfl]at q3
  exact⟨.mk A B s.v s.l,rfl,wy.up (show wy (j+1) O G _ from⟨⟨y,z⟩,q3⟩)⟩
theorem Zm{O:Ht}{G k:Nat}{b:List Value}(h:Rp Tryz.prog O G k 106 b):∃x:SV RPart,b=lC x/\ju jJ 3 (fun O G y=>kN O G y) O G x:=by
 obtain⟨j,s,rfl,rfl,o,p,q3⟩:=Rp.De (enc:=jJ) (m:=3) (E:=fun j x=>kN O G x) (by kernel_rfl) (fun _=>rfl) (fun j e l hl=>by obtain⟨x,e,hx⟩:=YK j hl;exact⟨x,e,_,hx⟩) h
 exact⟨s,rfl,⟨o,p⟩⟩
theorem Zn{O:Ht}{G k:Nat}{b:List Value}(h:Rp Tryz.prog O G k 365 b):∃x:oP,b=lP x:=by
 obtain⟨n,lss,rfl,g⟩:=Rp.fields (ts:=[3,3,3]) (by kernel_rfl) h
 obtain⟨y,e,rfl,h0,g0⟩:=g.cons
 obtain⟨o,rfl⟩:=pV h0
 obtain⟨z,j,rfl,h1,g1⟩:=g0.cons
 obtain⟨p,rfl⟩:=pV h1
 obtain⟨A,m,rfl,D,g2⟩:=g1.cons
 obtain⟨u,rfl⟩:=pV D
 obtain rfl:=g2.nil
 exact⟨⟨o,p,u⟩,rfl⟩
theorem Zo{O:Ht}{G k:Nat}{b:List Value}(h:Rp Tryz.prog O G k 107 b):∃x:SV oP,b=lC x/\gx lP 3 O G x:=
 Rp.uU (enc:=lP) (m:=3) (by kernel_rfl) (fun _=>rfl) (fun _ _ h=>Zn h) h
theorem Zp{O:Ht}{G k:Nat}{b:List Value}(h:Rp Tryz.prog O G k 109 b):∃x:j6,b=iL x/\lQ O G x:=by
 obtain⟨n,lss,rfl,g⟩:=Rp.fields (ts:=[9,106,3,107,3]) (by kernel_rfl) h
 obtain⟨E,e,rfl,h0,g0⟩:=g.cons
 obtain⟨y,rfl⟩:=PK h0
 obtain⟨F,j,rfl,h1,g1⟩:=g0.cons
 obtain⟨z,rfl,u⟩:=Zm h1
 obtain⟨J,m,rfl,D,g2⟩:=g1.cons
 obtain⟨A,rfl⟩:=pV D
 obtain⟨K,o,rfl,h3,g3⟩:=g2.cons
 obtain⟨B,rfl,q3⟩:=Zo h3
 obtain⟨L,p,rfl,h4,g4⟩:=g3.cons
 obtain⟨C,rfl⟩:=pV h4
 obtain rfl:=g4.nil
 exact⟨⟨y,z,A,B,C⟩,rfl,⟨u,q3⟩⟩
theorem aal{O:Ht}{G k:Nat}{b:List Value}(h:Rp Tryz.prog O G k 24 b):∃x:SV j6,b=lC x/\ju iL 5 (fun O G y=>lQ O G y) O G x:=
 Rp.slice (E:=fun O G y=>lQ O G y) (enc:=iL) (m:=5) (by kernel_rfl) (fun _=>rfl) (fun _ _ h=>Zp h) h
theorem Zq{O:Ht}{G k:Nat}{b:List Value}(h:Rp Tryz.prog O G k 146 b):∃x:qP,b=nG x:=by
 obtain⟨n,lss,rfl,g⟩:=Rp.fields (ts:=[9,3]) (by kernel_rfl) h
 obtain⟨p,e,rfl,h0,g0⟩:=g.cons
 obtain⟨m,rfl⟩:=PK h0
 obtain⟨u,j,rfl,h1,g1⟩:=g0.cons
 obtain⟨o,rfl⟩:=pV h1
 obtain rfl:=g1.nil
 exact⟨⟨m,o⟩,rfl⟩
theorem aam{O:Ht}{G k:Nat}{b:List Value}(h:Rp Tryz.prog O G k 25 b):∃x:SV qP,b=lC x/\gx nG 2 O G x:=
 Rp.uU (enc:=nG) (m:=2) (by kernel_rfl) (fun _=>rfl) (fun _ _ h=>Zq h) h
theorem ZO{O:Ht}{G k:Nat}{b:List Value}(h:Rp Tryz.prog O G k 4 b):∃x:Bool,b=ZS x:=by
 obtain⟨z,rfl⟩:=Rp.bool (by kernel_rfl) h
 exact⟨z,rfl⟩
theorem Zr{O:Ht}{G k:Nat}{b:List Value}(h:Rp Tryz.prog O G k 355 b):∃x:mM,b=kb x:=by
 obtain⟨n,lss,rfl,g⟩:=Rp.fields (ts:=[9,3,3,4]) (by kernel_rfl) h
 obtain⟨A,e,rfl,h0,g0⟩:=g.cons
 obtain⟨p,rfl⟩:=PK h0
 obtain⟨B,j,rfl,h1,g1⟩:=g0.cons
 obtain⟨u,rfl⟩:=pV h1
 obtain⟨C,m,rfl,D,g2⟩:=g1.cons
 obtain⟨y,rfl⟩:=pV D
 obtain⟨E,o,rfl,h3,g3⟩:=g2.cons
 obtain⟨z,rfl⟩:=ZO h3
 obtain rfl:=g3.nil
 exact⟨⟨p,u,y,z⟩,rfl⟩
theorem aan{O:Ht}{G k:Nat}{b:List Value}(h:Rp Tryz.prog O G k 26 b):∃x:SV mM,b=lC x/\gx kb 4 O G x:=
 Rp.uU (enc:=kb) (m:=4) (by kernel_rfl) (fun _=>rfl) (fun _ _ h=>Zr h) h
theorem Zs{O:Ht}{G k:Nat}{b:List Value}(h:Rp Tryz.prog O G k 359 b):∃x:lR,b=jU x:=by
 obtain⟨n,lss,rfl,g⟩:=Rp.fields (ts:=[9,3,3]) (by kernel_rfl) h
 obtain⟨y,e,rfl,h0,g0⟩:=g.cons
 obtain⟨o,rfl⟩:=PK h0
 obtain⟨z,j,rfl,h1,g1⟩:=g0.cons
 obtain⟨p,rfl⟩:=pV h1
 obtain⟨A,m,rfl,D,g2⟩:=g1.cons
 obtain⟨u,rfl⟩:=pV D
 obtain rfl:=g2.nil
 exact⟨⟨o,p,u⟩,rfl⟩
theorem aao{O:Ht}{G k:Nat}{b:List Value}(h:Rp Tryz.prog O G k 27 b):∃x:SV lR,b=lC x/\gx jU 3 O G x:=
 Rp.uU (enc:=jU) (m:=3) (by kernel_rfl) (fun _=>rfl) (fun _ _ h=>Zs h) h
theorem Zt{O:Ht}{G k:Nat}{b:List Value}(h:Rp Tryz.prog O G k 371 b):∃x:o_,b=ln x:=by
 obtain⟨n,lss,rfl,g⟩:=Rp.fields (ts:=[3,3,3,3]) (by kernel_rfl) h
 obtain⟨A,e,rfl,h0,g0⟩:=g.cons
 obtain⟨p,rfl⟩:=pV h0
 obtain⟨B,j,rfl,h1,g1⟩:=g0.cons
 obtain⟨u,rfl⟩:=pV h1
 obtain⟨C,m,rfl,D,g2⟩:=g1.cons
 obtain⟨y,rfl⟩:=pV D
 obtain⟨E,o,rfl,h3,g3⟩:=g2.cons
 obtain⟨z,rfl⟩:=pV h3
 obtain rfl:=g3.nil
 exact⟨⟨p,u,y,z⟩,rfl⟩
theorem aap{O:Ht}{G k:Nat}{b:List Value}(h:Rp Tryz.prog O G k 28 b):∃x:SV o_,b=lC x/\gx ln 4 O G x:=
 Rp.uU (enc:=ln) (m:=4) (by kernel_rfl) (fun _=>rfl) (fun _ _ h=>Zt h) h
theorem YL{O:Ht}{G:Nat}:∀(k:Nat) {b:List Value},Rp Tryz.prog O G k 149 b->∃x:RCond,b=ij x/\tA k O G x:=by
 intro k
 induction k using Nat.strongRecOn with
 |_ k ih=>
  intro b h
  obtain⟨n,lss,rfl,rfl,g⟩:=Rp.J8 (ts:=[3,3,3,147]) (by kernel_rfl) h
  obtain⟨J,o,rfl,h0,g0⟩:=g.cons
  obtain⟨B,rfl⟩:=HG h0
  obtain⟨K,p,rfl,h1,g1⟩:=g0.cons
  obtain⟨C,rfl⟩:=HG h1
  obtain⟨L,u,rfl,D,g2⟩:=g1.cons
  obtain⟨F,rfl⟩:=HG D
  obtain⟨M,y,rfl,h3,g3⟩:=g2.cons
  obtain rfl:=g3.nil
  obtain⟨j,s,rfl,rfl,z,A,q3⟩:=Rp.De (enc:=ij) (m:=4) (E:=fun j x=>tA j O G x) (by kernel_rfl) (fun _=>rfl) (fun j e l hl=>ih j (by omega) hl) h3
  rw[show Tryz.prog.bytesOf 149=48 from by kernel_rfl]at q3
  exact⟨.mk B C F s.v s.l,rfl,tA.up (show tA (j+1) O G _ from⟨⟨z,A⟩,q3⟩)⟩
theorem YM{O:Ht}{G:Nat}:∀(k:Nat) {b:List Value},Rp Tryz.prog O G k 151 b->∃x:RStep,b=jz x/\qO k O G x:=by
 intro k
 induction k using Nat.strongRecOn with
 |_ k ih=>
  intro b h
  obtain⟨n,lss,rfl,rfl,g⟩:=Rp.J8 (ts:=[3,3,149,29,29]) (by kernel_rfl) h
  obtain⟨N,y,rfl,h0,g0⟩:=g.cons
  obtain⟨K,rfl⟩:=HG h0
  obtain⟨R,z,rfl,h1,g1⟩:=g0.cons
  obtain⟨L,rfl⟩:=HG h1
  obtain⟨S,A,rfl,D,g2⟩:=g1.cons
  obtain⟨M,rfl,c2⟩:=YL _ D
  obtain⟨W,B,rfl,h3,g3⟩:=g2.cons
  obtain⟨X,C,rfl,h4,g4⟩:=g3.cons
  obtain rfl:=g4.nil
  obtain⟨j,s,rfl,rfl,F,J,q3⟩:=Rp.De (enc:=jz) (m:=8) (E:=fun j x=>qO j O G x) (by kernel_rfl) (fun _=>rfl) (fun j e l hl=>ih j (by omega) hl) h3
  obtain⟨o,u,hj,rfl,r1,r2,p⟩:=Rp.De (enc:=jz) (m:=8) (E:=fun j x=>qO j O G x) (by kernel_rfl) (fun _=>rfl) (fun j e l hl=>ih j (by omega) hl) h4
  obtain rfl:o=j:=by omega
  rw[show Tryz.prog.bytesOf 151=112 from by kernel_rfl]at q3 p
  exact⟨.mk K L M s.v s.l u.v u.l,rfl,qO.up (show qO (o+1) O G _ from⟨⟨_,c2⟩,⟨F,J⟩,⟨r1,r2⟩,q3,p⟩)⟩
theorem aaq{O:Ht}{G k:Nat}{b:List Value}(h:Rp Tryz.prog O G k 29 b):∃x:SV RStep,b=lC x/\ju jz 8 (fun O G y=>j3 O G y) O G x/\x.l.length<=2932031007403:=by
 obtain⟨j,s,rfl,rfl,o,p,q3⟩:=Rp.De (enc:=jz) (m:=8) (E:=fun j x=>j3 O G x) (by kernel_rfl) (fun _=>rfl) (fun j e l hl=>by obtain⟨x,e,hx⟩:=YM j hl;exact⟨x,e,_,hx⟩) h
 rw[show Tryz.prog.bytesOf 151=112 from by kernel_rfl]at q3
 have:reachBytes=140737488351232:=by decide
 exact⟨s,rfl,⟨o,p⟩,by omega⟩
theorem aar{O:Ht}{G k:Nat}{b:List Value}(h:Rp Tryz.prog O G k 31 b):∃x:FU,b=zz x:=by
 obtain⟨n,lss,rfl,g⟩:=Rp.fields (ts:=[3,3,3,3,3]) (by kernel_rfl) h
 obtain⟨C,e,rfl,h0,g0⟩:=g.cons
 obtain⟨u,rfl⟩:=pV h0
 obtain⟨E,j,rfl,h1,g1⟩:=g0.cons
 obtain⟨y,rfl⟩:=pV h1
 obtain⟨F,m,rfl,D,g2⟩:=g1.cons
 obtain⟨z,rfl⟩:=pV D
 obtain⟨J,o,rfl,h3,g3⟩:=g2.cons
 obtain⟨A,rfl⟩:=pV h3
 obtain⟨K,p,rfl,h4,g4⟩:=g3.cons
 obtain⟨B,rfl⟩:=pV h4
 obtain rfl:=g4.nil
 exact⟨⟨u,y,z,A,B⟩,rfl⟩
theorem aas{O:Ht}{G k:Nat}{j:List Value}(h:Rp Tryz.prog O G k 33 j):∃x:j4,j=iM x/\oV O G x/\x.nQ.l.length<=2932031007403:=by
 obtain⟨n,lss,rfl,g⟩:=Rp.fields (ts:=[9,22,23,24,25,26,27,28,29,31,3,3]) (by kernel_rfl) h
 obtain⟨ar,F,rfl,h0,g0⟩:=g.cons
 obtain⟨af,rfl⟩:=PK h0
 obtain⟨au,J,rfl,h1,g1⟩:=g0.cons
 obtain⟨ag,rfl,aa⟩:=aaj h1
 obtain⟨av,K,rfl,D,g2⟩:=g1.cons
 obtain⟨ah,rfl,ab⟩:=aak D
 obtain⟨aw,L,rfl,h3,g3⟩:=g2.cons
 obtain⟨ai,rfl,q3⟩:=aal h3
 obtain⟨ax,M,rfl,h4,g4⟩:=g3.cons
 obtain⟨aj,rfl,ac⟩:=aam h4
 obtain⟨ay,N,rfl,z,g5⟩:=g4.cons
 obtain⟨ak,rfl,ad⟩:=aan z
 obtain⟨az,R,rfl,A,g6⟩:=g5.cons
 obtain⟨al,rfl,q6⟩:=aao A
 obtain⟨aA,S,rfl,B,g7⟩:=g6.cons
 obtain⟨am,rfl,ae⟩:=aap B
 obtain⟨aB,W,rfl,C,g8⟩:=g7.cons
 obtain⟨an,rfl,m⟩:=aaq C
 obtain⟨aC,X,rfl,E,g9⟩:=g8.cons
 obtain⟨ao,rfl⟩:=aar E
 obtain⟨ap,u,rfl,b,g10⟩:=g9.cons
 obtain⟨o,rfl⟩:=pV b
 obtain⟨aq,y,rfl,e,g11⟩:=g10.cons
 obtain⟨p,rfl⟩:=pV e
 obtain rfl:=g11.nil
 exact⟨⟨af,ag,ah,ai,aj,ak,al,am,an,ao,o,p⟩,rfl,⟨aa,ab,q3,ac,ad,q6,ae,m.1⟩,m.2⟩
theorem Zu{O:Ht}{G k:Nat}{b:List Value}(h:Rp Tryz.prog O G k 255 b):∃x:rX,b=ka x:=by
 obtain⟨n,lss,rfl,g⟩:=Rp.fields (ts:=[3,3,3]) (by kernel_rfl) h
 obtain⟨y,e,rfl,h0,g0⟩:=g.cons
 obtain⟨o,rfl⟩:=pV h0
 obtain⟨z,j,rfl,h1,g1⟩:=g0.cons
 obtain⟨p,rfl⟩:=pV h1
 obtain⟨A,m,rfl,D,g2⟩:=g1.cons
 obtain⟨u,rfl⟩:=pV D
 obtain rfl:=g2.nil
 exact⟨⟨o,p,u⟩,rfl⟩
theorem aat{O:Ht}{G k:Nat}{b:List Value}(h:Rp Tryz.prog O G k 34 b):∃x:SV rX,b=lC x/\gx ka 3 O G x:=
 Rp.uU (enc:=ka) (m:=3) (by kernel_rfl) (fun _=>rfl) (fun _ _ h=>Zu h) h
theorem Rf{O:Ht}{G k:Nat}{b:List Value}(h:Rp Tryz.prog O G k 42 b):∃x:SV Int,b=lC x/\gx encI 1 O G x:=
 Rp.uU (enc:=encI) (m:=1) (by kernel_rfl) (fun _=>rfl) (fun _ _ h=>pV h) h
theorem aau{O:Ht}{G k:Nat}{b:List Value}(h:Rp Tryz.prog O G k 35 b):∃x:SV (SV Int),b=lC x/\ju lC 1 (fun O G y=>gx encI 1 O G y) O G x:=
 Rp.slice (E:=fun O G y=>gx encI 1 O G y) (enc:=lC) (m:=1) (by kernel_rfl) (fun _=>rfl) (fun _ _ h=>Rf h) h
theorem aav{O:Ht}{G k:Nat}{b:List Value}(h:Rp Tryz.prog O G k 37 b):∃x:j8,b=jc x/\nZ O G x:=by
 obtain⟨n,lss,rfl,g⟩:=Rp.fields (ts:=[34,35]) (by kernel_rfl) h
 obtain⟨y,e,rfl,h0,g0⟩:=g.cons
 obtain⟨p,rfl,m⟩:=aat h0
 obtain⟨z,j,rfl,h1,g1⟩:=g0.cons
 obtain⟨u,rfl,o⟩:=aau h1
 obtain rfl:=g1.nil
 exact⟨⟨p,u⟩,rfl,⟨m,o⟩⟩
theorem aaw{O:Ht}{G k:Nat}{b:List Value}(h:Rp Tryz.prog O G k 84 b):∃x:AB,b=te x:=by
 obtain⟨n,lss,rfl,g⟩:=Rp.fields (ts:=[3,3]) (by kernel_rfl) h
 obtain⟨p,e,rfl,h0,g0⟩:=g.cons
 obtain⟨m,rfl⟩:=pV h0
 obtain⟨u,j,rfl,h1,g1⟩:=g0.cons
 obtain⟨o,rfl⟩:=pV h1
 obtain rfl:=g1.nil
 exact⟨⟨m,o⟩,rfl⟩
theorem aax{O:Ht}{G k:Nat}{b:List Value}(h:Rp Tryz.prog O G k 38 b):∃x:SV AB,b=lC x/\gx te 2 O G x:=
 Rp.uU (enc:=te) (m:=2) (by kernel_rfl) (fun _=>rfl) (fun _ _ h=>aaw h) h
theorem Zv{O:Ht}{G k:Nat}{b:List Value}(h:Rp Tryz.prog O G k 153 b):∃x:ja,b=gP x:=by
 obtain⟨n,lss,rfl,g⟩:=Rp.fields (ts:=[4,3,3,3]) (by kernel_rfl) h
 obtain⟨A,e,rfl,h0,g0⟩:=g.cons
 obtain⟨p,rfl⟩:=ZO h0
 obtain⟨B,j,rfl,h1,g1⟩:=g0.cons
 obtain⟨u,rfl⟩:=pV h1
 obtain⟨C,m,rfl,D,g2⟩:=g1.cons
 obtain⟨y,rfl⟩:=pV D
 obtain⟨E,o,rfl,h3,g3⟩:=g2.cons
 obtain⟨z,rfl⟩:=pV h3
 obtain rfl:=g3.nil
 exact⟨⟨p,u,y,z⟩,rfl⟩
theorem Zw{O:Ht}{G k:Nat}{b:List Value}(h:Rp Tryz.prog O G k 117 b):∃x:SV ja,b=lC x/\gx gP 4 O G x:=
 Rp.uU (enc:=gP) (m:=4) (by kernel_rfl) (fun _=>rfl) (fun _ _ h=>Zv h) h
theorem Zx{O:Ht}{G k:Nat}{b:List Value}(h:Rp Tryz.prog O G k 114 b):∃x:SV (SV ja),b=lC x/\ju lC 1 (fun O G y=>gx gP 4 O G y) O G x:=
 Rp.slice (E:=fun O G y=>gx gP 4 O G y) (enc:=lC) (m:=1) (by kernel_rfl) (fun _=>rfl) (fun _ _ h=>Zw h) h
theorem Zy{O:Ht}{G k:Nat}{b:List Value}(h:Rp Tryz.prog O G k 116 b):∃x:ic,b=iV x/\mf O G x:=by
 obtain⟨n,lss,rfl,g⟩:=Rp.fields (ts:=[3,42,114]) (by kernel_rfl) h
 obtain⟨A,e,rfl,h0,g0⟩:=g.cons
 obtain⟨u,rfl⟩:=pV h0
 obtain⟨B,j,rfl,h1,g1⟩:=g0.cons
 obtain⟨y,rfl,o⟩:=Rf h1
 obtain⟨C,m,rfl,D,g2⟩:=g1.cons
 obtain⟨z,rfl,p⟩:=Zx D
 obtain rfl:=g2.nil
 exact⟨⟨u,y,z⟩,rfl,⟨o,p⟩⟩
theorem aay{O:Ht}{G k:Nat}{b:List Value}(h:Rp Tryz.prog O G k 39 b):∃x:SV ic,b=lC x/\ju iV 3 (fun O G y=>mf O G y) O G x:=
 Rp.slice (E:=fun O G y=>mf O G y) (enc:=iV) (m:=3) (by kernel_rfl) (fun _=>rfl) (fun _ _ h=>Zy h) h
theorem aaz{O:Ht}{G k:Nat}{b:List Value}(h:Rp Tryz.prog O G k 41 b):∃x:ji,b=gK x/\km O G x:=by
 obtain⟨n,lss,rfl,g⟩:=Rp.fields (ts:=[37,38,39]) (by kernel_rfl) h
 obtain⟨B,e,rfl,h0,g0⟩:=g.cons
 obtain⟨y,rfl,o⟩:=aav h0
 obtain⟨C,j,rfl,h1,g1⟩:=g0.cons
 obtain⟨z,rfl,p⟩:=aax h1
 obtain⟨E,m,rfl,D,g2⟩:=g1.cons
 obtain⟨A,rfl,u⟩:=aay D
 obtain rfl:=g2.nil
 exact⟨⟨y,z,A⟩,rfl,⟨o,p,u⟩⟩
theorem aaA{O:Ht}{G k:Nat}{b:List Value}(h:Rp Tryz.prog O G k 44 b):∃x:qz,b=pe x/\xn O G x:=by
 obtain⟨n,lss,rfl,g⟩:=Rp.fields (ts:=[42,3,3]) (by kernel_rfl) h
 obtain⟨z,e,rfl,h0,g0⟩:=g.cons
 obtain⟨p,rfl,o⟩:=Rf h0
 obtain⟨A,j,rfl,h1,g1⟩:=g0.cons
 obtain⟨u,rfl⟩:=pV h1
 obtain⟨B,m,rfl,D,g2⟩:=g1.cons
 obtain⟨y,rfl⟩:=pV D
 obtain rfl:=g2.nil
 exact⟨⟨p,u,y⟩,rfl,⟨o⟩⟩
theorem Zz{O:Ht}{G k:Nat}{b:List Value}(h:Rp Tryz.prog O G k 198 b):∃x:sE,b=vJ x:=by
 obtain⟨n,lss,rfl,g⟩:=Rp.fields (ts:=[3,3]) (by kernel_rfl) h
 obtain⟨p,e,rfl,h0,g0⟩:=g.cons
 obtain⟨m,rfl⟩:=pV h0
 obtain⟨u,j,rfl,h1,g1⟩:=g0.cons
 obtain⟨o,rfl⟩:=pV h1
 obtain rfl:=g1.nil
 exact⟨⟨m,o⟩,rfl⟩
theorem aaB{O:Ht}{G k:Nat}{b:List Value}(h:Rp Tryz.prog O G k 56 b):∃x:SV sE,b=lC x/\gx vJ 2 O G x:=
 Rp.uU (enc:=vJ) (m:=2) (by kernel_rfl) (fun _=>rfl) (fun _ _ h=>Zz h) h
theorem aaC{O:Ht}{G k:Nat}{b:List Value}(h:Rp Tryz.prog O G k 58 b):∃x:lN,b=j5 x/\nc O G x:=by
 obtain⟨n,lss,rfl,g⟩:=Rp.fields (ts:=[3,42,56]) (by kernel_rfl) h
 obtain⟨A,e,rfl,h0,g0⟩:=g.cons
 obtain⟨u,rfl⟩:=pV h0
 obtain⟨B,j,rfl,h1,g1⟩:=g0.cons
 obtain⟨y,rfl,o⟩:=Rf h1
 obtain⟨C,m,rfl,D,g2⟩:=g1.cons
 obtain⟨z,rfl,p⟩:=aaB D
 obtain rfl:=g2.nil
 exact⟨⟨u,y,z⟩,rfl,⟨o,p⟩⟩
def TH(t:TypeId):Bool:=has 4886216235416671712912435927888865410133257651741510989522482038222427049852632025785386068465131977319087342104 t
theorem ZA(t:TypeId)(h:TH t=true):zD Tryz.prog TH t=true:=by
 have jA:t<372:=R0 (m:=4886216235416671712912435927888865410133257651741510989522482038222427049852632025785386068465131977319087342104) (N:=372) (by kernel_rfl) h
 have key:((List.range 372).all fun t=>!(TH t)||zD Tryz.prog TH t)=true:=by kernel_rfl
 have:=rV key jA
 rw[h]at this
 simpa using this
theorem PL:tu 0 12 zq=true/\zq.all (AU 12)=true:=⟨by kernel_rfl,by kernel_rfl⟩
theorem ZP:Tryz.prog.underlying 3=some (.int .i64):=by kernel_rfl
theorem M7:N6 Tryz.prog 3 405=true:=by kernel_rfl
theorem Xl{W:World}(h:laidMetH Tryz.prog Rows.relaySoundRow.laid W):Io zq W:=by
 have h:laidMet Tryz.prog Rows.relaySoundRow.laid W:=h
 obtain⟨ps,h,_,_⟩:=h
 have key:∀(n:String) (g:Nat) (a b:Int),(n,.agg [.lit (.int .i64 a),.lit (.int .i64 b)])∈Rows.relaySoundRow.laid->Tryz.prog.globalNamed n=some g->(Tryz.prog.globals[g]?).map (·.type)=some 405->∀m:TB,m=⟨g,[.int .i64 a,.int .i64 b],false,0⟩->∀(j:Nat) (v:Value),m.Z[j]?=some v->W.cell? ⟨m.num,j,none⟩=some v:=fun n g a b hm hg o m e=>by
  subst e;exact Vt ZP M7 h hm hg o
 intro m o
 simp only[zq,List.mem_cons,List.not_mem_nil,or_false]at o
 rcases o with e|e|e|e|e|e|e|e|e|e|e
 · exact key "stopwatch/facts.bibS" 0 1 9999 (by simp[Rows.relaySoundRow,Rows.laid_stopwatch_facts_bibS]) (by kernel_rfl) (by kernel_rfl) m e
 · exact key "stopwatch/facts.timeS" 1 (-1099511627776) 1099511627776 (by simp[Rows.relaySoundRow,Rows.laid_stopwatch_facts_timeS]) (by kernel_rfl) (by kernel_rfl) m e
 · exact key "stopwatch/facts.chipS" 2 0 1048576 (by simp[Rows.relaySoundRow,Rows.laid_stopwatch_facts_chipS]) (by kernel_rfl) (by kernel_rfl) m e
 · exact key "stopwatch/facts.matS" 3 0 39 (by simp[Rows.relaySoundRow,Rows.laid_stopwatch_facts_matS]) (by kernel_rfl) (by kernel_rfl) m e
 · exact key "stopwatch/facts.epochS" 4 0 255 (by simp[Rows.relaySoundRow,Rows.laid_stopwatch_facts_epochS]) (by kernel_rfl) (by kernel_rfl) m e
 · exact key "stopwatch/facts.lengthS" 5 0 1099511627776 (by simp[Rows.relaySoundRow,Rows.laid_stopwatch_facts_lengthS]) (by kernel_rfl) (by kernel_rfl) m e
 · exact key "stopwatch/facts.positionS" 6 0 255 (by simp[Rows.relaySoundRow,Rows.laid_stopwatch_facts_positionS]) (by kernel_rfl) (by kernel_rfl) m e
 · exact key "stopwatch/facts.caseS" 7 1 1048576 (by simp[Rows.relaySoundRow,Rows.laid_stopwatch_facts_caseS]) (by kernel_rfl) (by kernel_rfl) m e
 · exact key "stopwatch/facts.bitS" 8 0 1 (by simp[Rows.relaySoundRow,Rows.laid_stopwatch_facts_bitS]) (by kernel_rfl) (by kernel_rfl) m e
 · exact key "stopwatch/facts.crewS" 9 0 31 (by simp[Rows.relaySoundRow,Rows.laid_stopwatch_facts_crewS]) (by kernel_rfl) (by kernel_rfl) m e
 · exact key "stopwatch/facts.numberS" 10 1 1048576 (by simp[Rows.relaySoundRow,Rows.laid_stopwatch_facts_numberS]) (by kernel_rfl) (by kernel_rfl) m e
theorem Xm{w:World}(h:w.ShapedOpen Tryz.prog):∃m,w.cell? ⟨11,0,none⟩=some (.int .i64 m):=
 Go.Proofs.cell_of_shapedOpen_int (zero:=#[.int .i64 0]) (t:=3) h (of_decide_eq_true (by kernel_rfl)) (by kernel_rfl) rfl (by kernel_rfl) (by kernel_rfl) ZP
theorem VC{O:Ht}{G:Nat}{e:List Value}(h:yn Tryz.prog O G [33,41,44,58] e)(hf:∀(eZ:Ht) (e5:Nat),G<=e5->HE G O eZ->∀b o,(yi zq .nil).get b=some o->eZ.get b=some o):WF ex 4 e O G (fG G O (ga True)):=by
 obtain⟨v0,z,rfl,⟨N,J,h0,_,rfl⟩,g0⟩:=h.cons
 obtain⟨j,rfl,y⟩:=aas h0
 obtain⟨W,A,rfl,⟨R,K,h1,_,rfl⟩,g1⟩:=g0.cons
 obtain⟨m,rfl,E⟩:=aaz h1
 obtain⟨v2,B,rfl,⟨n2,L,D,_,rfl⟩,g2⟩:=g1.cons
 obtain⟨p,rfl,F⟩:=aaA D
 obtain⟨v3,C,rfl,⟨S,M,h3,_,rfl⟩,g3⟩:=g2.cons
 obtain⟨u,rfl,q3⟩:=aaC h3
 obtain rfl:=g3.nil
 rw[show AD Tryz.prog 33 (iM j)=.agg (iM j).toArray from by kernel_rfl]
 rw[show AD Tryz.prog 41 (gK m)=.agg (gK m).toArray from by kernel_rfl]
 rw[show AD Tryz.prog 44 (pe p)=.agg (pe p).toArray from by kernel_rfl]
 rw[show AD Tryz.prog 58 (j5 u)=.agg (j5 u).toArray from by kernel_rfl]
 exact Lo Zg YC YD j m p u O G y.1 E F q3 y.2 fun eZ e5 hn he=>YI (hf eZ e5 hn he)
theorem Xn{H:Type}{enc:TypeId×Value->H}(W:World)(base:Nat)(args:Array Value)(ds:List (DataW H))(p:List MemPlace)
 (o:∀(j:Nat) t v,Tryz.f4.params[j]?=some t->args[j]?=some v->Value.okWide Tryz.prog W .any base t v)
 (y:DataW.TrodAll enc Tryz.prog W 0 (fun _=>true) true Tryz.f4.params.toList args.toList ds p) (u:∀k∈DataW.weightsEach Tryz.prog Tryz.f4.params.toList ds,k<=reachBytes) (hl:Io zq W) (z:W.ShapedOpen Tryz.prog):
 (∃d0 d1 d2 d3,ds=[d0,d1,d2,d3])/\Calls Tryz.prog 4 args W fun e A=>e=.returned (.bool true)/\Below W.heap.size W A:=by
 have hm:=Xm z
 have hs:11<W.heap.size:=by obtain⟨m,hm⟩:=hm;exact MU hm
 have hg:12<=W.heap.size:=hs
 rw[Tryz.params4]at y o u
 have hlen:=Gu y
 refine⟨?_,R1 Zi (aai _ _ ⟨hs,hm⟩) hg PL.1 PL.2 hl ZA y u (fun j t v a b=>o j t v (by simpa using a) b) (fun t B=>?_) fun O G C h hf=>VC h hf⟩
 · match ds,hlen with
   |[d0,d1,d2,d3],_=>exact⟨_,_,_,_,rfl⟩
 · have:([33,41,44,58]:List TypeId).all TH=true:=by kernel_rfl
   exact List.all_eq_true.1 this t B
def aaD:Array Value:=#[(.agg ⟨[.string ⟨#[]⟩,.slice none 0 0,.slice none 0 0,.slice none 0 0,.slice none 0 0,.slice none 0 0,.slice none 0 0,.slice none 0 0,.slice none 0 0,.int .i64 0,.int .i64 0,.int .i64 0,.int .i64 0,.int .i64 0,.int .i64 0,.int .i64 0]⟩),(.agg ⟨[.slice none 0 0,.slice none 0 0,.slice none 0 0,.slice none 0 0]⟩),(.agg ⟨[.slice none 0 0,.int .i64 0,.int .i64 0]⟩),(.agg ⟨[.int .i64 0,.slice none 0 0,.slice none 0 0]⟩)]
theorem VD(os:Os)(args:Array Value):laidMetH Tryz.prog Rows.relaySoundRow.laid ((World.laidAll Tryz.prog os Rows.relaySoundRow.laid).forCall (fun _ _=>0) ⟨#[],args,[]⟩).memory:=by
 rw[MakeChecks.laidMetH_plain _ _ _ (by kernel_rfl)]
 exact laidMet_laidAll _ (by kernel_rfl) (by kernel_rfl)
theorem VE:∀t∈Tryz.f4.params.toList,Tryz.prog.readableRec t=true/\t<Tryz.prog.types.size:=fun t b=>by
 have h:(Tryz.f4.params.toList.all fun t=>Tryz.prog.readableRec t&&Nat.blt t Tryz.prog.types.size)=true:=by kernel_rfl
 have:=List.all_eq_true.1 h t b
 rw[Bool.and_eq_true]at this
 exact⟨this.1,mE.1 this.2⟩
theorem Rg(os:Os)(started:os.Started)(H:Type)(enc:TypeId×Value->H):
 ReturnsInHanded {} Tryz.checked os 4 .any (fun w args=>(Rows.relaySoundSpec.pre enc Tryz.prog Tryz.f4 [] false w args/\laidMetH Tryz.prog Rows.relaySoundRow.laid w)/\sizedMet enc Tryz.prog Tryz.f4 (OpenSpec.ofChange Rows.relaySoundSpec) false w args)
  (Rows.relaySoundSpec.post enc Tryz.prog Tryz.f4 false true false false):=by
 refine MR (C:=Tryz.checked) (t:=4) (X:=fun w _=>laidMetH Tryz.prog Rows.relaySoundRow.laid w) (fun _ _ _ y h=>h.of_heap y) (by kernel_rfl) started (by kernel_rfl) Tryz.func4
  (ChangeSpec.witness_shaped (enc:=enc) (C:=Tryz.checked) (os:=os) (X:=fun w _=>laidMetH Tryz.prog Rows.relaySoundRow.laid w) false (World.laidAll Tryz.prog os Rows.relaySoundRow.laid) aaD 8 (World.laidAll_os _ _ _)
    (World.shaped_of_ZipB (by kernel_rfl) (by kernel_rfl)) (by kernel_rfl) (by kernel_rfl) (by kernel_rfl) (VD os _))
  (by kernel_rfl) rfl (by kernel_rfl) (by kernel_rfl) VE ?_
 · intro W base args ds gs before p b o m e u j
   subst e
   obtain⟨⟨d0,d1,d2,d3,rfl⟩,hc⟩:=Xn W base args ds p b o m (Xl u) j
   exact⟨rfl,hc⟩
theorem TI:joinedFacts Tryz.prog 4 Tryz.f4 Rows.relaySoundSpec Rows.relaySoundRow=true:=by
 unfold joinedFacts
 exact(ba (ba (ba (ba (ba (ba (ba (ba (ba (ba (ba (ba (ba (ba (ba (ba (ba (ba (ba (ba (ba (ba (ba (ba (ba (ba (ba (ba (ba (ba (ba Zj Rc) N7) OZ) O0) Vw) TC) Vx) N8) Rb) Lp) OY) Vv) Xi) TD) Re) Vy) O1) Vz) VA) N9) O2) N_) Lq) Lr) O3) TE) Xj) VB) TF) TG) Xk)
theorem TJ:Rows.RelaySoundSaid:=
 OpenClaim.holds_of_wide 4 Tryz.f4 rfl rfl rfl rfl rfl rfl rfl ⟨rfl,rfl,rfl,rfl,rfl⟩ rfl rfl rfl rfl rfl (by kernel_rfl) Tryz.func4 TI
  (of_decide_eq_true (by kernel_rfl)) (by unfold Func.isWrapper;rw[if_neg (of_decide_eq_false (by kernel_rfl))];exact⟨rfl,rfl⟩)
  (fun os started H enc _=>Rg os started H enc)
theorem Xo:Tryz.pinned.checked.prog=Tryz.prog:=rfl
theorem ZB:false=Rows.relaySoundRow.goesBy Tryz.pinned.checked.prog:=Tz (by rw[Xo];exact TA) rfl
theorem YN:∀f fn,Tryz.pinned.checked.prog.funcNamed Rows.relaySoundRow.func=some f->Tryz.pinned.checked.prog.funcs[f]?=some fn->true=Tryz.pinned.checked.prog.looks []/\∀(j:Nat) t,fn.params[j]?=some t->Tryz.pinned.checked.prog.wantsStandIn t=false:=
 Vu (f0:=4) (YJ:=Tryz.f4) (by kernel_rfl) (by kernel_rfl) (by kernel_rfl) (by kernel_rfl)
theorem Xp:Rows.relaySoundRow.wfByText (OpenSpec.ofChange Rows.relaySoundSpec)=true:=by kernel_rfl
theorem ZC:Tryz.pinned.checked.prog.mainIs=some (true,("c7eda499b1e56a8b5b3af4e2d9a9772ef801ad781e908b2bee3dd112ac687c39":String).toList):=by kernel_rfl
end
end Sw
namespace Go.Proofs.YtecbgehgkpgbmaaGreatDoor
open Go
set_option maxRecDepth 100000
theorem relaySound_card:Rows.RelaySoundCardSaid:=
 Claim7.holds_tied_plain_at (p:=Tryz.pinned) (s:=OpenSpec.ofChange Rows.relaySoundSpec) (c:=Rows.relaySoundRow) .later [] [.data,.data,.data,.data,.data,.data,.data,.data,.data,.data,.data] true (true, "c7eda499b1e56a8b5b3af4e2d9a9772ef801ad781e908b2bee3dd112ac687c39") true
  Sw.TJ (fun _ h=>by cases h) Sw.Xp (fun _ h=>by cases h) relaySound_row_tie rfl ⟨rfl,rfl⟩ Sw.ZC rfl Sw.YN Sw.ZB
end Go.Proofs.YtecbgehgkpgbmaaGreatDoor
