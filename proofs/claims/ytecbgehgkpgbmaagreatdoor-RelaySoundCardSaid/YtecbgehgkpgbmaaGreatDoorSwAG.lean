/- A part of the proof that the law returns true for every input that its row speaks of. No condition is added. -/
import Derived.Test.YtecbgehgkpgbmaaGreatDoorSwAF
import Derived.Test.YtecbgehgkpgbmaaGreatDoorSwAE
import Derived.Test.YtecbgehgkpgbmaaGreatDoorProg
import Derived.KernelRfl
import Derived.Deep.Slices
import Derived.OpenShut
import Derived.SizedLaws
import Derived.ProofKit
import Derived.Carry
import Derived.ChangeSlices
import Derived.LaidLaws
import Derived.Handed
import Derived.Shelf.SlSortCmp.NoneTotal
import Derived.Lib.RowBridge
import Derived.Lib.IndexMore
namespace Sw
noncomputable section
open Go Go.RowKit
theorem U{p:Prop}(h:p:=by kernel_rfl):p:=h
theorem kf{p:Prop}(h:p:=by intros;kernel_rfl):p:=h
theorem om{p:Prop}(h:p:=by omega):p:=h
theorem od{p:Prop}(h:p:=by first|omega|(dsimp only;omega)):p:=h
theorem nR{n:Nat}:n<=n:=fg n
theorem gE{α:Type}{l:List α}{i:Nat}(h:i<l.length):∃x,l[i]?=some x:=⟨_,fq h⟩
abbrev pt(b o:Nat):Value:=.pointer (some ⟨b,o,none⟩)
abbrev Y(z:Int):Value:=.int .i64 z
section
variable {e:Env}{fm:Fm}{s:St}{I:Tm}{ds:List Deferred}{O:Ht}{G:Nat}{gX:List Nat}{Q:St->Prop}{W:Nat->St->Prop}{all os:List Oper}{o:Oper}{j:Nat}{d:Tmp}{op:Op}{ty t0:TypeId}{pos:String}{j7:Array Edge}{P:Prop}
theorem wr(h:W 1 s):WO e fm (g_ all []) s fun s1=>WP e fm .ret s1 W:=.nil (.ret h)
theorem oN(n:Nat)(q:Q ⟨runT e fm ds O G (g_ all (BH n os)) I,ds,O,G,gX⟩)
 (h:∀rec Z k,runK e rec fm k (g_ all (BH n os)) ⟨I,ds,O,G,Z⟩=k ⟨runT e fm ds O G (g_ all (BH n os)) I,ds,O,G,Z⟩:=by intros;kernel_rfl) (hd:M9 n os=[]:=by rfl):WO e fm (g_ all os) ⟨I,ds,O,G,gX⟩ Q:=
 oX n (by rw[hd];exact .nil q) h
theorem oW(n:Nat)(q:W 1 ⟨runT e fm ds O G (g_ all (BH n os)) I,ds,O,G,gX⟩)
 (h:∀rec Z k,runK e rec fm k (g_ all (BH n os)) ⟨I,ds,O,G,Z⟩=k ⟨runT e fm ds O G (g_ all (BH n os)) I,ds,O,G,Z⟩:=by intros;kernel_rfl) (hd:M9 n os=[]:=by rfl):WO e fm (g_ all os) ⟨I,ds,O,G,gX⟩ fun s1=>WP e fm .ret s1 W:=
 oN n (.ret q) h hd
theorem oq{b:Bool}(x:Nat)(X:∃c:Bool,c=b/\(c=true↔P))(q:∀c:Bool,(c=true↔P)->WO e fm (g_ all os) ⟨I.set x (.bool c),ds,O,G,gX⟩ Q)(h:∀rec Z k,(iQ all o).run e rec fm I ds O G Z k=k ⟨I.set x (.bool b),ds,O,G,Z⟩:=by intros;kernel_rfl):WO e fm (g_ all (o::os)) ⟨I,ds,O,G,gX⟩ Q:=by
 obtain⟨c,h0,p⟩:=X;exact ob x h0 (q c p) h
theorem nH{b:Bool}(t:Tmp)(c:Bool)(X:∃a:Bool,a=b/\(a=true↔P))(q:∀a:Bool,(a=true↔P)->WO e fm (g_ all os) ⟨I.set d (bif !c then .bool a else undef),ds,O,G,gX⟩ Q)
 (h1:c=false->∀rec Z k,(iQ all ⟨some d,op,ty,pos,j7,none⟩).run e rec fm I ds O G Z k=k ⟨I.set d (.bool b),ds,O,G,Z⟩:=by intro h;subst h;intros;kernel_rfl)
 (hg:kL all j=some (f_ (.tmp t)):=by rfl) (hx:(f_ (.tmp t)).run I=.bool c:=by kernel_rfl):WO e fm (g_ all (⟨some d,op,ty,pos,j7,some (j,false)⟩::os)) ⟨I,ds,O,G,gX⟩ Q:=by
 obtain⟨a,h0,p⟩:=X;exact Z3 t c h0 (q a p) h1 hg hx
theorem qH{b:Bool}(t:Tmp)(c:Bool)(X:∃a:Bool,a=b/\(a=true↔P))(q:∀a:Bool,(a=true↔P)->WO e fm (g_ all os) ⟨I.set d (bif c then .bool a else undef),ds,O,G,gX⟩ Q)
 (h1:c=true->∀rec Z k,(iQ all ⟨some d,op,ty,pos,j7,none⟩).run e rec fm I ds O G Z k=k ⟨I.set d (.bool b),ds,O,G,Z⟩:=by intro h;subst h;intros;kernel_rfl)
 (hg:kL all j=some (f_ (.tmp t)):=by rfl) (hx:(f_ (.tmp t)).run I=.bool c:=by kernel_rfl):WO e fm (g_ all (⟨some d,op,ty,pos,j7,some (j,true)⟩::os)) ⟨I,ds,O,G,gX⟩ Q:=by
 obtain⟨a,h0,p⟩:=X;exact Sf t c h0 (q a p) h1 hg hx
theorem mI{c y:Bool}(x:Nat)(X:∃a:Bool,a=(c||y)/\(a=true↔P))(q:∀a:Bool,(a=true↔P)->WO e fm (g_ all os) ⟨I.set x (.bool a),ds,O,G,gX⟩ Q)
 (h:∀rec Z k,(iQ all o).run e rec fm I ds O G Z k=kQ (lu (.bool c) (.bool true) (bif !c then .bool y else undef)) (fun v=>k ⟨I.set x v,ds,O,G,Z⟩):=by intros;kernel_rfl):WO e fm (g_ all (o::os)) ⟨I,ds,O,G,gX⟩ Q:=by
 obtain⟨a,h0,p⟩:=X;exact pO x h0 (q a p) h
theorem nh{c y:Bool}(x:Nat)(X:∃a:Bool,a=(c&&y)/\(a=true↔P))(q:∀a:Bool,(a=true↔P)->WO e fm (g_ all os) ⟨I.set x (.bool a),ds,O,G,gX⟩ Q)
 (h:∀rec Z k,(iQ all o).run e rec fm I ds O G Z k=kQ (lu (.bool c) (bif c then .bool y else undef) (.bool false)) (fun v=>k ⟨I.set x v,ds,O,G,Z⟩):=by intros;kernel_rfl):WO e fm (g_ all (o::os)) ⟨I,ds,O,G,gX⟩ Q:=by
 obtain⟨a,h0,p⟩:=X;exact pA x h0 (q a p) h
theorem oD{f:FuncId}{l:List Value}{mU:Nat}{Es:Ht}(x:Nat)(h:WF e f l O G (fL mU Es (gi P)))(q:∀c:Bool,(c=true↔P)->∀e9 e_,mU<=e_->HE mU Es e9->WO e fm (g_ all os) ⟨I.set x (.bool c),ds,e9,e_,gX⟩ Q)
 (hr:∀rec Z k,(iQ all o).run e rec fm I ds O G Z k=nC e rec f l O G Z (fun v O G Z=>k ⟨I.set x v,ds,O,G,Z⟩):=by intros;kernel_rfl):WO e fm (g_ all (o::os)) ⟨I,ds,O,G,gX⟩ Q:=
 oC x h (fun v e9 e_ ⟨⟨c,h1,p⟩,hn,he⟩=>by subst h1;exact q c p e9 e_ hn he) hr
theorem cq{c:Bool}{x:Operand}{a b:Code}(p:c=true↔P)(h1:P->WP e fm a s W)(D:¬P->WP e fm b s W)(hx:(f_ x).run s.I=.bool c:=by kernel_rfl):WP e fm (.cond x a b) s W:=
 .cond c hx (fun h=>h1 (p.1 h)) (fun h=>D (nq p h))
theorem lG{a:Operand}{cells:List Value}{m:gm}(t:Tmp)(c:Bool)(b off:Nat)(v:Value)(o:e.T.agg t0=some false)(hb:O.get b=some (.cells cells m))(hc:cells[off]?=some v)(q:WO e fm (g_ all os) ⟨I.set d (bif c then v else undef),ds,O,G,gX⟩ Q)
 (hy:c=true->(f_ a).run I=.pointer (some ⟨b,off,none⟩):=by intro h;subst h;kernel_rfl) (hg:kL all j=some (f_ (.tmp t)):=by rfl) (hx:(f_ (.tmp t)).run I=.bool c:=by kernel_rfl):WO e fm (g_ all (⟨some d,.load t0 a,ty,pos,j7,some (j,true)⟩::os)) ⟨I,ds,O,G,gX⟩ Q:=
 Fu t c v (fun h=>.jW b off v (hy h) o hb hc rfl) q hg hx
theorem nS{a:Operand}{cells:List Value}{m:gm}(t:Tmp)(c:Bool)(b off:Nat)(v:Value)(o:e.T.agg t0=some false)(hb:O.get b=some (.cells cells m))(hc:cells[off]?=some v)(q:WO e fm (g_ all os) ⟨I.set d (bif !c then v else undef),ds,O,G,gX⟩ Q)
 (hy:c=false->(f_ a).run I=.pointer (some ⟨b,off,none⟩):=by intro h;subst h;kernel_rfl) (hg:kL all j=some (f_ (.tmp t)):=by rfl) (hx:(f_ (.tmp t)).run I=.bool c:=by kernel_rfl):WO e fm (g_ all (⟨some d,.load t0 a,ty,pos,j7,some (j,false)⟩::os)) ⟨I,ds,O,G,gX⟩ Q:=
 xY t c v (fun h=>.jW b off v (hy h) o hb hc rfl) q hg hx
theorem wd{f:FuncId}{l:List Value}{t:Tm}{R:Value->Ht->Nat->Prop}(fn:Func)(nt:Nat)(uu:List ResultVar)(hb:HE G O O->WP e ⟨f,nt,none⟩ (fn.body.getD .skip) ⟨t,[],O,G,[]⟩ fun o b=>Nat.ble o 1=true/\b.ds=[]/\∃vs,nc e.T b.O.get b.I uu=some vs/\R (qQ vs) b.O b.G)
 (j:qP zA l Tm.undef=some t:=by rfl) (hk:e.K f=none:=by kernel_rfl) (hf:e.F f=some ⟨fn.body.getD .skip,nt,uu⟩:=by kernel_rfl) (hl:Nat.ble l.length nt=true:=by kernel_rfl):WF e f l O G R:=.body hk hf hl j (hb (HE.refl G O))
theorem fF(f:FuncId)(fn:Func)(nt:Nat)(uu:List ResultVar)(h:e.F f=some ⟨fn.body.getD .skip,nt,uu⟩:=by kernel_rfl):e.F f=some ⟨fn.body.getD .skip,nt,uu⟩:=h
theorem GM{f:FuncId}{l:List Value}{t:Tm}{R:Value->Ht->Nat->Prop}{fn:Func}{nt:Nat}{uu:List ResultVar}(hf:e.F f=some ⟨fn.body.getD .skip,nt,uu⟩)(hb:HE G O O->WP e ⟨f,nt,none⟩ (fn.body.getD .skip) ⟨t,[],O,G,[]⟩ fun o b=>Nat.ble o 1=true/\b.ds=[]/\∃vs,nc e.T b.O.get b.I uu=some vs/\R (qQ vs) b.O b.G)
 (j:qP zA l Tm.undef=some t:=by rfl) (hk:e.K f=none:=by kernel_rfl) (hl:Nat.ble l.length nt=true:=by kernel_rfl):WF e f l O G R:=.body hk hf hl j (hb (HE.refl G O))
end
def UA:List Nat->List Value->Tm->Tm
 |k::ks,v::vs,t=>UA ks vs (t.set k v)
 |_,_,t=>t
theorem mu{e:Env}{fm:Fm}{b:Code}{I:Tm}{O:Ht}{G:Nat}{W:Nat->St->Prop}(ks:List Nat)(p:Nat->Ht->Nat->List Value->Prop)(hb:∀m O G v,p m O G v->∀I,WP e fm b ⟨UA ks v I,[],O,G,[]⟩ fun o s1=>match o with
 |0=>∃j,j<m/\s1.ds=[]/\s1.Z=[]/\p j s1.O s1.G (ks.map s1.I.get)
 |o+1=>W (o+1) s1) (m:Nat) (h0:p m O G (ks.map I.get)) (hj:∀t:Tm,UA ks (ks.map t.get) t=t:=by intro t;kernel_rfl):WP e fm (.loop b) ⟨I,[],O,G,[]⟩ W:=
 .loop (fun m s=>s.ds=[]/\s.Z=[]/\p m s.O s.G (ks.map s.I.get)) (fun m s ⟨h1,D,h3⟩=>by
  obtain⟨I,ds,O,G,Z⟩:=s
  simp only at h1 D h3
  subst h1 D
  have:=hb m O G _ h3 I
  rw[hj I]at this
  exact this) m ⟨rfl,rfl,h0⟩
section
variable {e:Env}{fm:Fm}{I:Tm}{ds:List Deferred}{O Es:Ht}{G mU:Nat}{gX:List Nat}{Q:St->Prop}{all:List Oper}{d:Tmp}{ty:TypeId}{pos:String}{j7:Array Edge}
variable {α:Type}{enc:α->List Value}{n:Nat}{S:SV α}{a:Option Addr}{len c i:Nat}{x:α}
theorem gB.EV(h:gB enc n O G S)(b:S.v=.slice a len c):S.l.length=len:=by
 obtain⟨a1,c1,h1⟩:=h.shape
 rw[b]at h1;cases h1;rfl
theorem eix{T:Ty}{t el:TypeId}{s:Nat}(b:S.v=.slice a len c)(h:gB enc n Es mU S)(hu:T.jo t=some (.slice el))(hs:T.size el=some s)(hi:i<len):mQ T t (.slice a len c) (.int .i64 (.ofNat i))=some (.pointer (some ⟨ga a,0+i*s,none⟩)):=
 sW hu hs (h.BA b (by have:=h.EV b;omega)) hi
theorem Wg{l:List α}(h:l[i]?=some x):0<l.length:=Nat.lt_of_le_of_lt (gI i) (fp.1 h).1
theorem WC.iy{t el:TypeId}{y j:Operand}{s:Nat}(b:S.v=.slice a len c)(h:gB enc n Es mU S)(i:Nat)(hu:e.T.jo t=some (.slice el))(hs:e.T.size el=some s)(hi:i<len)(q:Q ⟨I.set d (.pointer (some ⟨ga a,0+i*s,none⟩)),ds,O,G,gX⟩)
 (hx:(f_ y).run I=.slice a len c:=by kernel_rfl) (hj:(f_ j).run I=.int .i64 (.ofNat i):=by kernel_rfl):WC e fm (iQ all ⟨some d,.indexAddr t y j,ty,pos,j7,none⟩) ⟨I,ds,O,G,gX⟩ Q:=
 .ix a len c i s hx hj hu hs (h.BA b (by have:=h.EV b;omega)) hi q
theorem WC.ly{t:TypeId}{p:Operand}(m:S.v=.slice a len c)(h:gB enc n O mU S)(hx:S.l[i]?=some x)(b:e.T.agg t=some true)(hs:e.T.size t=some n)(q:Q ⟨I.set d (.agg (enc x).toArray),ds,O,G,gX⟩)
 (j:(f_ p).run I=.pointer (some ⟨ga a,0+i*n,none⟩):=by kernel_rfl):WC e fm (iQ all ⟨some d,.load t p,ty,pos,j7,none⟩) ⟨I,ds,O,G,gX⟩ Q:=
 .Fq (ga a) (0+i*n) (enc x) j b hs (h.pw m (Wg hx)) (xF h.1 hx) q
theorem WC.lz{t:TypeId}{p:Operand}(v:Value)(m:S.v=.slice a len c)(h:gB enc 1 O mU S)(hx:S.l[i]?=some x)(hc:(enc x)[0]?=some v)(b:e.T.agg t=some false)(q:Q ⟨I.set d v,ds,O,G,gX⟩)
 (j:(f_ p).run I=.pointer (some ⟨ga a,0+i*1,none⟩):=by kernel_rfl):WC e fm (iQ all ⟨some d,.load t p,ty,pos,j7,none⟩) ⟨I,ds,O,G,gX⟩ Q:=
 .sv (ga a) (0+i*1) v j b (h.pw m (Wg hx)) (MY h.1 hx hc) q
end
section
variable {e:Env}{I:Tm}{ds:List Deferred}{O Es:Ht}{G mU:Nat}{gX:List Nat}{k0:tG}{l:List tG}
variable {α:Type}{enc:α->List Value}{n:Nat}{S:SV α}{a:Option Addr}{len c i:Nat}{x:α}
theorem ci(z:Int)(hl:jc e l ⟨I,ds,O,G,gX⟩)(h:∀k,k0.run e.T O G I k=bif lx 8 (.int .i64 z) (.int .i64 z)then k else .gu 0:=by intros;kernel_rfl):jc e (k0::l) ⟨I,ds,O,G,gX⟩:=cv _ (iF ..) hl h
theorem y0{t el:TypeId}{s:Nat}(b:S.v=.slice a len c)(h0:gB enc n Es mU S)(i:Nat)(hu:e.T.jo t=some (.slice el))(hs:e.T.size el=some s)(hi:i<len)(hl:jc e l ⟨I,ds,O,G,gX⟩)
 (h:∀k,k0.run e.T O G I k=kQ (mQ e.T t (.slice a len c) (.int .i64 (.ofNat i))) (fun y=>bif lx 8 y (.pointer (some ⟨ga a,0+i*s,none⟩))then k else .gu 0):=by intros;kernel_rfl):jc e (k0::l) ⟨I,ds,O,G,gX⟩:=
 co _ _ (eix b h0 hu hs hi) (iR ..) hl h
theorem Z4{t:TypeId}(m:S.v=.slice a len c)(h0:gB enc n O mU S)(hx:S.l[i]?=some x)(b:e.T.agg t=some true)(hs:e.T.size t=some n)(j:lx 8 (.agg (enc x).toArray) (.agg (enc x).toArray)=true)(hl:jc e l ⟨I,ds,O,G,gX⟩)
 (h:∀k,k0.run e.T O G I k=kQ (kh e.T O.get t (.pointer (some ⟨ga a,0+i*n,none⟩))) (fun y=>bif lx 8 y (.agg (enc x).toArray)then k else .gu 0):=by intros;kernel_rfl):jc e (k0::l) ⟨I,ds,O,G,gX⟩:=
 co _ _ (AP b hs (h0.pw m (Wg hx)) (xF h0.1 hx)) j hl h
theorem GN{t:TypeId}(v:Value)(m:S.v=.slice a len c)(h0:gB enc 1 O mU S)(hx:S.l[i]?=some x)(hc:(enc x)[0]?=some v)(b:e.T.agg t=some false)(j:lx 8 v v=true)(hl:jc e l ⟨I,ds,O,G,gX⟩)
 (h:∀k,k0.run e.T O G I k=kQ (kh e.T O.get t (.pointer (some ⟨ga a,0+i*1,none⟩))) (fun y=>bif lx 8 y v then k else .gu 0):=by intros;kernel_rfl):jc e (k0::l) ⟨I,ds,O,G,gX⟩:=
 co _ _ (tK b (h0.pw m (Wg hx)) (MY h0.1 hx hc)) j hl h
theorem qk{t:TypeId}{cells:List Value}{m:gm}(b off:Nat)(v:Value)(j:e.T.agg t=some false)(hb:O.get b=some (.cells cells m))(hc:cells[off]?=some v)(o:lx 8 v v=true)(hl:jc e l ⟨I,ds,O,G,gX⟩)
 (h:∀k,k0.run e.T O G I k=kQ (kh e.T O.get t (.pointer (some ⟨b,off,none⟩))) (fun y=>bif lx 8 y v then k else .gu 0):=by intros;kernel_rfl):jc e (k0::l) ⟨I,ds,O,G,gX⟩:=
 co _ _ (ki j hb hc) o hl h
end
end
end Sw
namespace Sw
noncomputable section
open Go Go.Proofs
set_option maxRecDepth 100000
def nd{α:Type}(x:α)(l r:Tr α):Tr α:=.node (some x) l r
def lf{α:Type}(x:α):Tr α:=.node (some x) .nil .nil
noncomputable def TT:Tr TypeInfo:=(nd Tryz.t0 (nd Tryz.t1 (nd Tryz.t3 (nd Tryz.t7 (nd Tryz.t15 (nd Tryz.t31 (nd Tryz.t63 (nd Tryz.t127 (nd Tryz.t255 (lf Tryz.t511) .nil) (nd Tryz.t383 (lf Tryz.t639) .nil)) (nd Tryz.t191 (nd Tryz.t319 (lf Tryz.t575) .nil) (lf Tryz.t447))) (nd Tryz.t95 (nd Tryz.t159 (nd Tryz.t287 (lf Tryz.t543) .nil) (nd Tryz.t415 (lf Tryz.t671) .nil)) (nd Tryz.t223 (nd Tryz.t351 (lf Tryz.t607) .nil) (lf Tryz.t479)))) (nd Tryz.t47 (nd Tryz.t79 (nd Tryz.t143 (nd Tryz.t271 (lf Tryz.t527) .nil) (nd Tryz.t399 (lf Tryz.t655) .nil)) (nd Tryz.t207 (nd Tryz.t335 (lf Tryz.t591) .nil) (lf Tryz.t463))) (nd Tryz.t111 (nd Tryz.t175 (nd Tryz.t303 (lf Tryz.t559) .nil) (lf Tryz.t431)) (nd Tryz.t239 (nd Tryz.t367 (lf Tryz.t623) .nil) (lf Tryz.t495))))) (nd Tryz.t23 (nd Tryz.t39 (nd Tryz.t71 (nd Tryz.t135 (nd Tryz.t263 (lf Tryz.t519) .nil) (nd Tryz.t391 (lf Tryz.t647) .nil)) (nd Tryz.t199 (nd Tryz.t327 (lf Tryz.t583) .nil) (lf Tryz.t455))) (nd Tryz.t103 (nd Tryz.t167 (nd Tryz.t295 (lf Tryz.t551) .nil) (nd Tryz.t423 (lf Tryz.t679) .nil)) (nd Tryz.t231 (nd Tryz.t359 (lf Tryz.t615) .nil) (lf Tryz.t487)))) (nd Tryz.t55 (nd Tryz.t87 (nd Tryz.t151 (nd Tryz.t279 (lf Tryz.t535) .nil) (nd Tryz.t407 (lf Tryz.t663) .nil)) (nd Tryz.t215 (nd Tryz.t343 (lf Tryz.t599) .nil) (lf Tryz.t471))) (nd Tryz.t119 (nd Tryz.t183 (nd Tryz.t311 (lf Tryz.t567) .nil) (lf Tryz.t439)) (nd Tryz.t247 (nd Tryz.t375 (lf Tryz.t631) .nil) (lf Tryz.t503)))))) (nd Tryz.t11 (nd Tryz.t19 (nd Tryz.t35 (nd Tryz.t67 (nd Tryz.t131 (nd Tryz.t259 (lf Tryz.t515) .nil) (nd Tryz.t387 (lf Tryz.t643) .nil)) (nd Tryz.t195 (nd Tryz.t323 (lf Tryz.t579) .nil) (lf Tryz.t451))) (nd Tryz.t99 (nd Tryz.t163 (nd Tryz.t291 (lf Tryz.t547) .nil) (nd Tryz.t419 (lf Tryz.t675) .nil)) (nd Tryz.t227 (nd Tryz.t355 (lf Tryz.t611) .nil) (lf Tryz.t483)))) (nd Tryz.t51 (nd Tryz.t83 (nd Tryz.t147 (nd Tryz.t275 (lf Tryz.t531) .nil) (nd Tryz.t403 (lf Tryz.t659) .nil)) (nd Tryz.t211 (nd Tryz.t339 (lf Tryz.t595) .nil) (lf Tryz.t467))) (nd Tryz.t115 (nd Tryz.t179 (nd Tryz.t307 (lf Tryz.t563) .nil) (lf Tryz.t435)) (nd Tryz.t243 (nd Tryz.t371 (lf Tryz.t627) .nil) (lf Tryz.t499))))) (nd Tryz.t27 (nd Tryz.t43 (nd Tryz.t75 (nd Tryz.t139 (nd Tryz.t267 (lf Tryz.t523) .nil) (nd Tryz.t395 (lf Tryz.t651) .nil)) (nd Tryz.t203 (nd Tryz.t331 (lf Tryz.t587) .nil) (lf Tryz.t459))) (nd Tryz.t107 (nd Tryz.t171 (nd Tryz.t299 (lf Tryz.t555) .nil) (nd Tryz.t427 (lf Tryz.t683) .nil)) (nd Tryz.t235 (nd Tryz.t363 (lf Tryz.t619) .nil) (lf Tryz.t491)))) (nd Tryz.t59 (nd Tryz.t91 (nd Tryz.t155 (nd Tryz.t283 (lf Tryz.t539) .nil) (nd Tryz.t411 (lf Tryz.t667) .nil)) (nd Tryz.t219 (nd Tryz.t347 (lf Tryz.t603) .nil) (lf Tryz.t475))) (nd Tryz.t123 (nd Tryz.t187 (nd Tryz.t315 (lf Tryz.t571) .nil) (lf Tryz.t443)) (nd Tryz.t251 (nd Tryz.t379 (lf Tryz.t635) .nil) (lf Tryz.t507))))))) (nd Tryz.t5 (nd Tryz.t9 (nd Tryz.t17 (nd Tryz.t33 (nd Tryz.t65 (nd Tryz.t129 (nd Tryz.t257 (lf Tryz.t513) .nil) (nd Tryz.t385 (lf Tryz.t641) .nil)) (nd Tryz.t193 (nd Tryz.t321 (lf Tryz.t577) .nil) (lf Tryz.t449))) (nd Tryz.t97 (nd Tryz.t161 (nd Tryz.t289 (lf Tryz.t545) .nil) (nd Tryz.t417 (lf Tryz.t673) .nil)) (nd Tryz.t225 (nd Tryz.t353 (lf Tryz.t609) .nil) (lf Tryz.t481)))) (nd Tryz.t49 (nd Tryz.t81 (nd Tryz.t145 (nd Tryz.t273 (lf Tryz.t529) .nil) (nd Tryz.t401 (lf Tryz.t657) .nil)) (nd Tryz.t209 (nd Tryz.t337 (lf Tryz.t593) .nil) (lf Tryz.t465))) (nd Tryz.t113 (nd Tryz.t177 (nd Tryz.t305 (lf Tryz.t561) .nil) (lf Tryz.t433)) (nd Tryz.t241 (nd Tryz.t369 (lf Tryz.t625) .nil) (lf Tryz.t497))))) (nd Tryz.t25 (nd Tryz.t41 (nd Tryz.t73 (nd Tryz.t137 (nd Tryz.t265 (lf Tryz.t521) .nil) (nd Tryz.t393 (lf Tryz.t649) .nil)) (nd Tryz.t201 (nd Tryz.t329 (lf Tryz.t585) .nil) (lf Tryz.t457))) (nd Tryz.t105 (nd Tryz.t169 (nd Tryz.t297 (lf Tryz.t553) .nil) (nd Tryz.t425 (lf Tryz.t681) .nil)) (nd Tryz.t233 (nd Tryz.t361 (lf Tryz.t617) .nil) (lf Tryz.t489)))) (nd Tryz.t57 (nd Tryz.t89 (nd Tryz.t153 (nd Tryz.t281 (lf Tryz.t537) .nil) (nd Tryz.t409 (lf Tryz.t665) .nil)) (nd Tryz.t217 (nd Tryz.t345 (lf Tryz.t601) .nil) (lf Tryz.t473))) (nd Tryz.t121 (nd Tryz.t185 (nd Tryz.t313 (lf Tryz.t569) .nil) (lf Tryz.t441)) (nd Tryz.t249 (nd Tryz.t377 (lf Tryz.t633) .nil) (lf Tryz.t505)))))) (nd Tryz.t13 (nd Tryz.t21 (nd Tryz.t37 (nd Tryz.t69 (nd Tryz.t133 (nd Tryz.t261 (lf Tryz.t517) .nil) (nd Tryz.t389 (lf Tryz.t645) .nil)) (nd Tryz.t197 (nd Tryz.t325 (lf Tryz.t581) .nil) (lf Tryz.t453))) (nd Tryz.t101 (nd Tryz.t165 (nd Tryz.t293 (lf Tryz.t549) .nil) (nd Tryz.t421 (lf Tryz.t677) .nil)) (nd Tryz.t229 (nd Tryz.t357 (lf Tryz.t613) .nil) (lf Tryz.t485)))) (nd Tryz.t53 (nd Tryz.t85 (nd Tryz.t149 (nd Tryz.t277 (lf Tryz.t533) .nil) (nd Tryz.t405 (lf Tryz.t661) .nil)) (nd Tryz.t213 (nd Tryz.t341 (lf Tryz.t597) .nil) (lf Tryz.t469))) (nd Tryz.t117 (nd Tryz.t181 (nd Tryz.t309 (lf Tryz.t565) .nil) (lf Tryz.t437)) (nd Tryz.t245 (nd Tryz.t373 (lf Tryz.t629) .nil) (lf Tryz.t501))))) (nd Tryz.t29 (nd Tryz.t45 (nd Tryz.t77 (nd Tryz.t141 (nd Tryz.t269 (lf Tryz.t525) .nil) (nd Tryz.t397 (lf Tryz.t653) .nil)) (nd Tryz.t205 (nd Tryz.t333 (lf Tryz.t589) .nil) (lf Tryz.t461))) (nd Tryz.t109 (nd Tryz.t173 (nd Tryz.t301 (lf Tryz.t557) .nil) (lf Tryz.t429)) (nd Tryz.t237 (nd Tryz.t365 (lf Tryz.t621) .nil) (lf Tryz.t493)))) (nd Tryz.t61 (nd Tryz.t93 (nd Tryz.t157 (nd Tryz.t285 (lf Tryz.t541) .nil) (nd Tryz.t413 (lf Tryz.t669) .nil)) (nd Tryz.t221 (nd Tryz.t349 (lf Tryz.t605) .nil) (lf Tryz.t477))) (nd Tryz.t125 (nd Tryz.t189 (nd Tryz.t317 (lf Tryz.t573) .nil) (lf Tryz.t445)) (nd Tryz.t253 (nd Tryz.t381 (lf Tryz.t637) .nil) (lf Tryz.t509)))))))) (nd Tryz.t2 (nd Tryz.t4 (nd Tryz.t8 (nd Tryz.t16 (nd Tryz.t32 (nd Tryz.t64 (nd Tryz.t128 (nd Tryz.t256 (lf Tryz.t512) .nil) (nd Tryz.t384 (lf Tryz.t640) .nil)) (nd Tryz.t192 (nd Tryz.t320 (lf Tryz.t576) .nil) (lf Tryz.t448))) (nd Tryz.t96 (nd Tryz.t160 (nd Tryz.t288 (lf Tryz.t544) .nil) (nd Tryz.t416 (lf Tryz.t672) .nil)) (nd Tryz.t224 (nd Tryz.t352 (lf Tryz.t608) .nil) (lf Tryz.t480)))) (nd Tryz.t48 (nd Tryz.t80 (nd Tryz.t144 (nd Tryz.t272 (lf Tryz.t528) .nil) (nd Tryz.t400 (lf Tryz.t656) .nil)) (nd Tryz.t208 (nd Tryz.t336 (lf Tryz.t592) .nil) (lf Tryz.t464))) (nd Tryz.t112 (nd Tryz.t176 (nd Tryz.t304 (lf Tryz.t560) .nil) (lf Tryz.t432)) (nd Tryz.t240 (nd Tryz.t368 (lf Tryz.t624) .nil) (lf Tryz.t496))))) (nd Tryz.t24 (nd Tryz.t40 (nd Tryz.t72 (nd Tryz.t136 (nd Tryz.t264 (lf Tryz.t520) .nil) (nd Tryz.t392 (lf Tryz.t648) .nil)) (nd Tryz.t200 (nd Tryz.t328 (lf Tryz.t584) .nil) (lf Tryz.t456))) (nd Tryz.t104 (nd Tryz.t168 (nd Tryz.t296 (lf Tryz.t552) .nil) (nd Tryz.t424 (lf Tryz.t680) .nil)) (nd Tryz.t232 (nd Tryz.t360 (lf Tryz.t616) .nil) (lf Tryz.t488)))) (nd Tryz.t56 (nd Tryz.t88 (nd Tryz.t152 (nd Tryz.t280 (lf Tryz.t536) .nil) (nd Tryz.t408 (lf Tryz.t664) .nil)) (nd Tryz.t216 (nd Tryz.t344 (lf Tryz.t600) .nil) (lf Tryz.t472))) (nd Tryz.t120 (nd Tryz.t184 (nd Tryz.t312 (lf Tryz.t568) .nil) (lf Tryz.t440)) (nd Tryz.t248 (nd Tryz.t376 (lf Tryz.t632) .nil) (lf Tryz.t504)))))) (nd Tryz.t12 (nd Tryz.t20 (nd Tryz.t36 (nd Tryz.t68 (nd Tryz.t132 (nd Tryz.t260 (lf Tryz.t516) .nil) (nd Tryz.t388 (lf Tryz.t644) .nil)) (nd Tryz.t196 (nd Tryz.t324 (lf Tryz.t580) .nil) (lf Tryz.t452))) (nd Tryz.t100 (nd Tryz.t164 (nd Tryz.t292 (lf Tryz.t548) .nil) (nd Tryz.t420 (lf Tryz.t676) .nil)) (nd Tryz.t228 (nd Tryz.t356 (lf Tryz.t612) .nil) (lf Tryz.t484)))) (nd Tryz.t52 (nd Tryz.t84 (nd Tryz.t148 (nd Tryz.t276 (lf Tryz.t532) .nil) (nd Tryz.t404 (lf Tryz.t660) .nil)) (nd Tryz.t212 (nd Tryz.t340 (lf Tryz.t596) .nil) (lf Tryz.t468))) (nd Tryz.t116 (nd Tryz.t180 (nd Tryz.t308 (lf Tryz.t564) .nil) (lf Tryz.t436)) (nd Tryz.t244 (nd Tryz.t372 (lf Tryz.t628) .nil) (lf Tryz.t500))))) (nd Tryz.t28 (nd Tryz.t44 (nd Tryz.t76 (nd Tryz.t140 (nd Tryz.t268 (lf Tryz.t524) .nil) (nd Tryz.t396 (lf Tryz.t652) .nil)) (nd Tryz.t204 (nd Tryz.t332 (lf Tryz.t588) .nil) (lf Tryz.t460))) (nd Tryz.t108 (nd Tryz.t172 (nd Tryz.t300 (lf Tryz.t556) .nil) (lf Tryz.t428)) (nd Tryz.t236 (nd Tryz.t364 (lf Tryz.t620) .nil) (lf Tryz.t492)))) (nd Tryz.t60 (nd Tryz.t92 (nd Tryz.t156 (nd Tryz.t284 (lf Tryz.t540) .nil) (nd Tryz.t412 (lf Tryz.t668) .nil)) (nd Tryz.t220 (nd Tryz.t348 (lf Tryz.t604) .nil) (lf Tryz.t476))) (nd Tryz.t124 (nd Tryz.t188 (nd Tryz.t316 (lf Tryz.t572) .nil) (lf Tryz.t444)) (nd Tryz.t252 (nd Tryz.t380 (lf Tryz.t636) .nil) (lf Tryz.t508))))))) (nd Tryz.t6 (nd Tryz.t10 (nd Tryz.t18 (nd Tryz.t34 (nd Tryz.t66 (nd Tryz.t130 (nd Tryz.t258 (lf Tryz.t514) .nil) (nd Tryz.t386 (lf Tryz.t642) .nil)) (nd Tryz.t194 (nd Tryz.t322 (lf Tryz.t578) .nil) (lf Tryz.t450))) (nd Tryz.t98 (nd Tryz.t162 (nd Tryz.t290 (lf Tryz.t546) .nil) (nd Tryz.t418 (lf Tryz.t674) .nil)) (nd Tryz.t226 (nd Tryz.t354 (lf Tryz.t610) .nil) (lf Tryz.t482)))) (nd Tryz.t50 (nd Tryz.t82 (nd Tryz.t146 (nd Tryz.t274 (lf Tryz.t530) .nil) (nd Tryz.t402 (lf Tryz.t658) .nil)) (nd Tryz.t210 (nd Tryz.t338 (lf Tryz.t594) .nil) (lf Tryz.t466))) (nd Tryz.t114 (nd Tryz.t178 (nd Tryz.t306 (lf Tryz.t562) .nil) (lf Tryz.t434)) (nd Tryz.t242 (nd Tryz.t370 (lf Tryz.t626) .nil) (lf Tryz.t498))))) (nd Tryz.t26 (nd Tryz.t42 (nd Tryz.t74 (nd Tryz.t138 (nd Tryz.t266 (lf Tryz.t522) .nil) (nd Tryz.t394 (lf Tryz.t650) .nil)) (nd Tryz.t202 (nd Tryz.t330 (lf Tryz.t586) .nil) (lf Tryz.t458))) (nd Tryz.t106 (nd Tryz.t170 (nd Tryz.t298 (lf Tryz.t554) .nil) (nd Tryz.t426 (lf Tryz.t682) .nil)) (nd Tryz.t234 (nd Tryz.t362 (lf Tryz.t618) .nil) (lf Tryz.t490)))) (nd Tryz.t58 (nd Tryz.t90 (nd Tryz.t154 (nd Tryz.t282 (lf Tryz.t538) .nil) (nd Tryz.t410 (lf Tryz.t666) .nil)) (nd Tryz.t218 (nd Tryz.t346 (lf Tryz.t602) .nil) (lf Tryz.t474))) (nd Tryz.t122 (nd Tryz.t186 (nd Tryz.t314 (lf Tryz.t570) .nil) (lf Tryz.t442)) (nd Tryz.t250 (nd Tryz.t378 (lf Tryz.t634) .nil) (lf Tryz.t506)))))) (nd Tryz.t14 (nd Tryz.t22 (nd Tryz.t38 (nd Tryz.t70 (nd Tryz.t134 (nd Tryz.t262 (lf Tryz.t518) .nil) (nd Tryz.t390 (lf Tryz.t646) .nil)) (nd Tryz.t198 (nd Tryz.t326 (lf Tryz.t582) .nil) (lf Tryz.t454))) (nd Tryz.t102 (nd Tryz.t166 (nd Tryz.t294 (lf Tryz.t550) .nil) (nd Tryz.t422 (lf Tryz.t678) .nil)) (nd Tryz.t230 (nd Tryz.t358 (lf Tryz.t614) .nil) (lf Tryz.t486)))) (nd Tryz.t54 (nd Tryz.t86 (nd Tryz.t150 (nd Tryz.t278 (lf Tryz.t534) .nil) (nd Tryz.t406 (lf Tryz.t662) .nil)) (nd Tryz.t214 (nd Tryz.t342 (lf Tryz.t598) .nil) (lf Tryz.t470))) (nd Tryz.t118 (nd Tryz.t182 (nd Tryz.t310 (lf Tryz.t566) .nil) (lf Tryz.t438)) (nd Tryz.t246 (nd Tryz.t374 (lf Tryz.t630) .nil) (lf Tryz.t502))))) (nd Tryz.t30 (nd Tryz.t46 (nd Tryz.t78 (nd Tryz.t142 (nd Tryz.t270 (lf Tryz.t526) .nil) (nd Tryz.t398 (lf Tryz.t654) .nil)) (nd Tryz.t206 (nd Tryz.t334 (lf Tryz.t590) .nil) (lf Tryz.t462))) (nd Tryz.t110 (nd Tryz.t174 (nd Tryz.t302 (lf Tryz.t558) .nil) (lf Tryz.t430)) (nd Tryz.t238 (nd Tryz.t366 (lf Tryz.t622) .nil) (lf Tryz.t494)))) (nd Tryz.t62 (nd Tryz.t94 (nd Tryz.t158 (nd Tryz.t286 (lf Tryz.t542) .nil) (nd Tryz.t414 (lf Tryz.t670) .nil)) (nd Tryz.t222 (nd Tryz.t350 (lf Tryz.t606) .nil) (lf Tryz.t478))) (nd Tryz.t126 (nd Tryz.t190 (nd Tryz.t318 (lf Tryz.t574) .nil) (lf Tryz.t446)) (nd Tryz.t254 (nd Tryz.t382 (lf Tryz.t638) .nil) (lf Tryz.t510)))))))))
noncomputable def FT:Tr Func:=(nd Tryz.f0 (nd Tryz.f1 (nd Tryz.f3 (nd Tryz.f7 (nd Tryz.f15 (nd Tryz.f31 (nd Tryz.f63 (nd Tryz.f127 (nd Tryz.f255 (lf Tryz.f511) .nil) (lf Tryz.f383)) (nd Tryz.f191 (lf Tryz.f319) (lf Tryz.f447))) (nd Tryz.f95 (nd Tryz.f159 (lf Tryz.f287) (lf Tryz.f415)) (nd Tryz.f223 (lf Tryz.f351) (lf Tryz.f479)))) (nd Tryz.f47 (nd Tryz.f79 (nd Tryz.f143 (lf Tryz.f271) (lf Tryz.f399)) (nd Tryz.f207 (lf Tryz.f335) (lf Tryz.f463))) (nd Tryz.f111 (nd Tryz.f175 (lf Tryz.f303) (lf Tryz.f431)) (nd Tryz.f239 (lf Tryz.f367) (lf Tryz.f495))))) (nd Tryz.f23 (nd Tryz.f39 (nd Tryz.f71 (nd Tryz.f135 (nd Tryz.f263 (lf Tryz.f519) .nil) (lf Tryz.f391)) (nd Tryz.f199 (lf Tryz.f327) (lf Tryz.f455))) (nd Tryz.f103 (nd Tryz.f167 (lf Tryz.f295) (lf Tryz.f423)) (nd Tryz.f231 (lf Tryz.f359) (lf Tryz.f487)))) (nd Tryz.f55 (nd Tryz.f87 (nd Tryz.f151 (lf Tryz.f279) (lf Tryz.f407)) (nd Tryz.f215 (lf Tryz.f343) (lf Tryz.f471))) (nd Tryz.f119 (nd Tryz.f183 (lf Tryz.f311) (lf Tryz.f439)) (nd Tryz.f247 (lf Tryz.f375) (lf Tryz.f503)))))) (nd Tryz.f11 (nd Tryz.f19 (nd Tryz.f35 (nd Tryz.f67 (nd Tryz.f131 (nd Tryz.f259 (lf Tryz.f515) .nil) (lf Tryz.f387)) (nd Tryz.f195 (lf Tryz.f323) (lf Tryz.f451))) (nd Tryz.f99 (nd Tryz.f163 (lf Tryz.f291) (lf Tryz.f419)) (nd Tryz.f227 (lf Tryz.f355) (lf Tryz.f483)))) (nd Tryz.f51 (nd Tryz.f83 (nd Tryz.f147 (lf Tryz.f275) (lf Tryz.f403)) (nd Tryz.f211 (lf Tryz.f339) (lf Tryz.f467))) (nd Tryz.f115 (nd Tryz.f179 (lf Tryz.f307) (lf Tryz.f435)) (nd Tryz.f243 (lf Tryz.f371) (lf Tryz.f499))))) (nd Tryz.f27 (nd Tryz.f43 (nd Tryz.f75 (nd Tryz.f139 (lf Tryz.f267) (lf Tryz.f395)) (nd Tryz.f203 (lf Tryz.f331) (lf Tryz.f459))) (nd Tryz.f107 (nd Tryz.f171 (lf Tryz.f299) (lf Tryz.f427)) (nd Tryz.f235 (lf Tryz.f363) (lf Tryz.f491)))) (nd Tryz.f59 (nd Tryz.f91 (nd Tryz.f155 (lf Tryz.f283) (lf Tryz.f411)) (nd Tryz.f219 (lf Tryz.f347) (lf Tryz.f475))) (nd Tryz.f123 (nd Tryz.f187 (lf Tryz.f315) (lf Tryz.f443)) (nd Tryz.f251 (lf Tryz.f379) (lf Tryz.f507))))))) (nd Tryz.f5 (nd Tryz.f9 (nd Tryz.f17 (nd Tryz.f33 (nd Tryz.f65 (nd Tryz.f129 (nd Tryz.f257 (lf Tryz.f513) .nil) (lf Tryz.f385)) (nd Tryz.f193 (lf Tryz.f321) (lf Tryz.f449))) (nd Tryz.f97 (nd Tryz.f161 (lf Tryz.f289) (lf Tryz.f417)) (nd Tryz.f225 (lf Tryz.f353) (lf Tryz.f481)))) (nd Tryz.f49 (nd Tryz.f81 (nd Tryz.f145 (lf Tryz.f273) (lf Tryz.f401)) (nd Tryz.f209 (lf Tryz.f337) (lf Tryz.f465))) (nd Tryz.f113 (nd Tryz.f177 (lf Tryz.f305) (lf Tryz.f433)) (nd Tryz.f241 (lf Tryz.f369) (lf Tryz.f497))))) (nd Tryz.f25 (nd Tryz.f41 (nd Tryz.f73 (nd Tryz.f137 (lf Tryz.f265) (lf Tryz.f393)) (nd Tryz.f201 (lf Tryz.f329) (lf Tryz.f457))) (nd Tryz.f105 (nd Tryz.f169 (lf Tryz.f297) (lf Tryz.f425)) (nd Tryz.f233 (lf Tryz.f361) (lf Tryz.f489)))) (nd Tryz.f57 (nd Tryz.f89 (nd Tryz.f153 (lf Tryz.f281) (lf Tryz.f409)) (nd Tryz.f217 (lf Tryz.f345) (lf Tryz.f473))) (nd Tryz.f121 (nd Tryz.f185 (lf Tryz.f313) (lf Tryz.f441)) (nd Tryz.f249 (lf Tryz.f377) (lf Tryz.f505)))))) (nd Tryz.f13 (nd Tryz.f21 (nd Tryz.f37 (nd Tryz.f69 (nd Tryz.f133 (nd Tryz.f261 (lf Tryz.f517) .nil) (lf Tryz.f389)) (nd Tryz.f197 (lf Tryz.f325) (lf Tryz.f453))) (nd Tryz.f101 (nd Tryz.f165 (lf Tryz.f293) (lf Tryz.f421)) (nd Tryz.f229 (lf Tryz.f357) (lf Tryz.f485)))) (nd Tryz.f53 (nd Tryz.f85 (nd Tryz.f149 (lf Tryz.f277) (lf Tryz.f405)) (nd Tryz.f213 (lf Tryz.f341) (lf Tryz.f469))) (nd Tryz.f117 (nd Tryz.f181 (lf Tryz.f309) (lf Tryz.f437)) (nd Tryz.f245 (lf Tryz.f373) (lf Tryz.f501))))) (nd Tryz.f29 (nd Tryz.f45 (nd Tryz.f77 (nd Tryz.f141 (lf Tryz.f269) (lf Tryz.f397)) (nd Tryz.f205 (lf Tryz.f333) (lf Tryz.f461))) (nd Tryz.f109 (nd Tryz.f173 (lf Tryz.f301) (lf Tryz.f429)) (nd Tryz.f237 (lf Tryz.f365) (lf Tryz.f493)))) (nd Tryz.f61 (nd Tryz.f93 (nd Tryz.f157 (lf Tryz.f285) (lf Tryz.f413)) (nd Tryz.f221 (lf Tryz.f349) (lf Tryz.f477))) (nd Tryz.f125 (nd Tryz.f189 (lf Tryz.f317) (lf Tryz.f445)) (nd Tryz.f253 (lf Tryz.f381) (lf Tryz.f509)))))))) (nd Tryz.f2 (nd Tryz.f4 (nd Tryz.f8 (nd Tryz.f16 (nd Tryz.f32 (nd Tryz.f64 (nd Tryz.f128 (nd Tryz.f256 (lf Tryz.f512) .nil) (lf Tryz.f384)) (nd Tryz.f192 (lf Tryz.f320) (lf Tryz.f448))) (nd Tryz.f96 (nd Tryz.f160 (lf Tryz.f288) (lf Tryz.f416)) (nd Tryz.f224 (lf Tryz.f352) (lf Tryz.f480)))) (nd Tryz.f48 (nd Tryz.f80 (nd Tryz.f144 (lf Tryz.f272) (lf Tryz.f400)) (nd Tryz.f208 (lf Tryz.f336) (lf Tryz.f464))) (nd Tryz.f112 (nd Tryz.f176 (lf Tryz.f304) (lf Tryz.f432)) (nd Tryz.f240 (lf Tryz.f368) (lf Tryz.f496))))) (nd Tryz.f24 (nd Tryz.f40 (nd Tryz.f72 (nd Tryz.f136 (nd Tryz.f264 (lf Tryz.f520) .nil) (lf Tryz.f392)) (nd Tryz.f200 (lf Tryz.f328) (lf Tryz.f456))) (nd Tryz.f104 (nd Tryz.f168 (lf Tryz.f296) (lf Tryz.f424)) (nd Tryz.f232 (lf Tryz.f360) (lf Tryz.f488)))) (nd Tryz.f56 (nd Tryz.f88 (nd Tryz.f152 (lf Tryz.f280) (lf Tryz.f408)) (nd Tryz.f216 (lf Tryz.f344) (lf Tryz.f472))) (nd Tryz.f120 (nd Tryz.f184 (lf Tryz.f312) (lf Tryz.f440)) (nd Tryz.f248 (lf Tryz.f376) (lf Tryz.f504)))))) (nd Tryz.f12 (nd Tryz.f20 (nd Tryz.f36 (nd Tryz.f68 (nd Tryz.f132 (nd Tryz.f260 (lf Tryz.f516) .nil) (lf Tryz.f388)) (nd Tryz.f196 (lf Tryz.f324) (lf Tryz.f452))) (nd Tryz.f100 (nd Tryz.f164 (lf Tryz.f292) (lf Tryz.f420)) (nd Tryz.f228 (lf Tryz.f356) (lf Tryz.f484)))) (nd Tryz.f52 (nd Tryz.f84 (nd Tryz.f148 (lf Tryz.f276) (lf Tryz.f404)) (nd Tryz.f212 (lf Tryz.f340) (lf Tryz.f468))) (nd Tryz.f116 (nd Tryz.f180 (lf Tryz.f308) (lf Tryz.f436)) (nd Tryz.f244 (lf Tryz.f372) (lf Tryz.f500))))) (nd Tryz.f28 (nd Tryz.f44 (nd Tryz.f76 (nd Tryz.f140 (lf Tryz.f268) (lf Tryz.f396)) (nd Tryz.f204 (lf Tryz.f332) (lf Tryz.f460))) (nd Tryz.f108 (nd Tryz.f172 (lf Tryz.f300) (lf Tryz.f428)) (nd Tryz.f236 (lf Tryz.f364) (lf Tryz.f492)))) (nd Tryz.f60 (nd Tryz.f92 (nd Tryz.f156 (lf Tryz.f284) (lf Tryz.f412)) (nd Tryz.f220 (lf Tryz.f348) (lf Tryz.f476))) (nd Tryz.f124 (nd Tryz.f188 (lf Tryz.f316) (lf Tryz.f444)) (nd Tryz.f252 (lf Tryz.f380) (lf Tryz.f508))))))) (nd Tryz.f6 (nd Tryz.f10 (nd Tryz.f18 (nd Tryz.f34 (nd Tryz.f66 (nd Tryz.f130 (nd Tryz.f258 (lf Tryz.f514) .nil) (lf Tryz.f386)) (nd Tryz.f194 (lf Tryz.f322) (lf Tryz.f450))) (nd Tryz.f98 (nd Tryz.f162 (lf Tryz.f290) (lf Tryz.f418)) (nd Tryz.f226 (lf Tryz.f354) (lf Tryz.f482)))) (nd Tryz.f50 (nd Tryz.f82 (nd Tryz.f146 (lf Tryz.f274) (lf Tryz.f402)) (nd Tryz.f210 (lf Tryz.f338) (lf Tryz.f466))) (nd Tryz.f114 (nd Tryz.f178 (lf Tryz.f306) (lf Tryz.f434)) (nd Tryz.f242 (lf Tryz.f370) (lf Tryz.f498))))) (nd Tryz.f26 (nd Tryz.f42 (nd Tryz.f74 (nd Tryz.f138 (lf Tryz.f266) (lf Tryz.f394)) (nd Tryz.f202 (lf Tryz.f330) (lf Tryz.f458))) (nd Tryz.f106 (nd Tryz.f170 (lf Tryz.f298) (lf Tryz.f426)) (nd Tryz.f234 (lf Tryz.f362) (lf Tryz.f490)))) (nd Tryz.f58 (nd Tryz.f90 (nd Tryz.f154 (lf Tryz.f282) (lf Tryz.f410)) (nd Tryz.f218 (lf Tryz.f346) (lf Tryz.f474))) (nd Tryz.f122 (nd Tryz.f186 (lf Tryz.f314) (lf Tryz.f442)) (nd Tryz.f250 (lf Tryz.f378) (lf Tryz.f506)))))) (nd Tryz.f14 (nd Tryz.f22 (nd Tryz.f38 (nd Tryz.f70 (nd Tryz.f134 (nd Tryz.f262 (lf Tryz.f518) .nil) (lf Tryz.f390)) (nd Tryz.f198 (lf Tryz.f326) (lf Tryz.f454))) (nd Tryz.f102 (nd Tryz.f166 (lf Tryz.f294) (lf Tryz.f422)) (nd Tryz.f230 (lf Tryz.f358) (lf Tryz.f486)))) (nd Tryz.f54 (nd Tryz.f86 (nd Tryz.f150 (lf Tryz.f278) (lf Tryz.f406)) (nd Tryz.f214 (lf Tryz.f342) (lf Tryz.f470))) (nd Tryz.f118 (nd Tryz.f182 (lf Tryz.f310) (lf Tryz.f438)) (nd Tryz.f246 (lf Tryz.f374) (lf Tryz.f502))))) (nd Tryz.f30 (nd Tryz.f46 (nd Tryz.f78 (nd Tryz.f142 (lf Tryz.f270) (lf Tryz.f398)) (nd Tryz.f206 (lf Tryz.f334) (lf Tryz.f462))) (nd Tryz.f110 (nd Tryz.f174 (lf Tryz.f302) (lf Tryz.f430)) (nd Tryz.f238 (lf Tryz.f366) (lf Tryz.f494)))) (nd Tryz.f62 (nd Tryz.f94 (nd Tryz.f158 (lf Tryz.f286) (lf Tryz.f414)) (nd Tryz.f222 (lf Tryz.f350) (lf Tryz.f478))) (nd Tryz.f126 (nd Tryz.f190 (lf Tryz.f318) (lf Tryz.f446)) (nd Tryz.f254 (lf Tryz.f382) (lf Tryz.f510)))))))))
theorem QW:TT=MT 0 Tryz.types.toList .nil:=by kernel_rfl
theorem Wh:FT=MT 0 Tryz.funcs.toList .nil:=by kernel_rfl
theorem Yl(t:Nat)(i:TypeInfo)(h:TT.get t=some i):Tryz.prog.types[t]?=some i:=by
 rw[QW,xj]at h
 have:Tryz.prog.types=Tryz.types:=by kernel_rfl
 rw[this];simpa using h
theorem Ym(t:Nat)(i:Func)(h:FT.get t=some i):Tryz.prog.funcs[t]?=some i:=by
 rw[Wh,xj]at h
 have:Tryz.prog.funcs=Tryz.funcs:=rfl
 rw[this];simpa using h
end
end Sw
namespace Sw
noncomputable section
open Go Go.RowKit
def zF(O:Ht):Prop:=∀b o,O.get b=some o->∃Z m,o=.cells Z m/\m.ro=true
def Rp(P:Program)(O:Ht)(G:Nat):Nat->TypeId->List Value->Prop
 |0,_,_=>False
 |n+1,t,j=>match P.underlying t with
  |some .bool=>∃b,j=[.bool b]
  |some (.int k)=>∃z,j=[.int k z]/\(Lit.int k z).wf=true
  |some .string=>∃s,j=[.string s]/\s.size<=reachBytes
  |some (.slice e)=>j=[.slice none 0 0]\/j=[.slice (some ⟨0,0,none⟩) 0 0]\/∃(b len cap:Nat) (lss:List (List Value)),j=[.slice (some ⟨b,0,none⟩) len cap]/\0<cap/\len<=cap/\(cap<=reachBytes/\cap*P.bytesOf e<=reachBytes)/\b<G/\
    O.get b=some (.cells lss.flatten ⟨true,none,0,0⟩)/\lss.length=len/\∀l∈lss,Rp P O G n e l/\l.length=P.cellsOf e
  |some (.struct fs)=>∃lss:List (List Value),j=lss.flatten/\lss.length=fs.size/\∀(i:Nat) (f:Field) (l:List Value),fs[i]?=some f->lss[i]?=some l->Rp P O G n f.type l/\l.length=P.cellsOf f.type
  |some (.array m e)=>∃lss:List (List Value),j=lss.flatten/\lss.length=m/\∀l∈lss,Rp P O G n e l/\l.length=P.cellsOf e
  |_=>False
theorem Rp.mono{P:Program}{O e9:Ht}{G e_:Nat}(he:HE G O e9)(hn:G<=e_):∀{n:Nat} {t:TypeId} {j:List Value},Rp P O G n t j->Rp P e9 e_ n t j
 |0,_,_,h=>h
 |n+1,t,j,h=>by
  unfold Rp at h⊢
  split
  · rename_i e;rw[e]at h;exact h
  · rename_i k e;rw[e]at h;exact h
  · rename_i e;rw[e]at h;exact h
  · rename_i el e
    rw[e]at h
    rcases h with h|h|⟨b,len,cap,lss,h1,D,h3,h4,p,u,y,o⟩
    · exact .inl h
    · exact .inr (.inl h)
    · exact .inr (.inr ⟨b,len,cap,lss,h1,D,h3,h4,by omega,he.get u p,y,fun l hl=>⟨Rp.mono he hn (o l hl).1,(o l hl).2⟩⟩)
  · rename_i fs e
    rw[e]at h
    obtain⟨lss,h1,D,h3⟩:=h
    exact⟨lss,h1,D,fun i f l a b=>⟨Rp.mono he hn (h3 i f l a b).1,(h3 i f l a b).2⟩⟩
  · rename_i m el e
    rw[e]at h
    obtain⟨lss,h1,D,h3⟩:=h
    exact⟨lss,h1,D,fun l a=>⟨Rp.mono he hn (h3 l a).1,(h3 l a).2⟩⟩
  · rename_i z n2 A B C n6
    split at h
    · rename_i e;exact absurd e z
    · rename_i k e;exact absurd e (n2 k)
    · rename_i e;exact absurd e A
    · rename_i el e;exact absurd e (B el)
    · rename_i fs e;exact absurd e (C fs)
    · rename_i m el e;exact absurd e (n6 m el)
    · exact h
def C8(P:Program):List Field->Nat->Nat->Bool
 |[],o,zR=>Nat.beq o zR
 |f::fs,o,zR=>Nat.beq f.offset o&&C8 P fs (o+P.cellsOf f.type) zR
def zS(P:Program)(S:TypeId->Bool)(t:TypeId):Bool:=match P.underlying t with
 |some .bool=>Nat.beq (P.cellsOf t) 1
 |some (.int _)=>Nat.beq (P.cellsOf t) 1
 |some .string=>Nat.beq (P.cellsOf t) 1
 |some (.slice e)=>Nat.beq (P.cellsOf t) 1&&(S e&&(Nat.blt 0 (P.cellsOf e)&&Nat.blt 0 (P.bytesOf e)))
 |some (.struct fs)=>fs.toList.all (fun f=>S f.type)&&C8 P fs.toList 0 (P.cellsOf t)
 |some (.array n e)=>S e&&Nat.beq (P.cellsOf t) (n*P.cellsOf e)
 |_=>false
section
variable {B0:Nat}{w0:World}{g:Gm}{O:Ht}{G:Nat}{w:World}
theorem gx.reach(H:gx B0 w0 g O.get G w){rb ro:Nat}(hr:rb<w.heap.size):gx B0 w0 (g.add G (rb,ro) none) O.get (G+1) w/\g.le (g.add G (rb,ro) none):=by
 have hn:g.ga G=none:=by
  cases h:g.ga G with
  |none=>rfl
  |some x=>exact absurd (H.rT G x.1 x.2 h).1 (Nat.lt_irrefl _)
 have hle:=Gm.rq hn (rb,ro) none
 refine⟨⟨H.below,H.base,fun b r o e=>?_,fun b o e=>?_,fun b ms e=>?_,H.mem,fun b1 b2 o1 o2 r r1 r2 jI e1 e2 j m=>?_,fun b x k=>?_⟩,hle⟩
 · by_cases hb:b=G
   · subst hb
     rw[Gm.ma]at e;cases e
     exact⟨fo _,hr⟩
   · rw[Gm.j5 _ _ _ hb]at e
     exact⟨Nat.lt_succ_of_lt (H.rT b r o e).1,(H.rT b r o e).2⟩
 · obtain⟨h1,D⟩:=H.live b o e
   refine⟨Nat.lt_succ_of_lt h1,fun r r1 k=>?_⟩
   rw[Gm.j5 _ _ _ (by omega)]at k
   obtain⟨jv,a,c⟩:=D r r1 k
   exact⟨jv,a,c.mono hle k⟩
 · rw[Gm.j5 _ _ _ (by have:=(H.live b _ e).1;omega)]
   exact H.pC b ms e
 · rw[Gm.j5 _ _ _ (by have:=(H.live b1 _ e1).1;omega)]at j
   rw[Gm.j5 _ _ _ (by have:=(H.live b2 _ e2).1;omega)]at m
   exact H.sep b1 b2 o1 o2 r r1 r2 jI e1 e2 j m
 · by_cases hb:b=G
   · subst hb;rw[Gm.sS]at k;cases k
   · have:(g.add G (rb,ro) none).room b=g.room b:=by simp[Gm.add,hb]
     rw[this]at k
     rw[Gm.j5 _ _ _ hb]
     exact H.room b x k
theorem gx.Zr(H:gx B0 w0 g O.get G w)(u:zF O){rb ro n:Nat}{p:Array Value}{el:TypeId}{z:Nat×Nat}{j:List Value}(y:w.heap[rb]?=some (.cells p el z))(hlen:ro+n<=p.size)(hl:gZ g j ((p.toList.drop ro).take n)):
 ∃g':Gm,gx B0 w0 g' (O.set G (some (.cells j ⟨true,none,0,0⟩))).get (G+1) w/\zF (O.set G (some (.cells j ⟨true,none,0,0⟩)))/\g.le g'/\g'.ga G=some (rb,ro)/\HE G O (O.set G (some (.cells j ⟨true,none,0,0⟩))):=by
 obtain⟨H1,hle⟩:=H.reach (rb:=rb) (ro:=ro) (sG y)
 have m:O.get G=none:=by
  cases h:O.get G with
  |none=>rfl
  |some o=>exact absurd (H.live G o h).1 (Nat.lt_irrefl _)
 refine⟨g.add G (rb,ro) none,?_,fun b o e=>?_,hle,Gm.ma ..,HE.set _ _ (fg _)⟩
 · rw[show(O.set G (some (.cells j ⟨true,none,0,0⟩))).get=Hp.set O.get G (some (.cells j ⟨true,none,0,0⟩))from Tr.oh ..]
   refine H1.Wc m (fo _) fun A B k=>?_
   rw[Gm.ma]at k;cases k
   exact⟨⟨_,y,pj.PA hlen (hl.mono hle) (fun x k=>by cases k) (fun _=>Gm.sS ..)⟩,fun b o r1 e _=>u b o e⟩
 · rw[Tr.oh]at e
   by_cases hb:b=G
   · subst hb;rw[Hp.jO]at e;cases e;exact⟨_,_,rfl,rfl⟩
   · rw[Hp.gR _ _ hb]at e;exact u b o e
end
section
variable {H:Type}{enc:TypeId×Value->H}{P:Program}{B0:Nat}{w0 w:World}{S:TypeId->Bool}
def QX(P:Program)(B0:Nat)(w0 w:World)(g:Gm)(O:Ht)(G:Nat)(Z:List Value)(R:Ht->Nat->List Value->Prop):Prop:=
 ∃(g':Gm) (e9:Ht) (e_:Nat) (b:List Value),gx B0 w0 g' e9.get e_ w/\zF e9/\g.le g'/\G<=e_/\HE G O e9/\gZ g' b Z/\R e9 e_ b
def C9(P:Program)(B0:Nat)(w0 w:World)(n:Nat)(t:TypeId)(Z:List Value):Prop:=
 ∀(g:Gm) (O:Ht) (G:Nat),gx B0 w0 g O.get G w->zF O->QX P B0 w0 w g O G Z fun e9 e_ b=>Rp P e9 e_ n t b/\b.length=P.cellsOf t
theorem AS{n:Nat}:∀(parts:List (TypeId×List Value)),(∀p∈parts,C9 P B0 w0 w n p.1 p.2)->∀(g:Gm) (O:Ht) (G:Nat),gx B0 w0 g O.get G w->zF O->
 ∃(g':Gm) (e9:Ht) (e_:Nat) (lss:List (List Value)),gx B0 w0 g' e9.get e_ w/\zF e9/\g.le g'/\G<=e_/\HE G O e9/\gZ g' lss.flatten (parts.map (·.2)).flatten/\lss.length=parts.length/\
  ∀(i:Nat) (p:TypeId×List Value) (l:List Value),parts[i]?=some p->lss[i]?=some l->Rp P e9 e_ n p.1 l/\l.length=P.cellsOf p.1
 |[],_,g,O,G,j,m=>⟨g,O,G,[],j,m,Gm.le_refl g,fg _,HE.refl _ _,gZ.nil g,rfl,fun i p l e=>by simp at e⟩
 |p::ps,h,g,O,G,j,m=>by
  obtain⟨g1,y,z,E,H1,a1,e1,F,u,r1,J,K⟩:=h p (fz ..) g O G j m
  obtain⟨g2,jy,o_,lss,A,a2,e2,n2,ui,r2,B,C⟩:=AS ps (fun o e9=>h o (fG _ e9)) g1 y z H1 a1
  refine⟨g2,jy,o_,E::lss,A,a2,Gm.le_trans e1 e2,by omega,u.trans ui F,?_,by simp[B],fun i o l a b=>?_⟩
  · simp only[List.flatten_cons,List.map_cons]
    exact(r1.mono e2).append r2
  · cases i with
    |zero=>simp at a b;subst a;subst b;exact⟨J.mono ui n2,K⟩
    |succ i=>exact C i o l (by simpa using a) (by simpa using b)
theorem GO{Z:List Value}:∀(fs:List Field) (o zR:Nat),C8 P fs o zR=true->Z.length=zR->o<=zR->(fs.map fun f=>(Z.drop f.offset).take (P.cellsOf f.type)).flatten=Z.drop o
 |[],o,zR,h,hl,_=>by
  have:=beq_eq h
  subst this
  simp[hl]
 |f::fs,o,zR,h,hl,hle=>by
  simp only[C8,Bool.and_eq_true]at h
  have h1:=beq_eq h.1
  have e:o+P.cellsOf f.type<=zR:=b fs _ _ h.2
  rw[List.map_cons,List.flatten_cons,GO fs _ _ h.2 hl e,h1]
  rw[<-List.drop_drop,List.take_append_drop]
where
 b:∀(fs:List Field) (o zR:Nat),C8 P fs o zR=true->o<=zR
  |[],o,zR,h=>by have:=beq_eq h;omega
  |f::fs,o,zR,h=>by
   simp only[C8,Bool.and_eq_true]at h
   have:=b fs _ _ h.2
   omega
theorem DU{Z:List Value}{s:Nat}:∀(k n:Nat),Z.length=n*s->k<=n->((List.range k).map fun i=>(Z.drop (i*s)).take s).flatten=Z.take (k*s)
 |0,_,_,_=>by simp
 |k+1,n,hl,hk=>by
  rw[List.range_succ,List.map_append,List.flatten_append,DU k n hl (by omega)]
  simp only[List.map_cons,List.map_nil,List.flatten_cons,List.flatten_nil,List.append_nil]
  rw[Nat.succ_mul,List.take_add]
theorem PI{b e i:Nat}:(Addr.mk b e none).add i=⟨b,e+i,none⟩:=by
 unfold Addr.add
 split
 · rename_i h;subst h;rfl
 · rfl
theorem IG{a:Addr}{v:Value}(h:w.cell? a=some v):∃e el b,w.heap[a.block]?=some (.cells e el b)/\a.spot=none/\e[a.off]?=some v:=by
 unfold World.cell? at h
 split at h
 · rename_i c el b j
   cases hs:a.spot with
   |none=>rw[hs]at h;exact⟨c,el,b,j,rfl,by simpa using h⟩
   |some _=>simp[hs]at h
 · cases h
theorem CF{n:Nat}{t:TypeId}{Z:List Value}{x:DataW H×List MemPlace}{held:Bool}(h:DataW.trod enc P w 0 (fun _=>true) held (n+1) t Z=some x):
 (P.underlying t=some .bool->∃b,Z=[.bool b])/\(∀k,P.underlying t=some (.int k)->∃z,Z=[.int k z]/\(Lit.int k z).wf=true)/\(P.underlying t=some .string->∃s,Z=[.string s]/\s.size<=maxLen):=by
 refine⟨fun e=>?_,fun k e=>?_,fun e=>?_⟩
 · unfold DataW.trod at h
   rw[e]at h
   split at h<;>first|(exact⟨_,rfl⟩)|(simp_all;done)
 · unfold DataW.trod at h
   rw[e]at h
   split at h<;>first|skip|(simp_all;done)
   all_goals first|(simp_all;done)|skip
   all_goals (rename_i j m z h1;cases h1;simp only at h;split at h;· rename_i D;obtain⟨rfl,h3⟩:=D;exact⟨_,rfl,h3⟩;· cases h)
 · unfold DataW.trod at h
   rw[e]at h
   split at h<;>first|skip|(simp_all;done)
   all_goals first|(simp_all;done)|skip
   all_goals (rename_i s h1;simp only at h;split at h;· rename_i D;exact⟨_,rfl,D⟩;· cases h)
theorem trod_string{n:Nat}{t:TypeId}{s:ByteArray}{x:DataW H×List MemPlace}{held:Bool}(e:P.underlying t=some .string)(h:DataW.trod enc P w 0 (fun _=>true) held (n+1) t [.string s]=some x):x.1=.lit (.string s.data.toList):=by
 unfold DataW.trod at h
 rw[e]at h
 simp only at h
 split at h
 · cases h;rfl
 · cases h
theorem yE{e:TypeId}{d:DataW H}:∀{l:List (DataW H)},d∈l->∀k∈d.weights P e,k∈DataW.weightsAll P e l
 |[],h,_,_=>by cases h
 |x::l,h,k,hk=>by
  unfold DataW.weightsAll
  rcases fT.1 h with h|h
  · subst h;exact List.mem_append_left _ hk
  · exact List.mem_append_right _ (yE h k hk)
theorem QY{held:Bool}(aQ:∀t,S t=true->zS P S t=true):∀(n:Nat) (t:TypeId) (Z:List Value) (x:DataW H×List MemPlace),DataW.trod enc P w 0 (fun _=>true) held n t Z=some x->(∀k∈x.1.weights P t,k<=reachBytes)->S t=true->C9 P B0 w0 w n t Z:=by
 intro n
 induction n with
 |zero=>intro t Z x h;simp[DataW.trod]at h
 |succ n ih=>
  intro t Z x h N hs g O G af ag
  have C:=aQ t hs
  unfold zS at C
  have scalar:∀(v:Value),(∀g':Gm,fP g' v v)->P.cellsOf t=1->Z=[v]->(Rp P O G (n+1) t [v])->QX P B0 w0 w g O G Z fun e9 e_ aJ=>Rp P e9 e_ (n+1) t aJ/\aJ.length=P.cellsOf t:=fun v aR hc e hr=>by
   subst e
   exact⟨g,O,G,[v],af,ag,Gm.le_refl g,fg _,HE.refl _ _,gZ.cons (aR g) (gZ.nil g),hr,by rw[hc];rfl⟩
  split at C
  · rename_i e
    obtain⟨b,rfl⟩:=(CF h).1 e
    exact scalar (.bool b) (fun _=>.bool b) (beq_eq C) rfl (by unfold Rp;rw[e];exact⟨b,rfl⟩)
  · rename_i k e
    obtain⟨z,rfl,hw⟩:=(CF h).2.1 k e
    exact scalar (.int k z) (fun _=>.int k z) (beq_eq C) rfl (by unfold Rp;rw[e];exact⟨z,rfl,hw⟩)
  · rename_i e
    obtain⟨s,rfl,_⟩:=(CF h).2.2 e
    have o:=trod_string e h
    have hw:s.size<=reachBytes:=by
     have:=N s.data.toList.length (by rw[o];simp[DataW.weights])
     rw[Array.length_toList]at this;exact this
    exact scalar (.string s) (fun _=>.string s) (beq_eq C) rfl (by unfold Rp;rw[e];exact⟨s,rfl,hw⟩)
  · rename_i el e
    simp only[Bool.and_eq_true]at C
    obtain⟨hc,aE,aj,vL⟩:=C
    have hc:=beq_eq hc
    have aj:=mN.1 aj
    have vL:=mN.1 vL
    rcases DataW.trod_slice e h with⟨rfl,_⟩|⟨a,len,cap,A,rest,aK,B,rfl,o,_,aw,aW,hlen,aC,ax,_⟩
    · exact scalar (.slice none 0 0) (fun _=>.qn) hc rfl (by unfold Rp;rw[e];exact .inl rfl)
    · cases B
      rcases gp cap with ak|ak
      · subst ak
        obtain rfl:len=0:=by omega
        exact⟨g,O,G,[.slice (some ⟨0,0,none⟩) 0 0],af,ag,Gm.le_refl g,fg _,HE.refl _ _,gZ.cons (.oM ⟨0,0,none⟩ a) (gZ.nil g),by unfold Rp;rw[e];exact .inr (.inl rfl),by rw[hc];rfl⟩
      · have o:x.1=.slice (A.map (·.1)) (rest.map (·.1)):=by rw[o]
        have aB:cap<=reachBytes/\cap*P.bytesOf el<=reachBytes:=by
         have h1:=N ((A.length+rest.length)*P.bytesOf el) (by rw[o];simp[DataW.weights,e])
         obtain⟨D,_⟩:=ax rfl
         have h3:=Nat.mul_le_mul_left (A.length+rest.length) (show 1<=P.bytesOf el by omega)
         have h4:A.length+rest.length=cap:=by omega
         rw[h4]at h1 h3
         exact⟨by omega,h1⟩
        have aF:∀(i:Nat) (y:DataW H×List MemPlace),A[i]?=some y->∀k∈y.1.weights P el,k<=reachBytes:=fun i y hy k hk=>by
         refine N k ?_
         rw[o]
         simp only[DataW.weights,e]
         exact fG _ (List.mem_append_left _ (yE (fU.2 ⟨y,fa hy,rfl⟩) k hk))
        have each:∀i,i<cap->∃c,w.cells? 0 (a.add (i*P.cellsOf el)) (P.cellsOf el)=some c/\(i<len->∃x,DataW.trod enc P w 0 (fun _=>true) held n el c=some x/\∀k∈x.1.weights P el,k<=reachBytes):=fun i hi=>by
         rcases gn i len with au|au
         · have k:=aC i au
           rw[List.getElem?_eq_getElem (by omega)]at k
           obtain⟨c,R,al⟩:=fM.1 k
           exact⟨c,R,fun _=>⟨_,al,aF i _ (fq (by omega))⟩⟩
         · obtain⟨hr,k⟩:=ax rfl
           have k:=k (i-len) (by omega)
           rw[List.getElem?_eq_getElem (by omega),show len+(i-len)=i by omega]at k
           obtain⟨c,R,_⟩:=fM.1 k
           exact⟨c,R,fun h=>absurd h (by omega)⟩
        obtain⟨aY,k0,_⟩:=each 0 ak
        obtain⟨_,a7,aU⟩:=World.cells?_some k0
        have q3:=aU 0 aj
        rw[List.getElem?_eq_getElem (by omega)]at q3
        have aA:(a.add (0*P.cellsOf el)).add 0=a:=by simp[Addr.add]
        rw[aA]at q3
        obtain⟨aa,rel,aZ,ay,ae,_⟩:=IG q3
        obtain⟨aP,L,aV⟩:=a
        simp only at ay ae
        subst ae
        have cellAt:∀i,i<cap->∃c,w.cells? 0 ((Addr.mk aP L none).add (i*P.cellsOf el)) (P.cellsOf el)=some c/\c=(aa.toList.drop (L+i*P.cellsOf el)).take (P.cellsOf el)/\L+(i+1)*P.cellsOf el<=aa.size:=fun i hi=>by
         obtain⟨c,R,_⟩:=each i hi
         obtain⟨_,p1,aT⟩:=World.cells?_some R
         have aL:∀j,j<P.cellsOf el->aa[L+i*P.cellsOf el+j]?=c[j]?:=fun j hj=>by
          have p4:=aT j hj
          rw[PI,PI]at p4
          unfold World.cell? at p4
          simp only[ay,Option.isSome_none,Bool.false_eq_true,if_false]at p4
          exact p4
         have aM:=aL (P.cellsOf el-1) (by omega)
         rw[List.getElem?_eq_getElem (show P.cellsOf el-1<c.length by omega)]at aM
         have a6:=sG aM
         refine⟨c,R,?_,by rw[Nat.succ_mul];omega⟩
         refine List.ext_getElem? fun j=>?_
         rcases gn j (P.cellsOf el)with hj|hj
         · rw[List.getElem?_take,if_pos hj,List.getElem?_drop,<-aL j hj];simp
         · rw[List.getElem?_eq_none (by omega),List.getElem?_eq_none (by simp;omega)]
        obtain⟨_,_,_,K⟩:=cellAt (len-1) (by omega)
        obtain⟨_,_,_,ai⟩:=cellAt 0 ak
        have K:L+len*P.cellsOf el<=aa.size:=by
         rcases gp len with av|av
         · subst av;simp at ai⊢;omega
         · rwa[show len-1+1=len by omega]at K
        let parts:=(List.range len).map fun i=>(el,(aa.toList.drop (L+i*P.cellsOf el)).take (P.cellsOf el))
        have u:∀p∈parts,C9 P B0 w0 w n p.1 p.2:=fun p e9=>by
         obtain⟨i,hi,rfl⟩:=fU.1 e9
         have hi:=gL.1 hi
         obtain⟨c,R,al⟩:=each i (by omega)
         obtain⟨x',al,aH⟩:=al hi
         obtain⟨aX,aI,aS,_⟩:=cellAt i (by omega)
         rw[R]at aI;cases aI
         subst aS
         exact ih el _ x' al aH aE
        obtain⟨g1,ad,F,lss,H1,a1,e1,an,M,r1,X,aq⟩:=AS parts u g O G af ag
        have J:(parts.map (·.2)).flatten=(aa.toList.drop L).take (len*P.cellsOf el):=by
         have:=DU (Z:=(aa.toList.drop L).take (len*P.cellsOf el)) (s:=P.cellsOf el) len len (by simp;omega) (fg _)
         rw[List.take_take,Nat.min_self]at this
         rw[<-this]
         simp only[parts,List.map_map]
         congr 1
         refine List.map_congr_left fun i hi=>?_
         have hi:=gL.1 hi
         have hmul:(i+1)*P.cellsOf el<=len*P.cellsOf el:=gJ _ (by omega)
         rw[Nat.succ_mul]at hmul
         simp only[Function.comp]
         refine List.ext_getElem? fun j=>?_
         rw[List.getElem?_take,List.getElem?_take]
         split
         · rw[List.getElem?_drop,List.getElem?_drop,List.getElem?_take,if_pos (by omega),List.getElem?_drop,Nat.add_assoc]
         · rfl
        rw[J]at r1
        obtain⟨g2,aO,a2,e2,b2,ui⟩:=H1.Zr a1 ay K r1
        refine⟨g2,_,_,[.slice (some ⟨F,0,none⟩) len cap],aO,a2,Gm.le_trans e1 e2,by omega,M.trans ui an,gZ.cons (.slice (off:=0) b2 aw (.inl rfl)) (gZ.nil _),?_,by rw[hc];rfl⟩
        unfold Rp
        rw[e]
        refine .inr (.inr ⟨F,len,cap,lss,rfl,ak,aw,aB,fo _,Tr.ig ..,by simpa[parts]using X,fun l hl=>?_⟩)
        obtain⟨i,hi,rfl⟩:=gC.1 hl
        have E:i<parts.length:=by rw[<-X];exact hi
        obtain⟨w1,aN⟩:=aq i _ _ (fq E) (fq hi)
        have aD:(parts[i]).1=el:=by simp[parts]
        rw[aD]at w1 aN
        exact⟨w1.mono ui (fh _),aN⟩
  · rename_i fs e
    simp only[Bool.and_eq_true]at C
    obtain⟨xs,aK,B,o,hl,aG,hx⟩:=DataW.trod_struct e h
    cases B
    have o:x.1=.agg (xs.map (·.1)):=by rw[o]
    have u:∀p∈fs.toList.map (fun f=>(f.type,(Z.drop f.offset).take (P.cellsOf f.type))),C9 P B0 w0 w n p.1 p.2:=fun p e9=>by
     obtain⟨f,hf,rfl⟩:=fU.1 e9
     obtain⟨i,hi,rfl⟩:=gC.1 hf
     have E:i<fs.size:=by simpa using hi
     have k:=hx i fs[i] (gA E)
     rw[List.getElem?_eq_getElem (by omega)]at k
     refine ih _ _ _ k (fun q az=>N q ?_) (fO.1 C.1 _ hf)
     rw[o]
     simp only[DataW.weights,e]
     exact DataW.weights_mem_each (j:=i) (t:=fs[i].type) (by rw[List.getElem?_map,Array.getElem?_toList,Array.getElem?_eq_getElem E];rfl) (by rw[List.getElem?_map,List.getElem?_eq_getElem (by omega)];rfl) q az
    obtain⟨g1,ad,F,lss,H1,a1,e1,an,M,r1,X,aq⟩:=AS _ u g O G af ag
    have J:=GO (P:=P) (Z:=Z) fs.toList 0 _ C.2 hl (gI _)
    rw[List.map_map]at r1
    have W:((fun p:TypeId×List Value=>p.2)∘fun f:Field=>(f.type,(Z.drop f.offset).take (P.cellsOf f.type)))=fun f=>(Z.drop f.offset).take (P.cellsOf f.type):=rfl
    rw[W,J,List.drop_zero]at r1
    refine⟨g1,ad,F,lss.flatten,H1,a1,e1,an,M,r1,?_,r1.1.trans hl⟩
    unfold Rp
    rw[e]
    refine⟨lss,rfl,by simpa using X,fun i f l hf ah=>?_⟩
    exact aq i (f.type,(Z.drop f.offset).take (P.cellsOf f.type)) l (by rw[List.getElem?_map,Array.getElem?_toList,hf];rfl) ah
  · rename_i m el e
    simp only[Bool.and_eq_true]at C
    have ar:=beq_eq C.2
    obtain⟨xs,aK,B,o,hl,aG,hx⟩:=DataW.trod_array e h
    cases B
    have o:x.1=.agg (xs.map (·.1)):=by rw[o]
    have u:∀p∈(List.range m).map (fun i=>(el,(Z.drop (i*P.cellsOf el)).take (P.cellsOf el))),C9 P B0 w0 w n p.1 p.2:=fun p e9=>by
     obtain⟨i,hi,rfl⟩:=fU.1 e9
     have hi:=gL.1 hi
     have k:=hx i hi
     rw[List.getElem?_eq_getElem (by omega)]at k
     refine ih _ _ _ k (fun q az=>N q ?_) C.1
     rw[o]
     simp only[DataW.weights,e]
     exact yE (fU.2 ⟨_,List.getElem_mem (by omega),rfl⟩) q az
    obtain⟨g1,ad,F,lss,H1,a1,e1,an,M,r1,X,aq⟩:=AS _ u g O G af ag
    rw[List.map_map]at r1
    have W:((fun p:TypeId×List Value=>p.2)∘fun i:Nat=>(el,(Z.drop (i*P.cellsOf el)).take (P.cellsOf el)))=fun i=>(Z.drop (i*P.cellsOf el)).take (P.cellsOf el):=rfl
    rw[W,DU m m (hl.trans ar) (Nat.le_refl _),List.take_of_length_le (by rw[hl,ar];exact Nat.le_refl _)]at r1
    refine⟨g1,ad,F,lss.flatten,H1,a1,e1,an,M,r1,?_,r1.1.trans hl⟩
    unfold Rp
    rw[e]
    refine⟨lss,rfl,by simpa using X,fun l ah=>?_⟩
    obtain⟨i,hi,rfl⟩:=gC.1 ah
    have E:i<m:=by rw[X]at hi;simpa using hi
    exact aq i (el,(Z.drop (i*P.cellsOf el)).take (P.cellsOf el)) _ (by rw[List.getElem?_map,List.getElem?_range E];rfl) (fq hi)
  · cases C
def AT(P:Program)(t:TypeId)(b:List Value):Value:=match P.underlying t with
 |some (.struct _)=>.agg b.toArray
 |some (.array _ _)=>.agg b.toArray
 |_=>b.headD undef
def yF(P:Program)(O:Ht)(G:Nat):List TypeId->List Value->Prop
 |[],[]=>True
 |t::ts,v::vs=>(∃n b,Rp P O G n t b/\b.length=P.cellsOf t/\v=AT P t b)/\yF P O G ts vs
 |_,_=>False
theorem Sg{g:Gm}{r:Reach}{base n:Nat}{O:Ht}{G:Nat}{t:TypeId}{p:List Value}{v:Value}(hs:zS P S t=true)(hr:Rp P O G n t p)(hl:gZ g p v.cells.toList)(j:Value.okWide P w r base t v):fP g (AT P t p) v:=by
 have one:∀x,p=[x]->(∀Z,v≠.agg Z)->fP g x v:=fun x hx o=>by
  subst hx
  have:v.cells=#[v]:=by
   cases v<;>first|rfl|exact absurd rfl (o _)
  rw[this]at hl
  exact hl.head
 have many:(∃Z,v=.agg Z)->fP g (.agg p.toArray) v:=fun⟨Z,o⟩=>by
  subst o
  have h:=gZ.toArray hl
  exact .agg h.1 h.2
 cases n with
 |zero=>exact hr.elim
 |succ n=>
  unfold zS at hs
  unfold AT
  unfold Rp at hr
  unfold Value.okWide at j
  split at hs
  · rename_i e
    rw[e]at hr j⊢
    obtain⟨b,rfl⟩:=hr
    exact one _ rfl fun Z hc=>by subst hc;simp[Cell.okWide,Cell.ok,e]at j
  · rename_i k e
    rw[e]at hr j⊢
    obtain⟨b,rfl,_⟩:=hr
    exact one _ rfl fun Z hc=>by subst hc;simp[Cell.okWide,Cell.ok,e]at j
  · rename_i e
    rw[e]at hr j⊢
    obtain⟨b,rfl,_⟩:=hr
    exact one _ rfl fun Z hc=>by subst hc;simp[Cell.okWide,Cell.ok,e]at j
  · rename_i el e
    rw[e]at hr j⊢
    have o:∀Z,v≠.agg Z:=fun Z hc=>by subst hc;simp[Cell.okWide,Cell.ok,e]at j
    rcases hr with rfl|rfl|⟨b,len,cap,lss,rfl,_⟩
    · exact one _ rfl o
    · exact one _ rfl o
    · exact one _ rfl o
  · rename_i fs e
    rw[e]at j⊢
    obtain⟨Z,hc,_⟩:=j
    exact many ⟨Z,hc⟩
  · rename_i m el e
    rw[e]at j⊢
    obtain⟨Z,hc,_⟩:=j
    exact many ⟨Z,hc⟩
  · cases hs
theorem KP{held:Bool}{r:Reach}{base:Nat}(B:∀t,S t=true->zS P S t=true):∀(ts:List TypeId) (vs:List Value) (ds:List (DataW H)) (ps:List MemPlace),DataW.TrodAll enc P w 0 (fun _=>true) held ts vs ds ps->(∀k∈DataW.weightsEach P ts ds,k<=reachBytes)->
 (∀(j:Nat) t v,ts[j]?=some t->vs[j]?=some v->Value.okWide P w r base t v)->(∀t∈ts,S t=true)->∀(g:Gm) (O:Ht) (G:Nat),gx B0 w0 g O.get G w->zF O->QX P B0 w0 w g O G vs fun e9 e_ m=>yF P e9 e_ ts m
 |[],[],[],_,_,_,_,_,g,O,G,A,C=>⟨g,O,G,[],A,C,Gm.le_refl g,fg _,HE.refl _ _,gZ.nil g,trivial⟩
 |t::ts,v::vs,d::ds,ps,h,z,o,y,g,O,G,A,C=>by
  obtain⟨p,q,⟨b,h1⟩,D,_⟩:=h
  have u:=y t (fz ..)
  obtain⟨g1,J,N,M,H1,a1,e1,ad,F,r1,L,aa⟩:=QY B b t _ _ h1 (fun k hk=>z k (by unfold DataW.weightsEach;exact List.mem_append_left _ hk)) u g O G A C
  have X:=Sg (B t u) L r1 (o 0 t v rfl rfl)
  obtain⟨g2,jy,o_,m,R,a2,e2,n2,ui,r2,ab⟩:=KP B ts vs ds q D (fun k hk=>z k (by unfold DataW.weightsEach;exact List.mem_append_right _ hk)) (fun j E v' e W=>o (j+1) E v' e W) (fun E K=>y E (fG _ K)) g1 J N H1 a1
  exact⟨g2,jy,o_,AT P t M::m,R,a2,Gm.le_trans e1 e2,by omega,F.trans ui ad,gZ.cons (X.mono e2) r2,⟨b,M,L.mono ui n2,aa,rfl⟩,ab⟩
 |[],_::_,_,_,h,_,_,_,_,_,_,_,_=>h.elim
 |[],[],_::_,_,h,_,_,_,_,_,_,_,_=>h.elim
 |_::_,[],_,_,h,_,_,_,_,_,_,_,_=>h.elim
 |_::_,_::_,[],_,h,_,_,_,_,_,_,_,_=>h.elim
end
def AU(ng:Nat):Gm:=⟨fun b=>if b<ng then some (b,0)else none,fun _=>none⟩
def IH(kq:List TB)(w:World):Prop:=∀b∈kq,∀(j:Nat) (v:Value),b.Z[j]?=some v->w.cell? ⟨b.num,j,none⟩=some v
def Bc(ng:Nat)(b:TB):Bool:=Nat.blt b.num ng&&(b.Z.all (zJ 4)&&(Nat.blt 0 b.Z.length&&!b.mP))
theorem II:∀(kq:List TB) (h:Ht),kq.all (fun m=>!m.mP)=true->zF h->zF (yA kq h)
 |[],_,_,j=>j
 |m::kq,h,hg,j=>by
  simp only[List.all_cons,Bool.and_eq_true,Bool.not_eq_true']at hg
  refine II kq _ hg.2 fun b o e=>?_
  unfold CA at e
  rw[hg.1,cond_false,Tr.oh]at e
  by_cases hb:b=0+m.num
  · subst hb;rw[Hp.jO]at e;cases e;exact⟨_,_,rfl,rfl⟩
  · rw[Hp.gR _ _ hb]at e;exact j b o e
theorem KQ{kq:List TB}{ng:Nat}{w:World}(hs:ng<=w.heap.size)(hn:tI 0 ng kq=true)(y:kq.all (Bc ng)=true)(hl:IH kq w):gx w.heap.size w (AU ng) (yA kq .nil).get ng w/\zF (yA kq .nil):=by
 have F:gx w.heap.size w (AU ng) (Tr.nil:Ht).get ng w:=by
  refine⟨pY.refl _ _,fg _,fun b rb ro k=>?_,fun b o k=>(by cases k),fun b ms k=>(by cases k),fun b Z m gr k=>(by cases k),fun b1 b2 o1 o2 r r1 r2 _ k=>(by cases k),fun b x k=>by cases k⟩
  simp only[AU]at k
  split at k
  · cases k;exact⟨by omega,by omega⟩
  · cases k
 refine⟨JM (yC:=fun _=>True) kq 0 .nil hn F (fun rb _ b o r1 k=>by cases k) (fun b _=>rfl) (fun j u hg=>?_) (fun j u rb ro k=>?_),II kq _ ?_ fun b o e=>by cases e⟩
 · exfalso
   have:=fO.1 y j u
   simp only[Bc,Bool.and_eq_true,Bool.not_eq_true']at this
   rw[this.2.2.2]at hg;cases hg
 · refine⟨trivial,?_⟩
   rw[Nat.zero_add]at k⊢
   have:=fO.1 y j u
   simp only[Bc,Bool.and_eq_true,Bool.not_eq_true']at this
   obtain⟨C,c1,c2,J⟩:=this
   have C:=mN.1 C
   have c2:=mN.1 c2
   simp only[AU,if_pos C]at k
   cases k
   have p:=hl j u
   have hex:∃z el A,w.heap[j.num]?=some (.cells z el A)/\j.Z.length<=z.size:=by
    have h1:=p (j.Z.length-1) j.Z[j.Z.length-1] (fq (by omega))
    obtain⟨z,el,A,B,_,D⟩:=IG h1
    exact⟨z,el,A,B,by have:=sG D;simp only at this;omega⟩
   obtain⟨z,el,A,B,K⟩:=hex
   refine⟨_,B,⟨by omega,fun i v v' e E=>?_,(fun k=>by cases k),(fun gr k=>by rw[J]at k;cases k),(fun _=>rfl)⟩⟩
   have D:=p i v e
   unfold World.cell? at D
   simp only[B,Option.isSome_none,Bool.false_eq_true,if_false]at D
   rw[Nat.zero_add]at E
   rw[E]at D
   cases D
   exact fP.Hk _ 4 v (fO.1 c1 v (fa e))
 · exact List.all_eq_true.2 fun j u=>by
    have:=fO.1 y j u
    simp only[Bc,Bool.and_eq_true]at this
    exact this.2.2.2
theorem UC(ng:Nat):lv (AU ng) ng:=fun i hi=>by simp[AU,hi]
end
end Sw
namespace Sw
noncomputable section
open Go Go.RowKit Go.ChangeShapes
section
variable {H:Type}{enc:TypeId×Value->H}{P:Program}
theorem Et(hl:laidOutB P=true){W e:World}(hb:Below W.heap.size W e):∀{ts:List TypeId} {vs:List Value} {ds:List (DataW H)} {ps:List MemPlace},(∀t∈ts,P.readableRec t=true/\t<P.types.size)->
 DataW.TrodAll enc P W 0 (fun _=>true) true ts vs ds ps->(∀x∈ps,x.block<W.heap.size)->DataW.TrodAll enc P e 0 (fun b=>decide (b<W.heap.size)) true ts vs ds ps
 |[],[],[],_,_,h,_=>h
 |t::ts,v::vs,d::ds,_,hr,h,jH=>by
  obtain⟨p,q,h1,D,rfl⟩:=h
  obtain⟨r1,r2⟩:=hr t (fz ..)
  exact⟨p,q,Below.trod hl r1 r2 h1 hb (fun x hx=>jH x (List.mem_append_left _ hx)),Et hl hb (fun t j=>hr t (fG _ j)) D (fun x hx=>jH x (List.mem_append_right _ hx)),rfl⟩
 |[],_::_,_,_,_,h,_=>h.elim
 |[],[],_::_,_,_,h,_=>h.elim
 |_::_,[],_,_,_,h,_=>h.elim
 |_::_,_::_,[],_,_,h,_=>h.elim
theorem Sh{f:Func}{s:ChangeSpec}{apart fresh handsOn:Bool}{W e:World}{args:Array Value}{ds gs:List (DataW H)}{before:List MemPlace}{t:TypeId}(hl:laidOutB P=true)
 (j:DataW.Whole enc P f.params.toList s.vars apart W args.toList ds gs before) (o:s.vars=[]) (hs:s.fn H (ds++gs)={results:=[.lit (.bool true)],args:=ds}) (hr:f.resultTypes=#[t]) (hu:P.underlying t=some .bool)
 (O:∀t∈f.params.toList,P.readableRec t=true/\t<P.types.size) (hb:Below W.heap.size W e):s.post enc P f apart fresh handsOn false W args (.bool true) e:=by
 have b:=j
 obtain⟨p,q,m,u,rfl,_,_⟩:=j
 refine⟨ds,gs,p++q,[],p,[],b,?_,?_,?_,?_,fun h=>by cases h⟩
 · rw[hs,hr]
   exact trodAll_mk1 (shut_bool hu true)
 · rw[hs]
   exact Et hl hb O m (fun x hx=>b.lt x (List.mem_append_left _ hx))
 · rw[hs,o];rfl
 · exact hb.frame _
theorem BI{b:List TypeId}{gs:List (DataW H)}:∀{ts:List TypeId} {ds:List (DataW H)} {k:Nat},k∈DataW.weightsEach P ts ds->k∈DataW.weightsEach P (ts++b) (ds++gs)
 |[],_,_,h=>by simp[DataW.weightsEach]at h
 |_::_,[],_,h=>by simp[DataW.weightsEach]at h
 |t::ts,d::ds,k,h=>by
  simp only[List.cons_append,DataW.weightsEach]at h⊢
  rcases fR.1 h with h|h
  · exact List.mem_append_left _ h
  · exact List.mem_append_right _ (BI h)
theorem Na{C:Checked}{os:Os}{f:FuncId}{fn:Func}{s:ChangeSpec}{apart fresh handsOn:Bool}{X:World->Array Value->Prop}{t:TypeId}
 (ab:∀(w w':World) (args:Array Value),w.heap=w'.heap->X w args->X w' args)
 (own:ownKnob C.prog.godebug=none) (started:os.Started) (u:C.prog.inits.idxOf? f=none) (K:C.prog.funcs[f]?=some fn)
 (witness:∃(w:World) (tape:Tape) (i:Input),w.os=os/\(w.forCall tape i).Shaped C.prog/\i.vars=[]/\Input.okWide C.prog (w.forCall tape i) .any w.heap.size f i/\
   ((s.pre enc C.prog fn [] apart (w.forCall tape i).memory i.args/\X (w.forCall tape i).memory i.args)/\sizedMet enc C.prog fn (OpenSpec.ofChange s) apart (w.forCall tape i).memory i.args)/\({}:Assume).holds C.prog (lone (Frame.enter C.prog f i.args .normal) [] (w.forCall tape i)))
 (hl:laidOutB C.prog=true) (R:s.vars=[]) (hr:fn.resultTypes=#[t]) (hu:C.prog.underlying t=some .bool) (O:∀t∈fn.params.toList,C.prog.readableRec t=true/\t<C.prog.types.size)
 (m:∀(W:World) (base:Nat) (args:Array Value) (ds gs:List (DataW H)) (before p:List MemPlace),
   (∀(j:Nat) t v,fn.params[j]?=some t->args[j]?=some v->Value.okWide C.prog W .any base t v)->
   DataW.TrodAll enc C.prog W 0 (fun _=>true) true fn.params.toList args.toList ds p->(∀k∈DataW.weightsEach C.prog fn.params.toList ds,k<=reachBytes)->gs=[]->
   X W args->W.ShapedOpen C.prog->
   s.fn H (ds++gs)={results:=[.lit (.bool true)],args:=ds}/\Calls C.prog f args W fun e E=>e=.returned (.bool true)/\Below W.heap.size W E):
 ReturnsInHanded {} C os f .any (fun w args=>(s.pre enc C.prog fn [] apart w args/\X w args)/\sizedMet enc C.prog fn (OpenSpec.ofChange s) apart w args) (s.post enc C.prog fn apart fresh handsOn false):=by
 refine returnsInHanded_of_calls own started u witness ?_
 intro w tape i _ N _ M A _
 obtain⟨_,_,_,F,z,_,_,_,_,B⟩:=M
 have e:F=fn:=gb (z.symm.trans K)
 subst e
 obtain⟨⟨⟨ds,gs,before,hw,hc⟩,hx⟩,ad⟩:=A
 have y:=DataW.Whole.of_heap (w':=w.forCall tape i) (by rfl) hw
 have S:=y
 obtain⟨p,q,aa,J,_,_,_⟩:=S
 have L:gs=[]:=by
  rw[R]at J
  cases gs with
  |nil=>rfl
  |cons a b=>exact J.elim
 obtain⟨hs,o⟩:=m (w.forCall tape i) w.heap.size i.args ds gs before p B aa (fun k hk=>of_decide_eq_true (fO.1 (sizedMet.weights ad hw) k (BI hk))) L (ab _ _ _ (by rfl) hx) N
 refine o.mono fun e E ⟨he,hb⟩=>?_
 subst he
 exact ChangeSpec.post_blind (Sh hl y R hs hr hu O hb)
end
end
end Sw
namespace Sw
noncomputable section
open Go Go.RowKit Go.ChangeShapes
section
variable {P:Program}{O:Ht}{G:Nat}
def B9(P:Program)(t:TypeId):Option (List TypeId):=match P.underlying t with
 |some (.struct fs)=>some (fs.toList.map (·.type))
 |_=>none
def wO(P:Program)(O:Ht)(G n:Nat):List TypeId->List (List Value)->Prop
 |[],[]=>True
 |t::ts,l::b=>Rp P O G n t l/\wO P O G n ts b
 |_,_=>False
theorem wO.of{n:Nat}:∀(ts:List TypeId) (lss:List (List Value)),lss.length=ts.length->(∀(i:Nat) (t:TypeId) (l:List Value),ts[i]?=some t->lss[i]?=some l->Rp P O G n t l)->wO P O G n ts lss
 |[],[],_,_=>trivial
 |t::ts,l::j,h,k=>⟨k 0 t l rfl rfl,wO.of ts j (by simpa using h) fun i m e a b=>k (i+1) m e a b⟩
 |[],_::_,h,_=>by simp at h
 |_::_,[],h,_=>by simp at h
theorem Rp.fields{k:Nat}{t:TypeId}{j:List Value}{ts:List TypeId}(hu:B9 P t=some ts)(h:Rp P O G k t j):∃n lss,j=lss.flatten/\wO P O G n ts lss:=by
 cases k with
 |zero=>exact h.elim
 |succ n=>
  unfold B9 at hu
  unfold Rp at h
  split at hu
  · rename_i fs e
    cases hu
    rw[e]at h
    obtain⟨lss,h1,D,h3⟩:=h
    refine⟨n,lss,h1,wO.of _ _ (by simpa using D) fun i t l a b=>?_⟩
    rw[List.getElem?_map,Array.getElem?_toList,Option.map_eq_some_iff]at a
    obtain⟨f,hf,rfl⟩:=a
    exact(h3 i f l hf b).1
  · cases hu
theorem Rp.int{k:Nat}{t:TypeId}{b:List Value}{ik:IntKind}(hu:P.underlying t=some (.int ik))(h:Rp P O G k t b):∃z:Int,b=[.int ik z]/\(Lit.int ik z).wf=true:=by
 cases k with
 |zero=>exact h.elim
 |succ n=>unfold Rp at h;rw[hu]at h;exact h
theorem Rp.bool{k:Nat}{t:TypeId}{e:List Value}(hu:P.underlying t=some .bool)(h:Rp P O G k t e):∃b:Bool,e=[.bool b]:=by
 cases k with
 |zero=>exact h.elim
 |succ n=>unfold Rp at h;rw[hu]at h;exact h
theorem Rp.string{k:Nat}{t:TypeId}{b:List Value}(hu:P.underlying t=some .string)(h:Rp P O G k t b):∃s:ByteArray,b=[.string s]/\s.size<=reachBytes:=by
 cases k with
 |zero=>exact h.elim
 |succ n=>unfold Rp at h;rw[hu]at h;exact h
theorem Hx{α:Type}{enc:α->List Value}{E:α->Prop}:∀(lss:List (List Value)),(∀l∈lss,∃x,l=enc x/\E x)->∃xs:List α,lss=xs.map enc/\∀x∈xs,E x
 |[],_=>⟨[],rfl,fun x h=>by cases h⟩
 |l::lss,h=>by
  obtain⟨x,rfl,hx⟩:=h l (fz ..)
  obtain⟨xs,rfl,b⟩:=Hx lss fun l hl=>h l (fG _ hl)
  exact⟨x::xs,rfl,fun y hy=>by
   rcases fT.1 hy with rfl|hy
   · exact hx
   · exact b y hy⟩
theorem Rp.slice{α:Type}{enc:α->List Value}{m:Nat}{E:Ht->Nat->α->Prop}{k:Nat}{t e:TypeId}{p:List Value}(hu:P.underlying t=some (.slice e))(hlen:∀x,(enc x).length=m)(he:∀k l,Rp P O G k e l->∃x:α,l=enc x/\E O G x)(h:Rp P O G k t p):
 ∃s:SV α,p=[s.v]/\jC enc m E O G s:=by
 cases k with
 |zero=>exact h.elim
 |succ n=>
  unfold Rp at h;rw[hu]at h
  rcases h with rfl|rfl|⟨b,len,cap,lss,rfl,h0,y,j,hb,u,hl,hr⟩
  · exact⟨⟨_,[]⟩,rfl,⟨fun x h=>(by cases h),.inl ⟨rfl,.inl rfl⟩,by show(0:Nat)<_;decide⟩,fun x h=>(by cases h)⟩
  · exact⟨⟨_,[]⟩,rfl,⟨fun x h=>(by cases h),.inl ⟨rfl,.inr ⟨0,rfl⟩⟩,by show(0:Nat)<_;decide⟩,fun x h=>(by cases h)⟩
  · obtain⟨xs,rfl,o⟩:=Hx lss fun l hl=>he n l (hr l hl).1
    rw[List.length_map]at hl
    refine⟨⟨_,xs⟩,rfl,⟨fun x _=>hlen x,.inr ⟨b,cap,_,by rw[<-hl],h0,hb,by rw[u,List.flatMap_def],by show xs.length<=cap;omega,.inl rfl⟩,?_⟩,o⟩
    have:reachBytes<281474976710656:=by decide
    have:=j.1
    show xs.length<_
    omega
theorem Rp.vf{α:Type}{enc:α->List Value}{m:Nat}{k:Nat}{t e:TypeId}{b:List Value}(hu:P.underlying t=some (.slice e))(hlen:∀x,(enc x).length=m)(he:∀k l,Rp P O G k e l->∃x:α,l=enc x)(h:Rp P O G k t b):
 ∃s:SV α,b=[s.v]/\gB enc m O G s:=by
 obtain⟨s,h1,D⟩:=Rp.slice (E:=fun _ _ _=>True) hu hlen (fun k l h=>by obtain⟨x,hx⟩:=he k l h;exact⟨x,hx,trivial⟩) h
 exact⟨s,h1,D.1⟩
end
theorem Nb{O e9:Ht}(h:∀b o,O.get b=some o->e9.get b=some o):∀(kq:List TB) (A:mZ) {e:mZ},Iy O false kq A=some e->Iy e9 false kq A=some e
 |[],A,e,k=>k
 |j::kq,A,e,k=>by
  unfold Iy at k⊢
  cases hl:look j.num A with
  |none=>rw[hl]at k;cases k
  |some b=>
   rw[hl]at k
   simp only at k⊢
   cases hb:O.get b with
   |none=>rw[hb]at k;cases k
   |some o=>
    rw[hb]at k
    rw[h b o hb]
    cases o with
    |cells Z m=>
     simp only at k⊢
     cases hg:AM m j&&(!false||!m.ro)with
     |false=>rw[hg]at k;cases k
     |true=>
      rw[hg]at k
      simp only[cond_true]at k⊢
      cases hm:Fj (Ep 8) Z j.Z A with
      |none=>rw[hm]at k;cases k
      |some p=>rw[hm]at k;exact Nb h kq p k
    |_=>cases k
def QZ(ng:Nat)(kq:List TB):Bool:=match Iy (yA kq .nil) false kq (Wb ng)with
 |some b=>xU b kq&&C3 ng b
 |none=>false
theorem Si{ng:Nat}{kq:List TB}(hk:QZ ng kq=true){O:Ht}{G:Nat}(h:∀b o,(yA kq .nil).get b=some o->O.get b=some o):zD ng [⟨[],kq,ng,.bool true,[],0⟩] [] O G=some (.bool true,O,G):=by
 unfold QZ at hk
 split at hk
 · rename_i j e
   rw[Bool.and_eq_true]at hk
   have e2:=Nb h kq (Wb ng) e
   have:JK ng ⟨[],kq,ng,.bool true,[],0⟩ [] O G=some (.bool true,O,G):=by
    unfold JK
    simp only[Fj,e2,hk.1,hk.2,Bool.and_self,cond_true]
    rfl
   simp only[zD,this]
 · cases hk
theorem W1{e:Env}{ng:Nat}{kq:List TB}{f:FuncId}(hK:e.K f=some (yB ng [⟨[],kq,ng,.bool true,[],0⟩]))(hk:QZ ng kq=true){O:Ht}{G:Nat}(h:∀b o,(yA kq .nil).get b=some o->O.get b=some o):WF e f [] O G (fL G O (gi True)):=
 .Yc hK (Si hk h) ⟨⟨true,rfl,fun _=>trivial,fun _=>rfl⟩,fg _,HE.refl _ _⟩
theorem qF.UD{P:Program}{B0:Nat}{w0:World}{g:Gm}{O:Ht}{G:Nat}{w:World}{f:FuncId}{args:Array Value}{v v':Value}(H:gx B0 w0 g O.get G w)(j:fP g v v')(h:Calls P f args w fun e w'=>e=.returned v'/\pY w.heap.size w w')(fs:List Frame):
 qF P B0 w0 .normal g G f args w v O G fs:=by
 obtain⟨e,w',fr,⟨rfl,hb⟩,st,hf,h1,D,h3,h4⟩:=h fs
 exact⟨v',w',g,H.later hb (Gm.le_refl g) (fg _) (fun _ _=>rfl) (fun b rb ro k=>⟨(H.rT b rb ro k).1,fb (H.rT b rb ro k).2 hb.b.size⟩) H.room,j,
  ⟨yv.refl _ _,⟨hb.b.size,fun rb jH _=>hb.b.block rb jH⟩,pQ.refl _ _⟩,fr,st,h1,D,h3,hf,h4⟩
theorem qF.Nc{P:Program}{B0:Nat}{w0:World}{g:Gm}{O:Ht}{G:Nat}{w:World}{f:FuncId}{args:Array Value}{v v':Value}(H:gx B0 w0 g O.get G w)(j:fP g v v')(h:Calls P f args w fun e w'=>e=.returned v'/\w'=w)(fs:List Frame):
 qF P B0 w0 .normal g G f args w v O G fs:=
 .UD H j (h.mono fun _ _ ⟨a,b⟩=>⟨a,b▸pY.refl _ _⟩) fs
theorem IJ{B0:Nat}{w0 w:World}(h:Below B0 w0 w){b o:Nat}(hb:b<B0):w.cell? ⟨b,o,none⟩=w0.cell? ⟨b,o,none⟩:=by
 unfold World.cell?
 simp only[h.block b hb]
theorem WF.Sj{P:Program}{ng B0:Nat}{w0:World}{e:Env}{g:Gm}{O:Ht}{G:Nat}{w:World}(ok:mY P ng e)(nm:so P ng B0 w0 e)(H:gx B0 w0 g O.get G w)(hg:lv g ng){f:FuncId}{l:List Value}{args:Array Value}(hl:gZ g l args.toList)
 (h:WF e f l O G (fun v _ _=>v=.bool true)):Calls P f args w fun j w'=>j=.returned (.bool true)/\Below B0 w0 w':=by
 obtain⟨v,e9,e_,⟨b,h1⟩,rfl⟩:=h
 refine Sw.QL ok nm H hg hl b 1 ?_
 simp only[explore,h1 b (Nat.le_refl _)]
 rfl
theorem gi.isTrue{v:Value}(h:gi True v):v=.bool true:=by
 obtain⟨c,rfl,h⟩:=h
 rw[h.2 trivial]
theorem Nd{w:World}{b o:Nat}{v:Value}(h:w.cell? ⟨b,o,none⟩=some v):b<w.heap.size:=by
 unfold World.cell? at h
 simp only at h
 split at h
 · rename_i c el j e;exact(gf.1 e).1
 · cases h
theorem GP{H:Type}{enc:TypeId×Value->H}{P:Program}{w:World}{low:Nat}{spare:Nat->Bool}{held:Bool}:∀{ts:List TypeId} {vs:List Value} {ds:List (DataW H)} {ps:List MemPlace},DataW.TrodAll enc P w low spare held ts vs ds ps->ds.length=ts.length
 |[],[],[],_,_=>rfl
 |_::_,_::_,_::_,_,h=>by obtain⟨_,_,_,D,_⟩:=h;simp[GP D]
 |[],_::_,_,_,h=>h.elim
 |[],[],_::_,_,h=>h.elim
 |_::_,[],_,_,h=>h.elim
 |_::_,_::_,[],_,h=>h.elim
theorem Sk{m N t:Nat}(h:Nat.blt m (2^N)=true)(hs:has m t=true):t<N:=by
 rcases gn t N with b|b
 · exact b
 · exfalso
   have:m<2^t:=fb (mN.1 h) (Nat.pow_le_pow_right (by decide) b)
   unfold has at hs
   rw[Nat.testBit_lt_two_pow this]at hs;cases hs
theorem Sm{H:Type}{enc:TypeId×Value->H}{P:Program}{ng:Nat}{e:Env}{S:TypeId->Bool}{kq:List TB}{f:FuncId}{W:World}{base:Nat}{ts:List TypeId}{args:Array Value}{ds:List (DataW H)}{p:List MemPlace}
 (ok:mY P ng e) (nm:so P ng W.heap.size W e) (hs:ng<=W.heap.size) (hn:tI 0 ng kq=true) (z:kq.all (Bc ng)=true) (hl:IH kq W) (K:∀t,S t=true->zS P S t=true)
 (J:DataW.TrodAll enc P W 0 (fun _=>true) true ts args.toList ds p) (C:∀k∈DataW.weightsEach P ts ds,k<=reachBytes) (u:∀(j:Nat) t v,ts[j]?=some t->args[j]?=some v->Value.okWide P W .any base t v) (B:∀t∈ts,S t=true)
 (h:∀(O:Ht) (G:Nat) (m:List Value),yF P O G ts m->(∀(e9:Ht) (e_:Nat),G<=e_->HE G O e9->∀b o,(yA kq .nil).get b=some o->e9.get b=some o)->WF e f m O G (fL G O (gi True))):
 Calls P f args W fun F E=>F=.returned (.bool true)/\Below W.heap.size W E:=by
 obtain⟨y,a0⟩:=KQ hs hn z hl
 obtain⟨g,O,G,m,H1,a1,e1,R,he,r1,M⟩:=KP (B0:=W.heap.size) (w0:=W) K ts args.toList ds p J C (fun j t v a b=>u j t v a (by simpa using b)) B (AU ng) (yA kq .nil) ng y a0
 refine WF.Sj ok nm H1 ((UC ng).mono e1) r1 ((h O G m M fun e9 e_ N A b o hb=>?_).mono fun v _ _ L=>L.1.isTrue)
 have jH:b<ng:=(y.live b o hb).1
 rw[A b (by omega),he b jH];exact hb
end
end Sw
namespace Sw
noncomputable section
open Go Go.RowKit Go.Sort Go.Proofs
section
variable {α:Type}{enc:α->List Value}{n k B b gr:Nat}{O:Ht}{G:Nat}{L L':List α}
theorem Q0{β:Type}{xs b:List β}(h:xs.length=b.length):mM xs 0 b=some b:=by
 rw[GJ];have:=DQ xs b [] h;simpa using this
theorem uh.put(h:uh enc n B b gr O G L)(hlen:(L'.flatMap enc).length=(L.flatMap enc).length):
 ∃jJ,oG O.get b (L.flatMap enc) ⟨false,some gr,0,n⟩ 0 (L'.flatMap enc)=some jJ/\uh enc n B b gr (jm jJ O) G L'/\HE B O (jm jJ O):=by
 obtain⟨h1,⟨ms,D,h3⟩,h4,z,A,C⟩:=h
 have m:b≠gr:=fun e=>by rw[e,D]at h1;cases h1
 let ov:=overlaps b (0+0) (0+0+(L'.flatMap enc).length)
 have o:oF O.get ov ms=true:=fO.2 fun e he=>by
  have:=(h3 e (List.mem_filter.1 he).1).2.2.2.2
  split
  · rename_i l k;exact absurd k (this l)
  · rfl
 have p:mM (L.flatMap enc) 0 (L'.flatMap enc)=some (L'.flatMap enc):=Q0 hlen.symm
 have u:oG O.get b (L.flatMap enc) ⟨false,some gr,0,n⟩ 0 (L'.flatMap enc)=some (nw ov ms++[(gr,some (.group (ms.filter fun e=>!(ov e)))),(b,some (.cells (L'.flatMap enc) ⟨false,some gr,0,n⟩))]):=by
  simp only[oG,cond_false,p,Option.bind_some,D]
  show(bif oF O.get ov ms then _ else none)=_
  rw[o];rfl
 refine⟨_,u,?_,?_⟩
 · rw[ve]
   have e0:∀c,c≠b->c≠gr->(jm [(gr,some (jT.group (ms.filter fun e=>!(ov e)))),(b,some (.cells (L'.flatMap enc) ⟨false,some gr,0,n⟩))] (jm (nw ov ms) O)).get c=(jm (nw ov ms) O).get c:=fun c c1 c2=>(Tr.gG _ _ c1).trans (Tr.gG _ _ c2)
   refine⟨Tr.ig ..,⟨ms.filter fun e=>!(ov e),(Tr.gG _ _ m.symm).trans (Tr.ig ..),fun e he=>?_⟩,h4,z,A,C⟩
   obtain⟨E,F,J,y,K⟩:=h3 e (List.mem_filter.1 he).1
   refine⟨by rw[hlen];exact E,F,J,y,fun l j=>?_⟩
   by_cases hb:e.ga=b
   · rw[hb]at j
     have:some (jT.group l)=some (jT.cells (L'.flatMap enc) (⟨false,some gr,0,n⟩:gm)):=j.symm.trans (Tr.ig ..)
     cases this
   · rw[e0 e.ga hb y]at j
     rcases DP (c:=e.ga) (ms.filter ov) O with q|q
     · have:=q.symm.trans j;cases this
     · exact K l (q.symm.trans j)
 · intro c hc
   rw[ve]
   refine(Tr.gG _ _ (by omega)).trans ((Tr.gG _ _ (by omega)).trans ?_)
   exact BB (ms.filter ov) O fun e he=>by have:=(h3 e (List.mem_filter.1 he).1).2.1;omega
theorem IK [Inhabited α](hk:∀x,(enc x).length=k)(L:List α):(flatK enc k L.toArray).toList=L.flatMap enc:=by
 have hl:=nF L fun x _=>hk x
 apply List.ext_getElem?
 intro t
 by_cases b:t<L.length*k
 · have k0:0<k:=by rcases Nat.eq_zero_or_pos k with h|h
                   · subst h;simp at b
                   · exact h
   have hi:t/k<L.length:=by rw[Nat.div_lt_iff_lt_mul k0];exact b
   have hx:L[t/k]?=some L[t/k]:=fq hi
   have hm:=Nat.mod_lt t k0
   have e1:(L.flatMap enc)[t]?=(enc L[t/k])[t%k]?:=by
    have:=KL (enc:=enc) (n:=k) (fun y _=>hk y) hx hm
    rwa[Nat.mul_comm,Nat.div_add_mod]at this
   have e2:(flatK enc k L.toArray)[t]! =(enc L[t/k])[t%k]!:=by
    rw[get_flatK _ _ _ t (by simpa using b)];simp[hi]
   have h1:t<(flatK enc k L.toArray).size:=by simpa using b
   rw[e1,Array.getElem?_toList,Array.getElem?_eq_getElem h1]
   have D:t%k<(enc L[t/k]).length:=by rw[hk];exact hm
   rw[List.getElem?_eq_getElem D]
   rw[getElem!_pos _ t h1,getElem!_pos _ (t%k) D]at e2
   rw[e2]
 · rw[List.getElem?_eq_none (by simp;omega),List.getElem?_eq_none (by rw[hl];omega)]
theorem Q1 [Inhabited α]{P:Program}{B0:Nat}{w0:World}{g:Gm}{w:World}{f:FuncId}{args:Array Value}{rb ro:Nat}{m:gm}{jJ:uq}(H:gx B0 w0 g O.get G w)(hb:O.get b=some (.cells (L.flatMap enc) m))(ae:m.ro=false)(E:g.ga b=some (rb,ro))
 (hk:∀x,(enc x).length=k) (ab:∀x,∀v∈enc x,∃i z,v=.int i z) (hu:oG O.get b (L.flatMap enc) m 0 (L'.flatMap enc)=some jJ) (F:L'.length=L.length)
 (J:HoldsK enc k w rb ro L.toArray->rb<w.heap.size->Calls P f args w fun e w'=>e=.returned (.tuple #[])/\∃q os,w'=sortWorldK enc k w rb ro q L'.toArray os) (fs:List Frame):
 qF P B0 w0 .normal g G f args w (.tuple #[]) (jm jJ O) G fs:=by
 obtain⟨ai,el,aj,a2,a3⟩:=H.vk hb E
 obtain⟨ao,ak,al,aq,_⟩:=a3
 have hl:=nF L fun x _=>hk x
 have K:=nF L' fun x _=>hk x
 have u:∀(M:List α),∀v∈M.flatMap enc,∃i z,v=.int i z:=fun M v y=>by
  obtain⟨x,_,hx⟩:=List.mem_flatMap.1 y
  exact ab x v hx
 have A:∀j v,(L.flatMap enc)[j]?=some v->w.cell? ⟨rb,ro+j,none⟩=some v:=fun j v y=>by
  have hj:=(fp.1 y).1
  have hr:ai[ro+j]?=some ai[ro+j]:=gA (by omega)
  have:=ak j v _ y hr
  obtain⟨i,z,rfl⟩:=u L v (fa y)
  simp only[World.cell?,a2,hr,this.lj];rfl
 have B:∀j,j<(L.flatMap enc).length->w.frozen? ⟨rb,ro+j,none⟩=false:=fun j hj=>by
  have:=(al ae).2.free (ro+j) (by omega)
  simp only[World.frozen?,a2]
  obtain⟨lo,hi⟩:=aj
  simp only at this⊢
  simp;omega
 have hH:HoldsK enc k w rb ro L.toArray:=fun j hj=>by
  have hs:j<(flatK enc k L.toArray).toList.length:=by simpa using hj
  have e:(flatK enc k L.toArray).toList[j]?=some (flatK enc k L.toArray)[j]!:=by
   rw[Array.getElem?_toList,Array.getElem?_eq_getElem hj,getElem!_pos _ j hj]
  rw[IK hk]at e hs
  exact⟨A j _ e,B j hs⟩
 have ad:rb<w.heap.size:=(H.rT b rb ro E).2
 obtain⟨e,w',fr,⟨rfl,q,os,rfl⟩,st,hf,h1,D,h3,h4⟩:=J hH ad fs
 have W:∀v∈L'.flatMap enc,one v=true:=fun v y=>by obtain⟨i,z,rfl⟩:=u L' v y;rfl
 have af:gZ g (L'.flatMap enc) (L'.flatMap enc):=⟨rfl,fun i v v' e1 e2=>by
  rw[e1]at e2;cases e2
  obtain⟨i,z,rfl⟩:=u L' v (fa e1)
  exact .int _ _⟩
 obtain⟨w1,r1,r2,an,ah⟩:=wz (P:=P) H hb E hu af W
 have e1:w1=w.setCells rb ro (L'.flatMap enc):=by
  have hr:=Go.run_storeCells_cells (P:=P) rb ro (L'.flatMap enc) 0 w (fun j hj=>by
   have X:j<(L.flatMap enc).length:=by rw[hl];rw[K,F]at hj;exact hj
   rw[Nat.add_zero,A j _ (List.getElem?_eq_getElem X)];rfl) (fun j hj=>by
   rw[Nat.add_zero];exact B j (by rw[hl];rw[K,F]at hj;exact hj)) (fun v y=>by obtain⟨i,z,rfl⟩:=u L' v y;rfl)
  have ag:(storeCells ⟨rb,ro,none⟩ (L'.flatMap enc)).run P w=.ok () w1:=r1
  rw[ag,Nat.add_zero]at hr
  cases hr;rfl
 have e2:sortWorldK enc k w rb ro q L'.toArray os=grow (w1.drewN q) os:=by
  unfold sortWorldK putRowK
  have:=Go.Lib.putRow_eq_setCells id w rb ro (flatK enc k L.toArray) (flatK enc k L'.toArray).toList q hH (by simp[F])
  rw[Array.toArray_toList]at this
  rw[this,List.map_id,IK hk,setCells_drewN,e1]
 rw[e2]at st h4
 have p:pY w1.heap.size w1 (grow (w1.drewN q) os):=⟨⟨rfl,rfl,rfl,by simp[grow,World.drewN],fun j hj=>by
  show(w1.heap++os)[j]?=_
  rw[Array.getElem?_append_left hj]⟩,gv _ _⟩
 have S:(jm jJ O).get=Hp.ur O.get jJ:=Hj 0 jJ O _ (IC jJ O)
 refine⟨.tuple #[],grow (w1.drewN q) os,g,?_,.tuple rfl (fun i v v' h _=>by simp at h),⟨yv.refl _ _,⟨ff (Nat.le_of_eq ah.symm) p.b.size,fun N jH aa=>?_⟩,pQ.refl _ _⟩,fr,st,h1,D,h3,hf,h4⟩
 · rw[S]
   exact r2.later p (Gm.le_refl g) (fg _) (fun _ _=>rfl) (fun c R C e=>⟨(r2.rT c R C e).1,fb (r2.rT c R C e).2 p.b.size⟩) r2.room
 · rw[p.b.block N (by rw[ah];exact jH)]
   exact an N jH fun c o C _ e=>aa c C e
end
theorem pY.grown{w w':World}(h:pY w.heap.size w w'):∃q os,w'=grow (w.drewN q) os:=by
 obtain⟨⟨h1,D,h3,h4,b⟩,e⟩:=h
 refine⟨w'.drawn-w.drawn,w'.heap.extract w.heap.size w'.heap.size,?_⟩
 obtain⟨e9,p,m,o,j⟩:=w'
 obtain⟨O,y,u,os,out⟩:=w
 simp only at h1 D h3 h4 b e
 subst h1 D h3
 simp only[grow,World.drewN,World.mk.injEq,true_and,and_true]
 refine⟨?_,by omega⟩
 apply Array.ext_getElem?
 intro i
 by_cases hi:i<O.size
 · rw[Array.getElem?_append_left hi];exact b i hi
 · rw[Array.getElem?_append_right (by omega),Array.getElem?_extract]
   split
   · congr 1;omega
   · rw[Array.getElem?_eq_none (by omega)]
open Classical in
def Wi(z:Value):KC:=fun v h G Z=>if v=z then .ok (0,⟨Tm.undef,[],h,G,Z⟩)else .gu 0
theorem Sn{P:Program}{ng:Nat}{e:Env}{w:World}(ok:mY P ng e)(nm:so P ng w.heap.size w e)(hs:ng<=w.heap.size){f:FuncId}{l:List Value}{args:Array Value}{z:Int}(hl:∀g,gZ g l args.toList)
 (h:WF e f l .nil ng (fun v _ _=>v=.int .i64 z)):Calls P f args w fun p w'=>p=.returned (.int .i64 z)/\pY w.heap.size w w':=by
 obtain⟨H,_⟩:=KQ (kq:=[]) hs rfl rfl (fun E u=>by cases u)
 obtain⟨v0,Es,mU,⟨b,h1⟩,rfl⟩:=h
 have hg:lv (AU ng) ng:=fun i hi=>by simp[AU,hi]
 intro fs
 have hx:explore (fun Z=>nC e (ev e b) f l .nil ng Z (Wi (.int .i64 z))) 1 []=true:=by
  simp only[explore,h1 b (Nat.le_refl _),Wi,if_pos]
 obtain⟨f',hf,rest,x,hr⟩:=me.Hu (zB ok nm (F9 ok nm b) H hg (hl _) fs (Wi (.int .i64 z))) hx
 rcases hf with hf|⟨v,e9,e_,hf,L⟩
 · obtain⟨m,hf⟩:=hf rest;rw[hr]at hf;cases hf
 · have y:v=.int .i64 z:=by
    have:=hf rest
    rw[hr]at this
    unfold Wi at this
    split at this
    · assumption
    · cases this
   subst y
   obtain⟨v',w',g',j,o,C,fr,s1,m1,d1,A,f1,fn,B,r1⟩:=L
   rw[o.lj]at r1
   exact⟨.returned (.int .i64 z),w',fr,⟨rfl,j.below⟩,s1,f1,m1,d1,A,fn,B,r1⟩
theorem Hy{α:Type}[Inhabited α]{enc:α->List Value}{k B rb ro m:Nat}{w:World}{dk:Array α}{os:Array Obj}(h:B<=rb)(b:B<=w.heap.size):Below B w (sortWorldK enc k w rb ro m dk os):=by
 refine⟨rfl,rfl,rfl,?_,fun j hj=>?_⟩
 · simp[sortWorldK,grow,putRowK,putRow,mapBlock,Sort.ahead]
 · show((putRowK enc k (Sort.ahead w m) rb ro dk).heap++os)[j]?=_
   have e:(putRowK enc k (Sort.ahead w m) rb ro dk).heap[j]?=w.heap[j]?:=by
    simp only[putRowK,putRow,mapBlock,Sort.ahead,Array.getElem?_modify]
    rw[if_neg (by omega)]
   have o:(putRowK enc k (Sort.ahead w m) rb ro dk).heap.size=w.heap.size:=by simp[putRowK,putRow,mapBlock,Sort.ahead]
   rw[Array.getElem?_append_left (by omega),e]
end
end Sw
namespace Sw
noncomputable section
open Go Go.RowKit Go.Sort Go.Proofs
def jr(x y:Int):Int:=if x<y then -1 else if y<x then 1 else 0
def vg(x y:Int):Int:=if x≠0 then x else y
def wX(a b:fQ):Int:=vg (jr a.hY b.hY) (jr a.gY b.gY)
def wY(l:List fQ):List fQ:=l.mergeSort fun x y=>!(decide (wX y x<0))
theorem IL(x y:fQ):ltOf wX x y=decide (x.hY<y.hY\/x.hY=y.hY/\x.gY<y.gY):=by
 unfold ltOf wX vg jr
 rw[decide_eq_decide]
 by_cases h1:x.hY<y.hY
 · rw[if_pos h1];simp[h1]
 · by_cases D:y.hY<x.hY
   · rw[if_neg h1,if_pos D];simp;omega
   · rw[if_neg h1,if_neg D]
     by_cases h3:x.gY<y.gY
     · simp[h3];omega
     · by_cases h4:y.gY<x.gY
       · simp[h3,h4];omega
       · simp[h3,h4];omega
theorem W2:SWO (ltOf wX) where
 irrefl x:=by rw[IL];simp
 trans x y z h1 D:=by rw[IL,decide_eq_true_eq]at*;omega
 ntrans x y z h1 D:=by rw[IL,decide_eq_false_iff_not]at*;omega
theorem W3(x y:fQ)(h1:ltOf wX x y=false)(D:ltOf wX y x=false):x=y:=by
 rw[IL,decide_eq_false_iff_not]at*
 obtain⟨a,b⟩:=x;obtain⟨c,d⟩:=y
 simp only at h1 D
 obtain rfl:a=c:=by omega
 obtain rfl:b=d:=by omega
 rfl
theorem DV(l:List fQ):(wY l).length=l.length:=List.length_mergeSort ..
def BJ(b:FuncId)(l:List Value)(O:Ht)(G:Nat)(t:Nat×Nat×List fQ):Prop:=
 0<t.2.2.length/\t.2.2.length<=1048576/\l=[.slice (some ⟨t.1,0,none⟩) t.2.2.length t.2.2.length,.func (.func b) #[] #[]]/\∃B,uh fj 2 B t.1 t.2.1 O G t.2.2
theorem BK:∀{L M:List fQ},L.flatMap fj=M.flatMap fj->L=M
 |[],[],_=>rfl
 |[],y::M,h=>by cases h
 |x::L,[],h=>by cases h
 |x::L,y::M,h=>by
  have h:Value.int .i64 x.hY::Value.int .i64 x.gY::L.flatMap fj=Value.int .i64 y.hY::Value.int .i64 y.gY::M.flatMap fj:=h
  simp only[List.cons.injEq,Value.int.injEq,true_and]at h
  have e:=BK h.2.2
  obtain⟨h1,D,_⟩:=h
  cases x;cases y
  simp only at h1 D
  rw[h1,D,e]
theorem BJ.one{m:FuncId}{l:List Value}{O:Ht}{G:Nat}{t u:Nat×Nat×List fQ}(h:BJ m l O G t)(k:BJ m l O G u):t=u:=by
 obtain⟨b,gr,L⟩:=t;obtain⟨b',o,L'⟩:=u
 obtain⟨_,_,h1,B,D,_⟩:=h;obtain⟨_,_,j,B',e,_⟩:=k
 simp only at h1 D j e
 rw[h1]at j
 simp only[List.cons.injEq,Value.slice.injEq,Option.some.injEq,Addr.mk.injEq]at j
 obtain rfl:b=b':=j.1.1.1
 rw[D]at e
 simp only[Option.some.injEq,jT.cells.injEq,gm.mk.injEq]at e
 obtain rfl:=BK e.1
 obtain rfl:gr=o:=e.2.2.1
 rfl
open Classical in
def AV(b:FuncId):Ju:=⟨fun l O G Z k e=>
 if l=[.slice none 0 0,.func (.func b) #[] #[]]then k (.tuple #[]) O G Z
 else if h:∃t,BJ b l O G t then
  (match oG O.get h.choose.1 (h.choose.2.2.flatMap fj) ⟨false,some h.choose.2.1,0,2⟩ 0 ((wY h.choose.2.2).flatMap fj)with
  |some jJ=>k (.tuple #[]) (jm jJ O) G Z
  |none=>.gu 0)
 else e⟩
theorem KR{b:FuncId}{O:Ht}{G:Nat}{Z:List Nat}{k:KC}{e:R}:(AV b).run [.slice none 0 0,.func (.func b) #[] #[]] O G Z k e=k (.tuple #[]) O G Z:=by
 simp only[AV,if_pos]
theorem Nf{b:FuncId}{l:List Value}{O:Ht}{G:Nat}{t:Nat×Nat×List fQ}(h:BJ b l O G t):∃jJ B,oG O.get t.1 (t.2.2.flatMap fj) ⟨false,some t.2.1,0,2⟩ 0 ((wY t.2.2).flatMap fj)=some jJ/\uh fj 2 B t.1 t.2.1 (jm jJ O) G (wY t.2.2)/\
 ∀Z k j,(AV b).run l O G Z k j=k (.tuple #[]) (jm jJ O) G Z:=by
 have m:=h
 obtain⟨h0,hle,hl,B,o⟩:=m
 have hf:((wY t.2.2).flatMap fj).length=(t.2.2.flatMap fj).length:=by
  rw[nF (n:=2) _ fun _ _=>rfl,nF (n:=2) t.2.2 fun _ _=>rfl,DV]
 obtain⟨jJ,h1,D,h3⟩:=o.put hf
 refine⟨jJ,B,h1,D,fun Z k j=>?_⟩
 have hx:∃t,BJ b l O G t:=⟨t,h⟩
 have jI:l≠[.slice none 0 0,.func (.func b) #[] #[]]:=fun e=>by rw[hl]at e;simp at e
 have hc:hx.choose=t:=hx.choose_spec.one h
 simp only[AV,if_neg jI,dif_pos hx,hc,h1]
theorem UE{P:Program}{ng:Nat}{IE:Nat->World->Prop}(aq:LS IE)(ah:∀B0 w0,IE B0 w0->ng<=B0){e e1:Env}(ok:mY P ng e)(nm:∀B0 w0,IE B0 w0->so P ng B0 w0 e)(UF:∀B0 w0,IE B0 w0->so P ng B0 w0 e1){A j:FuncId}{fn:Func}{c:Code}(af:P.funcs[A]?=some fn)(hb:fn.body=some c)(hn:(fn.name== "runtime.NumGoroutine")=false)
 (ab:∀a b:fQ,WF e j [.agg (fj a).toArray,.agg (fj b).toArray] .nil ng (fun v _ _=>v=.int .i64 (wX a b)))
 (R:∀(ga off cap:Nat) (d:Array fQ) (w:World),CmpLays P j #[] fj 2 wX ga off d.size w->HoldsK fj 2 w ga off d->ga<w.heap.size->d.size<4611686018427387904->Calls P A #[.slice (some ⟨ga,off,none⟩) d.size cap,.func (.func j) #[] #[]] w fun J w'=>J=.returned (.tuple #[])/\∃n os,w'=sortWorldK fj 2 w ga off n (wY d.toList).toArray os)
 (N:∀(p:Option Addr) (cap:Nat) (w:World),Calls P A #[.slice p 0 cap,.func (.func j) #[] #[]] w fun J w'=>J=.returned (.tuple #[])/\w'=w):
 ∀B0 w0,IE B0 w0->so P ng B0 w0 {e1 with K:=fun x=>bif Nat.beq x A then some (AV j)else e1.K x}:=by
 intro B0 w0 hi x ak h
 have h:(bif Nat.beq x A then some (AV j)else e1.K x)=some ak:=h
 cases ad:Nat.beq x A with
 |false=>rw[ad]at h;exact UF B0 w0 hi x ak h
 |true=>
  rw[ad]at h;cases h
  obtain rfl:=fC ad
  refine⟨⟨fn,c,af,hb,hn⟩,fun l args O G g w H hg hl=>?_⟩
  have E:∀v,fP g (.func (.func j) #[] #[]) v->v=.func (.func j) #[] #[]:=fun v S=>by
   obtain⟨x',y',rfl,hx,hy⟩:=S.G0
   have h1:x'.size=0:=hx.1.symm
   have D:y'.size=0:=hy.1.symm
   rw[Array.eq_empty_of_size_eq_zero h1,Array.eq_empty_of_size_eq_zero D]
  by_cases F:l=[.slice none 0 0,.func (.func j) #[] #[]]
  · subst F
    refine .inr ⟨fun Z k=>k (.tuple #[]) O G Z,fun Z k an=>KR,fun fs k=>.here (.inr ⟨_,O,G,fun Z=>rfl,?_⟩)⟩
    have o:args=#[.slice none 0 0,.func (.func j) #[] #[]]:=by
     obtain⟨args⟩:=args
     match args,hl with
     |[x,y],hl=>
      have h1:=hl.head
      have D:=E _ hl.tail.head
      cases h1
      rw[D]
     |[],hl=>cases hl.1
     |[_],hl=>cases hl.1
     |_::_::_::_,hl=>cases hl.1
    subst o
    exact qF.Nc H (.tuple rfl (fun i v v' h _=>by simp at h)) (N none 0 w) fs
  · by_cases hx:∃t,BJ j l O G t
    · obtain⟨⟨b,gr,L⟩,aj⟩:=hx
      obtain⟨jJ,B,h1,D,h3⟩:=Nf aj
      refine .inr ⟨fun Z k=>k (.tuple #[]) (jm jJ O) G Z,h3,fun fs k=>.here (.inr ⟨_,jm jJ O,G,fun Z=>rfl,?_⟩)⟩
      obtain⟨h0,hle,W,B',aa,_⟩:=aj
      simp only at h0 hle W aa h1
      obtain⟨rb,ro,c2,u,o⟩:∃rb ro c2,g.ga b=some (rb,ro)/\args=#[.slice (some ⟨rb,ro,none⟩) L.length c2,.func (.func j) #[] #[]]:=by
       obtain⟨args⟩:=args
       rw[W]at hl
       match args,hl with
       |[x,y],hl=>
        have ar:=hl.head
        have au:=E _ hl.tail.head
        rcases ar.nk with⟨_,h,_⟩|⟨_,rb,ro,c2,u,_,_,rfl⟩
        · omega
        · exact⟨rb,ro+0,c2,by simpa using u,by rw[au]⟩
       |[],hl=>cases hl.1
       |[_],hl=>cases hl.1
       |_::_::_::_,hl=>cases hl.1
      subst o
      have ao:B0<=rb:=by
       obtain⟨ay,el,ax,_,a3⟩:=H.vk aa u
       exact(a3.2.2.1 rfl).1
      refine Q1 (k:=2) H aa rfl u (fun _=>rfl) (fun x v S=>?_) h1 (DV L) (fun hH ai=>?_) fs
      · simp only[fj,List.mem_cons,List.not_mem_nil,or_false]at S
        rcases S with rfl|rfl<;>exact⟨_,_,rfl⟩
      · have ae:CmpLays P j #[] fj 2 wX rb ro L.toArray.size w:=fun m os dk hs x y=>by
         have C:=Hy (enc:=fj) (k:=2) (ro:=ro) (m:=m) (w:=w) (dk:=dk) (os:=os) ao H.base
         have M:=H.below.b.trans C
         have X:B0<=(sortWorldK fj 2 w rb ro m dk os).heap.size:=ff H.base C.size
         have ag:=aq _ _ _ hi M X
         refine(Sn ok (nm _ _ ag) (ff (ah _ _ hi) X) (fun g'=>?_) (ab x y)).mono fun J w' ⟨av,aw⟩=>⟨av,?_⟩
         · have:∀(z:fQ),fP g' (.agg (fj z).toArray) (.agg (fj z).toArray):=fun z=>.agg rfl fun i v v' e1 e2=>by
            rw[e1]at e2;cases e2
            have:v∈fj z:=by
             have:=fa (by simpa using e1:(fj z)[i]?=some v)
             exact this
            simp only[fj,List.mem_cons,List.not_mem_nil,or_false]at this
            rcases this with rfl|rfl<;>exact .int _ _
           exact .cons (this x) (.cons (this y) (.nil g'))
         · obtain⟨q,al,e⟩:=aw.grown;exact⟨q,al,e⟩
        have:=R rb ro c2 L.toArray w ae hH ai (by simp;omega)
        simpa using this
    · refine .inl fun Z k an=>?_
      simp only[AV,if_neg F,dif_neg hx]
theorem UG{e:Env}{m j:FuncId}(hK:e.K m=some (AV j)):(∀(O:Ht) (G:Nat),WF e m [.slice none 0 0,.func (.func j) #[] #[]] O G (fun _ e9 e_=>e9=O/\e_=G))/\
 ∀(L:List fQ) (B b gr:Nat) (O:Ht) (G:Nat),0<L.length->L.length<=1048576->uh fj 2 B b gr O G L->
  WF e m [.slice (some ⟨b,0,none⟩) L.length L.length,.func (.func j) #[] #[]] O G (fun _ e9 e_=>e_=G/\uh fj 2 B b gr e9 e_ (wY L)/\HE B O e9):=by
 refine⟨fun O G=>⟨.tuple #[],O,G,⟨0,fun n _ Z k=>by simp only[nC,hK,KR]⟩,rfl,rfl⟩,fun L B b gr O G h0 h1 u=>?_⟩
 have hf:((wY L).flatMap fj).length=(L.flatMap fj).length:=by
  rw[nF (n:=2) _ fun _ _=>rfl,nF (n:=2) L fun _ _=>rfl,DV]
 obtain⟨p,y,z,A⟩:=u.put hf
 obtain⟨jJ,B',o,C,q3⟩:=Nf (t:=(b,gr,L)) (l:=[.slice (some ⟨b,0,none⟩) L.length L.length,.func (.func j) #[] #[]]) ⟨h0,h1,rfl,B,u⟩
 simp only at o
 rw[y]at o;cases o
 exact⟨.tuple #[],jm p O,G,⟨0,fun n _ Z k=>by simp only[nC,hK,q3]⟩,rfl,z,A⟩
end
end Sw
namespace Sw
noncomputable section
open Go Go.Proofs
set_option maxRecDepth 100000
def vZ:Nat:=3432398833261926548059325121659943655445719355186424717539942833894239745419972846676924357163830564727948376841678244249299434900034311604573780907890049020
def C_:Nat:=80263304161809898486953579388078034568237128595945516524082266737298690685422130215834080447112521417906699709766435401090917971775143371431983551958086515406814478726292768798943705397605801939099438809086
def IN:Nat:=21088658411921233044424399799907083185156873390445127312030067785523249781808954377461202160289293084709116170556716965366003240955627871186473673143233051361280
def KS:Ty:=⟨fun t=>bif has C_ t then TT.get t else none,fun t=>has IN t⟩
def Yo:FuncId->Option Func:=fun f=>bif has vZ f then FT.get f else none
def Gb:Ju:=⟨fun l O G Z k _=>match l with
 |[.string a,.string b]=>bif Nat.blt (strs a).length 4294967281 then k (.bool (Lib.contains (strs a) (strs b))) O G Z else .gu 0
 |_=>.gu 0⟩
def Wj:TypeId->String->Option FuncId:=fun t n=>bif Nat.beq t 469&&(n== "stopwatch/typing.parts")then some 418 else bif Nat.beq t 553&&(n== "stopwatch/typing.parts")then some 417 else(none:Option FuncId)
def e0:Env:=⟨KS,fun f=>(Yo f).bind LU,Wj,fun f=>bif Nat.beq f 348 then some Gb else none,0⟩
def zG:List TB:=[⟨0,[(.int .i64 1),(.int .i64 9999)],false,0⟩,⟨1,[(.int .i64 (-1099511627776)),(.int .i64 1099511627776)],false,0⟩,⟨2,[(.int .i64 0),(.int .i64 1048576)],false,0⟩,⟨3,[(.int .i64 0),(.int .i64 39)],false,0⟩,⟨4,[(.int .i64 0),(.int .i64 255)],false,0⟩,⟨5,[(.int .i64 0),(.int .i64 1099511627776)],false,0⟩,⟨6,[(.int .i64 0),(.int .i64 255)],false,0⟩,⟨7,[(.int .i64 1),(.int .i64 1048576)],false,0⟩,⟨8,[(.int .i64 0),(.int .i64 1)],false,0⟩,⟨9,[(.int .i64 0),(.int .i64 31)],false,0⟩,⟨10,[(.int .i64 1),(.int .i64 1048576)],false,0⟩]
def AW:w7:=⟨[],
 [],
 12,(.agg ⟨[(.int .u8 0),(.int .u8 0),(.int .u8 0),(.int .u8 0),(.int .u8 0),(.int .u8 0),(.int .u8 0),(.int .u8 0),(.int .u8 0),(.int .u8 1),(.int .u8 1),(.int .u8 0),(.int .u8 0),(.int .u8 1),(.int .u8 0),(.int .u8 0),(.int .u8 0),(.int .u8 0),(.int .u8 0),(.int .u8 0),(.int .u8 0),(.int .u8 0),(.int .u8 0),(.int .u8 0),(.int .u8 0),(.int .u8 0),(.int .u8 0),(.int .u8 0),(.int .u8 0),(.int .u8 0),(.int .u8 0),(.int .u8 0),(.int .u8 1),(.int .u8 0),(.int .u8 0),(.int .u8 0),(.int .u8 0),(.int .u8 0),(.int .u8 0),(.int .u8 0),(.int .u8 4),(.int .u8 4),(.int .u8 0),(.int .u8 0),(.int .u8 4),(.int .u8 0),(.int .u8 0),(.int .u8 0),(.int .u8 3),(.int .u8 3),(.int .u8 3),(.int .u8 3),(.int .u8 3),(.int .u8 3),(.int .u8 3),(.int .u8 3),(.int .u8 3),(.int .u8 3),(.int .u8 0),(.int .u8 4),(.int .u8 4),(.int .u8 4),(.int .u8 4),(.int .u8 0),(.int .u8 0),(.int .u8 2),(.int .u8 2),(.int .u8 2),(.int .u8 2),(.int .u8 2),(.int .u8 2),(.int .u8 2),(.int .u8 2),(.int .u8 2),(.int .u8 2),(.int .u8 2),(.int .u8 2),(.int .u8 2),(.int .u8 2),(.int .u8 2),(.int .u8 2),(.int .u8 2),(.int .u8 2),(.int .u8 2),(.int .u8 2),(.int .u8 2),(.int .u8 2),(.int .u8 2),(.int .u8 2),(.int .u8 2),(.int .u8 2),(.int .u8 4),(.int .u8 0),(.int .u8 4),(.int .u8 0),(.int .u8 0),(.int .u8 0),(.int .u8 2),(.int .u8 2),(.int .u8 2),(.int .u8 2),(.int .u8 2),(.int .u8 2),(.int .u8 2),(.int .u8 2),(.int .u8 2),(.int .u8 2),(.int .u8 2),(.int .u8 2),(.int .u8 2),(.int .u8 2),(.int .u8 2),(.int .u8 2),(.int .u8 2),(.int .u8 2),(.int .u8 2),(.int .u8 2),(.int .u8 2),(.int .u8 2),(.int .u8 2),(.int .u8 2),(.int .u8 2),(.int .u8 2),(.int .u8 4),(.int .u8 0),(.int .u8 4),(.int .u8 0),(.int .u8 0),(.int .u8 0),(.int .u8 0),(.int .u8 0),(.int .u8 0),(.int .u8 0),(.int .u8 0),(.int .u8 0),(.int .u8 0),(.int .u8 0),(.int .u8 0),(.int .u8 0),(.int .u8 0),(.int .u8 0),(.int .u8 0),(.int .u8 0),(.int .u8 0),(.int .u8 0),(.int .u8 0),(.int .u8 0),(.int .u8 0),(.int .u8 0),(.int .u8 0),(.int .u8 0),(.int .u8 0),(.int .u8 0),(.int .u8 0),(.int .u8 0),(.int .u8 0),(.int .u8 0),(.int .u8 0),(.int .u8 0),(.int .u8 0),(.int .u8 0),(.int .u8 0),(.int .u8 0),(.int .u8 0),(.int .u8 0),(.int .u8 0),(.int .u8 0),(.int .u8 0),(.int .u8 0),(.int .u8 0),(.int .u8 0),(.int .u8 0),(.int .u8 0),(.int .u8 0),(.int .u8 0),(.int .u8 0),(.int .u8 0),(.int .u8 0),(.int .u8 0),(.int .u8 0),(.int .u8 0),(.int .u8 0),(.int .u8 0),(.int .u8 0),(.int .u8 0),(.int .u8 0),(.int .u8 0),(.int .u8 0),(.int .u8 0),(.int .u8 0),(.int .u8 0),(.int .u8 0),(.int .u8 0),(.int .u8 0),(.int .u8 0),(.int .u8 0),(.int .u8 0),(.int .u8 0),(.int .u8 0),(.int .u8 0),(.int .u8 0),(.int .u8 0),(.int .u8 0),(.int .u8 0),(.int .u8 0),(.int .u8 0),(.int .u8 0),(.int .u8 0),(.int .u8 0),(.int .u8 0),(.int .u8 0),(.int .u8 0),(.int .u8 0),(.int .u8 0),(.int .u8 0),(.int .u8 0),(.int .u8 0),(.int .u8 0),(.int .u8 0),(.int .u8 0),(.int .u8 0),(.int .u8 0),(.int .u8 0),(.int .u8 0),(.int .u8 0),(.int .u8 0),(.int .u8 0),(.int .u8 0),(.int .u8 0),(.int .u8 0),(.int .u8 0),(.int .u8 0),(.int .u8 0),(.int .u8 0),(.int .u8 0),(.int .u8 0),(.int .u8 0),(.int .u8 0),(.int .u8 0),(.int .u8 0),(.int .u8 0),(.int .u8 0),(.int .u8 0),(.int .u8 0),(.int .u8 0),(.int .u8 0),(.int .u8 0),(.int .u8 0),(.int .u8 0),(.int .u8 0),(.int .u8 0),(.int .u8 0),(.int .u8 0),(.int .u8 0),(.int .u8 0),(.int .u8 0)]⟩),[],0⟩
def e1:Env:={e0 with K:=fun f=>bif Nat.beq f 415 then some (yB 12 [AW])else e0.K f}
def KT:w7:=⟨[(.agg ⟨[(.string ⟨⟨[99]⟩⟩),(.slice (some ⟨12,0,none⟩) 2 2),(.slice (some ⟨13,0,none⟩) 1 1),(.slice (some ⟨14,0,none⟩) 1 1),(.slice (some ⟨15,0,none⟩) 1 1),(.slice none 0 0),(.slice none 0 0),(.slice none 0 0),(.slice (some ⟨16,0,none⟩) 1 1),(.int .i64 0),(.int .i64 0),(.int .i64 0),(.int .i64 0),(.int .i64 0),(.int .i64 0),(.int .i64 0)]⟩)],
 zG++[⟨12,[(.string ⟨⟨[115]⟩⟩),(.int .i64 1),(.string ⟨⟨[101]⟩⟩),(.int .i64 3)],false,0⟩,⟨13,[(.int .i64 0),(.int .i64 1),(.int .i64 10),(.int .i64 1000)],false,0⟩,⟨14,[(.string ⟨⟨[100]⟩⟩),(.slice (some ⟨17,0,none⟩) 2 2),(.int .i64 1),(.slice none 0 0),(.int .i64 (-1))],false,0⟩,⟨15,[(.string ⟨⟨[119]⟩⟩),(.int .i64 0)],false,0⟩,⟨16,[(.int .i64 1),(.int .i64 4),(.int .i64 0),(.int .i64 0),(.int .i64 0),(.slice none 0 0),(.slice none 0 0),(.slice none 0 0)],false,0⟩,⟨17,[(.int .i64 0),(.int .i64 0),(.slice none 0 0),(.int .i64 1),(.int .i64 0),(.slice none 0 0)],false,0⟩],
 18,(.int .i64 0),[],0⟩
def e2:Env:={e1 with K:=fun f=>bif Nat.beq f 52 then some (yB 12 [KT])else e1.K f}
def GQ:w7:=⟨[(.agg ⟨[(.string ⟨⟨[99]⟩⟩),(.slice (some ⟨12,0,none⟩) 2 2),(.slice (some ⟨13,0,none⟩) 1 1),(.slice (some ⟨14,0,none⟩) 1 1),(.slice (some ⟨15,0,none⟩) 1 1),(.slice none 0 0),(.slice none 0 0),(.slice none 0 0),(.slice (some ⟨16,0,none⟩) 1 1),(.int .i64 0),(.int .i64 0),(.int .i64 0),(.int .i64 0),(.int .i64 0),(.int .i64 0),(.int .i64 0)]⟩),(.slice (some ⟨17,0,none⟩) 5 5)],
 zG++[⟨12,[(.string ⟨⟨[115]⟩⟩),(.int .i64 1),(.string ⟨⟨[101]⟩⟩),(.int .i64 3)],false,0⟩,⟨13,[(.int .i64 0),(.int .i64 1),(.int .i64 10),(.int .i64 1000)],false,0⟩,⟨14,[(.string ⟨⟨[100]⟩⟩),(.slice (some ⟨18,0,none⟩) 2 2),(.int .i64 1),(.slice none 0 0),(.int .i64 (-1))],false,0⟩,⟨15,[(.string ⟨⟨[119]⟩⟩),(.int .i64 0)],false,0⟩,⟨16,[(.int .i64 1),(.int .i64 4),(.int .i64 0),(.int .i64 0),(.int .i64 0),(.slice none 0 0),(.slice none 0 0),(.slice none 0 0)],false,0⟩,⟨17,[(.int .i64 0),(.int .i64 1),(.int .i64 0),(.int .i64 1),(.int .i64 1),(.int .i64 0),(.int .i64 0),(.int .i64 0),(.int .i64 0),(.int .i64 1),(.int .i64 0),(.int .i64 0),(.int .i64 0),(.int .i64 0),(.int .i64 0),(.int .i64 0),(.int .i64 0),(.int .i64 0),(.int .i64 0),(.int .i64 0),(.int .i64 0),(.int .i64 0),(.int .i64 0),(.int .i64 0),(.int .i64 0),(.int .i64 0),(.int .i64 0),(.int .i64 0),(.int .i64 0),(.int .i64 0),(.int .i64 0),(.int .i64 0),(.int .i64 0),(.int .i64 0),(.int .i64 0),(.int .i64 0),(.int .i64 0),(.int .i64 0),(.int .i64 0),(.int .i64 0),(.int .i64 0),(.int .i64 0),(.int .i64 0),(.int .i64 0),(.int .i64 0),(.int .i64 0),(.int .i64 0),(.int .i64 0),(.int .i64 0),(.int .i64 0),(.int .i64 0),(.int .i64 0),(.int .i64 0),(.int .i64 0),(.bool false),(.int .i64 0),(.int .i64 0),(.int .i64 0),(.int .i64 2),(.int .i64 0),(.int .i64 1),(.int .i64 2),(.int .i64 0),(.int .i64 0),(.int .i64 0),(.int .i64 0),(.int .i64 2),(.int .i64 0),(.int .i64 0),(.int .i64 0),(.int .i64 0),(.int .i64 0),(.int .i64 0),(.int .i64 0),(.int .i64 0),(.int .i64 0),(.int .i64 0),(.int .i64 0),(.int .i64 0),(.int .i64 0),(.int .i64 0),(.int .i64 0),(.int .i64 0),(.int .i64 0),(.int .i64 0),(.int .i64 0),(.int .i64 0),(.int .i64 0),(.int .i64 0),(.int .i64 0),(.int .i64 0),(.int .i64 0),(.int .i64 0),(.int .i64 0),(.int .i64 0),(.int .i64 0),(.int .i64 0),(.int .i64 0),(.int .i64 0),(.int .i64 0),(.int .i64 0),(.int .i64 0),(.int .i64 0),(.int .i64 0),(.int .i64 0),(.int .i64 0),(.int .i64 0),(.int .i64 0),(.int .i64 0),(.int .i64 0),(.int .i64 0),(.bool false),(.int .i64 0),(.int .i64 0),(.int .i64 0),(.int .i64 3),(.int .i64 0),(.int .i64 5),(.int .i64 0),(.int .i64 0),(.int .i64 0),(.int .i64 0),(.int .i64 0),(.int .i64 0),(.int .i64 0),(.int .i64 0),(.int .i64 0),(.int .i64 0),(.int .i64 0),(.int .i64 0),(.int .i64 0),(.int .i64 0),(.int .i64 0),(.int .i64 0),(.int .i64 0),(.int .i64 0),(.int .i64 0),(.int .i64 0),(.int .i64 0),(.int .i64 0),(.int .i64 0),(.int .i64 0),(.int .i64 0),(.int .i64 1),(.int .i64 0),(.int .i64 0),(.int .i64 0),(.int .i64 0),(.int .i64 0),(.int .i64 0),(.int .i64 0),(.int .i64 0),(.int .i64 0),(.int .i64 0),(.int .i64 0),(.int .i64 0),(.int .i64 0),(.int .i64 0),(.int .i64 0),(.int .i64 0),(.int .i64 0),(.int .i64 0),(.int .i64 0),(.int .i64 0),(.int .i64 0),(.int .i64 0),(.int .i64 0),(.int .i64 0),(.bool false),(.int .i64 0),(.int .i64 0),(.int .i64 0),(.int .i64 4),(.int .i64 0),(.int .i64 5),(.int .i64 0),(.int .i64 0),(.int .i64 0),(.int .i64 0),(.int .i64 0),(.int .i64 0),(.int .i64 0),(.int .i64 0),(.int .i64 0),(.int .i64 0),(.int .i64 0),(.int .i64 0),(.int .i64 0),(.int .i64 0),(.int .i64 0),(.int .i64 0),(.int .i64 0),(.int .i64 0),(.int .i64 0),(.int .i64 0),(.int .i64 0),(.int .i64 0),(.int .i64 0),(.int .i64 0),(.int .i64 0),(.int .i64 1),(.int .i64 1),(.int .i64 100),(.int .i64 101),(.int .i64 0),(.int .i64 0),(.int .i64 0),(.int .i64 0),(.int .i64 0),(.int .i64 0),(.int .i64 0),(.int .i64 0),(.int .i64 0),(.int .i64 0),(.int .i64 0),(.int .i64 0),(.int .i64 0),(.int .i64 0),(.int .i64 0),(.int .i64 0),(.int .i64 0),(.int .i64 0),(.int .i64 0),(.int .i64 0),(.int .i64 0),(.bool false),(.int .i64 0),(.int .i64 0),(.int .i64 0),(.int .i64 5),(.int .i64 0),(.int .i64 5),(.int .i64 0),(.int .i64 0),(.int .i64 0),(.int .i64 0),(.int .i64 0),(.int .i64 0),(.int .i64 0),(.int .i64 0),(.int .i64 0),(.int .i64 0),(.int .i64 0),(.int .i64 0),(.int .i64 0),(.int .i64 0),(.int .i64 0),(.int .i64 0),(.int .i64 0),(.int .i64 0),(.int .i64 0),(.int .i64 0),(.int .i64 0),(.int .i64 0),(.int .i64 0),(.int .i64 0),(.int .i64 0),(.int .i64 2),(.int .i64 0),(.int .i64 100),(.int .i64 103),(.int .i64 0),(.int .i64 0),(.int .i64 0),(.int .i64 0),(.int .i64 0),(.int .i64 0),(.int .i64 0),(.int .i64 0),(.int .i64 0),(.int .i64 0),(.int .i64 0),(.int .i64 0),(.int .i64 0),(.int .i64 0),(.int .i64 0),(.int .i64 0),(.int .i64 0),(.int .i64 0),(.int .i64 0),(.int .i64 0),(.int .i64 0),(.bool false),(.int .i64 0),(.int .i64 0)],false,0⟩,⟨18,[(.int .i64 0),(.int .i64 0),(.slice none 0 0),(.int .i64 1),(.int .i64 0),(.slice none 0 0)],false,0⟩],
 19,(.tuple ⟨[(.slice (some ⟨0,0,none⟩) 2 2),(.int .i64 0)]⟩),[⟨0,[(.int .i64 1),(.int .i64 0),(.int .i64 0),(.int .i64 0),(.int .i64 0),(.int .i64 1),(.int .i64 0),(.int .i64 0),(.int .i64 2),(.int .i64 0),(.int .i64 0),(.int .i64 0),(.int .i64 0),(.int .i64 2),(.int .i64 0),(.int .i64 0)],true,8⟩],2⟩
def e3:Env:={e2 with K:=fun f=>bif Nat.beq f 44 then some (yB 12 [GQ])else e2.K f}
def Sq:w7:=⟨[],zG,12,(.bool true),[],0⟩
def eS:Env:={e3 with K:=fun f=>bif Nat.beq f 5 then some (yB 12 [Sq])else e3.K f}
def eT:Env:={eS with K:=fun f=>bif Nat.beq f 209 then some (AV 117)else eS.K f}
def ex:Env:={eT with K:=fun f=>bif Nat.beq f 52||Nat.beq f 44 then none else eT.K f}
end
end Sw
