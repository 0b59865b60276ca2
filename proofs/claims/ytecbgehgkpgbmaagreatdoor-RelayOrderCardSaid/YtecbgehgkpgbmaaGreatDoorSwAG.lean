/- A part of the proof that the law returns true for every input that its row speaks of. No condition is added. -/
import Derived.Test.YtecbgehgkpgbmaaGreatDoorSwAF
import Derived.Test.YtecbgehgkpgbmaaGreatDoorSwAE
import Derived.Test.YtecbgehgkpgbmaaGreatDoorProg
import Derived.KernelRfl
import Derived.Deep.Slices
import Derived.OpenShut
import Derived.SizedLaws
import Derived.ProofKit
import Derived.Carry
import Derived.ChangeSlices
import Derived.LaidLaws
import Derived.Handed
import Derived.Shelf.SlSortCmp.NoneTotal
import Derived.Lib.RowBridge
import Derived.Lib.IndexMore
namespace Sw
noncomputable section
open Go Go.RowKit
theorem kr{p:Prop}(h:p:=by kernel_rfl):p:=h
theorem kf{p:Prop}(h:p:=by intros;kernel_rfl):p:=h
theorem om{p:Prop}(h:p:=by omega):p:=h
theorem od{p:Prop}(h:p:=by first|omega|(dsimp only;omega)):p:=h
theorem nR{n:Nat}:n<=n:=Nat.le_refl n
theorem gE{α:Type}{l:List α}{i:Nat}(h:i<l.length):∃x,l[i]?=some x:=⟨_,List.getElem?_eq_getElem h⟩
abbrev pt(b o:Nat):Value:=.pointer (some ⟨b,o,none⟩)
abbrev iN(z:Int):Value:=.int .i64 z
section
variable {e:Env}{fm:Fm}{s:St}{to:Tm}{ds:List Deferred}{hp:Ht}{nx:Nat}{gW:List Nat}{Q:St->Prop}{W:Nat->St->Prop}{all os:List Oper}{o:Oper}{j:Nat}{d:Tmp}{op:Op}{ty t0:TypeId}{pos:String}{j1:Array Edge}{P:Prop}
theorem wr(h:W 1 s):WO e fm (gY all []) s fun s1=>WP e fm .ret s1 W:=.nil (.ret h)
theorem oN(n:Nat)(q:Q ⟨runT e fm ds hp nx (gY all (AX n os)) to,ds,hp,nx,gW⟩)
 (h:∀rec cs k,runK e rec fm k (gY all (AX n os)) ⟨to,ds,hp,nx,cs⟩=k ⟨runT e fm ds hp nx (gY all (AX n os)) to,ds,hp,nx,cs⟩:=by intros;kernel_rfl) (hd:Mx n os=[]:=by rfl):WO e fm (gY all os) ⟨to,ds,hp,nx,gW⟩ Q:=
 oX n (by rw[hd];exact .nil q) h
theorem oW(n:Nat)(q:W 1 ⟨runT e fm ds hp nx (gY all (AX n os)) to,ds,hp,nx,gW⟩)
 (h:∀rec cs k,runK e rec fm k (gY all (AX n os)) ⟨to,ds,hp,nx,cs⟩=k ⟨runT e fm ds hp nx (gY all (AX n os)) to,ds,hp,nx,cs⟩:=by intros;kernel_rfl) (hd:Mx n os=[]:=by rfl):WO e fm (gY all os) ⟨to,ds,hp,nx,gW⟩ fun s1=>WP e fm .ret s1 W:=
 oN n (.ret q) h hd
theorem oq{b:Bool}(x:Nat)(X:∃c:Bool,c=b/\(c=true↔P))(q:∀c:Bool,(c=true↔P)->WO e fm (gY all os) ⟨to.set x (.bool c),ds,hp,nx,gW⟩ Q)(h:∀rec cs k,(iH all o).run e rec fm to ds hp nx cs k=k ⟨to.set x (.bool b),ds,hp,nx,cs⟩:=by intros;kernel_rfl):WO e fm (gY all (o::os)) ⟨to,ds,hp,nx,gW⟩ Q:=by
 obtain⟨c,h0,p⟩:=X;exact ob x h0 (q c p) h
theorem mX{b:Bool}(t:Tmp)(c:Bool)(X:∃a:Bool,a=b/\(a=true↔P))(q:∀a:Bool,(a=true↔P)->WO e fm (gY all os) ⟨to.set d (bif !c then .bool a else undef),ds,hp,nx,gW⟩ Q)
 (h1:c=false->∀rec cs k,(iH all ⟨some d,op,ty,pos,j1,none⟩).run e rec fm to ds hp nx cs k=k ⟨to.set d (.bool b),ds,hp,nx,cs⟩:=by intro h;subst h;intros;kernel_rfl)
 (hg:kn all j=some (aaj (.tmp t)):=by rfl) (hx:(aaj (.tmp t)).run to=.bool c:=by kernel_rfl):WO e fm (gY all (⟨some d,op,ty,pos,j1,some (j,false)⟩::os)) ⟨to,ds,hp,nx,gW⟩ Q:=by
 obtain⟨a,h0,p⟩:=X;exact ZZ t c h0 (q a p) h1 hg hx
theorem qw{b:Bool}(t:Tmp)(c:Bool)(X:∃a:Bool,a=b/\(a=true↔P))(q:∀a:Bool,(a=true↔P)->WO e fm (gY all os) ⟨to.set d (bif c then .bool a else undef),ds,hp,nx,gW⟩ Q)
 (h1:c=true->∀rec cs k,(iH all ⟨some d,op,ty,pos,j1,none⟩).run e rec fm to ds hp nx cs k=k ⟨to.set d (.bool b),ds,hp,nx,cs⟩:=by intro h;subst h;intros;kernel_rfl)
 (hg:kn all j=some (aaj (.tmp t)):=by rfl) (hx:(aaj (.tmp t)).run to=.bool c:=by kernel_rfl):WO e fm (gY all (⟨some d,op,ty,pos,j1,some (j,true)⟩::os)) ⟨to,ds,hp,nx,gW⟩ Q:=by
 obtain⟨a,h0,p⟩:=X;exact Ru t c h0 (q a p) h1 hg hx
theorem mj{c y:Bool}(x:Nat)(X:∃a:Bool,a=(c||y)/\(a=true↔P))(q:∀a:Bool,(a=true↔P)->WO e fm (gY all os) ⟨to.set x (.bool a),ds,hp,nx,gW⟩ Q)
 (h:∀rec cs k,(iH all o).run e rec fm to ds hp nx cs k=kF (lA (.bool c) (.bool true) (bif !c then .bool y else undef)) (fun v=>k ⟨to.set x v,ds,hp,nx,cs⟩):=by intros;kernel_rfl):WO e fm (gY all (o::os)) ⟨to,ds,hp,nx,gW⟩ Q:=by
 obtain⟨a,h0,p⟩:=X;exact pO x h0 (q a p) h
theorem mI{c y:Bool}(x:Nat)(X:∃a:Bool,a=(c&&y)/\(a=true↔P))(q:∀a:Bool,(a=true↔P)->WO e fm (gY all os) ⟨to.set x (.bool a),ds,hp,nx,gW⟩ Q)
 (h:∀rec cs k,(iH all o).run e rec fm to ds hp nx cs k=kF (lA (.bool c) (bif c then .bool y else undef) (.bool false)) (fun v=>k ⟨to.set x v,ds,hp,nx,cs⟩):=by intros;kernel_rfl):WO e fm (gY all (o::os)) ⟨to,ds,hp,nx,gW⟩ Q:=by
 obtain⟨a,h0,p⟩:=X;exact pA x h0 (q a p) h
theorem oD{f:FuncId}{l:List Value}{mA:Nat}{DL:Ht}(x:Nat)(h:WF e f l hp nx (fO mA DL (gk P)))(q:∀c:Bool,(c=true↔P)->∀fe fg,mA<=fg->HE mA DL fe->WO e fm (gY all os) ⟨to.set x (.bool c),ds,fe,fg,gW⟩ Q)
 (hr:∀rec cs k,(iH all o).run e rec fm to ds hp nx cs k=mP e rec f l hp nx cs (fun v hp nx cs=>k ⟨to.set x v,ds,hp,nx,cs⟩):=by intros;kernel_rfl):WO e fm (gY all (o::os)) ⟨to,ds,hp,nx,gW⟩ Q:=
 oC x h (fun v fe fg ⟨⟨c,h1,p⟩,hn,he⟩=>by subst h1;exact q c p fe fg hn he) hr
theorem cq{c:Bool}{x:Operand}{a b:Code}(p:c=true↔P)(h1:P->WP e fm a s W)(h2:¬P->WP e fm b s W)(hx:(aaj x).run s.to=.bool c:=by kernel_rfl):WP e fm (.cond x a b) s W:=
 .cond c hx (fun h=>h1 (p.1 h)) (fun h=>h2 (nq p h))
theorem lr{a:Operand}{cells:List Value}{m:gl}(t:Tmp)(c:Bool)(b off:Nat)(v:Value)(o:e.T.agg t0=some false)(hb:hp.get b=some (.cells cells m))(hc:cells[off]?=some v)(q:WO e fm (gY all os) ⟨to.set d (bif c then v else undef),ds,hp,nx,gW⟩ Q)
 (hy:c=true->(aaj a).run to=.pointer (some ⟨b,off,none⟩):=by intro h;subst h;kernel_rfl) (hg:kn all j=some (aaj (.tmp t)):=by rfl) (hx:(aaj (.tmp t)).run to=.bool c:=by kernel_rfl):WO e fm (gY all (⟨some d,.load t0 a,ty,pos,j1,some (j,true)⟩::os)) ⟨to,ds,hp,nx,gW⟩ Q:=
 EI t c v (fun h=>.jX b off v (hy h) o hb hc rfl) q hg hx
theorem pj{a:Operand}{cells:List Value}{m:gl}(t:Tmp)(c:Bool)(b off:Nat)(v:Value)(o:e.T.agg t0=some false)(hb:hp.get b=some (.cells cells m))(hc:cells[off]?=some v)(q:WO e fm (gY all os) ⟨to.set d (bif !c then v else undef),ds,hp,nx,gW⟩ Q)
 (hy:c=false->(aaj a).run to=.pointer (some ⟨b,off,none⟩):=by intro h;subst h;kernel_rfl) (hg:kn all j=some (aaj (.tmp t)):=by rfl) (hx:(aaj (.tmp t)).run to=.bool c:=by kernel_rfl):WO e fm (gY all (⟨some d,.load t0 a,ty,pos,j1,some (j,false)⟩::os)) ⟨to,ds,hp,nx,gW⟩ Q:=
 zQ t c v (fun h=>.jX b off v (hy h) o hb hc rfl) q hg hx
theorem wd{f:FuncId}{l:List Value}{t:Tm}{R:Value->Ht->Nat->Prop}(fn:Func)(nt:Nat)(res:List ResultVar)(hb:HE nx hp hp->WP e ⟨f,nt,none⟩ (fn.body.getD .skip) ⟨t,[],hp,nx,[]⟩ fun o j=>Nat.ble o 1=true/\j.ds=[]/\∃vs,mH e.T j.hp.get j.to res=some vs/\R (qz vs) j.hp j.nx)
 (C:setArgs yV l Tm.undef=some t:=by rfl) (hk:e.K f=none:=by kernel_rfl) (hf:e.F f=some ⟨fn.body.getD .skip,nt,res⟩:=by kernel_rfl) (hl:Nat.ble l.length nt=true:=by kernel_rfl):WF e f l hp nx R:=.body hk hf hl C (hb (HE.refl nx hp))
theorem fF(f:FuncId)(fn:Func)(nt:Nat)(res:List ResultVar)(h:e.F f=some ⟨fn.body.getD .skip,nt,res⟩:=by kernel_rfl):e.F f=some ⟨fn.body.getD .skip,nt,res⟩:=h
theorem F7{f:FuncId}{l:List Value}{t:Tm}{R:Value->Ht->Nat->Prop}{fn:Func}{nt:Nat}{res:List ResultVar}(hf:e.F f=some ⟨fn.body.getD .skip,nt,res⟩)(hb:HE nx hp hp->WP e ⟨f,nt,none⟩ (fn.body.getD .skip) ⟨t,[],hp,nx,[]⟩ fun o j=>Nat.ble o 1=true/\j.ds=[]/\∃vs,mH e.T j.hp.get j.to res=some vs/\R (qz vs) j.hp j.nx)
 (C:setArgs yV l Tm.undef=some t:=by rfl) (hk:e.K f=none:=by kernel_rfl) (hl:Nat.ble l.length nt=true:=by kernel_rfl):WF e f l hp nx R:=.body hk hf hl C (hb (HE.refl nx hp))
end
def TD:List Nat->List Value->Tm->Tm
 |k::ks,v::vs,t=>TD ks vs (t.set k v)
 |_,_,t=>t
theorem my{e:Env}{fm:Fm}{b:Code}{to:Tm}{hp:Ht}{nx:Nat}{W:Nat->St->Prop}(ks:List Nat)(I:Nat->Ht->Nat->List Value->Prop)(hb:∀m hp nx v,I m hp nx v->∀to,WP e fm b ⟨TD ks v to,[],hp,nx,[]⟩ fun o s1=>match o with
 |0=>∃j,j<m/\s1.ds=[]/\s1.cs=[]/\I j s1.hp s1.nx (ks.map s1.to.get)
 |o+1=>W (o+1) s1) (m:Nat) (h0:I m hp nx (ks.map to.get)) (hj:∀t:Tm,TD ks (ks.map t.get) t=t:=by intro t;kernel_rfl):WP e fm (.loop b) ⟨to,[],hp,nx,[]⟩ W:=
 .loop (fun m s=>s.ds=[]/\s.cs=[]/\I m s.hp s.nx (ks.map s.to.get)) (fun m s ⟨h1,h2,h3⟩=>by
  obtain⟨to,ds,hp,nx,cs⟩:=s
  simp only at h1 h2 h3
  subst h1 h2
  have:=hb m hp nx _ h3 to
  rw[hj to]at this
  exact this) m ⟨rfl,rfl,h0⟩
section
variable {e:Env}{fm:Fm}{to:Tm}{ds:List Deferred}{hp DL:Ht}{nx mA:Nat}{gW:List Nat}{Q:St->Prop}{all:List Oper}{d:Tmp}{ty:TypeId}{pos:String}{j1:Array Edge}
variable {α:Type}{enc:α->List Value}{n:Nat}{S:SV α}{a:Option Addr}{len c i:Nat}{x:α}
theorem gA.Ed(h:gA enc n hp nx S)(j:S.v=.slice a len c):S.l.length=len:=by
 obtain⟨a1,c1,h1⟩:=h.shape
 rw[j]at h1;cases h1;rfl
theorem Z0{T:Ty}{t el:TypeId}{s:Nat}(j:S.v=.slice a len c)(h:gA enc n DL mA S)(hu:T.ji t=some (.slice el))(hs:T.size el=some s)(hi:i<len):lh T t (.slice a len c) (.int .i64 (.ofNat i))=some (.pointer (some ⟨gb a,0+i*s,none⟩)):=
 oH hu hs (h.ue j (by have:=h.Ed j;omega)) hi
theorem Vd{l:List α}(h:l[i]?=some x):0<l.length:=Nat.lt_of_le_of_lt (Nat.zero_le i) (List.getElem?_eq_some_iff.1 h).1
theorem WC.iy{t el:TypeId}{y j:Operand}{s:Nat}(o:S.v=.slice a len c)(h:gA enc n DL mA S)(i:Nat)(hu:e.T.ji t=some (.slice el))(hs:e.T.size el=some s)(hi:i<len)(q:Q ⟨to.set d (.pointer (some ⟨gb a,0+i*s,none⟩)),ds,hp,nx,gW⟩)
 (hx:(aaj y).run to=.slice a len c:=by kernel_rfl) (hj:(aaj j).run to=.int .i64 (.ofNat i):=by kernel_rfl):WC e fm (iH all ⟨some d,.indexAddr t y j,ty,pos,j1,none⟩) ⟨to,ds,hp,nx,gW⟩ Q:=
 .ix a len c i s hx hj hu hs (h.ue o (by have:=h.Ed o;omega)) hi q
theorem WC.ly{t:TypeId}{p:Operand}(C:S.v=.slice a len c)(h:gA enc n hp mA S)(hx:S.l[i]?=some x)(j:e.T.agg t=some true)(hs:e.T.size t=some n)(q:Q ⟨to.set d (.agg (enc x).toArray),ds,hp,nx,gW⟩)
 (o:(aaj p).run to=.pointer (some ⟨gb a,0+i*n,none⟩):=by kernel_rfl):WC e fm (iH all ⟨some d,.load t p,ty,pos,j1,none⟩) ⟨to,ds,hp,nx,gW⟩ Q:=
 .EE (gb a) (0+i*n) (enc x) o j hs (h.pq C (Vd hx)) (w4 h.1 hx) q
theorem WC.lz{t:TypeId}{p:Operand}(v:Value)(C:S.v=.slice a len c)(h:gA enc 1 hp mA S)(hx:S.l[i]?=some x)(hc:(enc x)[0]?=some v)(j:e.T.agg t=some false)(q:Q ⟨to.set d v,ds,hp,nx,gW⟩)
 (o:(aaj p).run to=.pointer (some ⟨gb a,0+i*1,none⟩):=by kernel_rfl):WC e fm (iH all ⟨some d,.load t p,ty,pos,j1,none⟩) ⟨to,ds,hp,nx,gW⟩ Q:=
 .sC (gb a) (0+i*1) v o j (h.pq C (Vd hx)) (yD h.1 hx hc) q
end
section
variable {e:Env}{to:Tm}{ds:List Deferred}{hp DL:Ht}{nx mA:Nat}{gW:List Nat}{k0:s6}{l:List s6}
variable {α:Type}{enc:α->List Value}{n:Nat}{S:SV α}{a:Option Addr}{len c i:Nat}{x:α}
theorem ci(z:Int)(hl:jh e l ⟨to,ds,hp,nx,gW⟩)(h:∀k,k0.run e.T hp nx to k=bif kY 8 (.int .i64 z) (.int .i64 z)then k else .gm 0:=by intros;kernel_rfl):jh e (k0::l) ⟨to,ds,hp,nx,gW⟩:=cv _ (iQ ..) hl h
theorem DM{t el:TypeId}{s:Nat}(j:S.v=.slice a len c)(h0:gA enc n DL mA S)(i:Nat)(hu:e.T.ji t=some (.slice el))(hs:e.T.size el=some s)(hi:i<len)(hl:jh e l ⟨to,ds,hp,nx,gW⟩)
 (h:∀k,k0.run e.T hp nx to k=kF (lh e.T t (.slice a len c) (.int .i64 (.ofNat i))) (fun y=>bif kY 8 y (.pointer (some ⟨gb a,0+i*s,none⟩))then k else .gm 0):=by intros;kernel_rfl):jh e (k0::l) ⟨to,ds,hp,nx,gW⟩:=
 co _ _ (Z0 j h0 hu hs hi) (iW ..) hl h
theorem Xf{t:TypeId}(C:S.v=.slice a len c)(h0:gA enc n hp mA S)(hx:S.l[i]?=some x)(j:e.T.agg t=some true)(hs:e.T.size t=some n)(o:kY 8 (.agg (enc x).toArray) (.agg (enc x).toArray)=true)(hl:jh e l ⟨to,ds,hp,nx,gW⟩)
 (h:∀k,k0.run e.T hp nx to k=kF (kB e.T hp.get t (.pointer (some ⟨gb a,0+i*n,none⟩))) (fun y=>bif kY 8 y (.agg (enc x).toArray)then k else .gm 0):=by intros;kernel_rfl):jh e (k0::l) ⟨to,ds,hp,nx,gW⟩:=
 co _ _ (Aa j hs (h0.pq C (Vd hx)) (w4 h0.1 hx)) o hl h
theorem OX{t:TypeId}(v:Value)(C:S.v=.slice a len c)(h0:gA enc 1 hp mA S)(hx:S.l[i]?=some x)(hc:(enc x)[0]?=some v)(j:e.T.agg t=some false)(o:kY 8 v v=true)(hl:jh e l ⟨to,ds,hp,nx,gW⟩)
 (h:∀k,k0.run e.T hp nx to k=kF (kB e.T hp.get t (.pointer (some ⟨gb a,0+i*1,none⟩))) (fun y=>bif kY 8 y v then k else .gm 0):=by intros;kernel_rfl):jh e (k0::l) ⟨to,ds,hp,nx,gW⟩:=
 co _ _ (uf j (h0.pq C (Vd hx)) (yD h0.1 hx hc)) o hl h
theorem qe{t:TypeId}{cells:List Value}{m:gl}(b off:Nat)(v:Value)(j:e.T.agg t=some false)(hb:hp.get b=some (.cells cells m))(hc:cells[off]?=some v)(o:kY 8 v v=true)(hl:jh e l ⟨to,ds,hp,nx,gW⟩)
 (h:∀k,k0.run e.T hp nx to k=kF (kB e.T hp.get t (.pointer (some ⟨b,off,none⟩))) (fun y=>bif kY 8 y v then k else .gm 0):=by intros;kernel_rfl):jh e (k0::l) ⟨to,ds,hp,nx,gW⟩:=
 co _ _ (ko j hb hc) o hl h
end
end
end Sw
namespace Sw
noncomputable section
open Go Go.Proofs
set_option maxRecDepth 100000
def nd{α:Type}(x:α)(l r:Tr α):Tr α:=.node (some x) l r
def lf{α:Type}(x:α):Tr α:=.node (some x) .nil .nil
noncomputable def TT:Tr TypeInfo:=(nd Tryz.t0 (nd Tryz.t1 (nd Tryz.t3 (nd Tryz.t7 (nd Tryz.t15 (nd Tryz.t31 (nd Tryz.t63 (nd Tryz.t127 (nd Tryz.t255 (lf Tryz.t511) .nil) (nd Tryz.t383 (lf Tryz.t639) .nil)) (nd Tryz.t191 (nd Tryz.t319 (lf Tryz.t575) .nil) (lf Tryz.t447))) (nd Tryz.t95 (nd Tryz.t159 (nd Tryz.t287 (lf Tryz.t543) .nil) (nd Tryz.t415 (lf Tryz.t671) .nil)) (nd Tryz.t223 (nd Tryz.t351 (lf Tryz.t607) .nil) (lf Tryz.t479)))) (nd Tryz.t47 (nd Tryz.t79 (nd Tryz.t143 (nd Tryz.t271 (lf Tryz.t527) .nil) (nd Tryz.t399 (lf Tryz.t655) .nil)) (nd Tryz.t207 (nd Tryz.t335 (lf Tryz.t591) .nil) (lf Tryz.t463))) (nd Tryz.t111 (nd Tryz.t175 (nd Tryz.t303 (lf Tryz.t559) .nil) (lf Tryz.t431)) (nd Tryz.t239 (nd Tryz.t367 (lf Tryz.t623) .nil) (lf Tryz.t495))))) (nd Tryz.t23 (nd Tryz.t39 (nd Tryz.t71 (nd Tryz.t135 (nd Tryz.t263 (lf Tryz.t519) .nil) (nd Tryz.t391 (lf Tryz.t647) .nil)) (nd Tryz.t199 (nd Tryz.t327 (lf Tryz.t583) .nil) (lf Tryz.t455))) (nd Tryz.t103 (nd Tryz.t167 (nd Tryz.t295 (lf Tryz.t551) .nil) (nd Tryz.t423 (lf Tryz.t679) .nil)) (nd Tryz.t231 (nd Tryz.t359 (lf Tryz.t615) .nil) (lf Tryz.t487)))) (nd Tryz.t55 (nd Tryz.t87 (nd Tryz.t151 (nd Tryz.t279 (lf Tryz.t535) .nil) (nd Tryz.t407 (lf Tryz.t663) .nil)) (nd Tryz.t215 (nd Tryz.t343 (lf Tryz.t599) .nil) (lf Tryz.t471))) (nd Tryz.t119 (nd Tryz.t183 (nd Tryz.t311 (lf Tryz.t567) .nil) (lf Tryz.t439)) (nd Tryz.t247 (nd Tryz.t375 (lf Tryz.t631) .nil) (lf Tryz.t503)))))) (nd Tryz.t11 (nd Tryz.t19 (nd Tryz.t35 (nd Tryz.t67 (nd Tryz.t131 (nd Tryz.t259 (lf Tryz.t515) .nil) (nd Tryz.t387 (lf Tryz.t643) .nil)) (nd Tryz.t195 (nd Tryz.t323 (lf Tryz.t579) .nil) (lf Tryz.t451))) (nd Tryz.t99 (nd Tryz.t163 (nd Tryz.t291 (lf Tryz.t547) .nil) (nd Tryz.t419 (lf Tryz.t675) .nil)) (nd Tryz.t227 (nd Tryz.t355 (lf Tryz.t611) .nil) (lf Tryz.t483)))) (nd Tryz.t51 (nd Tryz.t83 (nd Tryz.t147 (nd Tryz.t275 (lf Tryz.t531) .nil) (nd Tryz.t403 (lf Tryz.t659) .nil)) (nd Tryz.t211 (nd Tryz.t339 (lf Tryz.t595) .nil) (lf Tryz.t467))) (nd Tryz.t115 (nd Tryz.t179 (nd Tryz.t307 (lf Tryz.t563) .nil) (lf Tryz.t435)) (nd Tryz.t243 (nd Tryz.t371 (lf Tryz.t627) .nil) (lf Tryz.t499))))) (nd Tryz.t27 (nd Tryz.t43 (nd Tryz.t75 (nd Tryz.t139 (nd Tryz.t267 (lf Tryz.t523) .nil) (nd Tryz.t395 (lf Tryz.t651) .nil)) (nd Tryz.t203 (nd Tryz.t331 (lf Tryz.t587) .nil) (lf Tryz.t459))) (nd Tryz.t107 (nd Tryz.t171 (nd Tryz.t299 (lf Tryz.t555) .nil) (nd Tryz.t427 (lf Tryz.t683) .nil)) (nd Tryz.t235 (nd Tryz.t363 (lf Tryz.t619) .nil) (lf Tryz.t491)))) (nd Tryz.t59 (nd Tryz.t91 (nd Tryz.t155 (nd Tryz.t283 (lf Tryz.t539) .nil) (nd Tryz.t411 (lf Tryz.t667) .nil)) (nd Tryz.t219 (nd Tryz.t347 (lf Tryz.t603) .nil) (lf Tryz.t475))) (nd Tryz.t123 (nd Tryz.t187 (nd Tryz.t315 (lf Tryz.t571) .nil) (lf Tryz.t443)) (nd Tryz.t251 (nd Tryz.t379 (lf Tryz.t635) .nil) (lf Tryz.t507))))))) (nd Tryz.t5 (nd Tryz.t9 (nd Tryz.t17 (nd Tryz.t33 (nd Tryz.t65 (nd Tryz.t129 (nd Tryz.t257 (lf Tryz.t513) .nil) (nd Tryz.t385 (lf Tryz.t641) .nil)) (nd Tryz.t193 (nd Tryz.t321 (lf Tryz.t577) .nil) (lf Tryz.t449))) (nd Tryz.t97 (nd Tryz.t161 (nd Tryz.t289 (lf Tryz.t545) .nil) (nd Tryz.t417 (lf Tryz.t673) .nil)) (nd Tryz.t225 (nd Tryz.t353 (lf Tryz.t609) .nil) (lf Tryz.t481)))) (nd Tryz.t49 (nd Tryz.t81 (nd Tryz.t145 (nd Tryz.t273 (lf Tryz.t529) .nil) (nd Tryz.t401 (lf Tryz.t657) .nil)) (nd Tryz.t209 (nd Tryz.t337 (lf Tryz.t593) .nil) (lf Tryz.t465))) (nd Tryz.t113 (nd Tryz.t177 (nd Tryz.t305 (lf Tryz.t561) .nil) (lf Tryz.t433)) (nd Tryz.t241 (nd Tryz.t369 (lf Tryz.t625) .nil) (lf Tryz.t497))))) (nd Tryz.t25 (nd Tryz.t41 (nd Tryz.t73 (nd Tryz.t137 (nd Tryz.t265 (lf Tryz.t521) .nil) (nd Tryz.t393 (lf Tryz.t649) .nil)) (nd Tryz.t201 (nd Tryz.t329 (lf Tryz.t585) .nil) (lf Tryz.t457))) (nd Tryz.t105 (nd Tryz.t169 (nd Tryz.t297 (lf Tryz.t553) .nil) (nd Tryz.t425 (lf Tryz.t681) .nil)) (nd Tryz.t233 (nd Tryz.t361 (lf Tryz.t617) .nil) (lf Tryz.t489)))) (nd Tryz.t57 (nd Tryz.t89 (nd Tryz.t153 (nd Tryz.t281 (lf Tryz.t537) .nil) (nd Tryz.t409 (lf Tryz.t665) .nil)) (nd Tryz.t217 (nd Tryz.t345 (lf Tryz.t601) .nil) (lf Tryz.t473))) (nd Tryz.t121 (nd Tryz.t185 (nd Tryz.t313 (lf Tryz.t569) .nil) (lf Tryz.t441)) (nd Tryz.t249 (nd Tryz.t377 (lf Tryz.t633) .nil) (lf Tryz.t505)))))) (nd Tryz.t13 (nd Tryz.t21 (nd Tryz.t37 (nd Tryz.t69 (nd Tryz.t133 (nd Tryz.t261 (lf Tryz.t517) .nil) (nd Tryz.t389 (lf Tryz.t645) .nil)) (nd Tryz.t197 (nd Tryz.t325 (lf Tryz.t581) .nil) (lf Tryz.t453))) (nd Tryz.t101 (nd Tryz.t165 (nd Tryz.t293 (lf Tryz.t549) .nil) (nd Tryz.t421 (lf Tryz.t677) .nil)) (nd Tryz.t229 (nd Tryz.t357 (lf Tryz.t613) .nil) (lf Tryz.t485)))) (nd Tryz.t53 (nd Tryz.t85 (nd Tryz.t149 (nd Tryz.t277 (lf Tryz.t533) .nil) (nd Tryz.t405 (lf Tryz.t661) .nil)) (nd Tryz.t213 (nd Tryz.t341 (lf Tryz.t597) .nil) (lf Tryz.t469))) (nd Tryz.t117 (nd Tryz.t181 (nd Tryz.t309 (lf Tryz.t565) .nil) (lf Tryz.t437)) (nd Tryz.t245 (nd Tryz.t373 (lf Tryz.t629) .nil) (lf Tryz.t501))))) (nd Tryz.t29 (nd Tryz.t45 (nd Tryz.t77 (nd Tryz.t141 (nd Tryz.t269 (lf Tryz.t525) .nil) (nd Tryz.t397 (lf Tryz.t653) .nil)) (nd Tryz.t205 (nd Tryz.t333 (lf Tryz.t589) .nil) (lf Tryz.t461))) (nd Tryz.t109 (nd Tryz.t173 (nd Tryz.t301 (lf Tryz.t557) .nil) (lf Tryz.t429)) (nd Tryz.t237 (nd Tryz.t365 (lf Tryz.t621) .nil) (lf Tryz.t493)))) (nd Tryz.t61 (nd Tryz.t93 (nd Tryz.t157 (nd Tryz.t285 (lf Tryz.t541) .nil) (nd Tryz.t413 (lf Tryz.t669) .nil)) (nd Tryz.t221 (nd Tryz.t349 (lf Tryz.t605) .nil) (lf Tryz.t477))) (nd Tryz.t125 (nd Tryz.t189 (nd Tryz.t317 (lf Tryz.t573) .nil) (lf Tryz.t445)) (nd Tryz.t253 (nd Tryz.t381 (lf Tryz.t637) .nil) (lf Tryz.t509)))))))) (nd Tryz.t2 (nd Tryz.t4 (nd Tryz.t8 (nd Tryz.t16 (nd Tryz.t32 (nd Tryz.t64 (nd Tryz.t128 (nd Tryz.t256 (lf Tryz.t512) .nil) (nd Tryz.t384 (lf Tryz.t640) .nil)) (nd Tryz.t192 (nd Tryz.t320 (lf Tryz.t576) .nil) (lf Tryz.t448))) (nd Tryz.t96 (nd Tryz.t160 (nd Tryz.t288 (lf Tryz.t544) .nil) (nd Tryz.t416 (lf Tryz.t672) .nil)) (nd Tryz.t224 (nd Tryz.t352 (lf Tryz.t608) .nil) (lf Tryz.t480)))) (nd Tryz.t48 (nd Tryz.t80 (nd Tryz.t144 (nd Tryz.t272 (lf Tryz.t528) .nil) (nd Tryz.t400 (lf Tryz.t656) .nil)) (nd Tryz.t208 (nd Tryz.t336 (lf Tryz.t592) .nil) (lf Tryz.t464))) (nd Tryz.t112 (nd Tryz.t176 (nd Tryz.t304 (lf Tryz.t560) .nil) (lf Tryz.t432)) (nd Tryz.t240 (nd Tryz.t368 (lf Tryz.t624) .nil) (lf Tryz.t496))))) (nd Tryz.t24 (nd Tryz.t40 (nd Tryz.t72 (nd Tryz.t136 (nd Tryz.t264 (lf Tryz.t520) .nil) (nd Tryz.t392 (lf Tryz.t648) .nil)) (nd Tryz.t200 (nd Tryz.t328 (lf Tryz.t584) .nil) (lf Tryz.t456))) (nd Tryz.t104 (nd Tryz.t168 (nd Tryz.t296 (lf Tryz.t552) .nil) (nd Tryz.t424 (lf Tryz.t680) .nil)) (nd Tryz.t232 (nd Tryz.t360 (lf Tryz.t616) .nil) (lf Tryz.t488)))) (nd Tryz.t56 (nd Tryz.t88 (nd Tryz.t152 (nd Tryz.t280 (lf Tryz.t536) .nil) (nd Tryz.t408 (lf Tryz.t664) .nil)) (nd Tryz.t216 (nd Tryz.t344 (lf Tryz.t600) .nil) (lf Tryz.t472))) (nd Tryz.t120 (nd Tryz.t184 (nd Tryz.t312 (lf Tryz.t568) .nil) (lf Tryz.t440)) (nd Tryz.t248 (nd Tryz.t376 (lf Tryz.t632) .nil) (lf Tryz.t504)))))) (nd Tryz.t12 (nd Tryz.t20 (nd Tryz.t36 (nd Tryz.t68 (nd Tryz.t132 (nd Tryz.t260 (lf Tryz.t516) .nil) (nd Tryz.t388 (lf Tryz.t644) .nil)) (nd Tryz.t196 (nd Tryz.t324 (lf Tryz.t580) .nil) (lf Tryz.t452))) (nd Tryz.t100 (nd Tryz.t164 (nd Tryz.t292 (lf Tryz.t548) .nil) (nd Tryz.t420 (lf Tryz.t676) .nil)) (nd Tryz.t228 (nd Tryz.t356 (lf Tryz.t612) .nil) (lf Tryz.t484)))) (nd Tryz.t52 (nd Tryz.t84 (nd Tryz.t148 (nd Tryz.t276 (lf Tryz.t532) .nil) (nd Tryz.t404 (lf Tryz.t660) .nil)) (nd Tryz.t212 (nd Tryz.t340 (lf Tryz.t596) .nil) (lf Tryz.t468))) (nd Tryz.t116 (nd Tryz.t180 (nd Tryz.t308 (lf Tryz.t564) .nil) (lf Tryz.t436)) (nd Tryz.t244 (nd Tryz.t372 (lf Tryz.t628) .nil) (lf Tryz.t500))))) (nd Tryz.t28 (nd Tryz.t44 (nd Tryz.t76 (nd Tryz.t140 (nd Tryz.t268 (lf Tryz.t524) .nil) (nd Tryz.t396 (lf Tryz.t652) .nil)) (nd Tryz.t204 (nd Tryz.t332 (lf Tryz.t588) .nil) (lf Tryz.t460))) (nd Tryz.t108 (nd Tryz.t172 (nd Tryz.t300 (lf Tryz.t556) .nil) (lf Tryz.t428)) (nd Tryz.t236 (nd Tryz.t364 (lf Tryz.t620) .nil) (lf Tryz.t492)))) (nd Tryz.t60 (nd Tryz.t92 (nd Tryz.t156 (nd Tryz.t284 (lf Tryz.t540) .nil) (nd Tryz.t412 (lf Tryz.t668) .nil)) (nd Tryz.t220 (nd Tryz.t348 (lf Tryz.t604) .nil) (lf Tryz.t476))) (nd Tryz.t124 (nd Tryz.t188 (nd Tryz.t316 (lf Tryz.t572) .nil) (lf Tryz.t444)) (nd Tryz.t252 (nd Tryz.t380 (lf Tryz.t636) .nil) (lf Tryz.t508))))))) (nd Tryz.t6 (nd Tryz.t10 (nd Tryz.t18 (nd Tryz.t34 (nd Tryz.t66 (nd Tryz.t130 (nd Tryz.t258 (lf Tryz.t514) .nil) (nd Tryz.t386 (lf Tryz.t642) .nil)) (nd Tryz.t194 (nd Tryz.t322 (lf Tryz.t578) .nil) (lf Tryz.t450))) (nd Tryz.t98 (nd Tryz.t162 (nd Tryz.t290 (lf Tryz.t546) .nil) (nd Tryz.t418 (lf Tryz.t674) .nil)) (nd Tryz.t226 (nd Tryz.t354 (lf Tryz.t610) .nil) (lf Tryz.t482)))) (nd Tryz.t50 (nd Tryz.t82 (nd Tryz.t146 (nd Tryz.t274 (lf Tryz.t530) .nil) (nd Tryz.t402 (lf Tryz.t658) .nil)) (nd Tryz.t210 (nd Tryz.t338 (lf Tryz.t594) .nil) (lf Tryz.t466))) (nd Tryz.t114 (nd Tryz.t178 (nd Tryz.t306 (lf Tryz.t562) .nil) (lf Tryz.t434)) (nd Tryz.t242 (nd Tryz.t370 (lf Tryz.t626) .nil) (lf Tryz.t498))))) (nd Tryz.t26 (nd Tryz.t42 (nd Tryz.t74 (nd Tryz.t138 (nd Tryz.t266 (lf Tryz.t522) .nil) (nd Tryz.t394 (lf Tryz.t650) .nil)) (nd Tryz.t202 (nd Tryz.t330 (lf Tryz.t586) .nil) (lf Tryz.t458))) (nd Tryz.t106 (nd Tryz.t170 (nd Tryz.t298 (lf Tryz.t554) .nil) (nd Tryz.t426 (lf Tryz.t682) .nil)) (nd Tryz.t234 (nd Tryz.t362 (lf Tryz.t618) .nil) (lf Tryz.t490)))) (nd Tryz.t58 (nd Tryz.t90 (nd Tryz.t154 (nd Tryz.t282 (lf Tryz.t538) .nil) (nd Tryz.t410 (lf Tryz.t666) .nil)) (nd Tryz.t218 (nd Tryz.t346 (lf Tryz.t602) .nil) (lf Tryz.t474))) (nd Tryz.t122 (nd Tryz.t186 (nd Tryz.t314 (lf Tryz.t570) .nil) (lf Tryz.t442)) (nd Tryz.t250 (nd Tryz.t378 (lf Tryz.t634) .nil) (lf Tryz.t506)))))) (nd Tryz.t14 (nd Tryz.t22 (nd Tryz.t38 (nd Tryz.t70 (nd Tryz.t134 (nd Tryz.t262 (lf Tryz.t518) .nil) (nd Tryz.t390 (lf Tryz.t646) .nil)) (nd Tryz.t198 (nd Tryz.t326 (lf Tryz.t582) .nil) (lf Tryz.t454))) (nd Tryz.t102 (nd Tryz.t166 (nd Tryz.t294 (lf Tryz.t550) .nil) (nd Tryz.t422 (lf Tryz.t678) .nil)) (nd Tryz.t230 (nd Tryz.t358 (lf Tryz.t614) .nil) (lf Tryz.t486)))) (nd Tryz.t54 (nd Tryz.t86 (nd Tryz.t150 (nd Tryz.t278 (lf Tryz.t534) .nil) (nd Tryz.t406 (lf Tryz.t662) .nil)) (nd Tryz.t214 (nd Tryz.t342 (lf Tryz.t598) .nil) (lf Tryz.t470))) (nd Tryz.t118 (nd Tryz.t182 (nd Tryz.t310 (lf Tryz.t566) .nil) (lf Tryz.t438)) (nd Tryz.t246 (nd Tryz.t374 (lf Tryz.t630) .nil) (lf Tryz.t502))))) (nd Tryz.t30 (nd Tryz.t46 (nd Tryz.t78 (nd Tryz.t142 (nd Tryz.t270 (lf Tryz.t526) .nil) (nd Tryz.t398 (lf Tryz.t654) .nil)) (nd Tryz.t206 (nd Tryz.t334 (lf Tryz.t590) .nil) (lf Tryz.t462))) (nd Tryz.t110 (nd Tryz.t174 (nd Tryz.t302 (lf Tryz.t558) .nil) (lf Tryz.t430)) (nd Tryz.t238 (nd Tryz.t366 (lf Tryz.t622) .nil) (lf Tryz.t494)))) (nd Tryz.t62 (nd Tryz.t94 (nd Tryz.t158 (nd Tryz.t286 (lf Tryz.t542) .nil) (nd Tryz.t414 (lf Tryz.t670) .nil)) (nd Tryz.t222 (nd Tryz.t350 (lf Tryz.t606) .nil) (lf Tryz.t478))) (nd Tryz.t126 (nd Tryz.t190 (nd Tryz.t318 (lf Tryz.t574) .nil) (lf Tryz.t446)) (nd Tryz.t254 (nd Tryz.t382 (lf Tryz.t638) .nil) (lf Tryz.t510)))))))))
noncomputable def FT:Tr Func:=(nd Tryz.f0 (nd Tryz.f1 (nd Tryz.f3 (nd Tryz.f7 (nd Tryz.f15 (nd Tryz.f31 (nd Tryz.f63 (nd Tryz.f127 (nd Tryz.f255 (lf Tryz.f511) .nil) (lf Tryz.f383)) (nd Tryz.f191 (lf Tryz.f319) (lf Tryz.f447))) (nd Tryz.f95 (nd Tryz.f159 (lf Tryz.f287) (lf Tryz.f415)) (nd Tryz.f223 (lf Tryz.f351) (lf Tryz.f479)))) (nd Tryz.f47 (nd Tryz.f79 (nd Tryz.f143 (lf Tryz.f271) (lf Tryz.f399)) (nd Tryz.f207 (lf Tryz.f335) (lf Tryz.f463))) (nd Tryz.f111 (nd Tryz.f175 (lf Tryz.f303) (lf Tryz.f431)) (nd Tryz.f239 (lf Tryz.f367) (lf Tryz.f495))))) (nd Tryz.f23 (nd Tryz.f39 (nd Tryz.f71 (nd Tryz.f135 (nd Tryz.f263 (lf Tryz.f519) .nil) (lf Tryz.f391)) (nd Tryz.f199 (lf Tryz.f327) (lf Tryz.f455))) (nd Tryz.f103 (nd Tryz.f167 (lf Tryz.f295) (lf Tryz.f423)) (nd Tryz.f231 (lf Tryz.f359) (lf Tryz.f487)))) (nd Tryz.f55 (nd Tryz.f87 (nd Tryz.f151 (lf Tryz.f279) (lf Tryz.f407)) (nd Tryz.f215 (lf Tryz.f343) (lf Tryz.f471))) (nd Tryz.f119 (nd Tryz.f183 (lf Tryz.f311) (lf Tryz.f439)) (nd Tryz.f247 (lf Tryz.f375) (lf Tryz.f503)))))) (nd Tryz.f11 (nd Tryz.f19 (nd Tryz.f35 (nd Tryz.f67 (nd Tryz.f131 (nd Tryz.f259 (lf Tryz.f515) .nil) (lf Tryz.f387)) (nd Tryz.f195 (lf Tryz.f323) (lf Tryz.f451))) (nd Tryz.f99 (nd Tryz.f163 (lf Tryz.f291) (lf Tryz.f419)) (nd Tryz.f227 (lf Tryz.f355) (lf Tryz.f483)))) (nd Tryz.f51 (nd Tryz.f83 (nd Tryz.f147 (lf Tryz.f275) (lf Tryz.f403)) (nd Tryz.f211 (lf Tryz.f339) (lf Tryz.f467))) (nd Tryz.f115 (nd Tryz.f179 (lf Tryz.f307) (lf Tryz.f435)) (nd Tryz.f243 (lf Tryz.f371) (lf Tryz.f499))))) (nd Tryz.f27 (nd Tryz.f43 (nd Tryz.f75 (nd Tryz.f139 (lf Tryz.f267) (lf Tryz.f395)) (nd Tryz.f203 (lf Tryz.f331) (lf Tryz.f459))) (nd Tryz.f107 (nd Tryz.f171 (lf Tryz.f299) (lf Tryz.f427)) (nd Tryz.f235 (lf Tryz.f363) (lf Tryz.f491)))) (nd Tryz.f59 (nd Tryz.f91 (nd Tryz.f155 (lf Tryz.f283) (lf Tryz.f411)) (nd Tryz.f219 (lf Tryz.f347) (lf Tryz.f475))) (nd Tryz.f123 (nd Tryz.f187 (lf Tryz.f315) (lf Tryz.f443)) (nd Tryz.f251 (lf Tryz.f379) (lf Tryz.f507))))))) (nd Tryz.f5 (nd Tryz.f9 (nd Tryz.f17 (nd Tryz.f33 (nd Tryz.f65 (nd Tryz.f129 (nd Tryz.f257 (lf Tryz.f513) .nil) (lf Tryz.f385)) (nd Tryz.f193 (lf Tryz.f321) (lf Tryz.f449))) (nd Tryz.f97 (nd Tryz.f161 (lf Tryz.f289) (lf Tryz.f417)) (nd Tryz.f225 (lf Tryz.f353) (lf Tryz.f481)))) (nd Tryz.f49 (nd Tryz.f81 (nd Tryz.f145 (lf Tryz.f273) (lf Tryz.f401)) (nd Tryz.f209 (lf Tryz.f337) (lf Tryz.f465))) (nd Tryz.f113 (nd Tryz.f177 (lf Tryz.f305) (lf Tryz.f433)) (nd Tryz.f241 (lf Tryz.f369) (lf Tryz.f497))))) (nd Tryz.f25 (nd Tryz.f41 (nd Tryz.f73 (nd Tryz.f137 (lf Tryz.f265) (lf Tryz.f393)) (nd Tryz.f201 (lf Tryz.f329) (lf Tryz.f457))) (nd Tryz.f105 (nd Tryz.f169 (lf Tryz.f297) (lf Tryz.f425)) (nd Tryz.f233 (lf Tryz.f361) (lf Tryz.f489)))) (nd Tryz.f57 (nd Tryz.f89 (nd Tryz.f153 (lf Tryz.f281) (lf Tryz.f409)) (nd Tryz.f217 (lf Tryz.f345) (lf Tryz.f473))) (nd Tryz.f121 (nd Tryz.f185 (lf Tryz.f313) (lf Tryz.f441)) (nd Tryz.f249 (lf Tryz.f377) (lf Tryz.f505)))))) (nd Tryz.f13 (nd Tryz.f21 (nd Tryz.f37 (nd Tryz.f69 (nd Tryz.f133 (nd Tryz.f261 (lf Tryz.f517) .nil) (lf Tryz.f389)) (nd Tryz.f197 (lf Tryz.f325) (lf Tryz.f453))) (nd Tryz.f101 (nd Tryz.f165 (lf Tryz.f293) (lf Tryz.f421)) (nd Tryz.f229 (lf Tryz.f357) (lf Tryz.f485)))) (nd Tryz.f53 (nd Tryz.f85 (nd Tryz.f149 (lf Tryz.f277) (lf Tryz.f405)) (nd Tryz.f213 (lf Tryz.f341) (lf Tryz.f469))) (nd Tryz.f117 (nd Tryz.f181 (lf Tryz.f309) (lf Tryz.f437)) (nd Tryz.f245 (lf Tryz.f373) (lf Tryz.f501))))) (nd Tryz.f29 (nd Tryz.f45 (nd Tryz.f77 (nd Tryz.f141 (lf Tryz.f269) (lf Tryz.f397)) (nd Tryz.f205 (lf Tryz.f333) (lf Tryz.f461))) (nd Tryz.f109 (nd Tryz.f173 (lf Tryz.f301) (lf Tryz.f429)) (nd Tryz.f237 (lf Tryz.f365) (lf Tryz.f493)))) (nd Tryz.f61 (nd Tryz.f93 (nd Tryz.f157 (lf Tryz.f285) (lf Tryz.f413)) (nd Tryz.f221 (lf Tryz.f349) (lf Tryz.f477))) (nd Tryz.f125 (nd Tryz.f189 (lf Tryz.f317) (lf Tryz.f445)) (nd Tryz.f253 (lf Tryz.f381) (lf Tryz.f509)))))))) (nd Tryz.f2 (nd Tryz.f4 (nd Tryz.f8 (nd Tryz.f16 (nd Tryz.f32 (nd Tryz.f64 (nd Tryz.f128 (nd Tryz.f256 (lf Tryz.f512) .nil) (lf Tryz.f384)) (nd Tryz.f192 (lf Tryz.f320) (lf Tryz.f448))) (nd Tryz.f96 (nd Tryz.f160 (lf Tryz.f288) (lf Tryz.f416)) (nd Tryz.f224 (lf Tryz.f352) (lf Tryz.f480)))) (nd Tryz.f48 (nd Tryz.f80 (nd Tryz.f144 (lf Tryz.f272) (lf Tryz.f400)) (nd Tryz.f208 (lf Tryz.f336) (lf Tryz.f464))) (nd Tryz.f112 (nd Tryz.f176 (lf Tryz.f304) (lf Tryz.f432)) (nd Tryz.f240 (lf Tryz.f368) (lf Tryz.f496))))) (nd Tryz.f24 (nd Tryz.f40 (nd Tryz.f72 (nd Tryz.f136 (nd Tryz.f264 (lf Tryz.f520) .nil) (lf Tryz.f392)) (nd Tryz.f200 (lf Tryz.f328) (lf Tryz.f456))) (nd Tryz.f104 (nd Tryz.f168 (lf Tryz.f296) (lf Tryz.f424)) (nd Tryz.f232 (lf Tryz.f360) (lf Tryz.f488)))) (nd Tryz.f56 (nd Tryz.f88 (nd Tryz.f152 (lf Tryz.f280) (lf Tryz.f408)) (nd Tryz.f216 (lf Tryz.f344) (lf Tryz.f472))) (nd Tryz.f120 (nd Tryz.f184 (lf Tryz.f312) (lf Tryz.f440)) (nd Tryz.f248 (lf Tryz.f376) (lf Tryz.f504)))))) (nd Tryz.f12 (nd Tryz.f20 (nd Tryz.f36 (nd Tryz.f68 (nd Tryz.f132 (nd Tryz.f260 (lf Tryz.f516) .nil) (lf Tryz.f388)) (nd Tryz.f196 (lf Tryz.f324) (lf Tryz.f452))) (nd Tryz.f100 (nd Tryz.f164 (lf Tryz.f292) (lf Tryz.f420)) (nd Tryz.f228 (lf Tryz.f356) (lf Tryz.f484)))) (nd Tryz.f52 (nd Tryz.f84 (nd Tryz.f148 (lf Tryz.f276) (lf Tryz.f404)) (nd Tryz.f212 (lf Tryz.f340) (lf Tryz.f468))) (nd Tryz.f116 (nd Tryz.f180 (lf Tryz.f308) (lf Tryz.f436)) (nd Tryz.f244 (lf Tryz.f372) (lf Tryz.f500))))) (nd Tryz.f28 (nd Tryz.f44 (nd Tryz.f76 (nd Tryz.f140 (lf Tryz.f268) (lf Tryz.f396)) (nd Tryz.f204 (lf Tryz.f332) (lf Tryz.f460))) (nd Tryz.f108 (nd Tryz.f172 (lf Tryz.f300) (lf Tryz.f428)) (nd Tryz.f236 (lf Tryz.f364) (lf Tryz.f492)))) (nd Tryz.f60 (nd Tryz.f92 (nd Tryz.f156 (lf Tryz.f284) (lf Tryz.f412)) (nd Tryz.f220 (lf Tryz.f348) (lf Tryz.f476))) (nd Tryz.f124 (nd Tryz.f188 (lf Tryz.f316) (lf Tryz.f444)) (nd Tryz.f252 (lf Tryz.f380) (lf Tryz.f508))))))) (nd Tryz.f6 (nd Tryz.f10 (nd Tryz.f18 (nd Tryz.f34 (nd Tryz.f66 (nd Tryz.f130 (nd Tryz.f258 (lf Tryz.f514) .nil) (lf Tryz.f386)) (nd Tryz.f194 (lf Tryz.f322) (lf Tryz.f450))) (nd Tryz.f98 (nd Tryz.f162 (lf Tryz.f290) (lf Tryz.f418)) (nd Tryz.f226 (lf Tryz.f354) (lf Tryz.f482)))) (nd Tryz.f50 (nd Tryz.f82 (nd Tryz.f146 (lf Tryz.f274) (lf Tryz.f402)) (nd Tryz.f210 (lf Tryz.f338) (lf Tryz.f466))) (nd Tryz.f114 (nd Tryz.f178 (lf Tryz.f306) (lf Tryz.f434)) (nd Tryz.f242 (lf Tryz.f370) (lf Tryz.f498))))) (nd Tryz.f26 (nd Tryz.f42 (nd Tryz.f74 (nd Tryz.f138 (lf Tryz.f266) (lf Tryz.f394)) (nd Tryz.f202 (lf Tryz.f330) (lf Tryz.f458))) (nd Tryz.f106 (nd Tryz.f170 (lf Tryz.f298) (lf Tryz.f426)) (nd Tryz.f234 (lf Tryz.f362) (lf Tryz.f490)))) (nd Tryz.f58 (nd Tryz.f90 (nd Tryz.f154 (lf Tryz.f282) (lf Tryz.f410)) (nd Tryz.f218 (lf Tryz.f346) (lf Tryz.f474))) (nd Tryz.f122 (nd Tryz.f186 (lf Tryz.f314) (lf Tryz.f442)) (nd Tryz.f250 (lf Tryz.f378) (lf Tryz.f506)))))) (nd Tryz.f14 (nd Tryz.f22 (nd Tryz.f38 (nd Tryz.f70 (nd Tryz.f134 (nd Tryz.f262 (lf Tryz.f518) .nil) (lf Tryz.f390)) (nd Tryz.f198 (lf Tryz.f326) (lf Tryz.f454))) (nd Tryz.f102 (nd Tryz.f166 (lf Tryz.f294) (lf Tryz.f422)) (nd Tryz.f230 (lf Tryz.f358) (lf Tryz.f486)))) (nd Tryz.f54 (nd Tryz.f86 (nd Tryz.f150 (lf Tryz.f278) (lf Tryz.f406)) (nd Tryz.f214 (lf Tryz.f342) (lf Tryz.f470))) (nd Tryz.f118 (nd Tryz.f182 (lf Tryz.f310) (lf Tryz.f438)) (nd Tryz.f246 (lf Tryz.f374) (lf Tryz.f502))))) (nd Tryz.f30 (nd Tryz.f46 (nd Tryz.f78 (nd Tryz.f142 (lf Tryz.f270) (lf Tryz.f398)) (nd Tryz.f206 (lf Tryz.f334) (lf Tryz.f462))) (nd Tryz.f110 (nd Tryz.f174 (lf Tryz.f302) (lf Tryz.f430)) (nd Tryz.f238 (lf Tryz.f366) (lf Tryz.f494)))) (nd Tryz.f62 (nd Tryz.f94 (nd Tryz.f158 (lf Tryz.f286) (lf Tryz.f414)) (nd Tryz.f222 (lf Tryz.f350) (lf Tryz.f478))) (nd Tryz.f126 (nd Tryz.f190 (lf Tryz.f318) (lf Tryz.f446)) (nd Tryz.f254 (lf Tryz.f382) (lf Tryz.f510)))))))))
theorem Qc:TT=Mg 0 Tryz.types.toList .nil:=by kernel_rfl
theorem Ve:FT=Mg 0 Tryz.funcs.toList .nil:=by kernel_rfl
theorem Xh(t:Nat)(i:TypeInfo)(h:TT.get t=some i):Tryz.prog.types[t]?=some i:=by
 rw[Qc,wK]at h
 have:Tryz.prog.types=Tryz.types:=by kernel_rfl
 rw[this];simpa using h
theorem Xi(t:Nat)(i:Func)(h:FT.get t=some i):Tryz.prog.funcs[t]?=some i:=by
 rw[Ve,wK]at h
 have:Tryz.prog.funcs=Tryz.funcs:=rfl
 rw[this];simpa using h
end
end Sw
namespace Sw
noncomputable section
open Go Go.RowKit
def yZ(hp:Ht):Prop:=∀b o,hp.get b=some o->∃cs m,o=.cells cs m/\m.ro=true
def Rp(P:Program)(hp:Ht)(nx:Nat):Nat->TypeId->List Value->Prop
 |0,_,_=>False
 |n+1,t,ls=>match P.underlying t with
  |some .bool=>∃b,ls=[.bool b]
  |some (.int k)=>∃z,ls=[.int k z]/\(Lit.int k z).wf=true
  |some .string=>∃s,ls=[.string s]/\s.size<=reachBytes
  |some (.slice e)=>ls=[.slice none 0 0]\/ls=[.slice (some ⟨0,0,none⟩) 0 0]\/∃(b len cap:Nat) (lss:List (List Value)),ls=[.slice (some ⟨b,0,none⟩) len cap]/\0<cap/\len<=cap/\(cap<=reachBytes/\cap*P.bytesOf e<=reachBytes)/\b<nx/\
    hp.get b=some (.cells lss.flatten ⟨true,none,0,0⟩)/\lss.length=len/\∀l∈lss,Rp P hp nx n e l/\l.length=P.cellsOf e
  |some (.struct fs)=>∃lss:List (List Value),ls=lss.flatten/\lss.length=fs.size/\∀(i:Nat) (f:Field) (l:List Value),fs[i]?=some f->lss[i]?=some l->Rp P hp nx n f.type l/\l.length=P.cellsOf f.type
  |some (.array m e)=>∃lss:List (List Value),ls=lss.flatten/\lss.length=m/\∀l∈lss,Rp P hp nx n e l/\l.length=P.cellsOf e
  |_=>False
theorem Rp.mono{P:Program}{hp fe:Ht}{nx fg:Nat}(he:HE nx hp fe)(hn:nx<=fg):∀{n:Nat} {t:TypeId} {ls:List Value},Rp P hp nx n t ls->Rp P fe fg n t ls
 |0,_,_,h=>h
 |n+1,t,ls,h=>by
  unfold Rp at h⊢
  split
  · rename_i e;rw[e]at h;exact h
  · rename_i k e;rw[e]at h;exact h
  · rename_i e;rw[e]at h;exact h
  · rename_i el e
    rw[e]at h
    rcases h with h|h|⟨b,len,cap,lss,h1,h2,h3,h4,o,C,I,j⟩
    · exact .inl h
    · exact .inr (.inl h)
    · exact .inr (.inr ⟨b,len,cap,lss,h1,h2,h3,h4,by omega,he.get C o,I,fun l hl=>⟨Rp.mono he hn (j l hl).1,(j l hl).2⟩⟩)
  · rename_i fs e
    rw[e]at h
    obtain⟨lss,h1,h2,h3⟩:=h
    exact⟨lss,h1,h2,fun i f l a b=>⟨Rp.mono he hn (h3 i f l a b).1,(h3 i f l a b).2⟩⟩
  · rename_i m el e
    rw[e]at h
    obtain⟨lss,h1,h2,h3⟩:=h
    exact⟨lss,h1,h2,fun l a=>⟨Rp.mono he hn (h3 l a).1,(h3 l a).2⟩⟩
  · rename_i J n2 R U aa n6
    split at h
    · rename_i e;exact absurd e J
    · rename_i k e;exact absurd e (n2 k)
    · rename_i e;exact absurd e R
    · rename_i el e;exact absurd e (U el)
    · rename_i fs e;exact absurd e (aa fs)
    · rename_i m el e;exact absurd e (n6 m el)
    · exact h
def Cu(P:Program):List Field->Nat->Nat->Bool
 |[],o,zf=>Nat.beq o zf
 |f::fs,o,zf=>Nat.beq f.offset o&&Cu P fs (o+P.cellsOf f.type) zf
def zg(P:Program)(S:TypeId->Bool)(t:TypeId):Bool:=match P.underlying t with
 |some .bool=>Nat.beq (P.cellsOf t) 1
 |some (.int _)=>Nat.beq (P.cellsOf t) 1
 |some .string=>Nat.beq (P.cellsOf t) 1
 |some (.slice e)=>Nat.beq (P.cellsOf t) 1&&(S e&&(Nat.blt 0 (P.cellsOf e)&&Nat.blt 0 (P.bytesOf e)))
 |some (.struct fs)=>fs.toList.all (fun f=>S f.type)&&Cu P fs.toList 0 (P.cellsOf t)
 |some (.array n e)=>S e&&Nat.beq (P.cellsOf t) (n*P.cellsOf e)
 |_=>false
section
variable {B0:Nat}{w0:World}{g:Gm}{hp:Ht}{nx:Nat}{w:World}
theorem gu.reach(H:gu B0 w0 g hp.get nx w){rb ro:Nat}(hr:rb<w.heap.size):gu B0 w0 (g.add nx (rb,ro) none) hp.get (nx+1) w/\g.le (g.add nx (rb,ro) none):=by
 have hn:g.gb nx=none:=by
  cases h:g.gb nx with
  |none=>rfl
  |some x=>exact absurd (H.rq nx x.1 x.2 h).1 (Nat.lt_irrefl _)
 have hle:=Gm.qM hn (rb,ro) none
 refine⟨⟨H.below,H.base,fun b r o e=>?_,fun b o e=>?_,fun b ms e=>?_,H.mem,fun b1 b2 o1 o2 r r1 r2 jG e1 e2 j C=>?_,fun b x k=>?_⟩,hle⟩
 · by_cases hb:b=nx
   · subst hb
     rw[Gm.lQ]at e;cases e
     exact⟨Nat.lt_succ_self _,hr⟩
   · rw[Gm.jV _ _ _ hb]at e
     exact⟨Nat.lt_succ_of_lt (H.rq b r o e).1,(H.rq b r o e).2⟩
 · obtain⟨h1,h2⟩:=H.live b o e
   refine⟨Nat.lt_succ_of_lt h1,fun r r1 k=>?_⟩
   rw[Gm.jV _ _ _ (by omega)]at k
   obtain⟨jq,a,c⟩:=h2 r r1 k
   exact⟨jq,a,c.mono hle k⟩
 · rw[Gm.jV _ _ _ (by have:=(H.live b _ e).1;omega)]
   exact H.o7 b ms e
 · rw[Gm.jV _ _ _ (by have:=(H.live b1 _ e1).1;omega)]at j
   rw[Gm.jV _ _ _ (by have:=(H.live b2 _ e2).1;omega)]at C
   exact H.sep b1 b2 o1 o2 r r1 r2 jG e1 e2 j C
 · by_cases hb:b=nx
   · subst hb;rw[Gm.sx]at k;cases k
   · have:(g.add nx (rb,ro) none).room b=g.room b:=by simp[Gm.add,hb]
     rw[this]at k
     rw[Gm.jV _ _ _ hb]
     exact H.room b x k
theorem gu.Yj(H:gu B0 w0 g hp.get nx w)(C:yZ hp){rb ro n:Nat}{rc:Array Value}{el:TypeId}{J:Nat×Nat}{us:List Value}(I:w.heap[rb]?=some (.cells rc el J))(hlen:ro+n<=rc.size)(hl:gX g us ((rc.toList.drop ro).take n)):
 ∃g':Gm,gu B0 w0 g' (hp.set nx (some (.cells us ⟨true,none,0,0⟩))).get (nx+1) w/\yZ (hp.set nx (some (.cells us ⟨true,none,0,0⟩)))/\g.le g'/\g'.gb nx=some (rb,ro)/\HE nx hp (hp.set nx (some (.cells us ⟨true,none,0,0⟩))):=by
 obtain⟨H1,hle⟩:=H.reach (rb:=rb) (ro:=ro) (sf I)
 have j:hp.get nx=none:=by
  cases h:hp.get nx with
  |none=>rfl
  |some o=>exact absurd (H.live nx o h).1 (Nat.lt_irrefl _)
 refine⟨g.add nx (rb,ro) none,?_,fun b o e=>?_,hle,Gm.lQ ..,HE.set _ _ (Nat.le_refl _)⟩
 · rw[show(hp.set nx (some (.cells us ⟨true,none,0,0⟩))).get=Hp.set hp.get nx (some (.cells us ⟨true,none,0,0⟩))from Tr.nJ ..]
   refine H1.Va j (Nat.lt_succ_self _) fun R U k=>?_
   rw[Gm.lQ]at k;cases k
   exact⟨⟨_,I,oP.OR hlen (hl.mono hle) (fun x k=>by cases k) (fun _=>Gm.sx ..)⟩,fun b o r1 e _=>C b o e⟩
 · rw[Tr.nJ]at e
   by_cases hb:b=nx
   · subst hb;rw[Hp.jH]at e;cases e;exact⟨_,_,rfl,rfl⟩
   · rw[Hp.gP _ _ hb]at e;exact C b o e
end
section
variable {H:Type}{enc:TypeId×Value->H}{P:Program}{B0:Nat}{w0 w:World}{S:TypeId->Bool}
def Qd(P:Program)(B0:Nat)(w0 w:World)(g:Gm)(hp:Ht)(nx:Nat)(cs:List Value)(R:Ht->Nat->List Value->Prop):Prop:=
 ∃(g':Gm) (fe:Ht) (fg:Nat) (ls:List Value),gu B0 w0 g' fe.get fg w/\yZ fe/\g.le g'/\nx<=fg/\HE nx hp fe/\gX g' ls cs/\R fe fg ls
def Cv(P:Program)(B0:Nat)(w0 w:World)(n:Nat)(t:TypeId)(cs:List Value):Prop:=
 ∀(g:Gm) (hp:Ht) (nx:Nat),gu B0 w0 g hp.get nx w->yZ hp->Qd P B0 w0 w g hp nx cs fun fe fg ls=>Rp P fe fg n t ls/\ls.length=P.cellsOf t
theorem Ad{n:Nat}:∀(parts:List (TypeId×List Value)),(∀p∈parts,Cv P B0 w0 w n p.1 p.2)->∀(g:Gm) (hp:Ht) (nx:Nat),gu B0 w0 g hp.get nx w->yZ hp->
 ∃(g':Gm) (fe:Ht) (fg:Nat) (lss:List (List Value)),gu B0 w0 g' fe.get fg w/\yZ fe/\g.le g'/\nx<=fg/\HE nx hp fe/\gX g' lss.flatten (parts.map (·.2)).flatten/\lss.length=parts.length/\
  ∀(i:Nat) (p:TypeId×List Value) (l:List Value),parts[i]?=some p->lss[i]?=some l->Rp P fe fg n p.1 l/\l.length=P.cellsOf p.1
 |[],_,g,hp,nx,j,o=>⟨g,hp,nx,[],j,o,Gm.le_refl g,Nat.le_refl _,HE.refl _ _,gX.nil g,rfl,fun i p l e=>by simp at e⟩
 |p::ps,h,g,hp,nx,j,o=>by
  obtain⟨g1,J,R,ad,H1,a1,e1,ae,I,r1,af,ag⟩:=h p (List.mem_cons_self ..) g hp nx j o
  obtain⟨g2,jN,oG,lss,U,a2,e2,n2,tD,r2,aa,ab⟩:=Ad ps (fun C fe=>h C (List.mem_cons_of_mem _ fe)) g1 J R H1 a1
  refine⟨g2,jN,oG,ad::lss,U,a2,Gm.le_trans e1 e2,by omega,I.trans tD ae,?_,by simp[aa],fun i C l a b=>?_⟩
  · simp only[List.flatten_cons,List.map_cons]
    exact(r1.mono e2).append r2
  · cases i with
    |zero=>simp at a b;subst a;subst b;exact⟨af.mono tD n2,ag⟩
    |succ i=>exact ab i C l (by simpa using a) (by simpa using b)
theorem F8{cs:List Value}:∀(fs:List Field) (o zf:Nat),Cu P fs o zf=true->cs.length=zf->o<=zf->(fs.map fun f=>(cs.drop f.offset).take (P.cellsOf f.type)).flatten=cs.drop o
 |[],o,zf,h,hl,_=>by
  have:=beq_eq h
  subst this
  simp[hl]
 |f::fs,o,zf,h,hl,hle=>by
  simp only[Cu,Bool.and_eq_true]at h
  have h1:=beq_eq h.1
  have C:o+P.cellsOf f.type<=zf:=j fs _ _ h.2
  rw[List.map_cons,List.flatten_cons,F8 fs _ _ h.2 hl C,h1]
  rw[<-List.drop_drop,List.take_append_drop]
where
 j:∀(fs:List Field) (o zf:Nat),Cu P fs o zf=true->o<=zf
  |[],o,zf,h=>by have:=beq_eq h;omega
  |f::fs,o,zf,h=>by
   simp only[Cu,Bool.and_eq_true]at h
   have:=j fs _ _ h.2
   omega
theorem De{cs:List Value}{s:Nat}:∀(k n:Nat),cs.length=n*s->k<=n->((List.range k).map fun i=>(cs.drop (i*s)).take s).flatten=cs.take (k*s)
 |0,_,_,_=>by simp
 |k+1,n,hl,hk=>by
  rw[List.range_succ,List.map_append,List.flatten_append,De k n hl (by omega)]
  simp only[List.map_cons,List.map_nil,List.flatten_cons,List.flatten_nil,List.append_nil]
  rw[Nat.succ_mul,List.take_add]
theorem OY{j o i:Nat}:(Addr.mk j o none).add i=⟨j,o+i,none⟩:=by
 unfold Addr.add
 split
 · rename_i h;subst h;rfl
 · rfl
theorem H6{a:Addr}{v:Value}(h:w.cell? a=some v):∃rc el j,w.heap[a.block]?=some (.cells rc el j)/\a.spot=none/\rc[a.off]?=some v:=by
 unfold World.cell? at h
 split at h
 · rename_i c el j o
   cases hs:a.spot with
   |none=>rw[hs]at h;exact⟨c,el,j,o,rfl,by simpa using h⟩
   |some _=>simp[hs]at h
 · cases h
theorem BZ{n:Nat}{t:TypeId}{cs:List Value}{x:DataW H×List MemPlace}{held:Bool}(h:DataW.trod enc P w 0 (fun _=>true) held (n+1) t cs=some x):
 (P.underlying t=some .bool->∃b,cs=[.bool b])/\(∀k,P.underlying t=some (.int k)->∃z,cs=[.int k z]/\(Lit.int k z).wf=true)/\(P.underlying t=some .string->∃s,cs=[.string s]/\s.size<=maxLen):=by
 refine⟨fun e=>?_,fun k e=>?_,fun e=>?_⟩
 · unfold DataW.trod at h
   rw[e]at h
   split at h<;>first|(exact⟨_,rfl⟩)|(simp_all;done)
 · unfold DataW.trod at h
   rw[e]at h
   split at h<;>first|skip|(simp_all;done)
   all_goals first|(simp_all;done)|skip
   all_goals (rename_i j o z h1;cases h1;simp only at h;split at h;· rename_i h2;obtain⟨rfl,h3⟩:=h2;exact⟨_,rfl,h3⟩;· cases h)
 · unfold DataW.trod at h
   rw[e]at h
   split at h<;>first|skip|(simp_all;done)
   all_goals first|(simp_all;done)|skip
   all_goals (rename_i s h1;simp only at h;split at h;· rename_i h2;exact⟨_,rfl,h2⟩;· cases h)
theorem trod_string{n:Nat}{t:TypeId}{s:ByteArray}{x:DataW H×List MemPlace}{held:Bool}(e:P.underlying t=some .string)(h:DataW.trod enc P w 0 (fun _=>true) held (n+1) t [.string s]=some x):x.1=.lit (.string s.data.toList):=by
 unfold DataW.trod at h
 rw[e]at h
 simp only at h
 split at h
 · cases h;rfl
 · cases h
theorem xR{e:TypeId}{d:DataW H}:∀{l:List (DataW H)},d∈l->∀k∈d.weights P e,k∈DataW.weightsAll P e l
 |[],h,_,_=>by cases h
 |x::l,h,k,hk=>by
  unfold DataW.weightsAll
  rcases List.mem_cons.1 h with h|h
  · subst h;exact List.mem_append_left _ hk
  · exact List.mem_append_right _ (xR h k hk)
theorem Qe{held:Bool}(aW:∀t,S t=true->zg P S t=true):∀(n:Nat) (t:TypeId) (cs:List Value) (x:DataW H×List MemPlace),DataW.trod enc P w 0 (fun _=>true) held n t cs=some x->(∀k∈x.1.weights P t,k<=reachBytes)->S t=true->Cv P B0 w0 w n t cs:=by
 intro n
 induction n with
 |zero=>intro t cs x h;simp[DataW.trod]at h
 |succ n ih=>
  intro t cs x h ag hs g hp nx an aq
  have J:=aW t hs
  unfold zg at J
  have scalar:∀(v:Value),(∀g':Gm,fQ g' v v)->P.cellsOf t=1->cs=[v]->(Rp P hp nx (n+1) t [v])->Qd P B0 w0 w g hp nx cs fun fe fg ls=>Rp P fe fg (n+1) t ls/\ls.length=P.cellsOf t:=fun v aX hc e hr=>by
   subst e
   exact⟨g,hp,nx,[v],an,aq,Gm.le_refl g,Nat.le_refl _,HE.refl _ _,gX.cons (aX g) (gX.nil g),hr,by rw[hc];rfl⟩
  split at J
  · rename_i e
    obtain⟨b,rfl⟩:=(BZ h).1 e
    exact scalar (.bool b) (fun _=>.bool b) (beq_eq J) rfl (by unfold Rp;rw[e];exact⟨b,rfl⟩)
  · rename_i k e
    obtain⟨z,rfl,hw⟩:=(BZ h).2.1 k e
    exact scalar (.int k z) (fun _=>.int k z) (beq_eq J) rfl (by unfold Rp;rw[e];exact⟨z,rfl,hw⟩)
  · rename_i e
    obtain⟨s,rfl,_⟩:=(BZ h).2.2 e
    have o:=trod_string e h
    have hw:s.size<=reachBytes:=by
     have:=ag s.data.toList.length (by rw[o];simp[DataW.weights])
     rw[Array.length_toList]at this;exact this
    exact scalar (.string s) (fun _=>.string s) (beq_eq J) rfl (by unfold Rp;rw[e];exact⟨s,rfl,hw⟩)
  · rename_i el e
    simp only[Bool.and_eq_true]at J
    obtain⟨hc,aK,av,uY⟩:=J
    have hc:=beq_eq hc
    have av:=mq.1 av
    have uY:=mq.1 uY
    rcases DataW.trod_slice e h with⟨rfl,_⟩|⟨a,len,cap,elems,rest,aP,I,rfl,o,_,aC,a8,hlen,aI,aD,_⟩
    · exact scalar (.slice none 0 0) (fun _=>.pW) hc rfl (by unfold Rp;rw[e];exact .inl rfl)
    · cases I
      rcases Nat.eq_zero_or_pos cap with aw|aw
      · subst aw
        obtain rfl:len=0:=by omega
        exact⟨g,hp,nx,[.slice (some ⟨0,0,none⟩) 0 0],an,aq,Gm.le_refl g,Nat.le_refl _,HE.refl _ _,gX.cons (.nY ⟨0,0,none⟩ a) (gX.nil g),by unfold Rp;rw[e];exact .inr (.inl rfl),by rw[hc];rfl⟩
      · have o:x.1=.slice (elems.map (·.1)) (rest.map (·.1)):=by rw[o]
        have aH:cap<=reachBytes/\cap*P.bytesOf el<=reachBytes:=by
         have h1:=ag ((elems.length+rest.length)*P.bytesOf el) (by rw[o];simp[DataW.weights,e])
         obtain⟨h2,_⟩:=aD rfl
         have h3:=Nat.mul_le_mul_left (elems.length+rest.length) (show 1<=P.bytesOf el by omega)
         have h4:elems.length+rest.length=cap:=by omega
         rw[h4]at h1 h3
         exact⟨by omega,h1⟩
        have aL:∀(i:Nat) (y:DataW H×List MemPlace),elems[i]?=some y->∀k∈y.1.weights P el,k<=reachBytes:=fun i y hy k hk=>by
         refine ag k ?_
         rw[o]
         simp only[DataW.weights,e]
         exact List.mem_cons_of_mem _ (List.mem_append_left _ (xR (List.mem_map.2 ⟨y,List.mem_of_getElem? hy,rfl⟩) k hk))
        have each:∀i,i<cap->∃c,w.cells? 0 (a.add (i*P.cellsOf el)) (P.cellsOf el)=some c/\(i<len->∃x,DataW.trod enc P w 0 (fun _=>true) held n el c=some x/\∀k∈x.1.weights P el,k<=reachBytes):=fun i hi=>by
         rcases Nat.lt_or_ge i len with aA|aA
         · have k:=aI i aA
           rw[List.getElem?_eq_getElem (by omega)]at k
           obtain⟨c,ah,ax⟩:=Option.bind_eq_some_iff.1 k
           exact⟨c,ah,fun _=>⟨_,ax,aL i _ (List.getElem?_eq_getElem (by omega))⟩⟩
         · obtain⟨hr,k⟩:=aD rfl
           have k:=k (i-len) (by omega)
           rw[List.getElem?_eq_getElem (by omega),show len+(i-len)=i by omega]at k
           obtain⟨c,ah,_⟩:=Option.bind_eq_some_iff.1 k
           exact⟨c,ah,fun h=>absurd h (by omega)⟩
        obtain⟨bc,k0,_⟩:=each 0 aw
        obtain⟨_,bg,a6⟩:=World.cells?_some k0
        have q3:=a6 0 av
        rw[List.getElem?_eq_getElem (by omega)]at q3
        have aG:(a.add (0*P.cellsOf el)).add 0=a:=by simp[Addr.add]
        rw[aG]at q3
        obtain⟨rc,rel,bd,aE,al,_⟩:=H6 q3
        obtain⟨aV,ae,a7⟩:=a
        simp only at aE al
        subst al
        have cellAt:∀i,i<cap->∃c,w.cells? 0 ((Addr.mk aV ae none).add (i*P.cellsOf el)) (P.cellsOf el)=some c/\c=(rc.toList.drop (ae+i*P.cellsOf el)).take (P.cellsOf el)/\ae+(i+1)*P.cellsOf el<=rc.size:=fun i hi=>by
         obtain⟨c,ah,_⟩:=each i hi
         obtain⟨_,p1,aZ⟩:=World.cells?_some ah
         have aQ:∀j,j<P.cellsOf el->rc[ae+i*P.cellsOf el+j]?=c[j]?:=fun j hj=>by
          have p4:=aZ j hj
          rw[OY,OY]at p4
          unfold World.cell? at p4
          simp only[aE,Option.isSome_none,Bool.false_eq_true,if_false]at p4
          exact p4
         have aR:=aQ (P.cellsOf el-1) (by omega)
         rw[List.getElem?_eq_getElem (show P.cellsOf el-1<c.length by omega)]at aR
         have bf:=sf aR
         refine⟨c,ah,?_,by rw[Nat.succ_mul];omega⟩
         refine List.ext_getElem? fun j=>?_
         rcases Nat.lt_or_ge j (P.cellsOf el)with hj|hj
         · rw[List.getElem?_take,if_pos hj,List.getElem?_drop,<-aQ j hj];simp
         · rw[List.getElem?_eq_none (by omega),List.getElem?_eq_none (by simp;omega)]
        obtain⟨_,_,_,ad⟩:=cellAt (len-1) (by omega)
        obtain⟨_,_,_,au⟩:=cellAt 0 aw
        have ad:ae+len*P.cellsOf el<=rc.size:=by
         rcases Nat.eq_zero_or_pos len with aB|aB
         · subst aB;simp at au⊢;omega
         · rwa[show len-1+1=len by omega]at ad
        let parts:=(List.range len).map fun i=>(el,(rc.toList.drop (ae+i*P.cellsOf el)).take (P.cellsOf el))
        have C:∀p∈parts,Cv P B0 w0 w n p.1 p.2:=fun p fe=>by
         obtain⟨i,hi,rfl⟩:=List.mem_map.1 fe
         have hi:=List.mem_range.1 hi
         obtain⟨c,ah,ax⟩:=each i (by omega)
         obtain⟨x',ax,aN⟩:=ax hi
         obtain⟨a_,aO,aY,_⟩:=cellAt i (by omega)
         rw[ah]at aO;cases aO
         subst aY
         exact ih el _ x' ax aN aK
        obtain⟨g1,ak,U,lss,H1,a1,e1,ay,af,r1,aj,v1⟩:=Ad parts C g hp nx an aq
        have aa:(parts.map (·.2)).flatten=(rc.toList.drop ae).take (len*P.cellsOf el):=by
         have:=De (cs:=(rc.toList.drop ae).take (len*P.cellsOf el)) (s:=P.cellsOf el) len len (by simp;omega) (Nat.le_refl _)
         rw[List.take_take,Nat.min_self]at this
         rw[<-this]
         simp only[parts,List.map_map]
         congr 1
         refine List.map_congr_left fun i hi=>?_
         have hi:=List.mem_range.1 hi
         have hmul:(i+1)*P.cellsOf el<=len*P.cellsOf el:=Nat.mul_le_mul_right _ (by omega)
         rw[Nat.succ_mul]at hmul
         simp only[Function.comp]
         refine List.ext_getElem? fun j=>?_
         rw[List.getElem?_take,List.getElem?_take]
         split
         · rw[List.getElem?_drop,List.getElem?_drop,List.getElem?_take,if_pos (by omega),List.getElem?_drop,Nat.add_assoc]
         · rfl
        rw[aa]at r1
        obtain⟨g2,aU,a2,e2,b2,tD⟩:=H1.Yj a1 aE ad r1
        refine⟨g2,_,_,[.slice (some ⟨U,0,none⟩) len cap],aU,a2,Gm.le_trans e1 e2,by omega,af.trans tD ay,gX.cons (.slice (off:=0) b2 aC (.inl rfl)) (gX.nil _),?_,by rw[hc];rfl⟩
        unfold Rp
        rw[e]
        refine .inr (.inr ⟨U,len,cap,lss,rfl,aw,aC,aH,Nat.lt_succ_self _,Tr.hY ..,by simpa[parts]using aj,fun l hl=>?_⟩)
        obtain⟨i,hi,rfl⟩:=List.mem_iff_getElem.1 hl
        have R:i<parts.length:=by rw[<-aj];exact hi
        obtain⟨aS,aT⟩:=v1 i _ _ (List.getElem?_eq_getElem R) (List.getElem?_eq_getElem hi)
        have aJ:(parts[i]).1=el:=by simp[parts]
        rw[aJ]at aS aT
        exact⟨aS.mono tD (Nat.le_succ _),aT⟩
  · rename_i fs e
    simp only[Bool.and_eq_true]at J
    obtain⟨xs,aP,I,o,hl,aM,hx⟩:=DataW.trod_struct e h
    cases I
    have o:x.1=.agg (xs.map (·.1)):=by rw[o]
    have C:∀p∈fs.toList.map (fun f=>(f.type,(cs.drop f.offset).take (P.cellsOf f.type))),Cv P B0 w0 w n p.1 p.2:=fun p fe=>by
     obtain⟨f,hf,rfl⟩:=List.mem_map.1 fe
     obtain⟨i,hi,rfl⟩:=List.mem_iff_getElem.1 hf
     have R:i<fs.size:=by simpa using hi
     have k:=hx i fs[i] (Array.getElem?_eq_getElem R)
     rw[List.getElem?_eq_getElem (by omega)]at k
     refine ih _ _ _ k (fun q aF=>ag q ?_) (List.all_eq_true.1 J.1 _ hf)
     rw[o]
     simp only[DataW.weights,e]
     exact DataW.weights_mem_each (j:=i) (t:=fs[i].type) (by rw[List.getElem?_map,Array.getElem?_toList,Array.getElem?_eq_getElem R];rfl) (by rw[List.getElem?_map,List.getElem?_eq_getElem (by omega)];rfl) q aF
    obtain⟨g1,ak,U,lss,H1,a1,e1,ay,af,r1,aj,v1⟩:=Ad _ C g hp nx an aq
    have aa:=F8 (P:=P) (cs:=cs) fs.toList 0 _ J.2 hl (Nat.zero_le _)
    rw[List.map_map]at r1
    have ai:((fun p:TypeId×List Value=>p.2)∘fun f:Field=>(f.type,(cs.drop f.offset).take (P.cellsOf f.type)))=fun f=>(cs.drop f.offset).take (P.cellsOf f.type):=rfl
    rw[ai,aa,List.drop_zero]at r1
    refine⟨g1,ak,U,lss.flatten,H1,a1,e1,ay,af,r1,?_,r1.1.trans hl⟩
    unfold Rp
    rw[e]
    refine⟨lss,rfl,by simpa using aj,fun i f l hf ar=>?_⟩
    exact v1 i (f.type,(cs.drop f.offset).take (P.cellsOf f.type)) l (by rw[List.getElem?_map,Array.getElem?_toList,hf];rfl) ar
  · rename_i m el e
    simp only[Bool.and_eq_true]at J
    have az:=beq_eq J.2
    obtain⟨xs,aP,I,o,hl,aM,hx⟩:=DataW.trod_array e h
    cases I
    have o:x.1=.agg (xs.map (·.1)):=by rw[o]
    have C:∀p∈(List.range m).map (fun i=>(el,(cs.drop (i*P.cellsOf el)).take (P.cellsOf el))),Cv P B0 w0 w n p.1 p.2:=fun p fe=>by
     obtain⟨i,hi,rfl⟩:=List.mem_map.1 fe
     have hi:=List.mem_range.1 hi
     have k:=hx i hi
     rw[List.getElem?_eq_getElem (by omega)]at k
     refine ih _ _ _ k (fun q aF=>ag q ?_) J.1
     rw[o]
     simp only[DataW.weights,e]
     exact xR (List.mem_map.2 ⟨_,List.getElem_mem (by omega),rfl⟩) q aF
    obtain⟨g1,ak,U,lss,H1,a1,e1,ay,af,r1,aj,v1⟩:=Ad _ C g hp nx an aq
    rw[List.map_map]at r1
    have ai:((fun p:TypeId×List Value=>p.2)∘fun i:Nat=>(el,(cs.drop (i*P.cellsOf el)).take (P.cellsOf el)))=fun i=>(cs.drop (i*P.cellsOf el)).take (P.cellsOf el):=rfl
    rw[ai,De m m (hl.trans az) (Nat.le_refl _),List.take_of_length_le (by rw[hl,az];exact Nat.le_refl _)]at r1
    refine⟨g1,ak,U,lss.flatten,H1,a1,e1,ay,af,r1,?_,r1.1.trans hl⟩
    unfold Rp
    rw[e]
    refine⟨lss,rfl,by simpa using aj,fun l ar=>?_⟩
    obtain⟨i,hi,rfl⟩:=List.mem_iff_getElem.1 ar
    have R:i<m:=by rw[aj]at hi;simpa using hi
    exact v1 i (el,(cs.drop (i*P.cellsOf el)).take (P.cellsOf el)) _ (by rw[List.getElem?_map,List.getElem?_range R];rfl) (List.getElem?_eq_getElem hi)
  · cases J
def y0(P:Program)(t:TypeId)(ls:List Value):Value:=match P.underlying t with
 |some (.struct _)=>.agg ls.toArray
 |some (.array _ _)=>.agg ls.toArray
 |_=>ls.headD undef
def xS(P:Program)(hp:Ht)(nx:Nat):List TypeId->List Value->Prop
 |[],[]=>True
 |t::ts,v::vs=>(∃n ls,Rp P hp nx n t ls/\ls.length=P.cellsOf t/\v=y0 P t ls)/\xS P hp nx ts vs
 |_,_=>False
theorem Rv{g:Gm}{r:Reach}{base n:Nat}{hp:Ht}{nx:Nat}{t:TypeId}{ls:List Value}{v:Value}(hs:zg P S t=true)(hr:Rp P hp nx n t ls)(hl:gX g ls v.cells.toList)(j:Value.okWide P w r base t v):fQ g (y0 P t ls) v:=by
 have one:∀x,ls=[x]->(∀cs,v≠.agg cs)->fQ g x v:=fun x hx o=>by
  subst hx
  have:v.cells=#[v]:=by
   cases v<;>first|rfl|exact absurd rfl (o _)
  rw[this]at hl
  exact hl.head
 have many:(∃cs,v=.agg cs)->fQ g (.agg ls.toArray) v:=fun⟨cs,o⟩=>by
  subst o
  have h:=gX.toArray hl
  exact .agg h.1 h.2
 cases n with
 |zero=>exact hr.elim
 |succ n=>
  unfold zg at hs
  unfold y0
  unfold Rp at hr
  unfold Value.okWide at j
  split at hs
  · rename_i e
    rw[e]at hr j⊢
    obtain⟨b,rfl⟩:=hr
    exact one _ rfl fun cs hc=>by subst hc;simp[Cell.okWide,Cell.ok,e]at j
  · rename_i k e
    rw[e]at hr j⊢
    obtain⟨b,rfl,_⟩:=hr
    exact one _ rfl fun cs hc=>by subst hc;simp[Cell.okWide,Cell.ok,e]at j
  · rename_i e
    rw[e]at hr j⊢
    obtain⟨b,rfl,_⟩:=hr
    exact one _ rfl fun cs hc=>by subst hc;simp[Cell.okWide,Cell.ok,e]at j
  · rename_i el e
    rw[e]at hr j⊢
    have o:∀cs,v≠.agg cs:=fun cs hc=>by subst hc;simp[Cell.okWide,Cell.ok,e]at j
    rcases hr with rfl|rfl|⟨b,len,cap,lss,rfl,_⟩
    · exact one _ rfl o
    · exact one _ rfl o
    · exact one _ rfl o
  · rename_i fs e
    rw[e]at j⊢
    obtain⟨cs,hc,_⟩:=j
    exact many ⟨cs,hc⟩
  · rename_i m el e
    rw[e]at j⊢
    obtain⟨cs,hc,_⟩:=j
    exact many ⟨cs,hc⟩
  · cases hs
theorem Kc{held:Bool}{r:Reach}{base:Nat}(aa:∀t,S t=true->zg P S t=true):∀(ts:List TypeId) (vs:List Value) (ds:List (DataW H)) (ps:List MemPlace),DataW.TrodAll enc P w 0 (fun _=>true) held ts vs ds ps->(∀k∈DataW.weightsEach P ts ds,k<=reachBytes)->
 (∀(j:Nat) t v,ts[j]?=some t->vs[j]?=some v->Value.okWide P w r base t v)->(∀t∈ts,S t=true)->∀(g:Gm) (hp:Ht) (nx:Nat),gu B0 w0 g hp.get nx w->yZ hp->Qd P B0 w0 w g hp nx vs fun fe fg o=>xS P fe fg ts o
 |[],[],[],_,_,_,_,_,g,hp,nx,U,ab=>⟨g,hp,nx,[],U,ab,Gm.le_refl g,Nat.le_refl _,HE.refl _ _,gX.nil g,trivial⟩
 |t::ts,v::vs,d::ds,ps,h,R,C,J,g,hp,nx,U,ab=>by
  obtain⟨p,q,⟨fuel,h1⟩,h2,_⟩:=h
  have I:=J t (List.mem_cons_self ..)
  obtain⟨g1,af,ai,ls,H1,a1,e1,aq,ae,r1,ah,an⟩:=Qe aa fuel t _ _ h1 (fun k hk=>R k (by unfold DataW.weightsEach;exact List.mem_append_left _ hk)) I g hp nx U ab
  have al:=Rv (aa t I) ah r1 (C 0 t v rfl rfl)
  obtain⟨g2,jN,oG,o,aj,a2,e2,n2,tD,r2,ao⟩:=Kc aa ts vs ds q h2 (fun k hk=>R k (by unfold DataW.weightsEach;exact List.mem_append_right _ hk)) (fun j ad v' e ak=>C (j+1) ad v' e ak) (fun ad ag=>J ad (List.mem_cons_of_mem _ ag)) g1 af ai H1 a1
  exact⟨g2,jN,oG,y0 P t ls::o,aj,a2,Gm.le_trans e1 e2,by omega,ae.trans tD aq,gX.cons (al.mono e2) r2,⟨fuel,ls,ah.mono tD n2,an,rfl⟩,ao⟩
 |[],_::_,_,_,h,_,_,_,_,_,_,_,_=>h.elim
 |[],[],_::_,_,h,_,_,_,_,_,_,_,_=>h.elim
 |_::_,[],_,_,h,_,_,_,_,_,_,_,_=>h.elim
 |_::_,_::_,[],_,h,_,_,_,_,_,_,_,_=>h.elim
end
def Ae(ng:Nat):Gm:=⟨fun b=>if b<ng then some (b,0)else none,fun _=>none⟩
def H7(kb:List TB)(w:World):Prop:=∀o∈kb,∀(j:Nat) (v:Value),o.cs[j]?=some v->w.cell? ⟨o.num,j,none⟩=some v
def Aw(ng:Nat)(j:TB):Bool:=Nat.blt j.num ng&&(j.cs.all (y6 4)&&(Nat.blt 0 j.cs.length&&!j.mu))
theorem H8:∀(kb:List TB) (h:Ht),kb.all (fun C=>!C.mu)=true->yZ h->yZ (xM kb h)
 |[],_,_,j=>j
 |C::kb,h,hg,j=>by
  simp only[List.all_cons,Bool.and_eq_true,Bool.not_eq_true']at hg
  refine H8 kb _ hg.2 fun b o e=>?_
  unfold BV at e
  rw[hg.1,cond_false,Tr.nJ]at e
  by_cases hb:b=0+C.num
  · subst hb;rw[Hp.jH]at e;cases e;exact⟨_,_,rfl,rfl⟩
  · rw[Hp.gP _ _ hb]at e;exact j b o e
theorem Kd{kb:List TB}{ng:Nat}{w:World}(hs:ng<=w.heap.size)(hn:s8 0 ng kb=true)(J:kb.all (Aw ng)=true)(hl:H7 kb w):gu w.heap.size w (Ae ng) (xM kb .nil).get ng w/\yZ (xM kb .nil):=by
 have ad:gu w.heap.size w (Ae ng) (Tr.nil:Ht).get ng w:=by
  refine⟨pB.refl _ _,Nat.le_refl _,fun b rb ro k=>?_,fun b o k=>(by cases k),fun b ms k=>(by cases k),fun b cs m gr k=>(by cases k),fun b1 b2 o1 o2 r r1 r2 _ k=>(by cases k),fun b x k=>by cases k⟩
  simp only[Ae]at k
  split at k
  · cases k;exact⟨by omega,by omega⟩
  · cases k
 refine⟨Jd (xO:=fun _=>True) kb 0 .nil hn ad (fun rb _ b o r1 k=>by cases k) (fun b _=>rfl) (fun j I hg=>?_) (fun j I rb ro k=>?_),H8 kb _ ?_ fun b o e=>by cases e⟩
 · exfalso
   have:=List.all_eq_true.1 J j I
   simp only[Aw,Bool.and_eq_true,Bool.not_eq_true']at this
   rw[this.2.2.2]at hg;cases hg
 · refine⟨trivial,?_⟩
   rw[Nat.zero_add]at k⊢
   have:=List.all_eq_true.1 J j I
   simp only[Aw,Bool.and_eq_true,Bool.not_eq_true']at this
   obtain⟨aa,c1,c2,ae⟩:=this
   have aa:=mq.1 aa
   have c2:=mq.1 c2
   simp only[Ae,if_pos aa]at k
   cases k
   have C:=hl j I
   have hex:∃rc el R,w.heap[j.num]?=some (.cells rc el R)/\j.cs.length<=rc.size:=by
    have h1:=C (j.cs.length-1) j.cs[j.cs.length-1] (List.getElem?_eq_getElem (by omega))
    obtain⟨rc,el,R,U,_,h2⟩:=H6 h1
    exact⟨rc,el,R,U,by have:=sf h2;simp only at this;omega⟩
   obtain⟨rc,el,R,U,af⟩:=hex
   refine⟨_,U,⟨by omega,fun i v v' e ab=>?_,(fun k=>by cases k),(fun gr k=>by rw[ae]at k;cases k),(fun _=>rfl)⟩⟩
   have h2:=C i v e
   unfold World.cell? at h2
   simp only[U,Option.isSome_none,Bool.false_eq_true,if_false]at h2
   rw[Nat.zero_add]at ab
   rw[ab]at h2
   cases h2
   exact fQ.GF _ 4 v (List.all_eq_true.1 c1 v (List.mem_of_getElem? e))
 · exact List.all_eq_true.2 fun j I=>by
    have:=List.all_eq_true.1 J j I
    simp only[Aw,Bool.and_eq_true]at this
    exact this.2.2.2
theorem TF(ng:Nat):kT (Ae ng) ng:=fun i hi=>by simp[Ae,hi]
end
end Sw
namespace Sw
noncomputable section
open Go Go.RowKit Go.ChangeShapes
section
variable {H:Type}{enc:TypeId×Value->H}{P:Program}
theorem DN(hl:laidOutB P=true){W j:World}(hb:Below W.heap.size W j):∀{ts:List TypeId} {vs:List Value} {ds:List (DataW H)} {ps:List MemPlace},(∀t∈ts,P.readableRec t=true/\t<P.types.size)->
 DataW.TrodAll enc P W 0 (fun _=>true) true ts vs ds ps->(∀x∈ps,x.block<W.heap.size)->DataW.TrodAll enc P j 0 (fun b=>decide (b<W.heap.size)) true ts vs ds ps
 |[],[],[],_,_,h,_=>h
 |t::ts,v::vs,d::ds,_,hr,h,jz=>by
  obtain⟨p,q,h1,h2,rfl⟩:=h
  obtain⟨r1,r2⟩:=hr t (List.mem_cons_self ..)
  exact⟨p,q,Below.trod hl r1 r2 h1 hb (fun x hx=>jz x (List.mem_append_left _ hx)),DN hl hb (fun t o=>hr t (List.mem_cons_of_mem _ o)) h2 (fun x hx=>jz x (List.mem_append_right _ hx)),rfl⟩
 |[],_::_,_,_,_,h,_=>h.elim
 |[],[],_::_,_,_,h,_=>h.elim
 |_::_,[],_,_,_,h,_=>h.elim
 |_::_,_::_,[],_,_,h,_=>h.elim
theorem Rw{f:Func}{s:ChangeSpec}{apart fresh handsOn:Bool}{W o:World}{args:Array Value}{ds gs:List (DataW H)}{before:List MemPlace}{t:TypeId}(hl:laidOutB P=true)
 (C:DataW.Whole enc P f.params.toList s.vars apart W args.toList ds gs before) (J:s.vars=[]) (hs:s.fn H (ds++gs)={results:=[.lit (.bool true)],args:=ds}) (hr:f.resultTypes=#[t]) (hu:P.underlying t=some .bool)
 (hp:∀t∈f.params.toList,P.readableRec t=true/\t<P.types.size) (hb:Below W.heap.size W o):s.post enc P f apart fresh handsOn false W args (.bool true) o:=by
 have j:=C
 obtain⟨p,q,I,R,rfl,_,_⟩:=C
 refine⟨ds,gs,p++q,[],p,[],j,?_,?_,?_,?_,fun h=>by cases h⟩
 · rw[hs,hr]
   exact trodAll_mk1 (shut_bool hu true)
 · rw[hs]
   exact DN hl hb hp I (fun x hx=>j.lt x (List.mem_append_left _ hx))
 · rw[hs,J];rfl
 · exact hb.frame _
theorem AY{us:List TypeId}{gs:List (DataW H)}:∀{ts:List TypeId} {ds:List (DataW H)} {k:Nat},k∈DataW.weightsEach P ts ds->k∈DataW.weightsEach P (ts++us) (ds++gs)
 |[],_,_,h=>by simp[DataW.weightsEach]at h
 |_::_,[],_,h=>by simp[DataW.weightsEach]at h
 |t::ts,d::ds,k,h=>by
  simp only[List.cons_append,DataW.weightsEach]at h⊢
  rcases List.mem_append.1 h with h|h
  · exact List.mem_append_left _ h
  · exact List.mem_append_right _ (AY h)
theorem My{C:Checked}{os:Os}{f:FuncId}{fn:Func}{s:ChangeSpec}{apart fresh handsOn:Bool}{X:World->Array Value->Prop}{t:TypeId}
 (ao:∀(w w':World) (args:Array Value),w.heap=w'.heap->X w args->X w' args)
 (own:ownKnob C.prog.godebug=none) (started:os.Started) (J:C.prog.inits.idxOf? f=none) (ag:C.prog.funcs[f]?=some fn)
 (witness:∃(w:World) (tape:Tape) (i:Input),w.os=os/\(w.forCall tape i).Shaped C.prog/\i.vars=[]/\Input.okWide C.prog (w.forCall tape i) .any w.heap.size f i/\
   ((s.pre enc C.prog fn [] apart (w.forCall tape i).memory i.args/\X (w.forCall tape i).memory i.args)/\sizedMet enc C.prog fn (OpenSpec.ofChange s) apart (w.forCall tape i).memory i.args)/\({}:Assume).holds C.prog (lone (Frame.enter C.prog f i.args .normal) [] (w.forCall tape i)))
 (hl:laidOutB C.prog=true) (ak:s.vars=[]) (hr:fn.resultTypes=#[t]) (hu:C.prog.underlying t=some .bool) (hp:∀t∈fn.params.toList,C.prog.readableRec t=true/\t<C.prog.types.size)
 (o:∀(W:World) (base:Nat) (args:Array Value) (ds gs:List (DataW H)) (before p:List MemPlace),
   (∀(j:Nat) t v,fn.params[j]?=some t->args[j]?=some v->Value.okWide C.prog W .any base t v)->
   DataW.TrodAll enc C.prog W 0 (fun _=>true) true fn.params.toList args.toList ds p->(∀k∈DataW.weightsEach C.prog fn.params.toList ds,k<=reachBytes)->gs=[]->
   X W args->W.ShapedOpen C.prog->
   s.fn H (ds++gs)={results:=[.lit (.bool true)],args:=ds}/\Calls C.prog f args W fun e ad=>e=.returned (.bool true)/\Below W.heap.size W ad):
 ReturnsInHanded {} C os f .any (fun w args=>(s.pre enc C.prog fn [] apart w args/\X w args)/\sizedMet enc C.prog fn (OpenSpec.ofChange s) apart w args) (s.post enc C.prog fn apart fresh handsOn false):=by
 refine returnsInHanded_of_calls own started J witness ?_
 intro w tape i _ aj _ ai aa _
 obtain⟨_,_,_,ae,U,_,_,_,_,ab⟩:=ai
 have e:ae=fn:=Option.some.inj (U.symm.trans ag)
 subst e
 obtain⟨⟨⟨ds,gs,before,hw,hc⟩,hx⟩,aq⟩:=aa
 have R:=DataW.Whole.of_heap (w':=w.forCall tape i) (by rfl) hw
 have al:=R
 obtain⟨p,q,an,af,_,_,_⟩:=al
 have ah:gs=[]:=by
  rw[ak]at af
  cases gs with
  |nil=>rfl
  |cons a b=>exact af.elim
 obtain⟨hs,I⟩:=o (w.forCall tape i) w.heap.size i.args ds gs before p ab an (fun k hk=>of_decide_eq_true (List.all_eq_true.1 (sizedMet.weights aq hw) k (AY hk))) ah (ao _ _ _ (by rfl) hx) aj
 refine I.mono fun e ad ⟨he,hb⟩=>?_
 subst he
 exact ChangeSpec.post_blind (Rw hl R ak hs hr hu hp hb)
end
end
end Sw
namespace Sw
noncomputable section
open Go Go.RowKit Go.ChangeShapes
section
variable {P:Program}{hp:Ht}{nx:Nat}
def Bv(P:Program)(t:TypeId):Option (List TypeId):=match P.underlying t with
 |some (.struct fs)=>some (fs.toList.map (·.type))
 |_=>none
def vY(P:Program)(hp:Ht)(nx n:Nat):List TypeId->List (List Value)->Prop
 |[],[]=>True
 |t::ts,l::ls=>Rp P hp nx n t l/\vY P hp nx n ts ls
 |_,_=>False
theorem vY.of{n:Nat}:∀(ts:List TypeId) (lss:List (List Value)),lss.length=ts.length->(∀(i:Nat) (t:TypeId) (l:List Value),ts[i]?=some t->lss[i]?=some l->Rp P hp nx n t l)->vY P hp nx n ts lss
 |[],[],_,_=>trivial
 |t::ts,l::ls,h,k=>⟨k 0 t l rfl rfl,vY.of ts ls (by simpa using h) fun i o j a b=>k (i+1) o j a b⟩
 |[],_::_,h,_=>by simp at h
 |_::_,[],h,_=>by simp at h
theorem Rp.fields{k:Nat}{t:TypeId}{ls:List Value}{ts:List TypeId}(hu:Bv P t=some ts)(h:Rp P hp nx k t ls):∃n lss,ls=lss.flatten/\vY P hp nx n ts lss:=by
 cases k with
 |zero=>exact h.elim
 |succ n=>
  unfold Bv at hu
  unfold Rp at h
  split at hu
  · rename_i fs e
    cases hu
    rw[e]at h
    obtain⟨lss,h1,h2,h3⟩:=h
    refine⟨n,lss,h1,vY.of _ _ (by simpa using h2) fun i t l a b=>?_⟩
    rw[List.getElem?_map,Array.getElem?_toList,Option.map_eq_some_iff]at a
    obtain⟨f,hf,rfl⟩:=a
    exact(h3 i f l hf b).1
  · cases hu
theorem Rp.int{k:Nat}{t:TypeId}{ls:List Value}{ik:IntKind}(hu:P.underlying t=some (.int ik))(h:Rp P hp nx k t ls):∃z:Int,ls=[.int ik z]/\(Lit.int ik z).wf=true:=by
 cases k with
 |zero=>exact h.elim
 |succ n=>unfold Rp at h;rw[hu]at h;exact h
theorem Rp.bool{k:Nat}{t:TypeId}{ls:List Value}(hu:P.underlying t=some .bool)(h:Rp P hp nx k t ls):∃b:Bool,ls=[.bool b]:=by
 cases k with
 |zero=>exact h.elim
 |succ n=>unfold Rp at h;rw[hu]at h;exact h
theorem Rp.string{k:Nat}{t:TypeId}{ls:List Value}(hu:P.underlying t=some .string)(h:Rp P hp nx k t ls):∃s:ByteArray,ls=[.string s]/\s.size<=reachBytes:=by
 cases k with
 |zero=>exact h.elim
 |succ n=>unfold Rp at h;rw[hu]at h;exact h
theorem GQ{α:Type}{enc:α->List Value}{E:α->Prop}:∀(lss:List (List Value)),(∀l∈lss,∃x,l=enc x/\E x)->∃xs:List α,lss=xs.map enc/\∀x∈xs,E x
 |[],_=>⟨[],rfl,fun x h=>by cases h⟩
 |l::lss,h=>by
  obtain⟨x,rfl,hx⟩:=h l (List.mem_cons_self ..)
  obtain⟨xs,rfl,j⟩:=GQ lss fun l hl=>h l (List.mem_cons_of_mem _ hl)
  exact⟨x::xs,rfl,fun y hy=>by
   rcases List.mem_cons.1 hy with rfl|hy
   · exact hx
   · exact j y hy⟩
theorem Rp.slice{α:Type}{enc:α->List Value}{m:Nat}{E:Ht->Nat->α->Prop}{k:Nat}{t e:TypeId}{ls:List Value}(hu:P.underlying t=some (.slice e))(hlen:∀x,(enc x).length=m)(he:∀k l,Rp P hp nx k e l->∃x:α,l=enc x/\E hp nx x)(h:Rp P hp nx k t ls):
 ∃s:SV α,ls=[s.v]/\jt enc m E hp nx s:=by
 cases k with
 |zero=>exact h.elim
 |succ n=>
  unfold Rp at h;rw[hu]at h
  rcases h with rfl|rfl|⟨b,len,cap,lss,rfl,h0,I,j,hb,C,hl,hr⟩
  · exact⟨⟨_,[]⟩,rfl,⟨fun x h=>(by cases h),.inl ⟨rfl,.inl rfl⟩,by show(0:Nat)<_;decide⟩,fun x h=>(by cases h)⟩
  · exact⟨⟨_,[]⟩,rfl,⟨fun x h=>(by cases h),.inl ⟨rfl,.inr ⟨0,rfl⟩⟩,by show(0:Nat)<_;decide⟩,fun x h=>(by cases h)⟩
  · obtain⟨xs,rfl,o⟩:=GQ lss fun l hl=>he n l (hr l hl).1
    rw[List.length_map]at hl
    refine⟨⟨_,xs⟩,rfl,⟨fun x _=>hlen x,.inr ⟨b,cap,_,by rw[<-hl],h0,hb,by rw[C,List.flatMap_def],by show xs.length<=cap;omega,.inl rfl⟩,?_⟩,o⟩
    have:reachBytes<281474976710656:=by decide
    have:=j.1
    show xs.length<_
    omega
theorem Rp.vk{α:Type}{enc:α->List Value}{m:Nat}{k:Nat}{t e:TypeId}{ls:List Value}(hu:P.underlying t=some (.slice e))(hlen:∀x,(enc x).length=m)(he:∀k l,Rp P hp nx k e l->∃x:α,l=enc x)(h:Rp P hp nx k t ls):
 ∃s:SV α,ls=[s.v]/\gA enc m hp nx s:=by
 obtain⟨s,h1,h2⟩:=Rp.slice (E:=fun _ _ _=>True) hu hlen (fun k l h=>by obtain⟨x,hx⟩:=he k l h;exact⟨x,hx,trivial⟩) h
 exact⟨s,h1,h2.1⟩
end
theorem Mz{hp fe:Ht}(h:∀b o,hp.get b=some o->fe.get b=some o):∀(kb:List TB) (A:mF) {j:mF},HU hp false kb A=some j->HU fe false kb A=some j
 |[],A,j,k=>k
 |C::kb,A,j,k=>by
  unfold HU at k⊢
  cases hl:look C.num A with
  |none=>rw[hl]at k;cases k
  |some b=>
   rw[hl]at k
   simp only at k⊢
   cases hb:hp.get b with
   |none=>rw[hb]at k;cases k
   |some o=>
    rw[hb]at k
    rw[h b o hb]
    cases o with
    |cells cs m=>
     simp only at k⊢
     cases hg:z6 m C&&(!false||!m.ro)with
     |false=>rw[hg]at k;cases k
     |true=>
      rw[hg]at k
      simp only[cond_true]at k⊢
      cases hm:Ez (DJ 8) cs C.cs A with
      |none=>rw[hm]at k;cases k
      |some I=>rw[hm]at k;exact Mz h kb I k
    |_=>cases k
def Qf(ng:Nat)(kb:List TB):Bool:=match HU (xM kb .nil) false kb (U_ ng)with
 |some j=>xi j kb&&Co ng j
 |none=>false
theorem Rx{ng:Nat}{kb:List TB}(hk:Qf ng kb=true){hp:Ht}{nx:Nat}(h:∀b o,(xM kb .nil).get b=some o->hp.get b=some o):yY ng [⟨[],kb,ng,.bool true,[],0⟩] [] hp nx=some (.bool true,hp,nx):=by
 unfold Qf at hk
 split at hk
 · rename_i j e
   rw[Bool.and_eq_true]at hk
   have e2:=Mz h kb (U_ ng) e
   have:Jb ng ⟨[],kb,ng,.bool true,[],0⟩ [] hp nx=some (.bool true,hp,nx):=by
    unfold Jb
    simp only[Ez,e2,hk.1,hk.2,Bool.and_self,cond_true]
    rfl
   simp only[yY,this]
 · cases hk
theorem VP{e:Env}{ng:Nat}{kb:List TB}{f:FuncId}(hK:e.K f=some (xN ng [⟨[],kb,ng,.bool true,[],0⟩]))(hk:Qf ng kb=true){hp:Ht}{nx:Nat}(h:∀b o,(xM kb .nil).get b=some o->hp.get b=some o):WF e f [] hp nx (fO nx hp (gk True)):=
 .W_ hK (Rx hk h) ⟨⟨true,rfl,fun _=>trivial,fun _=>rfl⟩,Nat.le_refl _,HE.refl _ _⟩
theorem qk.TG{P:Program}{B0:Nat}{w0:World}{g:Gm}{hp:Ht}{nx:Nat}{w:World}{f:FuncId}{args:Array Value}{v v':Value}(H:gu B0 w0 g hp.get nx w)(j:fQ g v v')(h:Calls P f args w fun e w'=>e=.returned v'/\pB w.heap.size w w')(fs:List Frame):
 qk P B0 w0 .normal g nx f args w v hp nx fs:=by
 obtain⟨e,w',fr,⟨rfl,hb⟩,st,hf,h1,h2,h3,h4⟩:=h fs
 exact⟨v',w',g,H.later hb (Gm.le_refl g) (Nat.le_refl _) (fun _ _=>rfl) (fun b rb ro k=>⟨(H.rq b rb ro k).1,Nat.lt_of_lt_of_le (H.rq b rb ro k).2 hb.b.size⟩) H.room,j,
  ⟨xH.refl _ _,⟨hb.b.size,fun rb jz _=>hb.b.block rb jz⟩,pk.refl _ _⟩,fr,st,h1,h2,h3,hf,h4⟩
theorem qk.MA{P:Program}{B0:Nat}{w0:World}{g:Gm}{hp:Ht}{nx:Nat}{w:World}{f:FuncId}{args:Array Value}{v v':Value}(H:gu B0 w0 g hp.get nx w)(j:fQ g v v')(h:Calls P f args w fun e w'=>e=.returned v'/\w'=w)(fs:List Frame):
 qk P B0 w0 .normal g nx f args w v hp nx fs:=
 .TG H j (h.mono fun _ _ ⟨a,b⟩=>⟨a,b▸pB.refl _ _⟩) fs
theorem H9{B0:Nat}{w0 w:World}(h:Below B0 w0 w){b o:Nat}(hb:b<B0):w.cell? ⟨b,o,none⟩=w0.cell? ⟨b,o,none⟩:=by
 unfold World.cell?
 simp only[h.block b hb]
theorem WF.Ry{P:Program}{ng B0:Nat}{w0:World}{e:Env}{g:Gm}{hp:Ht}{nx:Nat}{w:World}(ok:mE P ng e)(mL:rW P ng B0 w0 e)(H:gu B0 w0 g hp.get nx w)(hg:kT g ng){f:FuncId}{l:List Value}{args:Array Value}(hl:gX g l args.toList)
 (h:WF e f l hp nx (fun v _ _=>v=.bool true)):Calls P f args w fun o w'=>o=.returned (.bool true)/\Below B0 w0 w':=by
 obtain⟨v,fe,fg,⟨j,h1⟩,rfl⟩:=h
 refine Sw.P1 ok mL H hg hl j 1 ?_
 simp only[explore,h1 j (Nat.le_refl _)]
 rfl
theorem gk.isTrue{v:Value}(h:gk True v):v=.bool true:=by
 obtain⟨c,rfl,h⟩:=h
 rw[h.2 trivial]
theorem MB{w:World}{b o:Nat}{v:Value}(h:w.cell? ⟨b,o,none⟩=some v):b<w.heap.size:=by
 unfold World.cell? at h
 simp only at h
 split at h
 · rename_i c el C j;exact(Array.getElem?_eq_some_iff.1 j).1
 · cases h
theorem F9{H:Type}{enc:TypeId×Value->H}{P:Program}{w:World}{low:Nat}{spare:Nat->Bool}{held:Bool}:∀{ts:List TypeId} {vs:List Value} {ds:List (DataW H)} {ps:List MemPlace},DataW.TrodAll enc P w low spare held ts vs ds ps->ds.length=ts.length
 |[],[],[],_,_=>rfl
 |_::_,_::_,_::_,_,h=>by obtain⟨_,_,_,h2,_⟩:=h;simp[F9 h2]
 |[],_::_,_,_,h=>h.elim
 |[],[],_::_,_,h=>h.elim
 |_::_,[],_,_,h=>h.elim
 |_::_,_::_,[],_,h=>h.elim
theorem Rz{m N t:Nat}(h:Nat.blt m (2^N)=true)(hs:has m t=true):t<N:=by
 rcases Nat.lt_or_ge t N with j|j
 · exact j
 · exfalso
   have:m<2^t:=Nat.lt_of_lt_of_le (mq.1 h) (Nat.pow_le_pow_right (by decide) j)
   unfold has at hs
   rw[Nat.testBit_lt_two_pow this]at hs;cases hs
theorem RA{H:Type}{enc:TypeId×Value->H}{P:Program}{ng:Nat}{e:Env}{S:TypeId->Bool}{kb:List TB}{f:FuncId}{W:World}{base:Nat}{ts:List TypeId}{args:Array Value}{ds:List (DataW H)}{p:List MemPlace}
 (ok:mE P ng e) (mL:rW P ng W.heap.size W e) (hs:ng<=W.heap.size) (hn:s8 0 ng kb=true) (R:kb.all (Aw ng)=true) (hl:H7 kb W) (ag:∀t,S t=true->zg P S t=true)
 (af:DataW.TrodAll enc P W 0 (fun _=>true) true ts args.toList ds p) (ab:∀k∈DataW.weightsEach P ts ds,k<=reachBytes) (I:∀(j:Nat) t v,ts[j]?=some t->args[j]?=some v->Value.okWide P W .any base t v) (aa:∀t∈ts,S t=true)
 (h:∀(hp:Ht) (nx:Nat) (C:List Value),xS P hp nx ts C->(∀(fe:Ht) (fg:Nat),nx<=fg->HE nx hp fe->∀b o,(xM kb .nil).get b=some o->fe.get b=some o)->WF e f C hp nx (fO nx hp (gk True))):
 Calls P f args W fun ae ad=>ae=.returned (.bool true)/\Below W.heap.size W ad:=by
 obtain⟨J,a0⟩:=Kd hs hn R hl
 obtain⟨g,hp,nx,C,H1,a1,e1,ak,he,r1,ai⟩:=Kc (B0:=W.heap.size) (w0:=W) ag ts args.toList ds p af ab (fun j t v a b=>I j t v a (by simpa using b)) aa (Ae ng) (xM kb .nil) ng J a0
 refine WF.Ry ok mL H1 ((TF ng).mono e1) r1 ((h hp nx C ai fun fe fg aj U b o hb=>?_).mono fun v _ _ ah=>ah.1.isTrue)
 have jz:b<ng:=(J.live b o hb).1
 rw[U b (by omega),he b jz];exact hb
end
end Sw
namespace Sw
noncomputable section
open Go Go.RowKit Go.Sort Go.Proofs
section
variable {α:Type}{enc:α->List Value}{n k B b gr:Nat}{hp:Ht}{nx:Nat}{L L':List α}
theorem Qg{β:Type}{xs j:List β}(h:xs.length=j.length):mo xs 0 j=some j:=by
 rw[F4];have:=C_ xs j [] h;simpa using this
theorem td.put(h:td enc n B b gr hp nx L)(hlen:(L'.flatMap enc).length=(L.flatMap enc).length):
 ∃jA,nU hp.get b (L.flatMap enc) ⟨false,some gr,0,n⟩ 0 (L'.flatMap enc)=some jA/\td enc n B b gr (jg jA hp) nx L'/\HE B hp (jg jA hp):=by
 obtain⟨h1,⟨ms,h2,h3⟩,h4,U,aa,ab⟩:=h
 have o:b≠gr:=fun e=>by rw[e,h2]at h1;cases h1
 let ov:=overlaps b (0+0) (0+0+(L'.flatMap enc).length)
 have C:nT hp.get ov ms=true:=List.all_eq_true.2 fun e he=>by
  have:=(h3 e (List.mem_filter.1 he).1).2.2.2.2
  split
  · rename_i l k;exact absurd k (this l)
  · rfl
 have I:mo (L.flatMap enc) 0 (L'.flatMap enc)=some (L'.flatMap enc):=Qg hlen.symm
 have J:nU hp.get b (L.flatMap enc) ⟨false,some gr,0,n⟩ 0 (L'.flatMap enc)=some (mN ov ms++[(gr,some (.group (ms.filter fun e=>!(ov e)))),(b,some (.cells (L'.flatMap enc) ⟨false,some gr,0,n⟩))]):=by
  simp only[nU,cond_false,I,Option.bind_some,h2]
  show(bif nT hp.get ov ms then _ else none)=_
  rw[C];rfl
 refine⟨_,J,?_,?_⟩
 · rw[uy]
   have e0:∀c,c≠b->c≠gr->(jg [(gr,some (jM.group (ms.filter fun e=>!(ov e)))),(b,some (.cells (L'.flatMap enc) ⟨false,some gr,0,n⟩))] (jg (mN ov ms) hp)).get c=(jg (mN ov ms) hp).get c:=fun c c1 c2=>(Tr.gC _ _ c1).trans (Tr.gC _ _ c2)
   refine⟨Tr.hY ..,⟨ms.filter fun e=>!(ov e),(Tr.gC _ _ o.symm).trans (Tr.hY ..),fun e he=>?_⟩,h4,U,aa,ab⟩
   obtain⟨ad,ae,af,R,ag⟩:=h3 e (List.mem_filter.1 he).1
   refine⟨by rw[hlen];exact ad,ae,af,R,fun l j=>?_⟩
   by_cases hb:e.gb=b
   · rw[hb]at j
     have:some (jM.group l)=some (jM.cells (L'.flatMap enc) (⟨false,some gr,0,n⟩:gl)):=j.symm.trans (Tr.hY ..)
     cases this
   · rw[e0 e.gb hb R]at j
     rcases C9 (c:=e.gb) (ms.filter ov) hp with q|q
     · have:=q.symm.trans j;cases this
     · exact ag l (q.symm.trans j)
 · intro c hc
   rw[uy]
   refine(Tr.gC _ _ (by omega)).trans ((Tr.gC _ _ (by omega)).trans ?_)
   exact AS (ms.filter ov) hp fun e he=>by have:=(h3 e (List.mem_filter.1 he).1).2.1;omega
theorem H_ [Inhabited α](hk:∀x,(enc x).length=k)(L:List α):(flatK enc k L.toArray).toList=L.flatMap enc:=by
 have hl:=nm L fun x _=>hk x
 apply List.ext_getElem?
 intro t
 by_cases j:t<L.length*k
 · have k0:0<k:=by rcases Nat.eq_zero_or_pos k with h|h
                   · subst h;simp at j
                   · exact h
   have hi:t/k<L.length:=by rw[Nat.div_lt_iff_lt_mul k0];exact j
   have hx:L[t/k]?=some L[t/k]:=List.getElem?_eq_getElem hi
   have hm:=Nat.mod_lt t k0
   have e1:(L.flatMap enc)[t]?=(enc L[t/k])[t%k]?:=by
    have:=J9 (enc:=enc) (n:=k) (fun y _=>hk y) hx hm
    rwa[Nat.mul_comm,Nat.div_add_mod]at this
   have e2:(flatK enc k L.toArray)[t]! =(enc L[t/k])[t%k]!:=by
    rw[get_flatK _ _ _ t (by simpa using j)];simp[hi]
   have h1:t<(flatK enc k L.toArray).size:=by simpa using j
   rw[e1,Array.getElem?_toList,Array.getElem?_eq_getElem h1]
   have h2:t%k<(enc L[t/k]).length:=by rw[hk];exact hm
   rw[List.getElem?_eq_getElem h2]
   rw[getElem!_pos _ t h1,getElem!_pos _ (t%k) h2]at e2
   rw[e2]
 · rw[List.getElem?_eq_none (by simp;omega),List.getElem?_eq_none (by rw[hl];omega)]
theorem Qh [Inhabited α]{P:Program}{B0:Nat}{w0:World}{g:Gm}{w:World}{f:FuncId}{args:Array Value}{rb ro:Nat}{m:gl}{jA:tH}(H:gu B0 w0 g hp.get nx w)(hb:hp.get b=some (.cells (L.flatMap enc) m))(ar:m.ro=false)(ad:g.gb b=some (rb,ro))
 (hk:∀x,(enc x).length=k) (ao:∀x,∀v∈enc x,∃i z,v=.int i z) (hu:nU hp.get b (L.flatMap enc) m 0 (L'.flatMap enc)=some jA) (ae:L'.length=L.length)
 (af:HoldsK enc k w rb ro L.toArray->rb<w.heap.size->Calls P f args w fun e w'=>e=.returned (.tuple #[])/\∃q os,w'=sortWorldK enc k w rb ro q L'.toArray os) (fs:List Frame):
 qk P B0 w0 .normal g nx f args w (.tuple #[]) (jg jA hp) nx fs:=by
 obtain⟨rc,el,ax,a2,a3⟩:=H.uG hb ad
 obtain⟨aB,ay,az,aC,_⟩:=a3
 have hl:=nm L fun x _=>hk x
 have ag:=nm L' fun x _=>hk x
 have I:∀(M:List α),∀v∈M.flatMap enc,∃i z,v=.int i z:=fun M v J=>by
  obtain⟨x,_,hx⟩:=List.mem_flatMap.1 J
  exact ao x v hx
 have U:∀j v,(L.flatMap enc)[j]?=some v->w.cell? ⟨rb,ro+j,none⟩=some v:=fun j v J=>by
  have hj:=(List.getElem?_eq_some_iff.1 J).1
  have hr:rc[ro+j]?=some rc[ro+j]:=Array.getElem?_eq_getElem (by omega)
  have:=ay j v _ J hr
  obtain⟨i,z,rfl⟩:=I L v (List.mem_of_getElem? J)
  simp only[World.cell?,a2,hr,this.kQ];rfl
 have aa:∀j,j<(L.flatMap enc).length->w.frozen? ⟨rb,ro+j,none⟩=false:=fun j hj=>by
  have:=(az ar).2.free (ro+j) (by omega)
  simp only[World.frozen?,a2]
  obtain⟨lo,hi⟩:=ax
  simp only at this⊢
  simp;omega
 have hH:HoldsK enc k w rb ro L.toArray:=fun j hj=>by
  have hs:j<(flatK enc k L.toArray).toList.length:=by simpa using hj
  have e:(flatK enc k L.toArray).toList[j]?=some (flatK enc k L.toArray)[j]!:=by
   rw[Array.getElem?_toList,Array.getElem?_eq_getElem hj,getElem!_pos _ j hj]
  rw[H_ hk]at e hs
  exact⟨U j _ e,aa j hs⟩
 have aq:rb<w.heap.size:=(H.rq b rb ro ad).2
 obtain⟨e,w',fr,⟨rfl,q,os,rfl⟩,st,hf,h1,h2,h3,h4⟩:=af hH aq fs
 have ak:∀v∈L'.flatMap enc,one v=true:=fun v J=>by obtain⟨i,z,rfl⟩:=I L' v J;rfl
 have au:gX g (L'.flatMap enc) (L'.flatMap enc):=⟨rfl,fun i v v' e1 e2=>by
  rw[e1]at e2;cases e2
  obtain⟨i,z,rfl⟩:=I L' v (List.mem_of_getElem? e1)
  exact .int _ _⟩
 obtain⟨R,r1,r2,aA,aw⟩:=vK (P:=P) H hb ad hu au ak
 have e1:R=w.setCells rb ro (L'.flatMap enc):=by
  have hr:=Go.run_storeCells_cells (P:=P) rb ro (L'.flatMap enc) 0 w (fun j hj=>by
   have al:j<(L.flatMap enc).length:=by rw[hl];rw[ag,ae]at hj;exact hj
   rw[Nat.add_zero,U j _ (List.getElem?_eq_getElem al)];rfl) (fun j hj=>by
   rw[Nat.add_zero];exact aa j (by rw[hl];rw[ag,ae]at hj;exact hj)) (fun v J=>by obtain⟨i,z,rfl⟩:=I L' v J;rfl)
  have av:(storeCells ⟨rb,ro,none⟩ (L'.flatMap enc)).run P w=.ok () R:=r1
  rw[av,Nat.add_zero]at hr
  cases hr;rfl
 have e2:sortWorldK enc k w rb ro q L'.toArray os=grow (R.drewN q) os:=by
  unfold sortWorldK putRowK
  have:=Go.Lib.putRow_eq_setCells id w rb ro (flatK enc k L.toArray) (flatK enc k L'.toArray).toList q hH (by simp[ae])
  rw[Array.toArray_toList]at this
  rw[this,List.map_id,H_ hk,setCells_drewN,e1]
 rw[e2]at st h4
 have C:pB R.heap.size R (grow (R.drewN q) os):=⟨⟨rfl,rfl,rfl,by simp[grow,World.drewN],fun j hj=>by
  show(R.heap++os)[j]?=_
  rw[Array.getElem?_append_left hj]⟩,Nat.le_add_right _ _⟩
 have aj:(jg jA hp).get=Hp.tI hp.get jA:=GD 0 jA hp _ (HY jA hp)
 refine⟨.tuple #[],grow (R.drewN q) os,g,?_,.tuple rfl (fun i v v' h _=>by simp at h),⟨xH.refl _ _,⟨Nat.le_trans (Nat.le_of_eq aw.symm) C.b.size,fun ah jz an=>?_⟩,pk.refl _ _⟩,fr,st,h1,h2,h3,hf,h4⟩
 · rw[aj]
   exact r2.later C (Gm.le_refl g) (Nat.le_refl _) (fun _ _=>rfl) (fun c ai ab e=>⟨(r2.rq c ai ab e).1,Nat.lt_of_lt_of_le (r2.rq c ai ab e).2 C.b.size⟩) r2.room
 · rw[C.b.block ah (by rw[aw];exact jz)]
   exact aA ah jz fun c o ab _ e=>an c ab e
end
theorem pB.grown{w w':World}(h:pB w.heap.size w w'):∃q os,w'=grow (w.drewN q) os:=by
 obtain⟨⟨h1,h2,h3,h4,j⟩,o⟩:=h
 refine⟨w'.drawn-w.drawn,w'.heap.extract w.heap.size w'.heap.size,?_⟩
 obtain⟨fe,R,I,J,C⟩:=w'
 obtain⟨hp,aa,U,os,out⟩:=w
 simp only at h1 h2 h3 h4 j o
 subst h1 h2 h3
 simp only[grow,World.drewN,World.mk.injEq,true_and,and_true]
 refine⟨?_,by omega⟩
 apply Array.ext_getElem?
 intro i
 by_cases hi:i<hp.size
 · rw[Array.getElem?_append_left hi];exact j i hi
 · rw[Array.getElem?_append_right (by omega),Array.getElem?_extract]
   split
   · congr 1;omega
   · rw[Array.getElem?_eq_none (by omega)]
open Classical in
def Vf(z:Value):KC:=fun v h nx cs=>if v=z then .ok (0,⟨Tm.undef,[],h,nx,cs⟩)else .gm 0
theorem RB{P:Program}{ng:Nat}{e:Env}{w:World}(ok:mE P ng e)(mL:rW P ng w.heap.size w e)(hs:ng<=w.heap.size){f:FuncId}{l:List Value}{args:Array Value}{z:Int}(hl:∀g,gX g l args.toList)
 (h:WF e f l .nil ng (fun v _ _=>v=.int .i64 z)):Calls P f args w fun I w'=>I=.returned (.int .i64 z)/\pB w.heap.size w w':=by
 obtain⟨H,_⟩:=Kd (kb:=[]) hs rfl rfl (fun ad J=>by cases J)
 obtain⟨v0,DL,mA,⟨j,h1⟩,rfl⟩:=h
 have hg:kT (Ae ng) ng:=fun i hi=>by simp[Ae,hi]
 intro fs
 have hx:explore (fun cs=>mP e (ev e j) f l .nil ng cs (Vf (.int .i64 z))) 1 []=true:=by
  simp only[explore,h1 j (Nat.le_refl _),Vf,if_pos]
 obtain⟨f',hf,rest,x,hr⟩:=lS.GM (yW ok mL (Fs ok mL j) H hg (hl _) fs (Vf (.int .i64 z))) hx
 rcases hf with hf|⟨v,fe,fg,hf,L⟩
 · obtain⟨m,hf⟩:=hf rest;rw[hr]at hf;cases hf
 · have R:v=.int .i64 z:=by
    have:=hf rest
    rw[hr]at this
    unfold Vf at this
    split at this
    · assumption
    · cases this
   subst R
   obtain⟨v',w',g',o,C,ab,fr,s1,m1,d1,U,f1,fn,aa,r1⟩:=L
   rw[C.kQ]at r1
   exact⟨.returned (.int .i64 z),w',fr,⟨rfl,o.below⟩,s1,f1,m1,d1,U,fn,aa,r1⟩
theorem GR{α:Type}[Inhabited α]{enc:α->List Value}{k B rb ro m:Nat}{w:World}{dk:Array α}{os:Array Obj}(h:B<=rb)(o:B<=w.heap.size):Below B w (sortWorldK enc k w rb ro m dk os):=by
 refine⟨rfl,rfl,rfl,?_,fun j hj=>?_⟩
 · simp[sortWorldK,grow,putRowK,putRow,mapBlock,Sort.ahead]
 · show((putRowK enc k (Sort.ahead w m) rb ro dk).heap++os)[j]?=_
   have e:(putRowK enc k (Sort.ahead w m) rb ro dk).heap[j]?=w.heap[j]?:=by
    simp only[putRowK,putRow,mapBlock,Sort.ahead,Array.getElem?_modify]
    rw[if_neg (by omega)]
   have C:(putRowK enc k (Sort.ahead w m) rb ro dk).heap.size=w.heap.size:=by simp[putRowK,putRow,mapBlock,Sort.ahead]
   rw[Array.getElem?_append_left (by omega),e]
end
end Sw
namespace Sw
noncomputable section
open Go Go.RowKit Go.Sort Go.Proofs
def jj(x y:Int):Int:=if x<y then -1 else if y<x then 1 else 0
def uA(x y:Int):Int:=if x≠0 then x else y
def wu(a b:fT):Int:=uA (jj a.h_ b.h_) (jj a.hQ b.hQ)
def wO(l:List fT):List fT:=l.mergeSort fun x y=>!(decide (wu y x<0))
theorem Ia(x y:fT):ltOf wu x y=decide (x.h_<y.h_\/x.h_=y.h_/\x.hQ<y.hQ):=by
 unfold ltOf wu uA jj
 rw[decide_eq_decide]
 by_cases h1:x.h_<y.h_
 · rw[if_pos h1];simp[h1]
 · by_cases h2:y.h_<x.h_
   · rw[if_neg h1,if_pos h2];simp;omega
   · rw[if_neg h1,if_neg h2]
     by_cases h3:x.hQ<y.hQ
     · simp[h3];omega
     · by_cases h4:y.hQ<x.hQ
       · simp[h3,h4];omega
       · simp[h3,h4];omega
theorem VQ:SWO (ltOf wu) where
 irrefl x:=by rw[Ia];simp
 trans x y z h1 h2:=by rw[Ia,decide_eq_true_eq]at*;omega
 ntrans x y z h1 h2:=by rw[Ia,decide_eq_false_iff_not]at*;omega
theorem VR(x y:fT)(h1:ltOf wu x y=false)(h2:ltOf wu y x=false):x=y:=by
 rw[Ia,decide_eq_false_iff_not]at*
 obtain⟨a,b⟩:=x;obtain⟨c,d⟩:=y
 simp only at h1 h2
 obtain rfl:a=c:=by omega
 obtain rfl:b=d:=by omega
 rfl
theorem Df(l:List fT):(wO l).length=l.length:=List.length_mergeSort ..
def AZ(j:FuncId)(l:List Value)(hp:Ht)(nx:Nat)(t:Nat×Nat×List fT):Prop:=
 0<t.2.2.length/\t.2.2.length<=1048576/\l=[.slice (some ⟨t.1,0,none⟩) t.2.2.length t.2.2.length,.func (.func j) #[] #[]]/\∃B,td fo 2 B t.1 t.2.1 hp nx t.2.2
theorem A0:∀{L M:List fT},L.flatMap fo=M.flatMap fo->L=M
 |[],[],_=>rfl
 |[],y::M,h=>by cases h
 |x::L,[],h=>by cases h
 |x::L,y::M,h=>by
  have h:Value.int .i64 x.h_::Value.int .i64 x.hQ::L.flatMap fo=Value.int .i64 y.h_::Value.int .i64 y.hQ::M.flatMap fo:=h
  simp only[List.cons.injEq,Value.int.injEq,true_and]at h
  have e:=A0 h.2.2
  obtain⟨h1,h2,_⟩:=h
  cases x;cases y
  simp only at h1 h2
  rw[h1,h2,e]
theorem AZ.one{C:FuncId}{l:List Value}{hp:Ht}{nx:Nat}{t u:Nat×Nat×List fT}(h:AZ C l hp nx t)(k:AZ C l hp nx u):t=u:=by
 obtain⟨b,gr,L⟩:=t;obtain⟨b',I,L'⟩:=u
 obtain⟨_,_,h1,B,h2,_⟩:=h;obtain⟨_,_,o,B',j,_⟩:=k
 simp only at h1 h2 o j
 rw[h1]at o
 simp only[List.cons.injEq,Value.slice.injEq,Option.some.injEq,Addr.mk.injEq]at o
 obtain rfl:b=b':=o.1.1.1
 rw[h2]at j
 simp only[Option.some.injEq,jM.cells.injEq,gl.mk.injEq]at j
 obtain rfl:=A0 j.1
 obtain rfl:gr=I:=j.2.2.1
 rfl
open Classical in
def Af(j:FuncId):IX:=⟨fun l hp nx cs k o=>
 if l=[.slice none 0 0,.func (.func j) #[] #[]]then k (.tuple #[]) hp nx cs
 else if h:∃t,AZ j l hp nx t then
  (match nU hp.get h.choose.1 (h.choose.2.2.flatMap fo) ⟨false,some h.choose.2.1,0,2⟩ 0 ((wO h.choose.2.2).flatMap fo)with
  |some jA=>k (.tuple #[]) (jg jA hp) nx cs
  |none=>.gm 0)
 else o⟩
theorem Ke{j:FuncId}{hp:Ht}{nx:Nat}{cs:List Nat}{k:KC}{o:R}:(Af j).run [.slice none 0 0,.func (.func j) #[] #[]] hp nx cs k o=k (.tuple #[]) hp nx cs:=by
 simp only[Af,if_pos]
theorem MC{j:FuncId}{l:List Value}{hp:Ht}{nx:Nat}{t:Nat×Nat×List fT}(h:AZ j l hp nx t):∃jA B,nU hp.get t.1 (t.2.2.flatMap fo) ⟨false,some t.2.1,0,2⟩ 0 ((wO t.2.2).flatMap fo)=some jA/\td fo 2 B t.1 t.2.1 (jg jA hp) nx (wO t.2.2)/\
 ∀cs k o,(Af j).run l hp nx cs k o=k (.tuple #[]) (jg jA hp) nx cs:=by
 have C:=h
 obtain⟨h0,hle,hl,B,I⟩:=C
 have hf:((wO t.2.2).flatMap fo).length=(t.2.2.flatMap fo).length:=by
  rw[nm (n:=2) _ fun _ _=>rfl,nm (n:=2) t.2.2 fun _ _=>rfl,Df]
 obtain⟨jA,h1,h2,h3⟩:=I.put hf
 refine⟨jA,B,h1,h2,fun cs k o=>?_⟩
 have hx:∃t,AZ j l hp nx t:=⟨t,h⟩
 have jG:l≠[.slice none 0 0,.func (.func j) #[] #[]]:=fun e=>by rw[hl]at e;simp at e
 have hc:hx.choose=t:=hx.choose_spec.one h
 simp only[Af,if_neg jG,dif_pos hx,hc,h1]
theorem TH{P:Program}{ng:Nat}{IE:Nat->World->Prop}(az:Ld IE)(aq:∀B0 w0,IE B0 w0->ng<=B0){e e1:Env}(ok:mE P ng e)(mL:∀B0 w0,IE B0 w0->rW P ng B0 w0 e)(TI:∀B0 w0,IE B0 w0->rW P ng B0 w0 e1){I j:FuncId}{fn:Func}{c:Code}(an:P.funcs[I]?=some fn)(hb:fn.body=some c)(hn:(fn.name== "runtime.NumGoroutine")=false)
 (aj:∀a b:fT,WF e j [.agg (fo a).toArray,.agg (fo b).toArray] .nil ng (fun v _ _=>v=.int .i64 (wu a b)))
 (ae:∀(gb off cap:Nat) (d:Array fT) (w:World),CmpLays P j #[] fo 2 wu gb off d.size w->HoldsK fo 2 w gb off d->gb<w.heap.size->d.size<4611686018427387904->Calls P I #[.slice (some ⟨gb,off,none⟩) d.size cap,.func (.func j) #[] #[]] w fun aa w'=>aa=.returned (.tuple #[])/\∃n os,w'=sortWorldK fo 2 w gb off n (wO d.toList).toArray os)
 (ad:∀(p:Option Addr) (cap:Nat) (w:World),Calls P I #[.slice p 0 cap,.func (.func j) #[] #[]] w fun aa w'=>aa=.returned (.tuple #[])/\w'=w):
 ∀B0 w0,IE B0 w0->rW P ng B0 w0 {e1 with K:=fun x=>bif Nat.beq x I then some (Af j)else e1.K x}:=by
 intro B0 w0 hi x av h
 have h:(bif Nat.beq x I then some (Af j)else e1.K x)=some av:=h
 cases ak:Nat.beq x I with
 |false=>rw[ak]at h;exact TI B0 w0 hi x av h
 |true=>
  rw[ak]at h;cases h
  obtain rfl:=Nat.eq_of_beq_eq_true ak
  refine⟨⟨fn,c,an,hb,hn⟩,fun l args hp nx g w H hg hl=>?_⟩
  have R:∀v,fQ g (.func (.func j) #[] #[]) v->v=.func (.func j) #[] #[]:=fun v af=>by
   obtain⟨x',y',rfl,hx,hy⟩:=af.Gi
   have h1:x'.size=0:=hx.1.symm
   have h2:y'.size=0:=hy.1.symm
   rw[Array.eq_empty_of_size_eq_zero h1,Array.eq_empty_of_size_eq_zero h2]
  by_cases U:l=[.slice none 0 0,.func (.func j) #[] #[]]
  · subst U
    refine .inr ⟨fun cs k=>k (.tuple #[]) hp nx cs,fun cs k ax=>Ke,fun fs k=>.here (.inr ⟨_,hp,nx,fun cs=>rfl,?_⟩)⟩
    have o:args=#[.slice none 0 0,.func (.func j) #[] #[]]:=by
     obtain⟨args⟩:=args
     match args,hl with
     |[x,y],hl=>
      have h1:=hl.head
      have h2:=R _ hl.tail.head
      cases h1
      rw[h2]
     |[],hl=>cases hl.1
     |[_],hl=>cases hl.1
     |_::_::_::_,hl=>cases hl.1
    subst o
    exact qk.MA H (.tuple rfl (fun i v v' h _=>by simp at h)) (ad none 0 w) fs
  · by_cases hx:∃t,AZ j l hp nx t
    · obtain⟨⟨b,gr,L⟩,au⟩:=hx
      obtain⟨jA,B,h1,h2,h3⟩:=MC au
      refine .inr ⟨fun cs k=>k (.tuple #[]) (jg jA hp) nx cs,h3,fun fs k=>.here (.inr ⟨_,jg jA hp,nx,fun cs=>rfl,?_⟩)⟩
      obtain⟨h0,hle,ag,B',ai,_⟩:=au
      simp only at h0 hle ag ai h1
      obtain⟨rb,ro,c2,C,o⟩:∃rb ro c2,g.gb b=some (rb,ro)/\args=#[.slice (some ⟨rb,ro,none⟩) L.length c2,.func (.func j) #[] #[]]:=by
       obtain⟨args⟩:=args
       rw[ag]at hl
       match args,hl with
       |[x,y],hl=>
        have aA:=hl.head
        have aB:=R _ hl.tail.head
        rcases aA.mK with⟨_,h,_⟩|⟨_,rb,ro,c2,C,_,_,rfl⟩
        · omega
        · exact⟨rb,ro+0,c2,by simpa using C,by rw[aB]⟩
       |[],hl=>cases hl.1
       |[_],hl=>cases hl.1
       |_::_::_::_,hl=>cases hl.1
      subst o
      have ay:B0<=rb:=by
       obtain⟨rc,el,aE,_,a3⟩:=H.uG ai C
       exact(a3.2.2.1 rfl).1
      refine Qh (k:=2) H ai rfl C (fun _=>rfl) (fun x v af=>?_) h1 (Df L) (fun hH ar=>?_) fs
      · simp only[fo,List.mem_cons,List.not_mem_nil,or_false]at af
        rcases af with rfl|rfl<;>exact⟨_,_,rfl⟩
      · have al:CmpLays P j #[] fo 2 wu rb ro L.toArray.size w:=fun m os dk hs x y=>by
         have J:=GR (enc:=fo) (k:=2) (ro:=ro) (m:=m) (w:=w) (dk:=dk) (os:=os) ay H.base
         have ab:=H.below.b.trans J
         have ah:B0<=(sortWorldK fo 2 w rb ro m dk os).heap.size:=Nat.le_trans H.base J.size
         have ao:=az _ _ _ hi ab ah
         refine(RB ok (mL _ _ ao) (Nat.le_trans (aq _ _ hi) ah) (fun g'=>?_) (aj x y)).mono fun aa w' ⟨aC,aD⟩=>⟨aC,?_⟩
         · have:∀(z:fT),fQ g' (.agg (fo z).toArray) (.agg (fo z).toArray):=fun z=>.agg rfl fun i v v' e1 e2=>by
            rw[e1]at e2;cases e2
            have:v∈fo z:=by
             have:=List.mem_of_getElem? (by simpa using e1:(fo z)[i]?=some v)
             exact this
            simp only[fo,List.mem_cons,List.not_mem_nil,or_false]at this
            rcases this with rfl|rfl<;>exact .int _ _
           exact .cons (this x) (.cons (this y) (.nil g'))
         · obtain⟨q,aw,e⟩:=aD.grown;exact⟨q,aw,e⟩
        have:=ae rb ro c2 L.toArray w al hH ar (by simp;omega)
        simpa using this
    · refine .inl fun cs k ax=>?_
      simp only[Af,if_neg U,dif_neg hx]
theorem TJ{e:Env}{o j:FuncId}(hK:e.K o=some (Af j)):(∀(hp:Ht) (nx:Nat),WF e o [.slice none 0 0,.func (.func j) #[] #[]] hp nx (fun _ fe fg=>fe=hp/\fg=nx))/\
 ∀(L:List fT) (B b gr:Nat) (hp:Ht) (nx:Nat),0<L.length->L.length<=1048576->td fo 2 B b gr hp nx L->
  WF e o [.slice (some ⟨b,0,none⟩) L.length L.length,.func (.func j) #[] #[]] hp nx (fun _ fe fg=>fg=nx/\td fo 2 B b gr fe fg (wO L)/\HE B hp fe):=by
 refine⟨fun hp nx=>⟨.tuple #[],hp,nx,⟨0,fun n _ cs k=>by simp only[mP,hK,Ke]⟩,rfl,rfl⟩,fun L B b gr hp nx h0 h1 J=>?_⟩
 have hf:((wO L).flatMap fo).length=(L.flatMap fo).length:=by
  rw[nm (n:=2) _ fun _ _=>rfl,nm (n:=2) L fun _ _=>rfl,Df]
 obtain⟨I,R,U,aa⟩:=J.put hf
 obtain⟨jA,B',C,ab,q3⟩:=MC (t:=(b,gr,L)) (l:=[.slice (some ⟨b,0,none⟩) L.length L.length,.func (.func j) #[] #[]]) ⟨h0,h1,rfl,B,J⟩
 simp only at C
 rw[R]at C;cases C
 exact⟨.tuple #[],jg I hp,nx,⟨0,fun n _ cs k=>by simp only[mP,hK,q3]⟩,rfl,U,aa⟩
end
end Sw
namespace Sw
noncomputable section
open Go Go.Proofs
set_option maxRecDepth 100000
def vl:Nat:=3432398833261926548059325121659943655445719355186424717539942833894239745419972846676924357163830564727948376841678244249299434900034311604573780907890049020
def Cw:Nat:=80263304161809898486953579388078034568237128595945516524082266737298690685422130215834080447112521417906699709766435401090917971775143371431983551958086515406814478726292768798943705397605801939099438809086
def Ib:Nat:=21088658411921233044424399799907083185156873390445127312030067785523249781808954377461202160289293084709116170556716965366003240955627871186473673143233051361280
def Kf:Ty:=⟨fun t=>bif has Cw t then TT.get t else none,fun t=>has Ib t⟩
def Xk:FuncId->Option Func:=fun f=>bif has vl f then FT.get f else none
def Fx:IX:=⟨fun l hp nx cs k _=>match l with
 |[.string a,.string b]=>bif Nat.blt (strs a).length 4294967281 then k (.bool (Lib.contains (strs a) (strs b))) hp nx cs else .gm 0
 |_=>.gm 0⟩
def Vg:TypeId->String->Option FuncId:=fun t n=>bif Nat.beq t 469&&(n== "stopwatch/typing.parts")then some 418 else bif Nat.beq t 553&&(n== "stopwatch/typing.parts")then some 417 else(none:Option FuncId)
def e0:Env:=⟨Kf,fun f=>(Xk f).bind Le,Vg,fun f=>bif Nat.beq f 348 then some Fx else none,0⟩
def y4:List TB:=[⟨0,[(.int .i64 1),(.int .i64 9999)],false,0⟩,⟨1,[(.int .i64 (-1099511627776)),(.int .i64 1099511627776)],false,0⟩,⟨2,[(.int .i64 0),(.int .i64 1048576)],false,0⟩,⟨3,[(.int .i64 0),(.int .i64 39)],false,0⟩,⟨4,[(.int .i64 0),(.int .i64 255)],false,0⟩,⟨5,[(.int .i64 0),(.int .i64 1099511627776)],false,0⟩,⟨6,[(.int .i64 0),(.int .i64 255)],false,0⟩,⟨7,[(.int .i64 1),(.int .i64 1048576)],false,0⟩,⟨8,[(.int .i64 0),(.int .i64 1)],false,0⟩,⟨9,[(.int .i64 0),(.int .i64 31)],false,0⟩,⟨10,[(.int .i64 1),(.int .i64 1048576)],false,0⟩]
def Ag:wB:=⟨[],
 [],
 12,(.agg ⟨[(.int .u8 0),(.int .u8 0),(.int .u8 0),(.int .u8 0),(.int .u8 0),(.int .u8 0),(.int .u8 0),(.int .u8 0),(.int .u8 0),(.int .u8 1),(.int .u8 1),(.int .u8 0),(.int .u8 0),(.int .u8 1),(.int .u8 0),(.int .u8 0),(.int .u8 0),(.int .u8 0),(.int .u8 0),(.int .u8 0),(.int .u8 0),(.int .u8 0),(.int .u8 0),(.int .u8 0),(.int .u8 0),(.int .u8 0),(.int .u8 0),(.int .u8 0),(.int .u8 0),(.int .u8 0),(.int .u8 0),(.int .u8 0),(.int .u8 1),(.int .u8 0),(.int .u8 0),(.int .u8 0),(.int .u8 0),(.int .u8 0),(.int .u8 0),(.int .u8 0),(.int .u8 4),(.int .u8 4),(.int .u8 0),(.int .u8 0),(.int .u8 4),(.int .u8 0),(.int .u8 0),(.int .u8 0),(.int .u8 3),(.int .u8 3),(.int .u8 3),(.int .u8 3),(.int .u8 3),(.int .u8 3),(.int .u8 3),(.int .u8 3),(.int .u8 3),(.int .u8 3),(.int .u8 0),(.int .u8 4),(.int .u8 4),(.int .u8 4),(.int .u8 4),(.int .u8 0),(.int .u8 0),(.int .u8 2),(.int .u8 2),(.int .u8 2),(.int .u8 2),(.int .u8 2),(.int .u8 2),(.int .u8 2),(.int .u8 2),(.int .u8 2),(.int .u8 2),(.int .u8 2),(.int .u8 2),(.int .u8 2),(.int .u8 2),(.int .u8 2),(.int .u8 2),(.int .u8 2),(.int .u8 2),(.int .u8 2),(.int .u8 2),(.int .u8 2),(.int .u8 2),(.int .u8 2),(.int .u8 2),(.int .u8 2),(.int .u8 2),(.int .u8 4),(.int .u8 0),(.int .u8 4),(.int .u8 0),(.int .u8 0),(.int .u8 0),(.int .u8 2),(.int .u8 2),(.int .u8 2),(.int .u8 2),(.int .u8 2),(.int .u8 2),(.int .u8 2),(.int .u8 2),(.int .u8 2),(.int .u8 2),(.int .u8 2),(.int .u8 2),(.int .u8 2),(.int .u8 2),(.int .u8 2),(.int .u8 2),(.int .u8 2),(.int .u8 2),(.int .u8 2),(.int .u8 2),(.int .u8 2),(.int .u8 2),(.int .u8 2),(.int .u8 2),(.int .u8 2),(.int .u8 2),(.int .u8 4),(.int .u8 0),(.int .u8 4),(.int .u8 0),(.int .u8 0),(.int .u8 0),(.int .u8 0),(.int .u8 0),(.int .u8 0),(.int .u8 0),(.int .u8 0),(.int .u8 0),(.int .u8 0),(.int .u8 0),(.int .u8 0),(.int .u8 0),(.int .u8 0),(.int .u8 0),(.int .u8 0),(.int .u8 0),(.int .u8 0),(.int .u8 0),(.int .u8 0),(.int .u8 0),(.int .u8 0),(.int .u8 0),(.int .u8 0),(.int .u8 0),(.int .u8 0),(.int .u8 0),(.int .u8 0),(.int .u8 0),(.int .u8 0),(.int .u8 0),(.int .u8 0),(.int .u8 0),(.int .u8 0),(.int .u8 0),(.int .u8 0),(.int .u8 0),(.int .u8 0),(.int .u8 0),(.int .u8 0),(.int .u8 0),(.int .u8 0),(.int .u8 0),(.int .u8 0),(.int .u8 0),(.int .u8 0),(.int .u8 0),(.int .u8 0),(.int .u8 0),(.int .u8 0),(.int .u8 0),(.int .u8 0),(.int .u8 0),(.int .u8 0),(.int .u8 0),(.int .u8 0),(.int .u8 0),(.int .u8 0),(.int .u8 0),(.int .u8 0),(.int .u8 0),(.int .u8 0),(.int .u8 0),(.int .u8 0),(.int .u8 0),(.int .u8 0),(.int .u8 0),(.int .u8 0),(.int .u8 0),(.int .u8 0),(.int .u8 0),(.int .u8 0),(.int .u8 0),(.int .u8 0),(.int .u8 0),(.int .u8 0),(.int .u8 0),(.int .u8 0),(.int .u8 0),(.int .u8 0),(.int .u8 0),(.int .u8 0),(.int .u8 0),(.int .u8 0),(.int .u8 0),(.int .u8 0),(.int .u8 0),(.int .u8 0),(.int .u8 0),(.int .u8 0),(.int .u8 0),(.int .u8 0),(.int .u8 0),(.int .u8 0),(.int .u8 0),(.int .u8 0),(.int .u8 0),(.int .u8 0),(.int .u8 0),(.int .u8 0),(.int .u8 0),(.int .u8 0),(.int .u8 0),(.int .u8 0),(.int .u8 0),(.int .u8 0),(.int .u8 0),(.int .u8 0),(.int .u8 0),(.int .u8 0),(.int .u8 0),(.int .u8 0),(.int .u8 0),(.int .u8 0),(.int .u8 0),(.int .u8 0),(.int .u8 0),(.int .u8 0),(.int .u8 0),(.int .u8 0),(.int .u8 0),(.int .u8 0),(.int .u8 0),(.int .u8 0),(.int .u8 0),(.int .u8 0),(.int .u8 0),(.int .u8 0),(.int .u8 0),(.int .u8 0)]⟩),[],0⟩
def e1:Env:={e0 with K:=fun f=>bif Nat.beq f 415 then some (xN 12 [Ag])else e0.K f}
def Kg:wB:=⟨[(.agg ⟨[(.string ⟨⟨[99]⟩⟩),(.slice (some ⟨12,0,none⟩) 2 2),(.slice (some ⟨13,0,none⟩) 1 1),(.slice (some ⟨14,0,none⟩) 1 1),(.slice (some ⟨15,0,none⟩) 1 1),(.slice none 0 0),(.slice none 0 0),(.slice none 0 0),(.slice (some ⟨16,0,none⟩) 1 1),(.int .i64 0),(.int .i64 0),(.int .i64 0),(.int .i64 0),(.int .i64 0),(.int .i64 0),(.int .i64 0)]⟩)],
 y4++[⟨12,[(.string ⟨⟨[115]⟩⟩),(.int .i64 1),(.string ⟨⟨[101]⟩⟩),(.int .i64 3)],false,0⟩,⟨13,[(.int .i64 0),(.int .i64 1),(.int .i64 10),(.int .i64 1000)],false,0⟩,⟨14,[(.string ⟨⟨[100]⟩⟩),(.slice (some ⟨17,0,none⟩) 2 2),(.int .i64 1),(.slice none 0 0),(.int .i64 (-1))],false,0⟩,⟨15,[(.string ⟨⟨[119]⟩⟩),(.int .i64 0)],false,0⟩,⟨16,[(.int .i64 1),(.int .i64 4),(.int .i64 0),(.int .i64 0),(.int .i64 0),(.slice none 0 0),(.slice none 0 0),(.slice none 0 0)],false,0⟩,⟨17,[(.int .i64 0),(.int .i64 0),(.slice none 0 0),(.int .i64 1),(.int .i64 0),(.slice none 0 0)],false,0⟩],
 18,(.int .i64 0),[],0⟩
def e2:Env:={e1 with K:=fun f=>bif Nat.beq f 52 then some (xN 12 [Kg])else e1.K f}
def F_:wB:=⟨[(.agg ⟨[(.string ⟨⟨[99]⟩⟩),(.slice (some ⟨12,0,none⟩) 2 2),(.slice (some ⟨13,0,none⟩) 1 1),(.slice (some ⟨14,0,none⟩) 1 1),(.slice (some ⟨15,0,none⟩) 1 1),(.slice none 0 0),(.slice none 0 0),(.slice none 0 0),(.slice (some ⟨16,0,none⟩) 1 1),(.int .i64 0),(.int .i64 0),(.int .i64 0),(.int .i64 0),(.int .i64 0),(.int .i64 0),(.int .i64 0)]⟩),(.slice (some ⟨17,0,none⟩) 5 5)],
 y4++[⟨12,[(.string ⟨⟨[115]⟩⟩),(.int .i64 1),(.string ⟨⟨[101]⟩⟩),(.int .i64 3)],false,0⟩,⟨13,[(.int .i64 0),(.int .i64 1),(.int .i64 10),(.int .i64 1000)],false,0⟩,⟨14,[(.string ⟨⟨[100]⟩⟩),(.slice (some ⟨18,0,none⟩) 2 2),(.int .i64 1),(.slice none 0 0),(.int .i64 (-1))],false,0⟩,⟨15,[(.string ⟨⟨[119]⟩⟩),(.int .i64 0)],false,0⟩,⟨16,[(.int .i64 1),(.int .i64 4),(.int .i64 0),(.int .i64 0),(.int .i64 0),(.slice none 0 0),(.slice none 0 0),(.slice none 0 0)],false,0⟩,⟨17,[(.int .i64 0),(.int .i64 1),(.int .i64 0),(.int .i64 1),(.int .i64 1),(.int .i64 0),(.int .i64 0),(.int .i64 0),(.int .i64 0),(.int .i64 1),(.int .i64 0),(.int .i64 0),(.int .i64 0),(.int .i64 0),(.int .i64 0),(.int .i64 0),(.int .i64 0),(.int .i64 0),(.int .i64 0),(.int .i64 0),(.int .i64 0),(.int .i64 0),(.int .i64 0),(.int .i64 0),(.int .i64 0),(.int .i64 0),(.int .i64 0),(.int .i64 0),(.int .i64 0),(.int .i64 0),(.int .i64 0),(.int .i64 0),(.int .i64 0),(.int .i64 0),(.int .i64 0),(.int .i64 0),(.int .i64 0),(.int .i64 0),(.int .i64 0),(.int .i64 0),(.int .i64 0),(.int .i64 0),(.int .i64 0),(.int .i64 0),(.int .i64 0),(.int .i64 0),(.int .i64 0),(.int .i64 0),(.int .i64 0),(.int .i64 0),(.int .i64 0),(.int .i64 0),(.int .i64 0),(.int .i64 0),(.bool false),(.int .i64 0),(.int .i64 0),(.int .i64 0),(.int .i64 2),(.int .i64 0),(.int .i64 1),(.int .i64 2),(.int .i64 0),(.int .i64 0),(.int .i64 0),(.int .i64 0),(.int .i64 2),(.int .i64 0),(.int .i64 0),(.int .i64 0),(.int .i64 0),(.int .i64 0),(.int .i64 0),(.int .i64 0),(.int .i64 0),(.int .i64 0),(.int .i64 0),(.int .i64 0),(.int .i64 0),(.int .i64 0),(.int .i64 0),(.int .i64 0),(.int .i64 0),(.int .i64 0),(.int .i64 0),(.int .i64 0),(.int .i64 0),(.int .i64 0),(.int .i64 0),(.int .i64 0),(.int .i64 0),(.int .i64 0),(.int .i64 0),(.int .i64 0),(.int .i64 0),(.int .i64 0),(.int .i64 0),(.int .i64 0),(.int .i64 0),(.int .i64 0),(.int .i64 0),(.int .i64 0),(.int .i64 0),(.int .i64 0),(.int .i64 0),(.int .i64 0),(.int .i64 0),(.int .i64 0),(.int .i64 0),(.int .i64 0),(.int .i64 0),(.bool false),(.int .i64 0),(.int .i64 0),(.int .i64 0),(.int .i64 3),(.int .i64 0),(.int .i64 5),(.int .i64 0),(.int .i64 0),(.int .i64 0),(.int .i64 0),(.int .i64 0),(.int .i64 0),(.int .i64 0),(.int .i64 0),(.int .i64 0),(.int .i64 0),(.int .i64 0),(.int .i64 0),(.int .i64 0),(.int .i64 0),(.int .i64 0),(.int .i64 0),(.int .i64 0),(.int .i64 0),(.int .i64 0),(.int .i64 0),(.int .i64 0),(.int .i64 0),(.int .i64 0),(.int .i64 0),(.int .i64 0),(.int .i64 1),(.int .i64 0),(.int .i64 0),(.int .i64 0),(.int .i64 0),(.int .i64 0),(.int .i64 0),(.int .i64 0),(.int .i64 0),(.int .i64 0),(.int .i64 0),(.int .i64 0),(.int .i64 0),(.int .i64 0),(.int .i64 0),(.int .i64 0),(.int .i64 0),(.int .i64 0),(.int .i64 0),(.int .i64 0),(.int .i64 0),(.int .i64 0),(.int .i64 0),(.int .i64 0),(.int .i64 0),(.bool false),(.int .i64 0),(.int .i64 0),(.int .i64 0),(.int .i64 4),(.int .i64 0),(.int .i64 5),(.int .i64 0),(.int .i64 0),(.int .i64 0),(.int .i64 0),(.int .i64 0),(.int .i64 0),(.int .i64 0),(.int .i64 0),(.int .i64 0),(.int .i64 0),(.int .i64 0),(.int .i64 0),(.int .i64 0),(.int .i64 0),(.int .i64 0),(.int .i64 0),(.int .i64 0),(.int .i64 0),(.int .i64 0),(.int .i64 0),(.int .i64 0),(.int .i64 0),(.int .i64 0),(.int .i64 0),(.int .i64 0),(.int .i64 1),(.int .i64 1),(.int .i64 100),(.int .i64 101),(.int .i64 0),(.int .i64 0),(.int .i64 0),(.int .i64 0),(.int .i64 0),(.int .i64 0),(.int .i64 0),(.int .i64 0),(.int .i64 0),(.int .i64 0),(.int .i64 0),(.int .i64 0),(.int .i64 0),(.int .i64 0),(.int .i64 0),(.int .i64 0),(.int .i64 0),(.int .i64 0),(.int .i64 0),(.int .i64 0),(.int .i64 0),(.bool false),(.int .i64 0),(.int .i64 0),(.int .i64 0),(.int .i64 5),(.int .i64 0),(.int .i64 5),(.int .i64 0),(.int .i64 0),(.int .i64 0),(.int .i64 0),(.int .i64 0),(.int .i64 0),(.int .i64 0),(.int .i64 0),(.int .i64 0),(.int .i64 0),(.int .i64 0),(.int .i64 0),(.int .i64 0),(.int .i64 0),(.int .i64 0),(.int .i64 0),(.int .i64 0),(.int .i64 0),(.int .i64 0),(.int .i64 0),(.int .i64 0),(.int .i64 0),(.int .i64 0),(.int .i64 0),(.int .i64 0),(.int .i64 2),(.int .i64 0),(.int .i64 100),(.int .i64 103),(.int .i64 0),(.int .i64 0),(.int .i64 0),(.int .i64 0),(.int .i64 0),(.int .i64 0),(.int .i64 0),(.int .i64 0),(.int .i64 0),(.int .i64 0),(.int .i64 0),(.int .i64 0),(.int .i64 0),(.int .i64 0),(.int .i64 0),(.int .i64 0),(.int .i64 0),(.int .i64 0),(.int .i64 0),(.int .i64 0),(.int .i64 0),(.bool false),(.int .i64 0),(.int .i64 0)],false,0⟩,⟨18,[(.int .i64 0),(.int .i64 0),(.slice none 0 0),(.int .i64 1),(.int .i64 0),(.slice none 0 0)],false,0⟩],
 19,(.tuple ⟨[(.slice (some ⟨0,0,none⟩) 2 2),(.int .i64 0)]⟩),[⟨0,[(.int .i64 1),(.int .i64 0),(.int .i64 0),(.int .i64 0),(.int .i64 0),(.int .i64 1),(.int .i64 0),(.int .i64 0),(.int .i64 2),(.int .i64 0),(.int .i64 0),(.int .i64 0),(.int .i64 0),(.int .i64 2),(.int .i64 0),(.int .i64 0)],true,8⟩],2⟩
def e3:Env:={e2 with K:=fun f=>bif Nat.beq f 44 then some (xN 12 [F_])else e2.K f}
def RD:wB:=⟨[],y4,12,(.bool true),[],0⟩
def eS:Env:={e3 with K:=fun f=>bif Nat.beq f 5 then some (xN 12 [RD])else e3.K f}
def eT:Env:={eS with K:=fun f=>bif Nat.beq f 209 then some (Af 117)else eS.K f}
def ex:Env:={eT with K:=fun f=>bif Nat.beq f 52||Nat.beq f 44 then none else eT.K f}
end
end Sw
