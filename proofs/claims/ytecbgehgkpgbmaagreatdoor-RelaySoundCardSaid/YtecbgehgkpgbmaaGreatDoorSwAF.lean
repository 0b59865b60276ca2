/- A part of the proof that the law returns true for every input that its row speaks of. No condition is added. -/
import Derived.Test.YtecbgehgkpgbmaaGreatDoorSwAE
namespace Sw
noncomputable section
open Go Go.RowKit
section
variable {e:Env}{fm:Fm}{I:Tm}{ds:List Deferred}{O:Ht}{G:Nat}{Z gX:List Nat}{Q:St->Prop}{all:List Oper}{d:Tmp}{op:Op}{ty:TypeId}{pos:String}{j7:Array Edge}{j:Nat}{w:Bool}
theorem Fo{rec:Rec}{k:St->R}(dst:Option Tmp){g:Od}(hg:kL all j=some g):(iQ all ⟨dst,op,ty,pos,j7,some (j,w)⟩).run e rec fm I ds O G Z k=
 Bool.casesOn (nD w (g.run I)) (k ⟨(kp dst).run I undef,ds,O,G,Z⟩) ((iQ all ⟨dst,op,ty,pos,j7,none⟩).run e rec fm I ds O G Z k):=by
 unfold iQ
 simp only[hg]
theorem WC.gq(b:Bool)(R:Value->Ht->Nat->Prop)(x:Value){g:Od}(hg:kL all j=some g)(hx:g.run I=x)(hw:nD w x=b)
 (h1:b=true->WC e fm (iQ all ⟨some d,op,ty,pos,j7,none⟩) ⟨I,ds,O,G,gX⟩ fun s=>∃v e9 e_,s=⟨I.set d v,ds,e9,e_,gX⟩/\R v e9 e_) (h0:b=false->R undef O G)
 (q:∀v e9 e_,R v e9 e_->Q ⟨I.set d v,ds,e9,e_,gX⟩):WC e fm (iQ all ⟨some d,op,ty,pos,j7,some (j,w)⟩) ⟨I,ds,O,G,gX⟩ Q:=by
 subst hx
 cases hb:b with
 |true=>
  obtain⟨s1,⟨o,m⟩,v,e9,e_,rfl,hr⟩:=h1 hb
  refine⟨_,⟨o,fun n hn Z k=>?_⟩,q v e9 e_ hr⟩
  rw[Fo _ hg,hw,hb]
  exact m n hn Z k
 |false=>
  refine⟨_,⟨0,fun n _ Z k=>?_⟩,q undef O G (h0 hb)⟩
  rw[Fo _ hg,hw,hb]
  rfl
theorem WC.gd(b:Bool)(v x:Value){g:Od}(hg:kL all j=some g)(hx:g.run I=x)(hw:nD w x=b)
 (h1:b=true->WC e fm (iQ all ⟨some d,op,ty,pos,j7,none⟩) ⟨I,ds,O,G,gX⟩ fun s=>s=⟨I.set d v,ds,O,G,gX⟩)
 (q:Q ⟨I.set d (bif b then v else undef),ds,O,G,gX⟩):WC e fm (iQ all ⟨some d,op,ty,pos,j7,some (j,w)⟩) ⟨I,ds,O,G,gX⟩ Q:=by
 refine .gq b (fun v' e9 e_=>v'=(bif b then v else undef)/\e9=O/\e_=G) x hg hx hw (fun hb=>?_) (fun hb=>⟨by rw[hb];rfl,rfl,rfl⟩) (fun v' e9 e_ h=>?_)
 · obtain⟨s1,m,rfl⟩:=h1 hb
   exact⟨_,m,v,O,G,rfl,by rw[hb];rfl,rfl,rfl⟩
 · obtain⟨rfl,rfl,rfl⟩:=h
   exact q
end
def fL(G:Nat)(O:Ht)(A:Value->Prop):Value->Ht->Nat->Prop:=fun v e9 e_=>A v/\G<=e_/\HE G O e9
structure SV(α:Type) where
 v:Value
 l:List α
def gB{α:Type}(enc:α->List Value)(n:Nat)(O:Ht)(G:Nat)(s:SV α):Prop:=
 (∀x∈s.l,(enc x).length=n)/\((s.l=[]/\(s.v=.slice none 0 0\/∃b,s.v=.slice (some ⟨b,0,none⟩) 0 0))\/∃b cap m,s.v=.slice (some ⟨b,0,none⟩) s.l.length cap/\0<cap/\b<G/\O.get b=some (.cells (s.l.flatMap enc) m)/\s.l.length<=cap/\(m.mP=none\/m.unit=n))/\s.l.length<281474976710656
section
variable {α:Type}{enc:α->List Value}{n:Nat}{O e9:Ht}{G e_:Nat}{s:SV α}
theorem gB.mono(h:gB enc n O G s)(he:HE G O e9)(hn:G<=e_:=by omega):gB enc n e9 e_ s:=by
 refine⟨h.1,?_,h.2.2⟩
 rcases h.2.1 with h|⟨b,cap,m,h1,D,h3,h4,e⟩
 · exact .inl h
 · exact .inr ⟨b,cap,m,h1,D,by omega,he.get h4 h3,e⟩
theorem gB.shape(h:gB enc n O G s):∃a c,s.v=.slice a s.l.length c:=by
 rcases h.2.1 with⟨h,h1|⟨q,h1⟩⟩|⟨b,cap,m,h1,_⟩
 · exact⟨none,0,by rw[h1,h];rfl⟩
 · exact⟨some ⟨q,0,none⟩,0,by rw[h1,h];rfl⟩
 · exact⟨_,cap,h1⟩
theorem gB.block{a:Option Addr}{k c:Nat}(h:gB enc n O G s)(e:s.v=.slice a k c)(hk:0<s.l.length):∃b m,a=some ⟨b,0,none⟩/\b<G/\O.get b=some (.cells (s.l.flatMap enc) m):=by
 rcases h.2.1 with⟨h,_⟩|⟨b,cap,m,h1,D,h3,h4,_⟩
 · rw[h]at hk;simp at hk
 · rw[e]at h1;cases h1;exact⟨b,m,rfl,h3,h4⟩
theorem gB.jA(h:gB enc n O G s)(k:Nat):lx k s.v s.v=true:=by
 rcases h.2.1 with⟨_,h1|⟨q,h1⟩⟩|⟨b,cap,m,h1,_⟩
 · rw[h1];exact xW ..
 · rw[h1];exact u9 ..
 · rw[h1];exact u9 ..
end
theorem xX(k:IntKind)(z:Int):Sw.one (.int k z)=true:=rfl
theorem Bz(b:Bool):Sw.one (.bool b)=true:=rfl
theorem JN(s:ByteArray):Sw.one (.string s)=true:=rfl
theorem gB.one{α:Type}{enc:α->List Value}{n:Nat}{O:Ht}{G:Nat}{s:SV α}(h:gB enc n O G s):Sw.one s.v=true:=by
 obtain⟨a,c,e⟩:=h.shape
 rw[e];rfl
theorem Fp{α:Type}:∀(xs b:List α),lQ xs.length (xs++b)=some xs
 |[],b=>by cases b<;>rfl
 |x::xs,b=>by
  show(lQ xs.length (xs++b)).map (x::·)=_
  rw[Fp xs b];rfl
theorem AO{α:Type}{enc:α->List Value}{n:Nat}:∀(l:List α) (i:Nat) (x:α),(∀y∈l,(enc y).length=n)->l[i]?=some x->∃r,(l.flatMap enc).drop (i*n)=enc x++r
 |[],i,x,_,h=>by simp at h
 |y::l,0,x,_,h=>by
  simp at h;subst h
  exact⟨l.flatMap enc,by simp⟩
 |y::l,i+1,x,hl,h=>by
  obtain⟨r,hr⟩:=AO l i x (fun z b=>hl z (fG _ b)) (by simpa using h)
  refine⟨r,?_⟩
  rw[List.flatMap_cons,show(i+1)*n=(enc y).length+i*n by rw[hl y (List.mem_cons_self ..),Nat.succ_mul];omega,<-List.drop_drop,List.drop_left,hr]
theorem Sc{α:Type}{enc:α->List Value}{n:Nat}{l:List α}{i:Nat}{x:α}(hl:∀y∈l,(enc y).length=n)(h:l[i]?=some x):lQ n ((l.flatMap enc).drop (i*n))=some (enc x):=by
 obtain⟨r,hr⟩:=AO l i x hl h
 have:=hl x (fa h)
 rw[hr]
 subst this
 exact Fp _ _
theorem KL{α:Type}{enc:α->List Value}{n:Nat}{l:List α}{i f:Nat}{x:α}(hl:∀y∈l,(enc y).length=n)(h:l[i]?=some x)(hf:f<n):(l.flatMap enc)[i*n+f]?=(enc x)[f]?:=by
 obtain⟨r,hr⟩:=AO l i x hl h
 have:=hl x (fa h)
 have e:(l.flatMap enc)[i*n+f]?=((l.flatMap enc).drop (i*n))[f]?:=by rw[List.getElem?_drop]
 rw[e,hr,List.getElem?_append_left (by omega)]
theorem boxed(O:Ht)(G:Nat)(cells:List Value):∃b,O.set G (some (.cells cells gm.plain))=b/\HE G O b/\b.get G=some (.cells cells gm.plain):=
 ⟨_,rfl,HE.set _ _ (fg _),Tr.ig ..⟩
theorem stored(O:Ht)(b:Nat)(o:jT Tm):∃e,O.set b (some o)=e/\HE b O e/\e.get b=some o/\∀c,c≠b->e.get c=O.get c:=
 ⟨_,rfl,HE.set _ _ (fg _),Tr.ig ..,fun c hc=>Tr.gG _ _ hc⟩
theorem HE.le{B B':Nat}{h1 D:Ht}(h:HE B h1 D)(hb:B'<=B):HE B' h1 D:=fun b k=>h b (by omega)
section
variable {e:Env}{fm:Fm}{I:Tm}{ds:List Deferred}{O:Ht}{G:Nat}{gX:List Nat}{Q:St->Prop}{all:List Oper}{d:Tmp}{ty:TypeId}{pos:String}{j7:Array Edge}
theorem WC.Uw{c:Cl}(jJ:uq)(hl:e.low=0)(h:∀rec Z k,c.run e rec fm I ds O G Z k=tW (fun t _=>t) e.low I ds O G Z k (undef,jJ,0))(q:Q ⟨I,ds,jm jJ O,G,gX⟩):WC e fm c ⟨I,ds,O,G,gX⟩ Q:=
 ⟨⟨I,ds,jm jJ O,G,gX⟩,⟨0,fun n _ Z k=>by show c.run e (ev e n) fm I ds O G Z k=_;rw[h (ev e n) Z k,hl];simp only[tW,IC,St.at,Nat.add_zero]⟩,q⟩
theorem WC.alloc{el:TypeId}(z:Value)(cells:List Value)(hl:e.low=0)(b:e.T.zero el=some z)(hc:z.cells.toList=cells)(q:Q ⟨I.set d (.pointer (some ⟨G,0,none⟩)),ds,O.set G (some (.cells cells gm.plain)),G+1,gX⟩):
 WC e fm (iQ all ⟨some d,.alloc el,ty,pos,j7,none⟩) ⟨I,ds,O,G,gX⟩ Q:=by
 subst hc
 refine .kZ d _ [(G,some (.cells z.cells.toList gm.plain))] 1 hl (fun rec Z k=>?_) q
 have:(iQ all ⟨some d,.alloc el,ty,pos,j7,none⟩).run e rec fm I ds O G Z k=(match e.T.zero el with|some z=>tW (fun t v=>t.set d v) e.low I ds O G Z k (Co G z.cells.toList)|none=>.gu 0):=rfl
 rw[this,b];rfl
theorem WC.u_{t:TypeId}{a v:Operand}(b off:Nat)(val:Value)(cells new vs:List Value)(n:Nat){m:gm}(hl:e.low=0)(p:(f_ a).run I=.pointer (some ⟨b,off,none⟩))(u:(f_ v).run I=val)(hs:e.T.size t=some n)(o:val.cells.toList=vs)
 (hn:(Nat.beq vs.length n&&vs.all one)=true) (hb:O.get b=some (.cells cells m)) (hm:m.ro=false) (hg:m.mP=none) (j:mM cells off vs=some new) (q:Q ⟨I,ds,O.set b (some (.cells new m)),G,gX⟩):
 WC e fm (iQ all ⟨none,.store t a v,ty,pos,j7,none⟩) ⟨I,ds,O,G,gX⟩ Q:=by
 subst u o
 refine .Uw [(b,some (.cells new m))] hl (fun rec Z k=>?_) q
 have:(iQ all ⟨none,.store t a v,ty,pos,j7,none⟩).run e rec fm I ds O G Z k=y6 (xe e.T O.get t ((f_ a).run I) ((f_ v).run I)) (tW (fun t _=>t) e.low I ds O G Z k):=rfl
 rw[this,p]
 have:xe e.T O.get t (.pointer (some ⟨b,off,none⟩)) ((f_ v).run I)=some [(b,some (.cells new m))]:=by
  simp only[xe,hb,hs,hn,cond_true,oG,hm,cond_false,j,Option.bind_some,hg]
 rw[this];rfl
end
theorem iO(n:Nat)(b:Bool):lx n (.bool b) (.bool b)=true:=by cases n<;>cases b<;>rfl
theorem wL(n:Nat)(s:ByteArray):lx n (.string s) (.string s)=true:=by
 have:wV (strs s) (strs s)=true:=by rw[xg];simp
 cases n<;>simp only[lx,this]
theorem PD(n:Nat)(x:Array Value)(h:∀v∈x.toList,lx n v v=true):lx (n+1) (.tuple x) (.tuple x)=true:=by
 simp only[lx,Fl _ h]
theorem zg{x y:Int}:Eg x y=true↔x<=y:=by rw[Mg];simp
theorem F_{x y:Int}:(!(kN x y))=true↔x≠y:=by rw[EI];simp
theorem WP.scope{e:Env}{fm:Fm}{s:St}{W:Nat->St->Prop}{c:Code}(h:WP e fm c s W):WP e fm (.scope c) s W:=by
 obtain⟨o,b,h1,D⟩:=h;exact⟨o,b,h1.scope,D⟩
def ga(a:Option Addr):Nat:=(a.map (·.block)).getD 0
section
variable {α:Type}{enc:α->List Value}{n:Nat}{O e9:Ht}{G e_:Nat}{s:SV α}
theorem gB.BA{a:Option Addr}{k c:Nat}(h:gB enc n O G s)(e:s.v=.slice a k c)(hk:0<s.l.length):a=some ⟨ga a,0,none⟩:=by
 obtain⟨b,m,rfl,_⟩:=h.block e hk;rfl
theorem gB.pw{a:Option Addr}{k c:Nat}(h:gB enc n O G s)(e:s.v=.slice a k c)(hk:0<s.l.length):∃m,O.get (ga a)=some (.cells (s.l.flatMap enc) m):=by
 obtain⟨b,m,rfl,_,h1⟩:=h.block e hk;exact⟨m,h1⟩
end
theorem nE{α:Type}{enc:α->List Value}{n:Nat}{l:List α}{i f:Nat}{x:α}{v:Value}(hl:∀y∈l,(enc y).length=n)(h:l[i]?=some x)(hf:f<n)(b:(enc x)[f]?=some v):(l.flatMap enc)[0+i*n+f]?=some v:=by
 rw[Nat.zero_add,KL hl h hf,b]
theorem MY{α:Type}{enc:α->List Value}{l:List α}{i:Nat}{x:α}{v:Value}(hl:∀y∈l,(enc y).length=1)(h:l[i]?=some x)(b:(enc x)[0]?=some v):(l.flatMap enc)[0+i*1]?=some v:=by
 have:=nE hl h (by decide) b
 rwa[Nat.add_zero]at this
theorem xF{α:Type}{enc:α->List Value}{n:Nat}{l:List α}{i:Nat}{x:α}(hl:∀y∈l,(enc y).length=n)(h:l[i]?=some x):lQ n ((l.flatMap enc).drop (0+i*n))=some (enc x):=by
 rw[Nat.zero_add];exact Sc hl h
theorem tK{T:Ty}{O:Hp}{t:TypeId}{b o:Nat}{cells:List Value}{v:Value}(e:T.agg t=some false)(hb:∃m,O b=some (.cells cells m))(hc:cells[o]?=some v):kh T O t (.pointer (some ⟨b,o,none⟩))=some v:=by
 obtain⟨m,hb⟩:=hb;exact ki e hb hc
theorem AP{T:Ty}{O:Hp}{t:TypeId}{b o n:Nat}{cells l:List Value}(e:T.agg t=some true)(hs:T.size t=some n)(hb:∃m,O b=some (.cells cells m))(hc:lQ n (cells.drop o)=some l):kh T O t (.pointer (some ⟨b,o,none⟩))=some (.agg l.toArray):=by
 obtain⟨m,hb⟩:=hb;exact jV e hs hb hc
theorem sW{T:Ty}{t el:TypeId}{a:Option Addr}{len c i s:Nat}{k:IntKind}(hu:T.jo t=some (.slice el))(hs:T.size el=some s)(e:a=some ⟨ga a,0,none⟩)(hi:i<len):mQ T t (.slice a len c) (.int k (.ofNat i))=some (.pointer (some ⟨ga a,0+i*s,none⟩)):=by
 generalize hb:ga a=b at e
 subst e
 exact Lo hu hs hi
section
variable {e:Env}{fm:Fm}{I:Tm}{ds:List Deferred}{O:Ht}{G:Nat}{gX:List Nat}{Q:St->Prop}{all:List Oper}{d:Tmp}{ty:TypeId}{pos:String}{j7:Array Edge}
theorem WC.sv{t:TypeId}{a:Operand}(b o:Nat)(v:Value){cells:List Value}(hx:(f_ a).run I=.pointer (some ⟨b,o,none⟩))(j:e.T.agg t=some false)(hb:∃m,O.get b=some (.cells cells m))(hc:cells[o]?=some v)(q:Q ⟨I.set d v,ds,O,G,gX⟩):
 WC e fm (iQ all ⟨some d,.load t a,ty,pos,j7,none⟩) ⟨I,ds,O,G,gX⟩ Q:=by
 obtain⟨m,hb⟩:=hb;exact .jW b o v hx j hb hc q
theorem WC.Fq{t:TypeId}{a:Operand}(b o:Nat)(l:List Value){n:Nat}{cells:List Value}(hx:(f_ a).run I=.pointer (some ⟨b,o,none⟩))(j:e.T.agg t=some true)(hs:e.T.size t=some n)(hb:∃m,O.get b=some (.cells cells m))(hc:lQ n (cells.drop o)=some l)(q:Q ⟨I.set d (.agg l.toArray),ds,O,G,gX⟩):
 WC e fm (iQ all ⟨some d,.load t a,ty,pos,j7,none⟩) ⟨I,ds,O,G,gX⟩ Q:=by
 obtain⟨m,hb⟩:=hb;exact .iz b o l hx j hs hb hc q
theorem WC.ix{t el:TypeId}{x j:Operand}(a:Option Addr)(len c i s:Nat){k:IntKind}(hx:(f_ x).run I=.slice a len c)(hj:(f_ j).run I=.int k (.ofNat i))(hu:e.T.jo t=some (.slice el))(hs:e.T.size el=some s)(b:a=some ⟨ga a,0,none⟩)(hi:i<len)(q:Q ⟨I.set d (.pointer (some ⟨ga a,0+i*s,none⟩)),ds,O,G,gX⟩):
 WC e fm (iQ all ⟨some d,.indexAddr t x j,ty,pos,j7,none⟩) ⟨I,ds,O,G,gX⟩ Q:=
 .mq d (mQ e.T t ((f_ x).run I) ((f_ j).run I)) (fun _ _ _=>rfl) (by rw[hx,hj];exact sW hu hs b hi) q
end
section
variable {T:Ty}{O:Ht}{G:Nat}{I:Tm}{c:tG}
theorem mi(v:Value)(h:∀k,c.run T O G I k=bif lx 8 v v then k else .gu 0)(b:lx 8 v v=true)(k:R):c.run T O G I k=k:=by
 rw[h,b];rfl
theorem qJ(v:Value)(o:Option Value)(h:∀k,c.run T O G I k=kQ o (fun x=>bif lx 8 x v then k else .gu 0))(b:o=some v)(e:lx 8 v v=true)(k:R):c.run T O G I k=k:=by
 rw[h,b];simp only[kQ,e,cond_true]
end
def gi(P:Prop):Value->Prop:=fun v=>∃c:Bool,v=.bool c/\(c=true↔P)
def DO(z:Int):Value->Prop:=fun v=>v=.int .i64 z
def GB(b:Bool)(P:Prop)(G:Nat)(O:Ht):Value->Ht->Nat->Prop:=fun v e9 e_=>(∃c:Bool,v=(bif b then .bool c else undef)/\(c=true↔P))/\G<=e_/\HE G O e9
theorem GB.off{b:Bool}{P:Prop}{G:Nat}{O:Ht}(h:b=false):GB b P G O undef O G:=
 ⟨⟨@decide P (Classical.propDecidable P),by rw[h];rfl,by simp⟩,fg _,HE.refl _ _⟩
def GV(b:Bool)(x:Value)(G:Nat)(O:Ht):Value->Ht->Nat->Prop:=fun v e9 e_=>v=(bif b then x else undef)/\G<=e_/\HE G O e9
theorem GV.off{b:Bool}{x:Value}{G:Nat}{O:Ht}(h:b=false):GV b x G O undef O G:=
 ⟨by rw[h];rfl,fg _,HE.refl _ _⟩
def encI(z:Int):List Value:=[.int .i64 z]
def aac(b:Bool):List Value:=[.bool b]
def aad(s:ByteArray):List Value:=[.string s]
def lL{α:Type}(s:SV α):List Value:=[s.v]
instance {α:Type}:Inhabited (SV α):=⟨⟨.nilIface,[]⟩⟩
def jC{α:Type}(enc:α->List Value)(n:Nat)(E:Ht->Nat->α->Prop)(O:Ht)(G:Nat)(s:SV α):Prop:=gB enc n O G s/\∀x∈s.l,E O G x
theorem jC.mono{α:Type}{enc:α->List Value}{n:Nat}{E:Ht->Nat->α->Prop}{O e9:Ht}{G e_:Nat}{s:SV α}(h:jC enc n E O G s)(hE:∀x,E O G x->HE G O e9->G<=e_->E e9 e_ x)(he:HE G O e9)(hn:G<=e_:=by omega):jC enc n E e9 e_ s:=
 ⟨h.1.mono he hn,fun x hx=>hE x (h.2 x hx) he hn⟩
theorem wrapN{n:Nat}(h:n<9223372036854775808):gy .i64 (.ofNat n)=.ofNat n:=by
 have h1:rE .i64 (.ofNat n)=n:=Nat.mod_eq_of_lt (show n<18446744073709551616 by omega)
 have D:Nat.ble 9223372036854775808 n=false:=by
  cases hb:Nat.ble 9223372036854775808 n with
  |false=>rfl
  |true=>have:=fk hb;omega
 unfold gy
 rw[h1]
 unfold xz
 show(bif Nat.ble 9223372036854775808 n then _ else Int.ofNat n)=_
 rw[D];rfl
theorem gQ{i j:Nat}(h:i+j<9223372036854775808):gy .i64 (.ofNat i+.ofNat j)=.ofNat (i+j):=wrapN h
theorem Bb{i j:Nat}(h:i<9223372036854775808)(hj:j<=i):gy .i64 (.ofNat i-.ofNat j)=.ofNat (i-j):=by
 have:(Int.ofNat i-Int.ofNat j:Int)=.ofNat (i-j):=by
  show(i:Int)-(j:Int)=((i-j:Nat):Int)
  omega
 rw[this];exact wrapN (by omega)
def qf{α:Type}(l:List α)(A:α->Prop):Value->Prop:=fun v=>(v=.int .i64 (-1)/\∀x∈l,¬A x)\/∃(i:Nat) (x:α),v=.int .i64 (.ofNat i)/\l[i]?=some x/\A x/\∀(j:Nat) (y:α),j<i->l[j]?=some y->¬A y
theorem qf.sign{α:Type}{l:List α}{A:α->Prop}{v:Value}(h:qf l A v):∃z:Int,v=.int .i64 z/\(0<=z↔∃x∈l,A x):=by
 rcases h with⟨rfl,h⟩|⟨i,x,rfl,h1,D,_⟩
 · exact⟨-1,rfl,by simp;exact h⟩
 · exact⟨.ofNat i,rfl,⟨fun _=>⟨x,fa h1,D⟩,fun _=>Int.natCast_nonneg i⟩⟩
def MZ(k:Int)(P:Prop):Value->Prop:=fun v=>∃z:Int,v=.int .i64 z/\(z=0↔P)/\(z=0\/z=k)
def GC(b:Bool)(k:Int)(P:Prop)(G:Nat)(O:Ht):Value->Ht->Nat->Prop:=fun v e9 e_=>(∃z:Int,v=(bif b then .int .i64 z else undef)/\(z=0↔P)/\(z=0\/z=k))/\G<=e_/\HE G O e9
theorem gB.ny{α:Type}{enc:α->List Value}{n:Nat}{l:List α}{O:Ht}{G b c:Nat}{m:gm}{cells:List Value}(hl:∀x∈l,(enc x).length=n)(hb:O.get b=some (.cells cells m))(hc:cells=l.flatMap enc)(h0:0<c)(jH:b<G)(hs:l.length<281474976710656)(e:l.length<=c:=by simp)(hm:m.mP=none\/m.unit=n:=by exact .inl rfl):
 gB enc n O G ⟨.slice (some ⟨b,0,none⟩) l.length c,l⟩:=
 ⟨hl,.inr ⟨b,c,m,rfl,h0,jH,by rw[hb,hc],e,hm⟩,hs⟩
theorem lg{c y:Bool}{b:Value}(h:c=false->b=.bool y):lu (.bool c) (.bool true) b=some (.bool (c||y)):=by
 cases c with
 |true=>rfl
 |false=>rw[h rfl];rfl
theorem tL{c x:Bool}{a:Value}(h:c=true->a=.bool x):lu (.bool c) a (.bool false)=some (.bool (c&&x)):=by
 cases c with
 |true=>rw[h rfl];rfl
 |false=>rfl
theorem Yd{fl:Bool}{T:Ty}{O:Ht}{G:Nat}{I:Tm}{all:List Oper}{i j:Nat}{w:Bool}{d:Tmp}{op:Op}{ty:TypeId}{pos:String}{j7:Array Edge}(b:Bool)(v x:Value){g:Od}(hn:nP i all=some ⟨some d,op,ty,pos,j7,some (j,w)⟩)(hg:kL all j=some g)(hx:g.run I=x)(hw:nD w x=b)
 (hd:I.get d=(bif b then v else undef)) (h1:b=true->∀k,(xA fl ⟨some d,op,ty,pos,j7,none⟩).run T O G I k=k) (k:R):(vI fl all i).run T O G I k=k:=by
 subst hx
 unfold vI
 simp only[hn]
 unfold Hg
 simp only[hg]
 show(Bool.casesOn (nD w (g.run I)) (bif A6 (some d) I then k else .gu 0) ((xA fl ⟨some d,op,ty,pos,j7,some (j,w)⟩).run T O G I k):R)=k
 rw[hw]
 cases b with
 |true=>exact h1 rfl k
 |false=>
  have:A6 (some d) I=true:=by show lx 8 undef (I.get d)=true;rw[hd];rfl
  show(bif A6 (some d) I then k else .gu 0)=k
  rw[this];rfl
end
end Sw
namespace Sw
noncomputable section
open Go Go.RowKit
theorem jc.val{e:Env}{c:tG}{l:List tG}{I:Tm}{ds:List Deferred}{O:Ht}{G:Nat}{gX:List Nat}(v:Value)(h:∀k,c.run e.T O G I k=bif lx 8 v v then k else .gu 0)(b:lx 8 v v=true)(hl:jc e l ⟨I,ds,O,G,gX⟩):jc e (c::l) ⟨I,ds,O,G,gX⟩:=
 .cons (fun k=>by show c.run e.T O G I k=k;rw[h,b];rfl) hl
theorem jc.mq{e:Env}{c:tG}{l:List tG}{I:Tm}{ds:List Deferred}{O:Ht}{G:Nat}{gX:List Nat}(v:Value)(o:Option Value)(h:∀k,c.run e.T O G I k=kQ o (fun x=>bif lx 8 x v then k else .gu 0))(b:o=some v)(j:lx 8 v v=true)(hl:jc e l ⟨I,ds,O,G,gX⟩):jc e (c::l) ⟨I,ds,O,G,gX⟩:=
 .cons (fun k=>by show c.run e.T O G I k=k;rw[h,b];simp only[kQ,j,cond_true]) hl
theorem jc.new{e:Env}{c:tG}{l:List tG}{I:Tm}{ds:List Deferred}{O:Ht}{G:Nat}{gX:List Nat}(m:Nat)(v:Value)(Z:List Value)(h:∀k,c.run e.T O G I k=(match O.get m with|some (.cells lJ j)=>bif lx 8 v v&&(uU (lx 8) Z lJ&&CZ j)then k else .gu 0|_=>.gu 0))(hm:O.get m=some (.cells Z gm.plain))(b:lx 8 v v=true)(hc:uU (lx 8) Z Z=true)(hl:jc e l ⟨I,ds,O,G,gX⟩):jc e (c::l) ⟨I,ds,O,G,gX⟩:=
 .cons (fun k=>by show c.run e.T O G I k=k;rw[h,hm];simp only[b,hc];rfl) hl
theorem Sl.lx{B size G l:Nat}{O:Ht}{v:Value}{xs:List Value}(h:Sl B size O G v l xs):lx 8 v v=true:=by
 cases h with
 |nil=>exact xW ..
 |plain=>exact u9 ..
 |grown=>exact u9 ..
theorem WP.Zn{fl:Bool}{e:Env}{fm:Fm}{s:St}{W:Nat->St->Prop}{id:Nat}{ops:Array Oper}(sk:List wu)(hs:(yn fl ops.toList).sk=sk)(h:WD e fm (Ax fl ops.toList sk) s (W 0))(hf:wv ops.toList=fl:=by kernel_rfl):WP e fm (.region id ops true) s W:=by
 subst hf;subst hs;exact .draw h
theorem WP.qZ{e:Env}{fm:Fm}{s:St}{W:Nat->St->Prop}{id:Nat}{ops:Array Oper}(sk:List wu)(hs:(yn false ops.toList).sk=sk)(R5:List Kt)(hc:Ax false ops.toList sk=R5)(h:WD e fm R5 s (W 0))(hf:wv ops.toList=false:=by kernel_rfl):WP e fm (.region id ops true) s W:=by
 subst hc;exact .Zn sk hs h hf
theorem KM{fl:Bool}{all:List Oper}{i:Nat}{o:Oper}(h:nP i all=some o)(hc:(fl&&pX o.op)=false):p0 fl all i=iQ all o:=by
 simp only[p0,h,tw,hc];rfl
theorem WN.hZ{fl:Bool}{e:Env}{fm:Fm}{s:St}{Q:St->Prop}{all:List Oper}{i:Nat}{o:Oper}{l:List Cl}(h:nP i all=some o)(k:WC e fm (iQ all o) s fun s1=>WN e fm l s1 Q)(hc:(fl&&pX o.op)=false:=by rfl):WN e fm (p0 fl all i::l) s Q:=by
 refine .cons ?_
 rw[KM h hc];exact k
theorem WC.at{fl:Bool}{e:Env}{fm:Fm}{s:St}{Q:St->Prop}{all:List Oper}{i:Nat}{o:Oper}(h:nP i all=some o)(k:WC e fm (iQ all o) s Q)(hc:(fl&&pX o.op)=false:=by rfl):WC e fm (p0 fl all i) s Q:=by
 rw[KM h hc];exact k
theorem sX{T:Ty}{O:Hp}{t:Tm}{a:Nat}{ty:TypeId}{v:Value}(h:kh T O ty ((f_ (.tmp a)).run t)=some v):nc T O t [.cell a ty]=some [v]:=by
 simp only[nc,h]
theorem rJ{a b:ByteArray}:wV (strs a) (strs b)=true↔a=b:=by
 rw[xg]
 simp only[beq_iff_eq]
 constructor
 · intro h
   cases a;cases b
   have h:Array.toList _=Array.toList _:=h
   exact congrArg ByteArray.mk (Array.toList_inj.1 h)
 · rintro rfl;rfl
theorem Sd{a b:ByteArray}:(!(wV (strs a) (strs b)))=true↔a≠b:=by
 rw[Bool.not_eq_true',<-Bool.not_eq_true,rJ]
def Wd(P:Prop):Value->Prop:=fun v=>∃z:Int,v=.int .i64 z/\(z=0↔P)
def wM(x:Value):Value->Prop:=fun v=>v=x
def JO(P:Prop):Value->Prop:=fun v=>∃c:Bool,v=.bool c/\(c=true->P)
def GI(b:Bool)(P:Prop)(G:Nat)(O:Ht):Value->Ht->Nat->Prop:=fun v e9 e_=>(∃c:Bool,v=(bif b then .bool c else undef)/\(c=true->P))/\G<=e_/\HE G O e9
theorem GI.off{b:Bool}{P:Prop}{G:Nat}{O:Ht}(h:b=false):GI b P G O undef O G:=
 ⟨⟨false,by rw[h];rfl,fun h=>by cases h⟩,fg _,HE.refl _ _⟩
def aae{α:Type}(l:List α)(A:α->Prop)(z:Int):Prop:=(z=-1/\∀x∈l,¬A x)\/∃(i:Nat) (x:α),z=.ofNat i/\l[i]?=some x/\A x/\∀(j:Nat) (y:α),j<i->l[j]?=some y->¬A y
theorem qf.num{α:Type}{l:List α}{A:α->Prop}{v:Value}(h:qf l A v):∃z:Int,v=.int .i64 z/\aae l A z:=by
 rcases h with⟨rfl,h⟩|⟨i,x,rfl,h⟩
 · exact⟨_,rfl,.inl ⟨rfl,h⟩⟩
 · exact⟨_,rfl,.inr ⟨i,x,rfl,h⟩⟩
end
end Sw
namespace Sw
noncomputable section
open Go Go.RowKit
theorem M0{α:Type}:∀(vs Z:List α),vs.length<=Z.length->wy Z vs=some (vs++Z.drop vs.length)
 |[],Z,_=>by cases Z<;>rfl
 |v::vs,[],h=>by simp at h
 |v::vs,c::Z,h=>by simp[wy,M0 vs Z (by simpa using h)]
theorem ID{α:Type}:∀(xs rest b:List α),b.length<=rest.length->mM (xs++rest) xs.length b=some (xs++(b++rest.drop b.length))
 |[],rest,b,h=>by
  have:=M0 b rest h
  cases rest<;>simpa[mM]using this
 |x::xs,rest,b,h=>by
  show(mM (xs++rest) xs.length b).map (x::·)=_
  rw[ID xs rest b h];rfl
inductive Rm(B size N:Nat)(O:Ht)(G:Nat):Value->Nat->List Value->Prop where
 |nil (h:N=0):Rm B size N O G (.slice none 0 0) 0 []
 |room {b l gr:Nat} {xs rest:List Value} (h0:0<N) (hb:O.get b=some (.cells (xs++rest) ⟨false,some gr,0,size⟩)) (hg:O.get gr=some (.group [⟨b,0,N*size⟩])) (hn:gr≠b)
   (h1:b<G) (D:B<=b) (h3:gr<G) (h4:B<=gr) (hl:xs.length=l*size) (hr:xs.length+rest.length=N*size) (hle:l<=N):Rm B size N O G (.slice (some ⟨b,0,none⟩) l N) l xs
theorem Rm.mono{B size N G e_ l:Nat}{O e9:Ht}{v:Value}{xs:List Value}(h:Rm B size N O G v l xs)(he:HE G O e9)(hn:G<=e_):Rm B size N e9 e_ v l xs:=by
 cases h with
 |nil h=>exact .nil h
 |room h0 hb hg jI h1 D h3 h4 hl hr hle=>exact .room h0 (he.get hb h1) (he.get hg h3) jI (by omega) D (by omega) h4 hl hr hle
theorem Rm.le{B B' size N G l:Nat}{O:Ht}{v:Value}{xs:List Value}(h:Rm B size N O G v l xs)(b:B'<=B):Rm B' size N O G v l xs:=by
 cases h with
 |nil h=>exact .nil h
 |room h0 hb hg jI h1 D h3 h4 hl hr hle=>exact .room h0 hb hg jI h1 (by omega) h3 (by omega) hl hr hle
def QT(O:Hp)(a:Option Addr)(l m c size:Nat)(e:List Value):Option qj:=
 match a,e with
 |_,[]=>some (.slice a (l+m) c,[],0)
 |some ⟨b,off,none⟩,new=>match O b with
  |some (.cells Z mt)=>(oG O b Z mt (off+l*size) new).map fun u=>(.slice a (l+m) c,u,0)
  |_=>none
 |_,_=>none
theorem Rm.append{T:Ty}{B size N G l m st xt el:Nat}{O:Ht}{v x z:Value}{inf:TypeInfo}{xs e:List Value}(h:Rm B size N O G v l xs)(hu:T.jo st=some (.slice el))(hs:T.size el=some size)(L:T.zero el=some z)(hi:T.kn el=some inf)
 (hx:pR T xt x=some (m,false)) (u:lU O.get (m*size) x=some e) (A:uR size x=true) (o:e.length=m*size) (p:e.all one=true) (J:0<size) (j:l+m<=N)
 (b1:(l+m)*inf.bytes<=70368744177664) (b2:inf.bytes<=1073741824) (K:l+m<=70368744177664):
 ∃v' jJ,jU T O.get st xt v x G=some (v',jJ,0)/\Rm B size N (jm jJ O) G v' (l+m) (xs++e)/\HE B O (jm jJ O):=by
 have e1:∀a c,l+m<=c->jU T O.get st xt (.slice a l c) x G=QT O.get a l m c size e:=fun a c hc=>by
  have:(jU T O.get st xt (.slice a l c) x G)=QT O.get a l m c size e:=by
   simp only[jU,hu,hs,L,hi,hx,mg,cond_false,A,cond_true,u,Option.bind_some,p,Nat.ble_eq_true_of_le b1,Nat.ble_eq_true_of_le b2,Nat.ble_eq_true_of_le K,Bool.and_true,Nat.ble_eq_true_of_le hc]
   cases a<;>cases e<;>rfl
  exact this
 cases h with
 |nil h=>
  obtain rfl:m=0:=by omega
  obtain rfl:e=[]:=fZ (by omega)
  refine⟨_,_,(e1 none 0 (by omega)).trans rfl,.nil h,HE.refl _ _⟩
 |@room b _ gr _ rest h0 hb hg jI h1 D h3 h4 hl hr hle=>
  cases e with
  |nil=>
   obtain rfl:m=0:=by
    rcases gp m with h|h
    · exact h
    · have:=Nat.mul_pos h J;simp at o;omega
   refine⟨_,_,(e1 (some ⟨b,0,none⟩) N (by omega)).trans rfl,?_,HE.refl _ _⟩
   rw[List.append_nil]
   exact .room h0 hb hg jI h1 D h3 h4 hl hr hle
  |cons y e=>
   have hlen:(y::e).length<=rest.length:=by
    have:(l+m)*size<=N*size:=gJ _ j
    rw[Nat.add_mul]at this;omega
   have C:∀lo hi,overlaps b lo hi ⟨b,0,N*size⟩=false:=fun lo hi=>by
    simp[overlaps]
   have F:oG O.get b (xs++rest) ⟨false,some gr,0,size⟩ (0+l*size) (y::e)=some [(gr,some (.group [⟨b,0,N*size⟩])),(b,some (.cells (xs++(y::e++rest.drop (y::e).length)) ⟨false,some gr,0,size⟩))]:=by
    have E:mM (xs++rest) (0+l*size) (y::e)=some (xs++(y::e++rest.drop (y::e).length)):=by
     rw[Nat.zero_add,<-hl];exact ID xs rest (y::e) hlen
    simp only[oG,E,cond_false,Option.bind_some,hg,oF,nw,List.filter_cons,List.filter_nil,C,Bool.false_eq_true,if_false,List.all_nil,cond_true,List.map_nil,List.nil_append,Bool.not_false,if_true]
   refine⟨.slice (some ⟨b,0,none⟩) (l+m) N,[(gr,some (.group [⟨b,0,N*size⟩])),(b,some (.cells (xs++(y::e++rest.drop (y::e).length)) ⟨false,some gr,0,size⟩))],(e1 (some ⟨b,0,none⟩) N j).trans (by simp only[QT,hb,F,Option.map_some]),?_,?_⟩
   · simp only[jm]
     refine .room (rest:=rest.drop (y::e).length) h0 (by rw[List.append_assoc];exact Tr.ig ..) ((Tr.gG _ _ (by omega)).trans (Tr.ig ..)) jI h1 D h3 h4 (by rw[List.length_append,hl,o,Nat.add_mul]) ?_ j
     rw[List.length_append,List.length_drop];omega
   · exact(HE.set _ _ h4).trans (HE.set _ _ D) (fg _)
section
variable {e:Env}{fm:Fm}{I:Tm}{ds:List Deferred}{O:Ht}{G:Nat}{gX:List Nat}{Q:St->Prop}{all:List Oper}{d:Tmp}{ty:TypeId}{pos:String}{j7:Array Edge}
theorem WC.PE{st xt el:TypeId}{x y:Operand}{B l m size N:Nat}{v w z:Value}{inf:TypeInfo}{xs b:List Value}(hl:e.low=0)(hx:(f_ x).run I=v)(hy:(f_ y).run I=w)(h:Rm B size N O G v l xs)
 (hu:e.T.jo st=some (.slice el)) (hs:e.T.size el=some size) (K:e.T.zero el=some z) (hi:e.T.kn el=some inf) (F:pR e.T xt w=some (m,false)) (o:lU O.get (m*size) w=some b) (p:uR size w=true) (E:b.length=m*size) (j:b.all one=true)
 (C:0<size) (A:l+m<=N) (b1:inf.bytes<=1024) (L:N<=1048576)
 {rF:Array TypeId} (J:rF=#[st,xt]) (q:∀v' e9,HE B O e9->Rm B size N e9 G v' (l+m) (xs++b)->Q ⟨I.set d v',ds,e9,G,gX⟩):
 WC e fm (iQ all ⟨some d,.call {callee:=.builtin .append,args:=#[x,y],argTypes:=rF},ty,pos,j7,none⟩) ⟨I,ds,O,G,gX⟩ Q:=by
 subst J
 have u:(l+m)*inf.bytes<=70368744177664:=ff (Nat.mul_le_mul (show l+m<=1048577 by omega) b1) (by decide)
 obtain⟨v',jJ,h1,D,h3⟩:=h.append hu hs K hi F o p E j C A u (by omega) (by omega)
 refine .KK d (jU e.T O.get st xt v w G) hl (fun _ _ _=>?_) h1 (q _ _ h3 D)
 rw[<-hx,<-hy];rfl
end
theorem KN(c:List Value):∀n,(kP n c).length=n*c.length
 |0=>by simp[kP]
 |n+1=>by simp only[kP,List.length_append,KN c n,Nat.succ_mul];omega
theorem KO{c:List Value}(h:c.all one=true):∀n,(kP n c).all one=true
 |0=>rfl
 |n+1=>by simp only[kP,List.all_append,h,KO h n,Bool.and_self]
theorem Lp{T:Ty}{O:Hp}{st xt el G n size:Nat}{z:Value}{inf:TypeInfo}(hu:T.jo st=some (.slice el))(hs:T.size el=some size)(m:T.zero el=some z)(hi:T.kn el=some inf)(hx:pR T xt (.int .i64 (.ofNat n))=some (n,true))(h0:0<n)
 (e:z.cells.toList.all one=true) (b1:inf.bytes<=1024) (o:n<=1048576):
 jU T O st xt (.slice none 0 0) (.int .i64 (.ofNat n)) G=some (.slice (some ⟨G+1,0,none⟩) n n,[(G,some (jT.group [⟨G+1,0,(kP n z.cells.toList).length⟩])),(G+1,some (jT.cells (kP n z.cells.toList) ⟨false,some G,0,size⟩))],2):=by
 have j:n*inf.bytes<=70368744177664:=ff (Nat.mul_le_mul (show n<=1048577 by omega) b1) (by decide)
 have b:Nat.ble n 0=false:=by
  cases hb:Nat.ble n 0 with
  |false=>rfl
  |true=>have:=fk hb;omega
 simp only[jU,hu,hs,m,hi,hx,mg,cond_true,Option.bind_some,KO e,Nat.zero_add,Nat.ble_eq_true_of_le j,Nat.ble_eq_true_of_le (show inf.bytes<=1073741824 by omega),Nat.ble_eq_true_of_le (show n<=70368744177664 by omega),Bool.and_true,b,cond_false,pZ]
theorem OO{T:Ty}{O:Hp}{t el b l N s gr:Nat}{cells:List Value}(hu:T.jo t=some (.slice el))(hs:T.size el=some s)(hb:O b=some (.cells cells ⟨false,some gr,0,s⟩))(hle:l<=N):
 sT T O t (.slice (some ⟨b,0,none⟩) l N) none (some (.int .i64 0)) none=some (.slice (some ⟨b,0,none⟩) 0 N):=by
 have h1:wB l N none (some (.int .i64 0)) none=some (0,0,N):=by
  cases N<;>rfl
 simp only[sT,hu,hs,Bl,hb,Nat.ble_eq_true_of_le hle,Nat.beq_refl,Bool.or_true,Bool.and_self,cond_true,Option.bind_some,h1,Option.map_some,Nat.zero_mul,Nat.add_zero,Nat.sub_zero]
theorem Rm.fresh{O:Ht}{G n size:Nat}{c:List Value}(h0:0<n)(hc:c.length=size):Rm G size n (jm [(G,some (jT.group [⟨G+1,0,(kP n c).length⟩])),(G+1,some (jT.cells (kP n c) ⟨false,some G,0,size⟩))] O) (G+2) (.slice (some ⟨G+1,0,none⟩) 0 n) 0 []:=by
 simp only[jm]
 have hl:(kP n c).length=n*size:=by rw[KN,hc]
 refine .room (gr:=G) (rest:=kP n c) h0 (Tr.ig ..) (by rw[<-hl];exact(Tr.gG _ _ (by omega)).trans (Tr.ig ..)) (by omega) (by omega) (by omega) (by omega) (by omega) (by simp) (by simpa using hl) (gI _)
theorem Rm.WZ{O:Ht}{G n size:Nat}{c:List Value}:HE G O (jm [(G,some (jT.group [⟨G+1,0,(kP n c).length⟩])),(G+1,some (jT.cells (kP n c) ⟨false,some G,0,size⟩))] O):=
 (HE.set _ _ (fg _)).trans (HE.set _ _ (fh _)) (fg _)
theorem nF{α:Type}{enc:α->List Value}{n:Nat}:∀(l:List α),(∀y∈l,(enc y).length=n)->(l.flatMap enc).length=l.length*n
 |[],_=>by simp
 |y::l,h=>by
  rw[List.flatMap_cons,List.length_append,nF l (fun z b=>h z (List.mem_cons_of_mem _ b)),h y (List.mem_cons_self ..),List.length_cons,Nat.succ_mul];omega
theorem Rm.ok{α:Type}{enc:α->List Value}{B n N l:Nat}{O:Ht}{G:Nat}{v:Value}{xs:List Value}{L:List α}(h:Rm B n N O G v l xs)(hl:l=N)(hx:xs=L.flatMap enc)(e:L.length=N)(he:∀x∈L,(enc x).length=n)(m:N<281474976710656):gB enc n O G ⟨v,L⟩:=by
 refine⟨he,?_,by show L.length<_;omega⟩
 cases h with
 |nil h=>exact .inl ⟨fZ (show L.length=0 by omega),.inl rfl⟩
 |@room b _ gr _ rest h0 hb hg jI h1 D h3 h4 j hr hle=>
  subst hl
  have:rest=[]:=fZ (by omega)
  subst this
  rw[List.append_nil,hx]at hb
  exact .inr ⟨b,l,_,by rw[e],h0,h1,hb,by show L.length<=l;omega,.inr rfl⟩
theorem gB.src{α:Type}{enc:α->List Value}{n:Nat}{O:Ht}{G:Nat}{s:SV α}{a:Option Addr}{k c:Nat}(h:gB enc n O G s)(j:s.v=.slice a k c):lU O.get (s.l.length*n) (.slice a k c)=some (s.l.flatMap enc):=by
 have hlen:=nF s.l h.1
 rcases h.2.1 with⟨h1,D⟩|⟨b,cap,m,h1,D,h3,h4,_⟩
 · rw[h1,List.length_nil,Nat.zero_mul]
   rcases D with D|⟨q,D⟩<;>(rw[j]at D;cases D;rfl)
 · rw[j]at h1;cases h1
   cases e:s.l.length*n with
   |zero=>rw[e]at hlen;rw[List.eq_nil_of_length_eq_zero hlen];rfl
   |succ q=>
    show(match O.get b with|some (.cells Z _)=>lQ (q+1) (Z.drop 0)|_=>none)=_
    rw[h4]
    exact vW _ _ (by rw[List.drop_zero,hlen,e])
theorem xk:∀(l:List Nat) (i:Nat),(l.take i).sum<=l.sum
 |[],i=>by simp
 |x::l,0=>by simp
 |x::l,i+1=>by simpa using xk l i
def GG{α:Type}(enc:α->List Value)(n B:Nat)(O:Ht)(G:Nat)(J:SV α):Prop:=Sl B n O G J.v J.l.length (J.l.flatMap enc)/\(J.l=[]->J.v=.slice none 0 0)
theorem Sl.view{B n G l:Nat}{O:Ht}{v:Value}{xs:List Value}(h:Sl B n O G v l xs):(v=.slice none 0 0/\l=0/\xs=[])\/∃b m,v=.slice (some ⟨b,0,none⟩) l l/\O.get b=some (.cells xs m)/\b<G/\(m.mP=none\/m.unit=n):=by
 cases h with
 |nil=>exact .inl ⟨rfl,rfl,rfl⟩
 |plain hb hm h h0 hl=>exact .inr ⟨_,_,rfl,hb,h,.inl hm⟩
 |grown hb hg qX h h0 D h3 hl=>exact .inr ⟨_,_,rfl,hb,h,.inr rfl⟩
theorem Sl.same{B n G l:Nat}{O e9:Ht}{v:Value}{xs:List Value}(h:Sl B n O G v l xs)(he:∀b,B<=b->e9.get b=O.get b):Sl B n e9 G v l xs:=by
 cases h with
 |nil=>exact .nil
 |plain hb hm h h0 hl=>exact .plain ((he _ h0).trans hb) hm h h0 hl
 |grown hb hg qX h h0 D h3 hl=>exact .grown ((he _ h0).trans hb) ((he _ h3).trans hg) qX h h0 D h3 hl
section
variable {α:Type}{enc:α->List Value}{n B:Nat}{O e9:Ht}{G e_:Nat}{J:SV α}
theorem GG.nil:GG enc n B O G ⟨.slice none 0 0,[]⟩:=⟨.nil,fun _=>rfl⟩
theorem GG.mono(h:GG enc n B O G J)(he:HE G O e9)(hn:G<=e_):GG enc n B e9 e_ J:=⟨h.1.mono he hn,h.2⟩
theorem GG.same(h:GG enc n B O G J)(he:∀b,B<=b->e9.get b=O.get b):GG enc n B e9 G J:=⟨h.1.same he,h.2⟩
theorem GG.ok(h:GG enc n B O G J)(he:∀x∈J.l,(enc x).length=n)(hs:J.l.length<281474976710656):gB enc n O G J:=by
 refine⟨he,?_,hs⟩
 rcases gp J.l.length with h0|h0
 · have:=List.eq_nil_of_length_eq_zero h0
   exact .inl ⟨this,.inl (h.2 this)⟩
 · rcases h.1.view with⟨_,h1,_⟩|⟨b,m,h1,D,h3,h4⟩
   · omega
   · exact .inr ⟨b,_,m,h1,h0,h3,D,fg _,h4⟩
end
section
variable {e:Env}{fm:Fm}{I:Tm}{ds:List Deferred}{O:Ht}{G:Nat}{gX:List Nat}{Q:St->Prop}{all:List Oper}{d:Tmp}{ty:TypeId}{pos:String}{j7:Array Edge}
end
theorem ou{T:Ty}{O:Hp}{t:Tm}{a i:Nat}{ty:TypeId}{v w:Value}(h:kh T O ty ((f_ (.tmp a)).run t)=some v)(hw:(f_ (.tmp i)).run t=w):nc T O t [.cell a ty,.tmp i]=some [v,w]:=by
 simp only[nc,h,hw]
end
end Sw
namespace Sw
noncomputable section
open Go Go.RowKit
def mh{α:Type}(enc:α->List Value)(n B gr:Nat)(O:Ht)(G:Nat)(J:SV α):Prop:=
 (J.l=[]/\J.v=.slice none 0 0)\/∃b ms,J.v=.slice (some ⟨b,0,none⟩) J.l.length J.l.length/\0<J.l.length/\O.get b=some (.cells (J.l.flatMap enc) ⟨false,some gr,0,n⟩)/\O.get gr=some (.group ms)/\(∀e∈ms,e.base+e.len<=(J.l.flatMap enc).length)
   /\b<G/\B<=b/\gr<G/\B<=gr
section
variable {α:Type}{enc:α->List Value}{n B gr:Nat}{O e9:Ht}{G e_:Nat}{J:SV α}
theorem mh.nil:mh enc n B gr O G ⟨.slice none 0 0,[]⟩:=.inl ⟨rfl,rfl⟩
theorem mh.mono(h:mh enc n B gr O G J)(he:HE G O e9)(hn:G<=e_:=by omega):mh enc n B gr e9 e_ J:=by
 rcases h with h|⟨b,ms,h1,D,h3,h4,e,j,m,o,p⟩
 · exact .inl h
 · exact .inr ⟨b,ms,h1,D,he.get h3 j,he.get h4 o,e,by omega,m,by omega,p⟩
theorem mh.other{g2:Nat}{E:Prop}(h:mh enc n B gr O G J)(hn:G<=e_)(he:∀c,c<G->(E->c≠g2)->e9.get c=O.get c)(hg:∃ms,E->O.get g2=some (.group ms))(hd:J.l=[]\/¬E\/gr≠g2):mh enc n B gr e9 e_ J:=by
 rcases h with h|⟨b,ms,h1,D,h3,h4,j,m,o,p,u⟩
 · exact .inl h
 · have jI:J.l≠[]:=fun k=>by rw[k]at D;simp at D
   obtain⟨m2,hg⟩:=hg
   refine .inr ⟨b,ms,h1,D,(he b m fun k e=>?_).trans h3,(he gr p fun k e=>?_).trans h4,j,by omega,o,by omega,u⟩
   · rw[e,hg k]at h3;cases h3
   · rcases hd with hd|hd|hd
     · exact jI hd
     · exact hd k
     · exact hd e
theorem mh.group(h:mh enc n B gr O G J):∃ms,J.l≠[]->O.get gr=some (.group ms):=by
 rcases h with h|⟨b,ms,h1,D,h3,h4,_⟩
 · exact⟨[],fun k=>absurd h.1 k⟩
 · exact⟨ms,fun _=>h4⟩
theorem mh.ok(h:mh enc n B gr O G J)(he:∀x∈J.l,(enc x).length=n)(hs:J.l.length<281474976710656):gB enc n O G J:=by
 refine⟨he,?_,hs⟩
 rcases h with h|⟨b,ms,h1,D,h3,h4,j,e,_⟩
 · exact .inl ⟨h.1,.inl h.2⟩
 · exact .inr ⟨b,_,_,h1,D,e,h3,fg _,.inr rfl⟩
theorem mh.append{T:Ty}{st el:Nat}{x z:Value}{inf:TypeInfo}(a:α)(h:mh enc n B gr O G J)(hlen:∀y∈J.l,(enc y).length=n)(hu:T.jo st=some (.slice el))(hs:T.size el=some n)(M:T.zero el=some z)(hi:T.kn el=some inf)
 (hx:pR T st x=some (1,false)) (C:lU O.get (1*n) x=some (enc a)) (E:uR n x=true) (R:(enc a).length=n) (A:(enc a).all one=true)
 (b1:(J.l.length+1)*inf.bytes<=70368744177664) (b2:inf.bytes<=1073741824) (L:J.l.length+1<=70368744177664) (F:B<=G):
 ∃v' jJ k o,jU T O.get st st J.v x G=some (v',jJ,k)/\mh enc n B o (jm jJ O) (G+k) ⟨v',J.l++[a]⟩/\(∀c,c<G->(J.l≠[]->c≠gr)->(jm jJ O).get c=O.get c)/\((J.l≠[]/\o=gr)\/G<=o):=by
 have u:Nat.ble (J.l.length+1) J.l.length=false:=by
  cases hb:Nat.ble (J.l.length+1) J.l.length with
  |false=>rfl
  |true=>have:=fk hb;omega
 have e1:∀a',jU T O.get st st (.slice a' J.l.length J.l.length) x G=pZ O.get a' J.l.length n (enc a) 1 G:=fun a'=>by
  simp only[jU,hu,hs,M,hi,hx,mg,cond_false,E,cond_true,C,Option.bind_some,A,Nat.ble_eq_true_of_le b1,Nat.ble_eq_true_of_le b2,Nat.ble_eq_true_of_le L,Bool.and_true,u]
 have hl:=nF J.l hlen
 have j:(J.l++[a]).flatMap enc=J.l.flatMap enc++enc a:=by simp
 have m:(J.l++[a]).length=J.l.length+1:=by simp
 rcases h with⟨h1,D⟩|⟨b,ms,h1,D,hb,hg,qX,jH,N,h3,h4⟩
 · have h0:J.l.length=0:=by rw[h1];rfl
   have e2:=e1 none
   rw[h0]at e2
   rw[D]
   refine⟨_,_,_,G,e2,.inr ⟨G+1,_,by rw[m,h0],by rw[m];omega,?_,(Tr.gG _ _ (by omega)).trans (Tr.ig ..),fun e he=>?_,by omega,by omega,by omega,F⟩,fun c hc _=>?_,.inr (fg _)⟩
   · rw[j,h1];exact Tr.ig ..
   · rw[List.mem_singleton.1 he,j,h1];simp
   · exact(Tr.gG _ _ (by omega)).trans (Tr.gG _ _ (by omega))
 · have p:∀e∈ms,beyond (0+0+J.l.length*n) e=false:=fun e he=>by
    have:=qX e he
    cases K:beyond (0+0+J.l.length*n) e with
    |false=>rfl
    |true=>
     unfold beyond at K
     have:=mN.1 K
     omega
   have f1:ms.filter (beyond (0+0+J.l.length*n))=[]:=by
    rw[List.filter_eq_nil_iff];intro e he;rw[p e he];simp
   have f2:(ms.filter fun e=>!(beyond (0+0+J.l.length*n) e))=ms:=by
    rw[List.filter_eq_self];intro e he;rw[p e he];rfl
   have e2:pZ O.get (some ⟨b,0,none⟩) J.l.length n (enc a) 1 G=some (.slice (some ⟨G,0,none⟩) (J.l.length+1) (J.l.length+1),
    [(gr,some (jT.group (ms++[⟨G,0,(J.l.flatMap enc++enc a).length⟩]))),(G,some (jT.cells (J.l.flatMap enc++enc a) ⟨false,some gr,0,n⟩))],1):=by
    simp only[tJ,hb,Ba _ _ hl,Option.bind_some,hg,oF,f1,List.all_nil,Bool.not_false,Nat.beq_refl,Bool.and_true,cond_true,nw,List.map_nil,List.nil_append,f2]
   have jI:J.l≠[]:=fun k=>by rw[k]at D;simp at D
   rw[h1]
   refine⟨_,_,_,gr,(e1 _).trans e2,.inr ⟨G,_,by rw[m],by rw[m];omega,?_,(Tr.gG _ _ (by omega)).trans (Tr.ig ..),fun e he=>?_,by omega,F,by omega,h4⟩,fun c hc hd=>?_,.inl ⟨jI,rfl⟩⟩
   · rw[j];exact Tr.ig ..
   · rw[j]
     rcases fR.1 he with he|he
     · have:=qX e he;rw[List.length_append];omega
     · rw[List.mem_singleton.1 he];simp
   · exact(Tr.gG _ _ (by omega)).trans (Tr.gG _ _ (hd jI))
end
section
variable {e:Env}{fm:Fm}{I:Tm}{ds:List Deferred}{O:Ht}{G:Nat}{gX:List Nat}{Q:St->Prop}{all:List Oper}{d:Tmp}{ty:TypeId}{pos:String}{j7:Array Edge}
theorem WC.M1{α:Type}{enc:α->List Value}{st el:TypeId}{x y:Operand}{B n gr:Nat}{z:Value}{inf:TypeInfo}{E:List Value}{b:Nat}{F:gm}{J:SV α}(a:α)(hl:e.low=0)(hx:(f_ x).run I=J.v)(hy:(f_ y).run I=.slice (some ⟨b,0,none⟩) 1 1)
 (h:mh enc n B gr O G J) (hlen:∀y∈J.l,(enc y).length=n) (hb:O.get b=some (.cells E F)) (C:E=enc a) (hu:e.T.jo st=some (.slice el)) (hs:e.T.size el=some n) (M:e.T.zero el=some z) (hi:e.T.kn el=some inf) (m:(enc a).length=n) (p:(enc a).all one=true) (b1:inf.bytes<=1024) (N:J.l.length<=1048576) (K:B<=G)
 {rF:Array TypeId} (L:rF=#[st,st]) (q:∀(J':SV α) e9 e_ j,J'.l=J.l++[a]->G<=e_->(∀c,c<G->(J.l≠[]->c≠gr)->e9.get c=O.get c)->HE B O e9->mh enc n B j e9 e_ J'->((J.l≠[]/\j=gr)\/G<=j)->Q ⟨I.set d J'.v,ds,e9,e_,gX⟩):
 WC e fm (iQ all ⟨some d,.call {callee:=.builtin .append,args:=#[x,y],argTypes:=rF},ty,pos,j7,none⟩) ⟨I,ds,O,G,gX⟩ Q:=by
 subst L C
 have u:lU O.get (1*n) (.slice (some ⟨b,0,none⟩) 1 1)=some (enc a):=by
  rw[Nat.one_mul]
  cases n with
  |zero=>rw[List.eq_nil_of_length_eq_zero m];rfl
  |succ k=>
   show(match O.get b with|some (.cells Z _)=>lQ (k+1) (Z.drop 0)|_=>none)=_
   rw[hb]
   exact vW _ _ (by rw[List.drop_zero,m])
 have o:pR e.T st (.slice (some ⟨b,0,none⟩) 1 1)=some (1,false):=by simp only[pR,hu]
 have A:(J.l.length+1)*inf.bytes<=70368744177664:=ff (Nat.mul_le_mul (show J.l.length+1<=1048577 by omega) b1) (by decide)
 obtain⟨v',jJ,k,j,h1,D,h3,h4⟩:=h.append a hlen hu hs M hi o u rfl m p A (by omega) (by omega) K
 refine .KK d (jU e.T O.get st st J.v (.slice (some ⟨b,0,none⟩) 1 1) G) hl (fun _ _ _=>?_) h1 (q ⟨v',J.l++[a]⟩ _ _ j rfl (by omega) h3 (fun c hc=>h3 c (by omega) fun hj=>?_) D h4)
 · rw[<-hx,<-hy];rfl
 · rcases h with h|⟨_,_,_,_,_,_,_,_,_,_,R⟩
   · exact absurd h.1 hj
   · omega
end
end
end Sw
namespace Sw
noncomputable section
open Go Go.RowKit
section
variable {fl:Bool}{e:Env}{fm:Fm}{I:Tm}{ds:List Deferred}{O:Ht}{G:Nat}{gX:List Nat}{Q:St->Prop}{all os:List Oper}{o:Oper}{i j:Nat}{w:Bool}{d:Tmp}{op:Op}{ty:TypeId}{pos:String}{j7:Array Edge}{l:List Cl}
theorem ov(d:Nat)(v:Value)(q:WO e fm (g_ all os) ⟨I.set d v,ds,O,G,gX⟩ Q)(h:∀rec Z k,(iQ all o).run e rec fm I ds O G Z k=k ⟨I.set d v,ds,O,G,Z⟩:=by intros;kernel_rfl):WO e fm (g_ all (o::os)) ⟨I,ds,O,G,gX⟩ Q:=.cons (.val d v h q)
theorem nv(d:Nat)(v:Value)(q:WN e fm l ⟨I.set d v,ds,O,G,gX⟩ Q)(h:∀rec Z k,(p0 fl all i).run e rec fm I ds O G Z k=k ⟨I.set d v,ds,O,G,Z⟩:=by intros;kernel_rfl):WN e fm (p0 fl all i::l) ⟨I,ds,O,G,gX⟩ Q:=.cons (.val d v h q)
theorem wW(t:Tmp)(b:Bool)(v x:Value)(hw:nD w x=b)(h1:b=true->WC e fm (iQ all ⟨some d,op,ty,pos,j7,none⟩) ⟨I,ds,O,G,gX⟩ fun s=>s=⟨I.set d v,ds,O,G,gX⟩)
 (q:WO e fm (g_ all os) ⟨I.set d (bif b then v else undef),ds,O,G,gX⟩ Q) (hg:kL all j=some (f_ (.tmp t)):=by rfl) (hx:(f_ (.tmp t)).run I=x:=by kernel_rfl):WO e fm (g_ all (⟨some d,op,ty,pos,j7,some (j,w)⟩::os)) ⟨I,ds,O,G,gX⟩ Q:=.cons (.gd b v x hg hx hw h1 q)
theorem og(t:Tmp)(b:Bool)(v x:Value)(hw:nD w x=b)(h1:b=true->∀rec Z k,(iQ all ⟨some d,op,ty,pos,j7,none⟩).run e rec fm I ds O G Z k=k ⟨I.set d v,ds,O,G,Z⟩)
 (q:WO e fm (g_ all os) ⟨I.set d (bif b then v else undef),ds,O,G,gX⟩ Q) (hg:kL all j=some (f_ (.tmp t)):=by rfl) (hx:(f_ (.tmp t)).run I=x:=by kernel_rfl):WO e fm (g_ all (⟨some d,op,ty,pos,j7,some (j,w)⟩::os)) ⟨I,ds,O,G,gX⟩ Q:=.cons (.gd b v x hg hx hw (fun hb=>.val d v (h1 hb) rfl) q)
theorem xl(hn:nP i all=some ⟨some d,op,ty,pos,j7,some (j,w)⟩)(t:Tmp)(b:Bool)(v x:Value)(hw:nD w x=b)(h1:b=true->WC e fm (iQ all ⟨some d,op,ty,pos,j7,none⟩) ⟨I,ds,O,G,gX⟩ fun s=>s=⟨I.set d v,ds,O,G,gX⟩)
 (q:WN e fm l ⟨I.set d (bif b then v else undef),ds,O,G,gX⟩ Q) (hg:kL all j=some (f_ (.tmp t)):=by rfl) (hx:(f_ (.tmp t)).run I=x:=by kernel_rfl) (m:(fl&&pX op)=false:=by rfl):WN e fm (p0 fl all i::l) ⟨I,ds,O,G,gX⟩ Q:=.hZ hn (.gd b v x hg hx hw h1 q) m
theorem ng(hn:nP i all=some ⟨some d,op,ty,pos,j7,some (j,w)⟩)(t:Tmp)(b:Bool)(v x:Value)(hw:nD w x=b)(h1:b=true->∀rec Z k,(iQ all ⟨some d,op,ty,pos,j7,none⟩).run e rec fm I ds O G Z k=k ⟨I.set d v,ds,O,G,Z⟩)
 (q:WN e fm l ⟨I.set d (bif b then v else undef),ds,O,G,gX⟩ Q) (hg:kL all j=some (f_ (.tmp t)):=by rfl) (hx:(f_ (.tmp t)).run I=x:=by kernel_rfl) (m:(fl&&pX op)=false:=by rfl):WN e fm (p0 fl all i::l) ⟨I,ds,O,G,gX⟩ Q:=.hZ hn (.gd b v x hg hx hw (fun hb=>.val d v (h1 hb) rfl) q) m
theorem cg{l:List tG}(hn:nP i all=some ⟨some d,op,ty,pos,j7,some (j,w)⟩)(t:Tmp)(b:Bool)(v x:Value)(hw:nD w x=b)(h1:b=true->∀k,(xA fl ⟨some d,op,ty,pos,j7,none⟩).run e.T O G I k=k)(hl:jc e l ⟨I,ds,O,G,gX⟩)
 (hg:kL all j=some (f_ (.tmp t)):=by rfl) (hx:(f_ (.tmp t)).run I=x:=by kernel_rfl) (hd:I.get d=(bif b then v else undef):=by kernel_rfl):jc e (vI fl all i::l) ⟨I,ds,O,G,gX⟩:=.cons (Yd b v x hn hg hx hw hd h1) hl
theorem cv{c:tG}{l:List tG}(v:Value)(b:lx 8 v v=true)(hl:jc e l ⟨I,ds,O,G,gX⟩)(h:∀k,c.run e.T O G I k=bif lx 8 v v then k else .gu 0:=by intros;kernel_rfl):jc e (c::l) ⟨I,ds,O,G,gX⟩:=.val v h b hl
theorem co{c:tG}{l:List tG}(v:Value)(x:Option Value)(b:x=some v)(j:lx 8 v v=true)(hl:jc e l ⟨I,ds,O,G,gX⟩)(h:∀k,c.run e.T O G I k=kQ x (fun y=>bif lx 8 y v then k else .gu 0):=by intros;kernel_rfl):jc e (c::l) ⟨I,ds,O,G,gX⟩:=.mq v x h b j hl
theorem sr{id:Nat}{ops:Array Oper}{b:Code}{s:St}{W:Nat->St->Prop}(h:WO e fm (g_ ops.toList ops.toList) s fun s1=>WP e fm b s1 W):WP e fm (.seq (.region id ops false) b) s W:=.seq (.region h)
end
theorem nb{b:Bool}{P:Prop}(h:b=true↔P):∃c:Bool,c=b/\(c=true↔P):=⟨b,rfl,h⟩
theorem nq{c:Bool}{P:Prop}(p:c=true↔P)(h:c=false):¬P:=fun k=>by rw[p.2 k]at h;cases h
theorem nf{P:Prop}(p:false=true↔P):¬P:=fun k=>absurd (p.2 k) (by decide)
theorem zl{i n:Nat}(h:i<n):0<n:=Nat.lt_of_le_of_lt (gI i) h
theorem bF{a:Bool}(h:(!a)=true):a=false:=by simpa using h
theorem sY{a b:Bool}(h:(!a&&b)=true):a=false/\b=true:=by simpa using h
theorem yD{a b:Bool}(h:(a&&!b)=true):a=true/\b=false:=by simpa using h
end
end Sw
namespace Sw
noncomputable section
open Go Go.RowKit
theorem GC.off{b:Bool}{k:Int}{P:Prop}{G:Nat}{O:Ht}(h:b=false)(hk:k≠0:=by decide):GC b k P G O undef O G:=by
 refine⟨?_,fg _,HE.refl _ _⟩
 by_cases j:P
 · exact⟨0,by rw[h];rfl,⟨fun _=>j,fun _=>rfl⟩,.inl rfl⟩
 · exact⟨k,by rw[h];rfl,⟨fun e=>absurd e hk,fun e=>absurd e j⟩,.inr rfl⟩
end
end Sw
namespace Sw
noncomputable section
open Go Go.RowKit
theorem Ux(l:Nat):Nat.ble 0 l=true:=by cases l<;>rfl
def WV(e:Env)(fv:Value)(l:List Value)(O:Ht)(G:Nat)(Q:Value->Ht->Nat->Prop):Prop:=
 ∃v e9 e_,(∃b,∀n,b<=n->∀Z k,B2 e (ev e n) fv l O G Z k=k v e9 e_ Z)/\Q v e9 e_
section
variable {e:Env}{fm:Fm}{O:Ht}{G:Nat}{A B:Value->Ht->Nat->Prop}
theorem WV.mono{fv:Value}{l:List Value}(h:WV e fv l O G A)(k:∀v O G,A v O G->B v O G):WV e fv l O G B:=by
 obtain⟨v,e9,e_,h1,D⟩:=h;exact⟨v,e9,e_,h1,k _ _ _ D⟩
theorem WV.func{f:FuncId}{a b:Array Value}{l:List Value}(h:WF e f (a.toList++l++b.toList) O G A):WV e (.func (.func f) a b) l O G A:=by
 obtain⟨v,e9,e_,⟨j,h1⟩,D⟩:=h
 exact⟨v,e9,e_,⟨j,fun n hn Z k=>h1 n hn Z k⟩,D⟩
theorem WV.yield{l:Nat}{r:_}{a b:Array Value}{oP:List Value}{t:Tm}(hl:O.get l=some (.loop r))(h0:e.low=0)(J:vS r.params oP r.tmps=some t)
 (h:WP e ⟨r.fn,r.nt,some l⟩ r.assign ⟨t,[],O,G,[]⟩ fun o s1=>Nat.beq o 0=true/\∃r1,s1.O.get l=some (.loop r1)/\r1.state=.ready/\
   WP e ⟨r.fn,r.nt,some l⟩ r.body ⟨s1.I,s1.ds,s1.O.set l (some (.loop {r1 with state:=.busy})),s1.G,[]⟩ fun o2 s2=>s2.ds=[]/\∃r2,s2.O.get l=some (.loop r2)/\
    A (.bool (Nat.beq o2 0)) (s2.O.set l (some (.loop {r2 with state:=(bif Nat.beq o2 0 then .ready else .done),pending:=xh o2}))) s2.G):WV e (.func (.yield l) a b) oP O G A:=by
 obtain⟨o,⟨B,j,y,z,c1⟩,⟨M,h1⟩,F,r1,p,C,o2,⟨E,N,jy,o_,c2⟩,⟨n2,D⟩,m,r2,u,q⟩:=h
 simp only at p m u q
 subst m
 refine⟨_,_,_,⟨max M n2,fun n hn Z k=>?_⟩,q⟩
 have K:ev e n ⟨r.fn,r.nt,some l⟩ r.assign ⟨t,[],O,G,Z⟩=.ok (o,⟨B,j,y,z,Z⟩):=h1 n (by omega) Z
 have L:ev e n ⟨r.fn,r.nt,some l⟩ r.body ⟨B,j,y.set l (some (.loop {r1 with state:=.busy})),z,Z⟩=.ok (o2,⟨E,[],jy,o_,Z⟩):=D n (by omega) Z
 show qu e (ev e n) l oP O G Z k=_
 simp only[qu,hl,h0,Ux,cond_true,J,K,F,p,C,L,u]
end
section
variable {e:Env}{fm:Fm}{I:Tm}{ds:List Deferred}{O:Ht}{G:Nat}{gX:List Nat}{Q:St->Prop}
theorem WC.QU{c:Cl}(d:Nat)(fv:Value)(l:List Value)(h:∀rec Z k,c.run e rec fm I ds O G Z k=B2 e rec fv l O G Z (fun v O G Z=>k ⟨I.set d v,ds,O,G,Z⟩))
 (hf:WV e fv l O G fun v O G=>Q ⟨I.set d v,ds,O,G,gX⟩):WC e fm c ⟨I,ds,O,G,gX⟩ Q:=by
 obtain⟨v,e9,e_,⟨b,h1⟩,q⟩:=hf
 exact⟨⟨I.set d v,ds,e9,e_,gX⟩,⟨b,fun n hn Z k=>by show c.run e (ev e n) fm I ds O G Z k=_;rw[h (ev e n) Z k,h1 n hn];rfl⟩,q⟩
theorem WP.rangeFunc{fn:FuncId}{nt:Nat}{f:Operand}{params:Array Tmp}{assign body:Code}{W:Nat->St->Prop}
 (h:WV e ((f_ f).run I) [.func (.yield (G+1)) #[] #[]] ((O.set G (some (.deferred (some [])))).set (G+1) (some (.loop ⟨.ready,none,fn,I,nt,params.toList,assign,body,G⟩))) (G+1+1)
   fun _ e9 e_=>∃r o,e9.get (G+1)=some (.loop r)/\r.state≠.busy/\AL r.pending=some o/\W o ⟨I,⟨.collected G,#[]⟩::ds,e9.set (G+1) (some (.loop {r with state:=.exhausted})),e_,gX⟩):
 WP e ⟨fn,nt,none⟩ (.rangeFunc f params assign body) ⟨I,ds,O,G,gX⟩ W:=by
 obtain⟨v,e9,e_,⟨m,h1⟩,r,o,hl,hs,j,q⟩:=h
 refine⟨o,_,.step ⟨m,fun n hn Z=>?_⟩,q⟩
 show vJ (.rangeFunc f params assign body) e (ev e n) ⟨fn,nt,none⟩ ⟨I,ds,O,G,Z⟩=_
 have:vJ (.rangeFunc f params assign body) e (ev e n) ⟨fn,nt,none⟩ ⟨I,ds,O,G,Z⟩=B2 e (ev e n) ((f_ f).run I) [.func (.yield (G+1)) #[] #[]] ((O.set G (some (.deferred (some [])))).set (G+1) (some (.loop ⟨.ready,none,fn,I,nt,params.toList,assign,body,G⟩))) (G+1+1) Z (fun _ O e_ Z=>match O.get (G+1)with
  |some (.loop r)=>(match r.state with
   |.busy=>.gu 0
   |_=>(match AL r.pending with
    |some o=>.ok (o,⟨I,[⟨.collected G,#[]⟩]++ds,O.set (G+1) (some (.loop {r with state:=.exhausted})),e_,Z⟩)
    |none=>.gu 0))
  |_=>.gu 0):=rfl
 rw[this,h1 n hn]
 simp only[hl,j]
 cases b:r.state<;>first|rfl|exact absurd b hs
theorem WF.Zo{f:FuncId}{fi:wF}{l:List Value}{t:Tm}{R:Value->Ht->Nat->Prop}(hk:e.K f=none)(hf:e.F f=some fi)(hl:Nat.ble l.length fi.nt=true)(p:qP zA l Tm.undef=some t)(h0:e.low=0)
 (hb:WP e ⟨f,fi.nt,none⟩ fi.body ⟨t,[],O,G,[]⟩ fun o b=>Nat.ble o 1=true/\∃r,b.ds=[⟨.collected r,#[]⟩]/\b.O.get r=some (.deferred (some []))/\∃vs,nc e.T (b.O.set r (some (.deferred none))).get b.I fi.uu=some vs/\R (qQ vs) (b.O.set r (some (.deferred none))) b.G):WF e f l O G R:=by
 obtain⟨o,⟨j,y,e9,e_,z⟩,⟨u,hb⟩,m,r,hd,hr,vs,hg,q⟩:=hb
 simp only at hd hr hg q
 subst hd
 refine⟨_,_,_,⟨u,fun n hn Z k=>?_⟩,q⟩
 have hb:ev e n ⟨f,fi.nt,none⟩ fi.body ⟨t,[],O,G,Z⟩=.ok (o,⟨j,[⟨.collected r,#[]⟩],e9,e_,Z⟩):=hb n hn Z
 simp only[nC,hk,uv,hf,sU,hl,cond_true,p,hb,m,lT,hr,h0,Ux,y8,hg]
end
end
end Sw
namespace Sw
noncomputable section
open Go Go.RowKit
theorem ve:∀(e vs:uq) (h:Ht),jm (e++vs) h=jm vs (jm e h)
 |[],_,_=>rfl
 |(b,o)::e,vs,h=>ve e vs (h.set b o)
theorem BB{c:Nat}:∀(l:List Mem) (h:Ht),(∀e∈l,e.ga≠c)->(jm (l.map fun e=>(e.ga,none)) h).get c=h.get c
 |[],_,_=>rfl
 |e::l,h,k=>by
  show(jm (l.map fun e=>(e.ga,none)) (h.set e.ga none)).get c=_
  rw[BB l _ fun x hx=>k x (List.mem_cons_of_mem _ hx)]
  exact Tr.gG _ _ (k e (fz ..)).symm
theorem DP{c:Nat}:∀(l:List Mem) (h:Ht),(jm (l.map fun e=>(e.ga,none)) h).get c=none\/(jm (l.map fun e=>(e.ga,none)) h).get c=h.get c
 |[],_=>.inr rfl
 |e::l,h=>by
  show(jm (l.map fun e=>(e.ga,none)) (h.set e.ga none)).get c=none\/(jm (l.map fun e=>(e.ga,none)) (h.set e.ga none)).get c=h.get c
  rcases DP (c:=c) l (h.set e.ga none)with k|k
  · exact .inl k
  · by_cases hc:c=e.ga
    · subst hc;exact .inl (k.trans (Tr.ig ..))
    · exact .inr (k.trans (Tr.gG _ _ hc))
theorem DQ{α:Type}:∀(j e r:List α),j.length=e.length->wy (j++r) e=some (e++r)
 |[],[],r,_=>by cases r<;>rfl
 |a::j,b::e,r,h=>by
  show(wy (j++r) e).map (b::·)=_
  rw[DQ j e r (by simpa using h)];rfl
 |[],_::_,_,h=>by simp at h
 |_::_,[],_,h=>by simp at h
theorem GH{α:Type}:∀(b r v:List α) (k:Nat),mM (b++r) (b.length+k) v=(mM r k v).map (b++·)
 |[],r,v,k=>by
  simp only[List.nil_append,List.length_nil,Nat.zero_add]
  cases mM r k v<;>rfl
 |a::b,r,v,k=>by
  have:(a::b).length+k=(b.length+k)+1:=by simp;omega
  rw[this]
  show(mM (b++r) (b.length+k) v).map (a::·)=_
  rw[GH b r v k]
  cases mM r k v<;>rfl
theorem GJ{α:Type}(l v:List α):mM l 0 v=wy l v:=by cases l<;>rfl
theorem GK{α:Type}{enc:α->List Value}{n:Nat}(y:α)(hy:(enc y).length=n):∀(L:List α) (j:Nat),(∀x∈L,(enc x).length=n)->j<L.length->mM (L.flatMap enc) (j*n) (enc y)=some ((L.set j y).flatMap enc)
 |[],_,_,h=>by simp at h
 |x::L,0,hl,_=>by
  rw[Nat.zero_mul,GJ]
  show wy (enc x++L.flatMap enc) (enc y)=some (enc y++L.flatMap enc)
  exact DQ _ _ _ ((hl x (fz ..)).trans hy.symm)
 |x::L,j+1,hl,h=>by
  have hx:=hl x (fz ..)
  have:(j+1)*n=(enc x).length+j*n:=by rw[hx,Nat.succ_mul];omega
  rw[this]
  show mM (enc x++L.flatMap enc) _ _=some (enc x++(L.set j y).flatMap enc)
  rw[GH,GK y hy L j (fun z b=>hl z (List.mem_cons_of_mem _ b)) (by simpa using h)]
  rfl
def uh{α:Type}(enc:α->List Value)(n B b gr:Nat)(O:Ht)(G:Nat)(L:List α):Prop:=
 O.get b=some (.cells (L.flatMap enc) ⟨false,some gr,0,n⟩)/\(∃ms,O.get gr=some (.group ms)/\∀e∈ms,e.base+e.len<=(L.flatMap enc).length/\B<=e.ga/\e.ga<G/\e.ga≠gr/\∀l,O.get e.ga≠some (.group l))/\b<G/\B<=b/\gr<G/\B<=gr
section
variable {α:Type}{enc:α->List Value}{n B b gr:Nat}{O e9:Ht}{G e_:Nat}{L:List α}{J:SV α}
theorem uh.mono(h:uh enc n B b gr O G L)(he:HE G O e9)(hn:G<=e_:=by omega):uh enc n B b gr e9 e_ L:=by
 obtain⟨h1,⟨ms,D,h3⟩,h4,j,m,o⟩:=h
 refine⟨he.get h1 h4,⟨ms,he.get D m,fun e hm=>?_⟩,by omega,j,by omega,o⟩
 obtain⟨p,u,y,z,A⟩:=h3 e hm
 exact⟨p,u,by omega,z,fun l hl=>A l (by rw[<-he e.ga y];exact hl)⟩
theorem uh.ok{c:Nat}(h:uh enc n B b gr O G L)(hl:∀x∈L,(enc x).length=n)(h0:0<c)(hs:L.length<281474976710656)(hc:L.length<=c:=by omega):gB enc n O G ⟨.slice (some ⟨b,0,none⟩) L.length c,L⟩:=
 ⟨hl,.inr ⟨b,c,_,rfl,h0,h.2.2.1,h.1,hc,.inr rfl⟩,hs⟩
theorem uh.store{T:Ty}{t:TypeId}{v:Value}{j:Nat}(y:α)(h:uh enc n B b gr O G L)(hl:∀x∈L,(enc x).length=n)(hj:j<L.length)(hs:T.size t=some n)(R:v.cells.toList=enc y)(hy:(enc y).length=n)(o:(enc y).all one=true):
 ∃jJ,xe T O.get t (.pointer (some ⟨b,0+j*n,none⟩)) v=some jJ/\uh enc n B b gr (jm jJ O) G (L.set j y)/\HE B O (jm jJ O):=by
 obtain⟨h1,⟨ms,D,h3⟩,h4,K,M,N⟩:=h
 have p:b≠gr:=fun e=>by rw[e,D]at h1;cases h1
 let ov:=overlaps b (0+(0+j*n)) (0+(0+j*n)+(enc y).length)
 have C:oF O.get ov ms=true:=fO.2 fun e he=>by
  have:=(h3 e (List.mem_filter.1 he).1).2.2.2.2
  split
  · rename_i l k;exact absurd k (this l)
  · rfl
 have E:mM (L.flatMap enc) (0+j*n) (enc y)=some ((L.set j y).flatMap enc):=by rw[Nat.zero_add];exact GK y hy L j hl hj
 have ab:∀e∈ms.filter ov,e.ga≠b:=fun e he k=>by
  have:=(List.mem_filter.1 he).2
  simp only[ov,overlaps,k,Nat.beq_refl,Bool.not_true,Bool.false_and]at this
  cases this
 have ad:∀e∈ms.filter ov,e.ga≠gr:=fun e he=>(h3 e (List.mem_filter.1 he).1).2.2.2.1
 have F:xe T O.get t (.pointer (some ⟨b,0+j*n,none⟩)) v=some (nw ov ms++[(gr,some (.group (ms.filter fun e=>!(ov e)))),(b,some (.cells ((L.set j y).flatMap enc) ⟨false,some gr,0,n⟩))]):=by
  have u:(Nat.beq (enc y).length n&&(enc y).all one)=true:=by rw[hy,Nat.beq_refl,o];rfl
  simp only[xe,h1,hs,R,u,cond_true,oG,cond_false,E,Option.bind_some,D]
  show(bif oF O.get ov ms then _ else none)=_
  rw[C];rfl
 refine⟨_,F,?_,?_⟩
 · rw[ve]
   have e0:∀c,c≠b->c≠gr->(jm [(gr,some (jT.group (ms.filter fun e=>!(ov e)))),(b,some (.cells ((L.set j y).flatMap enc) ⟨false,some gr,0,n⟩))] (jm (nw ov ms) O)).get c=(jm (nw ov ms) O).get c:=fun c c1 c2=>(Tr.gG _ _ c1).trans (Tr.gG _ _ c2)
   have z:((L.set j y).flatMap enc).length=(L.flatMap enc).length:=by
    have A:∀x∈L.set j y,(enc x).length=n:=fun x hx=>by
     rcases List.mem_or_eq_of_mem_set hx with k|k
     · exact hl x k
     · exact k▸hy
    rw[nF L hl,nF (L.set j y) A,List.length_set]
   refine⟨Tr.ig ..,⟨ms.filter fun e=>!(ov e),(Tr.gG _ _ p.symm).trans (Tr.ig ..),fun e he=>?_⟩,h4,K,M,N⟩
   obtain⟨S,W,X,J,aa⟩:=h3 e (List.mem_filter.1 he).1
   refine⟨by rw[z];exact S,W,X,J,fun l m=>?_⟩
   by_cases hb:e.ga=b
   · rw[hb]at m
     have:some (jT.group l)=some (jT.cells ((L.set j y).flatMap enc) (⟨false,some gr,0,n⟩:gm)):=m.symm.trans (Tr.ig ..)
     cases this
   · rw[e0 e.ga hb J]at m
     rcases DP (c:=e.ga) (ms.filter ov) O with q|q
     · have:=q.symm.trans m;cases this
     · exact aa l (q.symm.trans m)
 · intro c hc
   rw[ve]
   refine(Tr.gG _ _ (by omega)).trans ((Tr.gG _ _ (by omega)).trans ?_)
   exact BB (ms.filter ov) O fun e he=>by have:=(h3 e (List.mem_filter.1 he).1).2.1;omega
def mD(enc:α->List Value)(n B:Nat)(O:Ht)(G:Nat)(J:SV α):Prop:=
 (J.l=[]/\J.v=.slice none 0 0)\/(0<J.l.length/\∃b gr,J.v=.slice (some ⟨b,0,none⟩) J.l.length J.l.length/\uh enc n B b gr O G J.l)
theorem mD.nil:mD enc n B O G ⟨.slice none 0 0,[]⟩:=.inl ⟨rfl,rfl⟩
theorem mD.mono(h:mD enc n B O G J)(he:HE G O e9)(hn:G<=e_:=by omega):mD enc n B e9 e_ J:=by
 rcases h with h|⟨h0,b,gr,h1,D⟩
 · exact .inl h
 · exact .inr ⟨h0,b,gr,h1,D.mono he hn⟩
theorem mD.ok(h:mD enc n B O G J)(he:∀x∈J.l,(enc x).length=n)(hs:J.l.length<281474976710656):gB enc n O G J:=by
 refine⟨he,?_,hs⟩
 rcases h with h|⟨h0,b,gr,h1,D⟩
 · exact .inl ⟨h.1,.inl h.2⟩
 · exact .inr ⟨b,_,_,h1,h0,D.2.2.1,D.1,fg _,.inr rfl⟩
theorem mD.append{T:Ty}{st el:Nat}{x z:Value}{inf:TypeInfo}(a:α)(h:mD enc n B O G J)(hlen:∀y∈J.l,(enc y).length=n)(hu:T.jo st=some (.slice el))(hs:T.size el=some n)(N:T.zero el=some z)(hi:T.kn el=some inf)
 (hx:pR T st x=some (1,false)) (E:lU O.get (1*n) x=some (enc a)) (F:uR n x=true) (X:(enc a).length=n) (C:(enc a).all one=true)
 (b1:(J.l.length+1)*inf.bytes<=70368744177664) (b2:inf.bytes<=1073741824) (M:J.l.length+1<=70368744177664) (u:B<=G):
 ∃v' jJ k,jU T O.get st st J.v x G=some (v',jJ,k)/\mD enc n B (jm jJ O) (G+k) ⟨v',J.l++[a]⟩/\HE B O (jm jJ O):=by
 have A:Nat.ble (J.l.length+1) J.l.length=false:=by
  cases hb:Nat.ble (J.l.length+1) J.l.length with
  |false=>rfl
  |true=>have:=fk hb;omega
 have e1:∀a',jU T O.get st st (.slice a' J.l.length J.l.length) x G=pZ O.get a' J.l.length n (enc a) 1 G:=fun a'=>by
  simp only[jU,hu,hs,N,hi,hx,mg,cond_false,F,cond_true,E,Option.bind_some,C,Nat.ble_eq_true_of_le b1,Nat.ble_eq_true_of_le b2,Nat.ble_eq_true_of_le M,Bool.and_true,A]
 have hl:=nF J.l hlen
 have j:(J.l++[a]).flatMap enc=J.l.flatMap enc++enc a:=by simp
 have o:(J.l++[a]).length=J.l.length+1:=by simp
 rcases h with⟨h1,D⟩|⟨D,b,gr,h1,hb,⟨ms,hg,qX⟩,jH,W,h3,h4⟩
 · have h0:J.l.length=0:=by rw[h1];rfl
   have e2:=e1 none
   rw[h0]at e2
   rw[D]
   refine⟨_,_,_,e2,.inr ⟨by rw[o];omega,G+1,G,by rw[o,h0],?_,⟨[⟨G+1,0,_⟩],(Tr.gG _ _ (by omega)).trans (Tr.ig ..),fun e he=>?_⟩,by omega,by omega,by omega,u⟩,fun c hc=>?_⟩
   · rw[j,h1];exact Tr.ig ..
   · rw[List.mem_singleton.1 he,j,h1]
     refine⟨by simp,by show B<=G+1;omega,by show G+1<_;omega,by show G+1≠G;omega,fun l m=>?_⟩
     have:=m.symm.trans (Tr.ig ..)
     cases this
   · exact(Tr.gG _ _ (by omega)).trans (Tr.gG _ _ (by omega))
 · have p:∀e∈ms,beyond (0+0+J.l.length*n) e=false:=fun e he=>by
    have:=(qX e he).1
    cases K:beyond (0+0+J.l.length*n) e with
    |false=>rfl
    |true=>
     unfold beyond at K
     have:=mN.1 K
     omega
   have f1:ms.filter (beyond (0+0+J.l.length*n))=[]:=by
    rw[List.filter_eq_nil_iff];intro e he;rw[p e he];simp
   have f2:(ms.filter fun e=>!(beyond (0+0+J.l.length*n) e))=ms:=by
    rw[List.filter_eq_self];intro e he;rw[p e he];rfl
   have e2:pZ O.get (some ⟨b,0,none⟩) J.l.length n (enc a) 1 G=some (.slice (some ⟨G,0,none⟩) (J.l.length+1) (J.l.length+1),
    [(gr,some (jT.group (ms++[⟨G,0,(J.l.flatMap enc++enc a).length⟩]))),(G,some (jT.cells (J.l.flatMap enc++enc a) ⟨false,some gr,0,n⟩))],1):=by
    simp only[tJ,hb,Ba _ _ hl,Option.bind_some,hg,oF,f1,List.all_nil,Bool.not_false,Nat.beq_refl,Bool.and_true,cond_true,nw,List.map_nil,List.nil_append,f2]
   rw[h1]
   refine⟨_,_,_,(e1 _).trans e2,.inr ⟨by rw[o];omega,G,gr,by rw[o],?_,⟨_,(Tr.gG _ _ (by omega)).trans (Tr.ig ..),fun e he=>?_⟩,by omega,u,by omega,h4⟩,fun c hc=>(Tr.gG _ _ (by omega)).trans (Tr.gG _ _ (by omega))⟩
   · rw[j];exact Tr.ig ..
   · rcases List.mem_append.1 he with he|he
     · obtain⟨aa,R,ab,L,S⟩:=qX e he
       refine⟨by rw[j,List.length_append];omega,R,by omega,L,fun l m=>S l ?_⟩
       have:(jm [(gr,some (jT.group (ms++[⟨G,0,(J.l.flatMap enc++enc a).length⟩]))),(G,some (jT.cells (J.l.flatMap enc++enc a) ⟨false,some gr,0,n⟩))] O).get e.ga=O.get e.ga:=(Tr.gG _ _ (by omega)).trans (Tr.gG _ _ L)
       exact this.symm.trans m
     · rw[List.mem_singleton.1 he]
       refine⟨by rw[j];simp,u,by show G<_;omega,by show G≠gr;omega,fun l m=>?_⟩
       have:=m.symm.trans (Tr.ig ..)
       cases this
end
section
variable {e:Env}{fm:Fm}{I:Tm}{ds:List Deferred}{O:Ht}{G:Nat}{gX:List Nat}{Q:St->Prop}{all:List Oper}{d:Tmp}{ty:TypeId}{pos:String}{j7:Array Edge}
theorem WC.C4{α:Type}{enc:α->List Value}{st el:TypeId}{x y:Operand}{B n:Nat}{z:Value}{inf:TypeInfo}{C:List Value}{b:Nat}{E:gm}{J:SV α}(a:α)(hl:e.low=0)(hx:(f_ x).run I=J.v)(hy:(f_ y).run I=.slice (some ⟨b,0,none⟩) 1 1)
 (h:mD enc n B O G J) (hlen:∀y∈J.l,(enc y).length=n) (hb:O.get b=some (.cells C E)) (A:C=enc a) (hu:e.T.jo st=some (.slice el)) (hs:e.T.size el=some n) (L:e.T.zero el=some z) (hi:e.T.kn el=some inf) (j:(enc a).length=n) (o:(enc a).all one=true) (b1:inf.bytes<=1024) (M:J.l.length<=1048576) (F:B<=G)
 {rF:Array TypeId} (K:rF=#[st,st]) (q:∀(J':SV α) e9 e_,J'.l=J.l++[a]->G<=e_->HE B O e9->mD enc n B e9 e_ J'->Q ⟨I.set d J'.v,ds,e9,e_,gX⟩):
 WC e fm (iQ all ⟨some d,.call {callee:=.builtin .append,args:=#[x,y],argTypes:=rF},ty,pos,j7,none⟩) ⟨I,ds,O,G,gX⟩ Q:=by
 subst K A
 have p:lU O.get (1*n) (.slice (some ⟨b,0,none⟩) 1 1)=some (enc a):=by
  rw[Nat.one_mul]
  cases n with
  |zero=>rw[List.eq_nil_of_length_eq_zero j];rfl
  |succ k=>
   show(match O.get b with|some (.cells Z _)=>lQ (k+1) (Z.drop 0)|_=>none)=_
   rw[hb]
   exact vW _ _ (by rw[List.drop_zero,j])
 have m:pR e.T st (.slice (some ⟨b,0,none⟩) 1 1)=some (1,false):=by simp only[pR,hu]
 have u:(J.l.length+1)*inf.bytes<=70368744177664:=ff (Nat.mul_le_mul (show J.l.length+1<=1048577 by omega) b1) (by decide)
 obtain⟨v',jJ,k,h1,D,h3⟩:=h.append a hlen hu hs L hi m p rfl j o u (by omega) (by omega) F
 refine .KK d (jU e.T O.get st st J.v (.slice (some ⟨b,0,none⟩) 1 1) G) hl (fun _ _ _=>?_) h1 (q ⟨v',J.l++[a]⟩ _ _ rfl (by omega) h3 D)
 rw[<-hx,<-hy];rfl
theorem WC.Ye{α:Type}{enc:α->List Value}{t:TypeId}{a v:Operand}{n B b gr j:Nat}{L:List α}(val:Value)(y:α)(hl:e.low=0)(p:(f_ a).run I=.pointer (some ⟨b,0+j*n,none⟩))(u:(f_ v).run I=val)(h:uh enc n B b gr O G L)(hlen:∀x∈L,(enc x).length=n)(hj:j<L.length)
 (hs:e.T.size t=some n) (o:val.cells.toList=enc y) (hy:(enc y).length=n) (m:(enc y).all one=true) (q:∀e9,uh enc n B b gr e9 G (L.set j y)->HE B O e9->Q ⟨I,ds,e9,G,gX⟩):
 WC e fm (iQ all ⟨none,.store t a v,ty,pos,j7,none⟩) ⟨I,ds,O,G,gX⟩ Q:=by
 subst u
 obtain⟨jJ,h1,D,h3⟩:=h.store (T:=e.T) (t:=t) y hlen hj hs o hy m
 refine .Uw jJ hl (fun rec Z k=>?_) (q _ D h3)
 have:(iQ all ⟨none,.store t a v,ty,pos,j7,none⟩).run e rec fm I ds O G Z k=y6 (xe e.T O.get t ((f_ a).run I) ((f_ v).run I)) (tW (fun t _=>t) e.low I ds O G Z k):=rfl
 rw[this,p,h1];rfl
end
end
end Sw
namespace Sw
noncomputable section
open Go Go.RowKit
section
variable {e:Env}{fm:Fm}{I:Tm}{ds:List Deferred}{O:Ht}{G:Nat}{gX:List Nat}{Q:St->Prop}{all:List Oper}{j:Nat}{w:Bool}{d:Tmp}{op:Op}{ty:TypeId}{pos:String}{j7:Array Edge}
theorem WC.DR{g:Od}{x:Value}(hg:kL all j=some g)(hx:g.run I=x)(hw:nD w x=false)(q:Q ⟨I.set d undef,ds,O,G,gX⟩):WC e fm (iQ all ⟨some d,op,ty,pos,j7,some (j,w)⟩) ⟨I,ds,O,G,gX⟩ Q:=
 .gq false (fun v e9 e_=>v=undef/\e9=O/\e_=G) x hg hx hw (fun h=>by cases h) (fun _=>⟨rfl,rfl,rfl⟩) (fun v e9 e_ ⟨h1,D,h3⟩=>by subst h1 D h3;exact q)
theorem uh.BC{α:Type}{enc:α->List Value}{n B b gr N c:Nat}{L:List α}(h:uh enc n B b gr O G L)(hl:∀x∈L,(enc x).length=n)(e:L.length=N)(h0:0<c)(hs:N<281474976710656)(hc:N<=c:=by omega):gB enc n O G ⟨.slice (some ⟨b,0,none⟩) N c,L⟩:=by
 subst e;exact h.ok hl h0 hs hc
end
def An:Value->Prop:=fun v=>∃z:Int,v=.int .i64 z
def GZ(b:Bool)(G:Nat)(O:Ht):Value->Ht->Nat->Prop:=fun v e9 e_=>(∃z:Int,v=(bif b then .int .i64 z else undef))/\G<=e_/\HE G O e9
theorem GZ.off{b:Bool}{G:Nat}{O:Ht}(h:b=false):GZ b G O undef O G:=⟨⟨0,by rw[h];rfl⟩,fg _,HE.refl _ _⟩
end
end Sw
namespace Sw
noncomputable section
open Go Go.RowKit
theorem WP.Yf{e:Env}{I:Tm}{ds:List Deferred}{O:Ht}{G:Nat}{gX:List Nat}{fn:FuncId}{nt:Nat}{f:Operand}{params:Array Tmp}{assign body:Code}{W:Nat->St->Prop}(fv:Value)(hf:(f_ f).run I=fv)
 (h:WV e fv [.func (.yield (G+1)) #[] #[]] ((O.set G (some (.deferred (some [])))).set (G+1) (some (.loop ⟨.ready,none,fn,I,nt,params.toList,assign,body,G⟩))) (G+1+1)
   fun _ e9 e_=>∃r o,e9.get (G+1)=some (.loop r)/\r.state≠.busy/\AL r.pending=some o/\W o ⟨I,⟨.collected G,#[]⟩::ds,e9.set (G+1) (some (.loop {r with state:=.exhausted})),e_,gX⟩):
 WP e ⟨fn,nt,none⟩ (.rangeFunc f params assign body) ⟨I,ds,O,G,gX⟩ W:=by
 subst hf;exact .rangeFunc h
theorem WP.M3{e:Env}{I:Tm}{ds:List Deferred}{O:Ht}{G:Nat}{gX:List Nat}{fn:FuncId}{nt:Nat}{f:Operand}{params:Array Tmp}{assign body:Code}{W:Nat->St->Prop}(fv:Value)(hf:(f_ f).run I=fv)
 (h:∀r,r=⟨.ready,none,fn,I,nt,params.toList,assign,body,G⟩->WV e fv [.func (.yield (G+1)) #[] #[]] ((O.set G (some (.deferred (some [])))).set (G+1) (some (.loop r))) (G+1+1)
   fun _ e9 e_=>∃r o,e9.get (G+1)=some (.loop r)/\r.state≠.busy/\AL r.pending=some o/\W o ⟨I,⟨.collected G,#[]⟩::ds,e9.set (G+1) (some (.loop {r with state:=.exhausted})),e_,gX⟩):
 WP e ⟨fn,nt,none⟩ (.rangeFunc f params assign body) ⟨I,ds,O,G,gX⟩ W:=.Yf fv hf (h _ rfl)
theorem WV.round{e:Env}{O:Ht}{G:Nat}{A:Value->Ht->Nat->Prop}{l:Nat}{r:_}{a b:Array Value}{oP:List Value}(t:Tm)(hl:O.get l=some (.loop r))(h0:e.low=0)(hs:r.state=.ready)(p:vS r.params oP r.tmps=some t)
 (h:WP e ⟨r.fn,r.nt,some l⟩ r.assign ⟨t,[],O,G,[]⟩ fun o s1=>Nat.beq o 0=true/\s1.O.get l=some (.loop r)/\∀j:Ht,j.get l=some (.loop {r with state:=.busy})->(∀c,c≠l->j.get c=s1.O.get c)->
   WP e ⟨r.fn,r.nt,some l⟩ r.body ⟨s1.I,s1.ds,j,s1.G,[]⟩ fun o2 s2=>s2.ds=[]/\s2.O.get l=some (.loop {r with state:=.busy})/\∀m:Ht,m.get l=some (.loop {r with state:=(bif Nat.beq o2 0 then .ready else .done),pending:=xh o2})->(∀c,c≠l->m.get c=s2.O.get c)->A (.bool (Nat.beq o2 0)) m s2.G):WV e (.func (.yield l) a b) oP O G A:=by
 refine WV.yield hl h0 p (h.mono fun o s1 ⟨u,y,z⟩=>⟨u,r,y,hs,(z _ (Tr.ig ..) (fun c hc=>Tr.gG _ _ hc)).mono fun o2 s2 ⟨B,C,q3⟩=>⟨B,_,C,q3 _ (Tr.ig ..) (fun c hc=>Tr.gG _ _ hc)⟩⟩)
section
variable {α:Type}{enc:α->List Value}{n B b gr:Nat}{O e9:Ht}{G e_:Nat}{L:List α}{J:SV α}
theorem uh.te(h:uh enc n B b gr O G L)(he:∀c,B<=c->e9.get c=O.get c):uh enc n B b gr e9 G L:=by
 obtain⟨h1,⟨ms,D,h3⟩,h4,j,p,m⟩:=h
 refine⟨(he _ j).trans h1,⟨ms,(he _ m).trans D,fun e hm=>?_⟩,h4,j,p,m⟩
 obtain⟨u,o,y,z,A⟩:=h3 e hm
 exact⟨u,o,y,z,fun l hl=>A l (by rw[<-he e.ga o];exact hl)⟩
theorem mD.te(h:mD enc n B O G J)(he:∀c,B<=c->e9.get c=O.get c):mD enc n B e9 G J:=by
 rcases h with h|⟨h0,b,gr,h1,D⟩
 · exact .inl h
 · exact .inr ⟨h0,b,gr,h1,D.te he⟩
theorem uh.low{B':Nat}(h:uh enc n B b gr O G L)(u:B'<=B):uh enc n B' b gr O G L:=by
 obtain⟨h1,⟨ms,D,h3⟩,h4,o,j,p⟩:=h
 exact⟨h1,⟨ms,D,fun e hm=>by obtain⟨m,y,k⟩:=h3 e hm;exact⟨m,by omega,k⟩⟩,h4,by omega,j,by omega⟩
theorem mD.low{B':Nat}(h:mD enc n B O G J)(e:B'<=B):mD enc n B' O G J:=by
 rcases h with h|⟨h0,b,gr,h1,D⟩
 · exact .inl h
 · exact .inr ⟨h0,b,gr,h1,D.low e⟩
end
end
end Sw
namespace Sw
noncomputable section
open Go Go.RowKit
section
variable {α:Type}{enc:α->List Value}{n B:Nat}{O e9:Ht}{G e_:Nat}{J:SV α}
theorem mD.zh{T:Ty}{st xt el:Nat}{x z:Value}{inf:TypeInfo}(j:List α)(h:mD enc n B O G J)(hlen:∀y∈J.l,(enc y).length=n)(hu:T.jo st=some (.slice el))(hs:T.size el=some n)(X:T.zero el=some z)(hi:T.kn el=some inf)
 (hx:pR T xt x=some (j.length,false)) (A:lU O.get (j.length*n) x=some (j.flatMap enc)) (C:uR n x=true) (ag:∀y∈j,(enc y).length=n) (L:(j.flatMap enc).all one=true) (ae:0<n)
 (b1:(J.l.length+j.length)*inf.bytes<=70368744177664) (b2:inf.bytes<=1073741824) (N:J.l.length+j.length<=70368744177664) (F:B<=G):
 ∃v' jJ k,jU T O.get st xt J.v x G=some (v',jJ,k)/\mD enc n B (jm jJ O) (G+k) ⟨v',J.l++j⟩/\HE B O (jm jJ O):=by
 rcases gp j.length with hm|hm
 · obtain rfl:=List.eq_nil_of_length_eq_zero hm
   have e0:∀a',jU T O.get st xt (.slice a' J.l.length J.l.length) x G=some (.slice a' (J.l.length+0) J.l.length,[],0):=fun a'=>by
    have M:(J.l.length+0)*inf.bytes<=70368744177664:=b1
    have R:J.l.length+0<=70368744177664:=N
    have W:pR T xt x=some (0,false):=hx
    have E:lU O.get (0*n) x=some []:=A
    simp only[jU,hu,hs,X,hi,W,mg,cond_false,C,cond_true,E,Option.bind_some,List.all_nil,Nat.ble_eq_true_of_le M,Nat.ble_eq_true_of_le b2,Nat.ble_eq_true_of_le R,Bool.and_true,Nat.ble_eq_true_of_le (show J.l.length+0<=J.l.length by omega)]
   rcases h with⟨h1,D⟩|⟨D,b,gr,h1,hb⟩
   · have e2:=e0 none
     rw[h1]at e2
     rw[D]
     exact⟨_,_,_,e2,.inl ⟨by rw[h1];rfl,rfl⟩,HE.refl _ _⟩
   · rw[h1]
     refine⟨_,_,_,e0 _,.inr ⟨by rw[List.append_nil];exact D,b,gr,by rw[List.append_nil];rfl,?_⟩,HE.refl _ _⟩
     rw[List.append_nil];exact hb
 have K:Nat.ble (J.l.length+j.length) J.l.length=false:=by
  cases hb:Nat.ble (J.l.length+j.length) J.l.length with
  |false=>rfl
  |true=>have:=fk hb;omega
 have e1:∀a',jU T O.get st xt (.slice a' J.l.length J.l.length) x G=pZ O.get a' J.l.length n (j.flatMap enc) j.length G:=fun a'=>by
  simp only[jU,hu,hs,X,hi,hx,mg,cond_false,C,cond_true,A,Option.bind_some,L,Nat.ble_eq_true_of_le b1,Nat.ble_eq_true_of_le b2,Nat.ble_eq_true_of_le N,Bool.and_true,K]
 have hl:=nF J.l hlen
 have m:(J.l++j).flatMap enc=J.l.flatMap enc++j.flatMap enc:=List.flatMap_append
 have p:(J.l++j).length=J.l.length+j.length:=by simp
 rcases h with⟨h1,D⟩|⟨D,b,gr,h1,hb,⟨ms,hg,qX⟩,jH,af,h3,h4⟩
 · have h0:J.l.length=0:=by rw[h1];rfl
   have e2:=e1 none
   rw[h0]at e2
   rw[D]
   refine⟨_,_,_,e2,.inr ⟨by rw[p];omega,G+1,G,by rw[p,h0],?_,⟨[⟨G+1,0,_⟩],(Tr.gG _ _ (by omega)).trans (Tr.ig ..),fun e he=>?_⟩,by omega,by omega,by omega,F⟩,fun c hc=>?_⟩
   · rw[m,h1];exact Tr.ig ..
   · rw[List.mem_singleton.1 he,m,h1]
     refine⟨by simp,by show B<=G+1;omega,by show G+1<_;omega,by show G+1≠G;omega,fun l o=>?_⟩
     have:=o.symm.trans (Tr.ig ..)
     cases this
   · exact(Tr.gG _ _ (by omega)).trans (Tr.gG _ _ (by omega))
 · have u:∀e∈ms,beyond (0+0+J.l.length*n) e=false:=fun e he=>by
    have:=(qX e he).1
    cases S:beyond (0+0+J.l.length*n) e with
    |false=>rfl
    |true=>
     unfold beyond at S
     have:=mN.1 S
     omega
   have f1:ms.filter (beyond (0+0+J.l.length*n))=[]:=by
    rw[List.filter_eq_nil_iff];intro e he;rw[u e he];simp
   have f2:(ms.filter fun e=>!(beyond (0+0+J.l.length*n) e))=ms:=by
    rw[List.filter_eq_self];intro e he;rw[u e he];rfl
   have e2:pZ O.get (some ⟨b,0,none⟩) J.l.length n (j.flatMap enc) j.length G=some (.slice (some ⟨G,0,none⟩) (J.l.length+j.length) (J.l.length+j.length),
    [(gr,some (jT.group (ms++[⟨G,0,(J.l.flatMap enc++j.flatMap enc).length⟩]))),(G,some (jT.cells (J.l.flatMap enc++j.flatMap enc) ⟨false,some gr,0,n⟩))],1):=by
    simp only[tJ,hb,Ba _ _ hl,Option.bind_some,hg,oF,f1,List.all_nil,Bool.not_false,Nat.beq_refl,Bool.and_true,cond_true,nw,List.map_nil,List.nil_append,f2]
   rw[h1]
   refine⟨_,_,_,(e1 _).trans e2,.inr ⟨by rw[p];omega,G,gr,by rw[p],?_,⟨_,(Tr.gG _ _ (by omega)).trans (Tr.ig ..),fun e he=>?_⟩,by omega,F,by omega,h4⟩,fun c hc=>(Tr.gG _ _ (by omega)).trans (Tr.gG _ _ (by omega))⟩
   · rw[m];exact Tr.ig ..
   · rcases List.mem_append.1 he with he|he
     · obtain⟨ah,ab,ai,aa,ad⟩:=qX e he
       refine⟨by rw[m,List.length_append];omega,ab,by omega,aa,fun l o=>ad l ?_⟩
       have:(jm [(gr,some (jT.group (ms++[⟨G,0,(J.l.flatMap enc++j.flatMap enc).length⟩]))),(G,some (jT.cells (J.l.flatMap enc++j.flatMap enc) ⟨false,some gr,0,n⟩))] O).get e.ga=O.get e.ga:=(Tr.gG _ _ (by omega)).trans (Tr.gG _ _ aa)
       exact this.symm.trans o
     · rw[List.mem_singleton.1 he]
       refine⟨by rw[m];simp,F,by show G<_;omega,by show G≠gr;omega,fun l o=>?_⟩
       have:=o.symm.trans (Tr.ig ..)
       cases this
end
section
variable {e:Env}{fm:Fm}{I:Tm}{ds:List Deferred}{O:Ht}{G:Nat}{gX:List Nat}{Q:St->Prop}{all:List Oper}{d:Tmp}{ty:TypeId}{pos:String}{j7:Array Edge}
theorem WC.zh{α:Type}{enc:α->List Value}{st xt el:TypeId}{x y:Operand}{B n:Nat}{z w:Value}{inf:TypeInfo}{J:SV α}(b:List α)(hl:e.low=0)(hx:(f_ x).run I=J.v)(hy:(f_ y).run I=w)
 (h:mD enc n B O G J) (hlen:∀y∈J.l,(enc y).length=n) (hu:e.T.jo st=some (.slice el)) (hs:e.T.size el=some n) (K:e.T.zero el=some z) (hi:e.T.kn el=some inf)
 (E:pR e.T xt w=some (b.length,false)) (m:lU O.get (b.length*n) w=some (b.flatMap enc)) (o:uR n w=true) (u:∀y∈b,(enc y).length=n) (j:(b.flatMap enc).all one=true) (p:0<n)
 (b1:(J.l.length+b.length)*inf.bytes<=70368744177664) (b2:inf.bytes<=1073741824) (A:J.l.length+b.length<=70368744177664) (C:B<=G)
 {rF:Array TypeId} (F:rF=#[st,xt]) (q:∀(J':SV α) e9 e_,J'.l=J.l++b->G<=e_->HE B O e9->mD enc n B e9 e_ J'->Q ⟨I.set d J'.v,ds,e9,e_,gX⟩):
 WC e fm (iQ all ⟨some d,.call {callee:=.builtin .append,args:=#[x,y],argTypes:=rF},ty,pos,j7,none⟩) ⟨I,ds,O,G,gX⟩ Q:=by
 subst F
 obtain⟨v',jJ,k,h1,D,h3⟩:=h.zh b hlen hu hs K hi E m o u j p b1 b2 A C
 refine .KK d (jU e.T O.get st xt J.v w G) hl (fun _ _ _=>?_) h1 (q ⟨v',J.l++b⟩ _ _ rfl (by omega) h3 D)
 rw[<-hx,<-hy];rfl
theorem WC.M4{α:Type}{enc:α->List Value}{st el:TypeId}{x y:Operand}{B n:Nat}{z:Value}{inf:TypeInfo}{u:List Value}{b:Nat}{C:gm}{J:SV α}(a:α)(hl:e.low=0)(hx:(f_ x).run I=J.v)(hy:(f_ y).run I=.slice (some ⟨b,0,none⟩) 1 1)
 (h:mD enc n B O G J) (hlen:∀y∈J.l,(enc y).length=n) (hb:O.get b=some (.cells u C)) (p:u=enc a) (hu:e.T.jo st=some (.slice el)) (hs:e.T.size el=some n) (K:e.T.zero el=some z) (hi:e.T.kn el=some inf) (j:(enc a).length=n) (m:(enc a).all one=true) (o:0<n)
 (b1:(J.l.length+1)*inf.bytes<=70368744177664) (b2:inf.bytes<=1073741824) (A:J.l.length+1<=70368744177664) (E:B<=G)
 {rF:Array TypeId} (F:rF=#[st,st]) (q:∀(J':SV α) e9 e_,J'.l=J.l++[a]->G<=e_->HE B O e9->mD enc n B e9 e_ J'->Q ⟨I.set d J'.v,ds,e9,e_,gX⟩):
 WC e fm (iQ all ⟨some d,.call {callee:=.builtin .append,args:=#[x,y],argTypes:=rF},ty,pos,j7,none⟩) ⟨I,ds,O,G,gX⟩ Q:=by
 subst p
 have h1:[a].flatMap enc=enc a:=by simp
 refine WC.zh [a] hl hx hy h hlen hu hs K hi (by simp only[pR,hu];rfl) ?_ rfl (fun y hy=>by rw[List.mem_singleton.1 hy];exact j) (by rw[h1];exact m) o b1 b2 A E F q
 rw[h1]
 show lU O.get (1*n) _=_
 rw[Nat.one_mul]
 cases n with
 |zero=>omega
 |succ k=>
  show(match O.get b with|some (.cells Z _)=>lQ (k+1) (Z.drop 0)|_=>none)=_
  rw[hb]
  exact vW _ _ (by rw[List.drop_zero,j])
end
section
variable {e:Env}{fm:Fm}{I:Tm}{ds:List Deferred}{O:Ht}{G:Nat}{gX:List Nat}{Q:St->Prop}{all:List Oper}{j:Nat}{w:Bool}{dst:Option Tmp}{op:Op}{ty:TypeId}{pos:String}{j7:Array Edge}
theorem WC.lh{g:Od}{x:Value}(hg:kL all j=some g)(hx:g.run I=x)(hw:nD w x=true)(h:WC e fm (iQ all ⟨dst,op,ty,pos,j7,none⟩) ⟨I,ds,O,G,gX⟩ Q):WC e fm (iQ all ⟨dst,op,ty,pos,j7,some (j,w)⟩) ⟨I,ds,O,G,gX⟩ Q:=by
 subst hx
 obtain⟨s1,⟨o,m⟩,b⟩:=h
 refine⟨s1,⟨o,fun n hn Z k=>?_⟩,b⟩
 rw[Fo dst hg,hw]
 exact m n hn Z k
end
theorem IF{α:Type}:∀(m:Nat) (xs v r:List α),lQ m xs=some v->lQ m (xs++r)=some v
 |0,xs,v,r,h=>by cases xs<;>cases r<;>exact h
 |m+1,[],v,r,h=>by cases h
 |m+1,x::xs,v,r,h=>by
  have h:(lQ m xs).map (x::·)=some v:=h
  obtain⟨w,hw,rfl⟩:=fI.1 h
  show(lQ m (xs++r)).map (x::·)=_
  rw[IF m xs w r hw];rfl
theorem M5{α:Type}{enc:α->List Value}{n:Nat}{l:List α}{i f m:Nat}{x:α}{v:List Value}(hl:∀y∈l,(enc y).length=n)(h:l[i]?=some x)(hf:f<=n)(b:lQ m ((enc x).drop f)=some v):lQ m ((l.flatMap enc).drop (0+i*n+f))=some v:=by
 obtain⟨r,hr⟩:=AO l i x hl h
 have hx:=hl x (fa h)
 rw[Nat.zero_add,<-List.drop_drop,hr,List.drop_append_of_le_length (by omega)]
 exact IF _ _ _ _ b
section
variable {α:Type}{enc:α->List Value}{n B b c:Nat}{O h1 D:Ht}{G:Nat}{s:SV α}
theorem HE.er(h:HE B h1 D):HE B (h1.set b none) (D.set b none):=fun q e=>by
 by_cases k:q=b
 · subst k;rw[Tr.ig,Tr.ig]
 · rw[Tr.gG _ _ k,Tr.gG _ _ k];exact h q e
theorem HE.Z2(h:∀q,q≠b->D.get q=h1.get q):HE B (h1.set b none) (D.set b none):=fun q _=>by
 by_cases k:q=b
 · subst k;rw[Tr.ig,Tr.ig]
 · rw[Tr.gG _ _ k,Tr.gG _ _ k];exact h q k
theorem HE.erG(h:HE B (h1.set b none) (D.set b none))(hc:c<B)(hn:c≠b):D.get c=h1.get c:=by
 have:=h c hc
 rwa[Tr.gG _ _ hn,Tr.gG _ _ hn]at this
theorem gB.un(h:gB enc n (O.set b none) G s):gB enc n O G s:=by
 refine⟨h.1,?_,h.2.2⟩
 rcases h.2.1 with h|⟨q,cap,m,h1,D,h3,h4,e⟩
 · exact .inl h
 · refine .inr ⟨q,cap,m,h1,D,h3,?_,e⟩
   by_cases k:q=b
   · subst k;rw[Tr.ig]at h4;cases h4
   · rwa[Tr.gG _ _ k]at h4
theorem jC.un{E:Ht->Nat->α->Prop}(h:jC enc n E (O.set b none) G s)(hE:∀x,E (O.set b none) G x->E O G x):jC enc n E O G s:=⟨h.1.un,fun x hx=>hE x (h.2 x hx)⟩
end
def Yg:Value->Prop:=JO True
end
end Sw
namespace Sw
noncomputable section
open Go Go.RowKit
set_option maxRecDepth 100000
inductive RCond where
 |mk (k v n:Int) (pv:Value) (pl:List RCond)
namespace RCond
def jk:RCond->Int
 |.mk k _ _ _ _=>k
def se:RCond->Int
 |.mk _ v _ _ _=>v
def fN:RCond->Int
 |.mk _ _ n _ _=>n
def fY:RCond->SV RCond
 |.mk _ _ _ pv pl=>⟨pv,pl⟩
end RCond
instance :Inhabited RCond:=⟨.mk 0 0 0 (.slice none 0 0) []⟩
def iw(x:RCond):List Value:=[.int .i64 x.jk,.int .i64 x.se,.int .i64 x.fN,x.fY.v]
theorem RCond.C5{c x:RCond}(h:x∈c.fY.l):sizeOf x<sizeOf c:=by
 cases c with
 |mk k v n pv pl=>
  have h:x∈pl:=h
  have:=List.sizeOf_lt_of_mem h
  simp only[RCond.mk.sizeOf_spec];omega
def tM:Nat->Ht->Nat->RCond->Prop
 |0,_,_,_=>False
 |n+1,O,G,c=>jC iw 4 (tM n) O G c.fY/\c.fY.l.length*48<=140737488351232
theorem tM.mono:∀{n:Nat} {O e9:Ht} {G e_:Nat} {c:RCond},tM n O G c->HE G O e9->G<=e_->tM n e9 e_ c
 |0,_,_,_,_,_,h,_,_=>h
 |_+1,_,_,_,_,_,h,he,hn=>⟨h.1.mono (fun _ h he hn=>tM.mono h he hn) he hn,h.2⟩
def lM(O:Ht)(G:Nat)(c:RCond):Prop:=∃n,tM n O G c
theorem lM.mono{O e9:Ht}{G e_:Nat}{x:RCond}(h:lM O G x)(he:HE G O e9)(hn:G<=e_:=by omega):lM e9 e_ x:=by
 obtain⟨n,h⟩:=h;exact⟨n,h.mono he hn⟩
theorem lM.fY{O:Ht}{G:Nat}{x:RCond}(h:lM O G x):jC iw 4 (fun O G y=>lM O G y) O G x.fY:=by
 obtain⟨n,h⟩:=h
 cases n with
 |zero=>exact h.elim
 |succ n=>exact⟨h.1.1,fun x hx=>⟨n,h.1.2 x hx⟩⟩
theorem lM.len{O:Ht}{G:Nat}{x:RCond}(h:lM O G x):x.fY.l.length*48<=140737488351232:=by
 obtain⟨n,h⟩:=h
 cases n with
 |zero=>exact h.elim
 |succ n=>exact h.2
theorem xm{O:Ht}{G:Nat}(x:RCond)(h:lM O G x):(iw x).all one=true:=by
 simp only[iw,List.all_cons,List.all_nil,xX,h.fY.1.one,Bool.and_true]
inductive RStep where
 |mk (k b:Int) (c:RCond) (tv:Value) (tl:List RStep) (ev:Value) (el:List RStep)
namespace RStep
def jk:RStep->Int
 |.mk k _ _ _ _ _ _=>k
def BD:RStep->Int
 |.mk _ b _ _ _ _ _=>b
def je:RStep->RCond
 |.mk _ _ c _ _ _ _=>c
def mj:RStep->SV RStep
 |.mk _ _ _ tv tl _ _=>⟨tv,tl⟩
def nU:RStep->SV RStep
 |.mk _ _ _ _ _ ev el=>⟨ev,el⟩
end RStep
instance :Inhabited RStep:=⟨.mk 0 0 default (.slice none 0 0) [] (.slice none 0 0) []⟩
def jG(x:RStep):List Value:=[.int .i64 x.jk,.int .i64 x.BD,.int .i64 x.je.jk,.int .i64 x.je.se,.int .i64 x.je.fN,x.je.fY.v,x.mj.v,x.nU.v]
theorem RStep.PF{s x:RStep}(h:x∈s.mj.l):sizeOf x<sizeOf s:=by
 cases s with
 |mk k b c tv tl ev el=>
  have h:x∈tl:=h
  have:=List.sizeOf_lt_of_mem h
  simp only[RStep.mk.sizeOf_spec];omega
theorem RStep.PG{s x:RStep}(h:x∈s.nU.l):sizeOf x<sizeOf s:=by
 cases s with
 |mk k b c tv tl ev el=>
  have h:x∈el:=h
  have:=List.sizeOf_lt_of_mem h
  simp only[RStep.mk.sizeOf_spec];omega
theorem RStep.PH(s:RStep):sizeOf s.je<sizeOf s:=by
 cases s with
 |mk k b c tv tl ev el=>simp only[RStep.mk.sizeOf_spec,RStep.je];omega
def q9:Nat->Ht->Nat->RStep->Prop
 |0,_,_,_=>False
 |n+1,O,G,s=>lM O G s.je/\jC jG 8 (q9 n) O G s.mj/\jC jG 8 (q9 n) O G s.nU/\s.mj.l.length*112<=140737488351232/\s.nU.l.length*112<=140737488351232
theorem q9.mono:∀{n:Nat} {O e9:Ht} {G e_:Nat} {c:RStep},q9 n O G c->HE G O e9->G<=e_->q9 n e9 e_ c
 |0,_,_,_,_,_,h,_,_=>h
 |_+1,_,_,_,_,_,h,he,hn=>⟨h.1.mono he hn,h.2.1.mono (fun _ h he hn=>q9.mono h he hn) he hn,h.2.2.1.mono (fun _ h he hn=>q9.mono h he hn) he hn,h.2.2.2⟩
def j_(O:Ht)(G:Nat)(c:RStep):Prop:=∃n,q9 n O G c
section
variable {O e9:Ht}{G e_:Nat}{x:RStep}
theorem j_.mono(h:j_ O G x)(he:HE G O e9)(hn:G<=e_:=by omega):j_ e9 e_ x:=by
 obtain⟨n,h⟩:=h;exact⟨n,h.mono he hn⟩
theorem j_.out(h:j_ O G x):lM O G x.je/\jC jG 8 (fun O G y=>j_ O G y) O G x.mj/\jC jG 8 (fun O G y=>j_ O G y) O G x.nU/\x.mj.l.length*112<=140737488351232/\x.nU.l.length*112<=140737488351232:=by
 obtain⟨n,h⟩:=h
 cases n with
 |zero=>exact h.elim
 |succ n=>exact⟨h.1,⟨h.2.1.1,fun x hx=>⟨n,h.2.1.2 x hx⟩⟩,⟨h.2.2.1.1,fun x hx=>⟨n,h.2.2.1.2 x hx⟩⟩,h.2.2.2⟩
theorem j_.je(h:j_ O G x):lM O G x.je:=h.out.1
theorem j_.mj(h:j_ O G x):jC jG 8 (fun O G y=>j_ O G y) O G x.mj:=h.out.2.1
theorem j_.nU(h:j_ O G x):jC jG 8 (fun O G y=>j_ O G y) O G x.nU:=h.out.2.2.1
theorem j_.len(h:j_ O G x):x.mj.l.length*112<=140737488351232/\x.nU.l.length*112<=140737488351232:=h.out.2.2.2
end
theorem CE{O:Ht}{G:Nat}(x:RStep)(h:j_ O G x):(jG x).all one=true:=by
 simp only[jG,List.all_cons,List.all_nil,xX,h.je.fY.1.one,h.mj.1.one,h.nU.1.one,Bool.and_true]
theorem tM.un{b:Nat}:∀{n:Nat} {O:Ht} {G:Nat} {c:RCond},tM n (O.set b none) G c->tM n O G c
 |0,_,_,_,h=>h
 |_+1,_,_,_,h=>⟨h.1.un fun _ h=>tM.un h,h.2⟩
theorem lM.un{b:Nat}{O:Ht}{G:Nat}{c:RCond}(h:lM (O.set b none) G c):lM O G c:=by
 obtain⟨n,h⟩:=h;exact⟨n,h.un⟩
theorem q9.un{b:Nat}:∀{n:Nat} {O:Ht} {G:Nat} {c:RStep},q9 n (O.set b none) G c->q9 n O G c
 |0,_,_,_,h=>h
 |_+1,_,_,_,h=>⟨h.1.un,h.2.1.un fun _ h=>q9.un h,h.2.2.1.un fun _ h=>q9.un h,h.2.2.2⟩
theorem j_.un{b:Nat}{O:Ht}{G:Nat}{c:RStep}(h:j_ (O.set b none) G c):j_ O G c:=by
 obtain⟨n,h⟩:=h;exact⟨n,h.un⟩
def nV(c:RCond):Prop:=c.jk=0/\c.se=0/\c.fN=0/\c.fY.l=[]
inductive ml:RCond->Prop where
 |leaf {c:RCond} (k:c.jk=1) (v:1<=c.se/\c.se<=3) (n:0<=c.fN/\c.fN<=10000) (p:c.fY.l=[]):ml c
 |neg {c:RCond} (k:c.jk=4) (v:c.se=0) (n:c.fN=0) (p:c.fY.l.length=1) (h:∀x∈c.fY.l,ml x):ml c
 |many {c:RCond} (k:c.jk=2\/c.jk=3) (v:c.se=0) (n:c.fN=0) (p:0<c.fY.l.length/\c.fY.l.length<=16) (h:∀x∈c.fY.l,ml x):ml c
inductive pN:RStep->Prop where
 |one {s:RStep} (k:s.jk=1) (b:1<=s.BD/\s.BD<=5) (c:nV s.je) (t:s.mj.l=[]) (e:s.nU.l=[]):pN s
 |We {s:RStep} (k:s.jk=2) (b:s.BD=0) (c:ml s.je) (t0:s.mj.l≠[]) (t:∀x∈s.mj.l,pN x) (e:∀x∈s.nU.l,pN x):pN s
end
end Sw
namespace Sw
noncomputable section
open Go Go.RowKit
set_option maxRecDepth 100000
inductive RPart where
 |mk (m l:Int) (pv:Value) (pl:List RPart)
namespace RPart
def jf:RPart->Int
 |.mk m _ _ _=>m
def ku:RPart->Int
 |.mk _ l _ _=>l
def fY:RPart->SV RPart
 |.mk _ _ pv pl=>⟨pv,pl⟩
end RPart
instance :Inhabited RPart:=⟨.mk 0 0 (.slice none 0 0) []⟩
def jQ(x:RPart):List Value:=[.int .i64 x.jf,.int .i64 x.ku,x.fY.v]
theorem RPart.C5{c x:RPart}(h:x∈c.fY.l):sizeOf x<sizeOf c:=by
 cases c with
 |mk m l pv pl=>
  have h:x∈pl:=h
  have:=List.sizeOf_lt_of_mem h
  simp only[RPart.mk.sizeOf_spec];omega
def wN:Nat->Ht->Nat->RPart->Prop
 |0,_,_,_=>False
 |n+1,O,G,c=>jC jQ 3 (wN n) O G c.fY/\c.fY.l.length*40<=140737488351232
theorem wN.mono:∀{n:Nat} {O e9:Ht} {G e_:Nat} {c:RPart},wN n O G c->HE G O e9->G<=e_->wN n e9 e_ c
 |0,_,_,_,_,_,h,_,_=>h
 |_+1,_,_,_,_,_,h,he,hn=>⟨h.1.mono (fun _ h he hn=>wN.mono h he hn) he hn,h.2⟩
def kV(O:Ht)(G:Nat)(c:RPart):Prop:=∃n,wN n O G c
theorem kV.mono{O e9:Ht}{G e_:Nat}{x:RPart}(h:kV O G x)(he:HE G O e9)(hn:G<=e_:=by omega):kV e9 e_ x:=by
 obtain⟨n,h⟩:=h;exact⟨n,h.mono he hn⟩
theorem kV.fY{O:Ht}{G:Nat}{x:RPart}(h:kV O G x):jC jQ 3 (fun O G y=>kV O G y) O G x.fY:=by
 obtain⟨n,h⟩:=h
 cases n with
 |zero=>exact h.elim
 |succ n=>exact⟨h.1.1,fun x hx=>⟨n,h.1.2 x hx⟩⟩
theorem kV.len{O:Ht}{G:Nat}{x:RPart}(h:kV O G x):x.fY.l.length*40<=140737488351232:=by
 obtain⟨n,h⟩:=h
 cases n with
 |zero=>exact h.elim
 |succ n=>exact h.2
theorem GL{O:Ht}{G:Nat}(x:RPart)(h:kV O G x):(jQ x).all one=true:=by
 simp only[jQ,List.all_cons,List.all_nil,xX,h.fY.1.one,Bool.and_true]
end
end Sw
namespace Sw
noncomputable section
open Go Go.RowKit
structure sf where
 jf:Int
 kA:Int
 p_:Int
instance :Inhabited sf:=⟨⟨default,default,default⟩⟩
def kj(x:sf):List Value:=[.int .i64 x.jf,.int .i64 x.kA,.int .i64 x.p_]
theorem C6(x:sf):lx 8 (.agg (kj x).toArray) (.agg (kj x).toArray)=true:=(wK 7 _ (by intro v b;have b:v∈kj x:=b;simp only[kj,List.mem_cons,List.not_mem_nil,or_false]at b;rcases b with rfl|rfl|rfl<;>first|exact iF ..|exact iO ..|exact wL ..))
structure kg where
 fw:SV sf
 gD:SV (SV Int)
instance :Inhabited kg:=⟨⟨default,default⟩⟩
def ji(x:kg):List Value:=[x.fw.v,x.gD.v]
structure oy(O:Ht)(G:Nat)(x:kg):Prop where
 fw:gB kj 3 O G x.fw
 gD:jC lL 1 (fun O G y=>gB encI 1 O G y) O G x.gD
theorem oy.mono{O e9:Ht}{G e_:Nat}{x:kg}(h:oy O G x)(he:HE G O e9)(hn:G<=e_:=by omega):oy e9 e_ x:=
 ⟨h.fw.mono he hn,h.gD.mono (fun _ h he hn=>h.mono he hn) he hn⟩
structure AR where
 fA:Int
 fB:Int
instance :Inhabited AR:=⟨⟨default,default⟩⟩
def tA(x:AR):List Value:=[.int .i64 x.fA,.int .i64 x.fB]
structure jg where
 j2:Bool
 lA:Int
 hY:Int
 gY:Int
instance :Inhabited jg:=⟨⟨default,default,default,default⟩⟩
def gU(x:jg):List Value:=[.bool x.j2,.int .i64 x.lA,.int .i64 x.hY,.int .i64 x.gY]
theorem zi(x:jg):lx 8 (.agg (gU x).toArray) (.agg (gU x).toArray)=true:=(wK 7 _ (by intro v b;have b:v∈gU x:=b;simp only[gU,List.mem_cons,List.not_mem_nil,or_false]at b;rcases b with rfl|rfl|rfl|rfl<;>first|exact iF ..|exact iO ..|exact wL ..))
structure im where
 nG:Int
 lE:SV Int
 fV:SV (SV jg)
instance :Inhabited im:=⟨⟨default,default,default⟩⟩
def ja(x:im):List Value:=[.int .i64 x.nG,x.lE.v,x.fV.v]
structure mr(O:Ht)(G:Nat)(x:im):Prop where
 lE:gB encI 1 O G x.lE
 fV:jC lL 1 (fun O G y=>gB gU 4 O G y) O G x.fV
theorem mr.mono{O e9:Ht}{G e_:Nat}{x:im}(h:mr O G x)(he:HE G O e9)(hn:G<=e_:=by omega):mr e9 e_ x:=
 ⟨h.lE.mono he hn,h.fV.mono (fun _ h he hn=>h.mono he hn) he hn⟩
theorem xD{O:Ht}{G:Nat}(x:im)(h:mr O G x):(ja x).all one=true:=by simp only[ja,List.all_cons,List.all_nil,xX,Bz,JN,Bool.and_true,h.lE.one,h.fV.1.one]
theorem Lq{O:Ht}{G:Nat}(x:im)(h:mr O G x):lx 8 (.agg (ja x).toArray) (.agg (ja x).toArray)=true:=(wK 7 _ (by intro v b;have b:v∈ja x:=b;simp only[ja,List.mem_cons,List.not_mem_nil,or_false]at b;rcases b with rfl|rfl|rfl<;>first|exact iF ..|exact iO ..|exact wL ..|exact h.lE.jA 7|exact h.fV.1.jA 7))
structure jq where
 fx:kg
 gj:SV AR
 fc:SV im
instance :Inhabited jq:=⟨⟨default,default,default⟩⟩
def gO(x:jq):List Value:=[x.fx.fw.v,x.fx.gD.v,x.gj.v,x.fc.v]
structure kB(O:Ht)(G:Nat)(x:jq):Prop where
 fx:oy O G x.fx
 gj:gB tA 2 O G x.gj
 fc:jC ja 3 (fun O G y=>mr O G y) O G x.fc
theorem kB.mono{O e9:Ht}{G e_:Nat}{x:jq}(h:kB O G x)(he:HE G O e9)(hn:G<=e_:=by omega):kB e9 e_ x:=
 ⟨h.fx.mono he hn,h.gj.mono he hn,h.fc.mono (fun _ h he hn=>h.mono he hn) he hn⟩
theorem Fs{O:Ht}{G:Nat}(x:jq)(h:kB O G x):lx 8 (.agg (gO x).toArray) (.agg (gO x).toArray)=true:=(wK 7 _ (by intro v b;have b:v∈gO x:=b;simp only[gO,List.mem_cons,List.not_mem_nil,or_false]at b;rcases b with rfl|rfl|rfl|rfl<;>first|exact iF ..|exact iO ..|exact wL ..|exact h.fx.fw.jA 7|exact h.fx.gD.1.jA 7|exact h.gj.jA 7|exact h.fc.1.jA 7))
structure Uz where
 nG:Int
 kF:Int
 abd:Int
 abe:Int
 abj:Int
 abf:Int
 abg:Int
 abk:Int
instance :Inhabited Uz:=⟨⟨default,default,default,default,default,default,default,default⟩⟩
structure fQ where
 hY:Int
 gY:Int
instance :Inhabited fQ:=⟨⟨default,default⟩⟩
def fj(x:fQ):List Value:=[.int .i64 x.hY,.int .i64 x.gY]
theorem zE(x:fQ):lx 8 (.agg (fj x).toArray) (.agg (fj x).toArray)=true:=(wK 7 _ (by intro v b;have b:v∈fj x:=b;simp only[fj,List.mem_cons,List.not_mem_nil,or_false]at b;rcases b with rfl|rfl<;>first|exact iF ..|exact iO ..|exact wL ..))
structure tN where
 nG:Int
 qK:SV fQ
 j2:Bool
instance :Inhabited tN:=⟨⟨default,default,default⟩⟩
def tY(x:tN):List Value:=[.int .i64 x.nG,x.qK.v,.bool x.j2]
structure BE(O:Ht)(G:Nat)(x:tN):Prop where
 qK:gB fj 2 O G x.qK
theorem BE.mono{O e9:Ht}{G e_:Nat}{x:tN}(h:BE O G x)(he:HE G O e9)(hn:G<=e_:=by omega):BE e9 e_ x:=
 ⟨h.qK.mono he hn⟩
theorem M6{O:Ht}{G:Nat}(x:tN)(h:BE O G x):(tY x).all one=true:=by simp only[tY,List.all_cons,List.all_nil,xX,Bz,JN,Bool.and_true,h.qK.one]
structure tZ where
 lV:ByteArray
 jk:Int
instance :Inhabited tZ:=⟨⟨default,default⟩⟩
def pn(x:tZ):List Value:=[.string x.lV,.int .i64 x.jk]
structure tn where
 lN:Int
 qa:Int
 zj:Int
 zk:Int
instance :Inhabited tn:=⟨⟨default,default,default,default⟩⟩
def mH(x:tn):List Value:=[.int .i64 x.lN,.int .i64 x.qa,.int .i64 x.zj,.int .i64 x.zk]
structure o7 where
 jf:Int
 BF:Int
 xn:Int
instance :Inhabited o7:=⟨⟨default,default,default⟩⟩
def lY(x:o7):List Value:=[.int .i64 x.jf,.int .i64 x.BF,.int .i64 x.xn]
structure kc where
 lV:ByteArray
 jP:SV RPart
 vo:Int
 jx:SV o7
 jX:Int
instance :Inhabited kc:=⟨⟨default,default,default,default,default⟩⟩
def iS(x:kc):List Value:=[.string x.lV,x.jP.v,.int .i64 x.vo,x.jx.v,.int .i64 x.jX]
structure lZ(O:Ht)(G:Nat)(x:kc):Prop where
 jP:jC jQ 3 (fun O G y=>kV O G y) O G x.jP
 jx:gB lY 3 O G x.jx
theorem lZ.mono{O e9:Ht}{G e_:Nat}{x:kc}(h:lZ O G x)(he:HE G O e9)(hn:G<=e_:=by omega):lZ e9 e_ x:=
 ⟨h.jP.mono (fun _ h he hn=>h.mono he hn) he hn,h.jx.mono he hn⟩
theorem B8{O:Ht}{G:Nat}(x:kc)(h:lZ O G x):(iS x).all one=true:=by simp only[iS,List.all_cons,List.all_nil,xX,Bz,JN,Bool.and_true,h.jP.1.one,h.jx.one]
structure q_ where
 lV:ByteArray
 Ft:Int
instance :Inhabited q_:=⟨⟨default,default⟩⟩
def nT(x:q_):List Value:=[.string x.lV,.int .i64 x.Ft]
structure mV where
 lV:ByteArray
 uX:Int
 ku:Int
 j2:Bool
instance :Inhabited mV:=⟨⟨default,default,default,default⟩⟩
def kl(x:mV):List Value:=[.string x.lV,.int .i64 x.uX,.int .i64 x.ku,.bool x.j2]
structure l_ where
 lV:ByteArray
 lN:Int
 qa:Int
instance :Inhabited l_:=⟨⟨default,default,default⟩⟩
def j1(x:l_):List Value:=[.string x.lV,.int .i64 x.lN,.int .i64 x.qa]
structure po where
 kF:Int
 km:Int
 oQ:Int
 vp:Int
instance :Inhabited po:=⟨⟨default,default,default,default⟩⟩
def lD(x:po):List Value:=[.int .i64 x.kF,.int .i64 x.km,.int .i64 x.oQ,.int .i64 x.vp]
structure Ga where
 sN:Int
 sO:Int
 sP:Int
 qb:Int
 ux:Int
instance :Inhabited Ga:=⟨⟨default,default,default,default,default⟩⟩
def zO(x:Ga):List Value:=[.int .i64 x.sN,.int .i64 x.sO,.int .i64 x.sP,.int .i64 x.qb,.int .i64 x.ux]
structure ka where
 lV:ByteArray
 iD:SV tZ
 jY:SV tn
 fD:SV kc
 kS:SV q_
 jB:SV mV
 iC:SV l_
 ln:SV po
 n_:SV RStep
 iU:Ga
 Ap:Int
 sH:Int
instance :Inhabited ka:=⟨⟨default,default,default,default,default,default,default,default,default,default,default,default⟩⟩
def iT(x:ka):List Value:=[.string x.lV,x.iD.v,x.jY.v,x.fD.v,x.kS.v,x.jB.v,x.iC.v,x.ln.v,x.n_.v,.int .i64 x.iU.sN,.int .i64 x.iU.sO,.int .i64 x.iU.sP,.int .i64 x.iU.qb,.int .i64 x.iU.ux,.int .i64 x.Ap,.int .i64 x.sH]
structure pc(O:Ht)(G:Nat)(x:ka):Prop where
 iD:gB pn 2 O G x.iD
 jY:gB mH 4 O G x.jY
 fD:jC iS 5 (fun O G y=>lZ O G y) O G x.fD
 kS:gB nT 2 O G x.kS
 jB:gB kl 4 O G x.jB
 iC:gB j1 3 O G x.iC
 ln:gB lD 4 O G x.ln
 n_:jC jG 8 (fun O G y=>j_ O G y) O G x.n_
theorem pc.mono{O e9:Ht}{G e_:Nat}{x:ka}(h:pc O G x)(he:HE G O e9)(hn:G<=e_:=by omega):pc e9 e_ x:=
 ⟨h.iD.mono he hn,h.jY.mono he hn,h.fD.mono (fun _ h he hn=>h.mono he hn) he hn,h.kS.mono he hn,h.jB.mono he hn,h.iC.mono he hn,h.ln.mono he hn,h.n_.mono (fun _ h he hn=>h.mono he hn) he hn⟩
structure qM where
 iH:SV Int
 jf:Int
 DT:Int
instance :Inhabited qM:=⟨⟨default,default,default⟩⟩
def pz(x:qM):List Value:=[x.iH.v,.int .i64 x.jf,.int .i64 x.DT]
structure xG(O:Ht)(G:Nat)(x:qM):Prop where
 iH:gB encI 1 O G x.iH
theorem xG.mono{O e9:Ht}{G e_:Nat}{x:qM}(h:xG O G x)(he:HE G O e9)(hn:G<=e_:=by omega):xG e9 e_ x:=
 ⟨h.iH.mono he hn⟩
structure sQ where
 mJ:Int
 fX:Int
instance :Inhabited sQ:=⟨⟨default,default⟩⟩
def vX(x:sQ):List Value:=[.int .i64 x.mJ,.int .i64 x.fX]
structure lW where
 iu:Int
 gH:SV Int
 abp:SV sQ
instance :Inhabited lW:=⟨⟨default,default,default⟩⟩
def kb(x:lW):List Value:=[.int .i64 x.iu,x.gH.v,x.abp.v]
structure nz(O:Ht)(G:Nat)(x:lW):Prop where
 gH:gB encI 1 O G x.gH
 abp:gB vX 2 O G x.abp
theorem nz.mono{O e9:Ht}{G e_:Nat}{x:lW}(h:nz O G x)(he:HE G O e9)(hn:G<=e_:=by omega):nz e9 e_ x:=
 ⟨h.gH.mono he hn,h.abp.mono he hn⟩
end
end Sw
namespace Sw
noncomputable section
open Go Go.RowKit
def j3(l:List Nat)(h:Ht):Ht:=l.foldl (fun h b=>h.set b none) h
theorem rX:∀(l:List Nat) (h:Ht) {q:Nat},q∉l->(j3 l h).get q=h.get q
 |[],_,_,_=>rfl
 |b::l,h,q,e=>by
  show(j3 l (h.set b none)).get q=_
  rw[rX l _ fun k=>e (List.mem_cons_of_mem _ k)]
  exact Tr.gG _ _ fun k=>e (by rw[k];exact fz ..)
theorem M7:∀(l:List Nat) (h:Ht) {q:Nat},h.get q=none->(j3 l h).get q=none
 |[],_,_,e=>e
 |b::l,h,q,e=>by
  show(j3 l (h.set b none)).get q=_
  refine M7 l _ ?_
  by_cases k:q=b
  · subst k;exact Tr.ig ..
  · rw[Tr.gG _ _ k];exact e
theorem C7:∀(l:List Nat) (h:Ht) {q:Nat},q∈l->(j3 l h).get q=none
 |b::l,h,q,e=>by
  show(j3 l (h.set b none)).get q=_
  rcases fT.1 e with rfl|e
  · exact M7 l _ (Tr.ig ..)
  · exact C7 l _ e
section
variable {B c:Nat}{l:List Nat}{h1 D O:Ht}{α:Type}{enc:α->List Value}{n G:Nat}{s:SV α}
theorem HE.oH(h:∀q,q<B->q∉l->D.get q=h1.get q):HE B (j3 l h1) (j3 l D):=fun q b=>by
 by_cases k:q∈l
 · rw[C7 l _ k,C7 l _ k]
 · rw[rX l _ k,rX l _ k];exact h q b k
theorem HE.j3(h:HE B h1 D):HE B (Sw.j3 l h1) (Sw.j3 l D):=.oH fun q b _=>h q b
theorem HE.rK(h:HE B (Sw.j3 l h1) (Sw.j3 l D))(hc:c<B)(hn:c∉l):D.get c=h1.get c:=by
 have:=h c hc
 rwa[rX l _ hn,rX l _ hn]at this
theorem gB.qG(h:gB enc n (j3 l O) G s):gB enc n O G s:=by
 refine⟨h.1,?_,h.2.2⟩
 rcases h.2.1 with h|⟨q,cap,m,h1,D,h3,h4,b⟩
 · exact .inl h
 · refine .inr ⟨q,cap,m,h1,D,h3,?_,b⟩
   by_cases k:q∈l
   · rw[C7 l _ k]at h4;cases h4
   · rwa[rX l _ k]at h4
end
section
variable {e:Env}{O:Ht}{G:Nat}
theorem qy{T:Ty}{O:Hp}{t:Tm}{a b:Nat}{e j:TypeId}{v w:Value}(h1:kh T O e ((f_ (.tmp a)).run t)=some v)(D:kh T O j ((f_ (.tmp b)).run t)=some w):nc T O t [.cell a e,.cell b j]=some [v,w]:=by
 simp only[nc,h1,D]
theorem WF.Wf{f:FuncId}{fi:wF}{l:List Value}{t:Tm}{R:Value->Ht->Nat->Prop}(hk:e.K f=none)(hf:e.F f=some fi)(hl:Nat.ble l.length fi.nt=true)(p:qP zA l Tm.undef=some t)(h0:e.low=0)
 (hb:WP e ⟨f,fi.nt,none⟩ fi.body ⟨t,[],O,G,[]⟩ fun o b=>Nat.ble o 1=true/\((b.ds=[]/\∃vs,nc e.T b.O.get b.I fi.uu=some vs/\R (qQ vs) b.O b.G)\/
   ∃r,b.ds=[⟨.collected r,#[]⟩]/\b.O.get r=some (.deferred (some []))/\∃vs,nc e.T (b.O.set r (some (.deferred none))).get b.I fi.uu=some vs/\R (qQ vs) (b.O.set r (some (.deferred none))) b.G)):WF e f l O G R:=by
 obtain⟨o,⟨j,y,e9,e_,z⟩,⟨u,hb⟩,m,⟨hd,vs,hg,q⟩|⟨r,hd,hr,vs,hg,q⟩⟩:=hb
 · simp only at hd hg q
   subst hd
   refine⟨_,_,_,⟨u,fun n hn Z k=>?_⟩,q⟩
   have hb:ev e n ⟨f,fi.nt,none⟩ fi.body ⟨t,[],O,G,Z⟩=.ok (o,⟨j,[],e9,e_,Z⟩):=hb n hn Z
   simp only[nC,hk,uv,hf,sU,hl,cond_true,p,hb,m,lT,y8,hg]
 · simp only at hd hr hg q
   subst hd
   refine⟨_,_,_,⟨u,fun n hn Z k=>?_⟩,q⟩
   have hb:ev e n ⟨f,fi.nt,none⟩ fi.body ⟨t,[],O,G,Z⟩=.ok (o,⟨j,[⟨.collected r,#[]⟩],e9,e_,Z⟩):=hb n hn Z
   simp only[nC,hk,uv,hf,sU,hl,cond_true,p,hb,m,lT,hr,h0,Ux,y8,hg]
end
end
end Sw
namespace Sw
noncomputable section
open Go Go.RowKit
theorem mE(a b:Int):∃c:Bool,c=rU a b/\(c=true↔a<b):=nb sM
theorem zm(a:Nat)(b:Int):∃c:Bool,c=rU (.ofNat a) b/\(c=true↔((a:Nat):Int)<b):=nb sM
theorem nQ(a:Int)(b:Nat):∃c:Bool,c=rU a (.ofNat b)/\(c=true↔a<((b:Nat):Int)):=nb sM
theorem kT(a b:Nat):∃c:Bool,c=rU (.ofNat a) (.ofNat b)/\(c=true↔((a:Nat):Int)<((b:Nat):Int)):=nb sM
theorem pS(a b:Int):∃c:Bool,c=Eg a b/\(c=true↔a<=b):=nb zg
theorem Hv(a:Nat)(b:Int):∃c:Bool,c=Eg (.ofNat a) b/\(c=true↔((a:Nat):Int)<=b):=nb zg
theorem aag(a:Int)(b:Nat):∃c:Bool,c=Eg a (.ofNat b)/\(c=true↔a<=((b:Nat):Int)):=nb zg
theorem Yi(a b:Nat):∃c:Bool,c=Eg (.ofNat a) (.ofNat b)/\(c=true↔((a:Nat):Int)<=((b:Nat):Int)):=nb zg
theorem sZ(a b:Int):∃c:Bool,c=kN a b/\(c=true↔a=b):=nb lS
theorem vY(a:Nat)(b:Int):∃c:Bool,c=kN (.ofNat a) b/\(c=true↔((a:Nat):Int)=b):=nb lS
theorem Yj(a b:Nat):∃c:Bool,c=kN (.ofNat a) (.ofNat b)/\(c=true↔((a:Nat):Int)=((b:Nat):Int)):=nb lS
theorem qS(a b:Int):∃c:Bool,c=(!(kN a b))/\(c=true↔a≠b):=nb F_
theorem M8(a:Nat)(b:Int):∃c:Bool,c=(!(kN (.ofNat a) b))/\(c=true↔((a:Nat):Int)≠b):=nb F_
theorem JP(a b:Nat):∃c:Bool,c=(!(kN (.ofNat a) (.ofNat b)))/\(c=true↔((a:Nat):Int)≠((b:Nat):Int)):=nb F_
theorem nO{c d:Bool}{P R:Prop}(p:c=true↔P)(q:d=true↔R):∃b:Bool,b=(c||d)/\(b=true↔P\/R):=nb (by rw[Bool.or_eq_true,p,q])
theorem nA{c d:Bool}{P R:Prop}(p:c=true↔P)(q:d=true↔R):∃b:Bool,b=(c&&d)/\(b=true↔P/\R):=nb (by rw[Bool.and_eq_true,p,q])
theorem nN{c:Bool}{P:Prop}(p:c=true↔P):∃b:Bool,b=(!c)/\(b=true↔¬P):=nb (by rw[Bool.not_eq_true',<-Bool.not_eq_true,p])
section
variable {e:Env}{fm:Fm}{I:Tm}{ds:List Deferred}{O:Ht}{G:Nat}{gX:List Nat}{Q:St->Prop}{all os:List Oper}{o:Oper}{j:Nat}{d:Tmp}{op:Op}{ty t0:TypeId}{pos:String}{j7:Array Edge}
theorem ob{b c:Bool}(x:Nat)(h0:c=b)(q:WO e fm (g_ all os) ⟨I.set x (.bool c),ds,O,G,gX⟩ Q)(h:∀rec Z k,(iQ all o).run e rec fm I ds O G Z k=k ⟨I.set x (.bool b),ds,O,G,Z⟩:=by intros;kernel_rfl):WO e fm (g_ all (o::os)) ⟨I,ds,O,G,gX⟩ Q:=by
 subst h0;exact ov x _ q h
def stepT(c:Cl)(e:Env)(fm:Fm)(I:Tm)(ds:List Deferred)(O:Ht)(G:Nat):Tm:=match c.run e (fun _ _ _=>.gu 0) fm I ds O G [] (fun s=>.ok (0,s))with
 |.ok (_,s)=>s.I
 |.gu _=>I
def runT(e:Env)(fm:Fm)(ds:List Deferred)(O:Ht)(G:Nat):List Cl->Tm->Tm
 |[],I=>I
 |c::l,I=>runT e fm ds O G l (stepT c e fm I ds O G)
def runK(e:Env)(rec:Rec)(fm:Fm)(k:St->R):List Cl->St->R
 |[],s=>k s
 |c::l,s=>c.run e rec fm s.I s.ds s.O s.G s.Z fun s=>runK e rec fm k l s
theorem QV(l b:List Cl)(e:Env)(rec:Rec)(fm:Fm):∀s,wG (l++b) e rec fm s=runK e rec fm (fun s=>wG b e rec fm s) l s:=by
 induction l with
 |nil=>intro s;rfl
 |cons c l ih=>
  intro s
  show c.run e rec fm s.I s.ds s.O s.G s.Z (fun s=>wG (l++b) e rec fm s)=_
  simp only[ih];rfl
def BH:Nat->List Oper->List Oper
 |0,_=>[]
 |_+1,[]=>[]
 |n+1,o::os=>o::BH n os
def M9:Nat->List Oper->List Oper
 |0,os=>os
 |_+1,[]=>[]
 |n+1,_::os=>M9 n os
theorem Er(all:List Oper):∀(n:Nat) (os:List Oper),g_ all os=g_ all (BH n os)++g_ all (M9 n os)
 |0,os=>rfl
 |n+1,[]=>rfl
 |n+1,o::os=>by
  show iQ all o::g_ all os=_
  rw[Er all n os];rfl
theorem oX(n:Nat)(q:WO e fm (g_ all (M9 n os)) ⟨runT e fm ds O G (g_ all (BH n os)) I,ds,O,G,gX⟩ Q)
 (h:∀rec Z k,runK e rec fm k (g_ all (BH n os)) ⟨I,ds,O,G,Z⟩=k ⟨runT e fm ds O G (g_ all (BH n os)) I,ds,O,G,Z⟩:=by intros;kernel_rfl):WO e fm (g_ all os) ⟨I,ds,O,G,gX⟩ Q:=by
 obtain⟨s1,⟨b,h1⟩,j⟩:=q
 refine⟨s1,⟨b,fun m hm Z=>?_⟩,j⟩
 rw[Er all n os,QV]
 exact(h (ev e m) Z _).trans (h1 m hm Z)
theorem gF(t:Tmp)(c:Bool)(v:Value)(q:WO e fm (g_ all os) ⟨I.set d (bif !c then v else undef),ds,O,G,gX⟩ Q)
 (h1:c=false->∀rec Z k,(iQ all ⟨some d,op,ty,pos,j7,none⟩).run e rec fm I ds O G Z k=k ⟨I.set d v,ds,O,G,Z⟩:=by intro h;subst h;intros;kernel_rfl)
 (hg:kL all j=some (f_ (.tmp t)):=by rfl) (hx:(f_ (.tmp t)).run I=.bool c:=by kernel_rfl):WO e fm (g_ all (⟨some d,op,ty,pos,j7,some (j,false)⟩::os)) ⟨I,ds,O,G,gX⟩ Q:=
 og t (!c) v (.bool c) (by cases c<;>rfl) (fun h=>h1 (bF h)) q hg hx
theorem gT(t:Tmp)(c:Bool)(v:Value)(q:WO e fm (g_ all os) ⟨I.set d (bif c then v else undef),ds,O,G,gX⟩ Q)
 (h1:c=true->∀rec Z k,(iQ all ⟨some d,op,ty,pos,j7,none⟩).run e rec fm I ds O G Z k=k ⟨I.set d v,ds,O,G,Z⟩:=by intro h;subst h;intros;kernel_rfl)
 (hg:kL all j=some (f_ (.tmp t)):=by rfl) (hx:(f_ (.tmp t)).run I=.bool c:=by kernel_rfl):WO e fm (g_ all (⟨some d,op,ty,pos,j7,some (j,true)⟩::os)) ⟨I,ds,O,G,gX⟩ Q:=
 og t c v (.bool c) (by cases c<;>rfl) h1 q hg hx
theorem Z3{a b:Bool}(t:Tmp)(c:Bool)(h0:a=b)(q:WO e fm (g_ all os) ⟨I.set d (bif !c then .bool a else undef),ds,O,G,gX⟩ Q)
 (h1:c=false->∀rec Z k,(iQ all ⟨some d,op,ty,pos,j7,none⟩).run e rec fm I ds O G Z k=k ⟨I.set d (.bool b),ds,O,G,Z⟩:=by intro h;subst h;intros;kernel_rfl)
 (hg:kL all j=some (f_ (.tmp t)):=by rfl) (hx:(f_ (.tmp t)).run I=.bool c:=by kernel_rfl):WO e fm (g_ all (⟨some d,op,ty,pos,j7,some (j,false)⟩::os)) ⟨I,ds,O,G,gX⟩ Q:=by
 subst h0;exact gF t c _ q h1 hg hx
theorem Sf{a b:Bool}(t:Tmp)(c:Bool)(h0:a=b)(q:WO e fm (g_ all os) ⟨I.set d (bif c then .bool a else undef),ds,O,G,gX⟩ Q)
 (h1:c=true->∀rec Z k,(iQ all ⟨some d,op,ty,pos,j7,none⟩).run e rec fm I ds O G Z k=k ⟨I.set d (.bool b),ds,O,G,Z⟩:=by intro h;subst h;intros;kernel_rfl)
 (hg:kL all j=some (f_ (.tmp t)):=by rfl) (hx:(f_ (.tmp t)).run I=.bool c:=by kernel_rfl):WO e fm (g_ all (⟨some d,op,ty,pos,j7,some (j,true)⟩::os)) ⟨I,ds,O,G,gX⟩ Q:=by
 subst h0;exact gT t c _ q h1 hg hx
theorem xY(t:Tmp)(c:Bool)(v:Value)(h1:c=false->WC e fm (iQ all ⟨some d,op,ty,pos,j7,none⟩) ⟨I,ds,O,G,gX⟩ fun s=>s=⟨I.set d v,ds,O,G,gX⟩)
 (q:WO e fm (g_ all os) ⟨I.set d (bif !c then v else undef),ds,O,G,gX⟩ Q) (hg:kL all j=some (f_ (.tmp t)):=by rfl) (hx:(f_ (.tmp t)).run I=.bool c:=by kernel_rfl):WO e fm (g_ all (⟨some d,op,ty,pos,j7,some (j,false)⟩::os)) ⟨I,ds,O,G,gX⟩ Q:=
 wW t (!c) v (.bool c) (by cases c<;>rfl) (fun h=>h1 (bF h)) q hg hx
theorem Fu(t:Tmp)(c:Bool)(v:Value)(h1:c=true->WC e fm (iQ all ⟨some d,op,ty,pos,j7,none⟩) ⟨I,ds,O,G,gX⟩ fun s=>s=⟨I.set d v,ds,O,G,gX⟩)
 (q:WO e fm (g_ all os) ⟨I.set d (bif c then v else undef),ds,O,G,gX⟩ Q) (hg:kL all j=some (f_ (.tmp t)):=by rfl) (hx:(f_ (.tmp t)).run I=.bool c:=by kernel_rfl):WO e fm (g_ all (⟨some d,op,ty,pos,j7,some (j,true)⟩::os)) ⟨I,ds,O,G,gX⟩ Q:=
 wW t c v (.bool c) (by cases c<;>rfl) h1 q hg hx
theorem pO{a c y:Bool}(x:Nat)(h0:a=(c||y))(q:WO e fm (g_ all os) ⟨I.set x (.bool a),ds,O,G,gX⟩ Q)
 (h:∀rec Z k,(iQ all o).run e rec fm I ds O G Z k=kQ (lu (.bool c) (.bool true) (bif !c then .bool y else undef)) (fun v=>k ⟨I.set x v,ds,O,G,Z⟩):=by intros;kernel_rfl):WO e fm (g_ all (o::os)) ⟨I,ds,O,G,gX⟩ Q:=
 .cons (.mq x _ h (by rw[h0];exact lg (fun h=>by rw[h];rfl)) q)
theorem pA{a c y:Bool}(x:Nat)(h0:a=(c&&y))(q:WO e fm (g_ all os) ⟨I.set x (.bool a),ds,O,G,gX⟩ Q)
 (h:∀rec Z k,(iQ all o).run e rec fm I ds O G Z k=kQ (lu (.bool c) (bif c then .bool y else undef) (.bool false)) (fun v=>k ⟨I.set x v,ds,O,G,Z⟩):=by intros;kernel_rfl):WO e fm (g_ all (o::os)) ⟨I,ds,O,G,gX⟩ Q:=
 .cons (.mq x _ h (by rw[h0];exact tL (fun h=>by rw[h];rfl)) q)
theorem oB{x:Operand}(v:Value)(cells:List Value)(q:∀b:Ht,HE G O b->b.get G=some (.cells cells gm.plain)->WO e fm (g_ all os) ⟨I.set d (.pointer (some ⟨G,0,none⟩)),ds,b,G+1,gX⟩ Q)
 (hl:e.low=0:=by rfl) (hx:(f_ x).run I=v:=by kernel_rfl) (j:v.cells.toList=cells:=by rfl):WO e fm (g_ all (⟨some d,.box t0 x,ty,pos,j7,none⟩::os)) ⟨I,ds,O,G,gX⟩ Q:=
 .cons (.box v cells hl hx j (q _ (HE.set _ _ (fg _)) (Tr.ig ..)))
theorem oA{el:TypeId}(cells:List Value){z:Value}(m:e.T.zero el=some z)(q:∀b:Ht,HE G O b->b.get G=some (.cells cells gm.plain)->WO e fm (g_ all os) ⟨I.set d (.pointer (some ⟨G,0,none⟩)),ds,b,G+1,gX⟩ Q)
 (hl:e.low=0:=by rfl) (j:z.cells.toList=cells:=by rfl):WO e fm (g_ all (⟨some d,.alloc el,ty,pos,j7,none⟩::os)) ⟨I,ds,O,G,gX⟩ Q:=
 .cons (.alloc z cells hl m j (q _ (HE.set _ _ (fg _)) (Tr.ig ..)))
theorem oL{n:Nat}{ps:Array (Nat×Operand)}(cells:List Value)(q:∀b:Ht,HE G O b->b.get G=some (.cells cells gm.plain)->WO e fm (g_ all os) ⟨I.set d (.slice (some ⟨G,0,none⟩) n n),ds,b,G+1,gX⟩ Q)
 (hl:e.low=0:=by rfl) (h:qY e.T t0 n (tV (zz ps.toList) I) G=some (vQ G cells n n):=by kernel_rfl):WO e fm (g_ all (⟨some d,.buildSlice t0 n ps,ty,pos,j7,none⟩::os)) ⟨I,ds,O,G,gX⟩ Q:=
 .cons (.buildSlice cells hl h (q _ (HE.set _ _ (fg _)) (Tr.ig ..)))
theorem oS{a v:Operand}{cells:List Value}{n:Nat}{m:gm}(b off:Nat)(val:Value)(new vs:List Value)(hs:e.T.size t0=some n)(p:val.cells.toList=vs)(hn:(Nat.beq vs.length n&&vs.all one)=true)(hb:O.get b=some (.cells cells m))
 (q:∀j:Ht,HE b O j->j.get b=some (.cells new m)->(∀c,c≠b->j.get c=O.get c)->WO e fm (g_ all os) ⟨I,ds,j,G,gX⟩ Q)
 (hl:e.low=0:=by rfl) (u:(f_ a).run I=.pointer (some ⟨b,off,none⟩):=by kernel_rfl) (y:(f_ v).run I=val:=by kernel_rfl) (hm:m.ro=false:=by rfl) (hg:m.mP=none:=by rfl) (o:mM cells off vs=some new:=by rfl):
 WO e fm (g_ all (⟨none,.store t0 a v,ty,pos,j7,none⟩::os)) ⟨I,ds,O,G,gX⟩ Q:=
 .cons (.u_ b off val cells new vs n hl u y hs p hn hb hm hg o (q _ (HE.set _ _ (fg _)) (Tr.ig ..) fun c hc=>Tr.gG _ _ hc))
theorem oZ{a:Operand}{cells:List Value}{m:gm}(b off:Nat)(v:Value)(j:e.T.agg t0=some false)(hb:O.get b=some (.cells cells m))(hc:cells[off]?=some v)(q:WO e fm (g_ all os) ⟨I.set d v,ds,O,G,gX⟩ Q)(hx:(f_ a).run I=.pointer (some ⟨b,off,none⟩):=by kernel_rfl):
 WO e fm (g_ all (⟨some d,.load t0 a,ty,pos,j7,none⟩::os)) ⟨I,ds,O,G,gX⟩ Q:=.cons (.jW b off v hx j hb hc q)
theorem oC{f:FuncId}{l:List Value}{A:Value->Ht->Nat->Prop}(x:Nat)(h:WF e f l O G A)(q:∀v e9 e_,A v e9 e_->WO e fm (g_ all os) ⟨I.set x v,ds,e9,e_,gX⟩ Q)
 (hr:∀rec Z k,(iQ all o).run e rec fm I ds O G Z k=nC e rec f l O G Z (fun v O G Z=>k ⟨I.set x v,ds,O,G,Z⟩):=by intros;kernel_rfl):WO e fm (g_ all (o::os)) ⟨I,ds,O,G,gX⟩ Q:=
 .cons (.call x f l hr (h.mono q))
theorem wb{f:FuncId}{l:List Value}{t:Tm}{R:Value->Ht->Nat->Prop}(fi:wF)(hb:WP e ⟨f,fi.nt,none⟩ fi.body ⟨t,[],O,G,[]⟩ fun o b=>Nat.ble o 1=true/\b.ds=[]/\∃vs,nc e.T b.O.get b.I fi.uu=some vs/\R (qQ vs) b.O b.G)
 (j:qP zA l Tm.undef=some t:=by rfl) (hk:e.K f=none:=by kernel_rfl) (hf:e.F f=some fi:=by kernel_rfl) (hl:Nat.ble l.length fi.nt=true:=by kernel_rfl):WF e f l O G R:=.body hk hf hl j hb
end
end
end Sw
