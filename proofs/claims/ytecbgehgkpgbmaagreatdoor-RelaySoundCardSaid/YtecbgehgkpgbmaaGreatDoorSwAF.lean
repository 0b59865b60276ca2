/- A part of the proof that the law returns true for every input that its row speaks of. No condition is added. -/
import Derived.Test.YtecbgehgkpgbmaaGreatDoorSwAE
namespace Sw
noncomputable section
open Go Go.RowKit
section
variable {e:Env}{fm:Fm}{I:Tm}{ds:List Deferred}{O:Ht}{G:Nat}{Z gS:List Nat}{Q:St->Prop}{all:List Oper}{d:Tmp}{op:Op}{ty:TypeId}{pos:String}{j0:Array Edge}{j:Nat}{w:Bool}
theorem E5{rec:Rec}{k:St->R}(dst:Option Tmp){g:Od}(hg:kA all j=some g):(iJ all ⟨dst,op,ty,pos,j0,some (j,w)⟩).run e rec fm I ds O G Z k=
 Bool.casesOn (ni w (g.run I)) (k ⟨(kh dst).run I undef,ds,O,G,Z⟩) ((iJ all ⟨dst,op,ty,pos,j0,none⟩).run e rec fm I ds O G Z k):=by
 unfold iJ
 simp only[hg]
theorem WC.gq(b:Bool)(R:Value->Ht->Nat->Prop)(x:Value){g:Od}(hg:kA all j=some g)(hx:g.run I=x)(hw:ni w x=b)
 (h1:b=true->WC e fm (iJ all ⟨some d,op,ty,pos,j0,none⟩) ⟨I,ds,O,G,gS⟩ fun s=>∃v eZ e5,s=⟨I.set d v,ds,eZ,e5,gS⟩/\R v eZ e5) (h0:b=false->R undef O G)
 (q:∀v eZ e5,R v eZ e5->Q ⟨I.set d v,ds,eZ,e5,gS⟩):WC e fm (iJ all ⟨some d,op,ty,pos,j0,some (j,w)⟩) ⟨I,ds,O,G,gS⟩ Q:=by
 subst hx
 cases hb:b with
 |true=>
  obtain⟨s1,⟨o,m⟩,v,eZ,e5,rfl,hr⟩:=h1 hb
  refine⟨_,⟨o,fun n hn Z k=>?_⟩,q v eZ e5 hr⟩
  rw[E5 _ hg,hw,hb]
  exact m n hn Z k
 |false=>
  refine⟨_,⟨0,fun n _ Z k=>?_⟩,q undef O G (h0 hb)⟩
  rw[E5 _ hg,hw,hb]
  rfl
theorem WC.gd(b:Bool)(v x:Value){g:Od}(hg:kA all j=some g)(hx:g.run I=x)(hw:ni w x=b)
 (h1:b=true->WC e fm (iJ all ⟨some d,op,ty,pos,j0,none⟩) ⟨I,ds,O,G,gS⟩ fun s=>s=⟨I.set d v,ds,O,G,gS⟩)
 (q:Q ⟨I.set d (bif b then v else undef),ds,O,G,gS⟩):WC e fm (iJ all ⟨some d,op,ty,pos,j0,some (j,w)⟩) ⟨I,ds,O,G,gS⟩ Q:=by
 refine .gq b (fun v' eZ e5=>v'=(bif b then v else undef)/\eZ=O/\e5=G) x hg hx hw (fun hb=>?_) (fun hb=>⟨by rw[hb];rfl,rfl,rfl⟩) (fun v' eZ e5 h=>?_)
 · obtain⟨s1,m,rfl⟩:=h1 hb
   exact⟨_,m,v,O,G,rfl,by rw[hb];rfl,rfl,rfl⟩
 · obtain⟨rfl,rfl,rfl⟩:=h
   exact q
end
def fG(G:Nat)(O:Ht)(A:Value->Prop):Value->Ht->Nat->Prop:=fun v eZ e5=>A v/\G<=e5/\HE G O eZ
structure SV(α:Type) where
 v:Value
 l:List α
def gx{α:Type}(enc:α->List Value)(n:Nat)(O:Ht)(G:Nat)(s:SV α):Prop:=
 (∀x∈s.l,(enc x).length=n)/\((s.l=[]/\(s.v=.slice none 0 0\/∃b,s.v=.slice (some ⟨b,0,none⟩) 0 0))\/∃b cap m,s.v=.slice (some ⟨b,0,none⟩) s.l.length cap/\0<cap/\b<G/\O.get b=some (.cells (s.l.flatMap enc) m)/\s.l.length<=cap/\(m.mG=none\/m.unit=n))/\s.l.length<281474976710656
section
variable {α:Type}{enc:α->List Value}{n:Nat}{O eZ:Ht}{G e5:Nat}{s:SV α}
theorem gx.mono(h:gx enc n O G s)(he:HE G O eZ)(hn:G<=e5:=by omega):gx enc n eZ e5 s:=by
 refine⟨h.1,?_,h.2.2⟩
 rcases h.2.1 with h|⟨b,cap,m,h1,D,h3,h4,e⟩
 · exact .inl h
 · exact .inr ⟨b,cap,m,h1,D,by omega,he.get h4 h3,e⟩
theorem gx.shape(h:gx enc n O G s):∃a c,s.v=.slice a s.l.length c:=by
 rcases h.2.1 with⟨h,h1|⟨q,h1⟩⟩|⟨b,cap,m,h1,_⟩
 · exact⟨none,0,by rw[h1,h];rfl⟩
 · exact⟨some ⟨q,0,none⟩,0,by rw[h1,h];rfl⟩
 · exact⟨_,cap,h1⟩
theorem gx.block{a:Option Addr}{k c:Nat}(h:gx enc n O G s)(e:s.v=.slice a k c)(hk:0<s.l.length):∃b m,a=some ⟨b,0,none⟩/\b<G/\O.get b=some (.cells (s.l.flatMap enc) m):=by
 rcases h.2.1 with⟨h,_⟩|⟨b,cap,m,h1,D,h3,h4,_⟩
 · rw[h]at hk;simp at hk
 · rw[e]at h1;cases h1;exact⟨b,m,rfl,h3,h4⟩
theorem gx.js(h:gx enc n O G s)(k:Nat):lg k s.v s.v=true:=by
 rcases h.2.1 with⟨_,h1|⟨q,h1⟩⟩|⟨b,cap,m,h1,_⟩
 · rw[h1];exact xH ..
 · rw[h1];exact uQ ..
 · rw[h1];exact uQ ..
end
theorem xI(k:IntKind)(z:Int):Sw.one (.int k z)=true:=rfl
theorem Bj(b:Bool):Sw.one (.bool b)=true:=rfl
theorem Jt(s:ByteArray):Sw.one (.string s)=true:=rfl
theorem gx.one{α:Type}{enc:α->List Value}{n:Nat}{O:Ht}{G:Nat}{s:SV α}(h:gx enc n O G s):Sw.one s.v=true:=by
 obtain⟨a,c,e⟩:=h.shape
 rw[e];rfl
theorem E6{α:Type}:∀(xs b:List α),lH xs.length (xs++b)=some xs
 |[],b=>by cases b<;>rfl
 |x::xs,b=>by
  show(lH xs.length (xs++b)).map (x::·)=_
  rw[E6 xs b];rfl
theorem Ay{α:Type}{enc:α->List Value}{n:Nat}:∀(l:List α) (i:Nat) (x:α),(∀y∈l,(enc y).length=n)->l[i]?=some x->∃r,(l.flatMap enc).drop (i*n)=enc x++r
 |[],i,x,_,h=>by simp at h
 |y::l,0,x,_,h=>by
  simp at h;subst h
  exact⟨l.flatMap enc,by simp⟩
 |y::l,i+1,x,hl,h=>by
  obtain⟨r,hr⟩:=Ay l i x (fun z b=>hl z (fw _ b)) (by simpa using h)
  refine⟨r,?_⟩
  rw[List.flatMap_cons,show(i+1)*n=(enc y).length+i*n by rw[hl y (List.mem_cons_self ..),Nat.succ_mul];omega,<-List.drop_drop,List.drop_left,hr]
theorem RS{α:Type}{enc:α->List Value}{n:Nat}{l:List α}{i:Nat}{x:α}(hl:∀y∈l,(enc y).length=n)(h:l[i]?=some x):lH n ((l.flatMap enc).drop (i*n))=some (enc x):=by
 obtain⟨r,hr⟩:=Ay l i x hl h
 have:=hl x (cs h)
 rw[hr]
 subst this
 exact E6 _ _
theorem Kr{α:Type}{enc:α->List Value}{n:Nat}{l:List α}{i f:Nat}{x:α}(hl:∀y∈l,(enc y).length=n)(h:l[i]?=some x)(hf:f<n):(l.flatMap enc)[i*n+f]?=(enc x)[f]?:=by
 obtain⟨r,hr⟩:=Ay l i x hl h
 have:=hl x (cs h)
 have e:(l.flatMap enc)[i*n+f]?=((l.flatMap enc).drop (i*n))[f]?:=by rw[List.getElem?_drop]
 rw[e,hr,List.getElem?_append_left (by omega)]
theorem boxed(O:Ht)(G:Nat)(cells:List Value):∃b,O.set G (some (.cells cells gi.plain))=b/\HE G O b/\b.get G=some (.cells cells gi.plain):=
 ⟨_,rfl,HE.set _ _ (e9 _),Tr.ia ..⟩
theorem stored(O:Ht)(b:Nat)(o:jM Tm):∃e,O.set b (some o)=e/\HE b O e/\e.get b=some o/\∀c,c≠b->e.get c=O.get c:=
 ⟨_,rfl,HE.set _ _ (e9 _),Tr.ia ..,fun c hc=>Tr.gA _ _ hc⟩
theorem HE.le{B B':Nat}{h1 D:Ht}(h:HE B h1 D)(hb:B'<=B):HE B' h1 D:=fun b k=>h b (by omega)
section
variable {e:Env}{fm:Fm}{I:Tm}{ds:List Deferred}{O:Ht}{G:Nat}{gS:List Nat}{Q:St->Prop}{all:List Oper}{d:Tmp}{ty:TypeId}{pos:String}{j0:Array Edge}
theorem WC.Ub{c:Cl}(jC:ub)(hl:e.low=0)(h:∀rec Z k,c.run e rec fm I ds O G Z k=tK (fun t _=>t) e.low I ds O G Z k (undef,jC,0))(q:Q ⟨I,ds,jg jC O,G,gS⟩):WC e fm c ⟨I,ds,O,G,gS⟩ Q:=
 ⟨⟨I,ds,jg jC O,G,gS⟩,⟨0,fun n _ Z k=>by show c.run e (ev e n) fm I ds O G Z k=_;rw[h (ev e n) Z k,hl];simp only[tK,Ij,St.at,Nat.add_zero]⟩,q⟩
theorem WC.alloc{el:TypeId}(z:Value)(cells:List Value)(hl:e.low=0)(b:e.T.zero el=some z)(hc:z.cells.toList=cells)(q:Q ⟨I.set d (.pointer (some ⟨G,0,none⟩)),ds,O.set G (some (.cells cells gi.plain)),G+1,gS⟩):
 WC e fm (iJ all ⟨some d,.alloc el,ty,pos,j0,none⟩) ⟨I,ds,O,G,gS⟩ Q:=by
 subst hc
 refine .kQ d _ [(G,some (.cells z.cells.toList gi.plain))] 1 hl (fun rec Z k=>?_) q
 have:(iJ all ⟨some d,.alloc el,ty,pos,j0,none⟩).run e rec fm I ds O G Z k=(match e.T.zero el with|some z=>tK (fun t v=>t.set d v) e.low I ds O G Z k (B8 G z.cells.toList)|none=>.gk 0):=rfl
 rw[this,b];rfl
theorem WC.uR{t:TypeId}{a v:Operand}(b off:Nat)(val:Value)(cells new vs:List Value)(n:Nat){m:gi}(hl:e.low=0)(p:(fV a).run I=.pointer (some ⟨b,off,none⟩))(u:(fV v).run I=val)(hs:e.T.size t=some n)(o:val.cells.toList=vs)
 (hn:(Nat.beq vs.length n&&vs.all one)=true) (hb:O.get b=some (.cells cells m)) (hm:m.ro=false) (hg:m.mG=none) (j:mD cells off vs=some new) (q:Q ⟨I,ds,O.set b (some (.cells new m)),G,gS⟩):
 WC e fm (iJ all ⟨none,.store t a v,ty,pos,j0,none⟩) ⟨I,ds,O,G,gS⟩ Q:=by
 subst u o
 refine .Ub [(b,some (.cells new m))] hl (fun rec Z k=>?_) q
 have:(iJ all ⟨none,.store t a v,ty,pos,j0,none⟩).run e rec fm I ds O G Z k=yO (wV e.T O.get t ((fV a).run I) ((fV v).run I)) (tK (fun t _=>t) e.low I ds O G Z k):=rfl
 rw[this,p]
 have:wV e.T O.get t (.pointer (some ⟨b,off,none⟩)) ((fV v).run I)=some [(b,some (.cells new m))]:=by
  simp only[wV,hb,hs,hn,cond_true,oh,hm,cond_false,j,Option.bind_some,hg]
 rw[this];rfl
end
theorem iH(n:Nat)(b:Bool):lg n (.bool b) (.bool b)=true:=by cases n<;>cases b<;>rfl
theorem ww(n:Nat)(s:ByteArray):lg n (.string s) (.string s)=true:=by
 have:wF (strs s) (strs s)=true:=by rw[wX];simp
 cases n<;>simp only[lg,this]
theorem Ph(n:Nat)(x:Array Value)(h:∀v∈x.toList,lg n v v=true):lg (n+1) (.tuple x) (.tuple x)=true:=by
 simp only[lg,E4 _ h]
theorem yX{x y:Int}:DY x y=true↔x<=y:=by rw[LV];simp
theorem FR{x y:Int}:(!(kC x y))=true↔x≠y:=by rw[Es];simp
theorem WP.scope{e:Env}{fm:Fm}{s:St}{W:Nat->St->Prop}{c:Code}(h:WP e fm c s W):WP e fm (.scope c) s W:=by
 obtain⟨o,b,h1,D⟩:=h;exact⟨o,b,h1.scope,D⟩
def fW(a:Option Addr):Nat:=(a.map (·.block)).getD 0
section
variable {α:Type}{enc:α->List Value}{n:Nat}{O eZ:Ht}{G e5:Nat}{s:SV α}
theorem gx.Bk{a:Option Addr}{k c:Nat}(h:gx enc n O G s)(e:s.v=.slice a k c)(hk:0<s.l.length):a=some ⟨fW a,0,none⟩:=by
 obtain⟨b,m,rfl,_⟩:=h.block e hk;rfl
theorem gx.pd{a:Option Addr}{k c:Nat}(h:gx enc n O G s)(e:s.v=.slice a k c)(hk:0<s.l.length):∃m,O.get (fW a)=some (.cells (s.l.flatMap enc) m):=by
 obtain⟨b,m,rfl,_,h1⟩:=h.block e hk;exact⟨m,h1⟩
end
theorem nj{α:Type}{enc:α->List Value}{n:Nat}{l:List α}{i f:Nat}{x:α}{v:Value}(hl:∀y∈l,(enc y).length=n)(h:l[i]?=some x)(hf:f<n)(b:(enc x)[f]?=some v):(l.flatMap enc)[0+i*n+f]?=some v:=by
 rw[Nat.zero_add,Kr hl h hf,b]
theorem ME{α:Type}{enc:α->List Value}{l:List α}{i:Nat}{x:α}{v:Value}(hl:∀y∈l,(enc y).length=1)(h:l[i]?=some x)(b:(enc x)[0]?=some v):(l.flatMap enc)[0+i*1]?=some v:=by
 have:=nj hl h (by decide) b
 rwa[Nat.add_zero]at this
theorem xm{α:Type}{enc:α->List Value}{n:Nat}{l:List α}{i:Nat}{x:α}(hl:∀y∈l,(enc y).length=n)(h:l[i]?=some x):lH n ((l.flatMap enc).drop (0+i*n))=some (enc x):=by
 rw[Nat.zero_add];exact RS hl h
theorem tx{T:Ty}{O:Hp}{t:TypeId}{b o:Nat}{cells:List Value}{v:Value}(e:T.agg t=some false)(hb:∃m,O b=some (.cells cells m))(hc:cells[o]?=some v):j9 T O t (.pointer (some ⟨b,o,none⟩))=some v:=by
 obtain⟨m,hb⟩:=hb;exact j_ e hb hc
theorem Az{T:Ty}{O:Hp}{t:TypeId}{b o n:Nat}{cells l:List Value}(e:T.agg t=some true)(hs:T.size t=some n)(hb:∃m,O b=some (.cells cells m))(hc:lH n (cells.drop o)=some l):j9 T O t (.pointer (some ⟨b,o,none⟩))=some (.agg l.toArray):=by
 obtain⟨m,hb⟩:=hb;exact jO e hs hb hc
theorem sK{T:Ty}{t el:TypeId}{a:Option Addr}{len c i s:Nat}{k:IntKind}(hu:T.jh t=some (.slice el))(hs:T.size el=some s)(e:a=some ⟨fW a,0,none⟩)(hi:i<len):mH T t (.slice a len c) (.int k (.ofNat i))=some (.pointer (some ⟨fW a,0+i*s,none⟩)):=by
 generalize hb:fW a=b at e
 subst e
 exact K4 hu hs hi
section
variable {e:Env}{fm:Fm}{I:Tm}{ds:List Deferred}{O:Ht}{G:Nat}{gS:List Nat}{Q:St->Prop}{all:List Oper}{d:Tmp}{ty:TypeId}{pos:String}{j0:Array Edge}
theorem WC.sb{t:TypeId}{a:Operand}(b o:Nat)(v:Value){cells:List Value}(hx:(fV a).run I=.pointer (some ⟨b,o,none⟩))(j:e.T.agg t=some false)(hb:∃m,O.get b=some (.cells cells m))(hc:cells[o]?=some v)(q:Q ⟨I.set d v,ds,O,G,gS⟩):
 WC e fm (iJ all ⟨some d,.load t a,ty,pos,j0,none⟩) ⟨I,ds,O,G,gS⟩ Q:=by
 obtain⟨m,hb⟩:=hb;exact .jP b o v hx j hb hc q
theorem WC.E7{t:TypeId}{a:Operand}(b o:Nat)(l:List Value){n:Nat}{cells:List Value}(hx:(fV a).run I=.pointer (some ⟨b,o,none⟩))(j:e.T.agg t=some true)(hs:e.T.size t=some n)(hb:∃m,O.get b=some (.cells cells m))(hc:lH n (cells.drop o)=some l)(q:Q ⟨I.set d (.agg l.toArray),ds,O,G,gS⟩):
 WC e fm (iJ all ⟨some d,.load t a,ty,pos,j0,none⟩) ⟨I,ds,O,G,gS⟩ Q:=by
 obtain⟨m,hb⟩:=hb;exact .im b o l hx j hs hb hc q
theorem WC.ix{t el:TypeId}{x j:Operand}(a:Option Addr)(len c i s:Nat){k:IntKind}(hx:(fV x).run I=.slice a len c)(hj:(fV j).run I=.int k (.ofNat i))(hu:e.T.jh t=some (.slice el))(hs:e.T.size el=some s)(b:a=some ⟨fW a,0,none⟩)(hi:i<len)(q:Q ⟨I.set d (.pointer (some ⟨fW a,0+i*s,none⟩)),ds,O,G,gS⟩):
 WC e fm (iJ all ⟨some d,.indexAddr t x j,ty,pos,j0,none⟩) ⟨I,ds,O,G,gS⟩ Q:=
 .me d (mH e.T t ((fV x).run I) ((fV j).run I)) (fun _ _ _=>rfl) (by rw[hx,hj];exact sK hu hs b hi) q
end
section
variable {T:Ty}{O:Ht}{G:Nat}{I:Tm}{c:tq}
theorem lZ(v:Value)(h:∀k,c.run T O G I k=bif lg 8 v v then k else .gk 0)(b:lg 8 v v=true)(k:R):c.run T O G I k=k:=by
 rw[h,b];rfl
theorem qw(v:Value)(o:Option Value)(h:∀k,c.run T O G I k=kI o (fun x=>bif lg 8 x v then k else .gk 0))(b:o=some v)(e:lg 8 v v=true)(k:R):c.run T O G I k=k:=by
 rw[h,b];simp only[kI,e,cond_true]
end
def ga(P:Prop):Value->Prop:=fun v=>∃c:Bool,v=.bool c/\(c=true↔P)
def Dy(z:Int):Value->Prop:=fun v=>v=.int .i64 z
def GB(b:Bool)(P:Prop)(G:Nat)(O:Ht):Value->Ht->Nat->Prop:=fun v eZ e5=>(∃c:Bool,v=(bif b then .bool c else undef)/\(c=true↔P))/\G<=e5/\HE G O eZ
theorem GB.off{b:Bool}{P:Prop}{G:Nat}{O:Ht}(h:b=false):GB b P G O undef O G:=
 ⟨⟨@decide P (Classical.propDecidable P),by rw[h];rfl,by simp⟩,e9 _,HE.refl _ _⟩
def GV(b:Bool)(x:Value)(G:Nat)(O:Ht):Value->Ht->Nat->Prop:=fun v eZ e5=>v=(bif b then x else undef)/\G<=e5/\HE G O eZ
theorem GV.off{b:Bool}{x:Value}{G:Nat}{O:Ht}(h:b=false):GV b x G O undef O G:=
 ⟨by rw[h];rfl,e9 _,HE.refl _ _⟩
def encI(z:Int):List Value:=[.int .i64 z]
def ZS(b:Bool):List Value:=[.bool b]
def ZT(s:ByteArray):List Value:=[.string s]
def lC{α:Type}(s:SV α):List Value:=[s.v]
instance {α:Type}:Inhabited (SV α):=⟨⟨.nilIface,[]⟩⟩
def ju{α:Type}(enc:α->List Value)(n:Nat)(E:Ht->Nat->α->Prop)(O:Ht)(G:Nat)(s:SV α):Prop:=gx enc n O G s/\∀x∈s.l,E O G x
theorem ju.mono{α:Type}{enc:α->List Value}{n:Nat}{E:Ht->Nat->α->Prop}{O eZ:Ht}{G e5:Nat}{s:SV α}(h:ju enc n E O G s)(hE:∀x,E O G x->HE G O eZ->G<=e5->E eZ e5 x)(he:HE G O eZ)(hn:G<=e5:=by omega):ju enc n E eZ e5 s:=
 ⟨h.1.mono he hn,fun x hx=>hE x (h.2 x hx) he hn⟩
theorem wrapN{n:Nat}(h:n<9223372036854775808):gn .i64 (.ofNat n)=.ofNat n:=by
 have h1:qU .i64 (.ofNat n)=n:=Nat.mod_eq_of_lt (show n<18446744073709551616 by omega)
 have D:Nat.ble 9223372036854775808 n=false:=by
  cases hb:Nat.ble 9223372036854775808 n with
  |false=>rfl
  |true=>have:=fa hb;omega
 unfold gn
 rw[h1]
 unfold xf
 show(bif Nat.ble 9223372036854775808 n then _ else Int.ofNat n)=_
 rw[D];rfl
theorem gM{i j:Nat}(h:i+j<9223372036854775808):gn .i64 (.ofNat i+.ofNat j)=.ofNat (i+j):=wrapN h
theorem AT{i j:Nat}(h:i<9223372036854775808)(hj:j<=i):gn .i64 (.ofNat i-.ofNat j)=.ofNat (i-j):=by
 have:(Int.ofNat i-Int.ofNat j:Int)=.ofNat (i-j):=by
  show(i:Int)-(j:Int)=((i-j:Nat):Int)
  omega
 rw[this];exact wrapN (by omega)
def pW{α:Type}(l:List α)(A:α->Prop):Value->Prop:=fun v=>(v=.int .i64 (-1)/\∀x∈l,¬A x)\/∃(i:Nat) (x:α),v=.int .i64 (.ofNat i)/\l[i]?=some x/\A x/\∀(j:Nat) (y:α),j<i->l[j]?=some y->¬A y
theorem pW.sign{α:Type}{l:List α}{A:α->Prop}{v:Value}(h:pW l A v):∃z:Int,v=.int .i64 z/\(0<=z↔∃x∈l,A x):=by
 rcases h with⟨rfl,h⟩|⟨i,x,rfl,h1,D,_⟩
 · exact⟨-1,rfl,by simp;exact h⟩
 · exact⟨.ofNat i,rfl,⟨fun _=>⟨x,cs h1,D⟩,fun _=>Int.natCast_nonneg i⟩⟩
def MF(k:Int)(P:Prop):Value->Prop:=fun v=>∃z:Int,v=.int .i64 z/\(z=0↔P)/\(z=0\/z=k)
def GC(b:Bool)(k:Int)(P:Prop)(G:Nat)(O:Ht):Value->Ht->Nat->Prop:=fun v eZ e5=>(∃z:Int,v=(bif b then .int .i64 z else undef)/\(z=0↔P)/\(z=0\/z=k))/\G<=e5/\HE G O eZ
theorem gx.m_{α:Type}{enc:α->List Value}{n:Nat}{l:List α}{O:Ht}{G b c:Nat}{m:gi}{cells:List Value}(hl:∀x∈l,(enc x).length=n)(hb:O.get b=some (.cells cells m))(hc:cells=l.flatMap enc)(h0:0<c)(jA:b<G)(hs:l.length<281474976710656)(e:l.length<=c:=by simp)(hm:m.mG=none\/m.unit=n:=by exact .inl rfl):
 gx enc n O G ⟨.slice (some ⟨b,0,none⟩) l.length c,l⟩:=
 ⟨hl,.inr ⟨b,c,m,rfl,h0,jA,by rw[hb,hc],e,hm⟩,hs⟩
theorem kS{c y:Bool}{b:Value}(h:c=false->b=.bool y):kZ (.bool c) (.bool true) b=some (.bool (c||y)):=by
 cases c with
 |true=>rfl
 |false=>rw[h rfl];rfl
theorem tz{c x:Bool}{a:Value}(h:c=true->a=.bool x):kZ (.bool c) a (.bool false)=some (.bool (c&&x)):=by
 cases c with
 |true=>rw[h rfl];rfl
 |false=>rfl
theorem XT{fl:Bool}{T:Ty}{O:Ht}{G:Nat}{I:Tm}{all:List Oper}{i j:Nat}{w:Bool}{d:Tmp}{op:Op}{ty:TypeId}{pos:String}{j0:Array Edge}(b:Bool)(v x:Value){g:Od}(hn:nD i all=some ⟨some d,op,ty,pos,j0,some (j,w)⟩)(hg:kA all j=some g)(hx:g.run I=x)(hw:ni w x=b)
 (hd:I.get d=(bif b then v else undef)) (h1:b=true->∀k,(xg fl ⟨some d,op,ty,pos,j0,none⟩).run T O G I k=k) (k:R):(vo fl all i).run T O G I k=k:=by
 subst hx
 unfold vo
 simp only[hn]
 unfold GW
 simp only[hg]
 show(Bool.casesOn (ni w (g.run I)) (bif AN (some d) I then k else .gk 0) ((xg fl ⟨some d,op,ty,pos,j0,some (j,w)⟩).run T O G I k):R)=k
 rw[hw]
 cases b with
 |true=>exact h1 rfl k
 |false=>
  have:AN (some d) I=true:=by show lg 8 undef (I.get d)=true;rw[hd];rfl
  show(bif AN (some d) I then k else .gk 0)=k
  rw[this];rfl
end
end Sw
namespace Sw
noncomputable section
open Go Go.RowKit
theorem iX.val{e:Env}{c:tq}{l:List tq}{I:Tm}{ds:List Deferred}{O:Ht}{G:Nat}{gS:List Nat}(v:Value)(h:∀k,c.run e.T O G I k=bif lg 8 v v then k else .gk 0)(b:lg 8 v v=true)(hl:iX e l ⟨I,ds,O,G,gS⟩):iX e (c::l) ⟨I,ds,O,G,gS⟩:=
 .cons (fun k=>by show c.run e.T O G I k=k;rw[h,b];rfl) hl
theorem iX.me{e:Env}{c:tq}{l:List tq}{I:Tm}{ds:List Deferred}{O:Ht}{G:Nat}{gS:List Nat}(v:Value)(o:Option Value)(h:∀k,c.run e.T O G I k=kI o (fun x=>bif lg 8 x v then k else .gk 0))(b:o=some v)(j:lg 8 v v=true)(hl:iX e l ⟨I,ds,O,G,gS⟩):iX e (c::l) ⟨I,ds,O,G,gS⟩:=
 .cons (fun k=>by show c.run e.T O G I k=k;rw[h,b];simp only[kI,j,cond_true]) hl
theorem iX.new{e:Env}{c:tq}{l:List tq}{I:Tm}{ds:List Deferred}{O:Ht}{G:Nat}{gS:List Nat}(m:Nat)(v:Value)(Z:List Value)(h:∀k,c.run e.T O G I k=(match O.get m with|some (.cells lA j)=>bif lg 8 v v&&(uG (lg 8) Z lA&&CJ j)then k else .gk 0|_=>.gk 0))(hm:O.get m=some (.cells Z gi.plain))(b:lg 8 v v=true)(hc:uG (lg 8) Z Z=true)(hl:iX e l ⟨I,ds,O,G,gS⟩):iX e (c::l) ⟨I,ds,O,G,gS⟩:=
 .cons (fun k=>by show c.run e.T O G I k=k;rw[h,hm];simp only[b,hc];rfl) hl
theorem Sl.lg{B size G l:Nat}{O:Ht}{v:Value}{xs:List Value}(h:Sl B size O G v l xs):lg 8 v v=true:=by
 cases h with
 |nil=>exact xH ..
 |plain=>exact uQ ..
 |grown=>exact uQ ..
theorem WP.Y3{fl:Bool}{e:Env}{fm:Fm}{s:St}{W:Nat->St->Prop}{id:Nat}{ops:Array Oper}(r6:List vX)(hs:(xZ fl ops.toList).r6=r6)(h:WD e fm (Ah fl ops.toList r6) s (W 0))(hf:vY ops.toList=fl:=by kernel_rfl):WP e fm (.region id ops true) s W:=by
 subst hf;subst hs;exact .draw h
theorem WP.qN{e:Env}{fm:Fm}{s:St}{W:Nat->St->Prop}{id:Nat}{ops:Array Oper}(r6:List vX)(hs:(xZ false ops.toList).r6=r6)(RJ:List Ka)(hc:Ah false ops.toList r6=RJ)(h:WD e fm RJ s (W 0))(hf:vY ops.toList=false:=by kernel_rfl):WP e fm (.region id ops true) s W:=by
 subst hc;exact .Y3 r6 hs h hf
theorem Ks{fl:Bool}{all:List Oper}{i:Nat}{o:Oper}(h:nD i all=some o)(hc:(fl&&pK o.op)=false):pN fl all i=iJ all o:=by
 simp only[pN,h,s_,hc];rfl
theorem WN.hQ{fl:Bool}{e:Env}{fm:Fm}{s:St}{Q:St->Prop}{all:List Oper}{i:Nat}{o:Oper}{l:List Cl}(h:nD i all=some o)(k:WC e fm (iJ all o) s fun s1=>WN e fm l s1 Q)(hc:(fl&&pK o.op)=false:=by rfl):WN e fm (pN fl all i::l) s Q:=by
 refine .cons ?_
 rw[Ks h hc];exact k
theorem WC.at{fl:Bool}{e:Env}{fm:Fm}{s:St}{Q:St->Prop}{all:List Oper}{i:Nat}{o:Oper}(h:nD i all=some o)(k:WC e fm (iJ all o) s Q)(hc:(fl&&pK o.op)=false:=by rfl):WC e fm (pN fl all i) s Q:=by
 rw[Ks h hc];exact k
theorem sL{T:Ty}{O:Hp}{t:Tm}{a:Nat}{ty:TypeId}{v:Value}(h:j9 T O ty ((fV (.tmp a)).run t)=some v):mS T O t [.cell a ty]=some [v]:=by
 simp only[mS,h]
theorem qZ{a b:ByteArray}:wF (strs a) (strs b)=true↔a=b:=by
 rw[wX]
 simp only[beq_iff_eq]
 constructor
 · intro h
   cases a;cases b
   have h:Array.toList _=Array.toList _:=h
   exact congrArg ByteArray.mk (Array.toList_inj.1 h)
 · rintro rfl;rfl
theorem RT{a b:ByteArray}:(!(wF (strs a) (strs b)))=true↔a≠b:=by
 rw[Bool.not_eq_true',<-Bool.not_eq_true,qZ]
def VR(P:Prop):Value->Prop:=fun v=>∃z:Int,v=.int .i64 z/\(z=0↔P)
def wx(x:Value):Value->Prop:=fun v=>v=x
def Ju(P:Prop):Value->Prop:=fun v=>∃c:Bool,v=.bool c/\(c=true->P)
def GI(b:Bool)(P:Prop)(G:Nat)(O:Ht):Value->Ht->Nat->Prop:=fun v eZ e5=>(∃c:Bool,v=(bif b then .bool c else undef)/\(c=true->P))/\G<=e5/\HE G O eZ
theorem GI.off{b:Bool}{P:Prop}{G:Nat}{O:Ht}(h:b=false):GI b P G O undef O G:=
 ⟨⟨false,by rw[h];rfl,fun h=>by cases h⟩,e9 _,HE.refl _ _⟩
def ZU{α:Type}(l:List α)(A:α->Prop)(z:Int):Prop:=(z=-1/\∀x∈l,¬A x)\/∃(i:Nat) (x:α),z=.ofNat i/\l[i]?=some x/\A x/\∀(j:Nat) (y:α),j<i->l[j]?=some y->¬A y
theorem pW.num{α:Type}{l:List α}{A:α->Prop}{v:Value}(h:pW l A v):∃z:Int,v=.int .i64 z/\ZU l A z:=by
 rcases h with⟨rfl,h⟩|⟨i,x,rfl,h⟩
 · exact⟨_,rfl,.inl ⟨rfl,h⟩⟩
 · exact⟨_,rfl,.inr ⟨i,x,rfl,h⟩⟩
end
end Sw
namespace Sw
noncomputable section
open Go Go.RowKit
theorem MG{α:Type}:∀(vs Z:List α),vs.length<=Z.length->v8 Z vs=some (vs++Z.drop vs.length)
 |[],Z,_=>by cases Z<;>rfl
 |v::vs,[],h=>by simp at h
 |v::vs,c::Z,h=>by simp[v8,MG vs Z (by simpa using h)]
theorem Ik{α:Type}:∀(xs rest b:List α),b.length<=rest.length->mD (xs++rest) xs.length b=some (xs++(b++rest.drop b.length))
 |[],rest,b,h=>by
  have:=MG b rest h
  cases rest<;>simpa[mD]using this
 |x::xs,rest,b,h=>by
  show(mD (xs++rest) xs.length b).map (x::·)=_
  rw[Ik xs rest b h];rfl
inductive Rm(B size N:Nat)(O:Ht)(G:Nat):Value->Nat->List Value->Prop where
 |nil (h:N=0):Rm B size N O G (.slice none 0 0) 0 []
 |room {b l gr:Nat} {xs rest:List Value} (h0:0<N) (hb:O.get b=some (.cells (xs++rest) ⟨false,some gr,0,size⟩)) (hg:O.get gr=some (.group [⟨b,0,N*size⟩])) (hn:gr≠b)
   (h1:b<G) (D:B<=b) (h3:gr<G) (h4:B<=gr) (hl:xs.length=l*size) (hr:xs.length+rest.length=N*size) (hle:l<=N):Rm B size N O G (.slice (some ⟨b,0,none⟩) l N) l xs
theorem Rm.mono{B size N G e5 l:Nat}{O eZ:Ht}{v:Value}{xs:List Value}(h:Rm B size N O G v l xs)(he:HE G O eZ)(hn:G<=e5):Rm B size N eZ e5 v l xs:=by
 cases h with
 |nil h=>exact .nil h
 |room h0 hb hg jB h1 D h3 h4 hl hr hle=>exact .room h0 (he.get hb h1) (he.get hg h3) jB (by omega) D (by omega) h4 hl hr hle
theorem Rm.le{B B' size N G l:Nat}{O:Ht}{v:Value}{xs:List Value}(h:Rm B size N O G v l xs)(b:B'<=B):Rm B' size N O G v l xs:=by
 cases h with
 |nil h=>exact .nil h
 |room h0 hb hg jB h1 D h3 h4 hl hr hle=>exact .room h0 hb hg jB h1 (by omega) h3 (by omega) hl hr hle
def Qy(O:Hp)(a:Option Addr)(l m c size:Nat)(e:List Value):Option p0:=
 match a,e with
 |_,[]=>some (.slice a (l+m) c,[],0)
 |some ⟨b,off,none⟩,new=>match O b with
  |some (.cells Z mt)=>(oh O b Z mt (off+l*size) new).map fun u=>(.slice a (l+m) c,u,0)
  |_=>none
 |_,_=>none
theorem Rm.append{T:Ty}{B size N G l m st xt el:Nat}{O:Ht}{v x z:Value}{inf:TypeInfo}{xs e:List Value}(h:Rm B size N O G v l xs)(hu:T.jh st=some (.slice el))(hs:T.size el=some size)(L:T.zero el=some z)(hi:T.kd el=some inf)
 (hx:pE T xt x=some (m,false)) (u:lL O.get (m*size) x=some e) (A:uD size x=true) (o:e.length=m*size) (p:e.all one=true) (J:0<size) (j:l+m<=N)
 (b1:(l+m)*inf.bytes<=70368744177664) (b2:inf.bytes<=1073741824) (K:l+m<=70368744177664):
 ∃v' jC,jN T O.get st xt v x G=some (v',jC,0)/\Rm B size N (jg jC O) G v' (l+m) (xs++e)/\HE B O (jg jC O):=by
 have e1:∀a c,l+m<=c->jN T O.get st xt (.slice a l c) x G=Qy O.get a l m c size e:=fun a c hc=>by
  have:(jN T O.get st xt (.slice a l c) x G)=Qy O.get a l m c size e:=by
   simp only[jN,hu,hs,L,hi,hx,lX,cond_false,A,cond_true,u,Option.bind_some,p,Nat.ble_eq_true_of_le b1,Nat.ble_eq_true_of_le b2,Nat.ble_eq_true_of_le K,Bool.and_true,Nat.ble_eq_true_of_le hc]
   cases a<;>cases e<;>rfl
  exact this
 cases h with
 |nil h=>
  obtain rfl:m=0:=by omega
  obtain rfl:e=[]:=fP (by omega)
  refine⟨_,_,(e1 none 0 (by omega)).trans rfl,.nil h,HE.refl _ _⟩
 |@room b _ gr _ rest h0 hb hg jB h1 D h3 h4 hl hr hle=>
  cases e with
  |nil=>
   obtain rfl:m=0:=by
    rcases gu m with h|h
    · exact h
    · have:=Nat.mul_pos h J;simp at o;omega
   refine⟨_,_,(e1 (some ⟨b,0,none⟩) N (by omega)).trans rfl,?_,HE.refl _ _⟩
   rw[List.append_nil]
   exact .room h0 hb hg jB h1 D h3 h4 hl hr hle
  |cons y e=>
   have hlen:(y::e).length<=rest.length:=by
    have:(l+m)*size<=N*size:=gH _ j
    rw[Nat.add_mul]at this;omega
   have C:∀lo hi,overlaps b lo hi ⟨b,0,N*size⟩=false:=fun lo hi=>by
    simp[overlaps]
   have F:oh O.get b (xs++rest) ⟨false,some gr,0,size⟩ (0+l*size) (y::e)=some [(gr,some (.group [⟨b,0,N*size⟩])),(b,some (.cells (xs++(y::e++rest.drop (y::e).length)) ⟨false,some gr,0,size⟩))]:=by
    have E:mD (xs++rest) (0+l*size) (y::e)=some (xs++(y::e++rest.drop (y::e).length)):=by
     rw[Nat.zero_add,<-hl];exact Ik xs rest (y::e) hlen
    simp only[oh,E,cond_false,Option.bind_some,hg,oe,mZ,List.filter_cons,List.filter_nil,C,Bool.false_eq_true,if_false,List.all_nil,cond_true,List.map_nil,List.nil_append,Bool.not_false,if_true]
   refine⟨.slice (some ⟨b,0,none⟩) (l+m) N,[(gr,some (.group [⟨b,0,N*size⟩])),(b,some (.cells (xs++(y::e++rest.drop (y::e).length)) ⟨false,some gr,0,size⟩))],(e1 (some ⟨b,0,none⟩) N j).trans (by simp only[Qy,hb,F,Option.map_some]),?_,?_⟩
   · simp only[jg]
     refine .room (rest:=rest.drop (y::e).length) h0 (by rw[List.append_assoc];exact Tr.ia ..) ((Tr.gA _ _ (by omega)).trans (Tr.ia ..)) jB h1 D h3 h4 (by rw[List.length_append,hl,o,Nat.add_mul]) ?_ j
     rw[List.length_append,List.length_drop];omega
   · exact(HE.set _ _ h4).trans (HE.set _ _ D) (e9 _)
section
variable {e:Env}{fm:Fm}{I:Tm}{ds:List Deferred}{O:Ht}{G:Nat}{gS:List Nat}{Q:St->Prop}{all:List Oper}{d:Tmp}{ty:TypeId}{pos:String}{j0:Array Edge}
theorem WC.Pj{st xt el:TypeId}{x y:Operand}{B l m size N:Nat}{v w z:Value}{inf:TypeInfo}{xs b:List Value}(hl:e.low=0)(hx:(fV x).run I=v)(hy:(fV y).run I=w)(h:Rm B size N O G v l xs)
 (hu:e.T.jh st=some (.slice el)) (hs:e.T.size el=some size) (K:e.T.zero el=some z) (hi:e.T.kd el=some inf) (F:pE e.T xt w=some (m,false)) (o:lL O.get (m*size) w=some b) (p:uD size w=true) (E:b.length=m*size) (j:b.all one=true)
 (C:0<size) (A:l+m<=N) (b1:inf.bytes<=1024) (L:N<=1048576)
 {qV:Array TypeId} (J:qV=#[st,xt]) (q:∀v' eZ,HE B O eZ->Rm B size N eZ G v' (l+m) (xs++b)->Q ⟨I.set d v',ds,eZ,G,gS⟩):
 WC e fm (iJ all ⟨some d,.call {callee:=.builtin .append,args:=#[x,y],argTypes:=qV},ty,pos,j0,none⟩) ⟨I,ds,O,G,gS⟩ Q:=by
 subst J
 have u:(l+m)*inf.bytes<=70368744177664:=e8 (gR (show l+m<=1048577 by omega) b1) (by decide)
 obtain⟨v',jC,h1,D,h3⟩:=h.append hu hs K hi F o p E j C A u (by omega) (by omega)
 refine .Kq d (jN e.T O.get st xt v w G) hl (fun _ _ _=>?_) h1 (q _ _ h3 D)
 rw[<-hx,<-hy];rfl
end
theorem Kt(c:List Value):∀n,(kH n c).length=n*c.length
 |0=>by simp[kH]
 |n+1=>by simp only[kH,List.length_append,Kt c n,Nat.succ_mul];omega
theorem Ku{c:List Value}(h:c.all one=true):∀n,(kH n c).all one=true
 |0=>rfl
 |n+1=>by simp only[kH,List.all_append,h,Ku h n,Bool.and_self]
theorem K5{T:Ty}{O:Hp}{st xt el G n size:Nat}{z:Value}{inf:TypeInfo}(hu:T.jh st=some (.slice el))(hs:T.size el=some size)(m:T.zero el=some z)(hi:T.kd el=some inf)(hx:pE T xt (.int .i64 (.ofNat n))=some (n,true))(h0:0<n)
 (e:z.cells.toList.all one=true) (b1:inf.bytes<=1024) (o:n<=1048576):
 jN T O st xt (.slice none 0 0) (.int .i64 (.ofNat n)) G=some (.slice (some ⟨G+1,0,none⟩) n n,[(G,some (jM.group [⟨G+1,0,(kH n z.cells.toList).length⟩])),(G+1,some (jM.cells (kH n z.cells.toList) ⟨false,some G,0,size⟩))],2):=by
 have j:n*inf.bytes<=70368744177664:=e8 (gR (show n<=1048577 by omega) b1) (by decide)
 have b:Nat.ble n 0=false:=by
  cases hb:Nat.ble n 0 with
  |false=>rfl
  |true=>have:=fa hb;omega
 simp only[jN,hu,hs,m,hi,hx,lX,cond_true,Option.bind_some,Ku e,Nat.zero_add,Nat.ble_eq_true_of_le j,Nat.ble_eq_true_of_le (show inf.bytes<=1073741824 by omega),Nat.ble_eq_true_of_le (show n<=70368744177664 by omega),Bool.and_true,b,cond_false,pM]
theorem Ou{T:Ty}{O:Hp}{t el b l N s gr:Nat}{cells:List Value}(hu:T.jh t=some (.slice el))(hs:T.size el=some s)(hb:O b=some (.cells cells ⟨false,some gr,0,s⟩))(hle:l<=N):
 sH T O t (.slice (some ⟨b,0,none⟩) l N) none (some (.int .i64 0)) none=some (.slice (some ⟨b,0,none⟩) 0 N):=by
 have h1:we l N none (some (.int .i64 0)) none=some (0,0,N):=by
  cases N<;>rfl
 simp only[sH,hu,hs,A6,hb,Nat.ble_eq_true_of_le hle,Nat.beq_refl,Bool.or_true,Bool.and_self,cond_true,Option.bind_some,h1,Option.map_some,Nat.zero_mul,Nat.add_zero,Nat.sub_zero]
theorem Rm.fresh{O:Ht}{G n size:Nat}{c:List Value}(h0:0<n)(hc:c.length=size):Rm G size n (jg [(G,some (jM.group [⟨G+1,0,(kH n c).length⟩])),(G+1,some (jM.cells (kH n c) ⟨false,some G,0,size⟩))] O) (G+2) (.slice (some ⟨G+1,0,none⟩) 0 n) 0 []:=by
 simp only[jg]
 have hl:(kH n c).length=n*size:=by rw[Kt,hc]
 refine .room (gr:=G) (rest:=kH n c) h0 (Tr.ia ..) (by rw[<-hl];exact(Tr.gA _ _ (by omega)).trans (Tr.ia ..)) (by omega) (by omega) (by omega) (by omega) (by omega) (by simp) (by simpa using hl) (gG _)
theorem Rm.Wx{O:Ht}{G n size:Nat}{c:List Value}:HE G O (jg [(G,some (jM.group [⟨G+1,0,(kH n c).length⟩])),(G+1,some (jM.cells (kH n c) ⟨false,some G,0,size⟩))] O):=
 (HE.set _ _ (e9 _)).trans (HE.set _ _ (e_ _)) (e9 _)
theorem nk{α:Type}{enc:α->List Value}{n:Nat}:∀(l:List α),(∀y∈l,(enc y).length=n)->(l.flatMap enc).length=l.length*n
 |[],_=>by simp
 |y::l,h=>by
  rw[List.flatMap_cons,List.length_append,nk l (fun z b=>h z (List.mem_cons_of_mem _ b)),h y (List.mem_cons_self ..),List.length_cons,Nat.succ_mul];omega
theorem Rm.ok{α:Type}{enc:α->List Value}{B n N l:Nat}{O:Ht}{G:Nat}{v:Value}{xs:List Value}{L:List α}(h:Rm B n N O G v l xs)(hl:l=N)(hx:xs=L.flatMap enc)(e:L.length=N)(he:∀x∈L,(enc x).length=n)(m:N<281474976710656):gx enc n O G ⟨v,L⟩:=by
 refine⟨he,?_,by show L.length<_;omega⟩
 cases h with
 |nil h=>exact .inl ⟨fP (show L.length=0 by omega),.inl rfl⟩
 |@room b _ gr _ rest h0 hb hg jB h1 D h3 h4 j hr hle=>
  subst hl
  have:rest=[]:=fP (by omega)
  subst this
  rw[List.append_nil,hx]at hb
  exact .inr ⟨b,l,_,by rw[e],h0,h1,hb,by show L.length<=l;omega,.inr rfl⟩
theorem gx.src{α:Type}{enc:α->List Value}{n:Nat}{O:Ht}{G:Nat}{s:SV α}{a:Option Addr}{k c:Nat}(h:gx enc n O G s)(j:s.v=.slice a k c):lL O.get (s.l.length*n) (.slice a k c)=some (s.l.flatMap enc):=by
 have hlen:=nk s.l h.1
 rcases h.2.1 with⟨h1,D⟩|⟨b,cap,m,h1,D,h3,h4,_⟩
 · rw[h1,List.length_nil,Nat.zero_mul]
   rcases D with D|⟨q,D⟩<;>(rw[j]at D;cases D;rfl)
 · rw[j]at h1;cases h1
   cases e:s.l.length*n with
   |zero=>rw[e]at hlen;rw[List.eq_nil_of_length_eq_zero hlen];rfl
   |succ q=>
    show(match O.get b with|some (.cells Z _)=>lH (q+1) (Z.drop 0)|_=>none)=_
    rw[h4]
    exact vI _ _ (by rw[List.drop_zero,hlen,e])
theorem w4:∀(l:List Nat) (i:Nat),(l.take i).sum<=l.sum
 |[],i=>by simp
 |x::l,0=>by simp
 |x::l,i+1=>by simpa using w4 l i
def Gk{α:Type}(enc:α->List Value)(n B:Nat)(O:Ht)(G:Nat)(J:SV α):Prop:=Sl B n O G J.v J.l.length (J.l.flatMap enc)/\(J.l=[]->J.v=.slice none 0 0)
theorem Sl.view{B n G l:Nat}{O:Ht}{v:Value}{xs:List Value}(h:Sl B n O G v l xs):(v=.slice none 0 0/\l=0/\xs=[])\/∃b m,v=.slice (some ⟨b,0,none⟩) l l/\O.get b=some (.cells xs m)/\b<G/\(m.mG=none\/m.unit=n):=by
 cases h with
 |nil=>exact .inl ⟨rfl,rfl,rfl⟩
 |plain hb hm h h0 hl=>exact .inr ⟨_,_,rfl,hb,h,.inl hm⟩
 |grown hb hg qL h h0 D h3 hl=>exact .inr ⟨_,_,rfl,hb,h,.inr rfl⟩
theorem Sl.same{B n G l:Nat}{O eZ:Ht}{v:Value}{xs:List Value}(h:Sl B n O G v l xs)(he:∀b,B<=b->eZ.get b=O.get b):Sl B n eZ G v l xs:=by
 cases h with
 |nil=>exact .nil
 |plain hb hm h h0 hl=>exact .plain ((he _ h0).trans hb) hm h h0 hl
 |grown hb hg qL h h0 D h3 hl=>exact .grown ((he _ h0).trans hb) ((he _ h3).trans hg) qL h h0 D h3 hl
section
variable {α:Type}{enc:α->List Value}{n B:Nat}{O eZ:Ht}{G e5:Nat}{J:SV α}
theorem Gk.nil:Gk enc n B O G ⟨.slice none 0 0,[]⟩:=⟨.nil,fun _=>rfl⟩
theorem Gk.mono(h:Gk enc n B O G J)(he:HE G O eZ)(hn:G<=e5):Gk enc n B eZ e5 J:=⟨h.1.mono he hn,h.2⟩
theorem Gk.same(h:Gk enc n B O G J)(he:∀b,B<=b->eZ.get b=O.get b):Gk enc n B eZ G J:=⟨h.1.same he,h.2⟩
theorem Gk.ok(h:Gk enc n B O G J)(he:∀x∈J.l,(enc x).length=n)(hs:J.l.length<281474976710656):gx enc n O G J:=by
 refine⟨he,?_,hs⟩
 rcases gu J.l.length with h0|h0
 · have:=List.eq_nil_of_length_eq_zero h0
   exact .inl ⟨this,.inl (h.2 this)⟩
 · rcases h.1.view with⟨_,h1,_⟩|⟨b,m,h1,D,h3,h4⟩
   · omega
   · exact .inr ⟨b,_,m,h1,h0,h3,D,e9 _,h4⟩
end
section
variable {e:Env}{fm:Fm}{I:Tm}{ds:List Deferred}{O:Ht}{G:Nat}{gS:List Nat}{Q:St->Prop}{all:List Oper}{d:Tmp}{ty:TypeId}{pos:String}{j0:Array Edge}
end
theorem nW{T:Ty}{O:Hp}{t:Tm}{a i:Nat}{ty:TypeId}{v w:Value}(h:j9 T O ty ((fV (.tmp a)).run t)=some v)(hw:(fV (.tmp i)).run t=w):mS T O t [.cell a ty,.tmp i]=some [v,w]:=by
 simp only[mS,h,hw]
end
end Sw
namespace Sw
noncomputable section
open Go Go.RowKit
def lY{α:Type}(enc:α->List Value)(n B gr:Nat)(O:Ht)(G:Nat)(J:SV α):Prop:=
 (J.l=[]/\J.v=.slice none 0 0)\/∃b ms,J.v=.slice (some ⟨b,0,none⟩) J.l.length J.l.length/\0<J.l.length/\O.get b=some (.cells (J.l.flatMap enc) ⟨false,some gr,0,n⟩)/\O.get gr=some (.group ms)/\(∀e∈ms,e.base+e.len<=(J.l.flatMap enc).length)
   /\b<G/\B<=b/\gr<G/\B<=gr
section
variable {α:Type}{enc:α->List Value}{n B gr:Nat}{O eZ:Ht}{G e5:Nat}{J:SV α}
theorem lY.nil:lY enc n B gr O G ⟨.slice none 0 0,[]⟩:=.inl ⟨rfl,rfl⟩
theorem lY.mono(h:lY enc n B gr O G J)(he:HE G O eZ)(hn:G<=e5:=by omega):lY enc n B gr eZ e5 J:=by
 rcases h with h|⟨b,ms,h1,D,h3,h4,e,j,m,o,p⟩
 · exact .inl h
 · exact .inr ⟨b,ms,h1,D,he.get h3 j,he.get h4 o,e,by omega,m,by omega,p⟩
theorem lY.other{g2:Nat}{E:Prop}(h:lY enc n B gr O G J)(hn:G<=e5)(he:∀c,c<G->(E->c≠g2)->eZ.get c=O.get c)(hg:∃ms,E->O.get g2=some (.group ms))(hd:J.l=[]\/¬E\/gr≠g2):lY enc n B gr eZ e5 J:=by
 rcases h with h|⟨b,ms,h1,D,h3,h4,j,m,o,p,u⟩
 · exact .inl h
 · have jB:J.l≠[]:=fun k=>by rw[k]at D;simp at D
   obtain⟨m2,hg⟩:=hg
   refine .inr ⟨b,ms,h1,D,(he b m fun k e=>?_).trans h3,(he gr p fun k e=>?_).trans h4,j,by omega,o,by omega,u⟩
   · rw[e,hg k]at h3;cases h3
   · rcases hd with hd|hd|hd
     · exact jB hd
     · exact hd k
     · exact hd e
theorem lY.group(h:lY enc n B gr O G J):∃ms,J.l≠[]->O.get gr=some (.group ms):=by
 rcases h with h|⟨b,ms,h1,D,h3,h4,_⟩
 · exact⟨[],fun k=>absurd h.1 k⟩
 · exact⟨ms,fun _=>h4⟩
theorem lY.ok(h:lY enc n B gr O G J)(he:∀x∈J.l,(enc x).length=n)(hs:J.l.length<281474976710656):gx enc n O G J:=by
 refine⟨he,?_,hs⟩
 rcases h with h|⟨b,ms,h1,D,h3,h4,j,e,_⟩
 · exact .inl ⟨h.1,.inl h.2⟩
 · exact .inr ⟨b,_,_,h1,D,e,h3,e9 _,.inr rfl⟩
theorem lY.append{T:Ty}{st el:Nat}{x z:Value}{inf:TypeInfo}(a:α)(h:lY enc n B gr O G J)(hlen:∀y∈J.l,(enc y).length=n)(hu:T.jh st=some (.slice el))(hs:T.size el=some n)(M:T.zero el=some z)(hi:T.kd el=some inf)
 (hx:pE T st x=some (1,false)) (C:lL O.get (1*n) x=some (enc a)) (E:uD n x=true) (R:(enc a).length=n) (A:(enc a).all one=true)
 (b1:(J.l.length+1)*inf.bytes<=70368744177664) (b2:inf.bytes<=1073741824) (L:J.l.length+1<=70368744177664) (F:B<=G):
 ∃v' jC k o,jN T O.get st st J.v x G=some (v',jC,k)/\lY enc n B o (jg jC O) (G+k) ⟨v',J.l++[a]⟩/\(∀c,c<G->(J.l≠[]->c≠gr)->(jg jC O).get c=O.get c)/\((J.l≠[]/\o=gr)\/G<=o):=by
 have u:Nat.ble (J.l.length+1) J.l.length=false:=by
  cases hb:Nat.ble (J.l.length+1) J.l.length with
  |false=>rfl
  |true=>have:=fa hb;omega
 have e1:∀a',jN T O.get st st (.slice a' J.l.length J.l.length) x G=pM O.get a' J.l.length n (enc a) 1 G:=fun a'=>by
  simp only[jN,hu,hs,M,hi,hx,lX,cond_false,E,cond_true,C,Option.bind_some,A,Nat.ble_eq_true_of_le b1,Nat.ble_eq_true_of_le b2,Nat.ble_eq_true_of_le L,Bool.and_true,u]
 have hl:=nk J.l hlen
 have j:(J.l++[a]).flatMap enc=J.l.flatMap enc++enc a:=by simp
 have m:(J.l++[a]).length=J.l.length+1:=by simp
 rcases h with⟨h1,D⟩|⟨b,ms,h1,D,hb,hg,qL,jA,N,h3,h4⟩
 · have h0:J.l.length=0:=by rw[h1];rfl
   have e2:=e1 none
   rw[h0]at e2
   rw[D]
   refine⟨_,_,_,G,e2,.inr ⟨G+1,_,by rw[m,h0],by rw[m];omega,?_,(Tr.gA _ _ (by omega)).trans (Tr.ia ..),fun e he=>?_,by omega,by omega,by omega,F⟩,fun c hc _=>?_,.inr (e9 _)⟩
   · rw[j,h1];exact Tr.ia ..
   · rw[List.mem_singleton.1 he,j,h1];simp
   · exact(Tr.gA _ _ (by omega)).trans (Tr.gA _ _ (by omega))
 · have p:∀e∈ms,beyond (0+0+J.l.length*n) e=false:=fun e he=>by
    have:=qL e he
    cases K:beyond (0+0+J.l.length*n) e with
    |false=>rfl
    |true=>
     unfold beyond at K
     have:=mE.1 K
     omega
   have f1:ms.filter (beyond (0+0+J.l.length*n))=[]:=by
    rw[List.filter_eq_nil_iff];intro e he;rw[p e he];simp
   have f2:(ms.filter fun e=>!(beyond (0+0+J.l.length*n) e))=ms:=by
    rw[List.filter_eq_self];intro e he;rw[p e he];rfl
   have e2:pM O.get (some ⟨b,0,none⟩) J.l.length n (enc a) 1 G=some (.slice (some ⟨G,0,none⟩) (J.l.length+1) (J.l.length+1),
    [(gr,some (jM.group (ms++[⟨G,0,(J.l.flatMap enc++enc a).length⟩]))),(G,some (jM.cells (J.l.flatMap enc++enc a) ⟨false,some gr,0,n⟩))],1):=by
    simp only[tw,hb,AS _ _ hl,Option.bind_some,hg,oe,f1,List.all_nil,Bool.not_false,Nat.beq_refl,Bool.and_true,cond_true,mZ,List.map_nil,List.nil_append,f2]
   have jB:J.l≠[]:=fun k=>by rw[k]at D;simp at D
   rw[h1]
   refine⟨_,_,_,gr,(e1 _).trans e2,.inr ⟨G,_,by rw[m],by rw[m];omega,?_,(Tr.gA _ _ (by omega)).trans (Tr.ia ..),fun e he=>?_,by omega,F,by omega,h4⟩,fun c hc hd=>?_,.inl ⟨jB,rfl⟩⟩
   · rw[j];exact Tr.ia ..
   · rw[j]
     rcases fI.1 he with he|he
     · have:=qL e he;rw[List.length_append];omega
     · rw[List.mem_singleton.1 he];simp
   · exact(Tr.gA _ _ (by omega)).trans (Tr.gA _ _ (hd jB))
end
section
variable {e:Env}{fm:Fm}{I:Tm}{ds:List Deferred}{O:Ht}{G:Nat}{gS:List Nat}{Q:St->Prop}{all:List Oper}{d:Tmp}{ty:TypeId}{pos:String}{j0:Array Edge}
theorem WC.MH{α:Type}{enc:α->List Value}{st el:TypeId}{x y:Operand}{B n gr:Nat}{z:Value}{inf:TypeInfo}{E:List Value}{b:Nat}{F:gi}{J:SV α}(a:α)(hl:e.low=0)(hx:(fV x).run I=J.v)(hy:(fV y).run I=.slice (some ⟨b,0,none⟩) 1 1)
 (h:lY enc n B gr O G J) (hlen:∀y∈J.l,(enc y).length=n) (hb:O.get b=some (.cells E F)) (C:E=enc a) (hu:e.T.jh st=some (.slice el)) (hs:e.T.size el=some n) (M:e.T.zero el=some z) (hi:e.T.kd el=some inf) (m:(enc a).length=n) (p:(enc a).all one=true) (b1:inf.bytes<=1024) (N:J.l.length<=1048576) (K:B<=G)
 {qV:Array TypeId} (L:qV=#[st,st]) (q:∀(J':SV α) eZ e5 j,J'.l=J.l++[a]->G<=e5->(∀c,c<G->(J.l≠[]->c≠gr)->eZ.get c=O.get c)->HE B O eZ->lY enc n B j eZ e5 J'->((J.l≠[]/\j=gr)\/G<=j)->Q ⟨I.set d J'.v,ds,eZ,e5,gS⟩):
 WC e fm (iJ all ⟨some d,.call {callee:=.builtin .append,args:=#[x,y],argTypes:=qV},ty,pos,j0,none⟩) ⟨I,ds,O,G,gS⟩ Q:=by
 subst L C
 have u:lL O.get (1*n) (.slice (some ⟨b,0,none⟩) 1 1)=some (enc a):=by
  rw[Nat.one_mul]
  cases n with
  |zero=>rw[List.eq_nil_of_length_eq_zero m];rfl
  |succ k=>
   show(match O.get b with|some (.cells Z _)=>lH (k+1) (Z.drop 0)|_=>none)=_
   rw[hb]
   exact vI _ _ (by rw[List.drop_zero,m])
 have o:pE e.T st (.slice (some ⟨b,0,none⟩) 1 1)=some (1,false):=by simp only[pE,hu]
 have A:(J.l.length+1)*inf.bytes<=70368744177664:=e8 (gR (show J.l.length+1<=1048577 by omega) b1) (by decide)
 obtain⟨v',jC,k,j,h1,D,h3,h4⟩:=h.append a hlen hu hs M hi o u rfl m p A (by omega) (by omega) K
 refine .Kq d (jN e.T O.get st st J.v (.slice (some ⟨b,0,none⟩) 1 1) G) hl (fun _ _ _=>?_) h1 (q ⟨v',J.l++[a]⟩ _ _ j rfl (by omega) h3 (fun c hc=>h3 c (by omega) fun hj=>?_) D h4)
 · rw[<-hx,<-hy];rfl
 · rcases h with h|⟨_,_,_,_,_,_,_,_,_,_,R⟩
   · exact absurd h.1 hj
   · omega
end
end
end Sw
namespace Sw
noncomputable section
open Go Go.RowKit
section
variable {fl:Bool}{e:Env}{fm:Fm}{I:Tm}{ds:List Deferred}{O:Ht}{G:Nat}{gS:List Nat}{Q:St->Prop}{all os:List Oper}{o:Oper}{i j:Nat}{w:Bool}{d:Tmp}{op:Op}{ty:TypeId}{pos:String}{j0:Array Edge}{l:List Cl}
theorem ov(d:Nat)(v:Value)(q:WO e fm (gW all os) ⟨I.set d v,ds,O,G,gS⟩ Q)(h:∀rec Z k,(iJ all o).run e rec fm I ds O G Z k=k ⟨I.set d v,ds,O,G,Z⟩:=by intros;kernel_rfl):WO e fm (gW all (o::os)) ⟨I,ds,O,G,gS⟩ Q:=.cons (.val d v h q)
theorem nv(d:Nat)(v:Value)(q:WN e fm l ⟨I.set d v,ds,O,G,gS⟩ Q)(h:∀rec Z k,(pN fl all i).run e rec fm I ds O G Z k=k ⟨I.set d v,ds,O,G,Z⟩:=by intros;kernel_rfl):WN e fm (pN fl all i::l) ⟨I,ds,O,G,gS⟩ Q:=.cons (.val d v h q)
theorem wG(t:Tmp)(b:Bool)(v x:Value)(hw:ni w x=b)(h1:b=true->WC e fm (iJ all ⟨some d,op,ty,pos,j0,none⟩) ⟨I,ds,O,G,gS⟩ fun s=>s=⟨I.set d v,ds,O,G,gS⟩)
 (q:WO e fm (gW all os) ⟨I.set d (bif b then v else undef),ds,O,G,gS⟩ Q) (hg:kA all j=some (fV (.tmp t)):=by rfl) (hx:(fV (.tmp t)).run I=x:=by kernel_rfl):WO e fm (gW all (⟨some d,op,ty,pos,j0,some (j,w)⟩::os)) ⟨I,ds,O,G,gS⟩ Q:=.cons (.gd b v x hg hx hw h1 q)
theorem og(t:Tmp)(b:Bool)(v x:Value)(hw:ni w x=b)(h1:b=true->∀rec Z k,(iJ all ⟨some d,op,ty,pos,j0,none⟩).run e rec fm I ds O G Z k=k ⟨I.set d v,ds,O,G,Z⟩)
 (q:WO e fm (gW all os) ⟨I.set d (bif b then v else undef),ds,O,G,gS⟩ Q) (hg:kA all j=some (fV (.tmp t)):=by rfl) (hx:(fV (.tmp t)).run I=x:=by kernel_rfl):WO e fm (gW all (⟨some d,op,ty,pos,j0,some (j,w)⟩::os)) ⟨I,ds,O,G,gS⟩ Q:=.cons (.gd b v x hg hx hw (fun hb=>.val d v (h1 hb) rfl) q)
theorem w5(hn:nD i all=some ⟨some d,op,ty,pos,j0,some (j,w)⟩)(t:Tmp)(b:Bool)(v x:Value)(hw:ni w x=b)(h1:b=true->WC e fm (iJ all ⟨some d,op,ty,pos,j0,none⟩) ⟨I,ds,O,G,gS⟩ fun s=>s=⟨I.set d v,ds,O,G,gS⟩)
 (q:WN e fm l ⟨I.set d (bif b then v else undef),ds,O,G,gS⟩ Q) (hg:kA all j=some (fV (.tmp t)):=by rfl) (hx:(fV (.tmp t)).run I=x:=by kernel_rfl) (m:(fl&&pK op)=false:=by rfl):WN e fm (pN fl all i::l) ⟨I,ds,O,G,gS⟩ Q:=.hQ hn (.gd b v x hg hx hw h1 q) m
theorem ng(hn:nD i all=some ⟨some d,op,ty,pos,j0,some (j,w)⟩)(t:Tmp)(b:Bool)(v x:Value)(hw:ni w x=b)(h1:b=true->∀rec Z k,(iJ all ⟨some d,op,ty,pos,j0,none⟩).run e rec fm I ds O G Z k=k ⟨I.set d v,ds,O,G,Z⟩)
 (q:WN e fm l ⟨I.set d (bif b then v else undef),ds,O,G,gS⟩ Q) (hg:kA all j=some (fV (.tmp t)):=by rfl) (hx:(fV (.tmp t)).run I=x:=by kernel_rfl) (m:(fl&&pK op)=false:=by rfl):WN e fm (pN fl all i::l) ⟨I,ds,O,G,gS⟩ Q:=.hQ hn (.gd b v x hg hx hw (fun hb=>.val d v (h1 hb) rfl) q) m
theorem cg{l:List tq}(hn:nD i all=some ⟨some d,op,ty,pos,j0,some (j,w)⟩)(t:Tmp)(b:Bool)(v x:Value)(hw:ni w x=b)(h1:b=true->∀k,(xg fl ⟨some d,op,ty,pos,j0,none⟩).run e.T O G I k=k)(hl:iX e l ⟨I,ds,O,G,gS⟩)
 (hg:kA all j=some (fV (.tmp t)):=by rfl) (hx:(fV (.tmp t)).run I=x:=by kernel_rfl) (hd:I.get d=(bif b then v else undef):=by kernel_rfl):iX e (vo fl all i::l) ⟨I,ds,O,G,gS⟩:=.cons (XT b v x hn hg hx hw hd h1) hl
theorem cv{c:tq}{l:List tq}(v:Value)(b:lg 8 v v=true)(hl:iX e l ⟨I,ds,O,G,gS⟩)(h:∀k,c.run e.T O G I k=bif lg 8 v v then k else .gk 0:=by intros;kernel_rfl):iX e (c::l) ⟨I,ds,O,G,gS⟩:=.val v h b hl
theorem co{c:tq}{l:List tq}(v:Value)(x:Option Value)(b:x=some v)(j:lg 8 v v=true)(hl:iX e l ⟨I,ds,O,G,gS⟩)(h:∀k,c.run e.T O G I k=kI x (fun y=>bif lg 8 y v then k else .gk 0):=by intros;kernel_rfl):iX e (c::l) ⟨I,ds,O,G,gS⟩:=.me v x h b j hl
theorem sr{id:Nat}{ops:Array Oper}{b:Code}{s:St}{W:Nat->St->Prop}(h:WO e fm (gW ops.toList ops.toList) s fun s1=>WP e fm b s1 W):WP e fm (.seq (.region id ops false) b) s W:=.seq (.region h)
end
theorem nb{b:Bool}{P:Prop}(h:b=true↔P):∃c:Bool,c=b/\(c=true↔P):=⟨b,rfl,h⟩
theorem nq{c:Bool}{P:Prop}(p:c=true↔P)(h:c=false):¬P:=fun k=>by rw[p.2 k]at h;cases h
theorem nf{P:Prop}(p:false=true↔P):¬P:=fun k=>absurd (p.2 k) (by decide)
theorem zl{i n:Nat}(h:i<n):0<n:=Nat.lt_of_le_of_lt (gG i) h
theorem bF{a:Bool}(h:(!a)=true):a=false:=by simpa using h
theorem sM{a b:Bool}(h:(!a&&b)=true):a=false/\b=true:=by simpa using h
theorem yl{a b:Bool}(h:(a&&!b)=true):a=true/\b=false:=by simpa using h
end
end Sw
namespace Sw
noncomputable section
open Go Go.RowKit
theorem GC.off{b:Bool}{k:Int}{P:Prop}{G:Nat}{O:Ht}(h:b=false)(hk:k≠0:=by decide):GC b k P G O undef O G:=by
 refine⟨?_,e9 _,HE.refl _ _⟩
 by_cases j:P
 · exact⟨0,by rw[h];rfl,⟨fun _=>j,fun _=>rfl⟩,.inl rfl⟩
 · exact⟨k,by rw[h];rfl,⟨fun e=>absurd e hk,fun e=>absurd e j⟩,.inr rfl⟩
end
end Sw
namespace Sw
noncomputable section
open Go Go.RowKit
theorem Uc(l:Nat):Nat.ble 0 l=true:=by cases l<;>rfl
def WV(e:Env)(fv:Value)(l:List Value)(O:Ht)(G:Nat)(Q:Value->Ht->Nat->Prop):Prop:=
 ∃v eZ e5,(∃b,∀n,b<=n->∀Z k,BK e (ev e n) fv l O G Z k=k v eZ e5 Z)/\Q v eZ e5
section
variable {e:Env}{fm:Fm}{O:Ht}{G:Nat}{A B:Value->Ht->Nat->Prop}
theorem WV.mono{fv:Value}{l:List Value}(h:WV e fv l O G A)(k:∀v O G,A v O G->B v O G):WV e fv l O G B:=by
 obtain⟨v,eZ,e5,h1,D⟩:=h;exact⟨v,eZ,e5,h1,k _ _ _ D⟩
theorem WV.func{f:FuncId}{a b:Array Value}{l:List Value}(h:WF e f (a.toList++l++b.toList) O G A):WV e (.func (.func f) a b) l O G A:=by
 obtain⟨v,eZ,e5,⟨j,h1⟩,D⟩:=h
 exact⟨v,eZ,e5,⟨j,fun n hn Z k=>h1 n hn Z k⟩,D⟩
theorem WV.yield{l:Nat}{r:_}{a b:Array Value}{oz:List Value}{t:Tm}(hl:O.get l=some (.loop r))(h0:e.low=0)(J:vD r.params oz r.tmps=some t)
 (h:WP e ⟨r.fn,r.nt,some l⟩ r.assign ⟨t,[],O,G,[]⟩ fun o s1=>Nat.beq o 0=true/\∃r1,s1.O.get l=some (.loop r1)/\r1.state=.ready/\
   WP e ⟨r.fn,r.nt,some l⟩ r.body ⟨s1.I,s1.ds,s1.O.set l (some (.loop {r1 with state:=.busy})),s1.G,[]⟩ fun o2 s2=>s2.ds=[]/\∃r2,s2.O.get l=some (.loop r2)/\
    A (.bool (Nat.beq o2 0)) (s2.O.set l (some (.loop {r2 with state:=(bif Nat.beq o2 0 then .ready else .done),pending:=wY o2}))) s2.G):WV e (.func (.yield l) a b) oz O G A:=by
 obtain⟨o,⟨B,j,y,z,c1⟩,⟨M,h1⟩,F,r1,p,C,o2,⟨E,N,jq,oT,c2⟩,⟨n2,D⟩,m,r2,u,q⟩:=h
 simp only at p m u q
 subst m
 refine⟨_,_,_,⟨max M n2,fun n hn Z k=>?_⟩,q⟩
 have K:ev e n ⟨r.fn,r.nt,some l⟩ r.assign ⟨t,[],O,G,Z⟩=.ok (o,⟨B,j,y,z,Z⟩):=h1 n (by omega) Z
 have L:ev e n ⟨r.fn,r.nt,some l⟩ r.body ⟨B,j,y.set l (some (.loop {r1 with state:=.busy})),z,Z⟩=.ok (o2,⟨E,[],jq,oT,Z⟩):=D n (by omega) Z
 show qg e (ev e n) l oz O G Z k=_
 simp only[qg,hl,h0,Uc,cond_true,J,K,F,p,C,L,u]
end
section
variable {e:Env}{fm:Fm}{I:Tm}{ds:List Deferred}{O:Ht}{G:Nat}{gS:List Nat}{Q:St->Prop}
theorem WC.Qz{c:Cl}(d:Nat)(fv:Value)(l:List Value)(h:∀rec Z k,c.run e rec fm I ds O G Z k=BK e rec fv l O G Z (fun v O G Z=>k ⟨I.set d v,ds,O,G,Z⟩))
 (hf:WV e fv l O G fun v O G=>Q ⟨I.set d v,ds,O,G,gS⟩):WC e fm c ⟨I,ds,O,G,gS⟩ Q:=by
 obtain⟨v,eZ,e5,⟨b,h1⟩,q⟩:=hf
 exact⟨⟨I.set d v,ds,eZ,e5,gS⟩,⟨b,fun n hn Z k=>by show c.run e (ev e n) fm I ds O G Z k=_;rw[h (ev e n) Z k,h1 n hn];rfl⟩,q⟩
theorem WP.rangeFunc{fn:FuncId}{nt:Nat}{f:Operand}{params:Array Tmp}{assign body:Code}{W:Nat->St->Prop}
 (h:WV e ((fV f).run I) [.func (.yield (G+1)) #[] #[]] ((O.set G (some (.deferred (some [])))).set (G+1) (some (.loop ⟨.ready,none,fn,I,nt,params.toList,assign,body,G⟩))) (G+1+1)
   fun _ eZ e5=>∃r o,eZ.get (G+1)=some (.loop r)/\r.state≠.busy/\Av r.pending=some o/\W o ⟨I,⟨.collected G,#[]⟩::ds,eZ.set (G+1) (some (.loop {r with state:=.exhausted})),e5,gS⟩):
 WP e ⟨fn,nt,none⟩ (.rangeFunc f params assign body) ⟨I,ds,O,G,gS⟩ W:=by
 obtain⟨v,eZ,e5,⟨m,h1⟩,r,o,hl,hs,j,q⟩:=h
 refine⟨o,_,.step ⟨m,fun n hn Z=>?_⟩,q⟩
 show vp (.rangeFunc f params assign body) e (ev e n) ⟨fn,nt,none⟩ ⟨I,ds,O,G,Z⟩=_
 have:vp (.rangeFunc f params assign body) e (ev e n) ⟨fn,nt,none⟩ ⟨I,ds,O,G,Z⟩=BK e (ev e n) ((fV f).run I) [.func (.yield (G+1)) #[] #[]] ((O.set G (some (.deferred (some [])))).set (G+1) (some (.loop ⟨.ready,none,fn,I,nt,params.toList,assign,body,G⟩))) (G+1+1) Z (fun _ O e5 Z=>match O.get (G+1)with
  |some (.loop r)=>(match r.state with
   |.busy=>.gk 0
   |_=>(match Av r.pending with
    |some o=>.ok (o,⟨I,[⟨.collected G,#[]⟩]++ds,O.set (G+1) (some (.loop {r with state:=.exhausted})),e5,Z⟩)
    |none=>.gk 0))
  |_=>.gk 0):=rfl
 rw[this,h1 n hn]
 simp only[hl,j]
 cases b:r.state<;>first|rfl|exact absurd b hs
theorem WF.Y4{f:FuncId}{fi:wj}{l:List Value}{t:Tm}{R:Value->Ht->Nat->Prop}(hk:e.K f=none)(hf:e.F f=some fi)(hl:Nat.ble l.length fi.nt=true)(p:qC zj l Tm.undef=some t)(h0:e.low=0)
 (hb:WP e ⟨f,fi.nt,none⟩ fi.body ⟨t,[],O,G,[]⟩ fun o b=>Nat.ble o 1=true/\∃r,b.ds=[⟨.collected r,#[]⟩]/\b.O.get r=some (.deferred (some []))/\∃vs,mS e.T (b.O.set r (some (.deferred none))).get b.I fi.ud=some vs/\R (qE vs) (b.O.set r (some (.deferred none))) b.G):WF e f l O G R:=by
 obtain⟨o,⟨j,y,eZ,e5,z⟩,⟨u,hb⟩,m,r,hd,hr,vs,hg,q⟩:=hb
 simp only at hd hr hg q
 subst hd
 refine⟨_,_,_,⟨u,fun n hn Z k=>?_⟩,q⟩
 have hb:ev e n ⟨f,fi.nt,none⟩ fi.body ⟨t,[],O,G,Z⟩=.ok (o,⟨j,[⟨.collected r,#[]⟩],eZ,e5,Z⟩):=hb n hn Z
 simp only[nh,hk,ue,hf,sI,hl,cond_true,p,hb,m,lK,hr,h0,Uc,yQ,hg]
end
end
end Sw
namespace Sw
noncomputable section
open Go Go.RowKit
theorem uT:∀(e vs:ub) (h:Ht),jg (e++vs) h=jg vs (jg e h)
 |[],_,_=>rfl
 |(b,o)::e,vs,h=>uT e vs (h.set b o)
theorem Bl{c:Nat}:∀(l:List Mem) (h:Ht),(∀e∈l,e.fW≠c)->(jg (l.map fun e=>(e.fW,none)) h).get c=h.get c
 |[],_,_=>rfl
 |e::l,h,k=>by
  show(jg (l.map fun e=>(e.fW,none)) (h.set e.fW none)).get c=_
  rw[Bl l _ fun x hx=>k x (List.mem_cons_of_mem _ hx)]
  exact Tr.gA _ _ (k e (fh ..)).symm
theorem Dz{c:Nat}:∀(l:List Mem) (h:Ht),(jg (l.map fun e=>(e.fW,none)) h).get c=none\/(jg (l.map fun e=>(e.fW,none)) h).get c=h.get c
 |[],_=>.inr rfl
 |e::l,h=>by
  show(jg (l.map fun e=>(e.fW,none)) (h.set e.fW none)).get c=none\/(jg (l.map fun e=>(e.fW,none)) (h.set e.fW none)).get c=h.get c
  rcases Dz (c:=c) l (h.set e.fW none)with k|k
  · exact .inl k
  · by_cases hc:c=e.fW
    · subst hc;exact .inl (k.trans (Tr.ia ..))
    · exact .inr (k.trans (Tr.gA _ _ hc))
theorem DA{α:Type}:∀(j e r:List α),j.length=e.length->v8 (j++r) e=some (e++r)
 |[],[],r,_=>by cases r<;>rfl
 |a::j,b::e,r,h=>by
  show(v8 (j++r) e).map (b::·)=_
  rw[DA j e r (by simpa using h)];rfl
 |[],_::_,_,h=>by simp at h
 |_::_,[],_,h=>by simp at h
theorem Gl{α:Type}:∀(b r v:List α) (k:Nat),mD (b++r) (b.length+k) v=(mD r k v).map (b++·)
 |[],r,v,k=>by
  simp only[List.nil_append,List.length_nil,Nat.zero_add]
  cases mD r k v<;>rfl
 |a::b,r,v,k=>by
  have:(a::b).length+k=(b.length+k)+1:=by simp;omega
  rw[this]
  show(mD (b++r) (b.length+k) v).map (a::·)=_
  rw[Gl b r v k]
  cases mD r k v<;>rfl
theorem Gn{α:Type}(l v:List α):mD l 0 v=v8 l v:=by cases l<;>rfl
theorem Gp{α:Type}{enc:α->List Value}{n:Nat}(y:α)(hy:(enc y).length=n):∀(L:List α) (j:Nat),(∀x∈L,(enc x).length=n)->j<L.length->mD (L.flatMap enc) (j*n) (enc y)=some ((L.set j y).flatMap enc)
 |[],_,_,h=>by simp at h
 |x::L,0,hl,_=>by
  rw[Nat.zero_mul,Gn]
  show v8 (enc x++L.flatMap enc) (enc y)=some (enc y++L.flatMap enc)
  exact DA _ _ _ ((hl x (fh ..)).trans hy.symm)
 |x::L,j+1,hl,h=>by
  have hx:=hl x (fh ..)
  have:(j+1)*n=(enc x).length+j*n:=by rw[hx,Nat.succ_mul];omega
  rw[this]
  show mD (enc x++L.flatMap enc) _ _=some (enc x++(L.set j y).flatMap enc)
  rw[Gl,Gp y hy L j (fun z b=>hl z (List.mem_cons_of_mem _ b)) (by simpa using h)]
  rfl
def tW{α:Type}(enc:α->List Value)(n B b gr:Nat)(O:Ht)(G:Nat)(L:List α):Prop:=
 O.get b=some (.cells (L.flatMap enc) ⟨false,some gr,0,n⟩)/\(∃ms,O.get gr=some (.group ms)/\∀e∈ms,e.base+e.len<=(L.flatMap enc).length/\B<=e.fW/\e.fW<G/\e.fW≠gr/\∀l,O.get e.fW≠some (.group l))/\b<G/\B<=b/\gr<G/\B<=gr
section
variable {α:Type}{enc:α->List Value}{n B b gr:Nat}{O eZ:Ht}{G e5:Nat}{L:List α}{J:SV α}
theorem tW.mono(h:tW enc n B b gr O G L)(he:HE G O eZ)(hn:G<=e5:=by omega):tW enc n B b gr eZ e5 L:=by
 obtain⟨h1,⟨ms,D,h3⟩,h4,j,m,o⟩:=h
 refine⟨he.get h1 h4,⟨ms,he.get D m,fun e hm=>?_⟩,by omega,j,by omega,o⟩
 obtain⟨p,u,y,z,A⟩:=h3 e hm
 exact⟨p,u,by omega,z,fun l hl=>A l (by rw[<-he e.fW y];exact hl)⟩
theorem tW.ok{c:Nat}(h:tW enc n B b gr O G L)(hl:∀x∈L,(enc x).length=n)(h0:0<c)(hs:L.length<281474976710656)(hc:L.length<=c:=by omega):gx enc n O G ⟨.slice (some ⟨b,0,none⟩) L.length c,L⟩:=
 ⟨hl,.inr ⟨b,c,_,rfl,h0,h.2.2.1,h.1,hc,.inr rfl⟩,hs⟩
theorem tW.store{T:Ty}{t:TypeId}{v:Value}{j:Nat}(y:α)(h:tW enc n B b gr O G L)(hl:∀x∈L,(enc x).length=n)(hj:j<L.length)(hs:T.size t=some n)(R:v.cells.toList=enc y)(hy:(enc y).length=n)(o:(enc y).all one=true):
 ∃jC,wV T O.get t (.pointer (some ⟨b,0+j*n,none⟩)) v=some jC/\tW enc n B b gr (jg jC O) G (L.set j y)/\HE B O (jg jC O):=by
 obtain⟨h1,⟨ms,D,h3⟩,h4,K,M,N⟩:=h
 have p:b≠gr:=fun e=>by rw[e,D]at h1;cases h1
 let ov:=overlaps b (0+(0+j*n)) (0+(0+j*n)+(enc y).length)
 have C:oe O.get ov ms=true:=fE.2 fun e he=>by
  have:=(h3 e (f_.1 he).1).2.2.2.2
  split
  · rename_i l k;exact absurd k (this l)
  · rfl
 have E:mD (L.flatMap enc) (0+j*n) (enc y)=some ((L.set j y).flatMap enc):=by rw[Nat.zero_add];exact Gp y hy L j hl hj
 have ab:∀e∈ms.filter ov,e.fW≠b:=fun e he k=>by
  have:=(f_.1 he).2
  simp only[ov,overlaps,k,Nat.beq_refl,Bool.not_true,Bool.false_and]at this
  cases this
 have ac:∀e∈ms.filter ov,e.fW≠gr:=fun e he=>(h3 e (f_.1 he).1).2.2.2.1
 have F:wV T O.get t (.pointer (some ⟨b,0+j*n,none⟩)) v=some (mZ ov ms++[(gr,some (.group (ms.filter fun e=>!(ov e)))),(b,some (.cells ((L.set j y).flatMap enc) ⟨false,some gr,0,n⟩))]):=by
  have u:(Nat.beq (enc y).length n&&(enc y).all one)=true:=by rw[hy,Nat.beq_refl,o];rfl
  simp only[wV,h1,hs,R,u,cond_true,oh,cond_false,E,Option.bind_some,D]
  show(bif oe O.get ov ms then _ else none)=_
  rw[C];rfl
 refine⟨_,F,?_,?_⟩
 · rw[uT]
   have e0:∀c,c≠b->c≠gr->(jg [(gr,some (jM.group (ms.filter fun e=>!(ov e)))),(b,some (.cells ((L.set j y).flatMap enc) ⟨false,some gr,0,n⟩))] (jg (mZ ov ms) O)).get c=(jg (mZ ov ms) O).get c:=fun c c1 c2=>(Tr.gA _ _ c1).trans (Tr.gA _ _ c2)
   have z:((L.set j y).flatMap enc).length=(L.flatMap enc).length:=by
    have A:∀x∈L.set j y,(enc x).length=n:=fun x hx=>by
     rcases List.mem_or_eq_of_mem_set hx with k|k
     · exact hl x k
     · exact k▸hy
    rw[nk L hl,nk (L.set j y) A,List.length_set]
   refine⟨Tr.ia ..,⟨ms.filter fun e=>!(ov e),(Tr.gA _ _ p.symm).trans (Tr.ia ..),fun e he=>?_⟩,h4,K,M,N⟩
   obtain⟨S,W,X,J,aa⟩:=h3 e (f_.1 he).1
   refine⟨by rw[z];exact S,W,X,J,fun l m=>?_⟩
   by_cases hb:e.fW=b
   · rw[hb]at m
     have:some (jM.group l)=some (jM.cells ((L.set j y).flatMap enc) (⟨false,some gr,0,n⟩:gi)):=m.symm.trans (Tr.ia ..)
     cases this
   · rw[e0 e.fW hb J]at m
     rcases Dz (c:=e.fW) (ms.filter ov) O with q|q
     · have:=q.symm.trans m;cases this
     · exact aa l (q.symm.trans m)
 · intro c hc
   rw[uT]
   refine(Tr.gA _ _ (by omega)).trans ((Tr.gA _ _ (by omega)).trans ?_)
   exact Bl (ms.filter ov) O fun e he=>by have:=(h3 e (f_.1 he).1).2.1;omega
def mq(enc:α->List Value)(n B:Nat)(O:Ht)(G:Nat)(J:SV α):Prop:=
 (J.l=[]/\J.v=.slice none 0 0)\/(0<J.l.length/\∃b gr,J.v=.slice (some ⟨b,0,none⟩) J.l.length J.l.length/\tW enc n B b gr O G J.l)
theorem mq.nil:mq enc n B O G ⟨.slice none 0 0,[]⟩:=.inl ⟨rfl,rfl⟩
theorem mq.mono(h:mq enc n B O G J)(he:HE G O eZ)(hn:G<=e5:=by omega):mq enc n B eZ e5 J:=by
 rcases h with h|⟨h0,b,gr,h1,D⟩
 · exact .inl h
 · exact .inr ⟨h0,b,gr,h1,D.mono he hn⟩
theorem mq.ok(h:mq enc n B O G J)(he:∀x∈J.l,(enc x).length=n)(hs:J.l.length<281474976710656):gx enc n O G J:=by
 refine⟨he,?_,hs⟩
 rcases h with h|⟨h0,b,gr,h1,D⟩
 · exact .inl ⟨h.1,.inl h.2⟩
 · exact .inr ⟨b,_,_,h1,h0,D.2.2.1,D.1,e9 _,.inr rfl⟩
theorem mq.append{T:Ty}{st el:Nat}{x z:Value}{inf:TypeInfo}(a:α)(h:mq enc n B O G J)(hlen:∀y∈J.l,(enc y).length=n)(hu:T.jh st=some (.slice el))(hs:T.size el=some n)(N:T.zero el=some z)(hi:T.kd el=some inf)
 (hx:pE T st x=some (1,false)) (E:lL O.get (1*n) x=some (enc a)) (F:uD n x=true) (X:(enc a).length=n) (C:(enc a).all one=true)
 (b1:(J.l.length+1)*inf.bytes<=70368744177664) (b2:inf.bytes<=1073741824) (M:J.l.length+1<=70368744177664) (u:B<=G):
 ∃v' jC k,jN T O.get st st J.v x G=some (v',jC,k)/\mq enc n B (jg jC O) (G+k) ⟨v',J.l++[a]⟩/\HE B O (jg jC O):=by
 have A:Nat.ble (J.l.length+1) J.l.length=false:=by
  cases hb:Nat.ble (J.l.length+1) J.l.length with
  |false=>rfl
  |true=>have:=fa hb;omega
 have e1:∀a',jN T O.get st st (.slice a' J.l.length J.l.length) x G=pM O.get a' J.l.length n (enc a) 1 G:=fun a'=>by
  simp only[jN,hu,hs,N,hi,hx,lX,cond_false,F,cond_true,E,Option.bind_some,C,Nat.ble_eq_true_of_le b1,Nat.ble_eq_true_of_le b2,Nat.ble_eq_true_of_le M,Bool.and_true,A]
 have hl:=nk J.l hlen
 have j:(J.l++[a]).flatMap enc=J.l.flatMap enc++enc a:=by simp
 have o:(J.l++[a]).length=J.l.length+1:=by simp
 rcases h with⟨h1,D⟩|⟨D,b,gr,h1,hb,⟨ms,hg,qL⟩,jA,W,h3,h4⟩
 · have h0:J.l.length=0:=by rw[h1];rfl
   have e2:=e1 none
   rw[h0]at e2
   rw[D]
   refine⟨_,_,_,e2,.inr ⟨by rw[o];omega,G+1,G,by rw[o,h0],?_,⟨[⟨G+1,0,_⟩],(Tr.gA _ _ (by omega)).trans (Tr.ia ..),fun e he=>?_⟩,by omega,by omega,by omega,u⟩,fun c hc=>?_⟩
   · rw[j,h1];exact Tr.ia ..
   · rw[List.mem_singleton.1 he,j,h1]
     refine⟨by simp,by show B<=G+1;omega,by show G+1<_;omega,by show G+1≠G;omega,fun l m=>?_⟩
     have:=m.symm.trans (Tr.ia ..)
     cases this
   · exact(Tr.gA _ _ (by omega)).trans (Tr.gA _ _ (by omega))
 · have p:∀e∈ms,beyond (0+0+J.l.length*n) e=false:=fun e he=>by
    have:=(qL e he).1
    cases K:beyond (0+0+J.l.length*n) e with
    |false=>rfl
    |true=>
     unfold beyond at K
     have:=mE.1 K
     omega
   have f1:ms.filter (beyond (0+0+J.l.length*n))=[]:=by
    rw[List.filter_eq_nil_iff];intro e he;rw[p e he];simp
   have f2:(ms.filter fun e=>!(beyond (0+0+J.l.length*n) e))=ms:=by
    rw[List.filter_eq_self];intro e he;rw[p e he];rfl
   have e2:pM O.get (some ⟨b,0,none⟩) J.l.length n (enc a) 1 G=some (.slice (some ⟨G,0,none⟩) (J.l.length+1) (J.l.length+1),
    [(gr,some (jM.group (ms++[⟨G,0,(J.l.flatMap enc++enc a).length⟩]))),(G,some (jM.cells (J.l.flatMap enc++enc a) ⟨false,some gr,0,n⟩))],1):=by
    simp only[tw,hb,AS _ _ hl,Option.bind_some,hg,oe,f1,List.all_nil,Bool.not_false,Nat.beq_refl,Bool.and_true,cond_true,mZ,List.map_nil,List.nil_append,f2]
   rw[h1]
   refine⟨_,_,_,(e1 _).trans e2,.inr ⟨by rw[o];omega,G,gr,by rw[o],?_,⟨_,(Tr.gA _ _ (by omega)).trans (Tr.ia ..),fun e he=>?_⟩,by omega,u,by omega,h4⟩,fun c hc=>(Tr.gA _ _ (by omega)).trans (Tr.gA _ _ (by omega))⟩
   · rw[j];exact Tr.ia ..
   · rcases List.mem_append.1 he with he|he
     · obtain⟨aa,R,ab,L,S⟩:=qL e he
       refine⟨by rw[j,List.length_append];omega,R,by omega,L,fun l m=>S l ?_⟩
       have:(jg [(gr,some (jM.group (ms++[⟨G,0,(J.l.flatMap enc++enc a).length⟩]))),(G,some (jM.cells (J.l.flatMap enc++enc a) ⟨false,some gr,0,n⟩))] O).get e.fW=O.get e.fW:=(Tr.gA _ _ (by omega)).trans (Tr.gA _ _ L)
       exact this.symm.trans m
     · rw[List.mem_singleton.1 he]
       refine⟨by rw[j];simp,u,by show G<_;omega,by show G≠gr;omega,fun l m=>?_⟩
       have:=m.symm.trans (Tr.ia ..)
       cases this
end
section
variable {e:Env}{fm:Fm}{I:Tm}{ds:List Deferred}{O:Ht}{G:Nat}{gS:List Nat}{Q:St->Prop}{all:List Oper}{d:Tmp}{ty:TypeId}{pos:String}{j0:Array Edge}
theorem WC.CO{α:Type}{enc:α->List Value}{st el:TypeId}{x y:Operand}{B n:Nat}{z:Value}{inf:TypeInfo}{C:List Value}{b:Nat}{E:gi}{J:SV α}(a:α)(hl:e.low=0)(hx:(fV x).run I=J.v)(hy:(fV y).run I=.slice (some ⟨b,0,none⟩) 1 1)
 (h:mq enc n B O G J) (hlen:∀y∈J.l,(enc y).length=n) (hb:O.get b=some (.cells C E)) (A:C=enc a) (hu:e.T.jh st=some (.slice el)) (hs:e.T.size el=some n) (L:e.T.zero el=some z) (hi:e.T.kd el=some inf) (j:(enc a).length=n) (o:(enc a).all one=true) (b1:inf.bytes<=1024) (M:J.l.length<=1048576) (F:B<=G)
 {qV:Array TypeId} (K:qV=#[st,st]) (q:∀(J':SV α) eZ e5,J'.l=J.l++[a]->G<=e5->HE B O eZ->mq enc n B eZ e5 J'->Q ⟨I.set d J'.v,ds,eZ,e5,gS⟩):
 WC e fm (iJ all ⟨some d,.call {callee:=.builtin .append,args:=#[x,y],argTypes:=qV},ty,pos,j0,none⟩) ⟨I,ds,O,G,gS⟩ Q:=by
 subst K A
 have p:lL O.get (1*n) (.slice (some ⟨b,0,none⟩) 1 1)=some (enc a):=by
  rw[Nat.one_mul]
  cases n with
  |zero=>rw[List.eq_nil_of_length_eq_zero j];rfl
  |succ k=>
   show(match O.get b with|some (.cells Z _)=>lH (k+1) (Z.drop 0)|_=>none)=_
   rw[hb]
   exact vI _ _ (by rw[List.drop_zero,j])
 have m:pE e.T st (.slice (some ⟨b,0,none⟩) 1 1)=some (1,false):=by simp only[pE,hu]
 have u:(J.l.length+1)*inf.bytes<=70368744177664:=e8 (gR (show J.l.length+1<=1048577 by omega) b1) (by decide)
 obtain⟨v',jC,k,h1,D,h3⟩:=h.append a hlen hu hs L hi m p rfl j o u (by omega) (by omega) F
 refine .Kq d (jN e.T O.get st st J.v (.slice (some ⟨b,0,none⟩) 1 1) G) hl (fun _ _ _=>?_) h1 (q ⟨v',J.l++[a]⟩ _ _ rfl (by omega) h3 D)
 rw[<-hx,<-hy];rfl
theorem WC.XU{α:Type}{enc:α->List Value}{t:TypeId}{a v:Operand}{n B b gr j:Nat}{L:List α}(val:Value)(y:α)(hl:e.low=0)(p:(fV a).run I=.pointer (some ⟨b,0+j*n,none⟩))(u:(fV v).run I=val)(h:tW enc n B b gr O G L)(hlen:∀x∈L,(enc x).length=n)(hj:j<L.length)
 (hs:e.T.size t=some n) (o:val.cells.toList=enc y) (hy:(enc y).length=n) (m:(enc y).all one=true) (q:∀eZ,tW enc n B b gr eZ G (L.set j y)->HE B O eZ->Q ⟨I,ds,eZ,G,gS⟩):
 WC e fm (iJ all ⟨none,.store t a v,ty,pos,j0,none⟩) ⟨I,ds,O,G,gS⟩ Q:=by
 subst u
 obtain⟨jC,h1,D,h3⟩:=h.store (T:=e.T) (t:=t) y hlen hj hs o hy m
 refine .Ub jC hl (fun rec Z k=>?_) (q _ D h3)
 have:(iJ all ⟨none,.store t a v,ty,pos,j0,none⟩).run e rec fm I ds O G Z k=yO (wV e.T O.get t ((fV a).run I) ((fV v).run I)) (tK (fun t _=>t) e.low I ds O G Z k):=rfl
 rw[this,p,h1];rfl
end
end
end Sw
namespace Sw
noncomputable section
open Go Go.RowKit
section
variable {e:Env}{fm:Fm}{I:Tm}{ds:List Deferred}{O:Ht}{G:Nat}{gS:List Nat}{Q:St->Prop}{all:List Oper}{j:Nat}{w:Bool}{d:Tmp}{op:Op}{ty:TypeId}{pos:String}{j0:Array Edge}
theorem WC.DB{g:Od}{x:Value}(hg:kA all j=some g)(hx:g.run I=x)(hw:ni w x=false)(q:Q ⟨I.set d undef,ds,O,G,gS⟩):WC e fm (iJ all ⟨some d,op,ty,pos,j0,some (j,w)⟩) ⟨I,ds,O,G,gS⟩ Q:=
 .gq false (fun v eZ e5=>v=undef/\eZ=O/\e5=G) x hg hx hw (fun h=>by cases h) (fun _=>⟨rfl,rfl,rfl⟩) (fun v eZ e5 ⟨h1,D,h3⟩=>by subst h1 D h3;exact q)
theorem tW.Bm{α:Type}{enc:α->List Value}{n B b gr N c:Nat}{L:List α}(h:tW enc n B b gr O G L)(hl:∀x∈L,(enc x).length=n)(e:L.length=N)(h0:0<c)(hs:N<281474976710656)(hc:N<=c:=by omega):gx enc n O G ⟨.slice (some ⟨b,0,none⟩) N c,L⟩:=by
 subst e;exact h.ok hl h0 hs hc
end
def z7:Value->Prop:=fun v=>∃z:Int,v=.int .i64 z
def GZ(b:Bool)(G:Nat)(O:Ht):Value->Ht->Nat->Prop:=fun v eZ e5=>(∃z:Int,v=(bif b then .int .i64 z else undef))/\G<=e5/\HE G O eZ
theorem GZ.off{b:Bool}{G:Nat}{O:Ht}(h:b=false):GZ b G O undef O G:=⟨⟨0,by rw[h];rfl⟩,e9 _,HE.refl _ _⟩
end
end Sw
namespace Sw
noncomputable section
open Go Go.RowKit
theorem WP.XV{e:Env}{I:Tm}{ds:List Deferred}{O:Ht}{G:Nat}{gS:List Nat}{fn:FuncId}{nt:Nat}{f:Operand}{params:Array Tmp}{assign body:Code}{W:Nat->St->Prop}(fv:Value)(hf:(fV f).run I=fv)
 (h:WV e fv [.func (.yield (G+1)) #[] #[]] ((O.set G (some (.deferred (some [])))).set (G+1) (some (.loop ⟨.ready,none,fn,I,nt,params.toList,assign,body,G⟩))) (G+1+1)
   fun _ eZ e5=>∃r o,eZ.get (G+1)=some (.loop r)/\r.state≠.busy/\Av r.pending=some o/\W o ⟨I,⟨.collected G,#[]⟩::ds,eZ.set (G+1) (some (.loop {r with state:=.exhausted})),e5,gS⟩):
 WP e ⟨fn,nt,none⟩ (.rangeFunc f params assign body) ⟨I,ds,O,G,gS⟩ W:=by
 subst hf;exact .rangeFunc h
theorem WP.MI{e:Env}{I:Tm}{ds:List Deferred}{O:Ht}{G:Nat}{gS:List Nat}{fn:FuncId}{nt:Nat}{f:Operand}{params:Array Tmp}{assign body:Code}{W:Nat->St->Prop}(fv:Value)(hf:(fV f).run I=fv)
 (h:∀r,r=⟨.ready,none,fn,I,nt,params.toList,assign,body,G⟩->WV e fv [.func (.yield (G+1)) #[] #[]] ((O.set G (some (.deferred (some [])))).set (G+1) (some (.loop r))) (G+1+1)
   fun _ eZ e5=>∃r o,eZ.get (G+1)=some (.loop r)/\r.state≠.busy/\Av r.pending=some o/\W o ⟨I,⟨.collected G,#[]⟩::ds,eZ.set (G+1) (some (.loop {r with state:=.exhausted})),e5,gS⟩):
 WP e ⟨fn,nt,none⟩ (.rangeFunc f params assign body) ⟨I,ds,O,G,gS⟩ W:=.XV fv hf (h _ rfl)
theorem WV.round{e:Env}{O:Ht}{G:Nat}{A:Value->Ht->Nat->Prop}{l:Nat}{r:_}{a b:Array Value}{oz:List Value}(t:Tm)(hl:O.get l=some (.loop r))(h0:e.low=0)(hs:r.state=.ready)(p:vD r.params oz r.tmps=some t)
 (h:WP e ⟨r.fn,r.nt,some l⟩ r.assign ⟨t,[],O,G,[]⟩ fun o s1=>Nat.beq o 0=true/\s1.O.get l=some (.loop r)/\∀j:Ht,j.get l=some (.loop {r with state:=.busy})->(∀c,c≠l->j.get c=s1.O.get c)->
   WP e ⟨r.fn,r.nt,some l⟩ r.body ⟨s1.I,s1.ds,j,s1.G,[]⟩ fun o2 s2=>s2.ds=[]/\s2.O.get l=some (.loop {r with state:=.busy})/\∀m:Ht,m.get l=some (.loop {r with state:=(bif Nat.beq o2 0 then .ready else .done),pending:=wY o2})->(∀c,c≠l->m.get c=s2.O.get c)->A (.bool (Nat.beq o2 0)) m s2.G):WV e (.func (.yield l) a b) oz O G A:=by
 refine WV.yield hl h0 p (h.mono fun o s1 ⟨u,y,z⟩=>⟨u,r,y,hs,(z _ (Tr.ia ..) (fun c hc=>Tr.gA _ _ hc)).mono fun o2 s2 ⟨B,C,q3⟩=>⟨B,_,C,q3 _ (Tr.ia ..) (fun c hc=>Tr.gA _ _ hc)⟩⟩)
section
variable {α:Type}{enc:α->List Value}{n B b gr:Nat}{O eZ:Ht}{G e5:Nat}{L:List α}{J:SV α}
theorem tW.sV(h:tW enc n B b gr O G L)(he:∀c,B<=c->eZ.get c=O.get c):tW enc n B b gr eZ G L:=by
 obtain⟨h1,⟨ms,D,h3⟩,h4,j,p,m⟩:=h
 refine⟨(he _ j).trans h1,⟨ms,(he _ m).trans D,fun e hm=>?_⟩,h4,j,p,m⟩
 obtain⟨u,o,y,z,A⟩:=h3 e hm
 exact⟨u,o,y,z,fun l hl=>A l (by rw[<-he e.fW o];exact hl)⟩
theorem mq.sV(h:mq enc n B O G J)(he:∀c,B<=c->eZ.get c=O.get c):mq enc n B eZ G J:=by
 rcases h with h|⟨h0,b,gr,h1,D⟩
 · exact .inl h
 · exact .inr ⟨h0,b,gr,h1,D.sV he⟩
theorem tW.low{B':Nat}(h:tW enc n B b gr O G L)(u:B'<=B):tW enc n B' b gr O G L:=by
 obtain⟨h1,⟨ms,D,h3⟩,h4,o,j,p⟩:=h
 exact⟨h1,⟨ms,D,fun e hm=>by obtain⟨m,y,k⟩:=h3 e hm;exact⟨m,by omega,k⟩⟩,h4,by omega,j,by omega⟩
theorem mq.low{B':Nat}(h:mq enc n B O G J)(e:B'<=B):mq enc n B' O G J:=by
 rcases h with h|⟨h0,b,gr,h1,D⟩
 · exact .inl h
 · exact .inr ⟨h0,b,gr,h1,D.low e⟩
end
end
end Sw
namespace Sw
noncomputable section
open Go Go.RowKit
section
variable {α:Type}{enc:α->List Value}{n B:Nat}{O eZ:Ht}{G e5:Nat}{J:SV α}
theorem mq.yY{T:Ty}{st xt el:Nat}{x z:Value}{inf:TypeInfo}(j:List α)(h:mq enc n B O G J)(hlen:∀y∈J.l,(enc y).length=n)(hu:T.jh st=some (.slice el))(hs:T.size el=some n)(X:T.zero el=some z)(hi:T.kd el=some inf)
 (hx:pE T xt x=some (j.length,false)) (A:lL O.get (j.length*n) x=some (j.flatMap enc)) (C:uD n x=true) (af:∀y∈j,(enc y).length=n) (L:(j.flatMap enc).all one=true) (ad:0<n)
 (b1:(J.l.length+j.length)*inf.bytes<=70368744177664) (b2:inf.bytes<=1073741824) (N:J.l.length+j.length<=70368744177664) (F:B<=G):
 ∃v' jC k,jN T O.get st xt J.v x G=some (v',jC,k)/\mq enc n B (jg jC O) (G+k) ⟨v',J.l++j⟩/\HE B O (jg jC O):=by
 rcases gu j.length with hm|hm
 · obtain rfl:=List.eq_nil_of_length_eq_zero hm
   have e0:∀a',jN T O.get st xt (.slice a' J.l.length J.l.length) x G=some (.slice a' (J.l.length+0) J.l.length,[],0):=fun a'=>by
    have M:(J.l.length+0)*inf.bytes<=70368744177664:=b1
    have R:J.l.length+0<=70368744177664:=N
    have W:pE T xt x=some (0,false):=hx
    have E:lL O.get (0*n) x=some []:=A
    simp only[jN,hu,hs,X,hi,W,lX,cond_false,C,cond_true,E,Option.bind_some,List.all_nil,Nat.ble_eq_true_of_le M,Nat.ble_eq_true_of_le b2,Nat.ble_eq_true_of_le R,Bool.and_true,Nat.ble_eq_true_of_le (show J.l.length+0<=J.l.length by omega)]
   rcases h with⟨h1,D⟩|⟨D,b,gr,h1,hb⟩
   · have e2:=e0 none
     rw[h1]at e2
     rw[D]
     exact⟨_,_,_,e2,.inl ⟨by rw[h1];rfl,rfl⟩,HE.refl _ _⟩
   · rw[h1]
     refine⟨_,_,_,e0 _,.inr ⟨by rw[List.append_nil];exact D,b,gr,by rw[List.append_nil];rfl,?_⟩,HE.refl _ _⟩
     rw[List.append_nil];exact hb
 have K:Nat.ble (J.l.length+j.length) J.l.length=false:=by
  cases hb:Nat.ble (J.l.length+j.length) J.l.length with
  |false=>rfl
  |true=>have:=fa hb;omega
 have e1:∀a',jN T O.get st xt (.slice a' J.l.length J.l.length) x G=pM O.get a' J.l.length n (j.flatMap enc) j.length G:=fun a'=>by
  simp only[jN,hu,hs,X,hi,hx,lX,cond_false,C,cond_true,A,Option.bind_some,L,Nat.ble_eq_true_of_le b1,Nat.ble_eq_true_of_le b2,Nat.ble_eq_true_of_le N,Bool.and_true,K]
 have hl:=nk J.l hlen
 have m:(J.l++j).flatMap enc=J.l.flatMap enc++j.flatMap enc:=List.flatMap_append
 have p:(J.l++j).length=J.l.length+j.length:=by simp
 rcases h with⟨h1,D⟩|⟨D,b,gr,h1,hb,⟨ms,hg,qL⟩,jA,ae,h3,h4⟩
 · have h0:J.l.length=0:=by rw[h1];rfl
   have e2:=e1 none
   rw[h0]at e2
   rw[D]
   refine⟨_,_,_,e2,.inr ⟨by rw[p];omega,G+1,G,by rw[p,h0],?_,⟨[⟨G+1,0,_⟩],(Tr.gA _ _ (by omega)).trans (Tr.ia ..),fun e he=>?_⟩,by omega,by omega,by omega,F⟩,fun c hc=>?_⟩
   · rw[m,h1];exact Tr.ia ..
   · rw[List.mem_singleton.1 he,m,h1]
     refine⟨by simp,by show B<=G+1;omega,by show G+1<_;omega,by show G+1≠G;omega,fun l o=>?_⟩
     have:=o.symm.trans (Tr.ia ..)
     cases this
   · exact(Tr.gA _ _ (by omega)).trans (Tr.gA _ _ (by omega))
 · have u:∀e∈ms,beyond (0+0+J.l.length*n) e=false:=fun e he=>by
    have:=(qL e he).1
    cases S:beyond (0+0+J.l.length*n) e with
    |false=>rfl
    |true=>
     unfold beyond at S
     have:=mE.1 S
     omega
   have f1:ms.filter (beyond (0+0+J.l.length*n))=[]:=by
    rw[List.filter_eq_nil_iff];intro e he;rw[u e he];simp
   have f2:(ms.filter fun e=>!(beyond (0+0+J.l.length*n) e))=ms:=by
    rw[List.filter_eq_self];intro e he;rw[u e he];rfl
   have e2:pM O.get (some ⟨b,0,none⟩) J.l.length n (j.flatMap enc) j.length G=some (.slice (some ⟨G,0,none⟩) (J.l.length+j.length) (J.l.length+j.length),
    [(gr,some (jM.group (ms++[⟨G,0,(J.l.flatMap enc++j.flatMap enc).length⟩]))),(G,some (jM.cells (J.l.flatMap enc++j.flatMap enc) ⟨false,some gr,0,n⟩))],1):=by
    simp only[tw,hb,AS _ _ hl,Option.bind_some,hg,oe,f1,List.all_nil,Bool.not_false,Nat.beq_refl,Bool.and_true,cond_true,mZ,List.map_nil,List.nil_append,f2]
   rw[h1]
   refine⟨_,_,_,(e1 _).trans e2,.inr ⟨by rw[p];omega,G,gr,by rw[p],?_,⟨_,(Tr.gA _ _ (by omega)).trans (Tr.ia ..),fun e he=>?_⟩,by omega,F,by omega,h4⟩,fun c hc=>(Tr.gA _ _ (by omega)).trans (Tr.gA _ _ (by omega))⟩
   · rw[m];exact Tr.ia ..
   · rcases List.mem_append.1 he with he|he
     · obtain⟨ag,ab,ah,aa,ac⟩:=qL e he
       refine⟨by rw[m,List.length_append];omega,ab,by omega,aa,fun l o=>ac l ?_⟩
       have:(jg [(gr,some (jM.group (ms++[⟨G,0,(J.l.flatMap enc++j.flatMap enc).length⟩]))),(G,some (jM.cells (J.l.flatMap enc++j.flatMap enc) ⟨false,some gr,0,n⟩))] O).get e.fW=O.get e.fW:=(Tr.gA _ _ (by omega)).trans (Tr.gA _ _ aa)
       exact this.symm.trans o
     · rw[List.mem_singleton.1 he]
       refine⟨by rw[m];simp,F,by show G<_;omega,by show G≠gr;omega,fun l o=>?_⟩
       have:=o.symm.trans (Tr.ia ..)
       cases this
end
section
variable {e:Env}{fm:Fm}{I:Tm}{ds:List Deferred}{O:Ht}{G:Nat}{gS:List Nat}{Q:St->Prop}{all:List Oper}{d:Tmp}{ty:TypeId}{pos:String}{j0:Array Edge}
theorem WC.yY{α:Type}{enc:α->List Value}{st xt el:TypeId}{x y:Operand}{B n:Nat}{z w:Value}{inf:TypeInfo}{J:SV α}(b:List α)(hl:e.low=0)(hx:(fV x).run I=J.v)(hy:(fV y).run I=w)
 (h:mq enc n B O G J) (hlen:∀y∈J.l,(enc y).length=n) (hu:e.T.jh st=some (.slice el)) (hs:e.T.size el=some n) (K:e.T.zero el=some z) (hi:e.T.kd el=some inf)
 (E:pE e.T xt w=some (b.length,false)) (m:lL O.get (b.length*n) w=some (b.flatMap enc)) (o:uD n w=true) (u:∀y∈b,(enc y).length=n) (j:(b.flatMap enc).all one=true) (p:0<n)
 (b1:(J.l.length+b.length)*inf.bytes<=70368744177664) (b2:inf.bytes<=1073741824) (A:J.l.length+b.length<=70368744177664) (C:B<=G)
 {qV:Array TypeId} (F:qV=#[st,xt]) (q:∀(J':SV α) eZ e5,J'.l=J.l++b->G<=e5->HE B O eZ->mq enc n B eZ e5 J'->Q ⟨I.set d J'.v,ds,eZ,e5,gS⟩):
 WC e fm (iJ all ⟨some d,.call {callee:=.builtin .append,args:=#[x,y],argTypes:=qV},ty,pos,j0,none⟩) ⟨I,ds,O,G,gS⟩ Q:=by
 subst F
 obtain⟨v',jC,k,h1,D,h3⟩:=h.yY b hlen hu hs K hi E m o u j p b1 b2 A C
 refine .Kq d (jN e.T O.get st xt J.v w G) hl (fun _ _ _=>?_) h1 (q ⟨v',J.l++b⟩ _ _ rfl (by omega) h3 D)
 rw[<-hx,<-hy];rfl
theorem WC.MJ{α:Type}{enc:α->List Value}{st el:TypeId}{x y:Operand}{B n:Nat}{z:Value}{inf:TypeInfo}{u:List Value}{b:Nat}{C:gi}{J:SV α}(a:α)(hl:e.low=0)(hx:(fV x).run I=J.v)(hy:(fV y).run I=.slice (some ⟨b,0,none⟩) 1 1)
 (h:mq enc n B O G J) (hlen:∀y∈J.l,(enc y).length=n) (hb:O.get b=some (.cells u C)) (p:u=enc a) (hu:e.T.jh st=some (.slice el)) (hs:e.T.size el=some n) (K:e.T.zero el=some z) (hi:e.T.kd el=some inf) (j:(enc a).length=n) (m:(enc a).all one=true) (o:0<n)
 (b1:(J.l.length+1)*inf.bytes<=70368744177664) (b2:inf.bytes<=1073741824) (A:J.l.length+1<=70368744177664) (E:B<=G)
 {qV:Array TypeId} (F:qV=#[st,st]) (q:∀(J':SV α) eZ e5,J'.l=J.l++[a]->G<=e5->HE B O eZ->mq enc n B eZ e5 J'->Q ⟨I.set d J'.v,ds,eZ,e5,gS⟩):
 WC e fm (iJ all ⟨some d,.call {callee:=.builtin .append,args:=#[x,y],argTypes:=qV},ty,pos,j0,none⟩) ⟨I,ds,O,G,gS⟩ Q:=by
 subst p
 have h1:[a].flatMap enc=enc a:=by simp
 refine WC.yY [a] hl hx hy h hlen hu hs K hi (by simp only[pE,hu];rfl) ?_ rfl (fun y hy=>by rw[List.mem_singleton.1 hy];exact j) (by rw[h1];exact m) o b1 b2 A E F q
 rw[h1]
 show lL O.get (1*n) _=_
 rw[Nat.one_mul]
 cases n with
 |zero=>omega
 |succ k=>
  show(match O.get b with|some (.cells Z _)=>lH (k+1) (Z.drop 0)|_=>none)=_
  rw[hb]
  exact vI _ _ (by rw[List.drop_zero,j])
end
section
variable {e:Env}{fm:Fm}{I:Tm}{ds:List Deferred}{O:Ht}{G:Nat}{gS:List Nat}{Q:St->Prop}{all:List Oper}{j:Nat}{w:Bool}{dst:Option Tmp}{op:Op}{ty:TypeId}{pos:String}{j0:Array Edge}
theorem WC.kT{g:Od}{x:Value}(hg:kA all j=some g)(hx:g.run I=x)(hw:ni w x=true)(h:WC e fm (iJ all ⟨dst,op,ty,pos,j0,none⟩) ⟨I,ds,O,G,gS⟩ Q):WC e fm (iJ all ⟨dst,op,ty,pos,j0,some (j,w)⟩) ⟨I,ds,O,G,gS⟩ Q:=by
 subst hx
 obtain⟨s1,⟨o,m⟩,b⟩:=h
 refine⟨s1,⟨o,fun n hn Z k=>?_⟩,b⟩
 rw[E5 dst hg,hw]
 exact m n hn Z k
end
theorem Il{α:Type}:∀(m:Nat) (xs v r:List α),lH m xs=some v->lH m (xs++r)=some v
 |0,xs,v,r,h=>by cases xs<;>cases r<;>exact h
 |m+1,[],v,r,h=>by cases h
 |m+1,x::xs,v,r,h=>by
  have h:(lH m xs).map (x::·)=some v:=h
  obtain⟨w,hw,rfl⟩:=fx.1 h
  show(lH m (xs++r)).map (x::·)=_
  rw[Il m xs w r hw];rfl
theorem ML{α:Type}{enc:α->List Value}{n:Nat}{l:List α}{i f m:Nat}{x:α}{v:List Value}(hl:∀y∈l,(enc y).length=n)(h:l[i]?=some x)(hf:f<=n)(b:lH m ((enc x).drop f)=some v):lH m ((l.flatMap enc).drop (0+i*n+f))=some v:=by
 obtain⟨r,hr⟩:=Ay l i x hl h
 have hx:=hl x (cs h)
 rw[Nat.zero_add,<-List.drop_drop,hr,List.drop_append_of_le_length (by omega)]
 exact Il _ _ _ _ b
section
variable {α:Type}{enc:α->List Value}{n B b c:Nat}{O h1 D:Ht}{G:Nat}{s:SV α}
theorem HE.er(h:HE B h1 D):HE B (h1.set b none) (D.set b none):=fun q e=>by
 by_cases k:q=b
 · subst k;rw[Tr.ia,Tr.ia]
 · rw[Tr.gA _ _ k,Tr.gA _ _ k];exact h q e
theorem HE.ZH(h:∀q,q≠b->D.get q=h1.get q):HE B (h1.set b none) (D.set b none):=fun q _=>by
 by_cases k:q=b
 · subst k;rw[Tr.ia,Tr.ia]
 · rw[Tr.gA _ _ k,Tr.gA _ _ k];exact h q k
theorem HE.erG(h:HE B (h1.set b none) (D.set b none))(hc:c<B)(hn:c≠b):D.get c=h1.get c:=by
 have:=h c hc
 rwa[Tr.gA _ _ hn,Tr.gA _ _ hn]at this
theorem gx.un(h:gx enc n (O.set b none) G s):gx enc n O G s:=by
 refine⟨h.1,?_,h.2.2⟩
 rcases h.2.1 with h|⟨q,cap,m,h1,D,h3,h4,e⟩
 · exact .inl h
 · refine .inr ⟨q,cap,m,h1,D,h3,?_,e⟩
   by_cases k:q=b
   · subst k;rw[Tr.ia]at h4;cases h4
   · rwa[Tr.gA _ _ k]at h4
theorem ju.un{E:Ht->Nat->α->Prop}(h:ju enc n E (O.set b none) G s)(hE:∀x,E (O.set b none) G x->E O G x):ju enc n E O G s:=⟨h.1.un,fun x hx=>hE x (h.2 x hx)⟩
end
def XW:Value->Prop:=Ju True
end
end Sw
namespace Sw
noncomputable section
open Go Go.RowKit
set_option maxRecDepth 100000
inductive RCond where
 |mk (k v n:Int) (pv:Value) (pl:List RCond)
namespace RCond
def je:RCond->Int
 |.mk k _ _ _ _=>k
def rW:RCond->Int
 |.mk _ v _ _ _=>v
def fN:RCond->Int
 |.mk _ _ n _ _=>n
def fT:RCond->SV RCond
 |.mk _ _ _ pv pl=>⟨pv,pl⟩
end RCond
instance :Inhabited RCond:=⟨.mk 0 0 0 (.slice none 0 0) []⟩
def ij(x:RCond):List Value:=[.int .i64 x.je,.int .i64 x.rW,.int .i64 x.fN,x.fT.v]
theorem RCond.CP{c x:RCond}(h:x∈c.fT.l):sizeOf x<sizeOf c:=by
 cases c with
 |mk k v n pv pl=>
  have h:x∈pl:=h
  have:=gj h
  simp only[RCond.mk.sizeOf_spec];omega
def tA:Nat->Ht->Nat->RCond->Prop
 |0,_,_,_=>False
 |n+1,O,G,c=>ju ij 4 (tA n) O G c.fT/\c.fT.l.length*48<=140737488351232
theorem tA.mono:∀{n:Nat} {O eZ:Ht} {G e5:Nat} {c:RCond},tA n O G c->HE G O eZ->G<=e5->tA n eZ e5 c
 |0,_,_,_,_,_,h,_,_=>h
 |_+1,_,_,_,_,_,h,he,hn=>⟨h.1.mono (fun _ h he hn=>tA.mono h he hn) he hn,h.2⟩
def lD(O:Ht)(G:Nat)(c:RCond):Prop:=∃n,tA n O G c
theorem lD.mono{O eZ:Ht}{G e5:Nat}{x:RCond}(h:lD O G x)(he:HE G O eZ)(hn:G<=e5:=by omega):lD eZ e5 x:=by
 obtain⟨n,h⟩:=h;exact⟨n,h.mono he hn⟩
theorem lD.fT{O:Ht}{G:Nat}{x:RCond}(h:lD O G x):ju ij 4 (fun O G y=>lD O G y) O G x.fT:=by
 obtain⟨n,h⟩:=h
 cases n with
 |zero=>exact h.elim
 |succ n=>exact⟨h.1.1,fun x hx=>⟨n,h.1.2 x hx⟩⟩
theorem lD.len{O:Ht}{G:Nat}{x:RCond}(h:lD O G x):x.fT.l.length*48<=140737488351232:=by
 obtain⟨n,h⟩:=h
 cases n with
 |zero=>exact h.elim
 |succ n=>exact h.2
theorem w6{O:Ht}{G:Nat}(x:RCond)(h:lD O G x):(ij x).all one=true:=by
 simp only[ij,List.all_cons,List.all_nil,xI,h.fT.1.one,Bool.and_true]
inductive RStep where
 |mk (k b:Int) (c:RCond) (tv:Value) (tl:List RStep) (ev:Value) (el:List RStep)
namespace RStep
def je:RStep->Int
 |.mk k _ _ _ _ _ _=>k
def Bn:RStep->Int
 |.mk _ b _ _ _ _ _=>b
def iZ:RStep->RCond
 |.mk _ _ c _ _ _ _=>c
def l_:RStep->SV RStep
 |.mk _ _ _ tv tl _ _=>⟨tv,tl⟩
def nH:RStep->SV RStep
 |.mk _ _ _ _ _ ev el=>⟨ev,el⟩
end RStep
instance :Inhabited RStep:=⟨.mk 0 0 default (.slice none 0 0) [] (.slice none 0 0) []⟩
def jz(x:RStep):List Value:=[.int .i64 x.je,.int .i64 x.Bn,.int .i64 x.iZ.je,.int .i64 x.iZ.rW,.int .i64 x.iZ.fN,x.iZ.fT.v,x.l_.v,x.nH.v]
theorem RStep.Pk{s x:RStep}(h:x∈s.l_.l):sizeOf x<sizeOf s:=by
 cases s with
 |mk k b c tv tl ev el=>
  have h:x∈tl:=h
  have:=gj h
  simp only[RStep.mk.sizeOf_spec];omega
theorem RStep.Pl{s x:RStep}(h:x∈s.nH.l):sizeOf x<sizeOf s:=by
 cases s with
 |mk k b c tv tl ev el=>
  have h:x∈el:=h
  have:=gj h
  simp only[RStep.mk.sizeOf_spec];omega
theorem RStep.Pm(s:RStep):sizeOf s.iZ<sizeOf s:=by
 cases s with
 |mk k b c tv tl ev el=>simp only[RStep.mk.sizeOf_spec,RStep.iZ];omega
def qO:Nat->Ht->Nat->RStep->Prop
 |0,_,_,_=>False
 |n+1,O,G,s=>lD O G s.iZ/\ju jz 8 (qO n) O G s.l_/\ju jz 8 (qO n) O G s.nH/\s.l_.l.length*112<=140737488351232/\s.nH.l.length*112<=140737488351232
theorem qO.mono:∀{n:Nat} {O eZ:Ht} {G e5:Nat} {c:RStep},qO n O G c->HE G O eZ->G<=e5->qO n eZ e5 c
 |0,_,_,_,_,_,h,_,_=>h
 |_+1,_,_,_,_,_,h,he,hn=>⟨h.1.mono he hn,h.2.1.mono (fun _ h he hn=>qO.mono h he hn) he hn,h.2.2.1.mono (fun _ h he hn=>qO.mono h he hn) he hn,h.2.2.2⟩
def j3(O:Ht)(G:Nat)(c:RStep):Prop:=∃n,qO n O G c
section
variable {O eZ:Ht}{G e5:Nat}{x:RStep}
theorem j3.mono(h:j3 O G x)(he:HE G O eZ)(hn:G<=e5:=by omega):j3 eZ e5 x:=by
 obtain⟨n,h⟩:=h;exact⟨n,h.mono he hn⟩
theorem j3.out(h:j3 O G x):lD O G x.iZ/\ju jz 8 (fun O G y=>j3 O G y) O G x.l_/\ju jz 8 (fun O G y=>j3 O G y) O G x.nH/\x.l_.l.length*112<=140737488351232/\x.nH.l.length*112<=140737488351232:=by
 obtain⟨n,h⟩:=h
 cases n with
 |zero=>exact h.elim
 |succ n=>exact⟨h.1,⟨h.2.1.1,fun x hx=>⟨n,h.2.1.2 x hx⟩⟩,⟨h.2.2.1.1,fun x hx=>⟨n,h.2.2.1.2 x hx⟩⟩,h.2.2.2⟩
theorem j3.iZ(h:j3 O G x):lD O G x.iZ:=h.out.1
theorem j3.l_(h:j3 O G x):ju jz 8 (fun O G y=>j3 O G y) O G x.l_:=h.out.2.1
theorem j3.nH(h:j3 O G x):ju jz 8 (fun O G y=>j3 O G y) O G x.nH:=h.out.2.2.1
theorem j3.len(h:j3 O G x):x.l_.l.length*112<=140737488351232/\x.nH.l.length*112<=140737488351232:=h.out.2.2.2
end
theorem Cn{O:Ht}{G:Nat}(x:RStep)(h:j3 O G x):(jz x).all one=true:=by
 simp only[jz,List.all_cons,List.all_nil,xI,h.iZ.fT.1.one,h.l_.1.one,h.nH.1.one,Bool.and_true]
theorem tA.un{b:Nat}:∀{n:Nat} {O:Ht} {G:Nat} {c:RCond},tA n (O.set b none) G c->tA n O G c
 |0,_,_,_,h=>h
 |_+1,_,_,_,h=>⟨h.1.un fun _ h=>tA.un h,h.2⟩
theorem lD.un{b:Nat}{O:Ht}{G:Nat}{c:RCond}(h:lD (O.set b none) G c):lD O G c:=by
 obtain⟨n,h⟩:=h;exact⟨n,h.un⟩
theorem qO.un{b:Nat}:∀{n:Nat} {O:Ht} {G:Nat} {c:RStep},qO n (O.set b none) G c->qO n O G c
 |0,_,_,_,h=>h
 |_+1,_,_,_,h=>⟨h.1.un,h.2.1.un fun _ h=>qO.un h,h.2.2.1.un fun _ h=>qO.un h,h.2.2.2⟩
theorem j3.un{b:Nat}{O:Ht}{G:Nat}{c:RStep}(h:j3 (O.set b none) G c):j3 O G c:=by
 obtain⟨n,h⟩:=h;exact⟨n,h.un⟩
def nI(c:RCond):Prop:=c.je=0/\c.rW=0/\c.fN=0/\c.fT.l=[]
inductive ma:RCond->Prop where
 |leaf {c:RCond} (k:c.je=1) (v:1<=c.rW/\c.rW<=3) (n:0<=c.fN/\c.fN<=10000) (p:c.fT.l=[]):ma c
 |neg {c:RCond} (k:c.je=4) (v:c.rW=0) (n:c.fN=0) (p:c.fT.l.length=1) (h:∀x∈c.fT.l,ma x):ma c
 |many {c:RCond} (k:c.je=2\/c.je=3) (v:c.rW=0) (n:c.fN=0) (p:0<c.fT.l.length/\c.fT.l.length<=16) (h:∀x∈c.fT.l,ma x):ma c
inductive pB:RStep->Prop where
 |one {s:RStep} (k:s.je=1) (b:1<=s.Bn/\s.Bn<=5) (c:nI s.iZ) (t:s.l_.l=[]) (e:s.nH.l=[]):pB s
 |VS {s:RStep} (k:s.je=2) (b:s.Bn=0) (c:ma s.iZ) (t0:s.l_.l≠[]) (t:∀x∈s.l_.l,pB x) (e:∀x∈s.nH.l,pB x):pB s
end
end Sw
namespace Sw
noncomputable section
open Go Go.RowKit
set_option maxRecDepth 100000
inductive RPart where
 |mk (m l:Int) (pv:Value) (pl:List RPart)
namespace RPart
def i_:RPart->Int
 |.mk m _ _ _=>m
def kj:RPart->Int
 |.mk _ l _ _=>l
def fT:RPart->SV RPart
 |.mk _ _ pv pl=>⟨pv,pl⟩
end RPart
instance :Inhabited RPart:=⟨.mk 0 0 (.slice none 0 0) []⟩
def jJ(x:RPart):List Value:=[.int .i64 x.i_,.int .i64 x.kj,x.fT.v]
theorem RPart.CP{c x:RPart}(h:x∈c.fT.l):sizeOf x<sizeOf c:=by
 cases c with
 |mk m l pv pl=>
  have h:x∈pl:=h
  have:=gj h
  simp only[RPart.mk.sizeOf_spec];omega
def wy:Nat->Ht->Nat->RPart->Prop
 |0,_,_,_=>False
 |n+1,O,G,c=>ju jJ 3 (wy n) O G c.fT/\c.fT.l.length*40<=140737488351232
theorem wy.mono:∀{n:Nat} {O eZ:Ht} {G e5:Nat} {c:RPart},wy n O G c->HE G O eZ->G<=e5->wy n eZ e5 c
 |0,_,_,_,_,_,h,_,_=>h
 |_+1,_,_,_,_,_,h,he,hn=>⟨h.1.mono (fun _ h he hn=>wy.mono h he hn) he hn,h.2⟩
def kN(O:Ht)(G:Nat)(c:RPart):Prop:=∃n,wy n O G c
theorem kN.mono{O eZ:Ht}{G e5:Nat}{x:RPart}(h:kN O G x)(he:HE G O eZ)(hn:G<=e5:=by omega):kN eZ e5 x:=by
 obtain⟨n,h⟩:=h;exact⟨n,h.mono he hn⟩
theorem kN.fT{O:Ht}{G:Nat}{x:RPart}(h:kN O G x):ju jJ 3 (fun O G y=>kN O G y) O G x.fT:=by
 obtain⟨n,h⟩:=h
 cases n with
 |zero=>exact h.elim
 |succ n=>exact⟨h.1.1,fun x hx=>⟨n,h.1.2 x hx⟩⟩
theorem kN.len{O:Ht}{G:Nat}{x:RPart}(h:kN O G x):x.fT.l.length*40<=140737488351232:=by
 obtain⟨n,h⟩:=h
 cases n with
 |zero=>exact h.elim
 |succ n=>exact h.2
theorem Gq{O:Ht}{G:Nat}(x:RPart)(h:kN O G x):(jJ x).all one=true:=by
 simp only[jJ,List.all_cons,List.all_nil,xI,h.fT.1.one,Bool.and_true]
end
end Sw
namespace Sw
noncomputable section
open Go Go.RowKit
structure rX where
 i_:Int
 kl:Int
 pQ:Int
instance :Inhabited rX:=⟨⟨default,default,default⟩⟩
def ka(x:rX):List Value:=[.int .i64 x.i_,.int .i64 x.kl,.int .i64 x.pQ]
theorem CQ(x:rX):lg 8 (.agg (ka x).toArray) (.agg (ka x).toArray)=true:=(wv 7 _ (by intro v b;have b:v∈ka x:=b;simp only[ka,List.mem_cons,List.not_mem_nil,or_false]at b;rcases b with rfl|rfl|rfl<;>first|exact iz ..|exact iH ..|exact ww ..))
structure j8 where
 fp:SV rX
 gz:SV (SV Int)
instance :Inhabited j8:=⟨⟨default,default⟩⟩
def jc(x:j8):List Value:=[x.fp.v,x.gz.v]
structure nZ(O:Ht)(G:Nat)(x:j8):Prop where
 fp:gx ka 3 O G x.fp
 gz:ju lC 1 (fun O G y=>gx encI 1 O G y) O G x.gz
theorem nZ.mono{O eZ:Ht}{G e5:Nat}{x:j8}(h:nZ O G x)(he:HE G O eZ)(hn:G<=e5:=by omega):nZ eZ e5 x:=
 ⟨h.fp.mono he hn,h.gz.mono (fun _ h he hn=>h.mono he hn) he hn⟩
structure AB where
 fA:Int
 fB:Int
instance :Inhabited AB:=⟨⟨default,default⟩⟩
def te(x:AB):List Value:=[.int .i64 x.fA,.int .i64 x.fB]
structure ja where
 jV:Bool
 lh:Int
 g_:Int
 gU:Int
instance :Inhabited ja:=⟨⟨default,default,default,default⟩⟩
def gP(x:ja):List Value:=[.bool x.jV,.int .i64 x.lh,.int .i64 x.g_,.int .i64 x.gU]
theorem yZ(x:ja):lg 8 (.agg (gP x).toArray) (.agg (gP x).toArray)=true:=(wv 7 _ (by intro v b;have b:v∈gP x:=b;simp only[gP,List.mem_cons,List.not_mem_nil,or_false]at b;rcases b with rfl|rfl|rfl|rfl<;>first|exact iz ..|exact iH ..|exact ww ..))
structure ic where
 nl:Int
 lq:SV Int
 fQ:SV (SV ja)
instance :Inhabited ic:=⟨⟨default,default,default⟩⟩
def iV(x:ic):List Value:=[.int .i64 x.nl,x.lq.v,x.fQ.v]
structure mf(O:Ht)(G:Nat)(x:ic):Prop where
 lq:gx encI 1 O G x.lq
 fQ:ju lC 1 (fun O G y=>gx gP 4 O G y) O G x.fQ
theorem mf.mono{O eZ:Ht}{G e5:Nat}{x:ic}(h:mf O G x)(he:HE G O eZ)(hn:G<=e5:=by omega):mf eZ e5 x:=
 ⟨h.lq.mono he hn,h.fQ.mono (fun _ h he hn=>h.mono he hn) he hn⟩
theorem xk{O:Ht}{G:Nat}(x:ic)(h:mf O G x):(iV x).all one=true:=by simp only[iV,List.all_cons,List.all_nil,xI,Bj,Jt,Bool.and_true,h.lq.one,h.fQ.1.one]
theorem K6{O:Ht}{G:Nat}(x:ic)(h:mf O G x):lg 8 (.agg (iV x).toArray) (.agg (iV x).toArray)=true:=(wv 7 _ (by intro v b;have b:v∈iV x:=b;simp only[iV,List.mem_cons,List.not_mem_nil,or_false]at b;rcases b with rfl|rfl|rfl<;>first|exact iz ..|exact iH ..|exact ww ..|exact h.lq.js 7|exact h.fQ.1.js 7))
structure ji where
 fq:j8
 gb:SV AB
 e6:SV ic
instance :Inhabited ji:=⟨⟨default,default,default⟩⟩
def gK(x:ji):List Value:=[x.fq.fp.v,x.fq.gz.v,x.gb.v,x.e6.v]
structure km(O:Ht)(G:Nat)(x:ji):Prop where
 fq:nZ O G x.fq
 gb:gx te 2 O G x.gb
 e6:ju iV 3 (fun O G y=>mf O G y) O G x.e6
theorem km.mono{O eZ:Ht}{G e5:Nat}{x:ji}(h:km O G x)(he:HE G O eZ)(hn:G<=e5:=by omega):km eZ e5 x:=
 ⟨h.fq.mono he hn,h.gb.mono he hn,h.e6.mono (fun _ h he hn=>h.mono he hn) he hn⟩
theorem E8{O:Ht}{G:Nat}(x:ji)(h:km O G x):lg 8 (.agg (gK x).toArray) (.agg (gK x).toArray)=true:=(wv 7 _ (by intro v b;have b:v∈gK x:=b;simp only[gK,List.mem_cons,List.not_mem_nil,or_false]at b;rcases b with rfl|rfl|rfl|rfl<;>first|exact iz ..|exact iH ..|exact ww ..|exact h.fq.fp.js 7|exact h.fq.gz.1.js 7|exact h.gb.js 7|exact h.e6.1.js 7))
structure Ue where
 nl:Int
 ko:Int
 aaT:Int
 aaU:Int
 aaZ:Int
 aaV:Int
 aaW:Int
 aa0:Int
instance :Inhabited Ue:=⟨⟨default,default,default,default,default,default,default,default⟩⟩
structure fL where
 g_:Int
 gU:Int
instance :Inhabited fL:=⟨⟨default,default⟩⟩
def fc(x:fL):List Value:=[.int .i64 x.g_,.int .i64 x.gU]
theorem zo(x:fL):lg 8 (.agg (fc x).toArray) (.agg (fc x).toArray)=true:=(wv 7 _ (by intro v b;have b:v∈fc x:=b;simp only[fc,List.mem_cons,List.not_mem_nil,or_false]at b;rcases b with rfl|rfl<;>first|exact iz ..|exact iH ..|exact ww ..))
structure tB where
 nl:Int
 qx:SV fL
 jV:Bool
instance :Inhabited tB:=⟨⟨default,default,default⟩⟩
def tM(x:tB):List Value:=[.int .i64 x.nl,x.qx.v,.bool x.jV]
structure Bo(O:Ht)(G:Nat)(x:tB):Prop where
 qx:gx fc 2 O G x.qx
theorem Bo.mono{O eZ:Ht}{G e5:Nat}{x:tB}(h:Bo O G x)(he:HE G O eZ)(hn:G<=e5:=by omega):Bo eZ e5 x:=
 ⟨h.qx.mono he hn⟩
theorem MM{O:Ht}{G:Nat}(x:tB)(h:Bo O G x):(tM x).all one=true:=by simp only[tM,List.all_cons,List.all_nil,xI,Bj,Jt,Bool.and_true,h.qx.one]
structure tN where
 lM:ByteArray
 je:Int
instance :Inhabited tN:=⟨⟨default,default⟩⟩
def o9(x:tN):List Value:=[.string x.lM,.int .i64 x.je]
structure s6 where
 lE:Int
 pR:Int
 y0:Int
 y4:Int
instance :Inhabited s6:=⟨⟨default,default,default,default⟩⟩
def my(x:s6):List Value:=[.int .i64 x.lE,.int .i64 x.pR,.int .i64 x.y0,.int .i64 x.y4]
structure oP where
 i_:Int
 Bp:Int
 w7:Int
instance :Inhabited oP:=⟨⟨default,default,default⟩⟩
def lP(x:oP):List Value:=[.int .i64 x.i_,.int .i64 x.Bp,.int .i64 x.w7]
structure j6 where
 lM:ByteArray
 jI:SV RPart
 u7:Int
 jp:SV oP
 jQ:Int
instance :Inhabited j6:=⟨⟨default,default,default,default,default⟩⟩
def iL(x:j6):List Value:=[.string x.lM,x.jI.v,.int .i64 x.u7,x.jp.v,.int .i64 x.jQ]
structure lQ(O:Ht)(G:Nat)(x:j6):Prop where
 jI:ju jJ 3 (fun O G y=>kN O G y) O G x.jI
 jp:gx lP 3 O G x.jp
theorem lQ.mono{O eZ:Ht}{G e5:Nat}{x:j6}(h:lQ O G x)(he:HE G O eZ)(hn:G<=e5:=by omega):lQ eZ e5 x:=
 ⟨h.jI.mono (fun _ h he hn=>h.mono he hn) he hn,h.jp.mono he hn⟩
theorem BQ{O:Ht}{G:Nat}(x:j6)(h:lQ O G x):(iL x).all one=true:=by simp only[iL,List.all_cons,List.all_nil,xI,Bj,Jt,Bool.and_true,h.jI.1.one,h.jp.one]
structure qP where
 lM:ByteArray
 E9:Int
instance :Inhabited qP:=⟨⟨default,default⟩⟩
def nG(x:qP):List Value:=[.string x.lM,.int .i64 x.E9]
structure mM where
 lM:ByteArray
 uJ:Int
 kj:Int
 jV:Bool
instance :Inhabited mM:=⟨⟨default,default,default,default⟩⟩
def kb(x:mM):List Value:=[.string x.lM,.int .i64 x.uJ,.int .i64 x.kj,.bool x.jV]
structure lR where
 lM:ByteArray
 lE:Int
 pR:Int
instance :Inhabited lR:=⟨⟨default,default,default⟩⟩
def jU(x:lR):List Value:=[.string x.lM,.int .i64 x.lE,.int .i64 x.pR]
structure o_ where
 ko:Int
 kc:Int
 oE:Int
 u9:Int
instance :Inhabited o_:=⟨⟨default,default,default,default⟩⟩
def ln(x:o_):List Value:=[.int .i64 x.ko,.int .i64 x.kc,.int .i64 x.oE,.int .i64 x.u9]
structure FU where
 sB:Int
 sC:Int
 sD:Int
 pS:Int
 ug:Int
instance :Inhabited FU:=⟨⟨default,default,default,default,default⟩⟩
def zz(x:FU):List Value:=[.int .i64 x.sB,.int .i64 x.sC,.int .i64 x.sD,.int .i64 x.pS,.int .i64 x.ug]
structure j4 where
 lM:ByteArray
 iv:SV tN
 jR:SV s6
 fu:SV j6
 kK:SV qP
 jt:SV mM
 iu:SV lR
 kV:SV o_
 nQ:SV RStep
 iO:FU
 Aa:Int
 su:Int
instance :Inhabited j4:=⟨⟨default,default,default,default,default,default,default,default,default,default,default,default⟩⟩
def iM(x:j4):List Value:=[.string x.lM,x.iv.v,x.jR.v,x.fu.v,x.kK.v,x.jt.v,x.iu.v,x.kV.v,x.nQ.v,.int .i64 x.iO.sB,.int .i64 x.iO.sC,.int .i64 x.iO.sD,.int .i64 x.iO.pS,.int .i64 x.iO.ug,.int .i64 x.Aa,.int .i64 x.su]
structure oV(O:Ht)(G:Nat)(x:j4):Prop where
 iv:gx o9 2 O G x.iv
 jR:gx my 4 O G x.jR
 fu:ju iL 5 (fun O G y=>lQ O G y) O G x.fu
 kK:gx nG 2 O G x.kK
 jt:gx kb 4 O G x.jt
 iu:gx jU 3 O G x.iu
 kV:gx ln 4 O G x.kV
 nQ:ju jz 8 (fun O G y=>j3 O G y) O G x.nQ
theorem oV.mono{O eZ:Ht}{G e5:Nat}{x:j4}(h:oV O G x)(he:HE G O eZ)(hn:G<=e5:=by omega):oV eZ e5 x:=
 ⟨h.iv.mono he hn,h.jR.mono he hn,h.fu.mono (fun _ h he hn=>h.mono he hn) he hn,h.kK.mono he hn,h.jt.mono he hn,h.iu.mono he hn,h.kV.mono he hn,h.nQ.mono (fun _ h he hn=>h.mono he hn) he hn⟩
structure qz where
 iB:SV Int
 i_:Int
 DD:Int
instance :Inhabited qz:=⟨⟨default,default,default⟩⟩
def pe(x:qz):List Value:=[x.iB.v,.int .i64 x.i_,.int .i64 x.DD]
structure xn(O:Ht)(G:Nat)(x:qz):Prop where
 iB:gx encI 1 O G x.iB
theorem xn.mono{O eZ:Ht}{G e5:Nat}{x:qz}(h:xn O G x)(he:HE G O eZ)(hn:G<=e5:=by omega):xn eZ e5 x:=
 ⟨h.iB.mono he hn⟩
structure sE where
 mA:Int
 fX:Int
instance :Inhabited sE:=⟨⟨default,default⟩⟩
def vJ(x:sE):List Value:=[.int .i64 x.mA,.int .i64 x.fX]
structure lN where
 ig:Int
 gB:SV Int
 fZ:SV sE
instance :Inhabited lN:=⟨⟨default,default,default⟩⟩
def j5(x:lN):List Value:=[.int .i64 x.ig,x.gB.v,x.fZ.v]
structure nc(O:Ht)(G:Nat)(x:lN):Prop where
 gB:gx encI 1 O G x.gB
 fZ:gx vJ 2 O G x.fZ
theorem nc.mono{O eZ:Ht}{G e5:Nat}{x:lN}(h:nc O G x)(he:HE G O eZ)(hn:G<=e5:=by omega):nc eZ e5 x:=
 ⟨h.gB.mono he hn,h.fZ.mono he hn⟩
end
end Sw
namespace Sw
noncomputable section
open Go Go.RowKit
def jW(l:List Nat)(h:Ht):Ht:=l.foldl (fun h b=>h.set b none) h
theorem rL:∀(l:List Nat) (h:Ht) {q:Nat},q∉l->(jW l h).get q=h.get q
 |[],_,_,_=>rfl
 |b::l,h,q,e=>by
  show(jW l (h.set b none)).get q=_
  rw[rL l _ fun k=>e (List.mem_cons_of_mem _ k)]
  exact Tr.gA _ _ fun k=>e (by rw[k];exact fh ..)
theorem MN:∀(l:List Nat) (h:Ht) {q:Nat},h.get q=none->(jW l h).get q=none
 |[],_,_,e=>e
 |b::l,h,q,e=>by
  show(jW l (h.set b none)).get q=_
  refine MN l _ ?_
  by_cases k:q=b
  · subst k;exact Tr.ia ..
  · rw[Tr.gA _ _ k];exact e
theorem CR:∀(l:List Nat) (h:Ht) {q:Nat},q∈l->(jW l h).get q=none
 |b::l,h,q,e=>by
  show(jW l (h.set b none)).get q=_
  rcases fM.1 e with rfl|e
  · exact MN l _ (Tr.ia ..)
  · exact CR l _ e
section
variable {B c:Nat}{l:List Nat}{h1 D O:Ht}{α:Type}{enc:α->List Value}{n G:Nat}{s:SV α}
theorem HE.oo(h:∀q,q<B->q∉l->D.get q=h1.get q):HE B (jW l h1) (jW l D):=fun q b=>by
 by_cases k:q∈l
 · rw[CR l _ k,CR l _ k]
 · rw[rL l _ k,rL l _ k];exact h q b k
theorem HE.jW(h:HE B h1 D):HE B (Sw.jW l h1) (Sw.jW l D):=.oo fun q b _=>h q b
theorem HE.q9(h:HE B (Sw.jW l h1) (Sw.jW l D))(hc:c<B)(hn:c∉l):D.get c=h1.get c:=by
 have:=h c hc
 rwa[rL l _ hn,rL l _ hn]at this
theorem gx.qt(h:gx enc n (jW l O) G s):gx enc n O G s:=by
 refine⟨h.1,?_,h.2.2⟩
 rcases h.2.1 with h|⟨q,cap,m,h1,D,h3,h4,b⟩
 · exact .inl h
 · refine .inr ⟨q,cap,m,h1,D,h3,?_,b⟩
   by_cases k:q∈l
   · rw[CR l _ k]at h4;cases h4
   · rwa[rL l _ k]at h4
end
section
variable {e:Env}{O:Ht}{G:Nat}
theorem qk{T:Ty}{O:Hp}{t:Tm}{a b:Nat}{e j:TypeId}{v w:Value}(h1:j9 T O e ((fV (.tmp a)).run t)=some v)(D:j9 T O j ((fV (.tmp b)).run t)=some w):mS T O t [.cell a e,.cell b j]=some [v,w]:=by
 simp only[mS,h1,D]
theorem WF.VT{f:FuncId}{fi:wj}{l:List Value}{t:Tm}{R:Value->Ht->Nat->Prop}(hk:e.K f=none)(hf:e.F f=some fi)(hl:Nat.ble l.length fi.nt=true)(p:qC zj l Tm.undef=some t)(h0:e.low=0)
 (hb:WP e ⟨f,fi.nt,none⟩ fi.body ⟨t,[],O,G,[]⟩ fun o b=>Nat.ble o 1=true/\((b.ds=[]/\∃vs,mS e.T b.O.get b.I fi.ud=some vs/\R (qE vs) b.O b.G)\/
   ∃r,b.ds=[⟨.collected r,#[]⟩]/\b.O.get r=some (.deferred (some []))/\∃vs,mS e.T (b.O.set r (some (.deferred none))).get b.I fi.ud=some vs/\R (qE vs) (b.O.set r (some (.deferred none))) b.G)):WF e f l O G R:=by
 obtain⟨o,⟨j,y,eZ,e5,z⟩,⟨u,hb⟩,m,⟨hd,vs,hg,q⟩|⟨r,hd,hr,vs,hg,q⟩⟩:=hb
 · simp only at hd hg q
   subst hd
   refine⟨_,_,_,⟨u,fun n hn Z k=>?_⟩,q⟩
   have hb:ev e n ⟨f,fi.nt,none⟩ fi.body ⟨t,[],O,G,Z⟩=.ok (o,⟨j,[],eZ,e5,Z⟩):=hb n hn Z
   simp only[nh,hk,ue,hf,sI,hl,cond_true,p,hb,m,lK,yQ,hg]
 · simp only at hd hr hg q
   subst hd
   refine⟨_,_,_,⟨u,fun n hn Z k=>?_⟩,q⟩
   have hb:ev e n ⟨f,fi.nt,none⟩ fi.body ⟨t,[],O,G,Z⟩=.ok (o,⟨j,[⟨.collected r,#[]⟩],eZ,e5,Z⟩):=hb n hn Z
   simp only[nh,hk,ue,hf,sI,hl,cond_true,p,hb,m,lK,hr,h0,Uc,yQ,hg]
end
end
end Sw
namespace Sw
noncomputable section
open Go Go.RowKit
theorem mr(a b:Int):∃c:Bool,c=rI a b/\(c=true↔a<b):=nb sA
theorem y5(a:Nat)(b:Int):∃c:Bool,c=rI (.ofNat a) b/\(c=true↔((a:Nat):Int)<b):=nb sA
theorem nE(a:Int)(b:Nat):∃c:Bool,c=rI a (.ofNat b)/\(c=true↔a<((b:Nat):Int)):=nb sA
theorem kL(a b:Nat):∃c:Bool,c=rI (.ofNat a) (.ofNat b)/\(c=true↔((a:Nat):Int)<((b:Nat):Int)):=nb sA
theorem pF(a b:Int):∃c:Bool,c=DY a b/\(c=true↔a<=b):=nb yX
theorem G_(a:Nat)(b:Int):∃c:Bool,c=DY (.ofNat a) b/\(c=true↔((a:Nat):Int)<=b):=nb yX
theorem ZW(a:Int)(b:Nat):∃c:Bool,c=DY a (.ofNat b)/\(c=true↔a<=((b:Nat):Int)):=nb yX
theorem XY(a b:Nat):∃c:Bool,c=DY (.ofNat a) (.ofNat b)/\(c=true↔((a:Nat):Int)<=((b:Nat):Int)):=nb yX
theorem sN(a b:Int):∃c:Bool,c=kC a b/\(c=true↔a=b):=nb lJ
theorem vK(a:Nat)(b:Int):∃c:Bool,c=kC (.ofNat a) b/\(c=true↔((a:Nat):Int)=b):=nb lJ
theorem XZ(a b:Nat):∃c:Bool,c=kC (.ofNat a) (.ofNat b)/\(c=true↔((a:Nat):Int)=((b:Nat):Int)):=nb lJ
theorem qG(a b:Int):∃c:Bool,c=(!(kC a b))/\(c=true↔a≠b):=nb FR
theorem MO(a:Nat)(b:Int):∃c:Bool,c=(!(kC (.ofNat a) b))/\(c=true↔((a:Nat):Int)≠b):=nb FR
theorem Jv(a b:Nat):∃c:Bool,c=(!(kC (.ofNat a) (.ofNat b)))/\(c=true↔((a:Nat):Int)≠((b:Nat):Int)):=nb FR
theorem nO{c d:Bool}{P R:Prop}(p:c=true↔P)(q:d=true↔R):∃b:Bool,b=(c||d)/\(b=true↔P\/R):=nb (by rw[Bool.or_eq_true,p,q])
theorem nA{c d:Bool}{P R:Prop}(p:c=true↔P)(q:d=true↔R):∃b:Bool,b=(c&&d)/\(b=true↔P/\R):=nb (by rw[Bool.and_eq_true,p,q])
theorem nN{c:Bool}{P:Prop}(p:c=true↔P):∃b:Bool,b=(!c)/\(b=true↔¬P):=nb (by rw[Bool.not_eq_true',<-Bool.not_eq_true,p])
section
variable {e:Env}{fm:Fm}{I:Tm}{ds:List Deferred}{O:Ht}{G:Nat}{gS:List Nat}{Q:St->Prop}{all os:List Oper}{o:Oper}{j:Nat}{d:Tmp}{op:Op}{ty t0:TypeId}{pos:String}{j0:Array Edge}
theorem ob{b c:Bool}(x:Nat)(h0:c=b)(q:WO e fm (gW all os) ⟨I.set x (.bool c),ds,O,G,gS⟩ Q)(h:∀rec Z k,(iJ all o).run e rec fm I ds O G Z k=k ⟨I.set x (.bool b),ds,O,G,Z⟩:=by intros;kernel_rfl):WO e fm (gW all (o::os)) ⟨I,ds,O,G,gS⟩ Q:=by
 subst h0;exact ov x _ q h
def stepT(c:Cl)(e:Env)(fm:Fm)(I:Tm)(ds:List Deferred)(O:Ht)(G:Nat):Tm:=match c.run e (fun _ _ _=>.gk 0) fm I ds O G [] (fun s=>.ok (0,s))with
 |.ok (_,s)=>s.I
 |.gk _=>I
def runT(e:Env)(fm:Fm)(ds:List Deferred)(O:Ht)(G:Nat):List Cl->Tm->Tm
 |[],I=>I
 |c::l,I=>runT e fm ds O G l (stepT c e fm I ds O G)
def runK(e:Env)(rec:Rec)(fm:Fm)(k:St->R):List Cl->St->R
 |[],s=>k s
 |c::l,s=>c.run e rec fm s.I s.ds s.O s.G s.Z fun s=>runK e rec fm k l s
theorem QA(l b:List Cl)(e:Env)(rec:Rec)(fm:Fm):∀s,wk (l++b) e rec fm s=runK e rec fm (fun s=>wk b e rec fm s) l s:=by
 induction l with
 |nil=>intro s;rfl
 |cons c l ih=>
  intro s
  show c.run e rec fm s.I s.ds s.O s.G s.Z (fun s=>wk (l++b) e rec fm s)=_
  simp only[ih];rfl
def Br:Nat->List Oper->List Oper
 |0,_=>[]
 |_+1,[]=>[]
 |n+1,o::os=>o::Br n os
def MP:Nat->List Oper->List Oper
 |0,os=>os
 |_+1,[]=>[]
 |n+1,_::os=>MP n os
theorem Ea(all:List Oper):∀(n:Nat) (os:List Oper),gW all os=gW all (Br n os)++gW all (MP n os)
 |0,os=>rfl
 |n+1,[]=>rfl
 |n+1,o::os=>by
  show iJ all o::gW all os=_
  rw[Ea all n os];rfl
theorem oX(n:Nat)(q:WO e fm (gW all (MP n os)) ⟨runT e fm ds O G (gW all (Br n os)) I,ds,O,G,gS⟩ Q)
 (h:∀rec Z k,runK e rec fm k (gW all (Br n os)) ⟨I,ds,O,G,Z⟩=k ⟨runT e fm ds O G (gW all (Br n os)) I,ds,O,G,Z⟩:=by intros;kernel_rfl):WO e fm (gW all os) ⟨I,ds,O,G,gS⟩ Q:=by
 obtain⟨s1,⟨b,h1⟩,j⟩:=q
 refine⟨s1,⟨b,fun m hm Z=>?_⟩,j⟩
 rw[Ea all n os,QA]
 exact(h (ev e m) Z _).trans (h1 m hm Z)
theorem gF(t:Tmp)(c:Bool)(v:Value)(q:WO e fm (gW all os) ⟨I.set d (bif !c then v else undef),ds,O,G,gS⟩ Q)
 (h1:c=false->∀rec Z k,(iJ all ⟨some d,op,ty,pos,j0,none⟩).run e rec fm I ds O G Z k=k ⟨I.set d v,ds,O,G,Z⟩:=by intro h;subst h;intros;kernel_rfl)
 (hg:kA all j=some (fV (.tmp t)):=by rfl) (hx:(fV (.tmp t)).run I=.bool c:=by kernel_rfl):WO e fm (gW all (⟨some d,op,ty,pos,j0,some (j,false)⟩::os)) ⟨I,ds,O,G,gS⟩ Q:=
 og t (!c) v (.bool c) (by cases c<;>rfl) (fun h=>h1 (bF h)) q hg hx
theorem gT(t:Tmp)(c:Bool)(v:Value)(q:WO e fm (gW all os) ⟨I.set d (bif c then v else undef),ds,O,G,gS⟩ Q)
 (h1:c=true->∀rec Z k,(iJ all ⟨some d,op,ty,pos,j0,none⟩).run e rec fm I ds O G Z k=k ⟨I.set d v,ds,O,G,Z⟩:=by intro h;subst h;intros;kernel_rfl)
 (hg:kA all j=some (fV (.tmp t)):=by rfl) (hx:(fV (.tmp t)).run I=.bool c:=by kernel_rfl):WO e fm (gW all (⟨some d,op,ty,pos,j0,some (j,true)⟩::os)) ⟨I,ds,O,G,gS⟩ Q:=
 og t c v (.bool c) (by cases c<;>rfl) h1 q hg hx
theorem ZI{a b:Bool}(t:Tmp)(c:Bool)(h0:a=b)(q:WO e fm (gW all os) ⟨I.set d (bif !c then .bool a else undef),ds,O,G,gS⟩ Q)
 (h1:c=false->∀rec Z k,(iJ all ⟨some d,op,ty,pos,j0,none⟩).run e rec fm I ds O G Z k=k ⟨I.set d (.bool b),ds,O,G,Z⟩:=by intro h;subst h;intros;kernel_rfl)
 (hg:kA all j=some (fV (.tmp t)):=by rfl) (hx:(fV (.tmp t)).run I=.bool c:=by kernel_rfl):WO e fm (gW all (⟨some d,op,ty,pos,j0,some (j,false)⟩::os)) ⟨I,ds,O,G,gS⟩ Q:=by
 subst h0;exact gF t c _ q h1 hg hx
theorem RV{a b:Bool}(t:Tmp)(c:Bool)(h0:a=b)(q:WO e fm (gW all os) ⟨I.set d (bif c then .bool a else undef),ds,O,G,gS⟩ Q)
 (h1:c=true->∀rec Z k,(iJ all ⟨some d,op,ty,pos,j0,none⟩).run e rec fm I ds O G Z k=k ⟨I.set d (.bool b),ds,O,G,Z⟩:=by intro h;subst h;intros;kernel_rfl)
 (hg:kA all j=some (fV (.tmp t)):=by rfl) (hx:(fV (.tmp t)).run I=.bool c:=by kernel_rfl):WO e fm (gW all (⟨some d,op,ty,pos,j0,some (j,true)⟩::os)) ⟨I,ds,O,G,gS⟩ Q:=by
 subst h0;exact gT t c _ q h1 hg hx
theorem xJ(t:Tmp)(c:Bool)(v:Value)(h1:c=false->WC e fm (iJ all ⟨some d,op,ty,pos,j0,none⟩) ⟨I,ds,O,G,gS⟩ fun s=>s=⟨I.set d v,ds,O,G,gS⟩)
 (q:WO e fm (gW all os) ⟨I.set d (bif !c then v else undef),ds,O,G,gS⟩ Q) (hg:kA all j=some (fV (.tmp t)):=by rfl) (hx:(fV (.tmp t)).run I=.bool c:=by kernel_rfl):WO e fm (gW all (⟨some d,op,ty,pos,j0,some (j,false)⟩::os)) ⟨I,ds,O,G,gS⟩ Q:=
 wG t (!c) v (.bool c) (by cases c<;>rfl) (fun h=>h1 (bF h)) q hg hx
theorem E_(t:Tmp)(c:Bool)(v:Value)(h1:c=true->WC e fm (iJ all ⟨some d,op,ty,pos,j0,none⟩) ⟨I,ds,O,G,gS⟩ fun s=>s=⟨I.set d v,ds,O,G,gS⟩)
 (q:WO e fm (gW all os) ⟨I.set d (bif c then v else undef),ds,O,G,gS⟩ Q) (hg:kA all j=some (fV (.tmp t)):=by rfl) (hx:(fV (.tmp t)).run I=.bool c:=by kernel_rfl):WO e fm (gW all (⟨some d,op,ty,pos,j0,some (j,true)⟩::os)) ⟨I,ds,O,G,gS⟩ Q:=
 wG t c v (.bool c) (by cases c<;>rfl) h1 q hg hx
theorem pO{a c y:Bool}(x:Nat)(h0:a=(c||y))(q:WO e fm (gW all os) ⟨I.set x (.bool a),ds,O,G,gS⟩ Q)
 (h:∀rec Z k,(iJ all o).run e rec fm I ds O G Z k=kI (kZ (.bool c) (.bool true) (bif !c then .bool y else undef)) (fun v=>k ⟨I.set x v,ds,O,G,Z⟩):=by intros;kernel_rfl):WO e fm (gW all (o::os)) ⟨I,ds,O,G,gS⟩ Q:=
 .cons (.me x _ h (by rw[h0];exact kS (fun h=>by rw[h];rfl)) q)
theorem pA{a c y:Bool}(x:Nat)(h0:a=(c&&y))(q:WO e fm (gW all os) ⟨I.set x (.bool a),ds,O,G,gS⟩ Q)
 (h:∀rec Z k,(iJ all o).run e rec fm I ds O G Z k=kI (kZ (.bool c) (bif c then .bool y else undef) (.bool false)) (fun v=>k ⟨I.set x v,ds,O,G,Z⟩):=by intros;kernel_rfl):WO e fm (gW all (o::os)) ⟨I,ds,O,G,gS⟩ Q:=
 .cons (.me x _ h (by rw[h0];exact tz (fun h=>by rw[h];rfl)) q)
theorem oB{x:Operand}(v:Value)(cells:List Value)(q:∀b:Ht,HE G O b->b.get G=some (.cells cells gi.plain)->WO e fm (gW all os) ⟨I.set d (.pointer (some ⟨G,0,none⟩)),ds,b,G+1,gS⟩ Q)
 (hl:e.low=0:=by rfl) (hx:(fV x).run I=v:=by kernel_rfl) (j:v.cells.toList=cells:=by rfl):WO e fm (gW all (⟨some d,.box t0 x,ty,pos,j0,none⟩::os)) ⟨I,ds,O,G,gS⟩ Q:=
 .cons (.box v cells hl hx j (q _ (HE.set _ _ (e9 _)) (Tr.ia ..)))
theorem oA{el:TypeId}(cells:List Value){z:Value}(m:e.T.zero el=some z)(q:∀b:Ht,HE G O b->b.get G=some (.cells cells gi.plain)->WO e fm (gW all os) ⟨I.set d (.pointer (some ⟨G,0,none⟩)),ds,b,G+1,gS⟩ Q)
 (hl:e.low=0:=by rfl) (j:z.cells.toList=cells:=by rfl):WO e fm (gW all (⟨some d,.alloc el,ty,pos,j0,none⟩::os)) ⟨I,ds,O,G,gS⟩ Q:=
 .cons (.alloc z cells hl m j (q _ (HE.set _ _ (e9 _)) (Tr.ia ..)))
theorem oL{n:Nat}{ps:Array (Nat×Operand)}(cells:List Value)(q:∀b:Ht,HE G O b->b.get G=some (.cells cells gi.plain)->WO e fm (gW all os) ⟨I.set d (.slice (some ⟨G,0,none⟩) n n),ds,b,G+1,gS⟩ Q)
 (hl:e.low=0:=by rfl) (h:qM e.T t0 n (tJ (zi ps.toList) I) G=some (vB G cells n n):=by kernel_rfl):WO e fm (gW all (⟨some d,.buildSlice t0 n ps,ty,pos,j0,none⟩::os)) ⟨I,ds,O,G,gS⟩ Q:=
 .cons (.buildSlice cells hl h (q _ (HE.set _ _ (e9 _)) (Tr.ia ..)))
theorem oS{a v:Operand}{cells:List Value}{n:Nat}{m:gi}(b off:Nat)(val:Value)(new vs:List Value)(hs:e.T.size t0=some n)(p:val.cells.toList=vs)(hn:(Nat.beq vs.length n&&vs.all one)=true)(hb:O.get b=some (.cells cells m))
 (q:∀j:Ht,HE b O j->j.get b=some (.cells new m)->(∀c,c≠b->j.get c=O.get c)->WO e fm (gW all os) ⟨I,ds,j,G,gS⟩ Q)
 (hl:e.low=0:=by rfl) (u:(fV a).run I=.pointer (some ⟨b,off,none⟩):=by kernel_rfl) (y:(fV v).run I=val:=by kernel_rfl) (hm:m.ro=false:=by rfl) (hg:m.mG=none:=by rfl) (o:mD cells off vs=some new:=by rfl):
 WO e fm (gW all (⟨none,.store t0 a v,ty,pos,j0,none⟩::os)) ⟨I,ds,O,G,gS⟩ Q:=
 .cons (.uR b off val cells new vs n hl u y hs p hn hb hm hg o (q _ (HE.set _ _ (e9 _)) (Tr.ia ..) fun c hc=>Tr.gA _ _ hc))
theorem oZ{a:Operand}{cells:List Value}{m:gi}(b off:Nat)(v:Value)(j:e.T.agg t0=some false)(hb:O.get b=some (.cells cells m))(hc:cells[off]?=some v)(q:WO e fm (gW all os) ⟨I.set d v,ds,O,G,gS⟩ Q)(hx:(fV a).run I=.pointer (some ⟨b,off,none⟩):=by kernel_rfl):
 WO e fm (gW all (⟨some d,.load t0 a,ty,pos,j0,none⟩::os)) ⟨I,ds,O,G,gS⟩ Q:=.cons (.jP b off v hx j hb hc q)
theorem oC{f:FuncId}{l:List Value}{A:Value->Ht->Nat->Prop}(x:Nat)(h:WF e f l O G A)(q:∀v eZ e5,A v eZ e5->WO e fm (gW all os) ⟨I.set x v,ds,eZ,e5,gS⟩ Q)
 (hr:∀rec Z k,(iJ all o).run e rec fm I ds O G Z k=nh e rec f l O G Z (fun v O G Z=>k ⟨I.set x v,ds,O,G,Z⟩):=by intros;kernel_rfl):WO e fm (gW all (o::os)) ⟨I,ds,O,G,gS⟩ Q:=
 .cons (.call x f l hr (h.mono q))
theorem wb{f:FuncId}{l:List Value}{t:Tm}{R:Value->Ht->Nat->Prop}(fi:wj)(hb:WP e ⟨f,fi.nt,none⟩ fi.body ⟨t,[],O,G,[]⟩ fun o b=>Nat.ble o 1=true/\b.ds=[]/\∃vs,mS e.T b.O.get b.I fi.ud=some vs/\R (qE vs) b.O b.G)
 (j:qC zj l Tm.undef=some t:=by rfl) (hk:e.K f=none:=by kernel_rfl) (hf:e.F f=some fi:=by kernel_rfl) (hl:Nat.ble l.length fi.nt=true:=by kernel_rfl):WF e f l O G R:=.body hk hf hl j hb
end
end
end Sw
