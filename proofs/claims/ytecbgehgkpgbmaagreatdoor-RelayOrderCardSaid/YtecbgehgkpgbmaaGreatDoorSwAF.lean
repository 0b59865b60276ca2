/- A part of the proof that the law returns true for every input that its row speaks of. No condition is added. -/
import Derived.Test.YtecbgehgkpgbmaaGreatDoorSwAE
namespace Sw
noncomputable section
open Go Go.RowKit
section
variable {e:Env}{fm:Fm}{to:Tm}{ds:List Deferred}{hp:Ht}{nx:Nat}{cs gW:List Nat}{Q:St->Prop}{all:List Oper}{d:Tmp}{op:Op}{ty:TypeId}{pos:String}{j1:Array Edge}{j:Nat}{w:Bool}
theorem EC{rec:Rec}{k:St->R}(dst:Option Tmp){g:Od}(hg:kn all j=some g):(iH all ⟨dst,op,ty,pos,j1,some (j,w)⟩).run e rec fm to ds hp nx cs k=
 Bool.casesOn (mQ w (g.run to)) (k ⟨(ka dst).run to undef,ds,hp,nx,cs⟩) ((iH all ⟨dst,op,ty,pos,j1,none⟩).run e rec fm to ds hp nx cs k):=by
 unfold iH
 simp only[hg]
theorem WC.gq(b:Bool)(R:Value->Ht->Nat->Prop)(x:Value){g:Od}(hg:kn all j=some g)(hx:g.run to=x)(hw:mQ w x=b)
 (h1:b=true->WC e fm (iH all ⟨some d,op,ty,pos,j1,none⟩) ⟨to,ds,hp,nx,gW⟩ fun s=>∃v fe fg,s=⟨to.set d v,ds,fe,fg,gW⟩/\R v fe fg) (h0:b=false->R undef hp nx)
 (q:∀v fe fg,R v fe fg->Q ⟨to.set d v,ds,fe,fg,gW⟩):WC e fm (iH all ⟨some d,op,ty,pos,j1,some (j,w)⟩) ⟨to,ds,hp,nx,gW⟩ Q:=by
 subst hx
 cases hb:b with
 |true=>
  obtain⟨s1,⟨C,o⟩,v,fe,fg,rfl,hr⟩:=h1 hb
  refine⟨_,⟨C,fun n hn cs k=>?_⟩,q v fe fg hr⟩
  rw[EC _ hg,hw,hb]
  exact o n hn cs k
 |false=>
  refine⟨_,⟨0,fun n _ cs k=>?_⟩,q undef hp nx (h0 hb)⟩
  rw[EC _ hg,hw,hb]
  rfl
theorem WC.gd(b:Bool)(v x:Value){g:Od}(hg:kn all j=some g)(hx:g.run to=x)(hw:mQ w x=b)
 (h1:b=true->WC e fm (iH all ⟨some d,op,ty,pos,j1,none⟩) ⟨to,ds,hp,nx,gW⟩ fun s=>s=⟨to.set d v,ds,hp,nx,gW⟩)
 (q:Q ⟨to.set d (bif b then v else undef),ds,hp,nx,gW⟩):WC e fm (iH all ⟨some d,op,ty,pos,j1,some (j,w)⟩) ⟨to,ds,hp,nx,gW⟩ Q:=by
 refine .gq b (fun v' fe fg=>v'=(bif b then v else undef)/\fe=hp/\fg=nx) x hg hx hw (fun hb=>?_) (fun hb=>⟨by rw[hb];rfl,rfl,rfl⟩) (fun v' fe fg h=>?_)
 · obtain⟨s1,o,rfl⟩:=h1 hb
   exact⟨_,o,v,hp,nx,rfl,by rw[hb];rfl,rfl,rfl⟩
 · obtain⟨rfl,rfl,rfl⟩:=h
   exact q
end
def fO(nx:Nat)(hp:Ht)(A:Value->Prop):Value->Ht->Nat->Prop:=fun v fe fg=>A v/\nx<=fg/\HE nx hp fe
structure SV(α:Type) where
 v:Value
 l:List α
def gA{α:Type}(enc:α->List Value)(n:Nat)(hp:Ht)(nx:Nat)(s:SV α):Prop:=
 (∀x∈s.l,(enc x).length=n)/\((s.l=[]/\(s.v=.slice none 0 0\/∃b,s.v=.slice (some ⟨b,0,none⟩) 0 0))\/∃b cap m,s.v=.slice (some ⟨b,0,none⟩) s.l.length cap/\0<cap/\b<nx/\hp.get b=some (.cells (s.l.flatMap enc) m)/\s.l.length<=cap/\(m.mu=none\/m.unit=n))/\s.l.length<281474976710656
section
variable {α:Type}{enc:α->List Value}{n:Nat}{hp fe:Ht}{nx fg:Nat}{s:SV α}
theorem gA.mono(h:gA enc n hp nx s)(he:HE nx hp fe)(hn:nx<=fg:=by omega):gA enc n fe fg s:=by
 refine⟨h.1,?_,h.2.2⟩
 rcases h.2.1 with h|⟨b,cap,m,h1,h2,h3,h4,j⟩
 · exact .inl h
 · exact .inr ⟨b,cap,m,h1,h2,by omega,he.get h4 h3,j⟩
theorem gA.shape(h:gA enc n hp nx s):∃a c,s.v=.slice a s.l.length c:=by
 rcases h.2.1 with⟨h,h1|⟨q,h1⟩⟩|⟨b,cap,m,h1,_⟩
 · exact⟨none,0,by rw[h1,h];rfl⟩
 · exact⟨some ⟨q,0,none⟩,0,by rw[h1,h];rfl⟩
 · exact⟨_,cap,h1⟩
theorem gA.block{a:Option Addr}{k c:Nat}(h:gA enc n hp nx s)(j:s.v=.slice a k c)(hk:0<s.l.length):∃b m,a=some ⟨b,0,none⟩/\b<nx/\hp.get b=some (.cells (s.l.flatMap enc) m):=by
 rcases h.2.1 with⟨h,_⟩|⟨b,cap,m,h1,h2,h3,h4,_⟩
 · rw[h]at hk;simp at hk
 · rw[j]at h1;cases h1;exact⟨b,m,rfl,h3,h4⟩
theorem gA.kO(h:gA enc n hp nx s)(k:Nat):kY k s.v s.v=true:=by
 rcases h.2.1 with⟨_,h1|⟨q,h1⟩⟩|⟨b,cap,m,h1,_⟩
 · rw[h1];exact xk ..
 · rw[h1];exact qT ..
 · rw[h1];exact qT ..
end
theorem vW(k:IntKind)(z:Int):Sw.one (.int k z)=true:=rfl
theorem yB(b:Bool):Sw.one (.bool b)=true:=rfl
theorem Ft(s:ByteArray):Sw.one (.string s)=true:=rfl
theorem gA.one{α:Type}{enc:α->List Value}{n:Nat}{hp:Ht}{nx:Nat}{s:SV α}(h:gA enc n hp nx s):Sw.one s.v=true:=by
 obtain⟨a,c,e⟩:=h.shape
 rw[e];rfl
theorem ED{α:Type}:∀(xs j:List α),lJ xs.length (xs++j)=some xs
 |[],j=>by cases j<;>rfl
 |x::xs,j=>by
  show(lJ xs.length (xs++j)).map (x::·)=_
  rw[ED xs j];rfl
theorem z_{α:Type}{enc:α->List Value}{n:Nat}:∀(l:List α) (i:Nat) (x:α),(∀y∈l,(enc y).length=n)->l[i]?=some x->∃r,(l.flatMap enc).drop (i*n)=enc x++r
 |[],i,x,_,h=>by simp at h
 |y::l,0,x,_,h=>by
  simp at h;subst h
  exact⟨l.flatMap enc,by simp⟩
 |y::l,i+1,x,hl,h=>by
  obtain⟨r,hr⟩:=z_ l i x (fun z j=>hl z (List.mem_cons_of_mem _ j)) (by simpa using h)
  refine⟨r,?_⟩
  rw[List.flatMap_cons,show(i+1)*n=(enc y).length+i*n by rw[hl y (List.mem_cons_self ..),Nat.succ_mul];omega,<-List.drop_drop,List.drop_left,hr]
theorem Rq{α:Type}{enc:α->List Value}{n:Nat}{l:List α}{i:Nat}{x:α}(hl:∀y∈l,(enc y).length=n)(h:l[i]?=some x):lJ n ((l.flatMap enc).drop (i*n))=some (enc x):=by
 obtain⟨r,hr⟩:=z_ l i x hl h
 have:=hl x (List.mem_of_getElem? h)
 rw[hr]
 subst this
 exact ED _ _
theorem J9{α:Type}{enc:α->List Value}{n:Nat}{l:List α}{i f:Nat}{x:α}(hl:∀y∈l,(enc y).length=n)(h:l[i]?=some x)(hf:f<n):(l.flatMap enc)[i*n+f]?=(enc x)[f]?:=by
 obtain⟨r,hr⟩:=z_ l i x hl h
 have:=hl x (List.mem_of_getElem? h)
 have e:(l.flatMap enc)[i*n+f]?=((l.flatMap enc).drop (i*n))[f]?:=by rw[List.getElem?_drop]
 rw[e,hr,List.getElem?_append_left (by omega)]
theorem boxed(hp:Ht)(nx:Nat)(cells:List Value):∃j,hp.set nx (some (.cells cells gl.plain))=j/\HE nx hp j/\j.get nx=some (.cells cells gl.plain):=
 ⟨_,rfl,HE.set _ _ (Nat.le_refl _),Tr.hY ..⟩
theorem stored(hp:Ht)(b:Nat)(o:jM Tm):∃j,hp.set b (some o)=j/\HE b hp j/\j.get b=some o/\∀c,c≠b->j.get c=hp.get c:=
 ⟨_,rfl,HE.set _ _ (Nat.le_refl _),Tr.hY ..,fun c hc=>Tr.gC _ _ hc⟩
theorem HE.le{B B':Nat}{h1 h2:Ht}(h:HE B h1 h2)(hb:B'<=B):HE B' h1 h2:=fun b k=>h b (by omega)
section
variable {e:Env}{fm:Fm}{to:Tm}{ds:List Deferred}{hp:Ht}{nx:Nat}{gW:List Nat}{Q:St->Prop}{all:List Oper}{d:Tmp}{ty:TypeId}{pos:String}{j1:Array Edge}
theorem WC.Tw{c:Cl}(jA:tH)(hl:e.low=0)(h:∀rec cs k,c.run e rec fm to ds hp nx cs k=tw (fun t _=>t) e.low to ds hp nx cs k (undef,jA,0))(q:Q ⟨to,ds,jg jA hp,nx,gW⟩):WC e fm c ⟨to,ds,hp,nx,gW⟩ Q:=
 ⟨⟨to,ds,jg jA hp,nx,gW⟩,⟨0,fun n _ cs k=>by show c.run e (ev e n) fm to ds hp nx cs k=_;rw[h (ev e n) cs k,hl];simp only[tw,HY,St.at,Nat.add_zero]⟩,q⟩
theorem WC.alloc{el:TypeId}(z:Value)(cells:List Value)(hl:e.low=0)(j:e.T.zero el=some z)(hc:z.cells.toList=cells)(q:Q ⟨to.set d (.pointer (some ⟨nx,0,none⟩)),ds,hp.set nx (some (.cells cells gl.plain)),nx+1,gW⟩):
 WC e fm (iH all ⟨some d,.alloc el,ty,pos,j1,none⟩) ⟨to,ds,hp,nx,gW⟩ Q:=by
 subst hc
 refine .ln d _ [(nx,some (.cells z.cells.toList gl.plain))] 1 hl (fun rec cs k=>?_) q
 have:(iH all ⟨some d,.alloc el,ty,pos,j1,none⟩).run e rec fm to ds hp nx cs k=(match e.T.zero el with|some z=>tw (fun t v=>t.set d v) e.low to ds hp nx cs k (eNew nx z.cells.toList)|none=>.gm 0):=rfl
 rw[this,j];rfl
theorem WC.vi{t:TypeId}{a v:Operand}(b off:Nat)(val:Value)(cells new vs:List Value)(n:Nat){m:gl}(hl:e.low=0)(C:(aaj a).run to=.pointer (some ⟨b,off,none⟩))(I:(aaj v).run to=val)(hs:e.T.size t=some n)(o:val.cells.toList=vs)
 (hn:(Nat.beq vs.length n&&vs.all one)=true) (hb:hp.get b=some (.cells cells m)) (hm:m.ro=false) (hg:m.mu=none) (j:mo cells off vs=some new) (q:Q ⟨to,ds,hp.set b (some (.cells new m)),nx,gW⟩):
 WC e fm (iH all ⟨none,.store t a v,ty,pos,j1,none⟩) ⟨to,ds,hp,nx,gW⟩ Q:=by
 subst I o
 refine .Tw [(b,some (.cells new m))] hl (fun rec cs k=>?_) q
 have:(iH all ⟨none,.store t a v,ty,pos,j1,none⟩).run e rec fm to ds hp nx cs k=yp (wG e.T hp.get t ((aaj a).run to) ((aaj v).run to)) (tw (fun t _=>t) e.low to ds hp nx cs k):=rfl
 rw[this,C]
 have:wG e.T hp.get t (.pointer (some ⟨b,off,none⟩)) ((aaj v).run to)=some [(b,some (.cells new m))]:=by
  simp only[wG,hb,hs,hn,cond_true,nU,hm,cond_false,j,Option.bind_some,hg]
 rw[this];rfl
end
theorem jd(n:Nat)(b:Bool):kY n (.bool b) (.bool b)=true:=by cases n<;>cases b<;>rfl
theorem xm(n:Nat)(s:ByteArray):kY n (.string s) (.string s)=true:=by
 have:wm (strs s) (strs s)=true:=by rw[wI];simp
 cases n<;>simp only[kY,this]
theorem VM(n:Nat)(x:Array Value)(h:∀v∈x.toList,kY n v v=true):kY (n+1) (.tuple x) (.tuple x)=true:=by
 simp only[kY,EB _ h]
theorem yC{x y:Int}:DA x y=true↔x<=y:=by rw[Lz];simp
theorem Fu{x y:Int}:(!(km x y))=true↔x≠y:=by rw[DZ];simp
theorem WP.scope{e:Env}{fm:Fm}{s:St}{W:Nat->St->Prop}{c:Code}(h:WP e fm c s W):WP e fm (.scope c) s W:=by
 obtain⟨o,j,h1,h2⟩:=h;exact⟨o,j,h1.scope,h2⟩
def gb(a:Option Addr):Nat:=(a.map (·.block)).getD 0
section
variable {α:Type}{enc:α->List Value}{n:Nat}{hp fe:Ht}{nx fg:Nat}{s:SV α}
theorem gA.ue{a:Option Addr}{k c:Nat}(h:gA enc n hp nx s)(j:s.v=.slice a k c)(hk:0<s.l.length):a=some ⟨gb a,0,none⟩:=by
 obtain⟨b,m,rfl,_⟩:=h.block j hk;rfl
theorem gA.pq{a:Option Addr}{k c:Nat}(h:gA enc n hp nx s)(j:s.v=.slice a k c)(hk:0<s.l.length):∃m,hp.get (gb a)=some (.cells (s.l.flatMap enc) m):=by
 obtain⟨b,m,rfl,_,h1⟩:=h.block j hk;exact⟨m,h1⟩
end
theorem pF{α:Type}{enc:α->List Value}{n:Nat}{l:List α}{i f:Nat}{x:α}{v:Value}(hl:∀y∈l,(enc y).length=n)(h:l[i]?=some x)(hf:f<n)(j:(enc x)[f]?=some v):(l.flatMap enc)[0+i*n+f]?=some v:=by
 rw[Nat.zero_add,J9 hl h hf,j]
theorem yD{α:Type}{enc:α->List Value}{l:List α}{i:Nat}{x:α}{v:Value}(hl:∀y∈l,(enc y).length=1)(h:l[i]?=some x)(j:(enc x)[0]?=some v):(l.flatMap enc)[0+i*1]?=some v:=by
 have:=pF hl h (by decide) j
 rwa[Nat.add_zero]at this
theorem w4{α:Type}{enc:α->List Value}{n:Nat}{l:List α}{i:Nat}{x:α}(hl:∀y∈l,(enc y).length=n)(h:l[i]?=some x):lJ n ((l.flatMap enc).drop (0+i*n))=some (enc x):=by
 rw[Nat.zero_add];exact Rq hl h
theorem uf{T:Ty}{hp:Hp}{t:TypeId}{b o:Nat}{cells:List Value}{v:Value}(j:T.agg t=some false)(hb:∃m,hp b=some (.cells cells m))(hc:cells[o]?=some v):kB T hp t (.pointer (some ⟨b,o,none⟩))=some v:=by
 obtain⟨m,hb⟩:=hb;exact ko j hb hc
theorem Aa{T:Ty}{hp:Hp}{t:TypeId}{b o n:Nat}{cells l:List Value}(j:T.agg t=some true)(hs:T.size t=some n)(hb:∃m,hp b=some (.cells cells m))(hc:lJ n (cells.drop o)=some l):kB T hp t (.pointer (some ⟨b,o,none⟩))=some (.agg l.toArray):=by
 obtain⟨m,hb⟩:=hb;exact lF j hs hb hc
theorem oH{T:Ty}{t el:TypeId}{a:Option Addr}{len c i s:Nat}{k:IntKind}(hu:T.ji t=some (.slice el))(hs:T.size el=some s)(j:a=some ⟨gb a,0,none⟩)(hi:i<len):lh T t (.slice a len c) (.int k (.ofNat i))=some (.pointer (some ⟨gb a,0+i*s,none⟩)):=by
 generalize hb:gb a=b at j
 subst j
 exact KI hu hs hi
section
variable {e:Env}{fm:Fm}{to:Tm}{ds:List Deferred}{hp:Ht}{nx:Nat}{gW:List Nat}{Q:St->Prop}{all:List Oper}{d:Tmp}{ty:TypeId}{pos:String}{j1:Array Edge}
theorem WC.sC{t:TypeId}{a:Operand}(b o:Nat)(v:Value){cells:List Value}(hx:(aaj a).run to=.pointer (some ⟨b,o,none⟩))(j:e.T.agg t=some false)(hb:∃m,hp.get b=some (.cells cells m))(hc:cells[o]?=some v)(q:Q ⟨to.set d v,ds,hp,nx,gW⟩):
 WC e fm (iH all ⟨some d,.load t a,ty,pos,j1,none⟩) ⟨to,ds,hp,nx,gW⟩ Q:=by
 obtain⟨m,hb⟩:=hb;exact .jX b o v hx j hb hc q
theorem WC.EE{t:TypeId}{a:Operand}(b o:Nat)(l:List Value){n:Nat}{cells:List Value}(hx:(aaj a).run to=.pointer (some ⟨b,o,none⟩))(j:e.T.agg t=some true)(hs:e.T.size t=some n)(hb:∃m,hp.get b=some (.cells cells m))(hc:lJ n (cells.drop o)=some l)(q:Q ⟨to.set d (.agg l.toArray),ds,hp,nx,gW⟩):
 WC e fm (iH all ⟨some d,.load t a,ty,pos,j1,none⟩) ⟨to,ds,hp,nx,gW⟩ Q:=by
 obtain⟨m,hb⟩:=hb;exact .jb b o l hx j hs hb hc q
theorem WC.ix{t el:TypeId}{x j:Operand}(a:Option Addr)(len c i s:Nat){k:IntKind}(hx:(aaj x).run to=.slice a len c)(hj:(aaj j).run to=.int k (.ofNat i))(hu:e.T.ji t=some (.slice el))(hs:e.T.size el=some s)(o:a=some ⟨gb a,0,none⟩)(hi:i<len)(q:Q ⟨to.set d (.pointer (some ⟨gb a,0+i*s,none⟩)),ds,hp,nx,gW⟩):
 WC e fm (iH all ⟨some d,.indexAddr t x j,ty,pos,j1,none⟩) ⟨to,ds,hp,nx,gW⟩ Q:=
 .opt d (lh e.T t ((aaj x).run to) ((aaj j).run to)) (fun _ _ _=>rfl) (by rw[hx,hj];exact oH hu hs o hi) q
end
section
variable {T:Ty}{hp:Ht}{nx:Nat}{to:Tm}{c:s6}
theorem mW(v:Value)(h:∀k,c.run T hp nx to k=bif kY 8 v v then k else .gm 0)(j:kY 8 v v=true)(k:R):c.run T hp nx to k=k:=by
 rw[h,j];rfl
theorem r9(v:Value)(o:Option Value)(h:∀k,c.run T hp nx to k=kF o (fun x=>bif kY 8 x v then k else .gm 0))(j:o=some v)(C:kY 8 v v=true)(k:R):c.run T hp nx to k=k:=by
 rw[h,j];simp only[kF,C,cond_true]
end
def gk(P:Prop):Value->Prop:=fun v=>∃c:Bool,v=.bool c/\(c=true↔P)
def C8(z:Int):Value->Prop:=fun v=>v=.int .i64 z
def GB(b:Bool)(P:Prop)(nx:Nat)(hp:Ht):Value->Ht->Nat->Prop:=fun v fe fg=>(∃c:Bool,v=(bif b then .bool c else undef)/\(c=true↔P))/\nx<=fg/\HE nx hp fe
theorem GB.off{b:Bool}{P:Prop}{nx:Nat}{hp:Ht}(h:b=false):GB b P nx hp undef hp nx:=
 ⟨⟨@decide P (Classical.propDecidable P),by rw[h];rfl,by simp⟩,Nat.le_refl _,HE.refl _ _⟩
def GV(b:Bool)(x:Value)(nx:Nat)(hp:Ht):Value->Ht->Nat->Prop:=fun v fe fg=>v=(bif b then x else undef)/\nx<=fg/\HE nx hp fe
theorem GV.off{b:Bool}{x:Value}{nx:Nat}{hp:Ht}(h:b=false):GV b x nx hp undef hp nx:=
 ⟨by rw[h];rfl,Nat.le_refl _,HE.refl _ _⟩
def encI(z:Int):List Value:=[.int .i64 z]
def Y4(b:Bool):List Value:=[.bool b]
def Y5(s:ByteArray):List Value:=[.string s]
def lG{α:Type}(s:SV α):List Value:=[s.v]
instance {α:Type}:Inhabited (SV α):=⟨⟨.nilIface,[]⟩⟩
def jt{α:Type}(enc:α->List Value)(n:Nat)(E:Ht->Nat->α->Prop)(hp:Ht)(nx:Nat)(s:SV α):Prop:=gA enc n hp nx s/\∀x∈s.l,E hp nx x
theorem jt.mono{α:Type}{enc:α->List Value}{n:Nat}{E:Ht->Nat->α->Prop}{hp fe:Ht}{nx fg:Nat}{s:SV α}(h:jt enc n E hp nx s)(hE:∀x,E hp nx x->HE nx hp fe->nx<=fg->E fe fg x)(he:HE nx hp fe)(hn:nx<=fg:=by omega):jt enc n E fe fg s:=
 ⟨h.1.mono he hn,fun x hx=>hE x (h.2 x hx) he hn⟩
theorem wrapN{n:Nat}(h:n<9223372036854775808):gD .i64 (.ofNat n)=.ofNat n:=by
 have h1:qO .i64 (.ofNat n)=n:=Nat.mod_eq_of_lt (show n<18446744073709551616 by omega)
 have h2:Nat.ble 9223372036854775808 n=false:=by
  cases hb:Nat.ble 9223372036854775808 n with
  |false=>rfl
  |true=>have:=Nat.le_of_ble_eq_true hb;omega
 unfold gD
 rw[h1]
 unfold wV
 show(bif Nat.ble 9223372036854775808 n then _ else Int.ofNat n)=_
 rw[h2];rfl
theorem gU{i j:Nat}(h:i+j<9223372036854775808):gD .i64 (.ofNat i+.ofNat j)=.ofNat (i+j):=wrapN h
theorem Av{i j:Nat}(h:i<9223372036854775808)(hj:j<=i):gD .i64 (.ofNat i-.ofNat j)=.ofNat (i-j):=by
 have:(Int.ofNat i-Int.ofNat j:Int)=.ofNat (i-j):=by
  show(i:Int)-(j:Int)=((i-j:Nat):Int)
  omega
 rw[this];exact wrapN (by omega)
def pM{α:Type}(l:List α)(A:α->Prop):Value->Prop:=fun v=>(v=.int .i64 (-1)/\∀x∈l,¬A x)\/∃(i:Nat) (x:α),v=.int .i64 (.ofNat i)/\l[i]?=some x/\A x/\∀(j:Nat) (y:α),j<i->l[j]?=some y->¬A y
theorem pM.sign{α:Type}{l:List α}{A:α->Prop}{v:Value}(h:pM l A v):∃z:Int,v=.int .i64 z/\(0<=z↔∃x∈l,A x):=by
 rcases h with⟨rfl,h⟩|⟨i,x,rfl,h1,h2,_⟩
 · exact⟨-1,rfl,by simp;exact h⟩
 · exact⟨.ofNat i,rfl,⟨fun _=>⟨x,List.mem_of_getElem? h1,h2⟩,fun _=>Int.natCast_nonneg i⟩⟩
def Ml(k:Int)(P:Prop):Value->Prop:=fun v=>∃z:Int,v=.int .i64 z/\(z=0↔P)/\(z=0\/z=k)
def GC(b:Bool)(k:Int)(P:Prop)(nx:Nat)(hp:Ht):Value->Ht->Nat->Prop:=fun v fe fg=>(∃z:Int,v=(bif b then .int .i64 z else undef)/\(z=0↔P)/\(z=0\/z=k))/\nx<=fg/\HE nx hp fe
theorem gA.mO{α:Type}{enc:α->List Value}{n:Nat}{l:List α}{hp:Ht}{nx b c:Nat}{m:gl}{cells:List Value}(hl:∀x∈l,(enc x).length=n)(hb:hp.get b=some (.cells cells m))(hc:cells=l.flatMap enc)(h0:0<c)(jz:b<nx)(hs:l.length<281474976710656)(j:l.length<=c:=by simp)(hm:m.mu=none\/m.unit=n:=by exact .inl rfl):
 gA enc n hp nx ⟨.slice (some ⟨b,0,none⟩) l.length c,l⟩:=
 ⟨hl,.inr ⟨b,c,m,rfl,h0,jz,by rw[hb,hc],j,hm⟩,hs⟩
theorem lE{c y:Bool}{b:Value}(h:c=false->b=.bool y):lA (.bool c) (.bool true) b=some (.bool (c||y)):=by
 cases c with
 |true=>rfl
 |false=>rw[h rfl];rfl
theorem s_{c x:Bool}{a:Value}(h:c=true->a=.bool x):lA (.bool c) a (.bool false)=some (.bool (c&&x)):=by
 cases c with
 |true=>rw[h rfl];rfl
 |false=>rfl
theorem Xa{fl:Bool}{T:Ty}{hp:Ht}{nx:Nat}{to:Tm}{all:List Oper}{i j:Nat}{w:Bool}{d:Tmp}{op:Op}{ty:TypeId}{pos:String}{j1:Array Edge}(b:Bool)(v x:Value){g:Od}(hn:m_ i all=some ⟨some d,op,ty,pos,j1,some (j,w)⟩)(hg:kn all j=some g)(hx:g.run to=x)(hw:mQ w x=b)
 (hd:to.get d=(bif b then v else undef)) (h1:b=true->∀k,(wW fl ⟨some d,op,ty,pos,j1,none⟩).run T hp nx to k=k) (k:R):(uV fl all i).run T hp nx to k=k:=by
 subst hx
 unfold uV
 simp only[hn]
 unfold Gy
 simp only[hg]
 show(Bool.casesOn (mQ w (g.run to)) (bif Ao (some d) to then k else .gm 0) ((wW fl ⟨some d,op,ty,pos,j1,some (j,w)⟩).run T hp nx to k):R)=k
 rw[hw]
 cases b with
 |true=>exact h1 rfl k
 |false=>
  have:Ao (some d) to=true:=by show kY 8 undef (to.get d)=true;rw[hd];rfl
  show(bif Ao (some d) to then k else .gm 0)=k
  rw[this];rfl
end
end Sw
namespace Sw
noncomputable section
open Go Go.RowKit
theorem jh.val{e:Env}{c:s6}{l:List s6}{to:Tm}{ds:List Deferred}{hp:Ht}{nx:Nat}{gW:List Nat}(v:Value)(h:∀k,c.run e.T hp nx to k=bif kY 8 v v then k else .gm 0)(j:kY 8 v v=true)(hl:jh e l ⟨to,ds,hp,nx,gW⟩):jh e (c::l) ⟨to,ds,hp,nx,gW⟩:=
 .cons (fun k=>by show c.run e.T hp nx to k=k;rw[h,j];rfl) hl
theorem jh.opt{e:Env}{c:s6}{l:List s6}{to:Tm}{ds:List Deferred}{hp:Ht}{nx:Nat}{gW:List Nat}(v:Value)(o:Option Value)(h:∀k,c.run e.T hp nx to k=kF o (fun x=>bif kY 8 x v then k else .gm 0))(j:o=some v)(C:kY 8 v v=true)(hl:jh e l ⟨to,ds,hp,nx,gW⟩):jh e (c::l) ⟨to,ds,hp,nx,gW⟩:=
 .cons (fun k=>by show c.run e.T hp nx to k=k;rw[h,j];simp only[kF,C,cond_true]) hl
theorem jh.new{e:Env}{c:s6}{l:List s6}{to:Tm}{ds:List Deferred}{hp:Ht}{nx:Nat}{gW:List Nat}(m:Nat)(v:Value)(cs:List Value)(h:∀k,c.run e.T hp nx to k=(match hp.get m with|some (.cells lv o)=>bif kY 8 v v&&(ub (kY 8) cs lv&&Cj o)then k else .gm 0|_=>.gm 0))(hm:hp.get m=some (.cells cs gl.plain))(j:kY 8 v v=true)(hc:ub (kY 8) cs cs=true)(hl:jh e l ⟨to,ds,hp,nx,gW⟩):jh e (c::l) ⟨to,ds,hp,nx,gW⟩:=
 .cons (fun k=>by show c.run e.T hp nx to k=k;rw[h,hm];simp only[j,hc];rfl) hl
theorem Sl.kY{B size nx l:Nat}{hp:Ht}{v:Value}{xs:List Value}(h:Sl B size hp nx v l xs):kY 8 v v=true:=by
 cases h with
 |nil=>exact xk ..
 |plain=>exact qT ..
 |grown=>exact qT ..
theorem WP.Ye{fl:Bool}{e:Env}{fm:Fm}{s:St}{W:Nat->St->Prop}{id:Nat}{ops:Array Oper}(rT:List vF)(hs:(xD fl ops.toList).rT=rT)(h:WD e fm (zN fl ops.toList rT) s (W 0))(hf:vH ops.toList=fl:=by kernel_rfl):WP e fm (.region id ops true) s W:=by
 subst hf;subst hs;exact .draw h
theorem WP.sM{e:Env}{fm:Fm}{s:St}{W:Nat->St->Prop}{id:Nat}{ops:Array Oper}(rT:List vF)(hs:(xD false ops.toList).rT=rT)(cls:List JO)(hc:zN false ops.toList rT=cls)(h:WD e fm cls s (W 0))(hf:vH ops.toList=false:=by kernel_rfl):WP e fm (.region id ops true) s W:=by
 subst hc;exact .Ye rT hs h hf
theorem J_{fl:Bool}{all:List Oper}{i:Nat}{o:Oper}(h:m_ i all=some o)(hc:(fl&&pz o.op)=false):pD fl all i=iH all o:=by
 simp only[pD,h,sT,hc];rfl
theorem WN.ic{fl:Bool}{e:Env}{fm:Fm}{s:St}{Q:St->Prop}{all:List Oper}{i:Nat}{o:Oper}{l:List Cl}(h:m_ i all=some o)(k:WC e fm (iH all o) s fun s1=>WN e fm l s1 Q)(hc:(fl&&pz o.op)=false:=by rfl):WN e fm (pD fl all i::l) s Q:=by
 refine .cons ?_
 rw[J_ h hc];exact k
theorem WC.at{fl:Bool}{e:Env}{fm:Fm}{s:St}{Q:St->Prop}{all:List Oper}{i:Nat}{o:Oper}(h:m_ i all=some o)(k:WC e fm (iH all o) s Q)(hc:(fl&&pz o.op)=false:=by rfl):WC e fm (pD fl all i) s Q:=by
 rw[J_ h hc];exact k
theorem tM{T:Ty}{hp:Hp}{t:Tm}{a:Nat}{ty:TypeId}{v:Value}(h:kB T hp ty ((aaj (.tmp a)).run t)=some v):mH T hp t [.cell a ty]=some [v]:=by
 simp only[mH,h]
theorem qU{a b:ByteArray}:wm (strs a) (strs b)=true↔a=b:=by
 rw[wI]
 simp only[beq_iff_eq]
 constructor
 · intro h
   cases a;cases b
   have h:Array.toList _=Array.toList _:=h
   exact congrArg ByteArray.mk (Array.toList_inj.1 h)
 · rintro rfl;rfl
theorem Rr{a b:ByteArray}:(!(wm (strs a) (strs b)))=true↔a≠b:=by
 rw[Bool.not_eq_true',<-Bool.not_eq_true,qU]
def Yf(P:Prop):Value->Prop:=fun v=>∃z:Int,v=.int .i64 z/\(z=0↔P)
def Fv(x:Value):Value->Prop:=fun v=>v=x
def Je(P:Prop):Value->Prop:=fun v=>∃c:Bool,v=.bool c/\(c=true->P)
def GI(b:Bool)(P:Prop)(nx:Nat)(hp:Ht):Value->Ht->Nat->Prop:=fun v fe fg=>(∃c:Bool,v=(bif b then .bool c else undef)/\(c=true->P))/\nx<=fg/\HE nx hp fe
theorem GI.off{b:Bool}{P:Prop}{nx:Nat}{hp:Ht}(h:b=false):GI b P nx hp undef hp nx:=
 ⟨⟨false,by rw[h];rfl,fun h=>by cases h⟩,Nat.le_refl _,HE.refl _ _⟩
def Y6{α:Type}(l:List α)(A:α->Prop)(z:Int):Prop:=(z=-1/\∀x∈l,¬A x)\/∃(i:Nat) (x:α),z=.ofNat i/\l[i]?=some x/\A x/\∀(j:Nat) (y:α),j<i->l[j]?=some y->¬A y
theorem pM.num{α:Type}{l:List α}{A:α->Prop}{v:Value}(h:pM l A v):∃z:Int,v=.int .i64 z/\Y6 l A z:=by
 rcases h with⟨rfl,h⟩|⟨i,x,rfl,h⟩
 · exact⟨_,rfl,.inl ⟨rfl,h⟩⟩
 · exact⟨_,rfl,.inr ⟨i,x,rfl,h⟩⟩
end
end Sw
namespace Sw
noncomputable section
open Go Go.RowKit
theorem Mm{α:Type}:∀(vs cs:List α),vs.length<=cs.length->vJ cs vs=some (vs++cs.drop vs.length)
 |[],cs,_=>by cases cs<;>rfl
 |v::vs,[],h=>by simp at h
 |v::vs,c::cs,h=>by simp[vJ,Mm vs cs (by simpa using h)]
theorem HZ{α:Type}:∀(xs rest j:List α),j.length<=rest.length->mo (xs++rest) xs.length j=some (xs++(j++rest.drop j.length))
 |[],rest,j,h=>by
  have:=Mm j rest h
  cases rest<;>simpa[mo]using this
 |x::xs,rest,j,h=>by
  show(mo (xs++rest) xs.length j).map (x::·)=_
  rw[HZ xs rest j h];rfl
inductive Rm(B size N:Nat)(hp:Ht)(nx:Nat):Value->Nat->List Value->Prop where
 |nil (h:N=0):Rm B size N hp nx (.slice none 0 0) 0 []
 |room {b l gr:Nat} {xs rest:List Value} (h0:0<N) (hb:hp.get b=some (.cells (xs++rest) ⟨false,some gr,0,size⟩)) (hg:hp.get gr=some (.group [⟨b,0,N*size⟩])) (hn:gr≠b)
   (h1:b<nx) (h2:B<=b) (h3:gr<nx) (h4:B<=gr) (hl:xs.length=l*size) (hr:xs.length+rest.length=N*size) (hle:l<=N):Rm B size N hp nx (.slice (some ⟨b,0,none⟩) l N) l xs
theorem Rm.mono{B size N nx fg l:Nat}{hp fe:Ht}{v:Value}{xs:List Value}(h:Rm B size N hp nx v l xs)(he:HE nx hp fe)(hn:nx<=fg):Rm B size N fe fg v l xs:=by
 cases h with
 |nil h=>exact .nil h
 |room h0 hb hg jG h1 h2 h3 h4 hl hr hle=>exact .room h0 (he.get hb h1) (he.get hg h3) jG (by omega) h2 (by omega) h4 hl hr hle
theorem Rm.le{B B' size N nx l:Nat}{hp:Ht}{v:Value}{xs:List Value}(h:Rm B size N hp nx v l xs)(j:B'<=B):Rm B' size N hp nx v l xs:=by
 cases h with
 |nil h=>exact .nil h
 |room h0 hb hg jG h1 h2 h3 h4 hl hr hle=>exact .room h0 hb hg jG h1 (by omega) h3 (by omega) hl hr hle
def P_(hp:Hp)(a:Option Addr)(l m c size:Nat)(j:List Value):Option pR:=
 match a,j with
 |_,[]=>some (.slice a (l+m) c,[],0)
 |some ⟨b,off,none⟩,new=>match hp b with
  |some (.cells cs mt)=>(nU hp b cs mt (off+l*size) new).map fun u=>(.slice a (l+m) c,u,0)
  |_=>none
 |_,_=>none
theorem Rm.append{T:Ty}{B size N nx l m st xt el:Nat}{hp:Ht}{v x z:Value}{inf:TypeInfo}{xs j:List Value}(h:Rm B size N hp nx v l xs)(hu:T.ji st=some (.slice el))(hs:T.size el=some size)(af:T.zero el=some z)(hi:T.info el=some inf)
 (hx:pn T xt x=some (m,false)) (J:lK hp.get (m*size) x=some j) (R:tZ size x=true) (C:j.length=m*size) (I:j.all one=true) (ad:0<size) (o:l+m<=N)
 (b1:(l+m)*inf.bytes<=70368744177664) (b2:inf.bytes<=1073741824) (ae:l+m<=70368744177664):
 ∃v' jA,jZ T hp.get st xt v x nx=some (v',jA,0)/\Rm B size N (jg jA hp) nx v' (l+m) (xs++j)/\HE B hp (jg jA hp):=by
 have e1:∀a c,l+m<=c->jZ T hp.get st xt (.slice a l c) x nx=P_ hp.get a l m c size j:=fun a c hc=>by
  have:(jZ T hp.get st xt (.slice a l c) x nx)=P_ hp.get a l m c size j:=by
   simp only[jZ,hu,hs,af,hi,hx,ml,cond_false,R,cond_true,J,Option.bind_some,I,Nat.ble_eq_true_of_le b1,Nat.ble_eq_true_of_le b2,Nat.ble_eq_true_of_le ae,Bool.and_true,Nat.ble_eq_true_of_le hc]
   cases a<;>cases j<;>rfl
  exact this
 cases h with
 |nil h=>
  obtain rfl:m=0:=by omega
  obtain rfl:j=[]:=List.eq_nil_of_length_eq_zero (by omega)
  refine⟨_,_,(e1 none 0 (by omega)).trans rfl,.nil h,HE.refl _ _⟩
 |@room b _ gr _ rest h0 hb hg jG h1 h2 h3 h4 hl hr hle=>
  cases j with
  |nil=>
   obtain rfl:m=0:=by
    rcases Nat.eq_zero_or_pos m with h|h
    · exact h
    · have:=Nat.mul_pos h ad;simp at C;omega
   refine⟨_,_,(e1 (some ⟨b,0,none⟩) N (by omega)).trans rfl,?_,HE.refl _ _⟩
   rw[List.append_nil]
   exact .room h0 hb hg jG h1 h2 h3 h4 hl hr hle
  |cons y j=>
   have hlen:(y::j).length<=rest.length:=by
    have:(l+m)*size<=N*size:=Nat.mul_le_mul_right _ o
    rw[Nat.add_mul]at this;omega
   have U:∀lo hi,overlaps b lo hi ⟨b,0,N*size⟩=false:=fun lo hi=>by
    simp[overlaps]
   have ab:nU hp.get b (xs++rest) ⟨false,some gr,0,size⟩ (0+l*size) (y::j)=some [(gr,some (.group [⟨b,0,N*size⟩])),(b,some (.cells (xs++(y::j++rest.drop (y::j).length)) ⟨false,some gr,0,size⟩))]:=by
    have aa:mo (xs++rest) (0+l*size) (y::j)=some (xs++(y::j++rest.drop (y::j).length)):=by
     rw[Nat.zero_add,<-hl];exact HZ xs rest (y::j) hlen
    simp only[nU,aa,cond_false,Option.bind_some,hg,nT,mN,List.filter_cons,List.filter_nil,U,Bool.false_eq_true,if_false,List.all_nil,cond_true,List.map_nil,List.nil_append,Bool.not_false,if_true]
   refine⟨.slice (some ⟨b,0,none⟩) (l+m) N,[(gr,some (.group [⟨b,0,N*size⟩])),(b,some (.cells (xs++(y::j++rest.drop (y::j).length)) ⟨false,some gr,0,size⟩))],(e1 (some ⟨b,0,none⟩) N o).trans (by simp only[P_,hb,ab,Option.map_some]),?_,?_⟩
   · simp only[jg]
     refine .room (rest:=rest.drop (y::j).length) h0 (by rw[List.append_assoc];exact Tr.hY ..) ((Tr.gC _ _ (by omega)).trans (Tr.hY ..)) jG h1 h2 h3 h4 (by rw[List.length_append,hl,C,Nat.add_mul]) ?_ o
     rw[List.length_append,List.length_drop];omega
   · exact(HE.set _ _ h4).trans (HE.set _ _ h2) (Nat.le_refl _)
section
variable {e:Env}{fm:Fm}{to:Tm}{ds:List Deferred}{hp:Ht}{nx:Nat}{gW:List Nat}{Q:St->Prop}{all:List Oper}{d:Tmp}{ty:TypeId}{pos:String}{j1:Array Edge}
theorem WC.OU{st xt el:TypeId}{x y:Operand}{B l m size N:Nat}{v w z:Value}{inf:TypeInfo}{xs j:List Value}(hl:e.low=0)(hx:(aaj x).run to=v)(hy:(aaj y).run to=w)(h:Rm B size N hp nx v l xs)
 (hu:e.T.ji st=some (.slice el)) (hs:e.T.size el=some size) (ae:e.T.zero el=some z) (hi:e.T.info el=some inf) (ab:pn e.T xt w=some (m,false)) (C:lK hp.get (m*size) w=some j) (I:tZ size w=true) (aa:j.length=m*size) (o:j.all one=true)
 (U:0<size) (R:l+m<=N) (b1:inf.bytes<=1024) (af:N<=1048576)
 {qP:Array TypeId} (ad:qP=#[st,xt]) (q:∀v' fe,HE B hp fe->Rm B size N fe nx v' (l+m) (xs++j)->Q ⟨to.set d v',ds,fe,nx,gW⟩):
 WC e fm (iH all ⟨some d,.call {callee:=.builtin .append,args:=#[x,y],argTypes:=qP},ty,pos,j1,none⟩) ⟨to,ds,hp,nx,gW⟩ Q:=by
 subst ad
 have J:(l+m)*inf.bytes<=70368744177664:=Nat.le_trans (Nat.mul_le_mul (show l+m<=1048577 by omega) b1) (by decide)
 obtain⟨v',jA,h1,h2,h3⟩:=h.append hu hs ae hi ab C I aa o U R J (by omega) (by omega)
 refine .Mk d (jZ e.T hp.get st xt v w nx) hl (fun _ _ _=>?_) h1 (q _ _ h3 h2)
 rw[<-hx,<-hy];rfl
end
theorem Ka(c:List Value):∀n,(kC n c).length=n*c.length
 |0=>by simp[kC]
 |n+1=>by simp only[kC,List.length_append,Ka c n,Nat.succ_mul];omega
theorem Kb{c:List Value}(h:c.all one=true):∀n,(kC n c).all one=true
 |0=>rfl
 |n+1=>by simp only[kC,List.all_append,h,Kb h n,Bool.and_self]
theorem KJ{T:Ty}{hp:Hp}{st xt el nx n size:Nat}{z:Value}{inf:TypeInfo}(hu:T.ji st=some (.slice el))(hs:T.size el=some size)(I:T.zero el=some z)(hi:T.info el=some inf)(hx:pn T xt (.int .i64 (.ofNat n))=some (n,true))(h0:0<n)
 (o:z.cells.toList.all one=true) (b1:inf.bytes<=1024) (J:n<=1048576):
 jZ T hp st xt (.slice none 0 0) (.int .i64 (.ofNat n)) nx=some (.slice (some ⟨nx+1,0,none⟩) n n,[(nx,some (jM.group [⟨nx+1,0,(kC n z.cells.toList).length⟩])),(nx+1,some (jM.cells (kC n z.cells.toList) ⟨false,some nx,0,size⟩))],2):=by
 have C:n*inf.bytes<=70368744177664:=Nat.le_trans (Nat.mul_le_mul (show n<=1048577 by omega) b1) (by decide)
 have j:Nat.ble n 0=false:=by
  cases hb:Nat.ble n 0 with
  |false=>rfl
  |true=>have:=Nat.le_of_ble_eq_true hb;omega
 simp only[jZ,hu,hs,I,hi,hx,ml,cond_true,Option.bind_some,Kb o,Nat.zero_add,Nat.ble_eq_true_of_le C,Nat.ble_eq_true_of_le (show inf.bytes<=1073741824 by omega),Nat.ble_eq_true_of_le (show n<=70368744177664 by omega),Bool.and_true,j,cond_false,pC]
theorem N7{T:Ty}{hp:Hp}{t el b l N s gr:Nat}{cells:List Value}(hu:T.ji t=some (.slice el))(hs:T.size el=some s)(hb:hp b=some (.cells cells ⟨false,some gr,0,s⟩))(hle:l<=N):
 sy T hp t (.slice (some ⟨b,0,none⟩) l N) none (some (.int .i64 0)) none=some (.slice (some ⟨b,0,none⟩) 0 N):=by
 have h1:vM l N none (some (.int .i64 0)) none=some (0,0,N):=by
  cases N<;>rfl
 simp only[sy,hu,hs,AE,hb,Nat.ble_eq_true_of_le hle,Nat.beq_refl,Bool.or_true,Bool.and_self,cond_true,Option.bind_some,h1,Option.map_some,Nat.zero_mul,Nat.add_zero,Nat.sub_zero]
theorem Rm.fresh{hp:Ht}{nx n size:Nat}{c:List Value}(h0:0<n)(hc:c.length=size):Rm nx size n (jg [(nx,some (jM.group [⟨nx+1,0,(kC n c).length⟩])),(nx+1,some (jM.cells (kC n c) ⟨false,some nx,0,size⟩))] hp) (nx+2) (.slice (some ⟨nx+1,0,none⟩) 0 n) 0 []:=by
 simp only[jg]
 have hl:(kC n c).length=n*size:=by rw[Ka,hc]
 refine .room (gr:=nx) (rest:=kC n c) h0 (Tr.hY ..) (by rw[<-hl];exact(Tr.gC _ _ (by omega)).trans (Tr.hY ..)) (by omega) (by omega) (by omega) (by omega) (by omega) (by simp) (by simpa using hl) (Nat.zero_le _)
theorem Rm.VN{hp:Ht}{nx n size:Nat}{c:List Value}:HE nx hp (jg [(nx,some (jM.group [⟨nx+1,0,(kC n c).length⟩])),(nx+1,some (jM.cells (kC n c) ⟨false,some nx,0,size⟩))] hp):=
 (HE.set _ _ (Nat.le_refl _)).trans (HE.set _ _ (Nat.le_succ _)) (Nat.le_refl _)
theorem nm{α:Type}{enc:α->List Value}{n:Nat}:∀(l:List α),(∀y∈l,(enc y).length=n)->(l.flatMap enc).length=l.length*n
 |[],_=>by simp
 |y::l,h=>by
  rw[List.flatMap_cons,List.length_append,nm l (fun z j=>h z (List.mem_cons_of_mem _ j)),h y (List.mem_cons_self ..),List.length_cons,Nat.succ_mul];omega
theorem Rm.ok{α:Type}{enc:α->List Value}{B n N l:Nat}{hp:Ht}{nx:Nat}{v:Value}{xs:List Value}{L:List α}(h:Rm B n N hp nx v l xs)(hl:l=N)(hx:xs=L.flatMap enc)(j:L.length=N)(he:∀x∈L,(enc x).length=n)(C:N<281474976710656):gA enc n hp nx ⟨v,L⟩:=by
 refine⟨he,?_,by show L.length<_;omega⟩
 cases h with
 |nil h=>exact .inl ⟨List.eq_nil_of_length_eq_zero (show L.length=0 by omega),.inl rfl⟩
 |@room b _ gr _ rest h0 hb hg jG h1 h2 h3 h4 o hr hle=>
  subst hl
  have:rest=[]:=List.eq_nil_of_length_eq_zero (by omega)
  subst this
  rw[List.append_nil,hx]at hb
  exact .inr ⟨b,l,_,by rw[j],h0,h1,hb,by show L.length<=l;omega,.inr rfl⟩
theorem gA.src{α:Type}{enc:α->List Value}{n:Nat}{hp:Ht}{nx:Nat}{s:SV α}{a:Option Addr}{k c:Nat}(h:gA enc n hp nx s)(o:s.v=.slice a k c):lK hp.get (s.l.length*n) (.slice a k c)=some (s.l.flatMap enc):=by
 have hlen:=nm s.l h.1
 rcases h.2.1 with⟨h1,h2⟩|⟨b,cap,m,h1,h2,h3,h4,_⟩
 · rw[h1,List.length_nil,Nat.zero_mul]
   rcases h2 with h2|⟨q,h2⟩<;>(rw[o]at h2;cases h2;rfl)
 · rw[o]at h1;cases h1
   cases j:s.l.length*n with
   |zero=>rw[j]at hlen;rw[List.eq_nil_of_length_eq_zero hlen];rfl
   |succ q=>
    show(match hp.get b with|some (.cells cs _)=>lJ (q+1) (cs.drop 0)|_=>none)=_
    rw[h4]
    exact xl _ _ (by rw[List.drop_zero,hlen,j])
theorem wL:∀(l:List Nat) (i:Nat),(l.take i).sum<=l.sum
 |[],i=>by simp
 |x::l,0=>by simp
 |x::l,i+1=>by simpa using wL l i
def F2{α:Type}(enc:α->List Value)(n B:Nat)(hp:Ht)(nx:Nat)(J:SV α):Prop:=Sl B n hp nx J.v J.l.length (J.l.flatMap enc)/\(J.l=[]->J.v=.slice none 0 0)
theorem Sl.view{B n nx l:Nat}{hp:Ht}{v:Value}{xs:List Value}(h:Sl B n hp nx v l xs):(v=.slice none 0 0/\l=0/\xs=[])\/∃b m,v=.slice (some ⟨b,0,none⟩) l l/\hp.get b=some (.cells xs m)/\b<nx/\(m.mu=none\/m.unit=n):=by
 cases h with
 |nil=>exact .inl ⟨rfl,rfl,rfl⟩
 |plain hb hm h h0 hl=>exact .inr ⟨_,_,rfl,hb,h,.inl hm⟩
 |grown hb hg qF h h0 h2 h3 hl=>exact .inr ⟨_,_,rfl,hb,h,.inr rfl⟩
theorem Sl.same{B n nx l:Nat}{hp fe:Ht}{v:Value}{xs:List Value}(h:Sl B n hp nx v l xs)(he:∀b,B<=b->fe.get b=hp.get b):Sl B n fe nx v l xs:=by
 cases h with
 |nil=>exact .nil
 |plain hb hm h h0 hl=>exact .plain ((he _ h0).trans hb) hm h h0 hl
 |grown hb hg qF h h0 h2 h3 hl=>exact .grown ((he _ h0).trans hb) ((he _ h3).trans hg) qF h h0 h2 h3 hl
section
variable {α:Type}{enc:α->List Value}{n B:Nat}{hp fe:Ht}{nx fg:Nat}{J:SV α}
theorem F2.nil:F2 enc n B hp nx ⟨.slice none 0 0,[]⟩:=⟨.nil,fun _=>rfl⟩
theorem F2.mono(h:F2 enc n B hp nx J)(he:HE nx hp fe)(hn:nx<=fg):F2 enc n B fe fg J:=⟨h.1.mono he hn,h.2⟩
theorem F2.same(h:F2 enc n B hp nx J)(he:∀b,B<=b->fe.get b=hp.get b):F2 enc n B fe nx J:=⟨h.1.same he,h.2⟩
theorem F2.ok(h:F2 enc n B hp nx J)(he:∀x∈J.l,(enc x).length=n)(hs:J.l.length<281474976710656):gA enc n hp nx J:=by
 refine⟨he,?_,hs⟩
 rcases Nat.eq_zero_or_pos J.l.length with h0|h0
 · have:=List.eq_nil_of_length_eq_zero h0
   exact .inl ⟨this,.inl (h.2 this)⟩
 · rcases h.1.view with⟨_,h1,_⟩|⟨b,m,h1,h2,h3,h4⟩
   · omega
   · exact .inr ⟨b,_,m,h1,h0,h3,h2,Nat.le_refl _,h4⟩
end
section
variable {e:Env}{fm:Fm}{to:Tm}{ds:List Deferred}{hp:Ht}{nx:Nat}{gW:List Nat}{Q:St->Prop}{all:List Oper}{d:Tmp}{ty:TypeId}{pos:String}{j1:Array Edge}
end
theorem yE{T:Ty}{hp:Hp}{t:Tm}{a i:Nat}{ty:TypeId}{v w:Value}(h:kB T hp ty ((aaj (.tmp a)).run t)=some v)(hw:(aaj (.tmp i)).run t=w):mH T hp t [.cell a ty,.tmp i]=some [v,w]:=by
 simp only[mH,h,hw]
end
end Sw
namespace Sw
noncomputable section
open Go Go.RowKit
def lU{α:Type}(enc:α->List Value)(n B gr:Nat)(hp:Ht)(nx:Nat)(J:SV α):Prop:=
 (J.l=[]/\J.v=.slice none 0 0)\/∃b ms,J.v=.slice (some ⟨b,0,none⟩) J.l.length J.l.length/\0<J.l.length/\hp.get b=some (.cells (J.l.flatMap enc) ⟨false,some gr,0,n⟩)/\hp.get gr=some (.group ms)/\(∀e∈ms,e.base+e.len<=(J.l.flatMap enc).length)
   /\b<nx/\B<=b/\gr<nx/\B<=gr
section
variable {α:Type}{enc:α->List Value}{n B gr:Nat}{hp fe:Ht}{nx fg:Nat}{J:SV α}
theorem lU.nil:lU enc n B gr hp nx ⟨.slice none 0 0,[]⟩:=.inl ⟨rfl,rfl⟩
theorem lU.mono(h:lU enc n B gr hp nx J)(he:HE nx hp fe)(hn:nx<=fg:=by omega):lU enc n B gr fe fg J:=by
 rcases h with h|⟨b,ms,h1,h2,h3,h4,j,o,C,I,R⟩
 · exact .inl h
 · exact .inr ⟨b,ms,h1,h2,he.get h3 o,he.get h4 I,j,by omega,C,by omega,R⟩
theorem lU.other{g2:Nat}{E:Prop}(h:lU enc n B gr hp nx J)(hn:nx<=fg)(he:∀c,c<nx->(E->c≠g2)->fe.get c=hp.get c)(hg:∃ms,E->hp.get g2=some (.group ms))(hd:J.l=[]\/¬E\/gr≠g2):lU enc n B gr fe fg J:=by
 rcases h with h|⟨b,ms,h1,h2,h3,h4,j,o,C,I,R⟩
 · exact .inl h
 · have jG:J.l≠[]:=fun k=>by rw[k]at h2;simp at h2
   obtain⟨m2,hg⟩:=hg
   refine .inr ⟨b,ms,h1,h2,(he b o fun k e=>?_).trans h3,(he gr I fun k e=>?_).trans h4,j,by omega,C,by omega,R⟩
   · rw[e,hg k]at h3;cases h3
   · rcases hd with hd|hd|hd
     · exact jG hd
     · exact hd k
     · exact hd e
theorem lU.group(h:lU enc n B gr hp nx J):∃ms,J.l≠[]->hp.get gr=some (.group ms):=by
 rcases h with h|⟨b,ms,h1,h2,h3,h4,_⟩
 · exact⟨[],fun k=>absurd h.1 k⟩
 · exact⟨ms,fun _=>h4⟩
theorem lU.ok(h:lU enc n B gr hp nx J)(he:∀x∈J.l,(enc x).length=n)(hs:J.l.length<281474976710656):gA enc n hp nx J:=by
 refine⟨he,?_,hs⟩
 rcases h with h|⟨b,ms,h1,h2,h3,h4,o,j,_⟩
 · exact .inl ⟨h.1,.inl h.2⟩
 · exact .inr ⟨b,_,_,h1,h2,j,h3,Nat.le_refl _,.inr rfl⟩
theorem lU.append{T:Ty}{st el:Nat}{x z:Value}{inf:TypeInfo}(a:α)(h:lU enc n B gr hp nx J)(hlen:∀y∈J.l,(enc y).length=n)(hu:T.ji st=some (.slice el))(hs:T.size el=some n)(ag:T.zero el=some z)(hi:T.info el=some inf)
 (hx:pn T st x=some (1,false)) (aa:lK hp.get (1*n) x=some (enc a)) (ab:tZ n x=true) (ai:(enc a).length=n) (U:(enc a).all one=true)
 (b1:(J.l.length+1)*inf.bytes<=70368744177664) (b2:inf.bytes<=1073741824) (af:J.l.length+1<=70368744177664) (ad:B<=nx):
 ∃v' jA k C,jZ T hp.get st st J.v x nx=some (v',jA,k)/\lU enc n B C (jg jA hp) (nx+k) ⟨v',J.l++[a]⟩/\(∀c,c<nx->(J.l≠[]->c≠gr)->(jg jA hp).get c=hp.get c)/\((J.l≠[]/\C=gr)\/nx<=C):=by
 have R:Nat.ble (J.l.length+1) J.l.length=false:=by
  cases hb:Nat.ble (J.l.length+1) J.l.length with
  |false=>rfl
  |true=>have:=Nat.le_of_ble_eq_true hb;omega
 have e1:∀a',jZ T hp.get st st (.slice a' J.l.length J.l.length) x nx=pC hp.get a' J.l.length n (enc a) 1 nx:=fun a'=>by
  simp only[jZ,hu,hs,ag,hi,hx,ml,cond_false,ab,cond_true,aa,Option.bind_some,U,Nat.ble_eq_true_of_le b1,Nat.ble_eq_true_of_le b2,Nat.ble_eq_true_of_le af,Bool.and_true,R]
 have hl:=nm J.l hlen
 have j:(J.l++[a]).flatMap enc=J.l.flatMap enc++enc a:=by simp
 have o:(J.l++[a]).length=J.l.length+1:=by simp
 rcases h with⟨h1,h2⟩|⟨b,ms,h1,h2,hb,hg,qF,jz,ah,h3,h4⟩
 · have h0:J.l.length=0:=by rw[h1];rfl
   have e2:=e1 none
   rw[h0]at e2
   rw[h2]
   refine⟨_,_,_,nx,e2,.inr ⟨nx+1,_,by rw[o,h0],by rw[o];omega,?_,(Tr.gC _ _ (by omega)).trans (Tr.hY ..),fun e he=>?_,by omega,by omega,by omega,ad⟩,fun c hc _=>?_,.inr (Nat.le_refl _)⟩
   · rw[j,h1];exact Tr.hY ..
   · rw[List.mem_singleton.1 he,j,h1];simp
   · exact(Tr.gC _ _ (by omega)).trans (Tr.gC _ _ (by omega))
 · have I:∀e∈ms,beyond (0+0+J.l.length*n) e=false:=fun e he=>by
    have:=qF e he
    cases ae:beyond (0+0+J.l.length*n) e with
    |false=>rfl
    |true=>
     unfold beyond at ae
     have:=mq.1 ae
     omega
   have f1:ms.filter (beyond (0+0+J.l.length*n))=[]:=by
    rw[List.filter_eq_nil_iff];intro e he;rw[I e he];simp
   have f2:(ms.filter fun e=>!(beyond (0+0+J.l.length*n) e))=ms:=by
    rw[List.filter_eq_self];intro e he;rw[I e he];rfl
   have e2:pC hp.get (some ⟨b,0,none⟩) J.l.length n (enc a) 1 nx=some (.slice (some ⟨nx,0,none⟩) (J.l.length+1) (J.l.length+1),
    [(gr,some (jM.group (ms++[⟨nx,0,(J.l.flatMap enc++enc a).length⟩]))),(nx,some (jM.cells (J.l.flatMap enc++enc a) ⟨false,some gr,0,n⟩))],1):=by
    simp only[s9,hb,Au _ _ hl,Option.bind_some,hg,nT,f1,List.all_nil,Bool.not_false,Nat.beq_refl,Bool.and_true,cond_true,mN,List.map_nil,List.nil_append,f2]
   have jG:J.l≠[]:=fun k=>by rw[k]at h2;simp at h2
   rw[h1]
   refine⟨_,_,_,gr,(e1 _).trans e2,.inr ⟨nx,_,by rw[o],by rw[o];omega,?_,(Tr.gC _ _ (by omega)).trans (Tr.hY ..),fun e he=>?_,by omega,ad,by omega,h4⟩,fun c hc hd=>?_,.inl ⟨jG,rfl⟩⟩
   · rw[j];exact Tr.hY ..
   · rw[j]
     rcases List.mem_append.1 he with he|he
     · have:=qF e he;rw[List.length_append];omega
     · rw[List.mem_singleton.1 he];simp
   · exact(Tr.gC _ _ (by omega)).trans (Tr.gC _ _ (hd jG))
end
section
variable {e:Env}{fm:Fm}{to:Tm}{ds:List Deferred}{hp:Ht}{nx:Nat}{gW:List Nat}{Q:St->Prop}{all:List Oper}{d:Tmp}{ty:TypeId}{pos:String}{j1:Array Edge}
theorem WC.Mn{α:Type}{enc:α->List Value}{st el:TypeId}{x y:Operand}{B n gr:Nat}{z:Value}{inf:TypeInfo}{ab:List Value}{b:Nat}{ad:gl}{J:SV α}(a:α)(hl:e.low=0)(hx:(aaj x).run to=J.v)(hy:(aaj y).run to=.slice (some ⟨b,0,none⟩) 1 1)
 (h:lU enc n B gr hp nx J) (hlen:∀y∈J.l,(enc y).length=n) (hb:hp.get b=some (.cells ab ad)) (aa:ab=enc a) (hu:e.T.ji st=some (.slice el)) (hs:e.T.size el=some n) (ag:e.T.zero el=some z) (hi:e.T.info el=some inf) (o:(enc a).length=n) (I:(enc a).all one=true) (b1:inf.bytes<=1024) (ah:J.l.length<=1048576) (ae:B<=nx)
 {qP:Array TypeId} (af:qP=#[st,st]) (q:∀(J':SV α) fe fg j,J'.l=J.l++[a]->nx<=fg->(∀c,c<nx->(J.l≠[]->c≠gr)->fe.get c=hp.get c)->HE B hp fe->lU enc n B j fe fg J'->((J.l≠[]/\j=gr)\/nx<=j)->Q ⟨to.set d J'.v,ds,fe,fg,gW⟩):
 WC e fm (iH all ⟨some d,.call {callee:=.builtin .append,args:=#[x,y],argTypes:=qP},ty,pos,j1,none⟩) ⟨to,ds,hp,nx,gW⟩ Q:=by
 subst af aa
 have R:lK hp.get (1*n) (.slice (some ⟨b,0,none⟩) 1 1)=some (enc a):=by
  rw[Nat.one_mul]
  cases n with
  |zero=>rw[List.eq_nil_of_length_eq_zero o];rfl
  |succ k=>
   show(match hp.get b with|some (.cells cs _)=>lJ (k+1) (cs.drop 0)|_=>none)=_
   rw[hb]
   exact xl _ _ (by rw[List.drop_zero,o])
 have C:pn e.T st (.slice (some ⟨b,0,none⟩) 1 1)=some (1,false):=by simp only[pn,hu]
 have U:(J.l.length+1)*inf.bytes<=70368744177664:=Nat.le_trans (Nat.mul_le_mul (show J.l.length+1<=1048577 by omega) b1) (by decide)
 obtain⟨v',jA,k,j,h1,h2,h3,h4⟩:=h.append a hlen hu hs ag hi C R rfl o I U (by omega) (by omega) ae
 refine .Mk d (jZ e.T hp.get st st J.v (.slice (some ⟨b,0,none⟩) 1 1) nx) hl (fun _ _ _=>?_) h1 (q ⟨v',J.l++[a]⟩ _ _ j rfl (by omega) h3 (fun c hc=>h3 c (by omega) fun hj=>?_) h2 h4)
 · rw[<-hx,<-hy];rfl
 · rcases h with h|⟨_,_,_,_,_,_,_,_,_,_,ai⟩
   · exact absurd h.1 hj
   · omega
end
end
end Sw
namespace Sw
noncomputable section
open Go Go.RowKit
section
variable {fl:Bool}{e:Env}{fm:Fm}{to:Tm}{ds:List Deferred}{hp:Ht}{nx:Nat}{gW:List Nat}{Q:St->Prop}{all os:List Oper}{o:Oper}{i j:Nat}{w:Bool}{d:Tmp}{op:Op}{ty:TypeId}{pos:String}{j1:Array Edge}{l:List Cl}
theorem ov(d:Nat)(v:Value)(q:WO e fm (gY all os) ⟨to.set d v,ds,hp,nx,gW⟩ Q)(h:∀rec cs k,(iH all o).run e rec fm to ds hp nx cs k=k ⟨to.set d v,ds,hp,nx,cs⟩:=by intros;kernel_rfl):WO e fm (gY all (o::os)) ⟨to,ds,hp,nx,gW⟩ Q:=.cons (.val d v h q)
theorem nv(d:Nat)(v:Value)(q:WN e fm l ⟨to.set d v,ds,hp,nx,gW⟩ Q)(h:∀rec cs k,(pD fl all i).run e rec fm to ds hp nx cs k=k ⟨to.set d v,ds,hp,nx,cs⟩:=by intros;kernel_rfl):WN e fm (pD fl all i::l) ⟨to,ds,hp,nx,gW⟩ Q:=.cons (.val d v h q)
theorem wq(t:Tmp)(b:Bool)(v x:Value)(hw:mQ w x=b)(h1:b=true->WC e fm (iH all ⟨some d,op,ty,pos,j1,none⟩) ⟨to,ds,hp,nx,gW⟩ fun s=>s=⟨to.set d v,ds,hp,nx,gW⟩)
 (q:WO e fm (gY all os) ⟨to.set d (bif b then v else undef),ds,hp,nx,gW⟩ Q) (hg:kn all j=some (aaj (.tmp t)):=by rfl) (hx:(aaj (.tmp t)).run to=x:=by kernel_rfl):WO e fm (gY all (⟨some d,op,ty,pos,j1,some (j,w)⟩::os)) ⟨to,ds,hp,nx,gW⟩ Q:=.cons (.gd b v x hg hx hw h1 q)
theorem og(t:Tmp)(b:Bool)(v x:Value)(hw:mQ w x=b)(h1:b=true->∀rec cs k,(iH all ⟨some d,op,ty,pos,j1,none⟩).run e rec fm to ds hp nx cs k=k ⟨to.set d v,ds,hp,nx,cs⟩)
 (q:WO e fm (gY all os) ⟨to.set d (bif b then v else undef),ds,hp,nx,gW⟩ Q) (hg:kn all j=some (aaj (.tmp t)):=by rfl) (hx:(aaj (.tmp t)).run to=x:=by kernel_rfl):WO e fm (gY all (⟨some d,op,ty,pos,j1,some (j,w)⟩::os)) ⟨to,ds,hp,nx,gW⟩ Q:=.cons (.gd b v x hg hx hw (fun hb=>.val d v (h1 hb) rfl) q)
theorem xP(hn:m_ i all=some ⟨some d,op,ty,pos,j1,some (j,w)⟩)(t:Tmp)(b:Bool)(v x:Value)(hw:mQ w x=b)(h1:b=true->WC e fm (iH all ⟨some d,op,ty,pos,j1,none⟩) ⟨to,ds,hp,nx,gW⟩ fun s=>s=⟨to.set d v,ds,hp,nx,gW⟩)
 (q:WN e fm l ⟨to.set d (bif b then v else undef),ds,hp,nx,gW⟩ Q) (hg:kn all j=some (aaj (.tmp t)):=by rfl) (hx:(aaj (.tmp t)).run to=x:=by kernel_rfl) (o:(fl&&pz op)=false:=by rfl):WN e fm (pD fl all i::l) ⟨to,ds,hp,nx,gW⟩ Q:=.ic hn (.gd b v x hg hx hw h1 q) o
theorem ng(hn:m_ i all=some ⟨some d,op,ty,pos,j1,some (j,w)⟩)(t:Tmp)(b:Bool)(v x:Value)(hw:mQ w x=b)(h1:b=true->∀rec cs k,(iH all ⟨some d,op,ty,pos,j1,none⟩).run e rec fm to ds hp nx cs k=k ⟨to.set d v,ds,hp,nx,cs⟩)
 (q:WN e fm l ⟨to.set d (bif b then v else undef),ds,hp,nx,gW⟩ Q) (hg:kn all j=some (aaj (.tmp t)):=by rfl) (hx:(aaj (.tmp t)).run to=x:=by kernel_rfl) (o:(fl&&pz op)=false:=by rfl):WN e fm (pD fl all i::l) ⟨to,ds,hp,nx,gW⟩ Q:=.ic hn (.gd b v x hg hx hw (fun hb=>.val d v (h1 hb) rfl) q) o
theorem cg{l:List s6}(hn:m_ i all=some ⟨some d,op,ty,pos,j1,some (j,w)⟩)(t:Tmp)(b:Bool)(v x:Value)(hw:mQ w x=b)(h1:b=true->∀k,(wW fl ⟨some d,op,ty,pos,j1,none⟩).run e.T hp nx to k=k)(hl:jh e l ⟨to,ds,hp,nx,gW⟩)
 (hg:kn all j=some (aaj (.tmp t)):=by rfl) (hx:(aaj (.tmp t)).run to=x:=by kernel_rfl) (hd:to.get d=(bif b then v else undef):=by kernel_rfl):jh e (uV fl all i::l) ⟨to,ds,hp,nx,gW⟩:=.cons (Xa b v x hn hg hx hw hd h1) hl
theorem cv{c:s6}{l:List s6}(v:Value)(j:kY 8 v v=true)(hl:jh e l ⟨to,ds,hp,nx,gW⟩)(h:∀k,c.run e.T hp nx to k=bif kY 8 v v then k else .gm 0:=by intros;kernel_rfl):jh e (c::l) ⟨to,ds,hp,nx,gW⟩:=.val v h j hl
theorem co{c:s6}{l:List s6}(v:Value)(x:Option Value)(j:x=some v)(o:kY 8 v v=true)(hl:jh e l ⟨to,ds,hp,nx,gW⟩)(h:∀k,c.run e.T hp nx to k=kF x (fun y=>bif kY 8 y v then k else .gm 0):=by intros;kernel_rfl):jh e (c::l) ⟨to,ds,hp,nx,gW⟩:=.opt v x h j o hl
theorem sr{id:Nat}{ops:Array Oper}{b:Code}{s:St}{W:Nat->St->Prop}(h:WO e fm (gY ops.toList ops.toList) s fun s1=>WP e fm b s1 W):WP e fm (.seq (.region id ops false) b) s W:=.seq (.region h)
end
theorem nb{b:Bool}{P:Prop}(h:b=true↔P):∃c:Bool,c=b/\(c=true↔P):=⟨b,rfl,h⟩
theorem nq{c:Bool}{P:Prop}(p:c=true↔P)(h:c=false):¬P:=fun k=>by rw[p.2 k]at h;cases h
theorem nf{P:Prop}(p:false=true↔P):¬P:=fun k=>absurd (p.2 k) (by decide)
theorem zl{i n:Nat}(h:i<n):0<n:=Nat.lt_of_le_of_lt (Nat.zero_le i) h
theorem bF{a:Bool}(h:(!a)=true):a=false:=by simpa using h
theorem sD{a b:Bool}(h:(!a&&b)=true):a=false/\b=true:=by simpa using h
theorem xQ{a b:Bool}(h:(a&&!b)=true):a=true/\b=false:=by simpa using h
end
end Sw
namespace Sw
noncomputable section
open Go Go.RowKit
theorem GC.off{b:Bool}{k:Int}{P:Prop}{nx:Nat}{hp:Ht}(h:b=false)(hk:k≠0:=by decide):GC b k P nx hp undef hp nx:=by
 refine⟨?_,Nat.le_refl _,HE.refl _ _⟩
 by_cases j:P
 · exact⟨0,by rw[h];rfl,⟨fun _=>j,fun _=>rfl⟩,.inl rfl⟩
 · exact⟨k,by rw[h];rfl,⟨fun e=>absurd e hk,fun e=>absurd e j⟩,.inr rfl⟩
end
end Sw
namespace Sw
noncomputable section
open Go Go.RowKit
theorem Tx(l:Nat):Nat.ble 0 l=true:=by cases l<;>rfl
def WV(e:Env)(fv:Value)(l:List Value)(hp:Ht)(nx:Nat)(Q:Value->Ht->Nat->Prop):Prop:=
 ∃v fe fg,(∃j,∀n,j<=n->∀cs k,Bo e (ev e n) fv l hp nx cs k=k v fe fg cs)/\Q v fe fg
section
variable {e:Env}{fm:Fm}{hp:Ht}{nx:Nat}{A B:Value->Ht->Nat->Prop}
theorem WV.mono{fv:Value}{l:List Value}(h:WV e fv l hp nx A)(k:∀v hp nx,A v hp nx->B v hp nx):WV e fv l hp nx B:=by
 obtain⟨v,fe,fg,h1,h2⟩:=h;exact⟨v,fe,fg,h1,k _ _ _ h2⟩
theorem WV.func{f:FuncId}{a b:Array Value}{l:List Value}(h:WF e f (a.toList++l++b.toList) hp nx A):WV e (.func (.func f) a b) l hp nx A:=by
 obtain⟨v,fe,fg,⟨j,h1⟩,h2⟩:=h
 exact⟨v,fe,fg,⟨j,fun n hn cs k=>h1 n hn cs k⟩,h2⟩
theorem WV.yield{l:Nat}{r:_}{a b:Array Value}{n9:List Value}{t:Tm}(hl:hp.get l=some (.loop r))(h0:e.low=0)(af:vf r.params n9 r.tmps=some t)
 (h:WP e ⟨r.fn,r.nt,some l⟩ r.assign ⟨t,[],hp,nx,[]⟩ fun o s1=>Nat.beq o 0=true/\∃r1,s1.hp.get l=some (.loop r1)/\r1.state=.ready/\
   WP e ⟨r.fn,r.nt,some l⟩ r.body ⟨s1.to,s1.ds,s1.hp.set l (some (.loop {r1 with state:=.busy})),s1.nx,[]⟩ fun o2 s2=>s2.ds=[]/\∃r2,s2.hp.get l=some (.loop r2)/\
    A (.bool (Nat.beq o2 0)) (s2.hp.set l (some (.loop {r2 with state:=(bif Nat.beq o2 0 then .ready else .done),pending:=wJ o2}))) s2.nx):WV e (.func (.yield l) a b) n9 hp nx A:=by
 obtain⟨o,⟨aa,j,R,U,c1⟩,⟨ai,h1⟩,ae,r1,I,ab,o2,⟨ad,aj,jN,oG,c2⟩,⟨n2,h2⟩,C,r2,J,q⟩:=h
 simp only at I C J q
 subst C
 refine⟨_,_,_,⟨max ai n2,fun n hn cs k=>?_⟩,q⟩
 have ag:ev e n ⟨r.fn,r.nt,some l⟩ r.assign ⟨t,[],hp,nx,cs⟩=.ok (o,⟨aa,j,R,U,cs⟩):=h1 n (by omega) cs
 have ah:ev e n ⟨r.fn,r.nt,some l⟩ r.body ⟨aa,j,R.set l (some (.loop {r1 with state:=.busy})),U,cs⟩=.ok (o2,⟨ad,[],jN,oG,cs⟩):=h2 n (by omega) cs
 show p_ e (ev e n) l n9 hp nx cs k=_
 simp only[p_,hl,h0,Tx,cond_true,af,ag,ae,I,ab,ah,J]
end
section
variable {e:Env}{fm:Fm}{to:Tm}{ds:List Deferred}{hp:Ht}{nx:Nat}{gW:List Nat}{Q:St->Prop}
theorem WC.Qa{c:Cl}(d:Nat)(fv:Value)(l:List Value)(h:∀rec cs k,c.run e rec fm to ds hp nx cs k=Bo e rec fv l hp nx cs (fun v hp nx cs=>k ⟨to.set d v,ds,hp,nx,cs⟩))
 (hf:WV e fv l hp nx fun v hp nx=>Q ⟨to.set d v,ds,hp,nx,gW⟩):WC e fm c ⟨to,ds,hp,nx,gW⟩ Q:=by
 obtain⟨v,fe,fg,⟨j,h1⟩,q⟩:=hf
 exact⟨⟨to.set d v,ds,fe,fg,gW⟩,⟨j,fun n hn cs k=>by show c.run e (ev e n) fm to ds hp nx cs k=_;rw[h (ev e n) cs k,h1 n hn];rfl⟩,q⟩
theorem WP.rangeFunc{fn:FuncId}{nt:Nat}{f:Operand}{params:Array Tmp}{assign body:Code}{W:Nat->St->Prop}
 (h:WV e ((aaj f).run to) [.func (.yield (nx+1)) #[] #[]] ((hp.set nx (some (.deferred (some [])))).set (nx+1) (some (.loop ⟨.ready,none,fn,to,nt,params.toList,assign,body,nx⟩))) (nx+1+1)
   fun _ fe fg=>∃r o,fe.get (nx+1)=some (.loop r)/\r.state≠.busy/\zZ r.pending=some o/\W o ⟨to,⟨.collected nx,#[]⟩::ds,fe.set (nx+1) (some (.loop {r with state:=.exhausted})),fg,gW⟩):
 WP e ⟨fn,nt,none⟩ (.rangeFunc f params assign body) ⟨to,ds,hp,nx,gW⟩ W:=by
 obtain⟨v,fe,fg,⟨I,h1⟩,r,o,hl,hs,C,q⟩:=h
 refine⟨o,_,.step ⟨I,fun n hn cs=>?_⟩,q⟩
 show uW (.rangeFunc f params assign body) e (ev e n) ⟨fn,nt,none⟩ ⟨to,ds,hp,nx,cs⟩=_
 have:uW (.rangeFunc f params assign body) e (ev e n) ⟨fn,nt,none⟩ ⟨to,ds,hp,nx,cs⟩=Bo e (ev e n) ((aaj f).run to) [.func (.yield (nx+1)) #[] #[]] ((hp.set nx (some (.deferred (some [])))).set (nx+1) (some (.loop ⟨.ready,none,fn,to,nt,params.toList,assign,body,nx⟩))) (nx+1+1) cs (fun _ hp fg cs=>match hp.get (nx+1)with
  |some (.loop r)=>(match r.state with
   |.busy=>.gm 0
   |_=>(match zZ r.pending with
    |some o=>.ok (o,⟨to,[⟨.collected nx,#[]⟩]++ds,hp.set (nx+1) (some (.loop {r with state:=.exhausted})),fg,cs⟩)
    |none=>.gm 0))
  |_=>.gm 0):=rfl
 rw[this,h1 n hn]
 simp only[hl,C]
 cases j:r.state<;>first|rfl|exact absurd j hs
theorem WF.Yg{f:FuncId}{fi:vQ}{l:List Value}{t:Tm}{R:Value->Ht->Nat->Prop}(hk:e.K f=none)(hf:e.F f=some fi)(hl:Nat.ble l.length fi.nt=true)(J:setArgs yV l Tm.undef=some t)(h0:e.low=0)
 (hb:WP e ⟨f,fi.nt,none⟩ fi.body ⟨t,[],hp,nx,[]⟩ fun o j=>Nat.ble o 1=true/\∃r,j.ds=[⟨.collected r,#[]⟩]/\j.hp.get r=some (.deferred (some []))/\∃vs,mH e.T (j.hp.set r (some (.deferred none))).get j.to fi.res=some vs/\R (qz vs) (j.hp.set r (some (.deferred none))) j.nx):WF e f l hp nx R:=by
 obtain⟨o,⟨C,aa,fe,fg,ab⟩,⟨U,hb⟩,I,r,hd,hr,vs,hg,q⟩:=hb
 simp only at hd hr hg q
 subst hd
 refine⟨_,_,_,⟨U,fun n hn cs k=>?_⟩,q⟩
 have hb:ev e n ⟨f,fi.nt,none⟩ fi.body ⟨t,[],hp,nx,cs⟩=.ok (o,⟨C,[⟨.collected r,#[]⟩],fe,fg,cs⟩):=hb n hn cs
 simp only[mP,hk,tJ,hf,sA,hl,cond_true,J,hb,I,lI,hr,h0,Tx,yr,hg]
end
end
end Sw
namespace Sw
noncomputable section
open Go Go.RowKit
theorem uy:∀(us vs:tH) (h:Ht),jg (us++vs) h=jg vs (jg us h)
 |[],_,_=>rfl
 |(b,o)::us,vs,h=>uy us vs (h.set b o)
theorem AS{c:Nat}:∀(l:List Mem) (h:Ht),(∀e∈l,e.gb≠c)->(jg (l.map fun e=>(e.gb,none)) h).get c=h.get c
 |[],_,_=>rfl
 |e::l,h,k=>by
  show(jg (l.map fun e=>(e.gb,none)) (h.set e.gb none)).get c=_
  rw[AS l _ fun x hx=>k x (List.mem_cons_of_mem _ hx)]
  exact Tr.gC _ _ (k e (List.mem_cons_self ..)).symm
theorem C9{c:Nat}:∀(l:List Mem) (h:Ht),(jg (l.map fun e=>(e.gb,none)) h).get c=none\/(jg (l.map fun e=>(e.gb,none)) h).get c=h.get c
 |[],_=>.inr rfl
 |e::l,h=>by
  show(jg (l.map fun e=>(e.gb,none)) (h.set e.gb none)).get c=none\/(jg (l.map fun e=>(e.gb,none)) (h.set e.gb none)).get c=h.get c
  rcases C9 (c:=c) l (h.set e.gb none)with k|k
  · exact .inl k
  · by_cases hc:c=e.gb
    · subst hc;exact .inl (k.trans (Tr.hY ..))
    · exact .inr (k.trans (Tr.gC _ _ hc))
theorem C_{α:Type}:∀(us j r:List α),us.length=j.length->vJ (us++r) j=some (j++r)
 |[],[],r,_=>by cases r<;>rfl
 |a::us,b::j,r,h=>by
  show(vJ (us++r) j).map (b::·)=_
  rw[C_ us j r (by simpa using h)];rfl
 |[],_::_,_,h=>by simp at h
 |_::_,[],_,h=>by simp at h
theorem F3{α:Type}:∀(us r v:List α) (k:Nat),mo (us++r) (us.length+k) v=(mo r k v).map (us++·)
 |[],r,v,k=>by
  simp only[List.nil_append,List.length_nil,Nat.zero_add]
  cases mo r k v<;>rfl
 |a::us,r,v,k=>by
  have:(a::us).length+k=(us.length+k)+1:=by simp;omega
  rw[this]
  show(mo (us++r) (us.length+k) v).map (a::·)=_
  rw[F3 us r v k]
  cases mo r k v<;>rfl
theorem F4{α:Type}(l v:List α):mo l 0 v=vJ l v:=by cases l<;>rfl
theorem F5{α:Type}{enc:α->List Value}{n:Nat}(y:α)(hy:(enc y).length=n):∀(L:List α) (j:Nat),(∀x∈L,(enc x).length=n)->j<L.length->mo (L.flatMap enc) (j*n) (enc y)=some ((L.set j y).flatMap enc)
 |[],_,_,h=>by simp at h
 |x::L,0,hl,_=>by
  rw[Nat.zero_mul,F4]
  show vJ (enc x++L.flatMap enc) (enc y)=some (enc y++L.flatMap enc)
  exact C_ _ _ _ ((hl x (List.mem_cons_self ..)).trans hy.symm)
 |x::L,j+1,hl,h=>by
  have hx:=hl x (List.mem_cons_self ..)
  have:(j+1)*n=(enc x).length+j*n:=by rw[hx,Nat.succ_mul];omega
  rw[this]
  show mo (enc x++L.flatMap enc) _ _=some (enc x++(L.set j y).flatMap enc)
  rw[F3,F5 y hy L j (fun z o=>hl z (List.mem_cons_of_mem _ o)) (by simpa using h)]
  rfl
def td{α:Type}(enc:α->List Value)(n B b gr:Nat)(hp:Ht)(nx:Nat)(L:List α):Prop:=
 hp.get b=some (.cells (L.flatMap enc) ⟨false,some gr,0,n⟩)/\(∃ms,hp.get gr=some (.group ms)/\∀e∈ms,e.base+e.len<=(L.flatMap enc).length/\B<=e.gb/\e.gb<nx/\e.gb≠gr/\∀l,hp.get e.gb≠some (.group l))/\b<nx/\B<=b/\gr<nx/\B<=gr
section
variable {α:Type}{enc:α->List Value}{n B b gr:Nat}{hp fe:Ht}{nx fg:Nat}{L:List α}{J:SV α}
theorem td.mono(h:td enc n B b gr hp nx L)(he:HE nx hp fe)(hn:nx<=fg:=by omega):td enc n B b gr fe fg L:=by
 obtain⟨h1,⟨ms,h2,h3⟩,h4,j,o,C⟩:=h
 refine⟨he.get h1 h4,⟨ms,he.get h2 o,fun e hm=>?_⟩,by omega,j,by omega,C⟩
 obtain⟨I,J,R,U,aa⟩:=h3 e hm
 exact⟨I,J,by omega,U,fun l hl=>aa l (by rw[<-he e.gb R];exact hl)⟩
theorem td.ok{c:Nat}(h:td enc n B b gr hp nx L)(hl:∀x∈L,(enc x).length=n)(h0:0<c)(hs:L.length<281474976710656)(hc:L.length<=c:=by omega):gA enc n hp nx ⟨.slice (some ⟨b,0,none⟩) L.length c,L⟩:=
 ⟨hl,.inr ⟨b,c,_,rfl,h0,h.2.2.1,h.1,hc,.inr rfl⟩,hs⟩
theorem td.store{T:Ty}{t:TypeId}{v:Value}{j:Nat}(y:α)(h:td enc n B b gr hp nx L)(hl:∀x∈L,(enc x).length=n)(hj:j<L.length)(hs:T.size t=some n)(ai:v.cells.toList=enc y)(hy:(enc y).length=n)(C:(enc y).all one=true):
 ∃jA,wG T hp.get t (.pointer (some ⟨b,0+j*n,none⟩)) v=some jA/\td enc n B b gr (jg jA hp) nx (L.set j y)/\HE B hp (jg jA hp):=by
 obtain⟨h1,⟨ms,h2,h3⟩,h4,af,ag,ah⟩:=h
 have I:b≠gr:=fun e=>by rw[e,h2]at h1;cases h1
 let ov:=overlaps b (0+(0+j*n)) (0+(0+j*n)+(enc y).length)
 have aa:nT hp.get ov ms=true:=List.all_eq_true.2 fun e he=>by
  have:=(h3 e (List.mem_filter.1 he).1).2.2.2.2
  split
  · rename_i l k;exact absurd k (this l)
  · rfl
 have ab:mo (L.flatMap enc) (0+j*n) (enc y)=some ((L.set j y).flatMap enc):=by rw[Nat.zero_add];exact F5 y hy L j hl hj
 have ao:∀e∈ms.filter ov,e.gb≠b:=fun e he k=>by
  have:=(List.mem_filter.1 he).2
  simp only[ov,overlaps,k,Nat.beq_refl,Bool.not_true,Bool.false_and]at this
  cases this
 have aq:∀e∈ms.filter ov,e.gb≠gr:=fun e he=>(h3 e (List.mem_filter.1 he).1).2.2.2.1
 have ad:wG T hp.get t (.pointer (some ⟨b,0+j*n,none⟩)) v=some (mN ov ms++[(gr,some (.group (ms.filter fun e=>!(ov e)))),(b,some (.cells ((L.set j y).flatMap enc) ⟨false,some gr,0,n⟩))]):=by
  have J:(Nat.beq (enc y).length n&&(enc y).all one)=true:=by rw[hy,Nat.beq_refl,C];rfl
  simp only[wG,h1,hs,ai,J,cond_true,nU,cond_false,ab,Option.bind_some,h2]
  show(bif nT hp.get ov ms then _ else none)=_
  rw[aa];rfl
 refine⟨_,ad,?_,?_⟩
 · rw[uy]
   have e0:∀c,c≠b->c≠gr->(jg [(gr,some (jM.group (ms.filter fun e=>!(ov e)))),(b,some (.cells ((L.set j y).flatMap enc) ⟨false,some gr,0,n⟩))] (jg (mN ov ms) hp)).get c=(jg (mN ov ms) hp).get c:=fun c c1 c2=>(Tr.gC _ _ c1).trans (Tr.gC _ _ c2)
   have R:((L.set j y).flatMap enc).length=(L.flatMap enc).length:=by
    have U:∀x∈L.set j y,(enc x).length=n:=fun x hx=>by
     rcases List.mem_or_eq_of_mem_set hx with k|k
     · exact hl x k
     · exact k▸hy
    rw[nm L hl,nm (L.set j y) U,List.length_set]
   refine⟨Tr.hY ..,⟨ms.filter fun e=>!(ov e),(Tr.gC _ _ I.symm).trans (Tr.hY ..),fun e he=>?_⟩,h4,af,ag,ah⟩
   obtain⟨aj,ak,al,ae,an⟩:=h3 e (List.mem_filter.1 he).1
   refine⟨by rw[R];exact aj,ak,al,ae,fun l o=>?_⟩
   by_cases hb:e.gb=b
   · rw[hb]at o
     have:some (jM.group l)=some (jM.cells ((L.set j y).flatMap enc) (⟨false,some gr,0,n⟩:gl)):=o.symm.trans (Tr.hY ..)
     cases this
   · rw[e0 e.gb hb ae]at o
     rcases C9 (c:=e.gb) (ms.filter ov) hp with q|q
     · have:=q.symm.trans o;cases this
     · exact an l (q.symm.trans o)
 · intro c hc
   rw[uy]
   refine(Tr.gC _ _ (by omega)).trans ((Tr.gC _ _ (by omega)).trans ?_)
   exact AS (ms.filter ov) hp fun e he=>by have:=(h3 e (List.mem_filter.1 he).1).2.1;omega
def mf(enc:α->List Value)(n B:Nat)(hp:Ht)(nx:Nat)(J:SV α):Prop:=
 (J.l=[]/\J.v=.slice none 0 0)\/(0<J.l.length/\∃b gr,J.v=.slice (some ⟨b,0,none⟩) J.l.length J.l.length/\td enc n B b gr hp nx J.l)
theorem mf.nil:mf enc n B hp nx ⟨.slice none 0 0,[]⟩:=.inl ⟨rfl,rfl⟩
theorem mf.mono(h:mf enc n B hp nx J)(he:HE nx hp fe)(hn:nx<=fg:=by omega):mf enc n B fe fg J:=by
 rcases h with h|⟨h0,b,gr,h1,h2⟩
 · exact .inl h
 · exact .inr ⟨h0,b,gr,h1,h2.mono he hn⟩
theorem mf.ok(h:mf enc n B hp nx J)(he:∀x∈J.l,(enc x).length=n)(hs:J.l.length<281474976710656):gA enc n hp nx J:=by
 refine⟨he,?_,hs⟩
 rcases h with h|⟨h0,b,gr,h1,h2⟩
 · exact .inl ⟨h.1,.inl h.2⟩
 · exact .inr ⟨b,_,_,h1,h0,h2.2.2.1,h2.1,Nat.le_refl _,.inr rfl⟩
theorem mf.append{T:Ty}{st el:Nat}{x z:Value}{inf:TypeInfo}(a:α)(h:mf enc n B hp nx J)(hlen:∀y∈J.l,(enc y).length=n)(hu:T.ji st=some (.slice el))(hs:T.size el=some n)(ah:T.zero el=some z)(hi:T.info el=some inf)
 (hx:pn T st x=some (1,false)) (ab:lK hp.get (1*n) x=some (enc a)) (ad:tZ n x=true) (al:(enc a).length=n) (aa:(enc a).all one=true)
 (b1:(J.l.length+1)*inf.bytes<=70368744177664) (b2:inf.bytes<=1073741824) (ag:J.l.length+1<=70368744177664) (R:B<=nx):
 ∃v' jA k,jZ T hp.get st st J.v x nx=some (v',jA,k)/\mf enc n B (jg jA hp) (nx+k) ⟨v',J.l++[a]⟩/\HE B hp (jg jA hp):=by
 have U:Nat.ble (J.l.length+1) J.l.length=false:=by
  cases hb:Nat.ble (J.l.length+1) J.l.length with
  |false=>rfl
  |true=>have:=Nat.le_of_ble_eq_true hb;omega
 have e1:∀a',jZ T hp.get st st (.slice a' J.l.length J.l.length) x nx=pC hp.get a' J.l.length n (enc a) 1 nx:=fun a'=>by
  simp only[jZ,hu,hs,ah,hi,hx,ml,cond_false,ad,cond_true,ab,Option.bind_some,aa,Nat.ble_eq_true_of_le b1,Nat.ble_eq_true_of_le b2,Nat.ble_eq_true_of_le ag,Bool.and_true,U]
 have hl:=nm J.l hlen
 have j:(J.l++[a]).flatMap enc=J.l.flatMap enc++enc a:=by simp
 have C:(J.l++[a]).length=J.l.length+1:=by simp
 rcases h with⟨h1,h2⟩|⟨h2,b,gr,h1,hb,⟨ms,hg,qF⟩,jz,ak,h3,h4⟩
 · have h0:J.l.length=0:=by rw[h1];rfl
   have e2:=e1 none
   rw[h0]at e2
   rw[h2]
   refine⟨_,_,_,e2,.inr ⟨by rw[C];omega,nx+1,nx,by rw[C,h0],?_,⟨[⟨nx+1,0,_⟩],(Tr.gC _ _ (by omega)).trans (Tr.hY ..),fun e he=>?_⟩,by omega,by omega,by omega,R⟩,fun c hc=>?_⟩
   · rw[j,h1];exact Tr.hY ..
   · rw[List.mem_singleton.1 he,j,h1]
     refine⟨by simp,by show B<=nx+1;omega,by show nx+1<_;omega,by show nx+1≠nx;omega,fun l o=>?_⟩
     have:=o.symm.trans (Tr.hY ..)
     cases this
   · exact(Tr.gC _ _ (by omega)).trans (Tr.gC _ _ (by omega))
 · have I:∀e∈ms,beyond (0+0+J.l.length*n) e=false:=fun e he=>by
    have:=(qF e he).1
    cases ae:beyond (0+0+J.l.length*n) e with
    |false=>rfl
    |true=>
     unfold beyond at ae
     have:=mq.1 ae
     omega
   have f1:ms.filter (beyond (0+0+J.l.length*n))=[]:=by
    rw[List.filter_eq_nil_iff];intro e he;rw[I e he];simp
   have f2:(ms.filter fun e=>!(beyond (0+0+J.l.length*n) e))=ms:=by
    rw[List.filter_eq_self];intro e he;rw[I e he];rfl
   have e2:pC hp.get (some ⟨b,0,none⟩) J.l.length n (enc a) 1 nx=some (.slice (some ⟨nx,0,none⟩) (J.l.length+1) (J.l.length+1),
    [(gr,some (jM.group (ms++[⟨nx,0,(J.l.flatMap enc++enc a).length⟩]))),(nx,some (jM.cells (J.l.flatMap enc++enc a) ⟨false,some gr,0,n⟩))],1):=by
    simp only[s9,hb,Au _ _ hl,Option.bind_some,hg,nT,f1,List.all_nil,Bool.not_false,Nat.beq_refl,Bool.and_true,cond_true,mN,List.map_nil,List.nil_append,f2]
   rw[h1]
   refine⟨_,_,_,(e1 _).trans e2,.inr ⟨by rw[C];omega,nx,gr,by rw[C],?_,⟨_,(Tr.gC _ _ (by omega)).trans (Tr.hY ..),fun e he=>?_⟩,by omega,R,by omega,h4⟩,fun c hc=>(Tr.gC _ _ (by omega)).trans (Tr.gC _ _ (by omega))⟩
   · rw[j];exact Tr.hY ..
   · rcases List.mem_append.1 he with he|he
     · obtain⟨an,ai,ao,af,aj⟩:=qF e he
       refine⟨by rw[j,List.length_append];omega,ai,by omega,af,fun l o=>aj l ?_⟩
       have:(jg [(gr,some (jM.group (ms++[⟨nx,0,(J.l.flatMap enc++enc a).length⟩]))),(nx,some (jM.cells (J.l.flatMap enc++enc a) ⟨false,some gr,0,n⟩))] hp).get e.gb=hp.get e.gb:=(Tr.gC _ _ (by omega)).trans (Tr.gC _ _ af)
       exact this.symm.trans o
     · rw[List.mem_singleton.1 he]
       refine⟨by rw[j];simp,R,by show nx<_;omega,by show nx≠gr;omega,fun l o=>?_⟩
       have:=o.symm.trans (Tr.hY ..)
       cases this
end
section
variable {e:Env}{fm:Fm}{to:Tm}{ds:List Deferred}{hp:Ht}{nx:Nat}{gW:List Nat}{Q:St->Prop}{all:List Oper}{d:Tmp}{ty:TypeId}{pos:String}{j1:Array Edge}
theorem WC.Cp{α:Type}{enc:α->List Value}{st el:TypeId}{x y:Operand}{B n:Nat}{z:Value}{inf:TypeInfo}{aa:List Value}{b:Nat}{ab:gl}{J:SV α}(a:α)(hl:e.low=0)(hx:(aaj x).run to=J.v)(hy:(aaj y).run to=.slice (some ⟨b,0,none⟩) 1 1)
 (h:mf enc n B hp nx J) (hlen:∀y∈J.l,(enc y).length=n) (hb:hp.get b=some (.cells aa ab)) (U:aa=enc a) (hu:e.T.ji st=some (.slice el)) (hs:e.T.size el=some n) (af:e.T.zero el=some z) (hi:e.T.info el=some inf) (j:(enc a).length=n) (C:(enc a).all one=true) (b1:inf.bytes<=1024) (ag:J.l.length<=1048576) (ad:B<=nx)
 {qP:Array TypeId} (ae:qP=#[st,st]) (q:∀(J':SV α) fe fg,J'.l=J.l++[a]->nx<=fg->HE B hp fe->mf enc n B fe fg J'->Q ⟨to.set d J'.v,ds,fe,fg,gW⟩):
 WC e fm (iH all ⟨some d,.call {callee:=.builtin .append,args:=#[x,y],argTypes:=qP},ty,pos,j1,none⟩) ⟨to,ds,hp,nx,gW⟩ Q:=by
 subst ae U
 have I:lK hp.get (1*n) (.slice (some ⟨b,0,none⟩) 1 1)=some (enc a):=by
  rw[Nat.one_mul]
  cases n with
  |zero=>rw[List.eq_nil_of_length_eq_zero j];rfl
  |succ k=>
   show(match hp.get b with|some (.cells cs _)=>lJ (k+1) (cs.drop 0)|_=>none)=_
   rw[hb]
   exact xl _ _ (by rw[List.drop_zero,j])
 have o:pn e.T st (.slice (some ⟨b,0,none⟩) 1 1)=some (1,false):=by simp only[pn,hu]
 have R:(J.l.length+1)*inf.bytes<=70368744177664:=Nat.le_trans (Nat.mul_le_mul (show J.l.length+1<=1048577 by omega) b1) (by decide)
 obtain⟨v',jA,k,h1,h2,h3⟩:=h.append a hlen hu hs af hi o I rfl j C R (by omega) (by omega) ad
 refine .Mk d (jZ e.T hp.get st st J.v (.slice (some ⟨b,0,none⟩) 1 1) nx) hl (fun _ _ _=>?_) h1 (q ⟨v',J.l++[a]⟩ _ _ rfl (by omega) h3 h2)
 rw[<-hx,<-hy];rfl
theorem WC.Mo{α:Type}{enc:α->List Value}{t:TypeId}{a v:Operand}{n B b gr j:Nat}{L:List α}(val:Value)(y:α)(hl:e.low=0)(I:(aaj a).run to=.pointer (some ⟨b,0+j*n,none⟩))(J:(aaj v).run to=val)(h:td enc n B b gr hp nx L)(hlen:∀x∈L,(enc x).length=n)(hj:j<L.length)
 (hs:e.T.size t=some n) (C:val.cells.toList=enc y) (hy:(enc y).length=n) (o:(enc y).all one=true) (q:∀fe,td enc n B b gr fe nx (L.set j y)->HE B hp fe->Q ⟨to,ds,fe,nx,gW⟩):
 WC e fm (iH all ⟨none,.store t a v,ty,pos,j1,none⟩) ⟨to,ds,hp,nx,gW⟩ Q:=by
 subst J
 obtain⟨jA,h1,h2,h3⟩:=h.store (T:=e.T) (t:=t) y hlen hj hs C hy o
 refine .Tw jA hl (fun rec cs k=>?_) (q _ h2 h3)
 have:(iH all ⟨none,.store t a v,ty,pos,j1,none⟩).run e rec fm to ds hp nx cs k=yp (wG e.T hp.get t ((aaj a).run to) ((aaj v).run to)) (tw (fun t _=>t) e.low to ds hp nx cs k):=rfl
 rw[this,I,h1];rfl
end
end
end Sw
namespace Sw
noncomputable section
open Go Go.RowKit
section
variable {e:Env}{fm:Fm}{to:Tm}{ds:List Deferred}{hp:Ht}{nx:Nat}{gW:List Nat}{Q:St->Prop}{all:List Oper}{j:Nat}{w:Bool}{d:Tmp}{op:Op}{ty:TypeId}{pos:String}{j1:Array Edge}
theorem WC.Da{g:Od}{x:Value}(hg:kn all j=some g)(hx:g.run to=x)(hw:mQ w x=false)(q:Q ⟨to.set d undef,ds,hp,nx,gW⟩):WC e fm (iH all ⟨some d,op,ty,pos,j1,some (j,w)⟩) ⟨to,ds,hp,nx,gW⟩ Q:=
 .gq false (fun v fe fg=>v=undef/\fe=hp/\fg=nx) x hg hx hw (fun h=>by cases h) (fun _=>⟨rfl,rfl,rfl⟩) (fun v fe fg ⟨h1,h2,h3⟩=>by subst h1 h2 h3;exact q)
theorem td.sh{α:Type}{enc:α->List Value}{n B b gr N c:Nat}{L:List α}(h:td enc n B b gr hp nx L)(hl:∀x∈L,(enc x).length=n)(j:L.length=N)(h0:0<c)(hs:N<281474976710656)(hc:N<=c:=by omega):gA enc n hp nx ⟨.slice (some ⟨b,0,none⟩) N c,L⟩:=by
 subst j;exact h.ok hl h0 hs hc
end
def zF:Value->Prop:=fun v=>∃z:Int,v=.int .i64 z
def GZ(b:Bool)(nx:Nat)(hp:Ht):Value->Ht->Nat->Prop:=fun v fe fg=>(∃z:Int,v=(bif b then .int .i64 z else undef))/\nx<=fg/\HE nx hp fe
theorem GZ.off{b:Bool}{nx:Nat}{hp:Ht}(h:b=false):GZ b nx hp undef hp nx:=⟨⟨0,by rw[h];rfl⟩,Nat.le_refl _,HE.refl _ _⟩
end
end Sw
namespace Sw
noncomputable section
open Go Go.RowKit
theorem WP.Xb{e:Env}{to:Tm}{ds:List Deferred}{hp:Ht}{nx:Nat}{gW:List Nat}{fn:FuncId}{nt:Nat}{f:Operand}{params:Array Tmp}{assign body:Code}{W:Nat->St->Prop}(fv:Value)(hf:(aaj f).run to=fv)
 (h:WV e fv [.func (.yield (nx+1)) #[] #[]] ((hp.set nx (some (.deferred (some [])))).set (nx+1) (some (.loop ⟨.ready,none,fn,to,nt,params.toList,assign,body,nx⟩))) (nx+1+1)
   fun _ fe fg=>∃r o,fe.get (nx+1)=some (.loop r)/\r.state≠.busy/\zZ r.pending=some o/\W o ⟨to,⟨.collected nx,#[]⟩::ds,fe.set (nx+1) (some (.loop {r with state:=.exhausted})),fg,gW⟩):
 WP e ⟨fn,nt,none⟩ (.rangeFunc f params assign body) ⟨to,ds,hp,nx,gW⟩ W:=by
 subst hf;exact .rangeFunc h
theorem WP.Mp{e:Env}{to:Tm}{ds:List Deferred}{hp:Ht}{nx:Nat}{gW:List Nat}{fn:FuncId}{nt:Nat}{f:Operand}{params:Array Tmp}{assign body:Code}{W:Nat->St->Prop}(fv:Value)(hf:(aaj f).run to=fv)
 (h:∀r,r=⟨.ready,none,fn,to,nt,params.toList,assign,body,nx⟩->WV e fv [.func (.yield (nx+1)) #[] #[]] ((hp.set nx (some (.deferred (some [])))).set (nx+1) (some (.loop r))) (nx+1+1)
   fun _ fe fg=>∃r o,fe.get (nx+1)=some (.loop r)/\r.state≠.busy/\zZ r.pending=some o/\W o ⟨to,⟨.collected nx,#[]⟩::ds,fe.set (nx+1) (some (.loop {r with state:=.exhausted})),fg,gW⟩):
 WP e ⟨fn,nt,none⟩ (.rangeFunc f params assign body) ⟨to,ds,hp,nx,gW⟩ W:=.Xb fv hf (h _ rfl)
theorem WV.round{e:Env}{hp:Ht}{nx:Nat}{A:Value->Ht->Nat->Prop}{l:Nat}{r:_}{a b:Array Value}{n9:List Value}(t:Tm)(hl:hp.get l=some (.loop r))(h0:e.low=0)(hs:r.state=.ready)(I:vf r.params n9 r.tmps=some t)
 (h:WP e ⟨r.fn,r.nt,some l⟩ r.assign ⟨t,[],hp,nx,[]⟩ fun o s1=>Nat.beq o 0=true/\s1.hp.get l=some (.loop r)/\∀j:Ht,j.get l=some (.loop {r with state:=.busy})->(∀c,c≠l->j.get c=s1.hp.get c)->
   WP e ⟨r.fn,r.nt,some l⟩ r.body ⟨s1.to,s1.ds,j,s1.nx,[]⟩ fun o2 s2=>s2.ds=[]/\s2.hp.get l=some (.loop {r with state:=.busy})/\∀C:Ht,C.get l=some (.loop {r with state:=(bif Nat.beq o2 0 then .ready else .done),pending:=wJ o2})->(∀c,c≠l->C.get c=s2.hp.get c)->A (.bool (Nat.beq o2 0)) C s2.nx):WV e (.func (.yield l) a b) n9 hp nx A:=by
 refine WV.yield hl h0 I (h.mono fun o s1 ⟨J,R,U⟩=>⟨J,r,R,hs,(U _ (Tr.hY ..) (fun c hc=>Tr.gC _ _ hc)).mono fun o2 s2 ⟨aa,ab,q3⟩=>⟨aa,_,ab,q3 _ (Tr.hY ..) (fun c hc=>Tr.gC _ _ hc)⟩⟩)
section
variable {α:Type}{enc:α->List Value}{n B b gr:Nat}{hp fe:Ht}{nx fg:Nat}{L:List α}{J:SV α}
theorem td.r_(h:td enc n B b gr hp nx L)(he:∀c,B<=c->fe.get c=hp.get c):td enc n B b gr fe nx L:=by
 obtain⟨h1,⟨ms,h2,h3⟩,h4,j,I,o⟩:=h
 refine⟨(he _ j).trans h1,⟨ms,(he _ o).trans h2,fun e hm=>?_⟩,h4,j,I,o⟩
 obtain⟨J,C,R,U,aa⟩:=h3 e hm
 exact⟨J,C,R,U,fun l hl=>aa l (by rw[<-he e.gb C];exact hl)⟩
theorem mf.r_(h:mf enc n B hp nx J)(he:∀c,B<=c->fe.get c=hp.get c):mf enc n B fe nx J:=by
 rcases h with h|⟨h0,b,gr,h1,h2⟩
 · exact .inl h
 · exact .inr ⟨h0,b,gr,h1,h2.r_ he⟩
theorem td.low{B':Nat}(h:td enc n B b gr hp nx L)(J:B'<=B):td enc n B' b gr hp nx L:=by
 obtain⟨h1,⟨ms,h2,h3⟩,h4,C,j,I⟩:=h
 exact⟨h1,⟨ms,h2,fun e hm=>by obtain⟨o,R,k⟩:=h3 e hm;exact⟨o,by omega,k⟩⟩,h4,by omega,j,by omega⟩
theorem mf.low{B':Nat}(h:mf enc n B hp nx J)(j:B'<=B):mf enc n B' hp nx J:=by
 rcases h with h|⟨h0,b,gr,h1,h2⟩
 · exact .inl h
 · exact .inr ⟨h0,b,gr,h1,h2.low j⟩
end
end
end Sw
namespace Sw
noncomputable section
open Go Go.RowKit
section
variable {α:Type}{enc:α->List Value}{n B:Nat}{hp fe:Ht}{nx fg:Nat}{J:SV α}
theorem mf.yF{T:Ty}{st xt el:Nat}{x z:Value}{inf:TypeInfo}(j:List α)(h:mf enc n B hp nx J)(hlen:∀y∈J.l,(enc y).length=n)(hu:T.ji st=some (.slice el))(hs:T.size el=some n)(al:T.zero el=some z)(hi:T.info el=some inf)
 (hx:pn T xt x=some (j.length,false)) (U:lK hp.get (j.length*n) x=some (j.flatMap enc)) (aa:tZ n x=true) (av:∀y∈j,(enc y).length=n) (af:(j.flatMap enc).all one=true) (ar:0<n)
 (b1:(J.l.length+j.length)*inf.bytes<=70368744177664) (b2:inf.bytes<=1073741824) (ah:J.l.length+j.length<=70368744177664) (ad:B<=nx):
 ∃v' jA k,jZ T hp.get st xt J.v x nx=some (v',jA,k)/\mf enc n B (jg jA hp) (nx+k) ⟨v',J.l++j⟩/\HE B hp (jg jA hp):=by
 rcases Nat.eq_zero_or_pos j.length with hm|hm
 · obtain rfl:=List.eq_nil_of_length_eq_zero hm
   have e0:∀a',jZ T hp.get st xt (.slice a' J.l.length J.l.length) x nx=some (.slice a' (J.l.length+0) J.l.length,[],0):=fun a'=>by
    have ag:(J.l.length+0)*inf.bytes<=70368744177664:=b1
    have ai:J.l.length+0<=70368744177664:=ah
    have ak:pn T xt x=some (0,false):=hx
    have ab:lK hp.get (0*n) x=some []:=U
    simp only[jZ,hu,hs,al,hi,ak,ml,cond_false,aa,cond_true,ab,Option.bind_some,List.all_nil,Nat.ble_eq_true_of_le ag,Nat.ble_eq_true_of_le b2,Nat.ble_eq_true_of_le ai,Bool.and_true,Nat.ble_eq_true_of_le (show J.l.length+0<=J.l.length by omega)]
   rcases h with⟨h1,h2⟩|⟨h2,b,gr,h1,hb⟩
   · have e2:=e0 none
     rw[h1]at e2
     rw[h2]
     exact⟨_,_,_,e2,.inl ⟨by rw[h1];rfl,rfl⟩,HE.refl _ _⟩
   · rw[h1]
     refine⟨_,_,_,e0 _,.inr ⟨by rw[List.append_nil];exact h2,b,gr,by rw[List.append_nil];rfl,?_⟩,HE.refl _ _⟩
     rw[List.append_nil];exact hb
 have ae:Nat.ble (J.l.length+j.length) J.l.length=false:=by
  cases hb:Nat.ble (J.l.length+j.length) J.l.length with
  |false=>rfl
  |true=>have:=Nat.le_of_ble_eq_true hb;omega
 have e1:∀a',jZ T hp.get st xt (.slice a' J.l.length J.l.length) x nx=pC hp.get a' J.l.length n (j.flatMap enc) j.length nx:=fun a'=>by
  simp only[jZ,hu,hs,al,hi,hx,ml,cond_false,aa,cond_true,U,Option.bind_some,af,Nat.ble_eq_true_of_le b1,Nat.ble_eq_true_of_le b2,Nat.ble_eq_true_of_le ah,Bool.and_true,ae]
 have hl:=nm J.l hlen
 have o:(J.l++j).flatMap enc=J.l.flatMap enc++j.flatMap enc:=List.flatMap_append
 have I:(J.l++j).length=J.l.length+j.length:=by simp
 rcases h with⟨h1,h2⟩|⟨h2,b,gr,h1,hb,⟨ms,hg,qF⟩,jz,au,h3,h4⟩
 · have h0:J.l.length=0:=by rw[h1];rfl
   have e2:=e1 none
   rw[h0]at e2
   rw[h2]
   refine⟨_,_,_,e2,.inr ⟨by rw[I];omega,nx+1,nx,by rw[I,h0],?_,⟨[⟨nx+1,0,_⟩],(Tr.gC _ _ (by omega)).trans (Tr.hY ..),fun e he=>?_⟩,by omega,by omega,by omega,ad⟩,fun c hc=>?_⟩
   · rw[o,h1];exact Tr.hY ..
   · rw[List.mem_singleton.1 he,o,h1]
     refine⟨by simp,by show B<=nx+1;omega,by show nx+1<_;omega,by show nx+1≠nx;omega,fun l C=>?_⟩
     have:=C.symm.trans (Tr.hY ..)
     cases this
   · exact(Tr.gC _ _ (by omega)).trans (Tr.gC _ _ (by omega))
 · have R:∀e∈ms,beyond (0+0+J.l.length*n) e=false:=fun e he=>by
    have:=(qF e he).1
    cases aj:beyond (0+0+J.l.length*n) e with
    |false=>rfl
    |true=>
     unfold beyond at aj
     have:=mq.1 aj
     omega
   have f1:ms.filter (beyond (0+0+J.l.length*n))=[]:=by
    rw[List.filter_eq_nil_iff];intro e he;rw[R e he];simp
   have f2:(ms.filter fun e=>!(beyond (0+0+J.l.length*n) e))=ms:=by
    rw[List.filter_eq_self];intro e he;rw[R e he];rfl
   have e2:pC hp.get (some ⟨b,0,none⟩) J.l.length n (j.flatMap enc) j.length nx=some (.slice (some ⟨nx,0,none⟩) (J.l.length+j.length) (J.l.length+j.length),
    [(gr,some (jM.group (ms++[⟨nx,0,(J.l.flatMap enc++j.flatMap enc).length⟩]))),(nx,some (jM.cells (J.l.flatMap enc++j.flatMap enc) ⟨false,some gr,0,n⟩))],1):=by
    simp only[s9,hb,Au _ _ hl,Option.bind_some,hg,nT,f1,List.all_nil,Bool.not_false,Nat.beq_refl,Bool.and_true,cond_true,mN,List.map_nil,List.nil_append,f2]
   rw[h1]
   refine⟨_,_,_,(e1 _).trans e2,.inr ⟨by rw[I];omega,nx,gr,by rw[I],?_,⟨_,(Tr.gC _ _ (by omega)).trans (Tr.hY ..),fun e he=>?_⟩,by omega,ad,by omega,h4⟩,fun c hc=>(Tr.gC _ _ (by omega)).trans (Tr.gC _ _ (by omega))⟩
   · rw[o];exact Tr.hY ..
   · rcases List.mem_append.1 he with he|he
     · obtain⟨aw,ao,ax,an,aq⟩:=qF e he
       refine⟨by rw[o,List.length_append];omega,ao,by omega,an,fun l C=>aq l ?_⟩
       have:(jg [(gr,some (jM.group (ms++[⟨nx,0,(J.l.flatMap enc++j.flatMap enc).length⟩]))),(nx,some (jM.cells (J.l.flatMap enc++j.flatMap enc) ⟨false,some gr,0,n⟩))] hp).get e.gb=hp.get e.gb:=(Tr.gC _ _ (by omega)).trans (Tr.gC _ _ an)
       exact this.symm.trans C
     · rw[List.mem_singleton.1 he]
       refine⟨by rw[o];simp,ad,by show nx<_;omega,by show nx≠gr;omega,fun l C=>?_⟩
       have:=C.symm.trans (Tr.hY ..)
       cases this
end
section
variable {e:Env}{fm:Fm}{to:Tm}{ds:List Deferred}{hp:Ht}{nx:Nat}{gW:List Nat}{Q:St->Prop}{all:List Oper}{d:Tmp}{ty:TypeId}{pos:String}{j1:Array Edge}
theorem WC.yF{α:Type}{enc:α->List Value}{st xt el:TypeId}{x y:Operand}{B n:Nat}{z w:Value}{inf:TypeInfo}{J:SV α}(j:List α)(hl:e.low=0)(hx:(aaj x).run to=J.v)(hy:(aaj y).run to=w)
 (h:mf enc n B hp nx J) (hlen:∀y∈J.l,(enc y).length=n) (hu:e.T.ji st=some (.slice el)) (hs:e.T.size el=some n) (af:e.T.zero el=some z) (hi:e.T.info el=some inf)
 (ad:pn e.T xt w=some (j.length,false)) (C:lK hp.get (j.length*n) w=some (j.flatMap enc)) (I:tZ n w=true) (U:∀y∈j,(enc y).length=n) (o:(j.flatMap enc).all one=true) (R:0<n)
 (b1:(J.l.length+j.length)*inf.bytes<=70368744177664) (b2:inf.bytes<=1073741824) (aa:J.l.length+j.length<=70368744177664) (ab:B<=nx)
 {qP:Array TypeId} (ae:qP=#[st,xt]) (q:∀(J':SV α) fe fg,J'.l=J.l++j->nx<=fg->HE B hp fe->mf enc n B fe fg J'->Q ⟨to.set d J'.v,ds,fe,fg,gW⟩):
 WC e fm (iH all ⟨some d,.call {callee:=.builtin .append,args:=#[x,y],argTypes:=qP},ty,pos,j1,none⟩) ⟨to,ds,hp,nx,gW⟩ Q:=by
 subst ae
 obtain⟨v',jA,k,h1,h2,h3⟩:=h.yF j hlen hu hs af hi ad C I U o R b1 b2 aa ab
 refine .Mk d (jZ e.T hp.get st xt J.v w nx) hl (fun _ _ _=>?_) h1 (q ⟨v',J.l++j⟩ _ _ rfl (by omega) h3 h2)
 rw[<-hx,<-hy];rfl
theorem WC.Mq{α:Type}{enc:α->List Value}{st el:TypeId}{x y:Operand}{B n:Nat}{z:Value}{inf:TypeInfo}{R:List Value}{b:Nat}{aa:gl}{J:SV α}(a:α)(hl:e.low=0)(hx:(aaj x).run to=J.v)(hy:(aaj y).run to=.slice (some ⟨b,0,none⟩) 1 1)
 (h:mf enc n B hp nx J) (hlen:∀y∈J.l,(enc y).length=n) (hb:hp.get b=some (.cells R aa)) (I:R=enc a) (hu:e.T.ji st=some (.slice el)) (hs:e.T.size el=some n) (ae:e.T.zero el=some z) (hi:e.T.info el=some inf) (j:(enc a).length=n) (o:(enc a).all one=true) (C:0<n)
 (b1:(J.l.length+1)*inf.bytes<=70368744177664) (b2:inf.bytes<=1073741824) (U:J.l.length+1<=70368744177664) (ab:B<=nx)
 {qP:Array TypeId} (ad:qP=#[st,st]) (q:∀(J':SV α) fe fg,J'.l=J.l++[a]->nx<=fg->HE B hp fe->mf enc n B fe fg J'->Q ⟨to.set d J'.v,ds,fe,fg,gW⟩):
 WC e fm (iH all ⟨some d,.call {callee:=.builtin .append,args:=#[x,y],argTypes:=qP},ty,pos,j1,none⟩) ⟨to,ds,hp,nx,gW⟩ Q:=by
 subst I
 have h1:[a].flatMap enc=enc a:=by simp
 refine WC.yF [a] hl hx hy h hlen hu hs ae hi (by simp only[pn,hu];rfl) ?_ rfl (fun y hy=>by rw[List.mem_singleton.1 hy];exact j) (by rw[h1];exact o) C b1 b2 U ab ad q
 rw[h1]
 show lK hp.get (1*n) _=_
 rw[Nat.one_mul]
 cases n with
 |zero=>omega
 |succ k=>
  show(match hp.get b with|some (.cells cs _)=>lJ (k+1) (cs.drop 0)|_=>none)=_
  rw[hb]
  exact xl _ _ (by rw[List.drop_zero,j])
end
section
variable {e:Env}{fm:Fm}{to:Tm}{ds:List Deferred}{hp:Ht}{nx:Nat}{gW:List Nat}{Q:St->Prop}{all:List Oper}{j:Nat}{w:Bool}{dst:Option Tmp}{op:Op}{ty:TypeId}{pos:String}{j1:Array Edge}
theorem WC.k_{g:Od}{x:Value}(hg:kn all j=some g)(hx:g.run to=x)(hw:mQ w x=true)(h:WC e fm (iH all ⟨dst,op,ty,pos,j1,none⟩) ⟨to,ds,hp,nx,gW⟩ Q):WC e fm (iH all ⟨dst,op,ty,pos,j1,some (j,w)⟩) ⟨to,ds,hp,nx,gW⟩ Q:=by
 subst hx
 obtain⟨s1,⟨I,C⟩,o⟩:=h
 refine⟨s1,⟨I,fun n hn cs k=>?_⟩,o⟩
 rw[EC dst hg,hw]
 exact C n hn cs k
end
theorem H5{α:Type}:∀(m:Nat) (xs v r:List α),lJ m xs=some v->lJ m (xs++r)=some v
 |0,xs,v,r,h=>by cases xs<;>cases r<;>exact h
 |m+1,[],v,r,h=>by cases h
 |m+1,x::xs,v,r,h=>by
  have h:(lJ m xs).map (x::·)=some v:=h
  obtain⟨w,hw,rfl⟩:=Option.map_eq_some_iff.1 h
  show(lJ m (xs++r)).map (x::·)=_
  rw[H5 m xs w r hw];rfl
theorem Mr{α:Type}{enc:α->List Value}{n:Nat}{l:List α}{i f m:Nat}{x:α}{v:List Value}(hl:∀y∈l,(enc y).length=n)(h:l[i]?=some x)(hf:f<=n)(j:lJ m ((enc x).drop f)=some v):lJ m ((l.flatMap enc).drop (0+i*n+f))=some v:=by
 obtain⟨r,hr⟩:=z_ l i x hl h
 have hx:=hl x (List.mem_of_getElem? h)
 rw[Nat.zero_add,<-List.drop_drop,hr,List.drop_append_of_le_length (by omega)]
 exact H5 _ _ _ _ j
section
variable {α:Type}{enc:α->List Value}{n B b c:Nat}{hp h1 h2:Ht}{nx:Nat}{s:SV α}
theorem HE.er(h:HE B h1 h2):HE B (h1.set b none) (h2.set b none):=fun q j=>by
 by_cases k:q=b
 · subst k;rw[Tr.hY,Tr.hY]
 · rw[Tr.gC _ _ k,Tr.gC _ _ k];exact h q j
theorem HE.YT(h:∀q,q≠b->h2.get q=h1.get q):HE B (h1.set b none) (h2.set b none):=fun q _=>by
 by_cases k:q=b
 · subst k;rw[Tr.hY,Tr.hY]
 · rw[Tr.gC _ _ k,Tr.gC _ _ k];exact h q k
theorem HE.ZX(h:HE B (h1.set b none) (h2.set b none))(hc:c<B)(hn:c≠b):h2.get c=h1.get c:=by
 have:=h c hc
 rwa[Tr.gC _ _ hn,Tr.gC _ _ hn]at this
theorem gA.un(h:gA enc n (hp.set b none) nx s):gA enc n hp nx s:=by
 refine⟨h.1,?_,h.2.2⟩
 rcases h.2.1 with h|⟨q,cap,m,h1,h2,h3,h4,j⟩
 · exact .inl h
 · refine .inr ⟨q,cap,m,h1,h2,h3,?_,j⟩
   by_cases k:q=b
   · subst k;rw[Tr.hY]at h4;cases h4
   · rwa[Tr.gC _ _ k]at h4
theorem jt.un{E:Ht->Nat->α->Prop}(h:jt enc n E (hp.set b none) nx s)(hE:∀x,E (hp.set b none) nx x->E hp nx x):jt enc n E hp nx s:=⟨h.1.un,fun x hx=>hE x (h.2 x hx)⟩
end
def Xc:Value->Prop:=Je True
end
end Sw
namespace Sw
noncomputable section
open Go Go.RowKit
set_option maxRecDepth 100000
inductive RCond where
 |mk (k v n:Int) (pv:Value) (pl:List RCond)
namespace RCond
def jf:RCond->Int
 |.mk k _ _ _ _=>k
def rP:RCond->Int
 |.mk _ v _ _ _=>v
def fN:RCond->Int
 |.mk _ _ n _ _=>n
def fW:RCond->SV RCond
 |.mk _ _ _ pv pl=>⟨pv,pl⟩
end RCond
instance :Inhabited RCond:=⟨.mk 0 0 0 (.slice none 0 0) []⟩
def ig(x:RCond):List Value:=[.int .i64 x.jf,.int .i64 x.rP,.int .i64 x.fN,x.fW.v]
theorem RCond.Cq{c x:RCond}(h:x∈c.fW.l):sizeOf x<sizeOf c:=by
 cases c with
 |mk k v n pv pl=>
  have h:x∈pl:=h
  have:=List.sizeOf_lt_of_mem h
  simp only[RCond.mk.sizeOf_spec];omega
def te:Nat->Ht->Nat->RCond->Prop
 |0,_,_,_=>False
 |n+1,hp,nx,c=>jt ig 4 (te n) hp nx c.fW/\c.fW.l.length*48<=140737488351232
theorem te.mono:∀{n:Nat} {hp fe:Ht} {nx fg:Nat} {c:RCond},te n hp nx c->HE nx hp fe->nx<=fg->te n fe fg c
 |0,_,_,_,_,_,h,_,_=>h
 |_+1,_,_,_,_,_,h,he,hn=>⟨h.1.mono (fun _ h he hn=>te.mono h he hn) he hn,h.2⟩
def lB(hp:Ht)(nx:Nat)(c:RCond):Prop:=∃n,te n hp nx c
theorem lB.mono{hp fe:Ht}{nx fg:Nat}{x:RCond}(h:lB hp nx x)(he:HE nx hp fe)(hn:nx<=fg:=by omega):lB fe fg x:=by
 obtain⟨n,h⟩:=h;exact⟨n,h.mono he hn⟩
theorem lB.fW{hp:Ht}{nx:Nat}{x:RCond}(h:lB hp nx x):jt ig 4 (fun hp nx y=>lB hp nx y) hp nx x.fW:=by
 obtain⟨n,h⟩:=h
 cases n with
 |zero=>exact h.elim
 |succ n=>exact⟨h.1.1,fun x hx=>⟨n,h.1.2 x hx⟩⟩
theorem lB.len{hp:Ht}{nx:Nat}{x:RCond}(h:lB hp nx x):x.fW.l.length*48<=140737488351232:=by
 obtain⟨n,h⟩:=h
 cases n with
 |zero=>exact h.elim
 |succ n=>exact h.2
theorem wM{hp:Ht}{nx:Nat}(x:RCond)(h:lB hp nx x):(ig x).all one=true:=by
 simp only[ig,List.all_cons,List.all_nil,vW,h.fW.1.one,Bool.and_true]
inductive RStep where
 |mk (k b:Int) (c:RCond) (tv:Value) (tl:List RStep) (ev:Value) (el:List RStep)
namespace RStep
def jf:RStep->Int
 |.mk k _ _ _ _ _ _=>k
def AT:RStep->Int
 |.mk _ b _ _ _ _ _=>b
def jc:RStep->RCond
 |.mk _ _ c _ _ _ _=>c
def lX:RStep->SV RStep
 |.mk _ _ _ tv tl _ _=>⟨tv,tl⟩
def nu:RStep->SV RStep
 |.mk _ _ _ _ _ ev el=>⟨ev,el⟩
end RStep
instance :Inhabited RStep:=⟨.mk 0 0 default (.slice none 0 0) [] (.slice none 0 0) []⟩
def ju(x:RStep):List Value:=[.int .i64 x.jf,.int .i64 x.AT,.int .i64 x.jc.jf,.int .i64 x.jc.rP,.int .i64 x.jc.fN,x.jc.fW.v,x.lX.v,x.nu.v]
theorem RStep.then_lt{s x:RStep}(h:x∈s.lX.l):sizeOf x<sizeOf s:=by
 cases s with
 |mk k b c tv tl ev el=>
  have h:x∈tl:=h
  have:=List.sizeOf_lt_of_mem h
  simp only[RStep.mk.sizeOf_spec];omega
theorem RStep.OV{s x:RStep}(h:x∈s.nu.l):sizeOf x<sizeOf s:=by
 cases s with
 |mk k b c tv tl ev el=>
  have h:x∈el:=h
  have:=List.sizeOf_lt_of_mem h
  simp only[RStep.mk.sizeOf_spec];omega
theorem RStep.OW(s:RStep):sizeOf s.jc<sizeOf s:=by
 cases s with
 |mk k b c tv tl ev el=>simp only[RStep.mk.sizeOf_spec,RStep.jc];omega
def qI:Nat->Ht->Nat->RStep->Prop
 |0,_,_,_=>False
 |n+1,hp,nx,s=>lB hp nx s.jc/\jt ju 8 (qI n) hp nx s.lX/\jt ju 8 (qI n) hp nx s.nu/\s.lX.l.length*112<=140737488351232/\s.nu.l.length*112<=140737488351232
theorem qI.mono:∀{n:Nat} {hp fe:Ht} {nx fg:Nat} {c:RStep},qI n hp nx c->HE nx hp fe->nx<=fg->qI n fe fg c
 |0,_,_,_,_,_,h,_,_=>h
 |_+1,_,_,_,_,_,h,he,hn=>⟨h.1.mono he hn,h.2.1.mono (fun _ h he hn=>qI.mono h he hn) he hn,h.2.2.1.mono (fun _ h he hn=>qI.mono h he hn) he hn,h.2.2.2⟩
def j4(hp:Ht)(nx:Nat)(c:RStep):Prop:=∃n,qI n hp nx c
section
variable {hp fe:Ht}{nx fg:Nat}{x:RStep}
theorem j4.mono(h:j4 hp nx x)(he:HE nx hp fe)(hn:nx<=fg:=by omega):j4 fe fg x:=by
 obtain⟨n,h⟩:=h;exact⟨n,h.mono he hn⟩
theorem j4.out(h:j4 hp nx x):lB hp nx x.jc/\jt ju 8 (fun hp nx y=>j4 hp nx y) hp nx x.lX/\jt ju 8 (fun hp nx y=>j4 hp nx y) hp nx x.nu/\x.lX.l.length*112<=140737488351232/\x.nu.l.length*112<=140737488351232:=by
 obtain⟨n,h⟩:=h
 cases n with
 |zero=>exact h.elim
 |succ n=>exact⟨h.1,⟨h.2.1.1,fun x hx=>⟨n,h.2.1.2 x hx⟩⟩,⟨h.2.2.1.1,fun x hx=>⟨n,h.2.2.1.2 x hx⟩⟩,h.2.2.2⟩
theorem j4.jc(h:j4 hp nx x):lB hp nx x.jc:=h.out.1
theorem j4.lX(h:j4 hp nx x):jt ju 8 (fun hp nx y=>j4 hp nx y) hp nx x.lX:=h.out.2.1
theorem j4.nu(h:j4 hp nx x):jt ju 8 (fun hp nx y=>j4 hp nx y) hp nx x.nu:=h.out.2.2.1
theorem j4.len(h:j4 hp nx x):x.lX.l.length*112<=140737488351232/\x.nu.l.length*112<=140737488351232:=h.out.2.2.2
end
theorem BY{hp:Ht}{nx:Nat}(x:RStep)(h:j4 hp nx x):(ju x).all one=true:=by
 simp only[ju,List.all_cons,List.all_nil,vW,h.jc.fW.1.one,h.lX.1.one,h.nu.1.one,Bool.and_true]
theorem te.un{b:Nat}:∀{n:Nat} {hp:Ht} {nx:Nat} {c:RCond},te n (hp.set b none) nx c->te n hp nx c
 |0,_,_,_,h=>h
 |_+1,_,_,_,h=>⟨h.1.un fun _ h=>te.un h,h.2⟩
theorem lB.un{b:Nat}{hp:Ht}{nx:Nat}{c:RCond}(h:lB (hp.set b none) nx c):lB hp nx c:=by
 obtain⟨n,h⟩:=h;exact⟨n,h.un⟩
theorem qI.un{b:Nat}:∀{n:Nat} {hp:Ht} {nx:Nat} {c:RStep},qI n (hp.set b none) nx c->qI n hp nx c
 |0,_,_,_,h=>h
 |_+1,_,_,_,h=>⟨h.1.un,h.2.1.un fun _ h=>qI.un h,h.2.2.1.un fun _ h=>qI.un h,h.2.2.2⟩
theorem j4.un{b:Nat}{hp:Ht}{nx:Nat}{c:RStep}(h:j4 (hp.set b none) nx c):j4 hp nx c:=by
 obtain⟨n,h⟩:=h;exact⟨n,h.un⟩
def nw(c:RCond):Prop:=c.jf=0/\c.rP=0/\c.fN=0/\c.fW.l=[]
inductive lY:RCond->Prop where
 |leaf {c:RCond} (k:c.jf=1) (v:1<=c.rP/\c.rP<=3) (n:0<=c.fN/\c.fN<=10000) (p:c.fW.l=[]):lY c
 |neg {c:RCond} (k:c.jf=4) (v:c.rP=0) (n:c.fN=0) (p:c.fW.l.length=1) (h:∀x∈c.fW.l,lY x):lY c
 |many {c:RCond} (k:c.jf=2\/c.jf=3) (v:c.rP=0) (n:c.fN=0) (p:0<c.fW.l.length/\c.fW.l.length<=16) (h:∀x∈c.fW.l,lY x):lY c
inductive ph:RStep->Prop where
 |one {s:RStep} (k:s.jf=1) (b:1<=s.AT/\s.AT<=5) (c:nw s.jc) (t:s.lX.l=[]) (e:s.nu.l=[]):ph s
 |Vb {s:RStep} (k:s.jf=2) (b:s.AT=0) (c:lY s.jc) (t0:s.lX.l≠[]) (t:∀x∈s.lX.l,ph x) (e:∀x∈s.nu.l,ph x):ph s
end
end Sw
namespace Sw
noncomputable section
open Go Go.RowKit
set_option maxRecDepth 100000
inductive RPart where
 |mk (m l:Int) (pv:Value) (pl:List RPart)
namespace RPart
def iX:RPart->Int
 |.mk m _ _ _=>m
def kc:RPart->Int
 |.mk _ l _ _=>l
def fW:RPart->SV RPart
 |.mk _ _ pv pl=>⟨pv,pl⟩
end RPart
instance :Inhabited RPart:=⟨.mk 0 0 (.slice none 0 0) []⟩
def jJ(x:RPart):List Value:=[.int .i64 x.iX,.int .i64 x.kc,x.fW.v]
theorem RPart.Cq{c x:RPart}(h:x∈c.fW.l):sizeOf x<sizeOf c:=by
 cases c with
 |mk m l pv pl=>
  have h:x∈pl:=h
  have:=List.sizeOf_lt_of_mem h
  simp only[RPart.mk.sizeOf_spec];omega
def vX:Nat->Ht->Nat->RPart->Prop
 |0,_,_,_=>False
 |n+1,hp,nx,c=>jt jJ 3 (vX n) hp nx c.fW/\c.fW.l.length*40<=140737488351232
theorem vX.mono:∀{n:Nat} {hp fe:Ht} {nx fg:Nat} {c:RPart},vX n hp nx c->HE nx hp fe->nx<=fg->vX n fe fg c
 |0,_,_,_,_,_,h,_,_=>h
 |_+1,_,_,_,_,_,h,he,hn=>⟨h.1.mono (fun _ h he hn=>vX.mono h he hn) he hn,h.2⟩
def kL(hp:Ht)(nx:Nat)(c:RPart):Prop:=∃n,vX n hp nx c
theorem kL.mono{hp fe:Ht}{nx fg:Nat}{x:RPart}(h:kL hp nx x)(he:HE nx hp fe)(hn:nx<=fg:=by omega):kL fe fg x:=by
 obtain⟨n,h⟩:=h;exact⟨n,h.mono he hn⟩
theorem kL.fW{hp:Ht}{nx:Nat}{x:RPart}(h:kL hp nx x):jt jJ 3 (fun hp nx y=>kL hp nx y) hp nx x.fW:=by
 obtain⟨n,h⟩:=h
 cases n with
 |zero=>exact h.elim
 |succ n=>exact⟨h.1.1,fun x hx=>⟨n,h.1.2 x hx⟩⟩
theorem kL.len{hp:Ht}{nx:Nat}{x:RPart}(h:kL hp nx x):x.fW.l.length*40<=140737488351232:=by
 obtain⟨n,h⟩:=h
 cases n with
 |zero=>exact h.elim
 |succ n=>exact h.2
theorem F6{hp:Ht}{nx:Nat}(x:RPart)(h:kL hp nx x):(jJ x).all one=true:=by
 simp only[jJ,List.all_cons,List.all_nil,vW,h.fW.1.one,Bool.and_true]
end
end Sw
namespace Sw
noncomputable section
open Go Go.RowKit
structure rQ where
 iX:Int
 kg:Int
 pH:Int
instance :Inhabited rQ:=⟨⟨default,default,default⟩⟩
def j8(x:rQ):List Value:=[.int .i64 x.iX,.int .i64 x.kg,.int .i64 x.pH]
theorem Cr(x:rQ):kY 8 (.agg (j8 x).toArray) (.agg (j8 x).toArray)=true:=(yA 7 _ (by intro v j;have j:v∈j8 x:=j;simp only[j8,List.mem_cons,List.not_mem_nil,or_false]at j;rcases j with rfl|rfl|rfl<;>first|exact iQ ..|exact jd ..|exact xm ..))
structure kM where
 gG:SV rQ
 iU:SV (SV Int)
instance :Inhabited kM:=⟨⟨default,default⟩⟩
def jE(x:kM):List Value:=[x.gG.v,x.iU.v]
structure oI(hp:Ht)(nx:Nat)(x:kM):Prop where
 gG:gA j8 3 hp nx x.gG
 iU:jt lG 1 (fun hp nx y=>gA encI 1 hp nx y) hp nx x.iU
theorem oI.mono{hp fe:Ht}{nx fg:Nat}{x:kM}(h:oI hp nx x)(he:HE nx hp fe)(hn:nx<=fg:=by omega):oI fe fg x:=
 ⟨h.gG.mono he hn,h.iU.mono (fun _ h he hn=>h.mono he hn) he hn⟩
structure Ac where
 fA:Int
 fB:Int
instance :Inhabited Ac:=⟨⟨default,default⟩⟩
def sW(x:Ac):List Value:=[.int .i64 x.fA,.int .i64 x.fB]
structure jL where
 kl:Bool
 oM:Int
 h_:Int
 hQ:Int
instance :Inhabited jL:=⟨⟨default,default,default,default⟩⟩
def ie(x:jL):List Value:=[.bool x.kl,.int .i64 x.oM,.int .i64 x.h_,.int .i64 x.hQ]
theorem Cs(x:jL):kY 8 (.agg (ie x).toArray) (.agg (ie x).toArray)=true:=(yA 7 _ (by intro v j;have j:v∈ie x:=j;simp only[ie,List.mem_cons,List.not_mem_nil,or_false]at j;rcases j with rfl|rfl|rfl|rfl<;>first|exact iQ ..|exact jd ..|exact xm ..))
structure i_ where
 mR:Int
 lj:SV Int
 gI:SV (SV jL)
instance :Inhabited i_:=⟨⟨default,default,default⟩⟩
def je(x:i_):List Value:=[.int .i64 x.mR,x.lj.v,x.gI.v]
structure mw(hp:Ht)(nx:Nat)(x:i_):Prop where
 lj:gA encI 1 hp nx x.lj
 gI:jt lG 1 (fun hp nx y=>gA ie 4 hp nx y) hp nx x.gI
theorem mw.mono{hp fe:Ht}{nx fg:Nat}{x:i_}(h:mw hp nx x)(he:HE nx hp fe)(hn:nx<=fg:=by omega):mw fe fg x:=
 ⟨h.lj.mono he hn,h.gI.mono (fun _ h he hn=>h.mono he hn) he hn⟩
theorem wZ{hp:Ht}{nx:Nat}(x:i_)(h:mw hp nx x):(je x).all one=true:=by simp only[je,List.all_cons,List.all_nil,vW,yB,Ft,Bool.and_true,h.lj.one,h.gI.1.one]
theorem KK{hp:Ht}{nx:Nat}(x:i_)(h:mw hp nx x):kY 8 (.agg (je x).toArray) (.agg (je x).toArray)=true:=(yA 7 _ (by intro v j;have j:v∈je x:=j;simp only[je,List.mem_cons,List.not_mem_nil,or_false]at j;rcases j with rfl|rfl|rfl<;>first|exact iQ ..|exact jd ..|exact xm ..|exact h.lj.kO 7|exact h.gI.1.kO 7))
structure kU where
 jv:kM
 iD:SV Ac
 fL:SV i_
instance :Inhabited kU:=⟨⟨default,default,default⟩⟩
def iK(x:kU):List Value:=[x.jv.gG.v,x.jv.iU.v,x.iD.v,x.fL.v]
structure ny(hp:Ht)(nx:Nat)(x:kU):Prop where
 jv:oI hp nx x.jv
 iD:gA sW 2 hp nx x.iD
 fL:jt je 3 (fun hp nx y=>mw hp nx y) hp nx x.fL
theorem ny.mono{hp fe:Ht}{nx fg:Nat}{x:kU}(h:ny hp nx x)(he:HE nx hp fe)(hn:nx<=fg:=by omega):ny fe fg x:=
 ⟨h.jv.mono he hn,h.iD.mono he hn,h.fL.mono (fun _ h he hn=>h.mono he hn) he hn⟩
theorem Ms{hp:Ht}{nx:Nat}(x:kU)(h:ny hp nx x):kY 8 (.agg (iK x).toArray) (.agg (iK x).toArray)=true:=(yA 7 _ (by intro v j;have j:v∈iK x:=j;simp only[iK,List.mem_cons,List.not_mem_nil,or_false]at j;rcases j with rfl|rfl|rfl|rfl<;>first|exact iQ ..|exact jd ..|exact xm ..|exact h.jv.gG.kO 7|exact h.jv.iU.1.kO 7|exact h.iD.kO 7|exact h.fL.1.kO 7))
structure TA where
 mR:Int
 ki:Int
 Z5:Int
 Z6:Int
 aaa:Int
 Z7:Int
 Z8:Int
 aab:Int
instance :Inhabited TA:=⟨⟨default,default,default,default,default,default,default,default⟩⟩
structure fT where
 h_:Int
 hQ:Int
instance :Inhabited fT:=⟨⟨default,default⟩⟩
def fo(x:fT):List Value:=[.int .i64 x.h_,.int .i64 x.hQ]
theorem uK(x:fT):kY 8 (.agg (fo x).toArray) (.agg (fo x).toArray)=true:=(yA 7 _ (by intro v j;have j:v∈fo x:=j;simp only[fo,List.mem_cons,List.not_mem_nil,or_false]at j;rcases j with rfl|rfl<;>first|exact iQ ..|exact jd ..|exact xm ..))
structure tN where
 mR:Int
 o4:SV fT
 kl:Bool
instance :Inhabited tN:=⟨⟨default,default,default⟩⟩
def qB(x:tN):List Value:=[.int .i64 x.mR,x.o4.v,.bool x.kl]
structure AU(hp:Ht)(nx:Nat)(x:tN):Prop where
 o4:gA fo 2 hp nx x.o4
theorem AU.mono{hp fe:Ht}{nx fg:Nat}{x:tN}(h:AU hp nx x)(he:HE nx hp fe)(hn:nx<=fg:=by omega):AU fe fg x:=
 ⟨h.o4.mono he hn⟩
theorem EF{hp:Ht}{nx:Nat}(x:tN)(h:AU hp nx x):(qB x).all one=true:=by simp only[qB,List.all_cons,List.all_nil,vW,yB,Ft,Bool.and_true,h.o4.one]
structure tz where
 lL:ByteArray
 jf:Int
instance :Inhabited tz:=⟨⟨default,default⟩⟩
def oQ(x:tz):List Value:=[.string x.lL,.int .i64 x.jf]
structure sQ where
 lC:Int
 pI:Int
 yG:Int
 yH:Int
instance :Inhabited sQ:=⟨⟨default,default,default,default⟩⟩
def mi(x:sQ):List Value:=[.int .i64 x.lC,.int .i64 x.pI,.int .i64 x.yG,.int .i64 x.yH]
structure ou where
 iX:Int
 AV:Int
 wN:Int
instance :Inhabited ou:=⟨⟨default,default,default⟩⟩
def lN(x:ou):List Value:=[.int .i64 x.iX,.int .i64 x.AV,.int .i64 x.wN]
structure j5 where
 lL:ByteArray
 jI:SV RPart
 uL:Int
 jr:SV ou
 jO:Int
instance :Inhabited j5:=⟨⟨default,default,default,default,default⟩⟩
def iI(x:j5):List Value:=[.string x.lL,x.jI.v,.int .i64 x.uL,x.jr.v,.int .i64 x.jO]
structure lO(hp:Ht)(nx:Nat)(x:j5):Prop where
 jI:jt jJ 3 (fun hp nx y=>kL hp nx y) hp nx x.jI
 jr:gA lN 3 hp nx x.jr
theorem lO.mono{hp fe:Ht}{nx fg:Nat}{x:j5}(h:lO hp nx x)(he:HE nx hp fe)(hn:nx<=fg:=by omega):lO fe fg x:=
 ⟨h.jI.mono (fun _ h he hn=>h.mono he hn) he hn,h.jr.mono he hn⟩
theorem Bu{hp:Ht}{nx:Nat}(x:j5)(h:lO hp nx x):(iI x).all one=true:=by simp only[iI,List.all_cons,List.all_nil,vW,yB,Ft,Bool.and_true,h.jI.1.one,h.jr.one]
structure qJ where
 lL:ByteArray
 EG:Int
instance :Inhabited qJ:=⟨⟨default,default⟩⟩
def nj(x:qJ):List Value:=[.string x.lL,.int .i64 x.EG]
structure mC where
 lL:ByteArray
 ug:Int
 kc:Int
 kl:Bool
instance :Inhabited mC:=⟨⟨default,default,default,default⟩⟩
def j9(x:mC):List Value:=[.string x.lL,.int .i64 x.ug,.int .i64 x.kc,.bool x.kl]
structure lP where
 lL:ByteArray
 lC:Int
 pI:Int
instance :Inhabited lP:=⟨⟨default,default,default⟩⟩
def jS(x:lP):List Value:=[.string x.lL,.int .i64 x.lC,.int .i64 x.pI]
structure oR where
 ki:Int
 j_:Int
 n_:Int
 uM:Int
instance :Inhabited oR:=⟨⟨default,default,default,default⟩⟩
def lg(x:oR):List Value:=[.int .i64 x.ki,.int .i64 x.j_,.int .i64 x.n_,.int .i64 x.uM]
structure Fw where
 su:Int
 sv:Int
 sw:Int
 pJ:Int
 tO:Int
instance :Inhabited Fw:=⟨⟨default,default,default,default,default⟩⟩
def zc(x:Fw):List Value:=[.int .i64 x.su,.int .i64 x.sv,.int .i64 x.sw,.int .i64 x.pJ,.int .i64 x.tO]
structure j7 where
 lL:ByteArray
 iB:SV tz
 jP:SV sQ
 fE:SV j5
 kI:SV qJ
 js:SV mC
 iw:SV lP
 kR:SV oR
 nH:SV RStep
 iL:Fw
 zH:Int
 si:Int
instance :Inhabited j7:=⟨⟨default,default,default,default,default,default,default,default,default,default,default,default⟩⟩
def iz(x:j7):List Value:=[.string x.lL,x.iB.v,x.jP.v,x.fE.v,x.kI.v,x.js.v,x.iw.v,x.kR.v,x.nH.v,.int .i64 x.iL.su,.int .i64 x.iL.sv,.int .i64 x.iL.sw,.int .i64 x.iL.pJ,.int .i64 x.iL.tO,.int .i64 x.zH,.int .i64 x.si]
structure oJ(hp:Ht)(nx:Nat)(x:j7):Prop where
 iB:gA oQ 2 hp nx x.iB
 jP:gA mi 4 hp nx x.jP
 fE:jt iI 5 (fun hp nx y=>lO hp nx y) hp nx x.fE
 kI:gA nj 2 hp nx x.kI
 js:gA j9 4 hp nx x.js
 iw:gA jS 3 hp nx x.iw
 kR:gA lg 4 hp nx x.kR
 nH:jt ju 8 (fun hp nx y=>j4 hp nx y) hp nx x.nH
theorem oJ.mono{hp fe:Ht}{nx fg:Nat}{x:j7}(h:oJ hp nx x)(he:HE nx hp fe)(hn:nx<=fg:=by omega):oJ fe fg x:=
 ⟨h.iB.mono he hn,h.jP.mono he hn,h.fE.mono (fun _ h he hn=>h.mono he hn) he hn,h.kI.mono he hn,h.js.mono he hn,h.iw.mono he hn,h.kR.mono he hn,h.nH.mono (fun _ h he hn=>h.mono he hn) he hn⟩
structure oT where
 fZ:SV Int
 iX:Int
 uh:Int
instance :Inhabited oT:=⟨⟨default,default,default⟩⟩
def lV(x:oT):List Value:=[x.fZ.v,.int .i64 x.iX,.int .i64 x.uh]
structure ui(hp:Ht)(nx:Nat)(x:oT):Prop where
 fZ:gA encI 1 hp nx x.fZ
theorem ui.mono{hp fe:Ht}{nx fg:Nat}{x:oT}(h:ui hp nx x)(he:HE nx hp fe)(hn:nx<=fg:=by omega):ui fe fg x:=
 ⟨h.fZ.mono he hn⟩
theorem Mt{hp:Ht}{nx:Nat}(x:oT)(h:ui hp nx x):(lV x).all one=true:=by simp only[lV,List.all_cons,List.all_nil,vW,yB,Ft,Bool.and_true,h.fZ.one]
structure Jf where
 TC:Int
 fX:Int
instance :Inhabited Jf:=⟨⟨default,default⟩⟩
def Rt(x:Jf):List Value:=[.int .i64 x.TC,.int .i64 x.fX]
structure GN where
 ZY:Int
 GO:SV Int
 GP:SV Jf
instance :Inhabited GN:=⟨⟨default,default,default⟩⟩
structure Dd(hp:Ht)(nx:Nat)(x:GN):Prop where
 GO:gA encI 1 hp nx x.GO
 GP:gA Rt 2 hp nx x.GP
theorem Dd.mono{hp fe:Ht}{nx fg:Nat}{x:GN}(h:Dd hp nx x)(he:HE nx hp fe)(hn:nx<=fg:=by omega):Dd fe fg x:=
 ⟨h.GO.mono he hn,h.GP.mono he hn⟩
end
end Sw
namespace Sw
noncomputable section
open Go Go.RowKit
def jU(l:List Nat)(h:Ht):Ht:=l.foldl (fun h b=>h.set b none) h
theorem rG:∀(l:List Nat) (h:Ht) {q:Nat},q∉l->(jU l h).get q=h.get q
 |[],_,_,_=>rfl
 |b::l,h,q,j=>by
  show(jU l (h.set b none)).get q=_
  rw[rG l _ fun k=>j (List.mem_cons_of_mem _ k)]
  exact Tr.gC _ _ fun k=>j (by rw[k];exact List.mem_cons_self ..)
theorem Mu:∀(l:List Nat) (h:Ht) {q:Nat},h.get q=none->(jU l h).get q=none
 |[],_,_,j=>j
 |b::l,h,q,j=>by
  show(jU l (h.set b none)).get q=_
  refine Mu l _ ?_
  by_cases k:q=b
  · subst k;exact Tr.hY ..
  · rw[Tr.gC _ _ k];exact j
theorem Ct:∀(l:List Nat) (h:Ht) {q:Nat},q∈l->(jU l h).get q=none
 |b::l,h,q,j=>by
  show(jU l (h.set b none)).get q=_
  rcases List.mem_cons.1 j with rfl|j
  · exact Mu l _ (Tr.hY ..)
  · exact Ct l _ j
section
variable {B c:Nat}{l:List Nat}{h1 h2 hp:Ht}{α:Type}{enc:α->List Value}{n nx:Nat}{s:SV α}
theorem HE.nW(h:∀q,q<B->q∉l->h2.get q=h1.get q):HE B (jU l h1) (jU l h2):=fun q j=>by
 by_cases k:q∈l
 · rw[Ct l _ k,Ct l _ k]
 · rw[rG l _ k,rG l _ k];exact h q j k
theorem HE.jU(h:HE B h1 h2):HE B (Sw.jU l h1) (Sw.jU l h2):=.nW fun q j _=>h q j
theorem HE.qV(h:HE B (Sw.jU l h1) (Sw.jU l h2))(hc:c<B)(hn:c∉l):h2.get c=h1.get c:=by
 have:=h c hc
 rwa[rG l _ hn,rG l _ hn]at this
theorem gA.ql(h:gA enc n (jU l hp) nx s):gA enc n hp nx s:=by
 refine⟨h.1,?_,h.2.2⟩
 rcases h.2.1 with h|⟨q,cap,m,h1,h2,h3,h4,j⟩
 · exact .inl h
 · refine .inr ⟨q,cap,m,h1,h2,h3,?_,j⟩
   by_cases k:q∈l
   · rw[Ct l _ k]at h4;cases h4
   · rwa[rG l _ k]at h4
end
section
variable {e:Env}{hp:Ht}{nx:Nat}
theorem qd{T:Ty}{hp:Hp}{t:Tm}{a b:Nat}{j o:TypeId}{v w:Value}(h1:kB T hp j ((aaj (.tmp a)).run t)=some v)(h2:kB T hp o ((aaj (.tmp b)).run t)=some w):mH T hp t [.cell a j,.cell b o]=some [v,w]:=by
 simp only[mH,h1,h2]
theorem WF.Vc{f:FuncId}{fi:vQ}{l:List Value}{t:Tm}{R:Value->Ht->Nat->Prop}(hk:e.K f=none)(hf:e.F f=some fi)(hl:Nat.ble l.length fi.nt=true)(J:setArgs yV l Tm.undef=some t)(h0:e.low=0)
 (hb:WP e ⟨f,fi.nt,none⟩ fi.body ⟨t,[],hp,nx,[]⟩ fun o j=>Nat.ble o 1=true/\((j.ds=[]/\∃vs,mH e.T j.hp.get j.to fi.res=some vs/\R (qz vs) j.hp j.nx)\/
   ∃r,j.ds=[⟨.collected r,#[]⟩]/\j.hp.get r=some (.deferred (some []))/\∃vs,mH e.T (j.hp.set r (some (.deferred none))).get j.to fi.res=some vs/\R (qz vs) (j.hp.set r (some (.deferred none))) j.nx)):WF e f l hp nx R:=by
 obtain⟨o,⟨C,aa,fe,fg,ab⟩,⟨U,hb⟩,I,⟨hd,vs,hg,q⟩|⟨r,hd,hr,vs,hg,q⟩⟩:=hb
 · simp only at hd hg q
   subst hd
   refine⟨_,_,_,⟨U,fun n hn cs k=>?_⟩,q⟩
   have hb:ev e n ⟨f,fi.nt,none⟩ fi.body ⟨t,[],hp,nx,cs⟩=.ok (o,⟨C,[],fe,fg,cs⟩):=hb n hn cs
   simp only[mP,hk,tJ,hf,sA,hl,cond_true,J,hb,I,lI,yr,hg]
 · simp only at hd hr hg q
   subst hd
   refine⟨_,_,_,⟨U,fun n hn cs k=>?_⟩,q⟩
   have hb:ev e n ⟨f,fi.nt,none⟩ fi.body ⟨t,[],hp,nx,cs⟩=.ok (o,⟨C,[⟨.collected r,#[]⟩],fe,fg,cs⟩):=hb n hn cs
   simp only[mP,hk,tJ,hf,sA,hl,cond_true,J,hb,I,lI,hr,h0,Tx,yr,hg]
end
end
end Sw
namespace Sw
noncomputable section
open Go Go.RowKit
theorem nz(a b:Int):∃c:Bool,c=ru a b/\(c=true↔a<b):=nb so
theorem AW(a:Nat)(b:Int):∃c:Bool,c=ru (.ofNat a) b/\(c=true↔((a:Nat):Int)<b):=nb so
theorem nc(a:Int)(b:Nat):∃c:Bool,c=ru a (.ofNat b)/\(c=true↔a<((b:Nat):Int)):=nb so
theorem kV(a b:Nat):∃c:Bool,c=ru (.ofNat a) (.ofNat b)/\(c=true↔((a:Nat):Int)<((b:Nat):Int)):=nb so
theorem qo(a b:Int):∃c:Bool,c=DA a b/\(c=true↔a<=b):=nb yC
theorem EH(a:Nat)(b:Int):∃c:Bool,c=DA (.ofNat a) b/\(c=true↔((a:Nat):Int)<=b):=nb yC
theorem Y8(a:Int)(b:Nat):∃c:Bool,c=DA a (.ofNat b)/\(c=true↔a<=((b:Nat):Int)):=nb yC
theorem Y9(a b:Nat):∃c:Bool,c=DA (.ofNat a) (.ofNat b)/\(c=true↔((a:Nat):Int)<=((b:Nat):Int)):=nb yC
theorem qp(a b:Int):∃c:Bool,c=km a b/\(c=true↔a=b):=nb lH
theorem w5(a:Nat)(b:Int):∃c:Bool,c=km (.ofNat a) b/\(c=true↔((a:Nat):Int)=b):=nb lH
theorem Xe(a b:Nat):∃c:Bool,c=km (.ofNat a) (.ofNat b)/\(c=true↔((a:Nat):Int)=((b:Nat):Int)):=nb lH
theorem qW(a b:Int):∃c:Bool,c=(!(km a b))/\(c=true↔a≠b):=nb Fu
theorem Mv(a:Nat)(b:Int):∃c:Bool,c=(!(km (.ofNat a) b))/\(c=true↔((a:Nat):Int)≠b):=nb Fu
theorem Mw(a b:Nat):∃c:Bool,c=(!(km (.ofNat a) (.ofNat b)))/\(c=true↔((a:Nat):Int)≠((b:Nat):Int)):=nb Fu
theorem nO{c d:Bool}{P R:Prop}(p:c=true↔P)(q:d=true↔R):∃b:Bool,b=(c||d)/\(b=true↔P\/R):=nb (by rw[Bool.or_eq_true,p,q])
theorem nA{c d:Bool}{P R:Prop}(p:c=true↔P)(q:d=true↔R):∃b:Bool,b=(c&&d)/\(b=true↔P/\R):=nb (by rw[Bool.and_eq_true,p,q])
theorem nN{c:Bool}{P:Prop}(p:c=true↔P):∃b:Bool,b=(!c)/\(b=true↔¬P):=nb (by rw[Bool.not_eq_true',<-Bool.not_eq_true,p])
section
variable {e:Env}{fm:Fm}{to:Tm}{ds:List Deferred}{hp:Ht}{nx:Nat}{gW:List Nat}{Q:St->Prop}{all os:List Oper}{o:Oper}{j:Nat}{d:Tmp}{op:Op}{ty t0:TypeId}{pos:String}{j1:Array Edge}
theorem ob{b c:Bool}(x:Nat)(h0:c=b)(q:WO e fm (gY all os) ⟨to.set x (.bool c),ds,hp,nx,gW⟩ Q)(h:∀rec cs k,(iH all o).run e rec fm to ds hp nx cs k=k ⟨to.set x (.bool b),ds,hp,nx,cs⟩:=by intros;kernel_rfl):WO e fm (gY all (o::os)) ⟨to,ds,hp,nx,gW⟩ Q:=by
 subst h0;exact ov x _ q h
def stepT(c:Cl)(e:Env)(fm:Fm)(to:Tm)(ds:List Deferred)(hp:Ht)(nx:Nat):Tm:=match c.run e (fun _ _ _=>.gm 0) fm to ds hp nx [] (fun s=>.ok (0,s))with
 |.ok (_,s)=>s.to
 |.gm _=>to
def runT(e:Env)(fm:Fm)(ds:List Deferred)(hp:Ht)(nx:Nat):List Cl->Tm->Tm
 |[],to=>to
 |c::l,to=>runT e fm ds hp nx l (stepT c e fm to ds hp nx)
def runK(e:Env)(rec:Rec)(fm:Fm)(k:St->R):List Cl->St->R
 |[],s=>k s
 |c::l,s=>c.run e rec fm s.to s.ds s.hp s.nx s.cs fun s=>runK e rec fm k l s
theorem Qb(l j:List Cl)(e:Env)(rec:Rec)(fm:Fm):∀s,vR (l++j) e rec fm s=runK e rec fm (fun s=>vR j e rec fm s) l s:=by
 induction l with
 |nil=>intro s;rfl
 |cons c l ih=>
  intro s
  show c.run e rec fm s.to s.ds s.hp s.nx s.cs (fun s=>vR (l++j) e rec fm s)=_
  simp only[ih];rfl
def AX:Nat->List Oper->List Oper
 |0,_=>[]
 |_+1,[]=>[]
 |n+1,o::os=>o::AX n os
def Mx:Nat->List Oper->List Oper
 |0,os=>os
 |_+1,[]=>[]
 |n+1,_::os=>Mx n os
theorem DK(all:List Oper):∀(n:Nat) (os:List Oper),gY all os=gY all (AX n os)++gY all (Mx n os)
 |0,os=>rfl
 |n+1,[]=>rfl
 |n+1,o::os=>by
  show iH all o::gY all os=_
  rw[DK all n os];rfl
theorem oX(n:Nat)(q:WO e fm (gY all (Mx n os)) ⟨runT e fm ds hp nx (gY all (AX n os)) to,ds,hp,nx,gW⟩ Q)
 (h:∀rec cs k,runK e rec fm k (gY all (AX n os)) ⟨to,ds,hp,nx,cs⟩=k ⟨runT e fm ds hp nx (gY all (AX n os)) to,ds,hp,nx,cs⟩:=by intros;kernel_rfl):WO e fm (gY all os) ⟨to,ds,hp,nx,gW⟩ Q:=by
 obtain⟨s1,⟨j,h1⟩,o⟩:=q
 refine⟨s1,⟨j,fun m hm cs=>?_⟩,o⟩
 rw[DK all n os,Qb]
 exact(h (ev e m) cs _).trans (h1 m hm cs)
theorem gF(t:Tmp)(c:Bool)(v:Value)(q:WO e fm (gY all os) ⟨to.set d (bif !c then v else undef),ds,hp,nx,gW⟩ Q)
 (h1:c=false->∀rec cs k,(iH all ⟨some d,op,ty,pos,j1,none⟩).run e rec fm to ds hp nx cs k=k ⟨to.set d v,ds,hp,nx,cs⟩:=by intro h;subst h;intros;kernel_rfl)
 (hg:kn all j=some (aaj (.tmp t)):=by rfl) (hx:(aaj (.tmp t)).run to=.bool c:=by kernel_rfl):WO e fm (gY all (⟨some d,op,ty,pos,j1,some (j,false)⟩::os)) ⟨to,ds,hp,nx,gW⟩ Q:=
 og t (!c) v (.bool c) (by cases c<;>rfl) (fun h=>h1 (bF h)) q hg hx
theorem gT(t:Tmp)(c:Bool)(v:Value)(q:WO e fm (gY all os) ⟨to.set d (bif c then v else undef),ds,hp,nx,gW⟩ Q)
 (h1:c=true->∀rec cs k,(iH all ⟨some d,op,ty,pos,j1,none⟩).run e rec fm to ds hp nx cs k=k ⟨to.set d v,ds,hp,nx,cs⟩:=by intro h;subst h;intros;kernel_rfl)
 (hg:kn all j=some (aaj (.tmp t)):=by rfl) (hx:(aaj (.tmp t)).run to=.bool c:=by kernel_rfl):WO e fm (gY all (⟨some d,op,ty,pos,j1,some (j,true)⟩::os)) ⟨to,ds,hp,nx,gW⟩ Q:=
 og t c v (.bool c) (by cases c<;>rfl) h1 q hg hx
theorem ZZ{a b:Bool}(t:Tmp)(c:Bool)(h0:a=b)(q:WO e fm (gY all os) ⟨to.set d (bif !c then .bool a else undef),ds,hp,nx,gW⟩ Q)
 (h1:c=false->∀rec cs k,(iH all ⟨some d,op,ty,pos,j1,none⟩).run e rec fm to ds hp nx cs k=k ⟨to.set d (.bool b),ds,hp,nx,cs⟩:=by intro h;subst h;intros;kernel_rfl)
 (hg:kn all j=some (aaj (.tmp t)):=by rfl) (hx:(aaj (.tmp t)).run to=.bool c:=by kernel_rfl):WO e fm (gY all (⟨some d,op,ty,pos,j1,some (j,false)⟩::os)) ⟨to,ds,hp,nx,gW⟩ Q:=by
 subst h0;exact gF t c _ q h1 hg hx
theorem Ru{a b:Bool}(t:Tmp)(c:Bool)(h0:a=b)(q:WO e fm (gY all os) ⟨to.set d (bif c then .bool a else undef),ds,hp,nx,gW⟩ Q)
 (h1:c=true->∀rec cs k,(iH all ⟨some d,op,ty,pos,j1,none⟩).run e rec fm to ds hp nx cs k=k ⟨to.set d (.bool b),ds,hp,nx,cs⟩:=by intro h;subst h;intros;kernel_rfl)
 (hg:kn all j=some (aaj (.tmp t)):=by rfl) (hx:(aaj (.tmp t)).run to=.bool c:=by kernel_rfl):WO e fm (gY all (⟨some d,op,ty,pos,j1,some (j,true)⟩::os)) ⟨to,ds,hp,nx,gW⟩ Q:=by
 subst h0;exact gT t c _ q h1 hg hx
theorem zQ(t:Tmp)(c:Bool)(v:Value)(h1:c=false->WC e fm (iH all ⟨some d,op,ty,pos,j1,none⟩) ⟨to,ds,hp,nx,gW⟩ fun s=>s=⟨to.set d v,ds,hp,nx,gW⟩)
 (q:WO e fm (gY all os) ⟨to.set d (bif !c then v else undef),ds,hp,nx,gW⟩ Q) (hg:kn all j=some (aaj (.tmp t)):=by rfl) (hx:(aaj (.tmp t)).run to=.bool c:=by kernel_rfl):WO e fm (gY all (⟨some d,op,ty,pos,j1,some (j,false)⟩::os)) ⟨to,ds,hp,nx,gW⟩ Q:=
 wq t (!c) v (.bool c) (by cases c<;>rfl) (fun h=>h1 (bF h)) q hg hx
theorem EI(t:Tmp)(c:Bool)(v:Value)(h1:c=true->WC e fm (iH all ⟨some d,op,ty,pos,j1,none⟩) ⟨to,ds,hp,nx,gW⟩ fun s=>s=⟨to.set d v,ds,hp,nx,gW⟩)
 (q:WO e fm (gY all os) ⟨to.set d (bif c then v else undef),ds,hp,nx,gW⟩ Q) (hg:kn all j=some (aaj (.tmp t)):=by rfl) (hx:(aaj (.tmp t)).run to=.bool c:=by kernel_rfl):WO e fm (gY all (⟨some d,op,ty,pos,j1,some (j,true)⟩::os)) ⟨to,ds,hp,nx,gW⟩ Q:=
 wq t c v (.bool c) (by cases c<;>rfl) h1 q hg hx
theorem pO{a c y:Bool}(x:Nat)(h0:a=(c||y))(q:WO e fm (gY all os) ⟨to.set x (.bool a),ds,hp,nx,gW⟩ Q)
 (h:∀rec cs k,(iH all o).run e rec fm to ds hp nx cs k=kF (lA (.bool c) (.bool true) (bif !c then .bool y else undef)) (fun v=>k ⟨to.set x v,ds,hp,nx,cs⟩):=by intros;kernel_rfl):WO e fm (gY all (o::os)) ⟨to,ds,hp,nx,gW⟩ Q:=
 .cons (.opt x _ h (by rw[h0];exact lE (fun h=>by rw[h];rfl)) q)
theorem pA{a c y:Bool}(x:Nat)(h0:a=(c&&y))(q:WO e fm (gY all os) ⟨to.set x (.bool a),ds,hp,nx,gW⟩ Q)
 (h:∀rec cs k,(iH all o).run e rec fm to ds hp nx cs k=kF (lA (.bool c) (bif c then .bool y else undef) (.bool false)) (fun v=>k ⟨to.set x v,ds,hp,nx,cs⟩):=by intros;kernel_rfl):WO e fm (gY all (o::os)) ⟨to,ds,hp,nx,gW⟩ Q:=
 .cons (.opt x _ h (by rw[h0];exact s_ (fun h=>by rw[h];rfl)) q)
theorem oB{x:Operand}(v:Value)(cells:List Value)(q:∀j:Ht,HE nx hp j->j.get nx=some (.cells cells gl.plain)->WO e fm (gY all os) ⟨to.set d (.pointer (some ⟨nx,0,none⟩)),ds,j,nx+1,gW⟩ Q)
 (hl:e.low=0:=by rfl) (hx:(aaj x).run to=v:=by kernel_rfl) (o:v.cells.toList=cells:=by rfl):WO e fm (gY all (⟨some d,.box t0 x,ty,pos,j1,none⟩::os)) ⟨to,ds,hp,nx,gW⟩ Q:=
 .cons (.box v cells hl hx o (q _ (HE.set _ _ (Nat.le_refl _)) (Tr.hY ..)))
theorem oA{el:TypeId}(cells:List Value){z:Value}(C:e.T.zero el=some z)(q:∀j:Ht,HE nx hp j->j.get nx=some (.cells cells gl.plain)->WO e fm (gY all os) ⟨to.set d (.pointer (some ⟨nx,0,none⟩)),ds,j,nx+1,gW⟩ Q)
 (hl:e.low=0:=by rfl) (o:z.cells.toList=cells:=by rfl):WO e fm (gY all (⟨some d,.alloc el,ty,pos,j1,none⟩::os)) ⟨to,ds,hp,nx,gW⟩ Q:=
 .cons (.alloc z cells hl C o (q _ (HE.set _ _ (Nat.le_refl _)) (Tr.hY ..)))
theorem oL{n:Nat}{ps:Array (Nat×Operand)}(cells:List Value)(q:∀j:Ht,HE nx hp j->j.get nx=some (.cells cells gl.plain)->WO e fm (gY all os) ⟨to.set d (.slice (some ⟨nx,0,none⟩) n n),ds,j,nx+1,gW⟩ Q)
 (hl:e.low=0:=by rfl) (h:qH e.T t0 n (tu (yU ps.toList) to) nx=some (vd nx cells n n):=by kernel_rfl):WO e fm (gY all (⟨some d,.buildSlice t0 n ps,ty,pos,j1,none⟩::os)) ⟨to,ds,hp,nx,gW⟩ Q:=
 .cons (.buildSlice cells hl h (q _ (HE.set _ _ (Nat.le_refl _)) (Tr.hY ..)))
theorem oS{a v:Operand}{cells:List Value}{n:Nat}{m:gl}(b off:Nat)(val:Value)(new vs:List Value)(hs:e.T.size t0=some n)(C:val.cells.toList=vs)(hn:(Nat.beq vs.length n&&vs.all one)=true)(hb:hp.get b=some (.cells cells m))
 (q:∀j:Ht,HE b hp j->j.get b=some (.cells new m)->(∀c,c≠b->j.get c=hp.get c)->WO e fm (gY all os) ⟨to,ds,j,nx,gW⟩ Q)
 (hl:e.low=0:=by rfl) (I:(aaj a).run to=.pointer (some ⟨b,off,none⟩):=by kernel_rfl) (J:(aaj v).run to=val:=by kernel_rfl) (hm:m.ro=false:=by rfl) (hg:m.mu=none:=by rfl) (o:mo cells off vs=some new:=by rfl):
 WO e fm (gY all (⟨none,.store t0 a v,ty,pos,j1,none⟩::os)) ⟨to,ds,hp,nx,gW⟩ Q:=
 .cons (.vi b off val cells new vs n hl I J hs C hn hb hm hg o (q _ (HE.set _ _ (Nat.le_refl _)) (Tr.hY ..) fun c hc=>Tr.gC _ _ hc))
theorem oZ{a:Operand}{cells:List Value}{m:gl}(b off:Nat)(v:Value)(j:e.T.agg t0=some false)(hb:hp.get b=some (.cells cells m))(hc:cells[off]?=some v)(q:WO e fm (gY all os) ⟨to.set d v,ds,hp,nx,gW⟩ Q)(hx:(aaj a).run to=.pointer (some ⟨b,off,none⟩):=by kernel_rfl):
 WO e fm (gY all (⟨some d,.load t0 a,ty,pos,j1,none⟩::os)) ⟨to,ds,hp,nx,gW⟩ Q:=.cons (.jX b off v hx j hb hc q)
theorem oC{f:FuncId}{l:List Value}{A:Value->Ht->Nat->Prop}(x:Nat)(h:WF e f l hp nx A)(q:∀v fe fg,A v fe fg->WO e fm (gY all os) ⟨to.set x v,ds,fe,fg,gW⟩ Q)
 (hr:∀rec cs k,(iH all o).run e rec fm to ds hp nx cs k=mP e rec f l hp nx cs (fun v hp nx cs=>k ⟨to.set x v,ds,hp,nx,cs⟩):=by intros;kernel_rfl):WO e fm (gY all (o::os)) ⟨to,ds,hp,nx,gW⟩ Q:=
 .cons (.call x f l hr (h.mono q))
theorem wb{f:FuncId}{l:List Value}{t:Tm}{R:Value->Ht->Nat->Prop}(fi:vQ)(hb:WP e ⟨f,fi.nt,none⟩ fi.body ⟨t,[],hp,nx,[]⟩ fun o j=>Nat.ble o 1=true/\j.ds=[]/\∃vs,mH e.T j.hp.get j.to fi.res=some vs/\R (qz vs) j.hp j.nx)
 (C:setArgs yV l Tm.undef=some t:=by rfl) (hk:e.K f=none:=by kernel_rfl) (hf:e.F f=some fi:=by kernel_rfl) (hl:Nat.ble l.length fi.nt=true:=by kernel_rfl):WF e f l hp nx R:=.body hk hf hl C hb
end
end
end Sw
