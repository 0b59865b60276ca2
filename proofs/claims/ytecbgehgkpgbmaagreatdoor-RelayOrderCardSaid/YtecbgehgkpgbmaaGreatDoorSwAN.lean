/- A part of the proof that the law returns true for every input that its row speaks of. No condition is added. -/
import Derived.Test.YtecbgehgkpgbmaaGreatDoorSwAM
import Derived.Test.YtecbgehgkpgbmaaGreatDoorSwAG
import Derived.Test.YtecbgehgkpgbmaaGreatDoorSwAF
import Derived.Test.YtecbgehgkpgbmaaGreatDoorSwAJ
namespace Sw
noncomputable section
open Go Go.Proofs Go.RowKit
set_option maxRecDepth 100000
set_option maxHeartbeats 1600000
theorem QI:∃i,ex.T.info 116=some i/\i.bytes<=1024:=by
 cases h:ex.T.info 116 with
 |none=>exact absurd (show(ex.T.info 116).isSome=true by kernel_rfl) (by rw[h];decide)
 |some i=>
  refine⟨i,rfl,?_⟩
  have:((ex.T.info 116).map fun i=>Nat.ble i.bytes 1024)=some true:=by kernel_rfl
  rw[h]at this
  exact Nat.le_of_ble_eq_true (Option.some.inj this)
theorem SG:∃i,ex.T.info 48=some i/\i.bytes<=1024:=by
 cases h:ex.T.info 48 with
 |none=>exact absurd (show(ex.T.info 48).isSome=true by kernel_rfl) (by rw[h];decide)
 |some i=>
  refine⟨i,rfl,?_⟩
  have:((ex.T.info 48).map fun i=>Nat.ble i.bytes 1024)=some true:=by kernel_rfl
  rw[h]at this
  exact Nat.le_of_ble_eq_true (Option.some.inj this)
theorem KY{F:kU}{B:List Int}{M:List i_}{i:Nat}{b:Int}{x:i_}(h:M.map some=(B.take i).map (wE F))(hb:B[i]?=some b)(hx:wE F b=some x):(M++[x]).map some=(B.take (i+1)).map (wE F):=by
 rw[List.take_add_one,hb,Option.toList_some,List.map_append,List.map_append,h];simp[hx]
theorem Dy(l:List i_):∀y∈l,(je y).length=3:=fun _ _=>rfl
theorem KZ{α β:Type}{f:α->β}{l:List α}{i:Nat}{x:α}(h:l[i]?=some x):(l.take (i+1)).map f=(l.take i).map f++[f x]:=by
 rw[List.take_add_one,h];simp
theorem K0{α:Type}{f:α->Bool}{l:List α}{i:Nat}{x:α}(h:l[i]?=some x):(l.take (i+1)).any f=((l.take i).any f||f x):=by
 rw[List.take_add_one,h];simp
theorem K3{α:Type}{l:List α}{i:Nat}{x y:α}(h:l[i]?=some x)(hy:y∈l.take (i+1)):y∈l.take i\/y=x:=by
 rw[List.take_add_one,h]at hy
 rcases List.mem_append.1 hy with k|k
 · exact .inl k
 · exact .inr (List.mem_singleton.1 k)
def Zl(C:j7)(F:kU)(r:oT)(hp:Ht)(nx:Nat)(v:Value)(fe:Ht)(fg:Nat):Prop:=∃(T:tN) (z:Int),v=.tuple ⟨[.agg (qB T).toArray,iN z]⟩/\AU fe fg T/\zt C F r T z/\nx<=fg/\HE nx hp fe
theorem NI{K:kM}{w:Nat}{j:List (SV fT)}{M:List i_}(h:j.map (·.l)=M.map (wT K w)){x:i_}(hx:x∈M)(he:wT K w x=[]):∃y∈j,y.l=[]:=by
 have:wT K w x∈j.map (·.l):=by rw[h];exact List.mem_map.2 ⟨x,hx,rfl⟩
 obtain⟨y,hy,e⟩:=List.mem_map.1 this
 exact⟨y,hy,e.trans he⟩
theorem NJ{K:kM}{w:Nat}{j:List (SV fT)}{M:List i_}(h:j.map (·.l)=M.map (wT K w))(he:∃x∈j,(fun y:SV fT=>y.l=[]) x):∃x∈M,wT K w x=[]:=by
 obtain⟨y,hy,e⟩:=he
 have:y.l∈M.map (wT K w):=by rw[<-h];exact List.mem_map.2 ⟨y,hy,rfl⟩
 obtain⟨x,hx,k⟩:=List.mem_map.1 this
 exact⟨x,hx,k.trans e⟩
theorem FE:ex.T.agg 44=some true:=kr
theorem tT:ex.T.agg 50=some true:=kr
theorem UD:ex.T.size 39=some 1:=kr
theorem Pf:ex.T.size 4=some 1:=kr
theorem Bh:ex.T.size 44=some 3:=kr
theorem mS:ex.T.size 50=some 3:=kr
theorem UE:ex.T.zero 39=some (.slice none (0) 0):=kr
theorem Wo:ex.T.zero 4=some (.bool false):=kr
theorem Hj:ex.T.zero 50=some (.agg ⟨[iN 0,.slice none (0) 0,.bool false]⟩):=kr
theorem IJ{A:SV fT->Prop}(K:SV (SV fT))(f:FuncId)(b:Array Value)(hp:Ht)(nx:Nat)(hK:jt lG 1 (fun hp nx y=>gA fo 2 hp nx y) hp nx K)(hf:∀(i:Nat) (x:SV fT),K.l[i]?=some x->∀(fe:Ht) (fg:Nat),nx<=fg->HE nx hp fe->WF ex f ((x.v)::b.toList) fe fg (fO fg fe (gk (A x)))):WF ex 63 [K.v,.func (.func f) #[] b] hp nx (fO nx hp (pM K.l A)):=by
 obtain⟨a1,c2,hR⟩:=hK.1.shape
 have lW:=hK.1.2.2
 rw[hR]
 refine wd Tryz.f63 19 [.tmp 4] fun hE=>sr<|oN 1<|WP.seq<|sr<|oN 3<|WP.block ?_
 refine my [0,1,7,8] (fun m hs ns vs=>∃(fV:Nat),fV+m=K.l.length/\vs=[.slice a1 (K.l.length) c2,.func (.func f) #[] b,iN (.ofNat (K.l.length)),iN (.ofNat fV)]/\nx<=ns/\HE (nx) hp hs/\(∀(j:Nat) (y:SV fT),j<fV->K.l[j]?=some y->¬A y)) ?_ (K.l.length) ?_
 ·
  rintro xn pT ja _ ⟨fV,tP,rfl,oe,jm,hinv⟩ tQ
  have j2:=hE.trans jm
  refine sr ?_
  refine oq 9 (kV fV K.l.length) fun nC rH=>WO.nil<|WP.seq<|cq rH (fun wQ=>?_) (fun wQ=>?_)
  ·
   refine WP.skip<|WP.seq<|WP.block<|sr<|oN 2<|sr<|oX 3 ?_
   have mY:fV<K.l.length:=by omega
   refine WO.cons (WC.iy hR hK.1 (fV) Az qC (mY) ?_)
   obtain⟨lu,ku⟩:=gE mY
   obtain⟨J,xW,C⟩:=(hK.2 lu (List.mem_of_getElem? ku)).shape
   have U:=(hK.2 lu (List.mem_of_getElem? ku)).2.2
   refine WO.cons (WC.lz (.slice J (lu.l.length) xW) hR (hK.1.mono j2 nR) ku (by rw[<-C];rfl) nM<|WO.cons (WC.call 16 f ((lu.v)::b.toList) (fun _ _ _=>by(try rw[C]);kernel_rfl) ((hf fV lu ku pT (ja) om j2).mono ?_)))
   rintro _ ab ad ⟨⟨ae,rfl,R⟩,aa,o⟩
   refine WO.nil<|cq R (fun I=>?_) (fun I=>?_)
   ·
    refine sr<|oW 2 ⟨rfl,rfl,[iN (.ofNat fV)],kr,?_⟩
    exact⟨.inr ⟨fV,lu,rfl,ku,I,hinv⟩,od,(j2.trans o)⟩
   ·
    refine WP.skip<|WP.region<|ov 18 (iN (.ofNat (fV+1))) ?_ (fun _ _ _=>by rw[<-gU (show fV+1<9223372036854775808 by omega)];kernel_rfl)
    refine oN 1<|⟨K.l.length-(fV+1),om,rfl,rfl,fV+1,om,kr,?_,?_,?_⟩
    · exact od
    · exact(jm.trans o oe)
    · intro j y hj hy;rcases Nat.lt_succ_iff_lt_or_eq.1 hj with hj|rfl;exact hinv j y hj hy;rw[ku]at hy;cases hy;exact I
  ·
   refine WP.exit<|sr<|oW 1 ⟨rfl,rfl,[iN (-1)],kr,?_⟩
   refine⟨.inl ⟨rfl,fun y hy=>?_⟩,od,j2⟩
   obtain⟨j,hj⟩:=List.getElem?_of_mem hy
   exact hinv j y (by have:=(List.getElem?_eq_some_iff.1 hj).1;omega) hj
 ·
  exact⟨0,om,kr,Nat.le_refl _,HE.refl _ _,(fun j y h=>absurd h (Nat.not_lt_zero _))⟩
theorem Fa{A:SV fT->Prop}(K:SV (SV fT))(f:FuncId)(b:Array Value)(hp:Ht)(nx:Nat)(hK:jt lG 1 (fun hp nx y=>gA fo 2 hp nx y) hp nx K)(hf:∀(i:Nat) (x:SV fT),K.l[i]?=some x->∀(fe:Ht) (fg:Nat),nx<=fg->HE nx hp fe->WF ex f ((x.v)::b.toList) fe fg (fO fg fe (gk (A x)))):WF ex 28 [K.v,.func (.func f) #[] b] hp nx (fO nx hp (gk (∃x∈K.l,A x))):=by
 have mn:=fF (e:=ex) 28 Tryz.f28 9 [.tmp 4]
 have mZ:=@IJ
 exact MG
theorem SH(x:SV fT)(hp:Ht)(nx:Nat)(hx:gA fo 2 hp nx x):WF ex 29 [x.v] hp nx (fO nx hp (gk (x.l=[]))):=by
 obtain⟨a1,c2,hR⟩:=hx.shape
 have lW:=hx.2.2
 rw[hR]
 refine wd Tryz.f29 6 [.tmp 2] fun hE=>sr<|oN 1<|sr<|oX 2 ?_
 refine oq 5 (w5 x.l.length 0) fun c4 p4=>oW 1 ⟨rfl,rfl,[.bool c4],kr,?_⟩
 refine⟨⟨c4,rfl,?_⟩,nR,hE⟩
 exact p4.trans QC
theorem NK(pP:x_)(qt:wh)(hC:y5)(C:j7)(F:kU)(r:oT)(hp:Ht)(nx:Nat)(nG2:oJ hp nx C)(aV:ny hp nx F)(hr:ui hp nx r)(hlen:C.nH.l.length<=2932031007403)(hw:∀r∈F.fL.l,GS r<=60):WF ex 8 [.agg (iz C).toArray,.agg (iK F).toArray,.agg (lV r).toArray] hp nx (Zl C F r hp nx):=by
 refine WF.Vc (fi:=⟨Tryz.f8.body.getD .skip,125,[.cell 6 50,.cell 7 51]⟩) kr kr kr rfl rfl ?_
 have hE:=HE.refl nx hp
 refine sr<|oB (.agg (iz C).toArray) (iz C) fun jN iY iA=>?_
 refine oB (.agg (iK F).toArray) (iK F) fun nIy e4 nGi=>?_
 refine oB (.agg (lV r).toArray) (lV r) fun nIm jQ nGj=>?_
 have nGB:=Nat.lt_of_lt_of_le (Nat.lt_succ_self (nx+1)) (Nat.le_succ (nx+1+1))
 refine oA [iN 0,.slice none (0) 0,.bool false] Hj fun nIn b8 nGk=>?_
 have nGC:=Nat.lt_of_lt_of_le nGB (Nat.le_succ (nx+1+1+1))
 have nGD:=Nat.lt_of_lt_of_le (Nat.lt_succ_self (nx+1+1)) (Nat.le_succ (nx+1+1+1))
 refine oA [iN 0] MP fun nGv bK nGl=>?_
 have cM:=((((hE.trans iY).trans e4).trans jQ).trans b8).trans bK
 have eV:=bK.get (b8.get (jQ.get (e4.get iA)))
 have nGE:=Nat.lt_of_lt_of_le nGC (Nat.le_succ (nx+1+1+1+1))
 have eW:=bK.get (b8.get nGj)
 have nGF:=Nat.lt_of_lt_of_le nGD (Nat.le_succ (nx+1+1+1+1))
 have nGG:=Nat.lt_of_lt_of_le (Nat.lt_succ_self (nx+1+1+1)) (Nat.le_succ (nx+1+1+1+1))
 refine WO.nil<|WP.seq<|sr<|WO.cons (WC.jb nx (0) (iz C) kr wk uw eV rfl<|WO.cons (WC.jb (nx+1+1) (0) (lV r) kr FE Bh eW rfl<|WO.cons (WC.call 28 20 ([.agg (iz C).toArray,.agg (lV r).toArray]) kf ((KX pP qt C r nGv (nx+1+1+1+1+1) (nG2.mono cM) (hr.mono cM) hlen).mono ?_))))
 rintro _ nGw nGL ⟨rfl,b9,bn⟩
 have cN:=cM.trans bn
 have eX:=bn.get (bK.get (b8.get (jQ.get nGi)))
 have nGH:=Nat.lt_of_lt_of_le nGE b9
 have nGI:=Nat.lt_of_lt_of_le nGF b9
 have cO:=bn.get (bK.get nGk)
 have nGJ:=Nat.lt_of_lt_of_le nGG b9
 have eY:=bn.get nGl
 have nGK:=Nat.lt_of_lt_of_le (Nat.lt_succ_self (nx+1+1+1+1)) b9
 refine oN 1<|sr<|oX 1 ?_
 refine oq 30 (qW (ni C r) 0) fun ET Ba=>WO.nil<|cq Ba (fun tj=>?_) (fun tj=>?_)
 ·
  refine sr<|WO.cons (WC.jb (nx+1+1+1) (0) [iN 0,.slice none (0) 0,.bool false] kr tT mS cO rfl<|oX 1<|oS (nx+1+1+1) (0) (.agg ⟨[iN 0,.slice none (0) 0,.bool false]⟩) [iN 0,.slice none (0) 0,.bool false] [iN 0,.slice none (0) 0,.bool false] mS rfl (Bool.and_eq_true_iff.2 ⟨rfl,Bool.and_eq_true_iff.2 ⟨rfl,Bool.and_eq_true_iff.2 ⟨rfl,Bool.and_eq_true_iff.2 ⟨rfl,rfl⟩⟩⟩⟩) cO fun nIo nGp nGm nGs=>?_)
  refine oS (nx+1+1+1+1) (0) (iN (ni C r)) [iN (ni C r)] [iN (ni C r)] qE rfl rfl ((nGs (nx+1+1+1+1) om).trans eY) fun nIp nGq nGn nGt=>?_
  refine wr ⟨rfl,.inl ⟨rfl,[.agg ⟨[iN 0,.slice none (0) 0,.bool false]⟩,iN (ni C r)],(qd (by rw[show(aaj (.tmp 6)).run _=pt (nx+1+1+1) 0 from by kernel_rfl];exact lF tT mS ((nGt (nx+1+1+1) om).trans nGm) rfl) (by rw[show(aaj (.tmp 7)).run _=pt (nx+1+1+1+1) 0 from by kernel_rfl];exact ko pK nGn rfl)),?_⟩⟩
  exact⟨⟨0,⟨.slice none 0 0,[]⟩,false⟩,_,rfl,⟨sY⟩,.pQ tj rfl,od,((cN.trans nGp).trans nGq)⟩
 ·
  refine WP.skip<|WP.seq<|sr ?_
  have bJ:=tj
  have nIr:=(II (Classical.not_not.1 bJ)).1.1
  refine WO.cons (WC.jb (nx+1) (0) (iK F) kr vZ uk eX rfl<|WO.cons (WC.call 34 25 ([.agg (iK F).toArray]) kf ((KM F nGw (nGL) (aV.mono cN) hw).mono ?_)))
  rintro _ nIq ab ⟨⟨bT,rfl,nD6,nGr⟩,b_,bo⟩
  have cR:=cN.trans bo
  have nFg:=Nat.lt_of_lt_of_le nGH b_
  have nFh:=Nat.lt_of_lt_of_le nGI b_
  have bY:=bo.get cO
  have nFi:=Nat.lt_of_lt_of_le nGJ b_
  have c5:=bo.get eY
  have nFj:=Nat.lt_of_lt_of_le nGK b_
  refine oN 1<|sr<|oX 1 ?_
  refine oq 36 (qW bT 0) fun nIc nGM=>WO.nil<|cq nGM (fun cr=>?_) (fun cr=>?_)
  ·
   refine sr<|WO.cons (WC.jb (nx+1+1+1) (0) [iN 0,.slice none (0) 0,.bool false] kr tT mS bY rfl<|oX 1<|oS (nx+1+1+1) (0) (.agg ⟨[iN 0,.slice none (0) 0,.bool false]⟩) [iN 0,.slice none (0) 0,.bool false] [iN 0,.slice none (0) 0,.bool false] mS rfl (Bool.and_eq_true_iff.2 ⟨rfl,Bool.and_eq_true_iff.2 ⟨rfl,Bool.and_eq_true_iff.2 ⟨rfl,Bool.and_eq_true_iff.2 ⟨rfl,rfl⟩⟩⟩⟩) bY fun nHJ nEI nEm nES=>?_)
   refine oS (nx+1+1+1+1) (0) (iN bT) [iN bT] [iN bT] qE rfl rfl ((nES (nx+1+1+1+1) om).trans c5) fun nHK nEJ nEn nET=>?_
   refine wr ⟨rfl,.inl ⟨rfl,[.agg ⟨[iN 0,.slice none (0) 0,.bool false]⟩,iN bT],(qd (by rw[show(aaj (.tmp 6)).run _=pt (nx+1+1+1) 0 from by kernel_rfl];exact lF tT mS ((nET (nx+1+1+1) om).trans nEm) rfl) (by rw[show(aaj (.tmp 7)).run _=pt (nx+1+1+1+1) 0 from by kernel_rfl];exact ko pK nEn rfl)),?_⟩⟩
   have nHo:bT=240:=nGr.resolve_left cr
   refine⟨⟨0,⟨.slice none 0 0,[]⟩,false⟩,_,rfl,⟨sY⟩,?_,od,((cR.trans nEI).trans nEJ)⟩
   rw[nHo];exact .Pd (Classical.not_not.1 bJ) (fun h=>cr (nD6.2 h)) rfl
  ·
   refine WP.skip<|sr ?_
   have bp:tA F:=nD6.1 (Classical.not_not.1 cr)
   refine oA [.slice none (0) 0] UE fun nHL aS nEo=>?_
   have nFk:=Nat.lt_of_lt_of_le nFg (Nat.le_succ (ab))
   have c6:=aS.get (bo.get (bn.get eW))
   have nFl:=Nat.lt_of_lt_of_le nFh (Nat.le_succ (ab))
   have nFm:=Nat.lt_of_lt_of_le nFi (Nat.le_succ (ab))
   have nFn:=Nat.lt_of_lt_of_le nFj (Nat.le_succ (ab))
   refine WO.nil<|WP.seq<|sr<|oX 1 ?_
   obtain⟨a152,eC,ch⟩:=hr.fZ.shape
   have nHc:=hr.fZ.2.2
   refine oZ (nx+1+1) 0 (.slice a152 (r.fZ.l.length) eC) kq c6 (by rw[<-ch];rfl)<|oN 2<|WP.block ?_
   refine my [4,5,6,7,10,40,41,42] (fun m hs ns vs=>∃(ah:Nat) (M:SV i_),ah+m=r.fZ.l.length/\vs=[pt (nx+1) 0,pt (nx+1+1) 0,pt (nx+1+1+1) 0,pt (nx+1+1+1+1) 0,pt ab 0,.slice a152 (r.fZ.l.length) eC,iN (.ofNat (r.fZ.l.length)),iN (.ofNat ah)]/\ab+1<=ns/\HE nx hp hs/\hs.get nx=some (.cells (iz C) gl.plain)/\hs.get (nx+1)=some (.cells (iK F) gl.plain)/\hs.get (nx+1+1)=some (.cells (lV r) gl.plain)/\hs.get (nx+1+1+1)=some (.cells [iN 0,.slice none (0) 0,.bool false] gl.plain)/\hs.get (nx+1+1+1+1)=some (.cells [iN 0] gl.plain)/\hs.get ab=some (.cells [M.v] gl.plain)/\(mf je 3 (ab+1) hs ns M)/\(M.l.map some=(r.fZ.l.take ah).map (wE F))/\(∀x∈M.l,x∈F.fL.l)/\(M.l.length=ah)) ?_ (r.fZ.l.length) ?_
   ·
    rintro nH_ cc j _ ⟨ah,M,nG9,rfl,aZ,bw,nFL,cn,d_,ea,eb,ec,hG,c3,cy,nFY⟩ nHu
    have nFo:=Nat.lt_of_lt_of_le nFk aZ
    have nFp:=Nat.lt_of_lt_of_le nFl aZ
    have nFq:=Nat.lt_of_lt_of_le nFm aZ
    have nFr:=Nat.lt_of_lt_of_le nFn aZ
    have nFs:=Nat.lt_of_lt_of_le (Nat.lt_succ_self (ab)) aZ
    have c0:=hG.ok (Dy _) om
    refine sr ?_
    refine oq 43 (kV ah r.fZ.l.length) fun nId nGN=>WO.nil<|WP.seq<|cq nGN (fun nGW=>?_) (fun nGW=>?_)
    ·
     refine WP.skip<|WP.seq<|WP.block<|sr ?_
     have cB:ah<r.fZ.l.length:=by omega
     refine WO.cons (WC.iy ch hr.fZ (ah) lD kj (cB) ?_)
     obtain⟨cQ,ck⟩:=gE cB
     refine WO.cons (WC.lz (iN cQ) ch (hr.fZ.mono bw nR) ck rfl fP<|oN 1<|sr<|WO.cons (WC.jb (nx+1) (0) (iK F) kr vZ uk cn rfl<|oX 1<|WO.cons (WC.call 49 11 ([.agg (iK F).toArray,iN cQ]) kf ((TS F (cQ) cc (j) (aV.mono bw)).mono ?_))))
     rintro _ nEX cp ⟨⟨nIw,eD,rfl,cA⟩,nHG,ax⟩
     have nGO:eD=true↔(eD=true):=Iff.rfl
     have bU:=bw.trans ax
     have c7:=ax.get cn
     have bZ:=ax.get ea
     have c8:=ax.get eb
     have c9:=ax.get ec
     refine oN 5<|WP.seq<|sr<|oX 1 ?_
     refine oq 53 (nN nGO) fun nIe nGP=>WO.nil<|cq nGP (fun cP=>?_) (fun cP=>?_)
     ·
      refine sr<|WO.cons (WC.jb (nx+1+1+1) (0) [iN 0,.slice none (0) 0,.bool false] kr tT mS bZ rfl<|oS (nx+1+1+1) (0) (.agg ⟨[iN 0,.slice none (0) 0,.bool false]⟩) [iN 0,.slice none (0) 0,.bool false] [iN 0,.slice none (0) 0,.bool false] mS rfl (Bool.and_eq_true_iff.2 ⟨rfl,Bool.and_eq_true_iff.2 ⟨rfl,Bool.and_eq_true_iff.2 ⟨rfl,Bool.and_eq_true_iff.2 ⟨rfl,rfl⟩⟩⟩⟩) bZ fun nHM nEK nEp nEU=>?_)
      refine oS (nx+1+1+1+1) (0) (iN 250) [iN 250] [iN 250] qE rfl rfl ((nEU (nx+1+1+1+1) om).trans c8) fun nHN nEL nEq nEV=>?_
      refine wr ⟨rfl,.inl ⟨rfl,[.agg ⟨[iN 0,.slice none (0) 0,.bool false]⟩,iN 250],(qd (by rw[show(aaj (.tmp 6)).run _=pt (nx+1+1+1) 0 from by kernel_rfl];exact lF tT mS ((nEV (nx+1+1+1) om).trans nEp) rfl) (by rw[show(aaj (.tmp 7)).run _=pt (nx+1+1+1+1) 0 from by kernel_rfl];exact ko pK nEq rfl)),?_⟩⟩
      exact⟨⟨0,⟨.slice none 0 0,[]⟩,false⟩,_,rfl,⟨sY⟩,.find (Classical.not_not.1 bJ) bp (List.mem_of_getElem? ck) ((zh.wE cA).elim (fun k=>k.2) (fun⟨_,_,_,k,_⟩=>absurd k cP)) rfl,od,((bU.trans nEK).trans nEL)⟩
     ·
      refine WP.skip<|WP.sM [⟨[0,1,2,3,4,5,6],[0,1,2,3,4,5,6],some 7⟩,⟨[],[],some 8⟩,⟨[],[],none⟩] kr _ rfl<|WD.ln ?_
      obtain⟨eu,eE,bB⟩:=c0.shape
      have nHd:=c0.2.2
      refine WN.ic rfl (WC.jX ab (0) (.slice eu (M.l.length) eE) kr qh c9 (by rw[<-bB];rfl)<|nv 56 (pt (nx+1) (0+3)) ?_)
      obtain⟨ew,eF,aL⟩:=aV.fL.1.shape
      have nHe:=aV.fL.1.2.2
      refine WN.ic rfl (WC.jX (nx+1) (0+3) (.slice ew (F.fL.l.length) eF) kr qh c7 (by rw[<-aL];rfl) ?_)
      obtain⟨k,aW,nF5,_,br,nHa⟩:=(zh.wE cA).resolve_left (fun h=>cP (by rw[h.1];decide))
      refine nv 58 (iN (.ofNat k)) ?_ (fun _ _ _=>by rw[<-nF5];kernel_rfl)
      have cC:k<F.fL.l.length:=(List.getElem?_eq_some_iff.1 br).1
      refine WN.ic rfl (WC.iy aL aV.fL.1 (k) v_ nh (cC)<|WN.ic rfl (WC.ly aL (aV.fL.1.mono bU nR) br yI nh<|WN.ic rfl (WC.buildSlice [iN aW.mR,aW.lj.v,aW.gI.v] rfl kr ?_)))
      obtain⟨nHO,dL,ay,c_⟩:=boxed nEX (cp) [iN aW.mR,aW.lj.v,aW.gI.v]
      rw[dL];clear dL
      have cS:=bU.trans ay
      have da:=ay.get c7
      have db:=ay.get c9
      refine WN.nil ⟨?_,?_⟩
      ·
       refine qe ab 0 (.slice eu (M.l.length) eE) qh db (by rw[<-bB];rfl) (bB▸c0.kO 8)<|cv (pt (nx+1) (0+3)) (iW ..)<|qe (nx+1) (0+3) (.slice ew (F.fL.l.length) eF) qh da (by rw[<-aL];rfl) (aL▸aV.fL.1.kO 8)<|cv (iN (.ofNat k)) (iQ ..) ?_ (fun _=>by rw[<-nF5];kernel_rfl)
       refine DM aL aV.fL.1 (k) v_ nh (cC)<|Xf aL (aV.fL.1.mono cS nR) br yI nh (KK aW (aV.fL.2 aW (List.mem_of_getElem? br)))<|jh.new cp (.slice (some ⟨cp,0,none⟩) (1) 1) [iN aW.mR,aW.lj.v,aW.gI.v] (fun _=>by kernel_rfl) c_ (qT ..) (by simp[ub,iQ,jd,xm,xk,(aV.fL.2 aW (List.mem_of_getElem? br)).lj.kO 8,(aV.fL.2 aW (List.mem_of_getElem? br)).gI.1.kO 8]) ?_
       exact jh.nil
      obtain⟨inf,pa,uY⟩:=QI
      refine WC.at rfl (WC.Cp (enc:=je) (J:=M) aW rfl (by rw[bB];kernel_rfl) kr (hG.mono (((HE.refl (j) cc).trans ax).trans ay)) (Dy _) c_ rfl v_ nh Bw pa rfl (wZ aW (aV.fL.2 aW (List.mem_of_getElem? br))) uY om om rfl ?_)
      rintro M2 e6 nF6 bX e5 an bR
      have eQ:=bR.ok (Dy _) (by rw[bX,List.length_append];simp;omega)
      refine WD.ln<|WN.nil ⟨?_,?_⟩
      ·
       exact jh.nil
      refine WC.at rfl (WC.vi ab (0) (M2.v) [M.v] [M2.v] [M2.v] 1 rfl kr kr UD eQ.cells (Bool.and_eq_true_iff.2 ⟨rfl,by rw[List.all_cons,eQ.one];rfl⟩) ((an _ om).trans db) rfl rfl rfl ?_)
      obtain⟨nHP,dM,nEM,nEr,aT⟩:=stored e6 ab (.cells [M2.v] gl.plain)
      rw[dM];clear dM
      refine WD.last<|WN.nil ⟨?_,?_⟩
      ·
       exact jh.nil
      refine WP.region<|ov 63 (iN (.ofNat (ah+1))) ?_ (fun _ _ _=>by rw[<-gU (show ah+1<9223372036854775808 by omega)];kernel_rfl)
      refine oN 1<|⟨r.fZ.l.length-(ah+1),om,rfl,rfl,ah+1,M2,om,kr,?_,?_,?_,?_,?_,?_,?_,?_,?_,?_,?_,?_⟩
      · exact od
      · exact((cS.trans an).trans nEM)
      · exact((aT nx om).trans ((an _ om).trans (ay.get (ax.get nFL))))
      · exact((aT (nx+1) om).trans ((an _ om).trans da))
      · exact((aT (nx+1+1) om).trans ((an _ om).trans (ay.get (ax.get d_))))
      · exact((aT (nx+1+1+1) om).trans ((an _ om).trans (ay.get bZ)))
      · exact((aT (nx+1+1+1+1) om).trans ((an _ om).trans (ay.get c8)))
      · exact nEr
      · exact bR.r_ (fun q I=>aT q om)
      · rw[bX];exact KY c3 ck nHa
      · intro x hx;rw[bX]at hx;rcases List.mem_append.1 hx with hx|hx
        · exact cy x hx
        · rw[List.mem_singleton.1 hx];exact List.mem_of_getElem? br
      · rw[bX,List.length_append,nFY];rfl
    ·
     refine WP.exit<|sr<|oA [.slice none (0) 0] GU fun nHQ aE nEs=>?_
     have nFt:=Nat.lt_of_lt_of_le nFo (Nat.le_succ (j))
     have nFu:=Nat.lt_of_lt_of_le nFp (Nat.le_succ (j))
     have nFv:=Nat.lt_of_lt_of_le nFq (Nat.le_succ (j))
     have nFw:=Nat.lt_of_lt_of_le nFr (Nat.le_succ (j))
     have nFx:=Nat.lt_of_lt_of_le nFs (Nat.le_succ (j))
     refine WO.nil<|sr<|oA [.bool false] Wo fun nHR az nEt=>?_
     have nFy:=Nat.lt_of_lt_of_le nFt (Nat.le_succ (j+1))
     have nFz:=Nat.lt_of_lt_of_le nFu (Nat.le_succ (j+1))
     have nFA:=Nat.lt_of_lt_of_le nFv (Nat.le_succ (j+1))
     have nFB:=Nat.lt_of_lt_of_le nFw (Nat.le_succ (j+1))
     have nFC:=Nat.lt_of_lt_of_le nFx (Nat.le_succ (j+1))
     have nFD:=Nat.lt_of_lt_of_le (Nat.lt_succ_self (j)) (Nat.le_succ (j+1))
     refine oS (j+1) (0) (.bool false) [.bool false] [.bool false] Pf rfl rfl nEt fun nEY dB nEu aU=>?_
     have cT:=((bw.trans aE).trans az).trans dB
     have dc:=(aU (nx+1) om).trans (az.get (aE.get cn))
     refine WO.nil<|WP.seq<|sr<|WO.cons (WC.jb (nx+1) (0) (iK F) kr vZ uk dc rfl<|WO.cons (WC.call 65 26 ([.agg (iK F).toArray]) kf ((N_ F nEY (j+1+1) (aV.mono cT)).mono ?_)))
     rintro _ dE o ⟨bf,rfl,nGo,eZ,nIk,aI,ao⟩
     have nFE:=Nat.lt_of_lt_of_le nFy aI
     have nFF:=Nat.lt_of_lt_of_le nFz aI
     have nFG:=Nat.lt_of_lt_of_le nFA aI
     have nFH:=Nat.lt_of_lt_of_le nFB aI
     have nFI:=Nat.lt_of_lt_of_le nFC aI
     have nFJ:=Nat.lt_of_lt_of_le nFD aI
     have nFK:=Nat.lt_of_lt_of_le (Nat.lt_succ_self (j+1)) aI
     refine WO.nil<|WP.block<|WP.Mp (.func (.func 59) #[] #[pt bf 0]) kr fun ct cF=>?_
     obtain⟨bd,dQ⟩:∃h:Ht,h=(dE.set (o) (some (.deferred (some [])))).set (o+1) (some (.loop ct)):=⟨_,rfl⟩
     rw[<-dQ]
     have nF3:bd.get (o)=some (.deferred (some [])):=by rw[dQ];exact(Tr.gC _ _ om).trans (Tr.hY ..)
     have nF4:bd.get (o+1)=some (.loop ct):=by rw[dQ];exact Tr.hY ..
     have aX:HE (o) dE bd:=by rw[dQ];exact(HE.set _ _ nR).trans (HE.set _ _ (Nat.le_succ _))
     have nGy:=aX.get (ao.get dc)
     have nIt:=nFE
     have dX:=aX.get (ao.get ((aU (nx+1+1) om).trans (az.get (aE.get d_))))
     have nH7:=nFF
     have dY:=aX.get (ao.get ((aU (nx+1+1+1) om).trans (az.get (aE.get ea))))
     have nH8:=nFG
     have dZ:=aX.get (ao.get ((aU (nx+1+1+1+1) om).trans (az.get (aE.get eb))))
     have nH9:=nFH
     have nD7:=aX.get (ao.get ((aU ab om).trans (az.get (aE.get ec))))
     have nHr:=nFI
     have cJ:=aX.get (ao.get ((aU j om).trans (az.get nEs)))
     have nHs:=nFJ
     have cK:=aX.get (ao.get nEu)
     have nHt:=nFK
     have nGz:=aX.get nGo eZ
     have nIu:=eZ
     have cY:HE nx hp bd:=(cT.trans ao).trans aX
     have nIl:nx+2<=o:=by omega
     have nG7:r.fZ.l.take ah=r.fZ.l:=List.take_of_length_le om
     rw[nG7]at c3
     have nHx:2<=M.l.length:=by rw[nFY];omega
     have nFV:∀q∈[(nx+1+1+1),(nx+1+1+1+1),j,(j+1),(o+1)],nx<=q:=by intro q I;simp only[List.mem_cons,List.not_mem_nil,or_false]at I;omega
     have nFX:ny (jU [(nx+1+1+1),(nx+1+1+1+1),j,(j+1),(o+1)] bd) (o+1+1) F:=aV.mono (cY.Di nFV)
     have nG6:jt je 3 (fun hp nx y=>mw hp nx y) (jU [(nx+1+1+1),(nx+1+1+1+1),j,(j+1),(o+1)] bd) (o+1+1) M:=⟨(((c0.mono (((((HE.refl (j) cc).trans aE).trans az).trans dB).trans ao))).mono aX).SF (by
      intro q I m
      simp only[List.mem_cons,List.not_mem_nil,or_false]at I
      rcases I with rfl|rfl|rfl|rfl|rfl
      · exact uP (enc:=je) (k:=3) (fun _=>rfl) dY _ (show(3:Nat)≠_ by omega) m
      · exact uP (enc:=je) (k:=3) (fun _=>rfl) dZ _ (show(1:Nat)≠_ by omega) m
      · exact uP (enc:=je) (k:=3) (fun _=>rfl) cJ _ (show(1:Nat)≠_ by omega) m
      · exact uP (enc:=je) (k:=3) (fun _=>rfl) cK _ (show(1:Nat)≠_ by omega) m
      · exact Bg nF4 _ m),fun x hx=>(aV.fL.2 x (cy x hx)).mono (cY.Di nFV)⟩
     refine(WV.func (f:=59) (show WF ex 59 (.func (.yield (o+1)) #[] #[]::(#[pt bf 0]:Array Value).toList) bd (o+1+1) _ from(KP F (.func (.yield (o+1)) #[] #[]) [(nx+1+1+1),(nx+1+1+1+1),j,(j+1),(o+1)] bf (NG F.jv M.l ((nx+1+1+1)) ((nx+1+1+1+1)) (j) ((j+1)) (o+1) (o+1+1) ct) (Ys ((nx+1+1+1)) ((nx+1+1+1+1)) (o+1) (o+1+1) ct) (fun q=>q=bf) rfl bd (o+1+1) nFX bd (o+1+1) nGz om nR (HE.refl _ _) ?_ (NG.mono om om om om om) ?_))).mono ?_
     · refine⟨⟨.slice none 0 0,[]⟩,false,cJ,cK,dY,dZ,nF4,.nil,sY,fun q I=>?_,Nat.le_refl _⟩
       subst I;exact⟨om,by simp;omega⟩
     ·
      rintro Pr w P9 nIs a b hb dD ⟨J,aR,k1,k2,en,eo,cH,k6,k7,cI,k9⟩
      have nG5:(nx+1+1+1)<b/\(nx+1+1+1+1)<b/\j<b/\(j+1)<b/\(o+1)<b:=by omega
      have nFW:ny (jU [(nx+1+1+1),(nx+1+1+1+1),j,(j+1),(o+1)] a) b F:=nFX.mono dD hb
      have al:jt je 3 (fun hp nx y=>mw hp nx y) (jU [(nx+1+1+1),(nx+1+1+1+1),j,(j+1),(o+1)] a) b M:=nG6.mono (fun _ h he hn=>h.mono he hn) dD hb
      have cZ:gA fo 2 (jU [(nx+1+1+1),(nx+1+1+1+1),j,(j+1),(o+1)] a) b J:=k7.NH k1 k2 en eo cH
      have nGA:=(dD.qV (c:=(nx+1)) om (by simp;omega)).trans nGy
      have nD8:=(dD.qV (c:=ab) om (by simp;omega)).trans nD7
      have nHn:∀x∈M.l,x.gI.l.length=F.iD.l.length+1:=fun x hx=>bp.Wm (cy x hx)
      refine WV.round (ct.tmps.set 66 (iN (.ofNat w))) cH rfl (by rw[cF]) (by rw[cF];rfl) ?_
      subst cF
      refine WP.region<|oN 1<|⟨rfl,cH,fun nHb bL bO=>?_⟩
      have nEg:=(HE.refl b (jU [(nx+1+1+1),(nx+1+1+1+1),j,(j+1),(o+1)] a)).trans (HE.nW (B:=b) (l:=[(nx+1+1+1),(nx+1+1+1+1),j,(j+1),(o+1)]) fun q _ I=>bO q fun h=>I (by rw[h];simp))
      have dd:=(bO ab om).trans nD8
      refine WP.block<|sr<|oN 1<|WP.seq<|sr ?_
      obtain⟨ey,eG,cj⟩:=al.1.shape
      have nHf:=al.1.2.2
      refine oZ ab (0) (.slice ey (M.l.length) eG) qh dd (by rw[<-cj];rfl)<|oN 2<|WP.block ?_
      refine my [4,6,7,15,16,17,18,67,68,69] (fun m hs ns vs=>∃(ae:Nat) (bs:SV (SV fT)) (gr:Nat) (aC:Bool),ae+m=M.l.length/\vs=[pt (nx+1) 0,pt (nx+1+1+1) 0,pt (nx+1+1+1+1) 0,pt j 0,pt (j+1) 0,iN (.ofNat w),bs.v,.slice ey (M.l.length) eG,iN (.ofNat (M.l.length)),iN (.ofNat ae)]/\b<=ns/\HE b (jU [(nx+1+1+1),(nx+1+1+1+1),j,(j+1),(o+1)] a) (jU [(nx+1+1+1),(nx+1+1+1+1),j,(j+1),(o+1)] hs)/\hs.get (nx+1)=some (.cells (iK F) gl.plain)/\hs.get ab=some (.cells [M.v] gl.plain)/\hs.get (nx+1+1+1)=some (.cells [iN 0,.slice none (0) 0,.bool false] gl.plain)/\hs.get (nx+1+1+1+1)=some (.cells [iN 0] gl.plain)/\hs.get j=some (.cells [J.v] gl.plain)/\hs.get (j+1)=some (.cells [.bool aC] gl.plain)/\hs.get (o+1)=nHb.get (o+1)/\(lU lG 1 b gr (jU [(nx+1+1+1),(nx+1+1+1+1),j,(j+1),(o+1)] hs) ns bs)/\(bs.l.map (·.l)=(M.l.take ae).map (wT F.jv w))/\(∀y∈bs.l,gA fo 2 (jU [(nx+1+1+1),(nx+1+1+1+1),j,(j+1),(o+1)] hs) ns y)/\(aC=(aR||(M.l.take ae).any (NF w)))/\(∀x∈M.l.take ae,Ah [pS F.jv (wo x w)])/\(bs.l.length=ae)) ?_ (M.l.length) ?_
      ·
       rintro nIa cd ai _ ⟨ae,bs,gr,aC,nG_,rfl,nEP,bx,nFM,nFN,ee,ef,eg,eh,ei,bR,cx,bH,dJ,eP,nG4⟩ nHv
       have nFe:=Nat.le_trans nR nEP
       have dW:=HE.refl ai (jU [(nx+1+1+1),(nx+1+1+1+1),j,(j+1),(o+1)] cd)
       have nHw:=Nat.le_refl ai
       have nGV:aC=true↔(aC=true):=Iff.rfl
       refine sr ?_
       refine oq 70 (kV ae M.l.length) fun nIf nGQ=>WO.nil<|WP.seq<|cq nGQ (fun nGX=>?_) (fun nGX=>?_)
       ·
        refine WP.skip<|WP.seq<|WP.block<|sr ?_
        have cD:ae<M.l.length:=by omega
        refine WO.cons (WC.iy cj ((al.1.mono bx).ql) (ae) v_ nh (cD) ?_)
        obtain⟨ag,R⟩:=gE cD
        refine WO.cons (WC.ly cj ((al.1.mono bx).ql) R yI nh<|oA [iN 0,.slice none (0) 0,.slice none (0) 0] Bw fun nHS aq nEv=>?_)
        have nFO:=Nat.le_trans nHw (Nat.le_succ (ai))
        refine oS ai (0) (.agg (je ag).toArray) (je ag) (je ag) nh rfl (Bool.and_eq_true_iff.2 ⟨rfl,wZ _ (al.2 ag (List.mem_of_getElem? R))⟩) nEv fun dF dC de aJ=>?_
        have aD:=(bx.trans (aq.jU (l:=[(nx+1+1+1),(nx+1+1+1+1),j,(j+1),(o+1)]))).trans (dC.jU (l:=[(nx+1+1+1),(nx+1+1+1+1),j,(j+1),(o+1)]))
        have nE3:=(dW.trans (aq.jU (l:=[(nx+1+1+1),(nx+1+1+1+1),j,(j+1),(o+1)]))).trans (dC.jU (l:=[(nx+1+1+1),(nx+1+1+1+1),j,(j+1),(o+1)]))
        have b0:=(aJ (nx+1) om).trans (aq.get nFM)
        refine WO.nil<|WP.seq<|WP.sM [⟨[0,1,2,3,4,5],[0,1,2,3,4,5],some 6⟩,⟨[7,8,9,10],[7,8,9,10],some 11⟩,⟨[],[9,10],some 12⟩,⟨[],[10],some 13⟩,⟨[],[],none⟩] kr _ rfl<|WD.ln<|WN.ic rfl (WC.jb (nx+1) (0) (iK F) kr vZ uk b0 rfl<|nv 75 (pt ai (0+2)) ?_)
        obtain⟨ez,eH,aM⟩:=(al.2 ag (List.mem_of_getElem? R)).gI.1.shape
        have nHg:=(al.2 ag (List.mem_of_getElem? R)).gI.1.2.2
        refine WN.ic rfl (WC.jX ai (0+2) (.slice ez (ag.gI.l.length) eH) kr sE de (by rw[<-aM];rfl)<|nv 77 (iN (.ofNat w)) ?_)
        have bM:w<ag.gI.l.length:=by have:=nHn _ (List.mem_of_getElem? R);omega
        refine WN.ic rfl (WC.iy aM (((al.2 ag (List.mem_of_getElem? R)).gI.1.mono aD).ql) (w) w8 vo (bM) ?_)
        obtain⟨ad,av⟩:=gE bM
        obtain⟨eA,eI,bC⟩:=((al.2 ag (List.mem_of_getElem? R)).gI.2 ad (List.mem_of_getElem? av)).shape
        have nHh:=((al.2 ag (List.mem_of_getElem? R)).gI.2 ad (List.mem_of_getElem? av)).2.2
        refine WN.ic rfl (WC.lz (.slice eA (ad.l.length) eI) aM (((al.2 ag (List.mem_of_getElem? R)).gI.1.mono aD).ql) av (by rw[<-bC];rfl) w6<|WN.nil ⟨?_,?_⟩)
        ·
         refine co (.agg (iK F).toArray) (kB ex.T dF.get 41 (pt (nx+1) 0)) (lF vZ uk b0 rfl) (Ms F nFW)<|cv (pt ai (0+2)) (iW ..)<|qe ai (0+2) (.slice ez (ag.gI.l.length) eH) sE de (by rw[<-aM];rfl) (aM▸(al.2 ag (List.mem_of_getElem? R)).gI.1.kO 8)<|ci (.ofNat w)<|DM aM (((al.2 ag (List.mem_of_getElem? R)).gI.1.mono aD).ql) (w) w8 vo (bM)<|OX (.slice eA (ad.l.length) eI) aM (((al.2 ag (List.mem_of_getElem? R)).gI.1.mono aD).ql) av (by rw[<-bC];rfl) w6 (bC▸((al.2 ag (List.mem_of_getElem? R)).gI.2 ad (List.mem_of_getElem? av)).kO 8) ?_
         exact jh.nil
        refine WC.at rfl (WC.call 80 27 ([.agg (iK F).toArray,ad.v]) (fun _ _ _=>by(try rw[bC]);kernel_rfl) ((T2 hC F ad dF (ai+1) (nFW.mono aD).ql (((al.2 ag (List.mem_of_getElem? R)).gI.2 ad (List.mem_of_getElem? av)).mono aD).ql bp.YW (bp.Zj (cy _ (List.mem_of_getElem? R)) (List.mem_of_getElem? av)) (Nat.le_trans (Wn (List.mem_of_getElem? av)) (Nat.le_trans (hw _ (cy _ (List.mem_of_getElem? R))) (by decide)))).mono ?_))
        rintro _ nEZ af ⟨cu,bh,rfl,nGf,eR,nEQ,ar⟩
        have cU:=aD.trans (ar.jU (l:=[(nx+1+1+1),(nx+1+1+1+1),j,(j+1),(o+1)]))
        have bu:=ar.get ((aJ (nx+1+1+1) om).trans (aq.get ee))
        have b3:=ar.get ((aJ (nx+1+1+1+1) om).trans (aq.get ef))
        have df:=ar.get ((aJ j om).trans (aq.get eg))
        have b4:=ar.get ((aJ (j+1) om).trans (aq.get eh))
        have b5:=ar.get ((aJ (o+1) om).trans (aq.get ei))
        have dR:=nE3.trans (ar.jU (l:=[(nx+1+1+1),(nx+1+1+1+1),j,(j+1),(o+1)]))
        have nFP:=Nat.le_trans nFO nEQ
        have cz:=nGf.NH df b4 bu b3 (b5.trans bL)
        have nD5:=Yr av
        have dS:=HE.refl af (jU [(nx+1+1+1),(nx+1+1+1+1),j,(j+1),(o+1)] nEZ)
        have nFQ:=Nat.le_refl af
        obtain⟨bj,bk,bD⟩:=cz.shape
        have nHi:=cz.2.2
        rw[bD]
        have nEW:(ad.l.any (·.kl))=true↔((ad.l.any (·.kl))=true):=Iff.rfl
        refine WD.ln<|nv 73 (.tuple ⟨[.slice bj (cu.l.length) bk,.bool (ad.l.any (·.kl)),iN bh]⟩)<|nv 81 (.slice bj (cu.l.length) bk)<|nv 82 (.bool (ad.l.any (·.kl)))<|nv 83 (iN bh)<|WN.nil ⟨?_,?_⟩
        ·
         refine cv (.tuple ⟨[.slice bj (cu.l.length) bk,.bool (ad.l.any (·.kl)),iN bh]⟩) (VM 7 _ (by intro v e7;simp only[List.mem_cons,List.not_mem_nil,or_false]at e7;rcases e7 with rfl|rfl|rfl<;>first|exact iQ ..|exact jd ..|exact(bD▸cz.kO 7))) ?_
         refine cv (.slice bj (cu.l.length) bk) (bD▸cz.kO 8)<|cv (.bool (ad.l.any (·.kl))) (jd 8 (ad.l.any (·.kl)))<|cv (iN bh) (iQ ..) ?_
         exact jh.nil
        refine WC.at rfl (WC.val 21 (.slice bj (cu.l.length) bk) kf<|WD.ln<|WN.nil ⟨?_,?_⟩)
        ·
         refine cv (.bool (ad.l.any (·.kl))) (jd 8 (ad.l.any (·.kl)))<|cv (iN bh) (iQ ..) ?_
         exact jh.nil
        refine WC.at rfl (WC.val 22 (.bool (ad.l.any (·.kl))) kf<|WD.ln<|WN.nil ⟨?_,?_⟩)
        ·
         refine cv (iN bh) (iQ ..) ?_
         exact jh.nil
        refine WC.at rfl (WC.val 23 (iN bh) kf<|WD.last<|WN.nil ⟨?_,?_⟩)
        ·
         exact jh.nil
        refine WP.seq<|sr<|oX 1 ?_
        refine oq 85 (qW bh 0) fun nIg nGR=>WO.nil<|cq nGR (fun nD_=>?_) (fun nD_=>?_)
        ·
         refine sr<|WO.cons (WC.jb (nx+1+1+1) (0) [iN 0,.slice none (0) 0,.bool false] kr tT mS bu rfl<|oX 1<|oS (nx+1+1+1) (0) (.agg ⟨[iN 0,.slice none (0) 0,.bool false]⟩) [iN 0,.slice none (0) 0,.bool false] [iN 0,.slice none (0) 0,.bool false] mS rfl (Bool.and_eq_true_iff.2 ⟨rfl,Bool.and_eq_true_iff.2 ⟨rfl,Bool.and_eq_true_iff.2 ⟨rfl,Bool.and_eq_true_iff.2 ⟨rfl,rfl⟩⟩⟩⟩) bu fun nHT nHy nEw a6=>?_)
         have nE4:=dR.trans (HE.nW (B:=af) (l:=[(nx+1+1+1),(nx+1+1+1+1),j,(j+1),(o+1)]) fun q _ I=>a6 q fun h=>I (by rw[h];simp))
         have nE5:=dS.trans (HE.nW (B:=af) (l:=[(nx+1+1+1),(nx+1+1+1+1),j,(j+1),(o+1)]) fun q _ I=>a6 q fun h=>I (by rw[h];simp))
         have nEh:=cU.trans (HE.nW (B:=af) (l:=[(nx+1+1+1),(nx+1+1+1+1),j,(j+1),(o+1)]) fun q _ I=>a6 q fun h=>I (by rw[h];simp))
         refine oS (nx+1+1+1+1) (0) (iN bh) [iN bh] [iN bh] qE rfl rfl ((a6 (nx+1+1+1+1) om).trans b3) fun nHU nHz nEx a7=>?_
         have nH2:=nE4.trans (HE.nW (B:=af) (l:=[(nx+1+1+1),(nx+1+1+1+1),j,(j+1),(o+1)]) fun q _ I=>a7 q fun h=>I (by rw[h];simp))
         have nH3:=nE5.trans (HE.nW (B:=af) (l:=[(nx+1+1+1),(nx+1+1+1+1),j,(j+1),(o+1)]) fun q _ I=>a7 q fun h=>I (by rw[h];simp))
         have cV:=nEh.trans (HE.nW (B:=af) (l:=[(nx+1+1+1),(nx+1+1+1+1),j,(j+1),(o+1)]) fun q _ I=>a7 q fun h=>I (by rw[h];simp))
         refine WO.nil ?_
         have aw:=((a7 (o+1) om).trans ((a6 (o+1) om).trans b5)).trans bL
         refine WP.ret ⟨rfl,aw,fun dI aY U=>⟨(show b<=af by omega),(HE.nW fun q I hn=>(U q (fun h=>hn (by rw[h];simp))).trans (cV.qV om (by simp at hn⊢;omega))),(fun q I bl=>by obtain⟨p1,aO⟩:=cI q bl;exact(U q (fun h=>aO (by rw[h];simp))).trans (cV.qV I (by simp at aO⊢;omega))),false,rfl,(fun h=>by cases h),fun _=>⟨(U _ om).trans ((a7 (nx+1+1+1) om).trans nEw),⟨bh,(eR.elim (fun h=>absurd h.1 nD_) (fun h=>h.1)),(U _ om).trans nEx⟩,aY,(show(o+1+1)<=af by omega)⟩⟩⟩
        ·
         refine WP.skip<|sr<|oZ (j+1) (0) (.bool aC) xT b4 rfl<|oX 1<|og 89 (!aC) (.bool (ad.l.any (·.kl))) (.bool aC) (by cases aC<;>rfl) (fun h=>by obtain rfl:=bF h;exact fun _ _ _=>by kernel_rfl) ?_
         obtain⟨bG,eK,nIv⟩:=nO nGV nEW
         refine WO.cons (WC.opt (v:=.bool bG) 91 (lA (.bool aC) (.bool true) ((bif !aC then .bool (ad.l.any (·.kl))else undef))) kf (by rw[eK];exact lE (fun h=>by obtain rfl:aC=false:=h;rfl))<|oS (j+1) (0) (.bool bG) [.bool bG] [.bool bG] Pf rfl rfl b4 fun nHV nHA nEy au=>?_)
         have nE6:=dR.trans (HE.nW (B:=af) (l:=[(nx+1+1+1),(nx+1+1+1+1),j,(j+1),(o+1)]) fun q _ I=>au q fun h=>I (by rw[h];simp))
         have nE7:=dS.trans (HE.nW (B:=af) (l:=[(nx+1+1+1),(nx+1+1+1+1),j,(j+1),(o+1)]) fun q _ I=>au q fun h=>I (by rw[h];simp))
         have nEi:=cU.trans (HE.nW (B:=af) (l:=[(nx+1+1+1),(nx+1+1+1+1),j,(j+1),(o+1)]) fun q _ I=>au q fun h=>I (by rw[h];simp))
         refine WO.nil<|WP.region<|oX 2<|oL [.slice bj (cu.l.length) bk] fun nHW ak nEz=>?_
         have dT:=nE6.trans (ak.jU (l:=[(nx+1+1+1),(nx+1+1+1+1),j,(j+1),(o+1)]))
         have nFR:=Nat.le_trans nFP (Nat.le_succ (af))
         have nFS:=Nat.le_trans nFQ (Nat.le_succ (af))
         have nFZ:=cz.mono (nE7.trans (ak.jU (l:=[(nx+1+1+1),(nx+1+1+1+1),j,(j+1),(o+1)]))) nFS
         have eN:=bR.mono dT nFR
         obtain⟨inf,pa,uY⟩:=SG
         refine WO.cons (WC.Mn (enc:=lG) (J:=bs) cu rfl kr kr eN.ql (fun _ _=>rfl) nEz (by rw[<-bD];rfl) Az qC GU pa rfl (Bool.and_eq_true_iff.2 ⟨nFZ.one,rfl⟩) uY om om rfl ?_)
         rintro nFU e6 nF6 nG1 cL e5 nF2 an nGb _
         have nGc:=nGb.Di (L:=[(nx+1+1+1),(nx+1+1+1+1),j,(j+1),(o+1)]) (by intro q I;simp only[List.mem_cons,List.not_mem_nil,or_false]at I;omega)
         have nGe:=nFZ.Pe eN.ql nF2 e5
         have nGd:∀y∈nFU.l,gA fo 2 (jU [(nx+1+1+1),(nx+1+1+1+1),j,(j+1),(o+1)] e6) nF6 y:=by
          intro y hy;rw[cL]at hy
          rcases List.mem_append.1 hy with hy|hy
          · exact((bH y hy).mono dT).Pe eN.ql nF2 e5
          · rw[List.mem_singleton.1 hy];exact nGe
         have nEj:=(nEi.trans (ak.jU (l:=[(nx+1+1+1),(nx+1+1+1+1),j,(j+1),(o+1)]))).trans (an.jU (l:=[(nx+1+1+1),(nx+1+1+1+1),j,(j+1),(o+1)]))
         refine oN 1<|WP.region<|ov 96 (iN (.ofNat (ae+1))) ?_ (fun _ _ _=>by rw[<-gU (show ae+1<9223372036854775808 by omega)];kernel_rfl)
         refine oN 1<|⟨M.l.length-(ae+1),om,rfl,rfl,ae+1,nFU,nG1,bG,om,kr,?_,?_,?_,?_,?_,?_,?_,?_,?_,?_,?_,?_,?_,?_,?_⟩
         · exact od
         · exact nEj
         · exact((an _ om).trans (ak.get ((au (nx+1) om).trans (ar.get b0))))
         · exact((an _ om).trans (ak.get ((au ab om).trans (ar.get ((aJ ab om).trans (aq.get nFN))))))
         · exact((an _ om).trans (ak.get ((au (nx+1+1+1) om).trans bu)))
         · exact((an _ om).trans (ak.get ((au (nx+1+1+1+1) om).trans b3)))
         · exact((an _ om).trans (ak.get ((au j om).trans df)))
         · exact((an _ om).trans (ak.get nEy))
         · exact((an _ om).trans (ak.get ((au (o+1) om).trans b5)))
         · exact nGc
         · have nHm:cu.l=wT F.jv w ag:=by unfold wT;rw[nD5];exact eR.elim (fun h=>h.2.1) (fun h=>absurd (show bh≠0 by omega) (by assumption))
           rw[cL,List.map_append,cx,KZ R,<-nHm];rfl
         · exact nGd
         · rw[K0 R,<-Bool.or_assoc,<-dJ];unfold NF;rw[nD5];exact eK
         · intro x hx;rcases K3 R hx with hx|rfl
           · exact eP x hx
           · rw[nD5];exact eR.elim (fun h=>h.2.2) (fun h=>absurd (show bh≠0 by omega) (by assumption))
         · rw[cL,List.length_append,nG4];rfl
       ·
        refine WP.exit<|WP.seq<|sr<|oX 1 ?_
        have nG8:M.l.take ae=M.l:=List.take_of_length_le om
        rw[nG8]at cx dJ eP
        have eO:jt lG 1 (fun hp nx y=>gA fo 2 hp nx y) cd (ai) bs:=⟨(bR.mono dW).ql.ok (fun _ _=>rfl) om,fun y hy=>((bH y hy).mono dW).ql⟩
        refine oD 98 (Fa (A:=fun y=>y.l=[]) bs 29 #[] cd (ai) eO (fun i x hx fe fg hn he=>SH x fe fg ((eO.2 x (List.mem_of_getElem? hx)).mono he hn))) fun nIh nGS nE0 bE nER aF=>?_
        have bt:=bx.trans (aF.jU (l:=[(nx+1+1+1),(nx+1+1+1+1),j,(j+1),(o+1)]))
        have dg:=aF.get ee
        have dh:=aF.get ef
        have di:=aF.get eg
        have dj:=aF.get eh
        have dm:=aF.get ei
        have cm:=dW.trans (aF.jU (l:=[(nx+1+1+1),(nx+1+1+1+1),j,(j+1),(o+1)]))
        have nFf:=Nat.le_trans nFe nER
        refine WO.nil<|cq nGS (fun nEa=>?_) (fun nEa=>?_)
        ·
         refine WP.exit ?_
         have bP:=u4.skip (w:=w) k6 (NJ cx nEa)
         rw[<-dJ]at bP
         have bH:=(cZ.mono bt nFf).ql
         have aw:=dm.trans bL
         refine⟨rfl,aw,fun dI aY U=>⟨(show b<=bE by omega),(HE.nW fun q I hn=>(U q (fun h=>hn (by rw[h];simp))).trans (bt.qV om (by simp at hn⊢;omega))),(fun q I bl=>by obtain⟨p1,aO⟩:=cI q bl;exact(U q (fun h=>aO (by rw[h];simp))).trans (bt.qV I (by simp at aO⊢;omega))),true,rfl,fun _=>⟨J,aC,(U _ om).trans di,(U _ om).trans dj,(U _ om).trans dg,(U _ om).trans dh,aY,bP,bH.JI (Bg aw _) U,fun q bl=>?_,(show(o+1+1)<=bE by omega)⟩,(fun h=>by cases h)⟩⟩
         obtain⟨p1,aO⟩:=cI q bl;exact⟨(show q<bE by omega),aO⟩
        ·
         refine WP.skip<|sr<|oX 1<|WO.cons (WC.call 101 30 ([bs.v,.func (.func 31) #[] #[]]) kf ((V6 hC bs nE0 (bE) ⟨(bR.mono cm).ql.ok (fun _ _=>rfl) om,fun y hy=>((bH y hy).mono cm).ql⟩).mono ?_))
         rintro _ dG aB ⟨⟨JX,et,rfl,nGh,nF1⟩,nHH,aG⟩
         have bV:=bt.trans (aG.jU (l:=[(nx+1+1+1),(nx+1+1+1+1),j,(j+1),(o+1)]))
         have b6:=aG.get dg
         have dn:=aG.get dh
         have dp:=aG.get di
         have dq:=aG.get dm
         have dU:=cm.trans (aG.jU (l:=[(nx+1+1+1),(nx+1+1+1+1),j,(j+1),(o+1)]))
         refine oN 5<|WP.seq<|sr<|oX 1 ?_
         refine oq 105 (qW et 0) fun nIi nGT=>WO.nil<|cq nGT (fun nEb=>?_) (fun nEb=>?_)
         ·
          refine sr<|WO.cons (WC.jb (nx+1+1+1) (0) [iN 0,.slice none (0) 0,.bool false] kr tT mS b6 rfl<|oX 1<|oS (nx+1+1+1) (0) (.agg ⟨[iN 0,.slice none (0) 0,.bool false]⟩) [iN 0,.slice none (0) 0,.bool false] [iN 0,.slice none (0) 0,.bool false] mS rfl (Bool.and_eq_true_iff.2 ⟨rfl,Bool.and_eq_true_iff.2 ⟨rfl,Bool.and_eq_true_iff.2 ⟨rfl,Bool.and_eq_true_iff.2 ⟨rfl,rfl⟩⟩⟩⟩) b6 fun nHX nHB nEA bz=>?_)
          have nE8:=dU.trans (HE.nW (B:=aB) (l:=[(nx+1+1+1),(nx+1+1+1+1),j,(j+1),(o+1)]) fun q _ I=>bz q fun h=>I (by rw[h];simp))
          have nEk:=bV.trans (HE.nW (B:=aB) (l:=[(nx+1+1+1),(nx+1+1+1+1),j,(j+1),(o+1)]) fun q _ I=>bz q fun h=>I (by rw[h];simp))
          refine oS (nx+1+1+1+1) (0) (iN et) [iN et] [iN et] qE rfl rfl ((bz (nx+1+1+1+1) om).trans dn) fun nHY nHC nEB bA=>?_
          have nH4:=nE8.trans (HE.nW (B:=aB) (l:=[(nx+1+1+1),(nx+1+1+1+1),j,(j+1),(o+1)]) fun q _ I=>bA q fun h=>I (by rw[h];simp))
          have cW:=nEk.trans (HE.nW (B:=aB) (l:=[(nx+1+1+1),(nx+1+1+1+1),j,(j+1),(o+1)]) fun q _ I=>bA q fun h=>I (by rw[h];simp))
          refine WO.nil ?_
          have aw:=((bA (o+1) om).trans ((bz (o+1) om).trans dq)).trans bL
          refine WP.ret ⟨rfl,aw,fun dI aY U=>⟨(show b<=aB by omega),(HE.nW fun q I hn=>(U q (fun h=>hn (by rw[h];simp))).trans (cW.qV om (by simp at hn⊢;omega))),(fun q I bl=>by obtain⟨p1,aO⟩:=cI q bl;exact(U q (fun h=>aO (by rw[h];simp))).trans (cW.qV I (by simp at aO⊢;omega))),false,rfl,(fun h=>by cases h),fun _=>⟨(U _ om).trans ((bA (nx+1+1+1) om).trans nEA),⟨et,(nF1.elim (fun h=>absurd h.1 nEb) (fun h=>h.1)),(U _ om).trans nEB⟩,aY,(show(o+1+1)<=aB by omega)⟩⟩⟩
         ·
          refine WP.skip<|sr ?_
          obtain⟨nF9,nF_,dK⟩:=cZ.shape
          have nHj:=cZ.2.2
          refine oZ j (0) (.slice nF9 (J.l.length) nF_) nM dp (by rw[<-dK];rfl)<|oX 1<|WO.cons (WC.call 111 32 ([J.v,JX.v]) (fun _ _ _=>by(try rw[dK]);kernel_rfl) ((MM hC J JX dG (aB) (cZ.mono bV).ql (nGh.mono (HE.refl (aB) dG))).mono ?_))
          rintro _ nE1 aa ⟨⟨JU,ep,rfl,nGg,nF0⟩,nHI,aH⟩
          have dr:=aH.get b6
          have dt:=aH.get dn
          have du:=aH.get dp
          have dv:=aH.get (aG.get dj)
          have dw:=aH.get dq
          have eU:=nGg.NH du dv dr dt (dw.trans bL)
          have nFT:=Nat.le_refl aa
          refine oX 3<|oS j (0) (JU.v) [JU.v] [JU.v] qC eU.cells (Bool.and_eq_true_iff.2 ⟨rfl,by rw[List.all_cons,eU.one];rfl⟩) du fun nHZ nHD nEC aK=>?_
          have nE9:=(dU.trans (aH.jU (l:=[(nx+1+1+1),(nx+1+1+1+1),j,(j+1),(o+1)]))).trans (HE.nW (B:=aa) (l:=[(nx+1+1+1),(nx+1+1+1+1),j,(j+1),(o+1)]) fun q _ I=>aK q fun h=>I (by rw[h];simp))
          have dV:=(HE.refl aa (jU [(nx+1+1+1),(nx+1+1+1+1),j,(j+1),(o+1)] nE1)).trans (HE.nW (B:=aa) (l:=[(nx+1+1+1),(nx+1+1+1+1),j,(j+1),(o+1)]) fun q _ I=>aK q fun h=>I (by rw[h];simp))
          have bW:=(bV.trans (aH.jU (l:=[(nx+1+1+1),(nx+1+1+1+1),j,(j+1),(o+1)]))).trans (HE.nW (B:=aa) (l:=[(nx+1+1+1),(nx+1+1+1+1),j,(j+1),(o+1)]) fun q _ I=>aK q fun h=>I (by rw[h];simp))
          have b7:=(aK (nx+1+1+1) om).trans dr
          have dx:=(aK (nx+1+1+1+1) om).trans dt
          have dy:=(aK (o+1) om).trans dw
          refine oN 1<|sr<|oX 1 ?_
          refine oq 115 (qW ep 0) fun nIj nGU=>WO.nil<|cq nGU (fun nEc=>?_) (fun nEc=>?_)
          ·
           refine sr<|WO.cons (WC.jb (nx+1+1+1) (0) [iN 0,.slice none (0) 0,.bool false] kr tT mS b7 rfl<|oX 1<|oS (nx+1+1+1) (0) (.agg ⟨[iN 0,.slice none (0) 0,.bool false]⟩) [iN 0,.slice none (0) 0,.bool false] [iN 0,.slice none (0) 0,.bool false] mS rfl (Bool.and_eq_true_iff.2 ⟨rfl,Bool.and_eq_true_iff.2 ⟨rfl,Bool.and_eq_true_iff.2 ⟨rfl,Bool.and_eq_true_iff.2 ⟨rfl,rfl⟩⟩⟩⟩) b7 fun nH0 nHE nED a8=>?_)
           have nE_:=nE9.trans (HE.nW (B:=aa) (l:=[(nx+1+1+1),(nx+1+1+1+1),j,(j+1),(o+1)]) fun q _ I=>a8 q fun h=>I (by rw[h];simp))
           have nFa:=dV.trans (HE.nW (B:=aa) (l:=[(nx+1+1+1),(nx+1+1+1+1),j,(j+1),(o+1)]) fun q _ I=>a8 q fun h=>I (by rw[h];simp))
           have nEl:=bW.trans (HE.nW (B:=aa) (l:=[(nx+1+1+1),(nx+1+1+1+1),j,(j+1),(o+1)]) fun q _ I=>a8 q fun h=>I (by rw[h];simp))
           refine oS (nx+1+1+1+1) (0) (iN ep) [iN ep] [iN ep] qE rfl rfl ((a8 (nx+1+1+1+1) om).trans dx) fun nH1 nHF nEE a_=>?_
           have nH5:=nE_.trans (HE.nW (B:=aa) (l:=[(nx+1+1+1),(nx+1+1+1+1),j,(j+1),(o+1)]) fun q _ I=>a_ q fun h=>I (by rw[h];simp))
           have nH6:=nFa.trans (HE.nW (B:=aa) (l:=[(nx+1+1+1),(nx+1+1+1+1),j,(j+1),(o+1)]) fun q _ I=>a_ q fun h=>I (by rw[h];simp))
           have cX:=nEl.trans (HE.nW (B:=aa) (l:=[(nx+1+1+1),(nx+1+1+1+1),j,(j+1),(o+1)]) fun q _ I=>a_ q fun h=>I (by rw[h];simp))
           refine WO.nil ?_
           have aw:=((a_ (o+1) om).trans ((a8 (o+1) om).trans dy)).trans bL
           refine WP.ret ⟨rfl,aw,fun dI aY U=>⟨(show b<=aa by omega),(HE.nW fun q I hn=>(U q (fun h=>hn (by rw[h];simp))).trans (cX.qV om (by simp at hn⊢;omega))),(fun q I bl=>by obtain⟨p1,aO⟩:=cI q bl;exact(U q (fun h=>aO (by rw[h];simp))).trans (cX.qV I (by simp at aO⊢;omega))),false,rfl,(fun h=>by cases h),fun _=>⟨(U _ om).trans ((a_ (nx+1+1+1) om).trans nED),⟨ep,(nF0.elim (fun h=>absurd h.1 nEc) (fun h=>h.1)),(U _ om).trans nEE⟩,aY,(show(o+1+1)<=aa by omega)⟩⟩⟩
          ·
           refine WP.skip ?_
           have bP:=u4.add (w:=w) k6 (fun x hx h=>absurd (show∃y∈bs.l,y.l=[]from NI cx hx h) (by assumption)) eP (nF1.elim (fun h=>cx▸h.2) (fun h=>absurd (show et≠0 by omega) (by assumption))) (nF0.elim (fun h=>h.2) (fun h=>absurd (show ep≠0 by omega) (by assumption)))
           rw[<-dJ]at bP
           have bH:=(eU.mono dV nFT).ql
           have aw:=dy.trans bL
           refine⟨rfl,aw,fun dI aY U=>⟨(show b<=aa by omega),(HE.nW fun q I hn=>(U q (fun h=>hn (by rw[h];simp))).trans (bW.qV om (by simp at hn⊢;omega))),(fun q I bl=>by obtain⟨p1,aO⟩:=cI q bl;exact(U q (fun h=>aO (by rw[h];simp))).trans (bW.qV I (by simp at aO⊢;omega))),true,rfl,fun _=>⟨JU,aC,(U _ om).trans nEC,(U _ om).trans ((aK (j+1) om).trans dv),(U _ om).trans b7,(U _ om).trans dx,aY,bP,bH.JI (Bg aw _) U,fun q bl=>?_,(show(o+1+1)<=aa by omega)⟩,(fun h=>by cases h)⟩⟩
           obtain⟨p1,aO⟩:=cI q bl;exact⟨(show q<aa by omega),aO⟩
      ·
       exact⟨0,⟨.slice none 0 0,[]⟩,0,aR,om,kr,Nat.le_refl _,nEg,((bO (nx+1) om).trans nGA),dd,((bO (nx+1+1+1) om).trans en),((bO (nx+1+1+1+1) om).trans eo),((bO j om).trans k1),((bO (j+1) om).trans k2),rfl,lU.nil,rfl,(fun _ h=>by cases h),(by simp),(fun _ h=>by cases h),rfl⟩
     ·
      rintro _ cf nD9 ⟨nIx,bS,nEH⟩
      have nG5:(nx+1+1+1)<(o+1+1)/\(nx+1+1+1+1)<(o+1+1)/\j<(o+1+1)/\(j+1)<(o+1+1)/\(o+1)<(o+1+1):=by omega
      rcases nEH with⟨Pr,J,aR,k1,k2,en,eo,cH,k6,k7,cI,k9⟩|⟨en,⟨z,nHp,eo⟩,cH,k9⟩
      ·
       refine⟨ct,0,cH,(fun h=>by rw[cF]at h;cases h),by rw[cF];rfl,?_⟩
       obtain⟨bc,cG⟩:∃h:Ht,h=cf.set (o+1) (some (.loop {ct with state:=.exhausted})):=⟨_,rfl⟩
       rw[<-cG]
       have aA:∀q,q≠(o+1)->bc.get q=cf.get q:=fun q I=>by rw[cG];exact Tr.gC _ _ I
       have cw:HE nx hp bc:=fun q I=>(aA q om).trans ((bS.qV om (by simp;omega)).trans (cY q I))
       have nF7:=(aA (j) om).trans k1
       have nF8:=(aA ((j+1)) om).trans k2
       have ej:=(aA ((nx+1+1+1)) om).trans en
       have nEd:=(aA ((nx+1+1+1+1)) om).trans eo
       have qD:=(aA (o) om).trans ((bS.qV om (by simp;omega)).trans nF3)
       have q5:=(aA ((nx+1+1)) om).trans ((bS.qV om (by simp;omega)).trans dX)
       have bI:=k7.JI (fe:=bc) (Bg cH _) aA
       refine WP.seq<|WP.sM [⟨[0,1,2,3,4,5,6],[0,1,2,3,4,5,6],some 7⟩,⟨[],[],some 8⟩,⟨[],[],none⟩] kr _ rfl<|WD.ln<|nv 118 (pt (nx+1+1) 0) ?_
       obtain⟨eB,eJ,aN⟩:=hr.fZ.shape
       have nHk:=hr.fZ.2.2
       refine WN.ic rfl (WC.jX (nx+1+1) 0 (.slice eB (r.fZ.l.length) eJ) kr kq q5 (by rw[<-aN];rfl) ?_)
       have bN:0<r.fZ.l.length:=by omega
       refine WN.ic rfl (WC.iy aN hr.fZ (0) lD kj (bN) ?_)
       obtain⟨aj,dN⟩:=gE bN
       refine WN.ic rfl (WC.lz (iN aj) aN (hr.fZ.mono cw nR) dN rfl fP ?_)
       obtain⟨aP,aQ,bg⟩:=bI.shape
       have nHl:=bI.2.2
       refine WN.ic rfl (WC.jX j (0) (.slice aP (J.l.length) aQ) kr nM nF7 (by rw[<-bg];rfl)<|WN.ic rfl (WC.jX (j+1) (0) (.bool aR) kr xT nF8 rfl<|nv 124 (.agg ⟨[iN aj,.slice aP (J.l.length) aQ,.bool aR]⟩)<|WN.nil ⟨?_,?_⟩))
       ·
        refine cv (pt (nx+1+1) 0) (iW ..)<|qe (nx+1+1) 0 (.slice eB (r.fZ.l.length) eJ) kq q5 (by rw[<-aN];rfl) (aN▸hr.fZ.kO 8)<|DM aN hr.fZ (0) lD kj (bN)<|OX (iN aj) aN (hr.fZ.mono cw nR) dN rfl fP (iQ ..)<|qe j 0 (.slice aP (J.l.length) aQ) nM nF7 (by rw[<-bg];rfl) (bg▸bI.kO 8)<|qe (j+1) 0 (.bool aR) xT nF8 rfl (jd 8 aR)<|cv (.agg ⟨[iN aj,.slice aP (J.l.length) aQ,.bool aR]⟩) (yA 7 _ (by intro v e7;simp only[List.mem_cons,List.not_mem_nil,or_false]at e7;rcases e7 with rfl|rfl|rfl<;>first|exact iQ ..|exact jd ..|exact(bg▸bI.kO 7))) ?_
        exact jh.nil
       refine WC.at rfl (WC.vi (nx+1+1+1) (0) (.agg ⟨[iN aj,.slice aP (J.l.length) aQ,.bool aR]⟩) [iN 0,.slice none (0) 0,.bool false] [iN aj,.slice aP (J.l.length) aQ,.bool aR] [iN aj,.slice aP (J.l.length) aQ,.bool aR] 3 rfl kr kr mS rfl (Bool.and_eq_true_iff.2 ⟨rfl,Bool.and_eq_true_iff.2 ⟨rfl,Bool.and_eq_true_iff.2 ⟨rfl,Bool.and_eq_true_iff.2 ⟨rfl,rfl⟩⟩⟩⟩) ej rfl rfl rfl ?_)
       obtain⟨nE2,dO,nEN,nEF,ca⟩:=stored bc (nx+1+1+1) (.cells [iN aj,.slice aP (J.l.length) aQ,.bool aR] gl.plain)
       rw[dO];clear dO
       have dz:=(ca (nx+1+1+1+1) om).trans nEd
       refine WD.ln<|WN.nil ⟨?_,?_⟩
       ·
        exact jh.nil
       refine WC.at rfl (WC.vi (nx+1+1+1+1) (0) (iN 0) [iN 0] [iN 0] [iN 0] 1 rfl kr kr qE rfl rfl dz rfl rfl rfl ?_)
       obtain⟨dH,dP,nEO,nEG,cb⟩:=stored nE2 (nx+1+1+1+1) (.cells [iN 0] gl.plain)
       rw[dP];clear dP
       have dA:=(cb o om).trans ((ca o om).trans qD)
       refine WD.last<|WN.nil ⟨?_,?_⟩
       ·
        exact jh.nil
       obtain⟨cE,bQ⟩:∃h:Ht,h=dH.set (o) (some (.deferred none)):=⟨_,rfl⟩
       have bq:∀q,q≠o->cE.get q=dH.get q:=fun q I=>by rw[bQ];exact Tr.gC _ _ I
       have eL:cE.get ((nx+1+1+1))=some (.cells (qB ⟨aj,J,aR⟩) gl.plain):=by rw[show qB ⟨aj,J,aR⟩=[iN aj,J.v,.bool aR]from rfl,bg];exact(bq ((nx+1+1+1)) om).trans ((cb (nx+1+1+1) om).trans nEF)
       have eM:=(bq ((nx+1+1+1+1)) om).trans nEG
       refine WP.ret ⟨rfl,.inr ⟨o,rfl,dA,[.agg (qB ⟨aj,J,aR⟩).toArray,iN 0],(by rw[<-bQ];exact qd (by rw[show(aaj (.tmp 6)).run _=pt (nx+1+1+1) 0 from by kernel_rfl];exact lF tT mS eL rfl) (by rw[show(aaj (.tmp 7)).run _=pt (nx+1+1+1+1) 0 from by kernel_rfl];exact ko pK eM rfl)),?_⟩⟩
       rw[<-bQ]
       have nGu:gA fo 2 cE nD9 J:=(((bI.JI (uP (enc:=fo) (k:=2) (fun _=>rfl) ej _ (xz (.inr rfl))) ca).JI (uP (enc:=fo) (k:=2) (fun _=>rfl) dz _ (xz (.inl rfl))) cb)).JI (fun m h=>by rw[dA]at h;cases h) bq
       exact⟨⟨aj,J,aR⟩,0,rfl,⟨nGu⟩,.ok (Classical.not_not.1 bJ) bp c3 k6,(show nx<=nD9 by omega),(fun q I=>(bq q om).trans (((cw.trans nEN).trans nEO) q I))⟩
      ·
       refine⟨{ct with state:=.done,pending:=some .ret},1,cH,(fun h=>by cases h),rfl,?_⟩
       obtain⟨bc,cG⟩:∃h:Ht,h=cf.set (o+1) (some (.loop {({ct with state:=.done,pending:=some .ret}:sL Tm)with state:=.exhausted})):=⟨_,rfl⟩
       rw[<-cG]
       have aA:∀q,q≠(o+1)->bc.get q=cf.get q:=fun q I=>by rw[cG];exact Tr.gC _ _ I
       have cw:HE nx hp bc:=fun q I=>(aA q om).trans ((bS.qV om (by simp;omega)).trans (cY q I))
       have ej:=(aA ((nx+1+1+1)) om).trans en
       have nEd:=(aA ((nx+1+1+1+1)) om).trans eo
       have qD:=(aA (o) om).trans ((bS.qV om (by simp;omega)).trans nF3)
       have q5:=(aA ((nx+1+1)) om).trans ((bS.qV om (by simp;omega)).trans dX)
       obtain⟨cE,bQ⟩:∃h:Ht,h=bc.set (o) (some (.deferred none)):=⟨_,rfl⟩
       have bq:∀q,q≠o->cE.get q=bc.get q:=fun q I=>by rw[bQ];exact Tr.gC _ _ I
       have eL:=(bq ((nx+1+1+1)) om).trans ej
       have eM:=(bq ((nx+1+1+1+1)) om).trans nEd
       show Nat.ble 1 1=true/\_
       refine⟨rfl,.inr ⟨o,rfl,qD,[.agg (qB ⟨0,⟨.slice none 0 0,[]⟩,false⟩).toArray,iN z],(by rw[<-bQ];exact qd (by rw[show(aaj (.tmp 6)).run _=pt (nx+1+1+1) 0 from by kernel_rfl];exact lF tT mS eL rfl) (by rw[show(aaj (.tmp 7)).run _=pt (nx+1+1+1+1) 0 from by kernel_rfl];exact ko pK eM rfl)),?_⟩⟩
       rw[<-bQ]
       exact⟨⟨0,⟨.slice none 0 0,[]⟩,false⟩,z,rfl,⟨sY⟩,.lim (Classical.not_not.1 bJ) bp (Hi c3) nHp rfl,(show nx<=nD9 by omega),(fun q I=>(bq q om).trans (cw q I))⟩
   ·
    exact⟨0,⟨.slice none 0 0,[]⟩,om,kr,Nat.le_refl _,(cR.trans aS),(aS.get (bo.get (bn.get eV))),(aS.get (bo.get eX)),c6,(aS.get bY),(aS.get c5),nEo,mf.nil,rfl,(fun _ h=>by cases h),rfl⟩
end
end Sw
namespace Sw
noncomputable section
open Go Go.RowKit
def mB(l:List fT)(t:Int):Prop:=∃s∈l,s.h_<=t/\t<=s.hQ
def BH(l:List fT):Prop:=∀s∈l,tS s
def Canon:List fT->Prop
 |[]=>True
 |a::l=>a.h_<=a.hQ/\(∀b∈l,a.hQ+1<b.h_)/\Canon l
theorem mB.nil{t:Int}:¬mB [] t:=fun⟨_,h,_⟩=>by cases h
theorem mB.cons{a:fT}{l:List fT}{t:Int}:mB (a::l) t↔(a.h_<=t/\t<=a.hQ)\/mB l t:=by
 constructor
 · rintro ⟨s,hs,h⟩
   rcases List.mem_cons.1 hs with rfl|hs
   · exact .inl h
   · exact .inr ⟨s,hs,h⟩
 · rintro(h|⟨s,hs,h⟩)
   · exact⟨a,List.mem_cons_self ..,h⟩
   · exact⟨s,List.mem_cons_of_mem _ hs,h⟩
theorem mB.append{l k:List fT}{t:Int}:mB (l++k) t↔mB l t\/mB k t:=by
 constructor
 · rintro ⟨s,hs,h⟩
   rcases List.mem_append.1 hs with hs|hs
   · exact .inl ⟨s,hs,h⟩
   · exact .inr ⟨s,hs,h⟩
 · rintro(⟨s,hs,h⟩|⟨s,hs,h⟩)
   · exact⟨s,List.mem_append_left _ hs,h⟩
   · exact⟨s,List.mem_append_right _ hs,h⟩
theorem Canon.lo{a:fT}{l:List fT}(h:Canon (a::l)){t:Int}(j:mB l t):a.hQ+1<t:=by
 obtain⟨s,hs,h1,h2⟩:=j
 have:=h.2.1 s hs;omega
theorem Canon.eq:∀{a b:List fT},Canon a->Canon b->(∀t,mB a t↔mB b t)->a=b
 |[],[],_,_,_=>rfl
 |[],b::l,_,hb,h=>absurd ((h b.h_).2 (mB.cons.2 (.inl ⟨Int.le_refl _,hb.1⟩))) mB.nil
 |a::l,[],j,_,h=>absurd ((h a.h_).1 (mB.cons.2 (.inl ⟨Int.le_refl _,j.1⟩))) mB.nil
 |a::l,b::k,j,hb,h=>by
  have I:a.h_=b.h_:=by
   rcases mB.cons.1 ((h a.h_).1 (mB.cons.2 (.inl ⟨Int.le_refl _,j.1⟩)))with h1|h1
   · rcases mB.cons.1 ((h b.h_).2 (mB.cons.2 (.inl ⟨Int.le_refl _,hb.1⟩)))with h2|h2
     · omega
     · have:=j.lo h2;have:=j.1;omega
   · have h3:=hb.lo h1
     rcases mB.cons.1 ((h b.h_).2 (mB.cons.2 (.inl ⟨Int.le_refl _,hb.1⟩)))with h2|h2
     · have:=hb.1;omega
     · have:=j.lo h2;have:=j.1;have:=hb.1;omega
  have C:a.hQ=b.hQ:=by
   rcases Int.lt_trichotomy a.hQ b.hQ with J|J|J
   · exfalso
     have U:=j.1
     rcases mB.cons.1 ((h (a.hQ+1)).2 (mB.cons.2 (.inl ⟨by omega,by omega⟩)))with h1|h1
     · omega
     · have:=j.lo h1;omega
   · exact J
   · exfalso
     have aa:=hb.1
     rcases mB.cons.1 ((h (b.hQ+1)).1 (mB.cons.2 (.inl ⟨by omega,by omega⟩)))with h1|h1
     · omega
     · have:=hb.lo h1;omega
  have R:a=b:=by cases a;cases b;simp only at I C;rw[I,C]
  subst R
  rw[Canon.eq j.2.2 hb.2.2 fun t=>?_]
  constructor
  · intro o
    rcases mB.cons.1 ((h t).1 (mB.cons.2 (.inr o)))with h1|h1
    · have:=j.lo o;omega
    · exact h1
  · intro o
    rcases mB.cons.1 ((h t).2 (mB.cons.2 (.inr o)))with h1|h1
    · have:=hb.lo o;omega
    · exact h1
theorem Canon.snoc:∀{l:List fT} {x:fT},Canon l->x.h_<=x.hQ->(∀a∈l,a.hQ+1<x.h_)->Canon (l++[x])
 |[],x,_,hx,_=>⟨hx,(fun b h=>by cases h),trivial⟩
 |a::l,x,h,hx,k=>by
  refine⟨h.1,fun b hb=>?_,h.2.2.snoc hx fun b hb=>k b (List.mem_cons_of_mem _ hb)⟩
  rcases List.mem_append.1 hb with hb|hb
  · exact h.2.1 b hb
  · rw[List.mem_singleton.1 hb];exact k a (List.mem_cons_self ..)
theorem Canon.init:∀{l:List fT} {y:fT},Canon (l++[y])->Canon l/\y.h_<=y.hQ/\∀a∈l,a.hQ+1<y.h_
 |[],y,h=>⟨trivial,h.1,(fun a h=>by cases h)⟩
 |a::l,y,h=>by
  obtain⟨h1,h2,h3⟩:=Canon.init h.2.2
  refine⟨⟨h.1,fun b hb=>h.2.1 b (List.mem_append_left _ hb),h1⟩,h2,fun b hb=>?_⟩
  rcases List.mem_cons.1 hb with rfl|hb
  · exact h.2.1 y (List.mem_append_right _ (List.mem_singleton.2 rfl))
  · exact h3 b hb
theorem JJ{z:Int}(h1:-9223372036854775808<=z)(h2:z<9223372036854775808):gD .i64 z=z:=by
 rw[tt]
 show(if(true&&decide (z%18446744073709551616>=9223372036854775808))=true then z%18446744073709551616-18446744073709551616 else z%18446744073709551616)=z
 by_cases h:z%18446744073709551616>=9223372036854775808
 · rw[if_pos (by simpa using h)];omega
 · rw[if_neg (by simpa using h)];omega
structure QJ(J l:List fT):Prop where
 canon:Canon J
 oF:BH J
 Vp:∀t,mB J t↔mB l t
 low:∀a∈J,∃b∈l,a.h_=b.h_
open Classical in
theorem SI{J l:List fT}{x:fT}(h:QJ J l)(hx:tS x)(hs:∀b∈l,b.h_<=x.h_):QJ (th J x) (l++[x]):=by
 have R:∀a∈J,a.h_<=x.h_:=fun a j=>by obtain⟨b,hb,e⟩:=h.low a j;rw[e];exact hs b hb
 rcases List.eq_nil_or_concat J with rfl|⟨o,y,rfl⟩
 · have e:th [] x=[x]:=rfl
   rw[e]
   refine⟨⟨hx.2.2,fun b h=>(by cases h),trivial⟩,fun s hs=>by rw[List.mem_singleton.1 hs];exact hx,fun t=>?_,fun a j=>⟨x,by simp,by rw[List.mem_singleton.1 j]⟩⟩
   rw[mB.append,<-h.Vp];simp[mB.nil]
 · simp only[List.concat_eq_append]at*
   obtain⟨c1,c2,U⟩:=h.canon.init
   have hy:=h.oF y (by simp)
   have af:=R y (by simp)
   have e1:(o++[y])[(o++[y]).length-1]?=some y:=by simp
   have e2:th (o++[y]) x=if Touch y x then(o++[y]).set ((o++[y]).length-1) (both y x)else(o++[y])++[x]:=by
    unfold th;rw[e1]
   rw[e2]
   have hw:gD .i64 (y.hQ+1)=y.hQ+1:=JJ (by have:=hy.2.1;have:=hy.1;have:=hy.2.2;omega) (by have:=hy.2.1;omega)
   split
   · rename_i I
     have e3:(o++[y]).set ((o++[y]).length-1) (both y x)=o++[both y x]:=by
      rw[List.set_append_right _ _ (by simp)];simp
     rw[e3]
     have ad:x.h_<=y.hQ+1:=by
      rcases I with rfl|I
      · have:=hy.2.2;omega
      · rw[hw]at I;exact I
     have hb:(both y x).h_=y.h_/\y.hQ<=(both y x).hQ/\x.hQ<=(both y x).hQ/\((both y x).hQ=y.hQ\/(both y x).hQ=x.hQ):=by
      cases hl:ru y.hQ x.hQ with
      |true=>
       have:=so.1 hl
       have e:both y x=⟨y.h_,x.hQ⟩:=by unfold both;rw[hl];rfl
       rw[e];exact⟨rfl,Int.le_of_lt this,Int.le_refl _,.inr rfl⟩
      |false=>
       have:¬y.hQ<x.hQ:=fun k=>by rw[so.2 k]at hl;cases hl
       have e:both y x=⟨y.h_,y.hQ⟩:=by unfold both;rw[hl];rfl
       rw[e];exact⟨rfl,Int.le_refl _,Int.not_lt.1 this,.inl rfl⟩
     have ae:=hx.2.2
     refine⟨c1.snoc (by omega) (fun a j=>by rw[hb.1];exact U a j),fun s hs=>?_,fun t=>?_,fun a j=>?_⟩
     · rcases List.mem_append.1 hs with hs|hs
       · exact h.oF s (List.mem_append_left _ hs)
       · rw[List.mem_singleton.1 hs]
         have:=hx.1;have:=hx.2.1;have:=hy.1;have:=hy.2.1
         exact⟨by omega,by omega,by omega⟩
     · rw[mB.append,mB.append,<-h.Vp,mB.append]
       constructor
       · rintro(k|⟨s,hs,k⟩)
         · exact .inl (.inl k)
         · rw[List.mem_singleton.1 hs]at k
           rcases Int.le_total t y.hQ with q|q
           · exact .inl (.inr ⟨y,by simp,by omega,q⟩)
           · by_cases ab:t<=y.hQ
             · exact .inl (.inr ⟨y,by simp,by omega,ab⟩)
             · exact .inr ⟨x,by simp,by omega,by omega⟩
       · rintro((k|⟨s,hs,k⟩)|⟨s,hs,k⟩)
         · exact .inl k
         · rw[List.mem_singleton.1 hs]at k;exact .inr ⟨both y x,by simp,by omega,by omega⟩
         · rw[List.mem_singleton.1 hs]at k;exact .inr ⟨both y x,by simp,by omega,by omega⟩
     · rcases List.mem_append.1 j with j|j
       · obtain⟨b,C,e⟩:=h.low a (List.mem_append_left _ j)
         exact⟨b,List.mem_append_left _ C,e⟩
       · rw[List.mem_singleton.1 j]
         obtain⟨b,C,e⟩:=h.low y (by simp)
         exact⟨b,List.mem_append_left _ C,by omega⟩
   · rename_i I
     have aa:y.hQ+1<x.h_:=by
      have:¬x.h_<=gD .i64 (y.hQ+1):=fun k=>I (.inr k)
      rw[hw]at this;omega
     refine⟨h.canon.snoc hx.2.2 fun a j=>?_,fun s hs=>?_,fun t=>?_,fun a j=>?_⟩
     · rcases List.mem_append.1 j with j|j
       · have:=U a j;omega
       · rw[List.mem_singleton.1 j];exact aa
     · rcases List.mem_append.1 hs with hs|hs
       · exact h.oF s hs
       · rw[List.mem_singleton.1 hs];exact hx
     · rw[mB.append (l:=o++[y]),mB.append (l:=l),h.Vp]
     · rcases List.mem_append.1 j with j|j
       · obtain⟨b,C,e⟩:=h.low a j
         exact⟨b,List.mem_append_left _ C,e⟩
       · exact⟨x,by simp,by rw[List.mem_singleton.1 j]⟩
theorem SJ:∀(k:List fT),BH k->k.Pairwise (fun a b=>a.h_<=b.h_)->∀(l J:List fT),QJ J l->(∀a∈l,∀b∈k,a.h_<=b.h_)->QJ (k.foldl th J) (l++k)
 |[],_,_,l,J,h,_=>by rw[List.append_nil];exact h
 |x::k,hg,hp,l,J,h,hl=>by
  rw[List.foldl_cons,show l++x::k=(l++[x])++k by simp]
  refine SJ k (fun s hs=>hg s (List.mem_cons_of_mem _ hs)) (List.pairwise_cons.1 hp).2 _ _ (SI h (hg x (List.mem_cons_self ..)) fun b hb=>hl b hb x (List.mem_cons_self ..)) fun a j b hb=>?_
  rcases List.mem_append.1 j with j|j
  · exact hl a j b (List.mem_cons_of_mem _ hb)
  · rw[List.mem_singleton.1 j];exact(List.pairwise_cons.1 hp).1 b hb
theorem NL{x y:fT}(h:(!(decide (wu y x<0)))=true):x.h_<=y.h_/\(x.h_=y.h_->x.hQ<=y.hQ):=by
 have h:¬wu y x<0:=by simpa using h
 unfold wu uA jj at h
 split at h<;>split at h<;>(try split at h)<;>(try split at h)<;>(try split at h)<;>omega
theorem Fb{x y:fT}(h:x.h_<=y.h_/\(x.h_=y.h_->x.hQ<=y.hQ)):(!(decide (wu y x<0)))=true:=by
 have:¬wu y x<0:=by
  unfold wu uA jj
  split<;>split<;>(try split)<;>(try split)<;>(try split)<;>omega
 simpa using this
theorem QK(l:List fT):(wO l).Pairwise fun a b=>a.h_<=b.h_:=by
 have:=List.pairwise_mergeSort (le:=fun x y=>!(decide (wu y x<0))) (fun a b c h1 h2=>by
  have j:=NL h1;have o:=NL h2
  exact Fb ⟨by omega,fun e=>by have:=j.2 (by omega);have:=o.2 (by omega);omega⟩) (fun a b=>by
  rw[Bool.or_eq_true]
  rcases Int.lt_trichotomy a.h_ b.h_ with k|k|k
  · exact .inl (Fb ⟨by omega,fun e=>by omega⟩)
  · rcases Int.le_total a.hQ b.hQ with q|q
    · exact .inl (Fb ⟨by omega,fun _=>q⟩)
    · exact .inr (Fb ⟨by omega,fun _=>q⟩)
  · exact .inr (Fb ⟨by omega,fun e=>by omega⟩)) l
 exact this.imp fun h=>(NL h).1
theorem Bi{l:List fT}(h:BH l):Canon (wa l)/\BH (wa l)/\∀t,mB (wa l) t↔mB l t:=by
 have hp:=List.mergeSort_perm l fun x y=>!(decide (wu y x<0))
 have hm:∀s,s∈wO l↔s∈l:=fun s=>hp.mem_iff
 have:=SJ (wO l) (fun s hs=>h s ((hm s).1 hs)) (QK l) [] [] ⟨trivial,fun s h=>(by cases h),fun t=>Iff.rfl,fun a h=>by cases h⟩ (fun a h=>by cases h)
 rw[List.nil_append]at this
 refine⟨this.canon,this.oF,fun t=>(this.Vp t).trans ⟨fun⟨s,hs,k⟩=>⟨s,(hm s).1 hs,k⟩,fun⟨s,hs,k⟩=>⟨s,(hm s).2 hs,k⟩⟩⟩
end
end Sw
namespace Sw
noncomputable section
open Go Go.RowKit
def u5:List (List fT)->Int->Prop
 |[],t=>t=0
 |y::W,t=>∃u v,mB y u/\u5 W v/\t=u+v
theorem u5.append:∀{W V:List (List fT)} {t:Int},u5 (W++V) t↔∃u v,u5 W u/\u5 V v/\t=u+v
 |[],V,t=>⟨fun h=>⟨0,t,rfl,h,by omega⟩,fun⟨u,v,h1,h2,h3⟩=>by
   have h1:u=0:=h1
   rw[show t=v by omega];exact h2⟩
 |y::W,V,t=>by
  constructor
  · rintro ⟨u,v,h1,h2,rfl⟩
    obtain⟨a,b,h3,h4,rfl⟩:=u5.append.1 h2
    exact⟨u+a,b,⟨u,a,h1,h3,rfl⟩,h4,by omega⟩
  · rintro ⟨u,v,⟨a,b,h1,h2,rfl⟩,h3,rfl⟩
    exact⟨a,b+v,h1,u5.append.2 ⟨b,v,h2,h3,rfl⟩,by omega⟩
theorem u5.perm{W V:List (List fT)}(h:W.Perm V):∀{t:Int},u5 W t->u5 V t:=by
 induction h with
 |nil=>exact fun h=>h
 |cons x _ ih=>rintro t ⟨u,v,h1,h2,h3⟩;exact⟨u,v,h1,ih h2,h3⟩
 |swap x y l=>rintro t ⟨u,v,h1,⟨a,b,h2,h3,rfl⟩,rfl⟩;exact⟨a,u+b,h2,⟨u,b,h1,h3,rfl⟩,by omega⟩
 |trans _ _ i1 i2=>exact fun h=>i2 (i1 h)
theorem Pg{s u:fT}(hs:tS s)(hu:tS u):(Ai s u).h_=s.h_+u.h_/\(Ai s u).hQ=s.hQ+u.hQ:=by
 have h1:=hs.1;have h2:=hs.2.1;have h3:=hs.2.2;have h4:=hu.1;have j:=hu.2.1;have o:=hu.2.2
 exact⟨JJ (by omega) (by omega),JJ (by omega) (by omega)⟩
theorem UF{A B:List fT}(j:BH A)(o:BH B)(t:Int):mB (tG A B) t↔∃u v,mB A u/\mB B v/\t=u+v:=by
 constructor
 · rintro ⟨x,hx,h1,h2⟩
   obtain⟨s,hs,hx⟩:=List.mem_flatMap.1 hx
   obtain⟨u,hu,rfl⟩:=List.mem_map.1 hx
   have e:=Pg (j s hs) (o u hu)
   have C:=(j s hs).2.2;have I:=(o u hu).2.2
   by_cases q:t-u.h_<=s.hQ
   · exact⟨t-u.h_,u.h_,⟨s,hs,by omega,q⟩,⟨u,hu,Int.le_refl _,I⟩,by omega⟩
   · exact⟨s.hQ,t-s.hQ,⟨s,hs,C,Int.le_refl _⟩,⟨u,hu,by omega,by omega⟩,by omega⟩
 · rintro ⟨a,b,⟨s,hs,h1,h2⟩,⟨u,hu,h3,h4⟩,rfl⟩
   have e:=Pg (j s hs) (o u hu)
   exact⟨Ai s u,List.mem_flatMap.2 ⟨s,hs,List.mem_map.2 ⟨u,hu,rfl⟩⟩,by omega,by omega⟩
theorem Ah.oF{W:List (List fT)}(h:Ah W){y:List fT}(hy:y∈W):BH y:=fun s hs=>h.2 y hy s hs
def JK(y:List fT):Prop:=Canon y/\BH y
theorem MO.Fc{A B l:List fT}(h:MO A B l):JK l/\∀t,mB l t↔∃u v,mB A u/\mB B v/\t=u+v:=by
 obtain⟨rfl,_,h3,h4⟩:=h
 have a:=Bi (h3.oF (y:=A) (by simp))
 have b:=Bi (h3.oF (y:=B) (by simp))
 have p:=Bi h4
 refine⟨⟨p.1,p.2.1⟩,fun t=>(p.2.2 t).trans ((UF a.2.1 b.2.1 t).trans ?_)⟩
 simp only[a.2.2,b.2.2]
theorem Ij.Fc{A B l:List fT}(h:Ij A B l):JK l/\∀t,mB l t↔mB A t\/mB B t:=by
 obtain⟨rfl,_,h3⟩:=h
 have p:=Bi (l:=A++B) fun s hs=>by
  rcases List.mem_append.1 hs with hs|hs
  · exact h3.oF (y:=A) (by simp) s hs
  · exact h3.oF (y:=B) (by simp) s hs
 exact⟨⟨p.1,p.2.1⟩,fun t=>(p.2.2 t).trans mB.append⟩
theorem uD.Fc{W:List (List fT)}{X:List fT}(h:uD W X)(j:∀y∈W,JK y):JK X/\∀t,mB X t↔u5 W t:=by
 induction h with
 |one x=>exact⟨j x (by simp),fun t=>⟨fun h=>⟨t,0,h,rfl,by omega⟩,fun⟨u,v,h1,h2,h3⟩=>by
   have h2:v=0:=h2
   rw[show t=u by omega];exact h1⟩⟩
 |@snoc W J y J' _ o ih=>
  have i:=ih fun y hy=>j y (List.mem_append_left _ hy)
  have a:=o.Fc
  refine⟨a.1,fun t=>(a.2 t).trans (Iff.trans ?_ u5.append.symm)⟩
  constructor
  · rintro ⟨u,v,h1,h2,rfl⟩;exact⟨u,v,(i.2 u).1 h1,⟨v,0,h2,rfl,by omega⟩,rfl⟩
  · rintro ⟨u,v,h1,⟨a,b,h2,h3,rfl⟩,rfl⟩
    have h3:b=0:=h3
    exact⟨u,a,(i.2 u).2 h1,h2,by omega⟩
theorem Wp{K:kM}{w:Nat}{x:i_}(h:Ah [pS K (wo x w)]):JK (wT K w x)/\∀t,mB (wT K w x) t↔mB (pS K (wo x w)) t:=by
 have p:=Bi (h.oF (y:=pS K (wo x w)) (by simp))
 exact⟨⟨p.1,p.2.1⟩,p.2.2⟩
theorem sum_empty{W:List (List fT)}(h:[]∈W){t:Int}:¬u5 W t:=by
 induction W generalizing t with
 |nil=>cases h
 |cons y W ih=>
  rintro ⟨u,v,h1,h2,_⟩
  rcases List.mem_cons.1 h with rfl|h
  · exact mB.nil h1
  · exact ih h h2
theorem u4.Fc{K:kM}{M:List i_}(o:M≠[]){l:List Nat}{S:List fT}{p:Bool}(h:u4 K M l S p):JK S/\(∀t,mB S t↔∃w∈l,u5 (M.map (wT K w)) t)/\p=l.any fun w=>M.any (NF w):=by
 induction h with
 |nil=>exact⟨⟨trivial,fun s h=>by cases h⟩,fun t=>⟨fun h=>absurd h mB.nil,fun⟨w,h,_⟩=>by cases h⟩,rfl⟩
 |@skip l S p w _ he ih=>
  obtain⟨i1,i2,i3⟩:=ih
  refine⟨i1,fun t=>(i2 t).trans ⟨fun⟨w,h1,h2⟩=>⟨w,List.mem_append_left _ h1,h2⟩,fun⟨w',h1,h2⟩=>?_⟩,by rw[List.any_append,<-i3];simp⟩
  rcases List.mem_append.1 h1 with h1|h1
  · exact⟨w',h1,h2⟩
  · rw[List.mem_singleton.1 h1]at h2
    obtain⟨x,hx,e⟩:=he
    exact absurd h2 (sum_empty (e▸List.mem_map.2 ⟨x,hx,rfl⟩))
 |@add l S X S' p w _ jG j hf hu ih=>
  obtain⟨i1,i2,i3⟩:=ih
  have f:uD (M.map (wT K w)) X:=by
   rcases hf with⟨h,_⟩|h
   · exact absurd (List.map_eq_nil_iff.1 h) o
   · exact h
  have n:=f.Fc fun y hy=>by
   obtain⟨x,hx,rfl⟩:=List.mem_map.1 hy
   exact(Wp (j x hx)).1
  have u:=hu.Fc
  refine⟨u.1,fun t=>(u.2 t).trans ?_,by rw[List.any_append,<-i3];simp⟩
  rw[i2,n.2]
  constructor
  · rintro(⟨w',h1,h2⟩|h)
    · exact⟨w',List.mem_append_left _ h1,h2⟩
    · exact⟨w,by simp,h⟩
  · rintro ⟨w',h1,h2⟩
    rcases List.mem_append.1 h1 with h1|h1
    · exact .inl ⟨w',h1,h2⟩
    · rw[List.mem_singleton.1 h1]at h2;exact .inr h2
theorem u4.same{K:kM}{M j:List i_}(o:M≠[])(hp:M.Perm j){l:List Nat}{S S':List fT}{p I:Bool}(h:u4 K M l S p)(J:u4 K j l S' I):S=S'/\p=I:=by
 have C:j≠[]:=fun e=>o (List.Perm.eq_nil (e▸hp))
 obtain⟨ab,n2,ad⟩:=h.Fc o
 obtain⟨R,U,aa⟩:=J.Fc C
 refine⟨ab.1.eq R.1 fun t=>(n2 t).trans (Iff.trans ?_ (U t).symm),?_⟩
 · exact⟨fun⟨w,a,b⟩=>⟨w,a,b.perm (hp.map _)⟩,fun⟨w,a,b⟩=>⟨w,a,b.perm (hp.symm.map _)⟩⟩
 · rw[ad,aa]
   congr 1;funext w
   rw[Bool.eq_iff_iff,List.any_eq_true,List.any_eq_true]
   exact⟨fun⟨x,a,b⟩=>⟨x,hp.mem_iff.1 a,b⟩,fun⟨x,a,b⟩=>⟨x,hp.mem_iff.2 a,b⟩⟩
theorem QL{M j:List i_}(h:(M.map some).Perm (j.map some)):M.Perm j:=by
 have e:∀l:List i_,(l.map some).filterMap id=l:=by
  intro l
  induction l with
  |nil=>rfl
  |cons x l ih=>rw[List.map_cons,List.filterMap_cons];simp only[id,ih]
 have:=h.filterMap id
 rwa[e,e]at this
def FF(r s:oT):Prop:=r.fZ.l.Perm s.fZ.l/\s.iX=r.iX/\s.uh=r.uh
theorem FF.check{C:j7}{r s:oT}(h:FF r s):ni C s=ni C r:=by
 have e1:Bf C s↔Bf C r:=by unfold Bf;rw[h.2.1,h.2.2,h.1.length_eq]
 have e2:uF s.fZ.l↔uF r.fZ.l:=by
  unfold uF;rw[h.1.nodup_iff]
  exact and_congr ⟨fun k b hb=>k b (h.1.mem_iff.1 hb),fun k b hb=>k b (h.1.mem_iff.2 hb)⟩ Iff.rfl
 unfold ni
 rw[propext e1,propext e2]
theorem UG{C:j7}{F:kU}{r:oT}{M:List i_}(hc:ni C r=0)(j:M.map some=r.fZ.l.map (wE F)):M≠[]:=by
 rintro rfl
 have h1:=(II hc).1.1.1
 have h2:r.fZ.l=[]:=List.map_eq_nil_iff.1 j.symm
 rw[h2]at h1;simp at h1
theorem Kw{C:j7}{F:kU}{r s:oT}{T U:tN}{z y:Int}(h:FF r s)(hT:zt C F r T z)(R:zt C F s U y):
 ((z≠0\/y≠0)->((((z=y\/z=2)\/y=2)\/z=10)\/y=10))/\(¬(z≠0\/y≠0)->(T.kl=U.kl/\T.o4.l=U.o4.l)):=by
 have hc:=h.check (C:=C)
 cases hT with
 |pQ h1 _=>
  cases R with
  |pQ j _=>exact⟨fun _=>.inl (.inl (.inl (.inl hc.symm))),fun k=>absurd (.inl h1) k⟩
  |Pd j=>exact absurd (hc.symm.trans j) h1
  |find j=>exact absurd (hc.symm.trans j) h1
  |lim j=>exact absurd (hc.symm.trans j) h1
  |ok j=>exact absurd (hc.symm.trans j) h1
 |Pd h1 h2 _=>
  cases R with
  |pQ j _=>exact absurd (hc.trans h1) j
  |Pd j o _=>exact⟨fun _=>.inl (.inl (.inl (.inl rfl))),fun k=>absurd (.inl (by decide)) k⟩
  |find j o=>exact absurd o h2
  |lim j o=>exact absurd o h2
  |ok j o=>exact absurd o h2
 |find h1 h2 h3 h4 _=>
  cases R with
  |pQ j _=>exact absurd (hc.trans h1) j
  |Pd j o=>exact absurd h2 o
  |find j o I J=>exact⟨fun _=>.inl (.inl (.inl (.inl rfl))),fun k=>absurd (.inl (by decide)) k⟩
  |lim j o I=>exact absurd h4 (I _ (h.1.mem_iff.1 h3))
  |ok j o I=>exact absurd h4 (Hi I _ (h.1.mem_iff.1 h3))
 |lim h1 h2 h3 h4 _=>
  refine⟨fun _=>?_,fun k=>absurd (.inl (by omega)) k⟩
  rcases h4 with h4|h4<;>simp[h4]
 |@ok M h1 h2 h3 h4=>
  cases R with
  |pQ j _=>exact absurd (hc.trans h1) j
  |Pd j o=>exact absurd h2 o
  |find j o I J=>exact absurd J (Hi h3 _ (h.1.mem_iff.2 I))
  |lim j o I J _=>
   refine⟨fun _=>?_,fun k=>absurd (.inr (by omega)) k⟩
   rcases J with J|J<;>simp[J]
  |@ok aa j o I J=>
   have hp:M.Perm aa:=QL (by rw[h3,I];exact h.1.map _)
   have e:=h4.same (UG h1 h3) hp J
   exact⟨fun k=>by omega,fun _=>⟨e.2,e.1⟩⟩
theorem swap_perm{l:List Int}{i k:Nat}{x y:Int}(hi:l[i]?=some x)(hk:l[k]?=some y):l.Perm ((l.set i y).set k x):=by
 obtain⟨j,rfl⟩:=List.getElem?_eq_some_iff.1 hi
 obtain⟨o,rfl⟩:=List.getElem?_eq_some_iff.1 hk
 exact(List.set_set_perm j o).symm
end
end Sw
namespace Sw
noncomputable section
open Go Go.RowKit
section
variable {e:Env}{fm:Fm}{to:Tm}{ds:List Deferred}{hp:Ht}{nx:Nat}{gW:List Nat}{Q:St->Prop}{all:List Oper}{d:Tmp}{ty:TypeId}{pos:String}{j1:Array Edge}
theorem WC.SK{α:Type}{enc:α->List Value}{st xt el:TypeId}{x y:Operand}{n o:Nat}{z w:Value}{inf:TypeInfo}{m0:gl}(j:List α)(hl:e.low=0)(hx:(aaj x).run to=.slice (some ⟨o,0,none⟩) 0 0)(hy:(aaj y).run to=w)
 (hb:hp.get o=some (.cells [] m0)) (ab:m0.mu=none) (hu:e.T.ji st=some (.slice el)) (hs:e.T.size el=some n) (af:e.T.zero el=some z) (hi:e.T.info el=some inf)
 (ad:pn e.T xt w=some (j.length,false)) (J:lK hp.get (j.length*n) w=some (j.flatMap enc)) (R:tZ n w=true) (I:(j.flatMap enc).all one=true) (h0:0<j.length)
 (b1:j.length*inf.bytes<=70368744177664) (b2:inf.bytes<=1073741824) (ag:j.length<=70368744177664)
 {qP:Array TypeId} (ae:qP=#[st,xt]) (q:∀fe,HE nx hp fe->td enc n nx (nx+1) nx fe (nx+2) j->Q ⟨to.set d (.slice (some ⟨nx+1,0,none⟩) j.length j.length),ds,fe,nx+2,gW⟩):
 WC e fm (iH all ⟨some d,.call {callee:=.builtin .append,args:=#[x,y],argTypes:=qP},ty,pos,j1,none⟩) ⟨to,ds,hp,nx,gW⟩ Q:=by
 subst ae
 have C:Nat.ble (0+j.length) 0=false:=by
  cases hb:Nat.ble (0+j.length) 0 with
  |false=>rfl
  |true=>have:=Nat.le_of_ble_eq_true hb;omega
 have e1:jZ e.T hp.get st xt (.slice (some ⟨o,0,none⟩) 0 0) w nx=some (.slice (some ⟨nx+1,0,none⟩) j.length j.length,[(nx,some (jM.group [⟨nx+1,0,(j.flatMap enc).length⟩])),(nx+1,some (jM.cells (j.flatMap enc) ⟨false,some nx,0,n⟩))],2):=by
  have U:Nat.ble ((0+j.length)*inf.bytes) 70368744177664=true:=Nat.ble_eq_true_of_le (by rw[Nat.zero_add];exact b1)
  have aa:Nat.ble (0+j.length) 70368744177664=true:=Nat.ble_eq_true_of_le (by omega)
  simp only[jZ,hu,hs,af,hi,ad,ml,cond_false,R,cond_true,J,Option.bind_some,I,U,Nat.ble_eq_true_of_le b2,aa,Bool.and_true,C]
  rw[s9,Nat.zero_mul,hb]
  simp only[ym,Option.bind_some,ab,Nat.zero_add,List.nil_append]
 refine .Mk d (jZ e.T hp.get st xt (.slice (some ⟨o,0,none⟩) 0 0) w nx) hl (fun _ _ _=>?_) e1 (q _ ((HE.set _ _ (Nat.le_refl _)).trans (HE.set _ _ (Nat.le_succ _)) (Nat.le_refl _)) ?_)
 · rw[<-hx,<-hy];rfl
 · refine⟨Tr.hY ..,⟨_,(Tr.gC _ _ (by omega)).trans (Tr.hY ..),fun e he=>?_⟩,by omega,by omega,by omega,Nat.le_refl _⟩
   rw[List.mem_singleton.1 he]
   refine⟨by simp,by show nx<=nx+1;omega,by show nx+1<nx+2;omega,by show nx+1≠nx;omega,fun l hl=>?_⟩
   have:=hl.symm.trans (Tr.hY ..)
   cases this
end
end
end Sw
namespace Sw
noncomputable section
open Go Go.Proofs Go.RowKit
set_option maxRecDepth 100000
set_option maxHeartbeats 1600000
theorem UH:ex.T.zero 44=some (.agg ⟨[.slice none (0) 0,iN 0,iN 0]⟩):=kr
theorem K4(pP:x_)(qt:wh)(cN:y5)(C:j7)(F:kU)(r:oT)(i k:Int)(hp:Ht)(nx:Nat)(bA:oJ hp nx C)(ch:ny hp nx F)(hr:ui hp nx r)(hlen:C.nH.l.length<=2932031007403)(bW:∀(fe:Ht) (fg:Nat),nx<=fg->HE nx hp fe->WF ex 5 [] fe fg (fO fg fe (gk True))):WF ex 3 [.agg (iz C).toArray,.agg (iK F).toArray,.agg (lV r).toArray,iN i,iN k] hp nx (fO nx hp (gk True)):=by
 refine wd Tryz.f3 129 [.tmp 10] fun hE=>sr<|oB (.agg (iz C).toArray) (iz C) fun jN iY iA=>?_
 refine oB (.agg (iK F).toArray) (iK F) fun dH bG ck=>?_
 refine oB (.agg (lV r).toArray) (lV r) fun cp jQ cm=>?_
 have bB:=((hE.trans iY).trans bG).trans jQ
 refine oN 1<|WP.seq<|sr<|oD 16 (bW cp (nx+1+1+1) om bB) fun dA cR cr cu du aJ=>?_
 have bC:=bB.trans aJ
 have uq:=aJ.get (jQ.get (bG.get iA))
 refine oq 17 (Sw.nN cR) fun dB cS=>WO.nil<|cq cS (fun b6=>?_) (fun b6=>?_)
 ·
  refine sr<|oW 1 ⟨rfl,rfl,[.bool false],kr,?_⟩
  simp at b6
 ·
  refine WP.skip<|WP.seq<|sr<|WO.cons (WC.jb nx (0) (iz C) kr wk uw uq rfl<|WO.cons (WC.call 19 6 ([.agg (iz C).toArray]) kf ((M1 C cr (cu) (bA.mono bC)).mono ?_)))
  rintro _ bH bI ⟨⟨bz,rfl,dy⟩,dv,aK⟩
  have cT:bz=true↔(bz=true):=Iff.rfl
  have bD:=bC.trans aK
  have bE:=aK.get (aJ.get (jQ.get ck))
  refine oq 20 (Sw.nN cT) fun aw b5=>oX 1<|zQ 21 aw (.agg (iK F).toArray) (by rintro rfl;exact WC.jb (nx+1) (0) (iK F) kr vZ uk bE rfl rfl)<|WO.cons (WC.gq (!aw) (GI (!aw) (Vj F) (bI) bH) (.bool aw) (g:=aaj (.tmp 21)) rfl kr (by cases aw<;>rfl) (fun h=>by obtain rfl:aw=false:=(by simpa using h);have dz:¬(¬(bz=true)):=(fun k=>absurd ((b5).2 k) (by decide));exact WC.call 23 7 ([.agg (iK F).toArray]) kf ((TP F bH (bI) (ch.mono bD)).mono fun v fe fg ⟨⟨c,ct,hc⟩,hn,he⟩=>⟨_,_,_,rfl,⟨c,ct,hc⟩,hn,he⟩)) (fun h=>GI.off h) ?_)
  rintro _ um kh ⟨⟨O9,rfl,cM⟩,M7,qu⟩
  have Iu:O9=true↔(O9=true):=Iff.rfl
  have uo:=bD.trans qu
  have ax:=qu.get (aK.get (aJ.get cm))
  refine mX 21 aw (Sw.nN Iu) fun zj ES=>?_
  refine mj 25 (Sw.nO b5 ES) fun ET Ba=>oX 1<|gF 26 ET (pt (nx+1+1) 0) ?_
  obtain⟨aS,aT,az⟩:=hr.fZ.shape
  have df:=hr.fZ.2.2
  refine pj 26 ET (nx+1+1) 0 (.slice aS (r.fZ.l.length) aT) kq ax (by rw[<-az];rfl)<|gF 26 ET (iN (.ofNat (r.fZ.l.length))) ?_
  refine mX 26 ET (nc 20 r.fZ.l.length) fun jB cU=>?_
  refine mj 31 (Sw.nO Ba cU) fun bX cV=>oX 1<|gF 32 bX (iN i) ?_
  refine mX 32 bX (nz i 0) fun dC cW=>?_
  refine mj 35 (Sw.nO cV cW) fun bY cX=>oX 1<|gF 36 bY (iN k) ?_
  refine mX 36 bY (nz k 0) fun dD cY=>?_
  refine mj 39 (Sw.nO cX cY) fun aU cZ=>oX 1<|gF 40 aU (iN i)<|gF 40 aU (pt (nx+1+1) 0)<|pj 40 aU (nx+1+1) 0 (.slice aS (r.fZ.l.length) aT) kq ax (by rw[<-az];rfl)<|gF 40 aU (iN (.ofNat (r.fZ.l.length))) ?_
  refine mX 40 aU (EH r.fZ.l.length i) fun dE c0=>?_
  refine mj 46 (Sw.nO cZ c0) fun aV c3=>oX 1<|gF 47 aV (iN k)<|gF 47 aV (pt (nx+1+1) 0)<|pj 47 aV (nx+1+1) 0 (.slice aS (r.fZ.l.length) aT) kq ax (by rw[<-az];rfl)<|gF 47 aV (iN (.ofNat (r.fZ.l.length))) ?_
  refine mX 47 aV (EH r.fZ.l.length k) fun dF c5=>?_
  refine mj 53 (Sw.nO c3 c5) fun dG c6=>WO.nil<|cq c6 (fun b7=>?_) (fun b7=>?_)
  ·
   refine sr<|oW 1 ⟨rfl,rfl,[.bool true],kr,?_⟩
   exact⟨⟨true,rfl,fun _=>trivial,fun _=>rfl⟩,od,uo⟩
  ·
   refine WP.skip<|sr ?_
   have cO:=b7
   obtain⟨i0,ay⟩:∃i0:Nat,i=.ofNat i0:=⟨i.toNat,(Int.toNat_of_nonneg om).symm⟩
   obtain⟨k0,al⟩:∃k0:Nat,k=.ofNat k0:=⟨k.toNat,(Int.toNat_of_nonneg om).symm⟩
   have dr:i0<r.fZ.l.length:=by have h1:((i0:Nat):Int)=i:=ay.symm;omega
   have dt:k0<r.fZ.l.length:=by have h1:((k0:Nat):Int)=k:=al.symm;omega
   have b4:∀r∈F.fL.l,GS r<=60:=fun r hr=>(((cM) (Classical.not_not.1 (fun h=>cO (.inl (.inl (.inl (.inl (.inl (.inr h))))))))).each r hr).2.2
   refine WO.cons (WC.jb (nx+1+1) (0) (lV r) kr FE Bh ax rfl<|oA [.slice none (0) 0,iN 0,iN 0] UH fun dx aL cn=>?_)
   refine oS kh (0) (.agg (lV r).toArray) (lV r) (lV r) Bh rfl (Bool.and_eq_true_iff.2 ⟨rfl,Mt _ hr⟩) cn fun c_ bP bK aN=>?_
   refine WO.nil<|sr<|oL [] fun da ah bL=>?_
   have aY:=((uo.trans aL).trans bP).trans ah
   have a8:=ah.get ((aN (nx+1+1) om).trans (aL.get ax))
   refine oX 1<|oZ (nx+1+1) 0 (.slice aS (r.fZ.l.length) aT) kq a8 (by rw[<-az];rfl) ?_
   obtain⟨inf,pa,uY⟩:=JG
   obtain⟨nA,dw⟩:∃q,q=kh+1+1:=⟨_,rfl⟩
   refine WO.cons (WC.SK (enc:=encI) (w:=.slice aS (r.fZ.l.length) aT) r.fZ.l rfl kr kr bL rfl lD kj Ay pa (NA rfl) ((hr.fZ.mono aY nR).src az) rfl (Dx _) om (by rw[uY];omega) om om rfl ?_)
   intro dI aW cf
   refine oX 1<|oS kh 0 (.slice (some ⟨kh+1+1+1,0,none⟩) (r.fZ.l.length) r.fZ.l.length) [.slice (some ⟨kh+1+1+1,0,none⟩) (r.fZ.l.length) r.fZ.l.length,iN r.iX,iN r.uh] [.slice (some ⟨kh+1+1+1,0,none⟩) (r.fZ.l.length) r.fZ.l.length] tB rfl rfl (aW.get (ah.get bK)) fun bh bQ o ar=>?_
   refine WO.nil<|WP.seq<|WP.sM [⟨[0,1,2,3,4,5,6,7,8,9,10,11,12,13,14,15,16],[0,1,2,3,4,5,6,7,8,9,10,11,12,13,14,15,16],some 17⟩,⟨[18],[3,4,5,18],some 19⟩,⟨[],[],none⟩] kr _ rfl<|WD.ln ?_
   have j:=cf.r_ (fun q cO=>ar q om)
   refine nv 60 (pt kh 0)<|WN.ic rfl (WC.jX kh 0 (.slice (some ⟨kh+1+1+1,0,none⟩) (r.fZ.l.length) r.fZ.l.length) kr kq o rfl<|nv 62 (iN (.ofNat i0)) ?_ (fun _ _ _=>by rw[<-ay];kernel_rfl))
   refine nv 63 (pt kh 0)<|WN.ic rfl (WC.jX kh 0 (.slice (some ⟨kh+1+1+1,0,none⟩) (r.fZ.l.length) r.fZ.l.length) kr kq o rfl<|nv 65 (iN (.ofNat k0)) ?_ (fun _ _ _=>by rw[<-al];kernel_rfl))
   refine nv 66 (pt kh 0)<|WN.ic rfl (WC.jX kh 0 (.slice (some ⟨kh+1+1+1,0,none⟩) (r.fZ.l.length) r.fZ.l.length) kr kq o rfl<|nv 68 (iN (.ofNat k0)) ?_ (fun _ _ _=>by rw[<-al];kernel_rfl))
   have I:k0<r.fZ.l.length:=by omega
   refine WN.ic rfl (WC.ix (k:=.i64) (some ⟨kh+1+1+1,0,none⟩) (r.fZ.l.length) r.fZ.l.length (k0) 1 kr kr lD kj ((j.sh (N:=r.fZ.l.length) (c:=r.fZ.l.length) (fun _ _=>rfl) rfl om om).ue rfl (zl ((Nat.lt_of_lt_of_eq I rfl.symm)))) (I) ?_)
   obtain⟨aA,aP⟩:=gE ((Nat.lt_of_lt_of_eq I rfl.symm))
   refine WN.ic rfl (WC.sC (gb (some ⟨kh+1+1+1,0,none⟩)) (0+(k0)*1) (iN aA) kr fP ((j.sh (N:=r.fZ.l.length) (c:=r.fZ.l.length) (fun _ _=>rfl) rfl om om).pq rfl (zl ((Nat.lt_of_lt_of_eq I rfl.symm)))) (yD (j.sh (N:=r.fZ.l.length) (c:=r.fZ.l.length) (fun _ _=>rfl) rfl om om).1 aP rfl)<|nv 71 (pt kh 0)<|WN.ic rfl (WC.jX kh 0 (.slice (some ⟨kh+1+1+1,0,none⟩) (r.fZ.l.length) r.fZ.l.length) kr kq o rfl<|nv 73 (iN (.ofNat i0)) ?_ (fun _ _ _=>by rw[<-ay];kernel_rfl)))
   have J:i0<r.fZ.l.length:=by omega
   refine WN.ic rfl (WC.ix (k:=.i64) (some ⟨kh+1+1+1,0,none⟩) (r.fZ.l.length) r.fZ.l.length (i0) 1 kr kr lD kj ((j.sh (N:=r.fZ.l.length) (c:=r.fZ.l.length) (fun _ _=>rfl) rfl om om).ue rfl (zl ((Nat.lt_of_lt_of_eq J rfl.symm)))) (J) ?_)
   obtain⟨aB,aQ⟩:=gE ((Nat.lt_of_lt_of_eq J rfl.symm))
   refine WN.ic rfl (WC.sC (gb (some ⟨kh+1+1+1,0,none⟩)) (0+(i0)*1) (iN aB) kr fP ((j.sh (N:=r.fZ.l.length) (c:=r.fZ.l.length) (fun _ _=>rfl) rfl om om).pq rfl (zl ((Nat.lt_of_lt_of_eq J rfl.symm)))) (yD (j.sh (N:=r.fZ.l.length) (c:=r.fZ.l.length) (fun _ _=>rfl) rfl om om).1 aQ rfl) ?_)
   have ad:i0<r.fZ.l.length:=by omega
   refine WN.ic rfl (WC.ix (k:=.i64) (some ⟨kh+1+1+1,0,none⟩) (r.fZ.l.length) r.fZ.l.length (i0) 1 kr kr lD kj ((j.sh (N:=r.fZ.l.length) (c:=r.fZ.l.length) (fun _ _=>rfl) rfl om om).ue rfl (zl ((Nat.lt_of_lt_of_eq ad rfl.symm)))) (ad)<|WN.nil ⟨?_,?_⟩)
   ·
    refine cv (pt kh 0) (iW ..)<|qe kh 0 (.slice (some ⟨kh+1+1+1,0,none⟩) (r.fZ.l.length) r.fZ.l.length) kq o rfl (qT ..)<|cv (iN (.ofNat i0)) (iQ ..) ?_ (fun _=>by rw[<-ay];kernel_rfl)
    refine cv (pt kh 0) (iW ..)<|qe kh 0 (.slice (some ⟨kh+1+1+1,0,none⟩) (r.fZ.l.length) r.fZ.l.length) kq o rfl (qT ..)<|cv (iN (.ofNat k0)) (iQ ..) ?_ (fun _=>by rw[<-al];kernel_rfl)
    refine cv (pt kh 0) (iW ..)<|qe kh 0 (.slice (some ⟨kh+1+1+1,0,none⟩) (r.fZ.l.length) r.fZ.l.length) kq o rfl (qT ..)<|cv (iN (.ofNat k0)) (iQ ..) ?_ (fun _=>by rw[<-al];kernel_rfl)
    refine co (.pointer (some ⟨(gb (some ⟨kh+1+1+1,0,none⟩)),0+(k0)*1,none⟩)) (lh ex.T 42 (.slice (some ⟨kh+1+1+1,0,none⟩) (r.fZ.l.length) r.fZ.l.length) (iN (.ofNat (k0)))) (oH (k:=.i64) lD kj ((j.sh (N:=r.fZ.l.length) (c:=r.fZ.l.length) (fun _ _=>rfl) rfl om om).ue rfl (zl ((Nat.lt_of_lt_of_eq I rfl.symm)))) (I)) (iW ..)<|co (iN aA) (kB ex.T bh.get 3 (.pointer (some ⟨(gb (some ⟨kh+1+1+1,0,none⟩)),0+(k0)*1,none⟩))) (uf fP ((j.sh (N:=r.fZ.l.length) (c:=r.fZ.l.length) (fun _ _=>rfl) rfl om om).pq rfl (zl ((Nat.lt_of_lt_of_eq I rfl.symm)))) (yD (j.sh (N:=r.fZ.l.length) (c:=r.fZ.l.length) (fun _ _=>rfl) rfl om om).1 aP rfl)) (iQ ..)<|cv (pt kh 0) (iW ..)<|qe kh 0 (.slice (some ⟨kh+1+1+1,0,none⟩) (r.fZ.l.length) r.fZ.l.length) kq o rfl (qT ..)<|cv (iN (.ofNat i0)) (iQ ..) ?_ (fun _=>by rw[<-ay];kernel_rfl)
    refine co (.pointer (some ⟨(gb (some ⟨kh+1+1+1,0,none⟩)),0+(i0)*1,none⟩)) (lh ex.T 42 (.slice (some ⟨kh+1+1+1,0,none⟩) (r.fZ.l.length) r.fZ.l.length) (iN (.ofNat (i0)))) (oH (k:=.i64) lD kj ((j.sh (N:=r.fZ.l.length) (c:=r.fZ.l.length) (fun _ _=>rfl) rfl om om).ue rfl (zl ((Nat.lt_of_lt_of_eq J rfl.symm)))) (J)) (iW ..)<|co (iN aB) (kB ex.T bh.get 3 (.pointer (some ⟨(gb (some ⟨kh+1+1+1,0,none⟩)),0+(i0)*1,none⟩))) (uf fP ((j.sh (N:=r.fZ.l.length) (c:=r.fZ.l.length) (fun _ _=>rfl) rfl om om).pq rfl (zl ((Nat.lt_of_lt_of_eq J rfl.symm)))) (yD (j.sh (N:=r.fZ.l.length) (c:=r.fZ.l.length) (fun _ _=>rfl) rfl om om).1 aQ rfl)) (iQ ..)<|co (.pointer (some ⟨(gb (some ⟨kh+1+1+1,0,none⟩)),0+(i0)*1,none⟩)) (lh ex.T 42 (.slice (some ⟨kh+1+1+1,0,none⟩) (r.fZ.l.length) r.fZ.l.length) (iN (.ofNat (i0)))) (oH (k:=.i64) lD kj ((j.sh (N:=r.fZ.l.length) (c:=r.fZ.l.length) (fun _ _=>rfl) rfl om om).ue rfl (zl ((Nat.lt_of_lt_of_eq ad rfl.symm)))) (ad)) (iW ..) ?_
    exact jh.nil
   refine WC.at rfl (WC.Mo (iN aA) aA rfl kr kr j (fun _ _=>rfl) (Nat.lt_of_lt_of_eq ad rfl.symm) kj rfl rfl rfl ?_)
   rintro db an ai
   have a_:=ai.get o
   obtain⟨bp,aE⟩:∃L',L'=r.fZ.l.set (i0) aA:=⟨_,rfl⟩
   rw[<-aE]at an
   have ag:bp.length=r.fZ.l.length:=by rw[aE,List.length_set]
   refine WD.ln ?_
   have ae:k0<r.fZ.l.length:=by omega
   refine WN.ic rfl (WC.ix (k:=.i64) (some ⟨kh+1+1+1,0,none⟩) (r.fZ.l.length) r.fZ.l.length (k0) 1 kr kr lD kj ((an.sh (N:=r.fZ.l.length) (c:=r.fZ.l.length) (fun _ _=>rfl) ag om om).ue rfl (zl ((Nat.lt_of_lt_of_eq ae ag.symm)))) (ae)<|WN.nil ⟨?_,?_⟩)
   ·
    refine cv (pt kh 0) (iW ..)<|qe kh 0 (.slice (some ⟨kh+1+1+1,0,none⟩) (r.fZ.l.length) r.fZ.l.length) kq a_ rfl (qT ..)<|cv (iN (.ofNat k0)) (iQ ..) ?_ (fun _=>by rw[<-al];kernel_rfl)
    refine co (.pointer (some ⟨(gb (some ⟨kh+1+1+1,0,none⟩)),0+(k0)*1,none⟩)) (lh ex.T 42 (.slice (some ⟨kh+1+1+1,0,none⟩) (r.fZ.l.length) r.fZ.l.length) (iN (.ofNat (k0)))) (oH (k:=.i64) lD kj ((an.sh (N:=r.fZ.l.length) (c:=r.fZ.l.length) (fun _ _=>rfl) ag om om).ue rfl (zl ((Nat.lt_of_lt_of_eq ae ag.symm)))) (ae)) (iW ..) ?_
    exact jh.nil
   refine WC.at rfl (WC.Mo (iN aB) aB rfl kr kr an (fun _ _=>rfl) (Nat.lt_of_lt_of_eq ae ag.symm) kj rfl rfl rfl ?_)
   rintro bj aX aj
   have ao:=(((aY.trans aW).trans bQ).trans ai).trans aj
   have bc:=aj.get (ai.get ((ar nx om).trans (aW.get (ah.get ((aN nx om).trans (aL.get (qu.get (aK.get uq))))))))
   have bd:=aj.get (ai.get ((ar (nx+1) om).trans (aW.get (ah.get ((aN (nx+1) om).trans (aL.get (qu.get bE)))))))
   obtain⟨au,aF⟩:∃L',L'=bp.set (k0) aB:=⟨_,rfl⟩
   rw[<-aF]at aX
   have bS:au.length=r.fZ.l.length:=by rw[aF,List.length_set];exact ag
   refine WD.last<|WN.nil ⟨?_,?_⟩
   ·
    exact jh.nil
   refine sr ?_
   have b3:FF r (⟨(⟨.slice (some ⟨kh+1+1+1,0,none⟩) (r.fZ.l.length) r.fZ.l.length,au⟩:SV Int),r.iX,r.uh⟩:oT):=⟨by show r.fZ.l.Perm au;rw[aF,aE];exact swap_perm aQ aP,rfl,rfl⟩
   have cj:=(aX.sh (N:=r.fZ.l.length) (c:=r.fZ.l.length) (fun _ _=>rfl) bS om om)
   refine WO.cons (WC.jb nx (0) (iz C) kr wk uw bc rfl<|WO.cons (WC.jb (nx+1) (0) (iK F) kr vZ uk bd rfl<|WO.cons (WC.jb (nx+1+1) (0) (lV r) kr FE Bh (aj.get (ai.get ((ar (nx+1+1) om).trans (aW.get a8)))) rfl<|WO.cons (WC.call 82 8 ([.agg (iz C).toArray,.agg (iK F).toArray,.agg (lV r).toArray]) kf ((NK pP qt cN C F r bj (kh+1+1+2) (bA.mono ao) (ch.mono ao) (hr.mono ao) hlen b4).mono ?_)))))
   rintro _ bU R ⟨T,z,rfl,a6,bZ,c7,ak⟩
   refine oX 3<|oA [iN 0,.slice none (0) 0,.bool false] Hj fun dc af bM=>?_
   refine oS R (0) (.agg (qB T).toArray) (qB T) (qB T) mS rfl (Bool.and_eq_true_iff.2 ⟨rfl,EF _ a6⟩) bM fun bk aG bN aO=>?_
   have aD:=((ao.trans ak).trans af).trans aG
   refine oN 1<|sr<|WO.cons (WC.jb nx (0) (iz C) kr wk uw ((aO nx om).trans (af.get (ak.get bc))) rfl<|WO.cons (WC.jb (nx+1) (0) (iK F) kr vZ uk ((aO (nx+1) om).trans (af.get (ak.get bd))) rfl<|WO.cons (WC.jb kh (0) [.slice (some ⟨kh+1+1+1,0,none⟩) (r.fZ.l.length) r.fZ.l.length,iN r.iX,iN r.uh] kr FE Bh ((aO kh om).trans (af.get (ak.get (aj.get a_)))) rfl<|WO.cons (WC.call 89 8 ([.agg (iz C).toArray,.agg (iK F).toArray,.agg ⟨[.slice (some ⟨kh+1+1+1,0,none⟩) (r.fZ.l.length) r.fZ.l.length,iN r.iX,iN r.uh]⟩]) (fun _ _ _=>by(try rw[rfl]);kernel_rfl) ((NK pP qt cN C F (⟨(⟨.slice (some ⟨kh+1+1+1,0,none⟩) (r.fZ.l.length) r.fZ.l.length,au⟩:SV Int),r.iX,r.uh⟩:oT) bk (R+1) (bA.mono aD) (ch.mono aD) (⟨(cj.mono ((((HE.refl (kh+1+1+2) bj).trans ak).trans af).trans aG))⟩:ui bk (R+1) (⟨(⟨.slice (some ⟨kh+1+1+1,0,none⟩) (r.fZ.l.length) r.fZ.l.length,au⟩:SV Int),r.iX,r.uh⟩:oT)) hlen b4).mono ?_)))))
   rintro _ bV ab ⟨U,y,rfl,a7,b0,c8,aH⟩
   refine oX 3<|oA [iN 0,.slice none (0) 0,.bool false] Hj fun dd aq bO=>?_
   refine oS ab (0) (.agg (qB U).toArray) (qB U) (qB U) mS rfl (Bool.and_eq_true_iff.2 ⟨rfl,EF _ a7⟩) bO fun bl aI bf bT=>?_
   have aZ:=((aD.trans aH).trans aq).trans aI
   have bg:=(bT R om).trans (aq.get (aH.get bN))
   refine oN 1<|WP.seq<|sr<|oX 1 ?_
   refine oq 93 (qW z 0) fun bq cw=>oX 1<|gF 94 bq (iN y) ?_
   refine mX 94 bq (qW y 0) fun dh cx=>?_
   refine mj 97 (Sw.nO cw cx) fun di cy=>WO.nil<|cq cy (fun aR=>?_) (fun aR=>?_)
   ·
    refine sr<|oX 2 ?_
    refine oq 100 (qp z y) fun br cz=>oX 1<|gF 101 br (iN z) ?_
    refine mX 101 br (qp z 2) fun dj cA=>?_
    refine mj 104 (Sw.nO cz cA) fun bs cB=>oX 1<|gF 105 bs (iN y) ?_
    refine mX 105 bs (qp y 2) fun dm cC=>?_
    refine mj 108 (Sw.nO cB cC) fun bt cD=>oX 1<|gF 109 bt (iN z) ?_
    refine mX 109 bt (qp z 10) fun dn cE=>?_
    refine mj 112 (Sw.nO cD cE) fun bu cF=>oX 1<|gF 113 bu (iN y) ?_
    refine mX 113 bu (qp y 10) fun dp cG=>?_
    refine mj 116 (Sw.nO cF cG) fun bw cH=>oW 1 ⟨rfl,rfl,[.bool bw],kr,?_⟩
    have aM:=Kw b3 bZ b0
    refine⟨⟨bw,rfl,fun _=>trivial,fun _=>(cH).2 ?_⟩,od,aZ⟩
    exact aM.1 aR
   ·
    refine WP.skip<|sr<|oX 1 ?_
    obtain⟨aC,cb,cI⟩:=@nb (T.kl) (T.kl=true) (by first|done|exact Iff.rfl)
    refine oZ R (0+2) (.bool aC) xT bg (by rw[cb];rfl)<|oX 1 ?_
    obtain⟨av,cc,cJ⟩:=@nb (U.kl) (U.kl=true) (by first|done|exact Iff.rfl)
    refine oZ ab (0+2) (.bool av) xT bf (by rw[cc];rfl) ?_
    obtain⟨aa,cd,bJ⟩:=@nb ((bif aC then av else !av)) ((T.kl=true)↔(U.kl=true)) (by rw[<-cI,<-cJ];cases aC<;>cases av<;>simp)
    refine ov 121 (.bool aa) ?_ (fun _ _ _=>by subst cd;cases aC<;>cases av<;>kernel_rfl)
    refine oX 1<|gT 122 aa (pt R (0+1)) ?_
    obtain⟨b8,b_,bn⟩:=a6.o4.shape
    have cP:=a6.o4.2.2
    refine lr 122 aa R (0+1) (.slice b8 (T.o4.l.length) b_) nM bg (by rw[<-bn];rfl)<|gT 122 aa (pt ab (0+1)) ?_
    obtain⟨b9,ca,bo⟩:=a7.o4.shape
    have cQ:=a7.o4.2.2
    refine lr 122 aa ab (0+1) (.slice b9 (U.o4.l.length) ca) nM bf (by rw[<-bo];rfl)<|WO.cons (WC.gq (aa) (GB (aa) (T.o4.l=U.o4.l) (ab+1) bl) (.bool aa) (g:=aaj (.tmp 122)) rfl kr (by cases aa<;>rfl) (fun h=>by obtain rfl:aa=true:=(by simpa using h);have dz:=(bJ).1 rfl;exact WC.call 127 9 ([T.o4.v,U.o4.v]) (fun _ _ _=>by(try rw[bn]);(try rw[bo]);kernel_rfl) ((MR T.o4 U.o4 bl (ab+1) (a6.o4.mono ((((((HE.refl (R) bU).trans af).trans aG).trans aH).trans aq).trans aI)) (a7.o4.mono (((HE.refl (ab) bV).trans aq).trans aI))).mono fun v fe fg ⟨⟨c,ct,hc⟩,hn,he⟩=>⟨_,_,_,rfl,⟨c,ct,hc⟩,hn,he⟩)) (fun h=>GB.off h) ?_)
    rintro _ de dg ⟨⟨dq,rfl,cK⟩,c9,bR⟩
    refine mI 128 (Sw.nA bJ cK) fun bx cL=>oW 1 ⟨rfl,rfl,[.bool bx],kr,?_⟩
    have aM:=Kw b3 bZ b0
    refine⟨⟨bx,rfl,fun _=>trivial,fun _=>(cL).2 ?_⟩,od,(aZ.trans bR)⟩
    exact⟨by rw[(aM.2 aR).1],(aM.2 aR).2⟩
end
end Sw
namespace Sw
noncomputable section
open Go Go.RowKit
section
variable {P:Program}{hp:Ht}{nx:Nat}
theorem Rp.JL{k:Nat}{t:TypeId}{ls:List Value}{ts:List TypeId}(hu:Bv P t=some ts)(h:Rp P hp nx k t ls):∃n lss,k=n+1/\ls=lss.flatten/\vY P hp nx n ts lss:=by
 cases k with
 |zero=>exact h.elim
 |succ n=>
  unfold Bv at hu
  unfold Rp at h
  split at hu
  · rename_i fs e
    cases hu
    rw[e]at h
    obtain⟨lss,h1,h2,h3⟩:=h
    refine⟨n,lss,rfl,h1,vY.of _ _ (by simpa using h2) fun i t l a b=>?_⟩
    rw[List.getElem?_map,Array.getElem?_toList,Option.map_eq_some_iff]at a
    obtain⟨f,hf,rfl⟩:=a
    exact(h3 i f l hf b).1
  · cases hu
theorem Rp.CP{α:Type}{enc:α->List Value}{m:Nat}{E:Nat->α->Prop}{k:Nat}{t e:TypeId}{ls:List Value}(hu:P.underlying t=some (.slice e))(hlen:∀x,(enc x).length=m)(he:∀j,k=j+1->∀l,Rp P hp nx j e l->∃x:α,l=enc x/\E j x)(h:Rp P hp nx k t ls):
 ∃(j:Nat) (s:SV α),k=j+1/\ls=[s.v]/\gA enc m hp nx s/\(∀x∈s.l,E j x)/\s.l.length*P.bytesOf e<=reachBytes:=by
 cases k with
 |zero=>exact h.elim
 |succ n=>
  unfold Rp at h;rw[hu]at h
  rcases h with rfl|rfl|⟨b,len,cap,lss,rfl,h0,C,o,hb,J,hl,hr⟩
  · exact⟨n,⟨_,[]⟩,rfl,rfl,⟨fun x h=>(by cases h),.inl ⟨rfl,.inl rfl⟩,by show(0:Nat)<_;decide⟩,fun x h=>(by cases h),by show(0:Nat)*_<=_;rw[Nat.zero_mul];exact Nat.zero_le _⟩
  · exact⟨n,⟨_,[]⟩,rfl,rfl,⟨fun x h=>(by cases h),.inl ⟨rfl,.inr ⟨0,rfl⟩⟩,by show(0:Nat)<_;decide⟩,fun x h=>(by cases h),by show(0:Nat)*_<=_;rw[Nat.zero_mul];exact Nat.zero_le _⟩
  · obtain⟨xs,rfl,I⟩:=GQ lss fun l hl=>he n rfl l (hr l hl).1
    rw[List.length_map]at hl
    refine⟨n,⟨_,xs⟩,rfl,rfl,⟨fun x _=>hlen x,.inr ⟨b,cap,_,by rw[<-hl],h0,hb,by rw[J,List.flatMap_def],by show xs.length<=cap;omega,.inl rfl⟩,?_⟩,I,?_⟩
    · have:reachBytes<281474976710656:=by decide
      have:=o.1
      show xs.length<_
      omega
    · show xs.length*_<=_
      rw[hl]
      exact Nat.le_trans (Nat.mul_le_mul_right _ C) o.2
end
theorem te.up:∀{n:Nat} {hp:Ht} {nx:Nat} {c:RCond},te n hp nx c->te (n+1) hp nx c
 |0,_,_,_,h=>h.elim
 |_+1,_,_,_,h=>⟨⟨h.1.1,fun x hx=>(h.1.2 x hx).up⟩,h.2⟩
theorem qI.up:∀{n:Nat} {hp:Ht} {nx:Nat} {c:RStep},qI n hp nx c->qI (n+1) hp nx c
 |0,_,_,_,h=>h.elim
 |_+1,_,_,_,h=>⟨h.1,⟨h.2.1.1,fun x hx=>(h.2.1.2 x hx).up⟩,⟨h.2.2.1.1,fun x hx=>(h.2.2.1.2 x hx).up⟩,h.2.2.2⟩
end
end Sw
namespace Sw
noncomputable section
open Go Go.Proofs Go.RowKit
set_option maxRecDepth 100000
theorem Yt:x_:=fun hp nx=>.W_ (ng:=12) (pS:=[Ag]) (by kernel_rfl) (show yY 12 [Ag] [] hp nx=some (.agg EY.toArray,hp,nx)by kernel_rfl) ⟨rfl,Nat.le_refl _,HE.refl _ _⟩
theorem XN:wh:=fun a b hp nx h=>by
 have hK:ex.K 348=some Fx:=by kernel_rfl
 refine⟨.bool (Lib.contains (strs a) (strs b)),hp,nx,⟨0,fun n _ cs k=>?_⟩,⟨_,rfl,Iff.rfl⟩,Nat.le_refl _,HE.refl _ _⟩
 simp only[mP,hK,Fx,mq.2 h,cond_true]
theorem XO:y5:=TJ (by kernel_rfl)
end
end Sw
