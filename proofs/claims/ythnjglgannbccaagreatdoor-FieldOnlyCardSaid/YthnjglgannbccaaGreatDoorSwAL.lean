/- A part of the proof that the law returns true for every input that its row speaks of. No condition is added. -/
import Derived.Test.YthnjglgannbccaaGreatDoorSwAK
import Derived.Test.YthnjglgannbccaaGreatDoorSwAE
import Derived.Deep.Slices
import Derived.OpenShut
import Derived.SizedLaws
import Derived.ProofKit
import Derived.Carry
import Derived.ChangeSlices
import Derived.LaidLaws
import Derived.Handed
namespace Sw
noncomputable section
open Go Go.Proofs Go.RowKit
set_option maxRecDepth 100000
set_option maxHeartbeats 1600000
theorem info3 : ∃ i, ex.T.info 3 = some i ∧ i.bytes ≤ 1024 := by
  cases h : ex.T.info 3 with
  | none => exact absurd (show (ex.T.info 3).isSome = true by kernel_rfl) (by rw [h]; decide)
  | some i =>
    refine ⟨i, rfl, ?_⟩
    have : ((ex.T.info 3).map fun i => Nat.ble i.bytes 1024) = some true := by kernel_rfl
    rw [h] at this
    exact Nat.le_of_ble_eq_true (Option.some.inj this)
theorem encI_flat (l : List Int) : ∀ y ∈ l, (encI y).length = 1 := fun _ _ => rfl
theorem OnlyCase.each {F X : RField} {l : List Int} {z : Int} (hf : FewOk F) (h : OnlyCase F l X z) : ∀ r ∈ X.fRunners.l, wsum r ≤ 60 := by
  rcases h with ⟨_, _, rfl⟩ | ⟨_, _, _, rfl⟩ | ⟨_, _, _, _, _, h⟩
  · intro r hr; cases hr
  · intro r hr; cases hr
  · intro r hr
    rw [h, pickR, List.mem_filterMap] at hr
    obtain ⟨z, _, hz⟩ := hr
    exact (hf.each r (List.mem_of_getElem? hz)).2.2
theorem OnlyCase.sel {F X : RField} {l : List Int} {z : Int} (h : OnlyCase F l X z) (hF : FieldChk F) (hs : SelOk F l) : z = 0 ∧ X.fClocks = F.fClocks ∧ X.fPairs = F.fPairs ∧ X.fRunners.l = pickR F l := by
  rcases h with ⟨a, _⟩ | ⟨_, a, _⟩ | ⟨_, _, h⟩
  · exact absurd hF a
  · exact absurd hs a
  · exact h
theorem OnlyCase.nosel {F X : RField} {l : List Int} {z : Int} (h : OnlyCase F l X z) (hF : FieldChk F) (hs : ¬ SelOk F l) : z = 1 := by
  rcases h with ⟨a, _⟩ | ⟨_, _, h, _⟩ | ⟨_, a, _⟩
  · exact absurd hF a
  · exact h
  · exact absurd a hs
theorem fieldOnly_wf (F : RField) (mask other : Int) (hp : Ht) (nx : Nat) (hF : RFieldOk hp nx F) (hsane : ∀ (hp' : Ht) (nx' : Nat), nx ≤ nx' → HE nx hp hp' → WF ex 6 [] hp' nx' (Stays nx' hp' (BoolIs True))) : WF ex 4 [.agg (encField F).toArray, .int .u8 (mask), .int .u8 (other)] hp nx (Stays nx hp (BoolIs True)) := by
 refine WF.body (fi := ⟨Tryz.f4.body.getD .skip, 147, [.tmp 6]⟩) (by kernel_rfl) (by kernel_rfl) (by kernel_rfl) rfl ?_
 have hE := HE.refl nx hp
 refine sr ?_
 refine WO.cons (WC.box (.agg (encField F).toArray) (encField F) rfl (by kernel_rfl) rfl ?_)
 obtain ⟨hp2, hx3, he4, hb5⟩ := boxed hp (nx) (encField F)
 rw [hx3]; clear hx3
 have hE6 := hE.trans he4 (Nat.le_refl nx)
 have le7 := Nat.le_trans (Nat.le_refl nx) (Nat.le_succ (nx))
 refine ov 6 (.bool false) ?_
 refine WO.nil ?_
 refine WP.seq ?_
 refine sr ?_
 refine WO.cons (WC.call 21 6 ([]) (fun _ _ _ => by kernel_rfl) ((hsane hp2 (nx + 1) le7 hE6).mono ?_))
 rintro _ hp8 nx9 ⟨⟨c12, rfl, p12⟩, hn10, he11⟩
 have hE13 := hE6.trans he11 le7
 have hb14 := he11.get hb5 (Nat.lt_succ_self (nx))
 have lt15 := Nat.lt_of_lt_of_le (Nat.lt_succ_self (nx)) hn10
 have le16 := Nat.le_trans le7 hn10
 obtain ⟨c17, e17, p17⟩ := @nb (!c12) (¬ (True)) (by rw [Bool.not_eq_true', ← Bool.not_eq_true, p12])
 refine ov 22 (.bool c17) ?_ (fun _ _ _ => by subst e17; kernel_rfl)
 refine WO.nil ?_
 refine WP.cond c17 (by kernel_rfl) (fun h18 => ?_) (fun h18 => ?_)
 ·
  have q19 := (p17).1 h18
  refine sr ?_
  refine ov 6 (.bool false) ?_
  refine WO.nil ?_
  refine WP.ret ⟨rfl, rfl, [.bool false], by kernel_rfl, ?_⟩
  simp at q19
 ·
  have q19 := nq p17 h18
  refine WP.skip ?_
  refine WP.seq ?_
  refine sr ?_
  refine WO.cons (WC.loadS nx (0) (encField F) (by kernel_rfl) T_agg29 T_size29 hb14 rfl ?_)
  refine WO.cons (WC.call 24 7 ([.agg (encField F).toArray]) (fun _ _ _ => by kernel_rfl) ((few24_wf F hp8 (nx9) (hF.mono hE13 le16)).mono ?_))
  rintro _ hp20 nx21 ⟨⟨c24, rfl, p24i⟩, hn22, he23⟩
  have p24 : c24 = true ↔ (c24 = true) := Iff.rfl
  have hE25 := hE13.trans he23 le16
  have hb26 := he23.get hb14 lt15
  have lt27 := Nat.lt_of_lt_of_le lt15 hn22
  have le28 := Nat.le_trans le16 hn22
  obtain ⟨c29, e29, p29⟩ := @nb (!c24) (¬ (c24 = true)) (by rw [Bool.not_eq_true', ← Bool.not_eq_true, p24])
  refine ov 25 (.bool c29) ?_ (fun _ _ _ => by subst e29; kernel_rfl)
  refine ov 26 (.bool c29) ?_
  refine ogc 26 (!c29) (.agg (encField F).toArray) (.bool c29) (by cases c29 <;> rfl) (fun h => by obtain rfl := bF h; exact WC.loadS nx (0) (encField F) (by kernel_rfl) T_agg29 T_size29 hb26 rfl rfl) ?_
  refine WO.cons (WC.gq (!c29) (GC (!c29) (240) (FieldChk F) (nx21) hp20) (.bool c29) (g := opd (.tmp 26)) rfl (by kernel_rfl) (by cases c29 <;> rfl) (fun h => by obtain rfl : c29 = false := (by simpa using h); have q0 : ¬ (¬ (c24 = true)) := (fun k => absurd ((p29).2 k) (by decide)); exact WC.call 28 13 ([.agg (encField F).toArray]) (fun _ _ _ => by kernel_rfl) ((check24_wf F hp20 (nx21) (hF.mono hE25 le28)).mono fun v hp' nx' ⟨⟨c, hv, hc⟩, hn, he⟩ => ⟨_, _, _, rfl, ⟨c, hv, hc⟩, hn, he⟩)) (fun h => GC.off h) ?_)
  rintro _ hp30 nx31 ⟨⟨z34, rfl, hz34, hk34⟩, hn32, he33⟩
  have hE35 := hE25.trans he33 le28
  have hb36 := he33.get hb26 lt27
  have lt37 := Nat.lt_of_lt_of_le lt27 hn32
  have le38 := Nat.le_trans le28 hn32
  obtain ⟨c39, e39, p39⟩ := @nb ((!(eqI (z34) (0)))) ((z34) ≠ (0)) (neI_iff)
  refine og 26 (!c29) (.bool c39) (.bool c29) (by cases c29 <;> rfl) (fun h => by obtain rfl := bF h; exact fun _ _ _ => by subst e39; kernel_rfl) ?_
  obtain ⟨c40, e40, p40⟩ := @nb ((c29 || c39)) ((¬ (c24 = true)) ∨ ((z34) ≠ (0))) (by rw [Bool.or_eq_true, p29, p39])
  refine WO.cons (WC.opt (v := .bool c40) 30 (ePick (.bool c29) (.bool true) ((bif !c29 then .bool c39 else undef))) (fun _ _ _ => by kernel_rfl) (by rw [e40]; exact ePick_or (fun h => by obtain rfl : c29 = false := h; rfl)) ?_)
  refine WO.nil ?_
  refine WP.cond c40 (by kernel_rfl) (fun h41 => ?_) (fun h41 => ?_)
  ·
   have q42 := (p40).1 h41
   refine sr ?_
   refine ov 6 (.bool true) ?_
   refine WO.nil ?_
   refine WP.ret ⟨rfl, rfl, [.bool true], by kernel_rfl, ?_⟩
   exact ⟨⟨true, rfl, fun _ => trivial, fun _ => rfl⟩, le38, hE35⟩
  ·
   have q42 := nq p40 h41
   refine WP.skip ?_
   refine sr ?_
   have hfew : FewOk F := p24i (Classical.not_not.1 fun k => q42 (.inl k))
   have hfr := hfew.runners
   have hchk : FieldChk F := hz34.1 (Classical.not_not.1 fun k => q42 (.inr k))
   refine ov 7 (.slice none (0) 0) ?_
   refine ov 8 (.slice none (0) 0) ?_
   refine ov 9 (.slice none (0) 0) ?_
   refine WO.nil ?_
   refine WP.seq ?_
   refine sr ?_
   refine ov 31 (.pointer (some ⟨nx, 0 + 3, none⟩)) ?_
   obtain ⟨a43, c44, hv45⟩ := hF.fRunners.1.shape
   have hsm45 := hF.fRunners.1.2.2
   refine WO.cons (WC.load1 nx (0 + 3) (.slice a43 (F.fRunners.l.length) c44) (by kernel_rfl) T_agg27 hb36 (by rw [← hv45]; rfl) ?_)
   refine ov 33 (.int .i64 (.ofNat (F.fRunners.l.length))) ?_
   refine ov 34 (.int .i64 (0)) ?_
   refine WO.nil ?_
   refine WP.block ?_
   have hj47 : ∀ t : Tm, ((((((((t.set 1 (t.get 1)).set 2 (t.get 2)).set 3 (t.get 3)).set 7 (t.get 7)).set 8 (t.get 8)).set 9 (t.get 9)).set 33 (t.get 33)).set 34 (t.get 34)) = t := fun t => by kernel_rfl
   refine WP.loop (fun m s => ∃ (iL46 : Nat) (J7 : SV Int) (J8 : SV Int) (J9 : SV Int) (g7 : Nat) (g8 : Nat) (g9 : Nat), iL46 + m = F.fRunners.l.length ∧ s.to.get 1 = .int .u8 (mask) ∧ s.to.get 2 = .int .u8 (other) ∧ s.to.get 3 = .pointer (some ⟨nx, 0, none⟩) ∧ s.to.get 7 = J7.v ∧ s.to.get 8 = J8.v ∧ s.to.get 9 = J9.v ∧ s.to.get 33 = .int .i64 (.ofNat (F.fRunners.l.length)) ∧ s.to.get 34 = .int .i64 (.ofNat iL46) ∧ s.ds = [] ∧ s.cs = [] ∧ nx31 ≤ s.nx ∧ HE (nx31) hp30 s.hp ∧ (GroG encI 1 (nx31) g7 s.hp s.nx J7) ∧ (GroG encI 1 (nx31) g8 s.hp s.nx J8) ∧ (GroG encI 1 (nx31) g9 s.hp s.nx J9) ∧ (J7.l = [] ∨ J8.l = [] ∨ g7 ≠ g8) ∧ (J7.l = [] ∨ J9.l = [] ∨ g7 ≠ g9) ∧ (J8.l = [] ∨ J9.l = [] ∨ g8 ≠ g9) ∧ (J7.l.length ≤ iL46) ∧ (J8.l.length ≤ iL46) ∧ (J9.l.length ≤ iL46) ∧ (Msk iL46 J7.l J8.l J9.l)) ?_ (F.fRunners.l.length) ?_
   ·
    rintro mL46 ⟨toL46, dsL46, hp48, nx49, csL46⟩ ⟨iL46, J7, J8, J9, g7, g8, g9, him50, gL46_1, gL46_2, gL46_3, gL46_7, gL46_8, gL46_9, gL46_33, gL46_34, hdsL46, hcsL46, hn51, he52, G7, G8, G9, d78, d79, d89, hl7, hl8, hl9, hM⟩
    simp only at gL46_1 gL46_2 gL46_3 gL46_7 gL46_8 gL46_9 gL46_33 gL46_34 hdsL46 hcsL46 hn51 he52 G7 G8 G9
    subst hdsL46 hcsL46
    rw [← hj47 toL46, gL46_1, gL46_2, gL46_3, gL46_7, gL46_8, gL46_9, gL46_33, gL46_34]
    clear gL46_1 gL46_2 gL46_3 gL46_7 gL46_8 gL46_9 gL46_33 gL46_34
    have hE53 := hE35.trans he52 le38
    have hb54 := he52.get hb36 lt37
    have lt55 := Nat.lt_of_lt_of_le lt37 hn51
    have le56 := Nat.le_trans le38 hn51
    refine sr ?_
    obtain ⟨c57, e57, p57⟩ := @nb (ltI (.ofNat iL46) (.ofNat (F.fRunners.l.length))) (((iL46 : Nat) : Int) < ((F.fRunners.l.length : Nat) : Int)) (ltI_iff)
    refine ov 35 (.bool c57) ?_ (fun _ _ _ => by subst e57; kernel_rfl)
    refine WO.nil ?_
    refine WP.seq ?_
    refine WP.cond c57 (by kernel_rfl) (fun h58 => ?_) (fun h58 => ?_)
    ·
     have q59 := (p57).1 h58
     refine WP.skip ?_
     refine WP.seq ?_
     refine WP.block ?_
     refine sr ?_
     refine ov 36 (.int .i64 (.ofNat iL46)) ?_
     refine ov 10 (.int .i64 (.ofNat iL46)) ?_
     refine WO.nil ?_
     refine sr ?_
     refine ov 37 (.int .u8 (mask)) ?_
     refine ov 38 (.int .i64 (.ofNat iL46)) ?_
     obtain ⟨z60, ez61⟩ : ∃ z : Int, z = Int.fdiv (mask) (.ofNat (Nat.pow 2 (bif Nat.ble (iL46) (IntKind.bits .u8) then (iL46) else (IntKind.bits .u8)))) := ⟨_, rfl⟩
     refine ov 39 (.int .u8 (z60)) ?_ (fun _ _ _ => by subst ez61; kernel_rfl)
     obtain ⟨z62, ez63⟩ : ∃ z : Int, z = signK .u8 (Nat.land (resK .u8 (z60)) (resK .u8 (1))) := ⟨_, rfl⟩
     refine ov 40 (.int .u8 (z62)) ?_ (fun _ _ _ => by subst ez63; kernel_rfl)
     obtain ⟨c64, e64, p64⟩ := @nb (eqI (z62) (1)) ((z62) = (1)) (eqI_iff)
     refine ov 41 (.bool c64) ?_ (fun _ _ _ => by subst e64; kernel_rfl)
     refine WO.nil ?_
     refine WP.cond c64 (by kernel_rfl) (fun h65 => ?_) (fun h65 => ?_)
     ·
      have q66 := (p64).1 h65
      refine WP.seq ?_
      refine sr ?_
      refine ov 42 (.int .u8 (other)) ?_
      refine ov 43 (.int .i64 (.ofNat iL46)) ?_
      obtain ⟨z67, ez68⟩ : ∃ z : Int, z = Int.fdiv (other) (.ofNat (Nat.pow 2 (bif Nat.ble (iL46) (IntKind.bits .u8) then (iL46) else (IntKind.bits .u8)))) := ⟨_, rfl⟩
      refine ov 44 (.int .u8 (z67)) ?_ (fun _ _ _ => by subst ez68; kernel_rfl)
      obtain ⟨z69, ez70⟩ : ∃ z : Int, z = signK .u8 (Nat.land (resK .u8 (z67)) (resK .u8 (1))) := ⟨_, rfl⟩
      refine ov 45 (.int .u8 (z69)) ?_ (fun _ _ _ => by subst ez70; kernel_rfl)
      obtain ⟨c71, e71, p71⟩ := @nb (eqI (z69) (1)) ((z69) = (1)) (eqI_iff)
      refine ov 46 (.bool c71) ?_ (fun _ _ _ => by subst e71; kernel_rfl)
      refine WO.nil ?_
      refine WP.cond c71 (by kernel_rfl) (fun h72 => ?_) (fun h72 => ?_)
      ·
       have q73 := (p71).1 h72
       refine sr ?_
       refine ov 47 (J8.v) ?_
       refine ov 48 (J7.v) ?_
       obtain ⟨_, _, hv74⟩ := (G7.ok (fun _ _ => rfl) (by omega)).shape
       refine ov 49 (.int .i64 (.ofNat (J7.l.length))) ?_ (fun _ _ _ => by rw [hv74]; kernel_rfl)
       refine WO.cons (WC.buildSlice [.int .i64 (.ofNat (J7.l.length))] rfl (by kernel_rfl) ?_)
       obtain ⟨hp75, hx76, he77, hb78⟩ := boxed hp48 (nx49) [.int .i64 (.ofNat (J7.l.length))]
       rw [hx76]; clear hx76
       have hr82 := he52.trans he77 hn51
       have rl83 := Nat.le_trans hn51 (Nat.le_succ (nx49))
       have hG85 := G7.mono he77 (Nat.le_succ (nx49))
       have hG86 := G8.mono he77 (Nat.le_succ (nx49))
       have hG87 := G9.mono he77 (Nat.le_succ (nx49))
       obtain ⟨inf, hinf, hby⟩ := info3
       refine WO.cons (WC.appendGG (enc := encI) (J := J8) (.ofNat (J7.l.length)) rfl (by kernel_rfl) (by kernel_rfl) hG86 (encI_flat _) hb78 rfl T_und30 T_size3 T_zero3 hinf rfl rfl hby (by omega) (by omega) rfl ?_)
       rintro Jn89 hpn90 nxn91 gn92 hln93 hnn94 hcn95 hen96 hGn97 hrn98
       obtain ⟨hGk100, hD99⟩ := hG85.keep hG86 (by rcases d78 with h | h | h; exact .inr (.inl h); exact .inl h; exact .inr (.inr fun k => h k.symm)) hnn94 hcn95 hrn98
       have hd101 : J7.l = [] ∨ Jn89.l = [] ∨ g7 ≠ gn92 := by rcases hD99 with h | h; exact .inl h; exact .inr (.inr fun k => h k.symm)
       obtain ⟨hGk103, hD102⟩ := hG87.keep hG86 d89 hnn94 hcn95 hrn98
       have hd104 : Jn89.l = [] ∨ J9.l = [] ∨ gn92 ≠ g9 := .inr hD102
       have hr108 := hr82.trans hen96 (by omega)
       have rl109 := Nat.le_trans rl83 hnn94
       refine ov 8 (Jn89.v) ?_
       refine WO.nil ?_
       refine WP.region ?_
       refine ov 52 (J9.v) ?_
       refine ov 53 (.int .i64 (.ofNat iL46)) ?_
       refine WO.cons (WC.buildSlice [.int .i64 (.ofNat iL46)] rfl (by kernel_rfl) ?_)
       obtain ⟨hp111, hx112, he113, hb114⟩ := boxed hpn90 (nxn91) [.int .i64 (.ofNat iL46)]
       rw [hx112]; clear hx112
       have hr118 := hr108.trans he113 rl109
       have rl119 := Nat.le_trans rl109 (Nat.le_succ (nxn91))
       have hG121 := hGk100.mono he113 (Nat.le_succ (nxn91))
       have hG122 := hGn97.mono he113 (Nat.le_succ (nxn91))
       have hG123 := hGk103.mono he113 (Nat.le_succ (nxn91))
       obtain ⟨inf, hinf, hby⟩ := info3
       refine WO.cons (WC.appendGG (enc := encI) (J := J9) (.ofNat iL46) rfl (by kernel_rfl) (by kernel_rfl) hG123 (encI_flat _) hb114 rfl T_und30 T_size3 T_zero3 hinf rfl rfl hby (by omega) (by omega) rfl ?_)
       rintro Jn125 hpn126 nxn127 gn128 hln129 hnn130 hcn131 hen132 hGn133 hrn134
       obtain ⟨hGk136, hD135⟩ := hG121.keep hG123 (by rcases d79 with h | h | h; exact .inr (.inl h); exact .inl h; exact .inr (.inr fun k => h k.symm)) hnn130 hcn131 hrn134
       have hd137 : J7.l = [] ∨ Jn125.l = [] ∨ g7 ≠ gn128 := by rcases hD135 with h | h; exact .inl h; exact .inr (.inr fun k => h k.symm)
       obtain ⟨hGk139, hD138⟩ := hG122.keep hG123 (by rcases hd104 with h | h | h; exact .inr (.inl h); exact .inl h; exact .inr (.inr fun k => h k.symm)) hnn130 hcn131 hrn134
       have hd140 : Jn89.l = [] ∨ Jn125.l = [] ∨ gn92 ≠ gn128 := by rcases hD138 with h | h; exact .inl h; exact .inr (.inr fun k => h k.symm)
       have hr144 := hr118.trans hen132 (by omega)
       have rl145 := Nat.le_trans rl119 hnn130
       refine ov 9 (Jn125.v) ?_
       refine WO.nil ?_
       refine WP.region ?_
       refine ov 56 (J7.v) ?_
       refine ov 57 (.int .i64 (.ofNat iL46)) ?_
       refine WO.cons (WC.buildSlice [.int .i64 (.ofNat iL46)] rfl (by kernel_rfl) ?_)
       obtain ⟨hp147, hx148, he149, hb150⟩ := boxed hpn126 (nxn127) [.int .i64 (.ofNat iL46)]
       rw [hx148]; clear hx148
       have hr154 := hr144.trans he149 rl145
       have rl155 := Nat.le_trans rl145 (Nat.le_succ (nxn127))
       have hG157 := hGk136.mono he149 (Nat.le_succ (nxn127))
       have hG158 := hGk139.mono he149 (Nat.le_succ (nxn127))
       have hG159 := hGn133.mono he149 (Nat.le_succ (nxn127))
       obtain ⟨inf, hinf, hby⟩ := info3
       refine WO.cons (WC.appendGG (enc := encI) (J := J7) (.ofNat iL46) rfl (by kernel_rfl) (by kernel_rfl) hG157 (encI_flat _) hb150 rfl T_und30 T_size3 T_zero3 hinf rfl rfl hby (by omega) (by omega) rfl ?_)
       rintro Jn161 hpn162 nxn163 gn164 hln165 hnn166 hcn167 hen168 hGn169 hrn170
       obtain ⟨hGk172, hD171⟩ := hG158.keep hG157 hd101 hnn166 hcn167 hrn170
       have hd173 : Jn161.l = [] ∨ Jn89.l = [] ∨ gn164 ≠ gn92 := .inr hD171
       obtain ⟨hGk175, hD174⟩ := hG159.keep hG157 hd137 hnn166 hcn167 hrn170
       have hd176 : Jn161.l = [] ∨ Jn125.l = [] ∨ gn164 ≠ gn128 := .inr hD174
       have hr180 := hr154.trans hen168 (by omega)
       have rl181 := Nat.le_trans rl155 hnn166
       refine ov 7 (Jn161.v) ?_
       refine WO.nil ?_
       refine WP.region ?_
       refine ov 60 (.int .i64 (.ofNat (iL46 + 1))) ?_ (fun _ _ _ => by rw [← wrapAdd (show iL46 + 1 < 9223372036854775808 by omega)]; kernel_rfl)
       refine ov 34 (.int .i64 (.ofNat (iL46 + 1))) ?_
       refine WO.nil ?_
       refine ⟨F.fRunners.l.length - (iL46 + 1), by omega, iL46 + 1, Jn161, Jn89, Jn125, gn164, gn92, gn128, by omega, by kernel_rfl, by kernel_rfl, by kernel_rfl, by kernel_rfl, by kernel_rfl, by kernel_rfl, by kernel_rfl, by kernel_rfl, rfl, rfl, ?_, ?_, ?_, ?_, ?_, ?_, ?_, ?_, ?_, ?_, ?_, ?_⟩
       · exact rl181
       · exact hr180
       · exact hGn169
       · exact hGk172
       · exact hGk175
       · exact hd173
       · exact hd176
       · exact hd140
       · rw [hln165, List.length_append]; simp only [List.length_cons, List.length_nil]; omega
       · rw [hln93, List.length_append]; simp only [List.length_cons, List.length_nil]; omega
       · rw [hln129, List.length_append]; simp only [List.length_cons, List.length_nil]; omega
       · rw [hln165, hln93, hln129]; exact hM.both
      ·
       have q73 := nq p71 h72
       refine WP.skip ?_
       refine WP.region ?_
       refine ov 56 (J7.v) ?_
       refine ov 57 (.int .i64 (.ofNat iL46)) ?_
       refine WO.cons (WC.buildSlice [.int .i64 (.ofNat iL46)] rfl (by kernel_rfl) ?_)
       obtain ⟨hp183, hx184, he185, hb186⟩ := boxed hp48 (nx49) [.int .i64 (.ofNat iL46)]
       rw [hx184]; clear hx184
       have hr190 := he52.trans he185 hn51
       have rl191 := Nat.le_trans hn51 (Nat.le_succ (nx49))
       have hG193 := G7.mono he185 (Nat.le_succ (nx49))
       have hG194 := G8.mono he185 (Nat.le_succ (nx49))
       have hG195 := G9.mono he185 (Nat.le_succ (nx49))
       obtain ⟨inf, hinf, hby⟩ := info3
       refine WO.cons (WC.appendGG (enc := encI) (J := J7) (.ofNat iL46) rfl (by kernel_rfl) (by kernel_rfl) hG193 (encI_flat _) hb186 rfl T_und30 T_size3 T_zero3 hinf rfl rfl hby (by omega) (by omega) rfl ?_)
       rintro Jn197 hpn198 nxn199 gn200 hln201 hnn202 hcn203 hen204 hGn205 hrn206
       obtain ⟨hGk208, hD207⟩ := hG194.keep hG193 d78 hnn202 hcn203 hrn206
       have hd209 : Jn197.l = [] ∨ J8.l = [] ∨ gn200 ≠ g8 := .inr hD207
       obtain ⟨hGk211, hD210⟩ := hG195.keep hG193 d79 hnn202 hcn203 hrn206
       have hd212 : Jn197.l = [] ∨ J9.l = [] ∨ gn200 ≠ g9 := .inr hD210
       have hr216 := hr190.trans hen204 (by omega)
       have rl217 := Nat.le_trans rl191 hnn202
       refine ov 7 (Jn197.v) ?_
       refine WO.nil ?_
       refine WP.region ?_
       refine ov 60 (.int .i64 (.ofNat (iL46 + 1))) ?_ (fun _ _ _ => by rw [← wrapAdd (show iL46 + 1 < 9223372036854775808 by omega)]; kernel_rfl)
       refine ov 34 (.int .i64 (.ofNat (iL46 + 1))) ?_
       refine WO.nil ?_
       refine ⟨F.fRunners.l.length - (iL46 + 1), by omega, iL46 + 1, Jn197, J8, J9, gn200, g8, g9, by omega, by kernel_rfl, by kernel_rfl, by kernel_rfl, by kernel_rfl, by kernel_rfl, by kernel_rfl, by kernel_rfl, by kernel_rfl, rfl, rfl, ?_, ?_, ?_, ?_, ?_, ?_, ?_, ?_, ?_, ?_, ?_, ?_⟩
       · exact rl217
       · exact hr216
       · exact hGn205
       · exact hGk208
       · exact hGk211
       · exact hd209
       · exact hd212
       · exact d89
       · rw [hln201, List.length_append]; simp only [List.length_cons, List.length_nil]; omega
       · omega
       · omega
       · rw [hln201]; exact hM.one
     ·
      have q66 := nq p64 h65
      refine WP.skip ?_
      refine WP.region ?_
      refine ov 60 (.int .i64 (.ofNat (iL46 + 1))) ?_ (fun _ _ _ => by rw [← wrapAdd (show iL46 + 1 < 9223372036854775808 by omega)]; kernel_rfl)
      refine ov 34 (.int .i64 (.ofNat (iL46 + 1))) ?_
      refine WO.nil ?_
      refine ⟨F.fRunners.l.length - (iL46 + 1), by omega, iL46 + 1, J7, J8, J9, g7, g8, g9, by omega, by kernel_rfl, by kernel_rfl, by kernel_rfl, by kernel_rfl, by kernel_rfl, by kernel_rfl, by kernel_rfl, by kernel_rfl, rfl, rfl, ?_, ?_, ?_, ?_, ?_, ?_, ?_, ?_, ?_, ?_, ?_, ?_⟩
      · exact hn51
      · exact he52
      · exact G7
      · exact G8
      · exact G9
      · exact d78
      · exact d79
      · exact d89
      · omega
      · omega
      · omega
      · exact hM.skip
    ·
     have q59 := nq p57 h58
     refine WP.exit ?_
     refine sr ?_
     refine WO.cons (WC.loadS nx (0) (encField F) (by kernel_rfl) T_agg29 T_size29 hb54 rfl ?_)
     have hM1 : Msk F.fRunners.l.length J7.l J8.l J9.l := (show iL46 = F.fRunners.l.length by omega) ▸ hM
     have hok219 := G7.ok (fun _ _ => rfl) (by omega)
     have hr220 := HE.refl (nx49) hp48
     have rl221 := Nat.le_refl (nx49)
     obtain ⟨a222, c223, hv224⟩ := hok219.shape
     have hsm224 := hok219.2.2
     rw [hv224]
     have hok225 := G8.ok (fun _ _ => rfl) (by omega)
     have hr226 := HE.refl (nx49) hp48
     have rl227 := Nat.le_refl (nx49)
     obtain ⟨a228, c229, hv230⟩ := hok225.shape
     have hsm230 := hok225.2.2
     rw [hv230]
     have hok231 := G9.ok (fun _ _ => rfl) (by omega)
     have hr232 := HE.refl (nx49) hp48
     have rl233 := Nat.le_refl (nx49)
     obtain ⟨a234, c235, hv236⟩ := hok231.shape
     have hsm236 := hok231.2.2
     rw [hv236]
     refine ov 63 (.slice a222 (J7.l.length) c223) ?_
     refine WO.cons (WC.call 64 8 ([.agg (encField F).toArray, J7.v]) (fun _ _ _ => by (try rw [hv224]); kernel_rfl) ((onlyF_wf F J7 hp48 (nx49) (hF.mono hE53 le56) (hok219.mono hr220 rl221) (fun r hr => (hfew.each r hr).2.2) (by omega)).mono ?_))
     rintro _ hp237 nx238 ⟨⟨X241, z242, rfl, hX241, hsX241⟩, hn239, he240⟩
     have hE243 := hE53.trans he240 le56
     have hb244 := he240.get hb54 lt55
     have lt245 := Nat.lt_of_lt_of_le lt55 hn239
     have hr246 := hr220.trans he240 rl221
     have rl247 := Nat.le_trans rl221 hn239
     have hr248 := hr226.trans he240 rl227
     have rl249 := Nat.le_trans rl227 hn239
     have hr250 := hr232.trans he240 rl233
     have rl251 := Nat.le_trans rl233 hn239
     have le252 := Nat.le_trans le56 hn239
     have hr253 := HE.refl (nx238) hp237
     have rl254 := Nat.le_refl (nx238)
     refine ov 61 (.tuple ⟨[.agg (encField X241).toArray, .int .i64 (z242)]⟩) ?_
     refine ov 65 (.agg (encField X241).toArray) ?_
     refine ov 66 (.int .i64 (z242)) ?_
     refine WO.cons (WC.alloc _ [.slice none (0) 0, .slice none (0) 0, .slice none (0) 0, .slice none (0) 0] rfl T_zero29 rfl ?_)
     obtain ⟨hp256, hx257, he258, hb259⟩ := boxed hp237 (nx238) [.slice none (0) 0, .slice none (0) 0, .slice none (0) 0, .slice none (0) 0]
     rw [hx257]; clear hx257
     have hE260 := hE243.trans he258 le252
     have hb261 := he258.get hb244 lt245
     have lt262 := Nat.lt_of_lt_of_le lt245 (Nat.le_succ (nx238))
     have hr263 := hr246.trans he258 rl247
     have rl264 := Nat.le_trans rl247 (Nat.le_succ (nx238))
     have hr265 := hr248.trans he258 rl249
     have rl266 := Nat.le_trans rl249 (Nat.le_succ (nx238))
     have hr267 := hr250.trans he258 rl251
     have rl268 := Nat.le_trans rl251 (Nat.le_succ (nx238))
     have hr269 := hr253.trans he258 rl254
     have rl270 := Nat.le_trans rl254 (Nat.le_succ (nx238))
     have le271 := Nat.le_trans le252 (Nat.le_succ (nx238))
     refine WO.cons (WC.store1 nx238 (0) (.agg (encField X241).toArray) [.slice none (0) 0, .slice none (0) 0, .slice none (0) 0, .slice none (0) 0] (encField X241) (encField X241) 4 rfl (by kernel_rfl) (by kernel_rfl) T_size29 rfl (Bool.and_eq_true_iff.2 ⟨rfl, encField_one _ hX241⟩) hb259 rfl rfl rfl ?_)
     obtain ⟨hp272, hx273, he274, hb275, ho276⟩ := stored hp256 nx238 (.cells (encField X241) CMeta.plain)
     rw [hx273]; clear hx273
     have hE277 := hE260.trans he274 (by omega)
     have hr278 := hr263.trans he274 (by omega)
     have hr279 := hr265.trans he274 (by omega)
     have hr280 := hr267.trans he274 (by omega)
     have hr281 := hr269.trans he274 (by omega)
     have hb282 := (ho276 nx (by omega)).trans hb261
     refine ov 12 (.int .i64 (z242)) ?_
     refine WO.nil ?_
     refine WP.seq ?_
     refine sr ?_
     refine ov 67 (.slice a222 (J7.l.length) c223) ?_
     refine ov 68 (.int .i64 (.ofNat (J7.l.length))) ?_
     obtain ⟨c283, e283, p283⟩ := @nb (eqI (.ofNat (J7.l.length)) (0)) (((J7.l.length : Nat) : Int) = (0)) (eqI_iff)
     refine ov 69 (.bool c283) ?_ (fun _ _ _ => by subst e283; kernel_rfl)
     refine WO.nil ?_
     refine WP.cond c283 (by kernel_rfl) (fun h284 => ?_) (fun h284 => ?_)
     ·
      have q285 := (p283).1 h284
      refine sr ?_
      refine ov 70 (.int .i64 (z242)) ?_
      obtain ⟨c286, e286, p286⟩ := @nb (eqI (z242) (1)) ((z242) = (1)) (eqI_iff)
      refine ov 71 (.bool c286) ?_ (fun _ _ _ => by subst e286; kernel_rfl)
      refine ov 6 (.bool c286) ?_
      refine WO.nil ?_
      refine WP.ret ⟨rfl, rfl, [.bool c286], by kernel_rfl, ?_⟩
      refine ⟨⟨c286, rfl, fun _ => trivial, fun _ => (p286).2 ?_⟩, le271, hE277⟩
      exact OnlyCase.nosel (F := F) (l := J7.l) hsX241 hchk (fun k => k.1 (List.eq_nil_of_length_eq_zero (by omega)))
     ·
      have q285 := nq p283 h284
      refine WP.skip ?_
      refine WP.seq ?_
      refine sr ?_
      have hsel : SelOk F J7.l := ⟨fun e => q285 (by rw [e]; rfl), hM1.w⟩
      obtain ⟨hz0, hX1, hX2, hX3⟩ := OnlyCase.sel (F := F) (l := J7.l) hsX241 hchk hsel
      have hXc : FieldChk X241 := hchk.sub hsel hX1 hX2 hX3
      have hXl : X241.fRunners.l.length = J7.l.length := by rw [hX3, pickR_len hsel.has]
      refine ov 72 (.int .i64 (z242)) ?_
      obtain ⟨c287, e287, p287⟩ := @nb ((!(eqI (z242) (0)))) ((z242) ≠ (0)) (neI_iff)
      refine ov 73 (.bool c287) ?_ (fun _ _ _ => by subst e287; kernel_rfl)
      refine ov 74 (.bool c287) ?_
      refine ogc 74 (!c287) (.agg (encField X241).toArray) (.bool c287) (by cases c287 <;> rfl) (fun h => by obtain rfl := bF h; exact WC.loadS nx238 (0) (encField X241) (by kernel_rfl) T_agg29 T_size29 hb275 rfl rfl) ?_
      refine WO.cons (WC.gq (!c287) (GC (!c287) (240) (FieldChk X241) (nx238 + 1) hp272) (.bool c287) (g := opd (.tmp 74)) rfl (by kernel_rfl) (by cases c287 <;> rfl) (fun h => by obtain rfl : c287 = false := (by simpa using h); have q0 : ¬ ((z242) ≠ (0)) := (fun k => absurd ((p287).2 k) (by decide)); exact WC.call 76 12 ([.agg (encField X241).toArray]) (fun _ _ _ => by kernel_rfl) ((fieldCheck_wf X241 hp272 (nx238 + 1) (hX241.mono hr281 rl270) (OnlyCase.each (F := F) (l := J7.l) hfew hsX241)).mono fun v hp' nx' ⟨⟨c, hv, hc⟩, hn, he⟩ => ⟨_, _, _, rfl, ⟨c, hv, hc⟩, hn, he⟩)) (fun h => GC.off h) ?_)
      rintro _ hp288 nx289 ⟨⟨z292, rfl, hz292, hk292⟩, hn290, he291⟩
      have hE293 := hE277.trans he291 le271
      have hb294 := he291.get hb282 lt262
      have lt295 := Nat.lt_of_lt_of_le lt262 hn290
      have hb296 := he291.get hb275 (Nat.lt_succ_self (nx238))
      have lt297 := Nat.lt_of_lt_of_le (Nat.lt_succ_self (nx238)) hn290
      have hr298 := hr278.trans he291 rl264
      have rl299 := Nat.le_trans rl264 hn290
      have hr300 := hr279.trans he291 rl266
      have rl301 := Nat.le_trans rl266 hn290
      have hr302 := hr280.trans he291 rl268
      have rl303 := Nat.le_trans rl268 hn290
      have hr304 := hr281.trans he291 rl270
      have rl305 := Nat.le_trans rl270 hn290
      have le306 := Nat.le_trans le271 hn290
      obtain ⟨c307, e307, p307⟩ := @nb ((!(eqI (z292) (0)))) ((z292) ≠ (0)) (neI_iff)
      refine og 74 (!c287) (.bool c307) (.bool c287) (by cases c287 <;> rfl) (fun h => by obtain rfl := bF h; exact fun _ _ _ => by subst e307; kernel_rfl) ?_
      obtain ⟨c308, e308, p308⟩ := @nb ((c287 || c307)) (((z242) ≠ (0)) ∨ ((z292) ≠ (0))) (by rw [Bool.or_eq_true, p287, p307])
      refine WO.cons (WC.opt (v := .bool c308) 78 (ePick (.bool c287) (.bool true) ((bif !c287 then .bool c307 else undef))) (fun _ _ _ => by kernel_rfl) (by rw [e308]; exact ePick_or (fun h => by obtain rfl : c287 = false := h; rfl)) ?_)
      refine ov 79 (.bool c308) ?_
      refine og 79 (!c308) (.pointer (some ⟨nx238, 0 + 3, none⟩)) (.bool c308) (by cases c308 <;> rfl) (fun h => by obtain rfl := bF h; exact fun _ _ _ => by kernel_rfl) ?_
      obtain ⟨a309, c310, hv311⟩ := hX241.fRunners.1.shape
      have hsm311 := hX241.fRunners.1.2.2
      refine ogc 79 (!c308) (.slice a309 (X241.fRunners.l.length) c310) (.bool c308) (by cases c308 <;> rfl) (fun h => by obtain rfl := bF h; exact WC.load1 nx238 (0 + 3) (.slice a309 (X241.fRunners.l.length) c310) (by kernel_rfl) T_agg27 hb296 (by rw [← hv311]; rfl) rfl) ?_
      refine og 79 (!c308) (.int .i64 (.ofNat (X241.fRunners.l.length))) (.bool c308) (by cases c308 <;> rfl) (fun h => by obtain rfl := bF h; exact fun _ _ _ => by kernel_rfl) ?_
      refine og 79 (!c308) (.slice a222 (J7.l.length) c223) (.bool c308) (by cases c308 <;> rfl) (fun h => by obtain rfl := bF h; exact fun _ _ _ => by kernel_rfl) ?_
      refine og 79 (!c308) (.int .i64 (.ofNat (J7.l.length))) (.bool c308) (by cases c308 <;> rfl) (fun h => by obtain rfl := bF h; exact fun _ _ _ => by kernel_rfl) ?_
      obtain ⟨c312, e312, p312⟩ := @nb ((!(eqI (.ofNat (X241.fRunners.l.length)) (.ofNat (J7.l.length))))) (((X241.fRunners.l.length : Nat) : Int) ≠ ((J7.l.length : Nat) : Int)) (neI_iff)
      refine og 79 (!c308) (.bool c312) (.bool c308) (by cases c308 <;> rfl) (fun h => by obtain rfl := bF h; exact fun _ _ _ => by subst e312; kernel_rfl) ?_
      obtain ⟨c313, e313, p313⟩ := @nb ((c308 || c312)) ((((z242) ≠ (0)) ∨ ((z292) ≠ (0))) ∨ (((X241.fRunners.l.length : Nat) : Int) ≠ ((J7.l.length : Nat) : Int))) (by rw [Bool.or_eq_true, p308, p312])
      refine WO.cons (WC.opt (v := .bool c313) 86 (ePick (.bool c308) (.bool true) ((bif !c308 then .bool c312 else undef))) (fun _ _ _ => by kernel_rfl) (by rw [e313]; exact ePick_or (fun h => by obtain rfl : c308 = false := h; rfl)) ?_)
      refine WO.nil ?_
      refine WP.cond c313 (by kernel_rfl) (fun h314 => ?_) (fun h314 => ?_)
      ·
       have q315 := (p313).1 h314
       refine sr ?_
       refine ov 6 (.bool false) ?_
       refine WO.nil ?_
       refine WP.ret ⟨rfl, rfl, [.bool false], by kernel_rfl, ?_⟩
       exfalso
       rcases q315 with (hq | hq) | hq
       · exact hq hz0
       · exact hq (hz292.2 hXc)
       · exact hq (congrArg Int.ofNat hXl)
      ·
       have q315 := nq p313 h314
       refine WP.skip ?_
       refine WP.seq ?_
       refine sr ?_
       refine ov 87 (.slice a222 (J7.l.length) c223) ?_
       refine ov 88 (.int .i64 (.ofNat (J7.l.length))) ?_
       refine ov 89 (.int .i64 (0)) ?_
       refine WO.nil ?_
       refine WP.block ?_
       have hj317 : ∀ t : Tm, (((((((t.set 3 (t.get 3)).set 8 (t.get 8)).set 9 (t.get 9)).set 11 (t.get 11)).set 87 (t.get 87)).set 88 (t.get 88)).set 89 (t.get 89)) = t := fun t => by kernel_rfl
       refine WP.loop (fun m s => ∃ (iL316 : Nat), iL316 + m = J7.l.length ∧ s.to.get 3 = .pointer (some ⟨nx, 0, none⟩) ∧ s.to.get 8 = .slice a228 (J8.l.length) c229 ∧ s.to.get 9 = .slice a234 (J9.l.length) c235 ∧ s.to.get 11 = .pointer (some ⟨nx238, 0, none⟩) ∧ s.to.get 87 = .slice a222 (J7.l.length) c223 ∧ s.to.get 88 = .int .i64 (.ofNat (J7.l.length)) ∧ s.to.get 89 = .int .i64 (.ofNat iL316) ∧ s.ds = [] ∧ s.cs = [] ∧ nx289 ≤ s.nx ∧ HE (nx289) hp288 s.hp) ?_ (J7.l.length) ?_
       ·
        rintro mL316 ⟨toL316, dsL316, hp318, nx319, csL316⟩ ⟨iL316, him320, gL316_3, gL316_8, gL316_9, gL316_11, gL316_87, gL316_88, gL316_89, hdsL316, hcsL316, hn321, he322⟩
        simp only at gL316_3 gL316_8 gL316_9 gL316_11 gL316_87 gL316_88 gL316_89 hdsL316 hcsL316 hn321 he322
        subst hdsL316 hcsL316
        rw [← hj317 toL316, gL316_3, gL316_8, gL316_9, gL316_11, gL316_87, gL316_88, gL316_89]
        clear gL316_3 gL316_8 gL316_9 gL316_11 gL316_87 gL316_88 gL316_89
        have hE323 := hE293.trans he322 le306
        have hb324 := he322.get hb294 lt295
        have lt325 := Nat.lt_of_lt_of_le lt295 hn321
        have hb326 := he322.get hb296 lt297
        have lt327 := Nat.lt_of_lt_of_le lt297 hn321
        have hr328 := hr298.trans he322 rl299
        have rl329 := Nat.le_trans rl299 hn321
        have hr330 := hr300.trans he322 rl301
        have rl331 := Nat.le_trans rl301 hn321
        have hr332 := hr302.trans he322 rl303
        have rl333 := Nat.le_trans rl303 hn321
        have hr334 := hr304.trans he322 rl305
        have rl335 := Nat.le_trans rl305 hn321
        have le336 := Nat.le_trans le306 hn321
        refine sr ?_
        obtain ⟨c337, e337, p337⟩ := @nb (ltI (.ofNat iL316) (.ofNat (J7.l.length))) (((iL316 : Nat) : Int) < ((J7.l.length : Nat) : Int)) (ltI_iff)
        refine ov 90 (.bool c337) ?_ (fun _ _ _ => by subst e337; kernel_rfl)
        refine WO.nil ?_
        refine WP.seq ?_
        refine WP.cond c337 (by kernel_rfl) (fun h338 => ?_) (fun h338 => ?_)
        ·
         have q339 := (p337).1 h338
         refine WP.skip ?_
         refine WP.seq ?_
         refine WP.block ?_
         refine sr ?_
         refine ov 91 (.int .i64 (.ofNat iL316)) ?_
         have hlt340 : iL316 < J7.l.length := by omega
         refine WO.cons (WC.ix (k := .i64) a222 (J7.l.length) c223 (iL316) 1 (by kernel_rfl) (by kernel_rfl) T_und30 T_size3 ((hok219.mono hr328 rl329).blkA hv224 (zl hlt340)) (hlt340) ?_)
         obtain ⟨x341, hx342⟩ : ∃ el_, J7.l[iL316]? = some el_ := ⟨_, List.getElem?_eq_getElem (hlt340)⟩
         refine WO.cons (WC.load1E (blk a222) (0 + (iL316) * 1) (.int .i64 (x341)) (by kernel_rfl) T_agg3 ((hok219.mono hr328 rl329).blkB hv224 (zl hlt340)) (flat_at1 (hok219.mono hr328 rl329).1 hx342 rfl) ?_)
         refine ov 13 (.int .i64 (.ofNat iL316)) ?_
         obtain ⟨wn, hwn, rfl⟩ : ∃ wn : Nat, wn < F.fRunners.l.length ∧ x341 = .ofNat wn := ⟨x341.toNat, by have := (hM1.w _ _ hx342).1; omega, (Int.toNat_of_nonneg (by have := (hM1.w _ _ hx342).1; omega)).symm⟩
         refine ov 14 (.int .i64 (.ofNat wn)) ?_
         refine WO.nil ?_
         refine WP.seq ?_
         refine WP.drawS [⟨[0, 1, 2, 3, 4, 5, 6], [0, 1, 2, 3, 4, 5, 6], some 7⟩, ⟨[8, 9, 10], [8, 9, 10], some 11⟩, ⟨[], [10], some 12⟩, ⟨[], [], none⟩] (by kernel_rfl) _ rfl ?_
         refine WD.eff ?_
         refine WN.consAt rfl (WC.loadS nx238 (0) (encField X241) (by kernel_rfl) T_agg29 T_size29 hb326 rfl ?_)
         refine nv 96 (.pointer (some ⟨nx, 0 + 3, none⟩)) ?_
         refine WN.consAt rfl (WC.load1 nx (0 + 3) (.slice a43 (F.fRunners.l.length) c44) (by kernel_rfl) T_agg27 hb324 (by rw [← hv45]; rfl) ?_)
         refine nv 98 (.int .i64 (.ofNat wn)) ?_
         have hlt343 : wn < F.fRunners.l.length := hwn
         refine WN.consAt rfl (WC.ix (k := .i64) a43 (F.fRunners.l.length) c44 (wn) 3 (by kernel_rfl) (by kernel_rfl) T_und27 T_size43 ((hF.fRunners.1.mono hE323 le336).blkA hv45 (zl hlt343)) (hlt343) ?_)
         refine nv 100 (.pointer (some ⟨(blk a43), 0 + (wn) * 3 + 0, none⟩)) ?_
         obtain ⟨x344, hx345⟩ : ∃ el_, F.fRunners.l[wn]? = some el_ := ⟨_, List.getElem?_eq_getElem (hlt343)⟩
         refine WN.consAt rfl (WC.load1E (blk a43) (0 + (wn) * 3 + 0) (.int .i64 (x344.fBib)) (by kernel_rfl) T_agg3 ((hF.fRunners.1.mono hE323 le336).blkB hv45 (zl hlt343)) (flat_at (hF.fRunners.1.mono hE323 le336).1 hx345 (by decide) rfl) ?_)
         refine WN.nil ⟨?_, ?_⟩
         ·
          refine co (.agg (encField X241).toArray) (eLoad ex.T hp318.get 29 (.pointer (some ⟨nx238, 0, none⟩))) (eLoad_agg T_agg29 T_size29 hb326 rfl) (encField_vEq X241 hX241) ?_
          refine cv (.pointer (some ⟨nx, 0 + 3, none⟩)) (vEq_ptr ..) ?_
          refine co (.slice a43 (F.fRunners.l.length) c44) (eLoad ex.T hp318.get 27 (.pointer (some ⟨nx, 0 + 3, none⟩))) (eLoad_one T_agg27 hb324 (by rw [← hv45]; rfl)) (hv45 ▸ hF.fRunners.1.eqSelf 8) ?_
          refine cv (.int .i64 (.ofNat wn)) (vEq_int ..) ?_
          refine co (.pointer (some ⟨(blk a43), 0 + (wn) * 3, none⟩)) (eIndexAddr ex.T 27 (.slice a43 (F.fRunners.l.length) c44) (.int .i64 (.ofNat (wn)))) (eIndexAddr_A (k := .i64) T_und27 T_size43 ((hF.fRunners.1.mono hE323 le336).blkA hv45 (zl hlt343)) (hlt343)) (vEq_ptr ..) ?_
          refine cv (.pointer (some ⟨(blk a43), 0 + (wn) * 3 + 0, none⟩)) (vEq_ptr ..) ?_
          refine co (.int .i64 (x344.fBib)) (eLoad ex.T hp318.get 3 (.pointer (some ⟨(blk a43), 0 + (wn) * 3 + 0, none⟩))) (eLoad_oneE T_agg3 ((hF.fRunners.1.mono hE323 le336).blkB hv45 (zl hlt343)) (flat_at (hF.fRunners.1.mono hE323 le336).1 hx345 (by decide) rfl)) (vEq_int ..) ?_
          exact Chks.nil
         refine WC.at rfl (WC.call 102 10 ([.agg (encField X241).toArray, .int .i64 (x344.fBib)]) (fun _ _ _ => by kernel_rfl) ((findF_wf X241 (x344.fBib) hp318 (nx319) (hX241.mono hr334 rl335)).mono ?_))
         rintro _ hp346 nx347 ⟨⟨z350, c351, rfl, hfz350⟩, hn348, he349⟩
         have pc351 : c351 = true ↔ c351 = true := Iff.rfl
         have hE352 := hE323.trans he349 le336
         have hb353 := he349.get hb324 lt325
         have hb355 := he349.get hb326 lt327
         have hr363 := hr334.trans he349 rl335
         have rl364 := Nat.le_trans rl335 hn348
         have hr365 := he322.trans he349 hn321
         have rl366 := Nat.le_trans hn321 hn348
         have le367 := Nat.le_trans le336 hn348
         refine WD.eff ?_
         refine nv 94 (.tuple ⟨[.int .i64 (z350), .bool c351]⟩) ?_
         refine nv 103 (.int .i64 (z350)) ?_
         refine nv 104 (.bool c351) ?_
         refine WN.nil ⟨?_, ?_⟩
         ·
          refine cv (.tuple ⟨[.int .i64 (z350), .bool c351]⟩) (vEq_tup 7 _ (by intro v hv; simp only [List.mem_cons, List.not_mem_nil, or_false] at hv; rcases hv with rfl | rfl <;> first | exact vEq_int .. | exact vEq_bool ..)) ?_
          refine cv (.int .i64 (z350)) (vEq_int ..) ?_
          refine cv (.bool c351) (vEq_bool 8 c351) ?_
          exact Chks.nil
         refine WC.at rfl (WC.val 15 (.int .i64 (z350)) (fun _ _ _ => by kernel_rfl) ?_)
         refine WD.eff ?_
         refine WN.nil ⟨?_, ?_⟩
         ·
          refine cv (.bool c351) (vEq_bool 8 c351) ?_
          exact Chks.nil
         refine WC.at rfl (WC.val 16 (.bool c351) (fun _ _ _ => by kernel_rfl) ?_)
         refine WD.last ?_
         refine WN.nil ⟨?_, ?_⟩
         ·
          exact Chks.nil
         refine WP.seq ?_
         refine WP.drawS [⟨[0, 1, 2, 3, 4, 5, 6, 7, 8, 9, 10, 11, 12, 13, 14, 15, 16, 17], [0, 1, 2, 3, 4, 5, 6, 7, 8, 9, 10, 11, 12, 13, 14, 15, 16, 17], some 18⟩, ⟨[19, 20], [19, 20], none⟩] (by kernel_rfl) _ rfl ?_
         refine WD.eff ?_
         refine nv 105 (.bool c351) ?_
         obtain ⟨c368, e368, p368⟩ := @nb (!c351) (¬ (c351 = true)) (by rw [Bool.not_eq_true', ← Bool.not_eq_true, pc351])
         refine nv 106 (.bool c368) ?_ (fun _ _ _ => by subst e368; kernel_rfl)
         refine nv 107 (.bool c368) ?_
         refine ng rfl 107 (!c368) (.int .i64 (z350)) (.bool c368) (by cases c368 <;> rfl) (fun h => by obtain rfl := bF h; exact fun _ _ _ => by kernel_rfl) ?_
         refine ng rfl 107 (!c368) (.int .i64 (.ofNat iL316)) (.bool c368) (by cases c368 <;> rfl) (fun h => by obtain rfl := bF h; exact fun _ _ _ => by kernel_rfl) ?_
         obtain ⟨c369, e369, p369⟩ := @nb ((!(eqI (z350) (.ofNat iL316)))) ((z350) ≠ ((iL316 : Nat) : Int)) (neI_iff)
         refine ng rfl 107 (!c368) (.bool c369) (.bool c368) (by cases c368 <;> rfl) (fun h => by obtain rfl := bF h; exact fun _ _ _ => by subst e369; kernel_rfl) ?_
         obtain ⟨c370, e370, p370⟩ := @nb ((c368 || c369)) ((¬ (c351 = true)) ∨ ((z350) ≠ ((iL316 : Nat) : Int))) (by rw [Bool.or_eq_true, p368, p369])
         refine WN.consAt rfl (WC.opt (v := .bool c370) 111 (ePick (.bool c368) (.bool true) ((bif !c368 then .bool c369 else undef))) (fun _ _ _ => by kernel_rfl) (by rw [e370]; exact ePick_or (fun h => by obtain rfl : c368 = false := h; rfl)) ?_)
         refine nv 112 (.bool c370) ?_
         refine ng rfl 112 (!c370) (.pointer (some ⟨nx238, 0 + 3, none⟩)) (.bool c370) (by cases c370 <;> rfl) (fun h => by obtain rfl := bF h; exact fun _ _ _ => by kernel_rfl) ?_
         refine ngc rfl 112 (!c370) (.slice a309 (X241.fRunners.l.length) c310) (.bool c370) (by cases c370 <;> rfl) (fun h => by obtain rfl := bF h; exact WC.load1 nx238 (0 + 3) (.slice a309 (X241.fRunners.l.length) c310) (by kernel_rfl) T_agg27 hb355 (by rw [← hv311]; rfl) rfl) ?_
         refine ng rfl 112 (!c370) (.int .i64 (.ofNat iL316)) (.bool c370) (by cases c370 <;> rfl) (fun h => by obtain rfl := bF h; exact fun _ _ _ => by kernel_rfl) ?_
         have hlt371 : (!c370) = true → iL316 < X241.fRunners.l.length := fun h => by obtain rfl : c370 = false := (by simpa using h); have q0 : ¬ ((¬ (c351 = true)) ∨ ((z350) ≠ ((iL316 : Nat) : Int))) := (fun k => absurd ((p370).2 k) (by decide)); omega
         refine ngc rfl 112 (!c370) (.pointer (some ⟨(blk a309), 0 + (iL316) * 3, none⟩)) (.bool c370) (by cases c370 <;> rfl) (fun h => by obtain rfl := bF h; exact WC.ix (k := .i64) a309 (X241.fRunners.l.length) c310 (iL316) 3 (by kernel_rfl) (by kernel_rfl) T_und27 T_size43 ((hX241.fRunners.1.mono hr363 rl364).blkA hv311 (zl ((hlt371 rfl)))) ((hlt371 rfl)) rfl) ?_
         obtain ⟨x372, hx373⟩ : ∃ el_, X241.fRunners.l[iL316]? = some el_ := ⟨_, List.getElem?_eq_getElem (by omega)⟩
         refine ngc rfl 112 (!c370) (.agg (encRunner x372).toArray) (.bool c370) (by cases c370 <;> rfl) (fun h => by obtain rfl := bF h; exact WC.loadSE (blk a309) (0 + (iL316) * 3) (encRunner x372) (by kernel_rfl) T_agg43 T_size43 ((hX241.fRunners.1.mono hr363 rl364).blkB hv311 (zl ((hlt371 rfl)))) (flat_at0 (hX241.fRunners.1.mono hr363 rl364).1 hx373) rfl) ?_
         refine ng rfl 112 (!c370) (.pointer (some ⟨nx, 0 + 3, none⟩)) (.bool c370) (by cases c370 <;> rfl) (fun h => by obtain rfl := bF h; exact fun _ _ _ => by kernel_rfl) ?_
         refine ngc rfl 112 (!c370) (.slice a43 (F.fRunners.l.length) c44) (.bool c370) (by cases c370 <;> rfl) (fun h => by obtain rfl := bF h; exact WC.load1 nx (0 + 3) (.slice a43 (F.fRunners.l.length) c44) (by kernel_rfl) T_agg27 hb353 (by rw [← hv45]; rfl) rfl) ?_
         refine ng rfl 112 (!c370) (.int .i64 (.ofNat wn)) (.bool c370) (by cases c370 <;> rfl) (fun h => by obtain rfl := bF h; exact fun _ _ _ => by kernel_rfl) ?_
         have hlt374 : (!c370) = true → wn < F.fRunners.l.length := fun h => by obtain rfl : c370 = false := (by simpa using h); have q0 : ¬ ((¬ (c351 = true)) ∨ ((z350) ≠ ((iL316 : Nat) : Int))) := (fun k => absurd ((p370).2 k) (by decide)); exact hwn
         refine ngc rfl 112 (!c370) (.pointer (some ⟨(blk a43), 0 + (wn) * 3, none⟩)) (.bool c370) (by cases c370 <;> rfl) (fun h => by obtain rfl := bF h; exact WC.ix (k := .i64) a43 (F.fRunners.l.length) c44 (wn) 3 (by kernel_rfl) (by kernel_rfl) T_und27 T_size43 ((hF.fRunners.1.mono hE352 le367).blkA hv45 (zl ((hlt374 rfl)))) ((hlt374 rfl)) rfl) ?_
         refine ngc rfl 112 (!c370) (.agg (encRunner x344).toArray) (.bool c370) (by cases c370 <;> rfl) (fun h => by obtain rfl := bF h; exact WC.loadSE (blk a43) (0 + (wn) * 3) (encRunner x344) (by kernel_rfl) T_agg43 T_size43 ((hF.fRunners.1.mono hE352 le367).blkB hv45 (zl ((hlt374 rfl)))) (flat_at0 (hF.fRunners.1.mono hE352 le367).1 hx345) rfl) ?_
         refine WN.nil ⟨?_, ?_⟩
         ·
          refine cv (.bool c351) (vEq_bool 8 c351) ?_
          refine cv (.bool c368) (vEq_bool 8 c368) ?_ (fun _ => by subst e368; kernel_rfl)
          refine cv (.bool c368) (vEq_bool 8 c368) ?_
          refine cg rfl 107 (!c368) (.int .i64 (z350)) (.bool c368) (by cases c368 <;> rfl) (fun h => by obtain rfl := bF h; exact chkV1 (.int .i64 (z350)) (fun _ => by kernel_rfl) (vEq_int ..)) ?_
          refine cg rfl 107 (!c368) (.int .i64 (.ofNat iL316)) (.bool c368) (by cases c368 <;> rfl) (fun h => by obtain rfl := bF h; exact chkV1 (.int .i64 (.ofNat iL316)) (fun _ => by kernel_rfl) (vEq_int ..)) ?_
          refine cg rfl 107 (!c368) (.bool c369) (.bool c368) (by cases c368 <;> rfl) (fun h => by obtain rfl := bF h; exact chkV1 (.bool c369) (fun _ => by subst e369; kernel_rfl) (vEq_bool 8 c369)) ?_
          refine co (.bool c370) (ePick (.bool c368) (.bool true) ((bif !c368 then .bool c369 else undef))) ((by rw [e370]; exact ePick_or (fun h => by obtain rfl : c368 = false := h; rfl))) (vEq_bool 8 c370) ?_
          refine cv (.bool c370) (vEq_bool 8 c370) ?_
          refine cg rfl 112 (!c370) (.pointer (some ⟨nx238, 0 + 3, none⟩)) (.bool c370) (by cases c370 <;> rfl) (fun h => by obtain rfl := bF h; exact chkV1 (.pointer (some ⟨nx238, 0 + 3, none⟩)) (fun _ => by kernel_rfl) (vEq_ptr ..)) ?_
          refine cg rfl 112 (!c370) (.slice a309 (X241.fRunners.l.length) c310) (.bool c370) (by cases c370 <;> rfl) (fun h => by obtain rfl := bF h; exact chkO1 (.slice a309 (X241.fRunners.l.length) c310) (eLoad ex.T hp346.get 27 (.pointer (some ⟨nx238, 0 + 3, none⟩))) (fun _ => by kernel_rfl) (eLoad_one T_agg27 hb355 (by rw [← hv311]; rfl)) (hv311 ▸ hX241.fRunners.1.eqSelf 8)) ?_
          refine cg rfl 112 (!c370) (.int .i64 (.ofNat iL316)) (.bool c370) (by cases c370 <;> rfl) (fun h => by obtain rfl := bF h; exact chkV1 (.int .i64 (.ofNat iL316)) (fun _ => by kernel_rfl) (vEq_int ..)) ?_
          refine cg rfl 112 (!c370) (.pointer (some ⟨(blk a309), 0 + (iL316) * 3, none⟩)) (.bool c370) (by cases c370 <;> rfl) (fun h => by obtain rfl := bF h; exact chkO1 (.pointer (some ⟨(blk a309), 0 + (iL316) * 3, none⟩)) (eIndexAddr ex.T 27 (.slice a309 (X241.fRunners.l.length) c310) (.int .i64 (.ofNat (iL316)))) (fun _ => by kernel_rfl) (eIndexAddr_A (k := .i64) T_und27 T_size43 ((hX241.fRunners.1.mono hr363 rl364).blkA hv311 (zl ((hlt371 rfl)))) ((hlt371 rfl))) (vEq_ptr ..)) ?_
          refine cg rfl 112 (!c370) (.agg (encRunner x372).toArray) (.bool c370) (by cases c370 <;> rfl) (fun h => by obtain rfl := bF h; exact chkO1 (.agg (encRunner x372).toArray) (eLoad ex.T hp346.get 43 (.pointer (some ⟨(blk a309), 0 + (iL316) * 3, none⟩))) (fun _ => by kernel_rfl) (eLoad_aggE T_agg43 T_size43 ((hX241.fRunners.1.mono hr363 rl364).blkB hv311 (zl ((hlt371 rfl)))) (flat_at0 (hX241.fRunners.1.mono hr363 rl364).1 hx373)) (encRunner_vEq x372 (hX241.fRunners.2 x372 (List.mem_of_getElem? hx373)))) ?_
          refine cg rfl 112 (!c370) (.pointer (some ⟨nx, 0 + 3, none⟩)) (.bool c370) (by cases c370 <;> rfl) (fun h => by obtain rfl := bF h; exact chkV1 (.pointer (some ⟨nx, 0 + 3, none⟩)) (fun _ => by kernel_rfl) (vEq_ptr ..)) ?_
          refine cg rfl 112 (!c370) (.slice a43 (F.fRunners.l.length) c44) (.bool c370) (by cases c370 <;> rfl) (fun h => by obtain rfl := bF h; exact chkO1 (.slice a43 (F.fRunners.l.length) c44) (eLoad ex.T hp346.get 27 (.pointer (some ⟨nx, 0 + 3, none⟩))) (fun _ => by kernel_rfl) (eLoad_one T_agg27 hb353 (by rw [← hv45]; rfl)) (hv45 ▸ hF.fRunners.1.eqSelf 8)) ?_
          refine cg rfl 112 (!c370) (.int .i64 (.ofNat wn)) (.bool c370) (by cases c370 <;> rfl) (fun h => by obtain rfl := bF h; exact chkV1 (.int .i64 (.ofNat wn)) (fun _ => by kernel_rfl) (vEq_int ..)) ?_
          refine cg rfl 112 (!c370) (.pointer (some ⟨(blk a43), 0 + (wn) * 3, none⟩)) (.bool c370) (by cases c370 <;> rfl) (fun h => by obtain rfl := bF h; exact chkO1 (.pointer (some ⟨(blk a43), 0 + (wn) * 3, none⟩)) (eIndexAddr ex.T 27 (.slice a43 (F.fRunners.l.length) c44) (.int .i64 (.ofNat (wn)))) (fun _ => by kernel_rfl) (eIndexAddr_A (k := .i64) T_und27 T_size43 ((hF.fRunners.1.mono hE352 le367).blkA hv45 (zl ((hlt374 rfl)))) ((hlt374 rfl))) (vEq_ptr ..)) ?_
          refine cg rfl 112 (!c370) (.agg (encRunner x344).toArray) (.bool c370) (by cases c370 <;> rfl) (fun h => by obtain rfl := bF h; exact chkO1 (.agg (encRunner x344).toArray) (eLoad ex.T hp346.get 43 (.pointer (some ⟨(blk a43), 0 + (wn) * 3, none⟩))) (fun _ => by kernel_rfl) (eLoad_aggE T_agg43 T_size43 ((hF.fRunners.1.mono hE352 le367).blkB hv45 (zl ((hlt374 rfl)))) (flat_at0 (hF.fRunners.1.mono hE352 le367).1 hx345)) (encRunner_vEq x344 (hF.fRunners.2 x344 (List.mem_of_getElem? hx345)))) ?_
          exact Chks.nil
         refine WC.at rfl (WC.gq (!c370) (GB (!c370) (eqRun x372 x344) (nx347) hp346) (.bool c370) (g := opd (.tmp 112)) rfl (by kernel_rfl) (by cases c370 <;> rfl) (fun h => by obtain rfl : c370 = false := (by simpa using h); have q0 : ¬ ((¬ (c351 = true)) ∨ ((z350) ≠ ((iL316 : Nat) : Int))) := (fun k => absurd ((p370).2 k) (by decide)); exact WC.call 123 15 ([.agg (encRunner x372).toArray, .agg (encRunner x344).toArray]) (fun _ _ _ => by kernel_rfl) ((sameRunner_wf x372 x344 hp346 (nx347) ((hX241.fRunners.2 x372 (List.mem_of_getElem? hx373)).mono hr363 rl364) ((hF.fRunners.2 x344 (List.mem_of_getElem? hx345)).mono hE352 le367)).mono fun v hp' nx' ⟨⟨c, hv, hc⟩, hn, he⟩ => ⟨_, _, _, rfl, ⟨c, hv, hc⟩, hn, he⟩)) (fun h => GB.off h) ?_)
         rintro _ hp375 nx376 ⟨⟨c379, rfl, p379⟩, hn377, he378⟩
         have hr393 := hr365.trans he378 rl366
         have rl394 := Nat.le_trans rl366 hn377
         refine WD.last ?_
         obtain ⟨c396, e396, p396⟩ := @nb (!c379) (¬ (eqRun x372 x344)) (by rw [Bool.not_eq_true', ← Bool.not_eq_true, p379])
         refine ng rfl 112 (!c370) (.bool c396) (.bool c370) (by cases c370 <;> rfl) (fun h => by obtain rfl := bF h; exact fun _ _ _ => by subst e396; kernel_rfl) ?_
         obtain ⟨c397, e397, p397⟩ := @nb ((c370 || c396)) (((¬ (c351 = true)) ∨ ((z350) ≠ ((iL316 : Nat) : Int))) ∨ (¬ (eqRun x372 x344))) (by rw [Bool.or_eq_true, p370, p396])
         refine WN.consAt rfl (WC.opt (v := .bool c397) 125 (ePick (.bool c370) (.bool true) ((bif !c370 then .bool c396 else undef))) (fun _ _ _ => by kernel_rfl) (by rw [e397]; exact ePick_or (fun h => by obtain rfl : c370 = false := h; rfl)) ?_)
         refine WN.nil ⟨?_, ?_⟩
         ·
          refine cg rfl 112 (!c370) (.bool c396) (.bool c370) (by cases c370 <;> rfl) (fun h => by obtain rfl := bF h; exact chkV1 (.bool c396) (fun _ => by subst e396; kernel_rfl) (vEq_bool 8 c396)) ?_
          refine co (.bool c397) (ePick (.bool c370) (.bool true) ((bif !c370 then .bool c396 else undef))) ((by rw [e397]; exact ePick_or (fun h => by obtain rfl : c370 = false := h; rfl))) (vEq_bool 8 c397) ?_
          exact Chks.nil
         refine WP.cond c397 (by kernel_rfl) (fun h398 => ?_) (fun h398 => ?_)
         ·
          have q399 := (p397).1 h398
          refine sr ?_
          refine ov 6 (.bool false) ?_
          refine WO.nil ?_
          refine WP.ret ⟨rfl, rfl, [.bool false], by kernel_rfl, ?_⟩
          exfalso
          have hXi : X241.fRunners.l[iL316]? = some x344 := by rw [hX3, pickR_get hsel.has, hx342]; exact hx345
          obtain ⟨hqz, hqc⟩ := FindIs.at hXc hXi hfz350
          have hye : x372 = x344 := Option.some.inj (hx373.symm.trans hXi)
          rcases q399 with (hq | hq) | hq
          · exact hq hqc
          · exact hq hqz
          · exact hq (hye ▸ eqRun_refl _)
         ·
          have q399 := nq p397 h398
          refine WP.skip ?_
          refine WP.region ?_
          refine ov 126 (.int .i64 (.ofNat (iL316 + 1))) ?_ (fun _ _ _ => by rw [← wrapAdd (show iL316 + 1 < 9223372036854775808 by omega)]; kernel_rfl)
          refine ov 89 (.int .i64 (.ofNat (iL316 + 1))) ?_
          refine WO.nil ?_
          refine ⟨J7.l.length - (iL316 + 1), by omega, iL316 + 1, by omega, by kernel_rfl, by kernel_rfl, by kernel_rfl, by kernel_rfl, by kernel_rfl, by kernel_rfl, by kernel_rfl, rfl, rfl, ?_, ?_⟩
          · exact rl394
          · exact hr393
        ·
         have q339 := nq p337 h338
         refine WP.exit ?_
         refine sr ?_
         refine WO.cons (WC.loadS nx238 (0) (encField X241) (by kernel_rfl) T_agg29 T_size29 hb326 rfl ?_)
         refine ov 129 (.slice a228 (J8.l.length) c229) ?_
         refine WO.cons (WC.call 130 8 ([.agg (encField X241).toArray, J8.v]) (fun _ _ _ => by (try rw [hv230]); kernel_rfl) ((onlyF_wf X241 J8 hp318 (nx319) (hX241.mono hr334 rl335) (hok225.mono hr330 rl331) (OnlyCase.each (F := F) (l := J7.l) hfew hsX241) (by omega)).mono ?_))
         rintro _ hp400 nx401 ⟨⟨X404, z405, rfl, hX404, hsX404⟩, hn402, he403⟩
         have hE406 := hE323.trans he403 le336
         have hb407 := he403.get hb324 lt325
         have lt408 := Nat.lt_of_lt_of_le lt325 hn402
         have hr415 := hr332.trans he403 rl333
         have rl416 := Nat.le_trans rl333 hn402
         have le419 := Nat.le_trans le336 hn402
         have hr420 := HE.refl (nx401) hp400
         have rl421 := Nat.le_refl (nx401)
         refine ov 127 (.tuple ⟨[.agg (encField X404).toArray, .int .i64 (z405)]⟩) ?_
         refine ov 131 (.agg (encField X404).toArray) ?_
         refine ov 132 (.int .i64 (z405)) ?_
         refine WO.cons (WC.alloc _ [.slice none (0) 0, .slice none (0) 0, .slice none (0) 0, .slice none (0) 0] rfl T_zero29 rfl ?_)
         obtain ⟨hp423, hx424, he425, hb426⟩ := boxed hp400 (nx401) [.slice none (0) 0, .slice none (0) 0, .slice none (0) 0, .slice none (0) 0]
         rw [hx424]; clear hx424
         have hE427 := hE406.trans he425 le419
         have hb428 := he425.get hb407 lt408
         have hr436 := hr415.trans he425 rl416
         have rl437 := Nat.le_trans rl416 (Nat.le_succ (nx401))
         have hr440 := hr420.trans he425 rl421
         have rl441 := Nat.le_trans rl421 (Nat.le_succ (nx401))
         have le442 := Nat.le_trans le419 (Nat.le_succ (nx401))
         refine WO.cons (WC.store1 nx401 (0) (.agg (encField X404).toArray) [.slice none (0) 0, .slice none (0) 0, .slice none (0) 0, .slice none (0) 0] (encField X404) (encField X404) 4 rfl (by kernel_rfl) (by kernel_rfl) T_size29 rfl (Bool.and_eq_true_iff.2 ⟨rfl, encField_one _ hX404⟩) hb426 rfl rfl rfl ?_)
         obtain ⟨hp443, hx444, he445, hb446, ho447⟩ := stored hp423 nx401 (.cells (encField X404) CMeta.plain)
         rw [hx444]; clear hx444
         have hE448 := hE427.trans he445 (by omega)
         have hr451 := hr436.trans he445 (by omega)
         have hr453 := hr440.trans he445 (by omega)
         have hb454 := (ho447 nx (by omega)).trans hb428
         refine ov 18 (.int .i64 (z405)) ?_
         refine WO.nil ?_
         refine sr ?_
         refine WO.cons (WC.loadS nx (0) (encField F) (by kernel_rfl) T_agg29 T_size29 hb454 rfl ?_)
         refine ov 135 (.slice a234 (J9.l.length) c235) ?_
         refine WO.cons (WC.call 136 8 ([.agg (encField F).toArray, J9.v]) (fun _ _ _ => by (try rw [hv236]); kernel_rfl) ((onlyF_wf F J9 hp443 (nx401 + 1) (hF.mono hE448 le442) (hok231.mono hr451 rl437) (fun r hr => (hfew.each r hr).2.2) (by omega)).mono ?_))
         rintro _ hp456 nx457 ⟨⟨X460, z461, rfl, hX460, hsX460⟩, hn458, he459⟩
         have hE462 := hE448.trans he459 le442
         have hb467 := he459.get hb446 (Nat.lt_succ_self (nx401))
         have lt468 := Nat.lt_of_lt_of_le (Nat.lt_succ_self (nx401)) hn458
         have hr477 := hr453.trans he459 rl441
         have rl478 := Nat.le_trans rl441 hn458
         have le479 := Nat.le_trans le442 hn458
         have hr480 := HE.refl (nx457) hp456
         have rl481 := Nat.le_refl (nx457)
         refine ov 133 (.tuple ⟨[.agg (encField X460).toArray, .int .i64 (z461)]⟩) ?_
         refine ov 137 (.agg (encField X460).toArray) ?_
         refine ov 138 (.int .i64 (z461)) ?_
         refine WO.cons (WC.alloc _ [.slice none (0) 0, .slice none (0) 0, .slice none (0) 0, .slice none (0) 0] rfl T_zero29 rfl ?_)
         obtain ⟨hp483, hx484, he485, hb486⟩ := boxed hp456 (nx457) [.slice none (0) 0, .slice none (0) 0, .slice none (0) 0, .slice none (0) 0]
         rw [hx484]; clear hx484
         have hE487 := hE462.trans he485 le479
         have hb492 := he485.get hb467 lt468
         have hr502 := hr477.trans he485 rl478
         have rl503 := Nat.le_trans rl478 (Nat.le_succ (nx457))
         have hr504 := hr480.trans he485 rl481
         have rl505 := Nat.le_trans rl481 (Nat.le_succ (nx457))
         have le506 := Nat.le_trans le479 (Nat.le_succ (nx457))
         refine WO.cons (WC.store1 nx457 (0) (.agg (encField X460).toArray) [.slice none (0) 0, .slice none (0) 0, .slice none (0) 0, .slice none (0) 0] (encField X460) (encField X460) 4 rfl (by kernel_rfl) (by kernel_rfl) T_size29 rfl (Bool.and_eq_true_iff.2 ⟨rfl, encField_one _ hX460⟩) hb486 rfl rfl rfl ?_)
         obtain ⟨hp507, hx508, he509, hb510, ho511⟩ := stored hp483 nx457 (.cells (encField X460) CMeta.plain)
         rw [hx508]; clear hx508
         have hE512 := hE487.trans he509 (by omega)
         have hr517 := hr502.trans he509 (by omega)
         have hr518 := hr504.trans he509 (by omega)
         have hb521 := (ho511 nx401 (by omega)).trans hb492
         refine ov 20 (.int .i64 (z461)) ?_
         refine WO.nil ?_
         refine sr ?_
         refine WO.cons (WC.loadS nx401 (0) (encField X404) (by kernel_rfl) T_agg29 T_size29 hb521 rfl ?_)
         refine WO.cons (WC.loadS nx457 (0) (encField X460) (by kernel_rfl) T_agg29 T_size29 hb510 rfl ?_)
         refine WO.cons (WC.call 141 14 ([.agg (encField X404).toArray, .agg (encField X460).toArray]) (fun _ _ _ => by kernel_rfl) ((same24_wf X404 X460 hp507 (nx457 + 1) (hX404.mono hr517 rl503) (hX460.mono hr518 rl505)).mono ?_))
         rintro _ hp522 nx523 ⟨⟨c526, rfl, p526⟩, hn524, he525⟩
         have hE527 := hE512.trans he525 le506
         have le548 := Nat.le_trans le506 hn524
         refine ov 142 (.bool c526) ?_
         refine og 142 (c526) (.int .i64 (z405)) (.bool c526) (by cases c526 <;> rfl) (fun h => by obtain rfl := h; exact fun _ _ _ => by kernel_rfl) ?_
         refine og 142 (c526) (.int .i64 (z461)) (.bool c526) (by cases c526 <;> rfl) (fun h => by obtain rfl := h; exact fun _ _ _ => by kernel_rfl) ?_
         obtain ⟨c549, e549, p549⟩ := @nb (eqI (z405) (z461)) ((z405) = (z461)) (eqI_iff)
         refine og 142 (c526) (.bool c549) (.bool c526) (by cases c526 <;> rfl) (fun h => by obtain rfl := h; exact fun _ _ _ => by subst e549; kernel_rfl) ?_
         obtain ⟨c550, e550, p550⟩ := @nb ((c526 && c549)) ((eqField X404 X460) ∧ ((z405) = (z461))) (by rw [Bool.and_eq_true, p526, p549])
         refine WO.cons (WC.opt (v := .bool c550) 146 (ePick (.bool c526) ((bif c526 then .bool c549 else undef)) (.bool false)) (fun _ _ _ => by kernel_rfl) (by rw [e550]; exact ePick_and (fun h => by obtain rfl : c526 = true := h; rfl)) ?_)
         refine ov 6 (.bool c550) ?_
         refine WO.nil ?_
         refine WP.ret ⟨rfl, rfl, [.bool c550], by kernel_rfl, ?_⟩
         refine ⟨⟨c550, rfl, fun _ => trivial, fun _ => (p550).2 ?_⟩, le548, hE527⟩
         exact Msk.same hM1 hchk hsel hX1 hX2 hX3 hsX404 hsX460
       ·
        exact ⟨0, by omega, by kernel_rfl, by kernel_rfl, by kernel_rfl, by kernel_rfl, by kernel_rfl, by kernel_rfl, by kernel_rfl, rfl, rfl, Nat.le_refl _, HE.refl _ _⟩
   ·
    exact ⟨0, ⟨.slice none 0 0, []⟩, ⟨.slice none 0 0, []⟩, ⟨.slice none 0 0, []⟩, 0, 0, 0, by omega, by kernel_rfl, by kernel_rfl, by kernel_rfl, by kernel_rfl, by kernel_rfl, by kernel_rfl, by kernel_rfl, by kernel_rfl, rfl, rfl, Nat.le_refl _, HE.refl _ _, GroG.nil, GroG.nil, GroG.nil, (.inl rfl), (.inl rfl), (.inl rfl), (Nat.le_refl _), (Nat.le_refl _), (Nat.le_refl _), Msk.start⟩
end
end Sw

namespace Sw
noncomputable section
open Go Go.RowKit
def AllRo (hp : Ht) : Prop := ∀ b o, hp.get b = some o → ∃ cs m, o = .cells cs m ∧ m.ro = true
def Rp (P : Program) (hp : Ht) (nx : Nat) : Nat → TypeId → List Value → Prop
 | 0, _, _ => False
 | n + 1, t, ls => match P.underlying t with
  | some .bool => ∃ b, ls = [.bool b]
  | some (.int k) => ∃ z, ls = [.int k z] ∧ (Lit.int k z).wf = true
  | some .string => ∃ s, ls = [.string s] ∧ s.size ≤ reachBytes
  | some (.slice e) => ls = [.slice none 0 0] ∨ ls = [.slice (some ⟨0, 0, none⟩) 0 0] ∨ ∃ (b len cap : Nat) (lss : List (List Value)), ls = [.slice (some ⟨b, 0, none⟩) len cap] ∧ 0 < cap ∧ len ≤ cap ∧ cap ≤ reachBytes ∧ b < nx ∧
   hp.get b = some (.cells lss.flatten ⟨true, none, 0, 0⟩) ∧ lss.length = len ∧ ∀ l ∈ lss, Rp P hp nx n e l ∧ l.length = P.cellsOf e
  | some (.struct fs) => ∃ lss : List (List Value), ls = lss.flatten ∧ lss.length = fs.size ∧ ∀ (i : Nat) (f : Field) (l : List Value), fs[i]? = some f → lss[i]? = some l → Rp P hp nx n f.type l ∧ l.length = P.cellsOf f.type
  | some (.array m e) => ∃ lss : List (List Value), ls = lss.flatten ∧ lss.length = m ∧ ∀ l ∈ lss, Rp P hp nx n e l ∧ l.length = P.cellsOf e
  | _ => False
theorem Rp.mono {P : Program} {hp hp' : Ht} {nx nx' : Nat} (he : HE nx hp hp') (hn : nx ≤ nx') : ∀ {n : Nat} {t : TypeId} {ls : List Value}, Rp P hp nx n t ls → Rp P hp' nx' n t ls
 | 0, _, _, h => h
 | n + 1, t, ls, h => by
  unfold Rp at h ⊢
  split
  · rename_i e; rw [e] at h; exact h
  · rename_i k e; rw [e] at h; exact h
  · rename_i e; rw [e] at h; exact h
  · rename_i el e
    rw [e] at h
    rcases h with h | h | ⟨b, len, cap, lss, h1, h2, h3, h4, h5, h6, h7, h8⟩
    · exact .inl h
    · exact .inr (.inl h)
    · exact .inr (.inr ⟨b, len, cap, lss, h1, h2, h3, h4, by omega, he.get h6 h5, h7, fun l hl => ⟨Rp.mono he hn (h8 l hl).1, (h8 l hl).2⟩⟩)
  · rename_i fs e
    rw [e] at h
    obtain ⟨lss, h1, h2, h3⟩ := h
    exact ⟨lss, h1, h2, fun i f l a b => ⟨Rp.mono he hn (h3 i f l a b).1, (h3 i f l a b).2⟩⟩
  · rename_i m el e
    rw [e] at h
    obtain ⟨lss, h1, h2, h3⟩ := h
    exact ⟨lss, h1, h2, fun l a => ⟨Rp.mono he hn (h3 l a).1, (h3 l a).2⟩⟩
  · rename_i n1 n2 n3 n4 n5 n6
    split at h
    · rename_i e; exact absurd e n1
    · rename_i k e; exact absurd e (n2 k)
    · rename_i e; exact absurd e n3
    · rename_i el e; exact absurd e (n4 el)
    · rename_i fs e; exact absurd e (n5 fs)
    · rename_i m el e; exact absurd e (n6 m el)
    · exact h
def contig (P : Program) : List Field → Nat → Nat → Bool
 | [], o, tot => Nat.beq o tot
 | f :: fs, o, tot => Nat.beq f.offset o && contig P fs (o + P.cellsOf f.type) tot
def openTy (P : Program) (S : TypeId → Bool) (t : TypeId) : Bool := match P.underlying t with
 | some .bool => Nat.beq (P.cellsOf t) 1
 | some (.int _) => Nat.beq (P.cellsOf t) 1
 | some .string => Nat.beq (P.cellsOf t) 1
 | some (.slice e) => Nat.beq (P.cellsOf t) 1 && (S e && (Nat.blt 0 (P.cellsOf e) && Nat.blt 0 (P.bytesOf e)))
 | some (.struct fs) => fs.toList.all (fun f => S f.type) && contig P fs.toList 0 (P.cellsOf t)
 | some (.array n e) => S e && Nat.beq (P.cellsOf t) (n * P.cellsOf e)
 | _ => false
section
variable {B0 : Nat} {w0 : World} {g : Gm} {hp : Ht} {nx : Nat} {w : World}
theorem HRel.reach (H : HRel B0 w0 g hp.get nx w) {rb ro : Nat} (hr : rb < w.heap.size) : HRel B0 w0 (g.add nx (rb, ro) none) hp.get (nx + 1) w ∧ g.le (g.add nx (rb, ro) none) := by
 have hn : g.blk nx = none := by
  cases h : g.blk nx with
  | none => rfl
  | some x => exact absurd (H.dom nx x.1 x.2 h).1 (Nat.lt_irrefl _)
 have hle := Gm.le_add hn (rb, ro) none
 refine ⟨⟨H.below, H.base, fun b r o e => ?_, fun b o e => ?_, fun b ms e => ?_, H.mem, fun b1 b2 o1 o2 r r1 r2 hne e1 e2 k1 k2 => ?_, fun b x k => ?_⟩, hle⟩
 · by_cases hb : b = nx
   · subst hb
     rw [Gm.add_blk] at e; cases e
     exact ⟨Nat.lt_succ_self _, hr⟩
   · rw [Gm.add_blk_ne _ _ _ hb] at e
     exact ⟨Nat.lt_succ_of_lt (H.dom b r o e).1, (H.dom b r o e).2⟩
 · obtain ⟨h1, h2⟩ := H.live b o e
   refine ⟨Nat.lt_succ_of_lt h1, fun r r1 k => ?_⟩
   rw [Gm.add_blk_ne _ _ _ (by omega)] at k
   obtain ⟨robj, a, c⟩ := h2 r r1 k
   exact ⟨robj, a, c.mono hle k⟩
 · rw [Gm.add_blk_ne _ _ _ (by have := (H.live b _ e).1; omega)]
   exact H.grpfree b ms e
 · rw [Gm.add_blk_ne _ _ _ (by have := (H.live b1 _ e1).1; omega)] at k1
   rw [Gm.add_blk_ne _ _ _ (by have := (H.live b2 _ e2).1; omega)] at k2
   exact H.sep b1 b2 o1 o2 r r1 r2 hne e1 e2 k1 k2
 · by_cases hb : b = nx
   · subst hb; rw [Gm.add_room] at k; cases k
   · have : (g.add nx (rb, ro) none).room b = g.room b := by simp [Gm.add, hb]
     rw [this] at k
     rw [Gm.add_blk_ne _ _ _ hb]
     exact H.room b x k
theorem HRel.layRo (H : HRel B0 w0 g hp.get nx w) (ha : AllRo hp) {rb ro n : Nat} {rc : Array Value} {el : TypeId} {fz : Nat × Nat} {us : List Value} (hh : w.heap[rb]? = some (.cells rc el fz)) (hlen : ro + n ≤ rc.size) (hl : LRel g us ((rc.toList.drop ro).take n)) :
 ∃ g' : Gm, HRel B0 w0 g' (hp.set nx (some (.cells us ⟨true, none, 0, 0⟩))).get (nx + 1) w ∧ AllRo (hp.set nx (some (.cells us ⟨true, none, 0, 0⟩))) ∧ g.le g' ∧ g'.blk nx = some (rb, ro) ∧ HE nx hp (hp.set nx (some (.cells us ⟨true, none, 0, 0⟩))) := by
 obtain ⟨H1, hle⟩ := H.reach (rb := rb) (ro := ro) (getElem?_lt hh)
 have hnone : hp.get nx = none := by
  cases h : hp.get nx with
  | none => rfl
  | some o => exact absurd (H.live nx o h).1 (Nat.lt_irrefl _)
 refine ⟨g.add nx (rb, ro) none, ?_, fun b o e => ?_, hle, Gm.add_blk .., HE.set _ _ (Nat.le_refl _)⟩
 · rw [show (hp.set nx (some (.cells us ⟨true, none, 0, 0⟩))).get = Hp.set hp.get nx (some (.cells us ⟨true, none, 0, 0⟩)) from Tr.get_set ..]
   refine H1.addRo hnone (Nat.lt_succ_self _) fun rb' ro' k => ?_
   rw [Gm.add_blk] at k; cases k
   exact ⟨⟨_, hh, ObjRel.of_list hlen (hl.mono hle) (fun x k => by cases k) (fun _ => Gm.add_room ..)⟩, fun b o r1 e _ => ha b o e⟩
 · rw [Tr.get_set] at e
   by_cases hb : b = nx
   · subst hb; rw [Hp.set_same] at e; cases e; exact ⟨_, _, rfl, rfl⟩
   · rw [Hp.set_other _ _ hb] at e; exact ha b o e
end
section
variable {H : Type} {enc : TypeId × Value → H} {P : Program} {B0 : Nat} {w0 w : World} {S : TypeId → Bool}
def Opens (P : Program) (B0 : Nat) (w0 w : World) (g : Gm) (hp : Ht) (nx : Nat) (cs : List Value) (R : Ht → Nat → List Value → Prop) : Prop :=
 ∃ (g' : Gm) (hp' : Ht) (nx' : Nat) (ls : List Value), HRel B0 w0 g' hp'.get nx' w ∧ AllRo hp' ∧ g.le g' ∧ nx ≤ nx' ∧ HE nx hp hp' ∧ LRel g' ls cs ∧ R hp' nx' ls
def OpensAt (P : Program) (B0 : Nat) (w0 w : World) (n : Nat) (t : TypeId) (cs : List Value) : Prop :=
 ∀ (g : Gm) (hp : Ht) (nx : Nat), HRel B0 w0 g hp.get nx w → AllRo hp → Opens P B0 w0 w g hp nx cs fun hp' nx' ls => Rp P hp' nx' n t ls ∧ ls.length = P.cellsOf t
theorem open_parts {n : Nat} : ∀ (parts : List (TypeId × List Value)), (∀ p ∈ parts, OpensAt P B0 w0 w n p.1 p.2) → ∀ (g : Gm) (hp : Ht) (nx : Nat), HRel B0 w0 g hp.get nx w → AllRo hp →
 ∃ (g' : Gm) (hp' : Ht) (nx' : Nat) (lss : List (List Value)), HRel B0 w0 g' hp'.get nx' w ∧ AllRo hp' ∧ g.le g' ∧ nx ≤ nx' ∧ HE nx hp hp' ∧ LRel g' lss.flatten (parts.map (·.2)).flatten ∧ lss.length = parts.length ∧
  ∀ (i : Nat) (p : TypeId × List Value) (l : List Value), parts[i]? = some p → lss[i]? = some l → Rp P hp' nx' n p.1 l ∧ l.length = P.cellsOf p.1
 | [], _, g, hp, nx, H0, ha => ⟨g, hp, nx, [], H0, ha, Gm.le_refl g, Nat.le_refl _, HE.refl _ _, LRel.nil g, rfl, fun i p l e => by simp at e⟩
 | p :: ps, h, g, hp, nx, H0, ha => by
  obtain ⟨g1, hp1, nx1, l1, H1, a1, e1, n1, he1, r1, q1, q2⟩ := h p (List.mem_cons_self ..) g hp nx H0 ha
  obtain ⟨g2, hp2, nx2, lss, H2, a2, e2, n2, he2, r2, k1, k2⟩ := open_parts ps (fun p' hp' => h p' (List.mem_cons_of_mem _ hp')) g1 hp1 nx1 H1 a1
  refine ⟨g2, hp2, nx2, l1 :: lss, H2, a2, Gm.le_trans e1 e2, by omega, he1.trans he2 n1, ?_, by simp [k1], fun i p' l a b => ?_⟩
  · simp only [List.flatten_cons, List.map_cons]
    exact (r1.mono e2).append r2
  · cases i with
    | zero => simp at a b; subst a; subst b; exact ⟨q1.mono he2 n2, q2⟩
    | succ i => exact k2 i p' l (by simpa using a) (by simpa using b)
theorem fields_flat {cs : List Value} : ∀ (fs : List Field) (o tot : Nat), contig P fs o tot = true → cs.length = tot → o ≤ tot → (fs.map fun f => (cs.drop f.offset).take (P.cellsOf f.type)).flatten = cs.drop o
 | [], o, tot, h, hl, _ => by
  have := beq_eq h
  subst this
  simp [hl]
 | f :: fs, o, tot, h, hl, hle => by
  simp only [contig, Bool.and_eq_true] at h
  have h1 := beq_eq h.1
  have hle2 : o + P.cellsOf f.type ≤ tot := contig_le fs _ _ h.2
  rw [List.map_cons, List.flatten_cons, fields_flat fs _ _ h.2 hl hle2, h1]
  rw [← List.drop_drop, List.take_append_drop]
where
 contig_le : ∀ (fs : List Field) (o tot : Nat), contig P fs o tot = true → o ≤ tot
  | [], o, tot, h => by have := beq_eq h; omega
  | f :: fs, o, tot, h => by
   simp only [contig, Bool.and_eq_true] at h
   have := contig_le fs _ _ h.2
   omega
theorem range_flat {cs : List Value} {s : Nat} : ∀ (k n : Nat), cs.length = n * s → k ≤ n → ((List.range k).map fun i => (cs.drop (i * s)).take s).flatten = cs.take (k * s)
 | 0, _, _, _ => by simp
 | k + 1, n, hl, hk => by
  rw [List.range_succ, List.map_append, List.flatten_append, range_flat k n hl (by omega)]
  simp only [List.map_cons, List.map_nil, List.flatten_cons, List.flatten_nil, List.append_nil]
  rw [Nat.succ_mul, List.take_add]
theorem add_off {ab ao i : Nat} : (Addr.mk ab ao none).add i = ⟨ab, ao + i, none⟩ := by
 unfold Addr.add
 split
 · rename_i h; subst h; rfl
 · rfl
theorem cell_block {a : Addr} {v : Value} (h : w.cell? a = some v) : ∃ rc el fz, w.heap[a.block]? = some (.cells rc el fz) ∧ a.spot = none ∧ rc[a.off]? = some v := by
 unfold World.cell? at h
 split at h
 · rename_i c el fz hh
   cases hs : a.spot with
   | none => rw [hs] at h; exact ⟨c, el, fz, hh, rfl, by simpa using h⟩
   | some _ => simp [hs] at h
 · cases h
theorem trod_scalar {n : Nat} {t : TypeId} {cs : List Value} {x : DataW H × List MemPlace} {held : Bool} (h : DataW.trod enc P w 0 (fun _ => true) held (n + 1) t cs = some x) :
 (P.underlying t = some .bool → ∃ b, cs = [.bool b]) ∧ (∀ k, P.underlying t = some (.int k) → ∃ z, cs = [.int k z] ∧ (Lit.int k z).wf = true) ∧ (P.underlying t = some .string → ∃ s, cs = [.string s] ∧ s.size ≤ maxLen) := by
 refine ⟨fun e => ?_, fun k e => ?_, fun e => ?_⟩
 · unfold DataW.trod at h
   rw [e] at h
   split at h <;> first | (exact ⟨_, rfl⟩) | (simp_all; done)
 · unfold DataW.trod at h
   rw [e] at h
   split at h <;> first | skip | (simp_all; done)
   all_goals first | (simp_all; done) | skip
   all_goals (rename_i k1 k2 z h1; cases h1; simp only at h; split at h; · rename_i h2; obtain ⟨rfl, h3⟩ := h2; exact ⟨_, rfl, h3⟩; · cases h)
 · unfold DataW.trod at h
   rw [e] at h
   split at h <;> first | skip | (simp_all; done)
   all_goals first | (simp_all; done) | skip
   all_goals (rename_i s h1; simp only at h; split at h; · rename_i h2; exact ⟨_, rfl, h2⟩; · cases h)
theorem trod_string {n : Nat} {t : TypeId} {s : ByteArray} {x : DataW H × List MemPlace} {held : Bool} (e : P.underlying t = some .string) (h : DataW.trod enc P w 0 (fun _ => true) held (n + 1) t [.string s] = some x) : x.1 = .lit (.string s.data.toList) := by
 unfold DataW.trod at h
 rw [e] at h
 simp only at h
 split at h
 · cases h; rfl
 · cases h
theorem weights_mem_all {e : TypeId} {d : DataW H} : ∀ {l : List (DataW H)}, d ∈ l → ∀ k ∈ d.weights P e, k ∈ DataW.weightsAll P e l
 | [], h, _, _ => by cases h
 | x :: l, h, k, hk => by
  unfold DataW.weightsAll
  rcases List.mem_cons.1 h with h | h
  · subst h; exact List.mem_append_left _ hk
  · exact List.mem_append_right _ (weights_mem_all h k hk)
theorem open_cells {held : Bool} (hS : ∀ t, S t = true → openTy P S t = true) : ∀ (n : Nat) (t : TypeId) (cs : List Value) (x : DataW H × List MemPlace), DataW.trod enc P w 0 (fun _ => true) held n t cs = some x → (∀ k ∈ x.1.weights P t, k ≤ reachBytes) → S t = true → OpensAt P B0 w0 w n t cs := by
 intro n
 induction n with
 | zero => intro t cs x h; simp [DataW.trod] at h
 | succ n ih =>
  intro t cs x h hwt hs g hp nx H0 ha
  have ht := hS t hs
  unfold openTy at ht
  have scalar : ∀ (v : Value), (∀ g' : Gm, VRel g' v v) → P.cellsOf t = 1 → cs = [v] → (Rp P hp nx (n + 1) t [v]) → Opens P B0 w0 w g hp nx cs fun hp' nx' ls => Rp P hp' nx' (n + 1) t ls ∧ ls.length = P.cellsOf t := fun v hv hc e hr => by
   subst e
   exact ⟨g, hp, nx, [v], H0, ha, Gm.le_refl g, Nat.le_refl _, HE.refl _ _, LRel.cons (hv g) (LRel.nil g), hr, by rw [hc]; rfl⟩
  split at ht
  · rename_i e
    obtain ⟨b, rfl⟩ := (trod_scalar h).1 e
    exact scalar (.bool b) (fun _ => .bool b) (beq_eq ht) rfl (by unfold Rp; rw [e]; exact ⟨b, rfl⟩)
  · rename_i k e
    obtain ⟨z, rfl, hw⟩ := (trod_scalar h).2.1 k e
    exact scalar (.int k z) (fun _ => .int k z) (beq_eq ht) rfl (by unfold Rp; rw [e]; exact ⟨z, rfl, hw⟩)
  · rename_i e
    obtain ⟨s, rfl, _⟩ := (trod_scalar h).2.2 e
    have hx1 := trod_string e h
    have hw : s.size ≤ reachBytes := by
     have := hwt s.data.toList.length (by rw [hx1]; simp [DataW.weights])
     rw [Array.length_toList] at this; exact this
    exact scalar (.string s) (fun _ => .string s) (beq_eq ht) rfl (by unfold Rp; rw [e]; exact ⟨s, rfl, hw⟩)
  · rename_i el e
    simp only [Bool.and_eq_true] at ht
    obtain ⟨hc, hse, hsz, hby⟩ := ht
    have hc := beq_eq hc
    have hsz := blt_iff.1 hsz
    have hby := blt_iff.1 hby
    rcases DataW.trod_slice e h with ⟨rfl, _⟩ | ⟨a, len, cap, elems, rest, n', hfuel, rfl, hx1, _, hlc, hcm, hlen, hel, hsp, _⟩
    · exact scalar (.slice none 0 0) (fun _ => .nilSlice) hc rfl (by unfold Rp; rw [e]; exact .inl rfl)
    · cases hfuel
      rcases Nat.eq_zero_or_pos cap with hz | hz
      · subst hz
        obtain rfl : len = 0 := by omega
        exact ⟨g, hp, nx, [.slice (some ⟨0, 0, none⟩) 0 0], H0, ha, Gm.le_refl g, Nat.le_refl _, HE.refl _ _, LRel.cons (.emptySlice ⟨0, 0, none⟩ a) (LRel.nil g), by unfold Rp; rw [e]; exact .inr (.inl rfl), by rw [hc]; rfl⟩
      · have hx1 : x.1 = .slice (elems.map (·.1)) (rest.map (·.1)) := by rw [hx1]
        have hcr : cap ≤ reachBytes := by
         have h1 := hwt ((elems.length + rest.length) * P.bytesOf el) (by rw [hx1]; simp [DataW.weights, e])
         obtain ⟨h2, _⟩ := hsp rfl
         have h3 := Nat.mul_le_mul_left (elems.length + rest.length) (show 1 ≤ P.bytesOf el by omega)
         omega
        have hwe : ∀ (i : Nat) (y : DataW H × List MemPlace), elems[i]? = some y → ∀ k ∈ y.1.weights P el, k ≤ reachBytes := fun i y hy k hk => by
         refine hwt k ?_
         rw [hx1]
         simp only [DataW.weights, e]
         exact List.mem_cons_of_mem _ (List.mem_append_left _ (weights_mem_all (List.mem_map.2 ⟨y, List.mem_of_getElem? hy, rfl⟩) k hk))
        have each : ∀ i, i < cap → ∃ c, w.cells? 0 (a.add (i * P.cellsOf el)) (P.cellsOf el) = some c ∧ (i < len → ∃ x, DataW.trod enc P w 0 (fun _ => true) held n el c = some x ∧ ∀ k ∈ x.1.weights P el, k ≤ reachBytes) := fun i hi => by
         rcases Nat.lt_or_ge i len with hil | hil
         · have k := hel i hil
           rw [List.getElem?_eq_getElem (by omega)] at k
           obtain ⟨c, k1, k2⟩ := Option.bind_eq_some_iff.1 k
           exact ⟨c, k1, fun _ => ⟨_, k2, hwe i _ (List.getElem?_eq_getElem (by omega))⟩⟩
         · obtain ⟨hr, k⟩ := hsp rfl
           have k := k (i - len) (by omega)
           rw [List.getElem?_eq_getElem (by omega), show len + (i - len) = i by omega] at k
           obtain ⟨c, k1, _⟩ := Option.bind_eq_some_iff.1 k
           exact ⟨c, k1, fun h => absurd h (by omega)⟩
        obtain ⟨c0, k0, _⟩ := each 0 hz
        obtain ⟨_, q1, q2⟩ := World.cells?_some k0
        have q3 := q2 0 hsz
        rw [List.getElem?_eq_getElem (by omega)] at q3
        have ha0 : (a.add (0 * P.cellsOf el)).add 0 = a := by simp [Addr.add]
        rw [ha0] at q3
        obtain ⟨rc, rel, fz, hh, hspot, _⟩ := cell_block q3
        obtain ⟨ab, ao, asp⟩ := a
        simp only at hh hspot
        subst hspot
        have cellAt : ∀ i, i < cap → ∃ c, w.cells? 0 ((Addr.mk ab ao none).add (i * P.cellsOf el)) (P.cellsOf el) = some c ∧ c = (rc.toList.drop (ao + i * P.cellsOf el)).take (P.cellsOf el) ∧ ao + (i + 1) * P.cellsOf el ≤ rc.size := fun i hi => by
         obtain ⟨c, k1, _⟩ := each i hi
         obtain ⟨_, p1, p2⟩ := World.cells?_some k1
         have p3 : ∀ j, j < P.cellsOf el → rc[ao + i * P.cellsOf el + j]? = c[j]? := fun j hj => by
          have p4 := p2 j hj
          rw [add_off, add_off] at p4
          unfold World.cell? at p4
          simp only [hh, Option.isSome_none, Bool.false_eq_true, if_false] at p4
          exact p4
         have p5 := p3 (P.cellsOf el - 1) (by omega)
         rw [List.getElem?_eq_getElem (show P.cellsOf el - 1 < c.length by omega)] at p5
         have p6 := getElem?_lt p5
         refine ⟨c, k1, ?_, by rw [Nat.succ_mul]; omega⟩
         refine List.ext_getElem? fun j => ?_
         rcases Nat.lt_or_ge j (P.cellsOf el) with hj | hj
         · rw [List.getElem?_take, if_pos hj, List.getElem?_drop, ← p3 j hj]; simp
         · rw [List.getElem?_eq_none (by omega), List.getElem?_eq_none (by simp; omega)]
        obtain ⟨_, _, _, hsize⟩ := cellAt (len - 1) (by omega)
        obtain ⟨_, _, _, hsize0⟩ := cellAt 0 hz
        have hsize : ao + len * P.cellsOf el ≤ rc.size := by
         rcases Nat.eq_zero_or_pos len with hl0 | hl0
         · subst hl0; simp at hsize0 ⊢; omega
         · rwa [show len - 1 + 1 = len by omega] at hsize
        let parts := (List.range len).map fun i => (el, (rc.toList.drop (ao + i * P.cellsOf el)).take (P.cellsOf el))
        have hparts : ∀ p ∈ parts, OpensAt P B0 w0 w n p.1 p.2 := fun p hp' => by
         obtain ⟨i, hi, rfl⟩ := List.mem_map.1 hp'
         have hi := List.mem_range.1 hi
         obtain ⟨c, k1, k2⟩ := each i (by omega)
         obtain ⟨x', k2, k2w⟩ := k2 hi
         obtain ⟨c', k3, k4, _⟩ := cellAt i (by omega)
         rw [k1] at k3; cases k3
         subst k4
         exact ih el _ x' k2 k2w hse
        obtain ⟨g1, hp1, nx1, lss, H1, a1, e1, n1, he1, r1, l1, v1⟩ := open_parts parts hparts g hp nx H0 ha
        have hflat : (parts.map (·.2)).flatten = (rc.toList.drop ao).take (len * P.cellsOf el) := by
         have := range_flat (cs := (rc.toList.drop ao).take (len * P.cellsOf el)) (s := P.cellsOf el) len len (by simp; omega) (Nat.le_refl _)
         rw [List.take_take, Nat.min_self] at this
         rw [← this]
         simp only [parts, List.map_map]
         congr 1
         refine List.map_congr_left fun i hi => ?_
         have hi := List.mem_range.1 hi
         have hmul : (i + 1) * P.cellsOf el ≤ len * P.cellsOf el := Nat.mul_le_mul_right _ (by omega)
         rw [Nat.succ_mul] at hmul
         simp only [Function.comp]
         refine List.ext_getElem? fun j => ?_
         rw [List.getElem?_take, List.getElem?_take]
         split
         · rw [List.getElem?_drop, List.getElem?_drop, List.getElem?_take, if_pos (by omega), List.getElem?_drop, Nat.add_assoc]
         · rfl
        rw [hflat] at r1
        obtain ⟨g2, H2, a2, e2, b2, he2⟩ := H1.layRo a1 hh hsize r1
        refine ⟨g2, _, _, [.slice (some ⟨nx1, 0, none⟩) len cap], H2, a2, Gm.le_trans e1 e2, by omega, he1.trans he2 n1, LRel.cons (.slice (off := 0) b2 hlc (.inl rfl)) (LRel.nil _), ?_, by rw [hc]; rfl⟩
        unfold Rp
        rw [e]
        refine .inr (.inr ⟨nx1, len, cap, lss, rfl, hz, hlc, hcr, Nat.lt_succ_self _, Tr.get_same .., by simpa [parts] using l1, fun l hl => ?_⟩)
        obtain ⟨i, hi, rfl⟩ := List.mem_iff_getElem.1 hl
        have hi' : i < parts.length := by rw [← l1]; exact hi
        obtain ⟨w1, w2⟩ := v1 i _ _ (List.getElem?_eq_getElem hi') (List.getElem?_eq_getElem hi)
        have hpt : (parts[i]).1 = el := by simp [parts]
        rw [hpt] at w1 w2
        exact ⟨w1.mono he2 (Nat.le_succ _), w2⟩
  · rename_i fs e
    simp only [Bool.and_eq_true] at ht
    obtain ⟨xs, n', hfuel, hx1, hl, hxl, hx⟩ := DataW.trod_struct e h
    cases hfuel
    have hx1 : x.1 = .agg (xs.map (·.1)) := by rw [hx1]
    have hparts : ∀ p ∈ fs.toList.map (fun f => (f.type, (cs.drop f.offset).take (P.cellsOf f.type))), OpensAt P B0 w0 w n p.1 p.2 := fun p hp' => by
     obtain ⟨f, hf, rfl⟩ := List.mem_map.1 hp'
     obtain ⟨i, hi, rfl⟩ := List.mem_iff_getElem.1 hf
     have hi' : i < fs.size := by simpa using hi
     have k := hx i fs[i] (Array.getElem?_eq_getElem hi')
     rw [List.getElem?_eq_getElem (by omega)] at k
     refine ih _ _ _ k (fun q hq => hwt q ?_) (List.all_eq_true.1 ht.1 _ hf)
     rw [hx1]
     simp only [DataW.weights, e]
     exact DataW.weights_mem_each (j := i) (t := fs[i].type) (by rw [List.getElem?_map, Array.getElem?_toList, Array.getElem?_eq_getElem hi']; rfl) (by rw [List.getElem?_map, List.getElem?_eq_getElem (by omega)]; rfl) q hq
    obtain ⟨g1, hp1, nx1, lss, H1, a1, e1, n1, he1, r1, l1, v1⟩ := open_parts _ hparts g hp nx H0 ha
    have hflat := fields_flat (P := P) (cs := cs) fs.toList 0 _ ht.2 hl (Nat.zero_le _)
    rw [List.map_map] at r1
    have hfun : ((fun p : TypeId × List Value => p.2) ∘ fun f : Field => (f.type, (cs.drop f.offset).take (P.cellsOf f.type))) = fun f => (cs.drop f.offset).take (P.cellsOf f.type) := rfl
    rw [hfun, hflat, List.drop_zero] at r1
    refine ⟨g1, hp1, nx1, lss.flatten, H1, a1, e1, n1, he1, r1, ?_, r1.1.trans hl⟩
    unfold Rp
    rw [e]
    refine ⟨lss, rfl, by simpa using l1, fun i f l hf hl' => ?_⟩
    exact v1 i (f.type, (cs.drop f.offset).take (P.cellsOf f.type)) l (by rw [List.getElem?_map, Array.getElem?_toList, hf]; rfl) hl'
  · rename_i m el e
    simp only [Bool.and_eq_true] at ht
    have hcl := beq_eq ht.2
    obtain ⟨xs, n', hfuel, hx1, hl, hxl, hx⟩ := DataW.trod_array e h
    cases hfuel
    have hx1 : x.1 = .agg (xs.map (·.1)) := by rw [hx1]
    have hparts : ∀ p ∈ (List.range m).map (fun i => (el, (cs.drop (i * P.cellsOf el)).take (P.cellsOf el))), OpensAt P B0 w0 w n p.1 p.2 := fun p hp' => by
     obtain ⟨i, hi, rfl⟩ := List.mem_map.1 hp'
     have hi := List.mem_range.1 hi
     have k := hx i hi
     rw [List.getElem?_eq_getElem (by omega)] at k
     refine ih _ _ _ k (fun q hq => hwt q ?_) ht.1
     rw [hx1]
     simp only [DataW.weights, e]
     exact weights_mem_all (List.mem_map.2 ⟨_, List.getElem_mem (by omega), rfl⟩) q hq
    obtain ⟨g1, hp1, nx1, lss, H1, a1, e1, n1, he1, r1, l1, v1⟩ := open_parts _ hparts g hp nx H0 ha
    rw [List.map_map] at r1
    have hfun : ((fun p : TypeId × List Value => p.2) ∘ fun i : Nat => (el, (cs.drop (i * P.cellsOf el)).take (P.cellsOf el))) = fun i => (cs.drop (i * P.cellsOf el)).take (P.cellsOf el) := rfl
    rw [hfun, range_flat m m (hl.trans hcl) (Nat.le_refl _), List.take_of_length_le (by rw [hl, hcl]; exact Nat.le_refl _)] at r1
    refine ⟨g1, hp1, nx1, lss.flatten, H1, a1, e1, n1, he1, r1, ?_, r1.1.trans hl⟩
    unfold Rp
    rw [e]
    refine ⟨lss, rfl, by simpa using l1, fun l hl' => ?_⟩
    obtain ⟨i, hi, rfl⟩ := List.mem_iff_getElem.1 hl'
    have hi' : i < m := by rw [l1] at hi; simpa using hi
    exact v1 i (el, (cs.drop (i * P.cellsOf el)).take (P.cellsOf el)) _ (by rw [List.getElem?_map, List.getElem?_range hi']; rfl) (List.getElem?_eq_getElem hi)
  · cases ht
def argOf (P : Program) (t : TypeId) (ls : List Value) : Value := match P.underlying t with
 | some (.struct _) => .agg ls.toArray
 | some (.array _ _) => .agg ls.toArray
 | _ => ls.headD undef
def ArgsRp (P : Program) (hp : Ht) (nx : Nat) : List TypeId → List Value → Prop
 | [], [] => True
 | t :: ts, v :: vs => (∃ n ls, Rp P hp nx n t ls ∧ ls.length = P.cellsOf t ∧ v = argOf P t ls) ∧ ArgsRp P hp nx ts vs
 | _, _ => False
theorem argOf_rel {g : Gm} {r : Reach} {base n : Nat} {hp : Ht} {nx : Nat} {t : TypeId} {ls : List Value} {v : Value} (hs : openTy P S t = true) (hr : Rp P hp nx n t ls) (hl : LRel g ls v.cells.toList) (hok : Value.okWide P w r base t v) : VRel g (argOf P t ls) v := by
 have one : ∀ x, ls = [x] → (∀ cs, v ≠ .agg cs) → VRel g x v := fun x hx hv => by
  subst hx
  have : v.cells = #[v] := by
   cases v <;> first | rfl | exact absurd rfl (hv _)
  rw [this] at hl
  exact hl.head
 have many : (∃ cs, v = .agg cs) → VRel g (.agg ls.toArray) v := fun ⟨cs, hv⟩ => by
  subst hv
  have h := LRel.toArray hl
  exact .agg h.1 h.2
 cases n with
 | zero => exact hr.elim
 | succ n =>
  unfold openTy at hs
  unfold argOf
  unfold Rp at hr
  unfold Value.okWide at hok
  split at hs
  · rename_i e
    rw [e] at hr hok ⊢
    obtain ⟨b, rfl⟩ := hr
    exact one _ rfl fun cs hc => by subst hc; simp [Cell.okWide, Cell.ok, e] at hok
  · rename_i k e
    rw [e] at hr hok ⊢
    obtain ⟨b, rfl, _⟩ := hr
    exact one _ rfl fun cs hc => by subst hc; simp [Cell.okWide, Cell.ok, e] at hok
  · rename_i e
    rw [e] at hr hok ⊢
    obtain ⟨b, rfl, _⟩ := hr
    exact one _ rfl fun cs hc => by subst hc; simp [Cell.okWide, Cell.ok, e] at hok
  · rename_i el e
    rw [e] at hr hok ⊢
    have hv : ∀ cs, v ≠ .agg cs := fun cs hc => by subst hc; simp [Cell.okWide, Cell.ok, e] at hok
    rcases hr with rfl | rfl | ⟨b, len, cap, lss, rfl, _⟩
    · exact one _ rfl hv
    · exact one _ rfl hv
    · exact one _ rfl hv
  · rename_i fs e
    rw [e] at hok ⊢
    obtain ⟨cs, hc, _⟩ := hok
    exact many ⟨cs, hc⟩
  · rename_i m el e
    rw [e] at hok ⊢
    obtain ⟨cs, hc, _⟩ := hok
    exact many ⟨cs, hc⟩
  · cases hs
theorem open_args {held : Bool} {r : Reach} {base : Nat} (hS : ∀ t, S t = true → openTy P S t = true) : ∀ (ts : List TypeId) (vs : List Value) (ds : List (DataW H)) (ps : List MemPlace), DataW.TrodAll enc P w 0 (fun _ => true) held ts vs ds ps → (∀ k ∈ DataW.weightsEach P ts ds, k ≤ reachBytes) →
 (∀ (j : Nat) t v, ts[j]? = some t → vs[j]? = some v → Value.okWide P w r base t v) → (∀ t ∈ ts, S t = true) → ∀ (g : Gm) (hp : Ht) (nx : Nat), HRel B0 w0 g hp.get nx w → AllRo hp → Opens P B0 w0 w g hp nx vs fun hp' nx' lvs => ArgsRp P hp' nx' ts lvs
 | [], [], [], _, _, _, _, _, g, hp, nx, H0, ha => ⟨g, hp, nx, [], H0, ha, Gm.le_refl g, Nat.le_refl _, HE.refl _ _, LRel.nil g, trivial⟩
 | t :: ts, v :: vs, d :: ds, ps, h, hwt, hok, hts, g, hp, nx, H0, ha => by
  obtain ⟨p, q, ⟨fuel, h1⟩, h2, _⟩ := h
  have hst := hts t (List.mem_cons_self ..)
  obtain ⟨g1, hp1, nx1, ls, H1, a1, e1, n1, he1, r1, k1, k2⟩ := open_cells hS fuel t _ _ h1 (fun k hk => hwt k (by unfold DataW.weightsEach; exact List.mem_append_left _ hk)) hst g hp nx H0 ha
  have hv := argOf_rel (hS t hst) k1 r1 (hok 0 t v rfl rfl)
  obtain ⟨g2, hp2, nx2, lvs, H2, a2, e2, n2, he2, r2, k3⟩ := open_args hS ts vs ds q h2 (fun k hk => hwt k (by unfold DataW.weightsEach; exact List.mem_append_right _ hk)) (fun j t' v' e e' => hok (j + 1) t' v' e e') (fun t' ht' => hts t' (List.mem_cons_of_mem _ ht')) g1 hp1 nx1 H1 a1
  exact ⟨g2, hp2, nx2, argOf P t ls :: lvs, H2, a2, Gm.le_trans e1 e2, by omega, he1.trans he2 n1, LRel.cons (hv.mono e2) r2, ⟨fuel, ls, k1.mono he2 n2, k2, rfl⟩, k3⟩
 | [], _ :: _, _, _, h, _, _, _, _, _, _, _, _ => h.elim
 | [], [], _ :: _, _, h, _, _, _, _, _, _, _, _ => h.elim
 | _ :: _, [], _, _, h, _, _, _, _, _, _, _, _ => h.elim
 | _ :: _, _ :: _, [], _, h, _, _, _, _, _, _, _, _ => h.elim
end
def gLaid (ng : Nat) : Gm := ⟨fun b => if b < ng then some (b, 0) else none, fun _ => none⟩
def LaidAt (tbs : List TB) (w : World) : Prop := ∀ tb ∈ tbs, ∀ (j : Nat) (v : Value), tb.cs[j]? = some v → w.cell? ⟨tb.num, j, none⟩ = some v
def tbPlain (ng : Nat) (tb : TB) : Bool := Nat.blt tb.num ng && (tb.cs.all (plainV 4) && (Nat.blt 0 tb.cs.length && !tb.grp))
theorem allRo_lay0 : ∀ (tbs : List TB) (h : Ht), tbs.all (fun tb => !tb.grp) = true → AllRo h → AllRo (lay0 tbs h)
 | [], _, _, ha => ha
 | tb :: tbs, h, hg, ha => by
  simp only [List.all_cons, Bool.and_eq_true, Bool.not_eq_true'] at hg
  refine allRo_lay0 tbs _ hg.2 fun b o e => ?_
  unfold layB at e
  rw [hg.1, cond_false, Tr.get_set] at e
  by_cases hb : b = 0 + tb.num
  · subst hb; rw [Hp.set_same] at e; cases e; exact ⟨_, _, rfl, rfl⟩
  · rw [Hp.set_other _ _ hb] at e; exact ha b o e
theorem startLaid {tbs : List TB} {ng : Nat} {w : World} (hs : ng ≤ w.heap.size) (hn : numsOk 0 ng tbs = true) (hcb : tbs.all (tbPlain ng) = true) (hl : LaidAt tbs w) : HRel w.heap.size w (gLaid ng) (lay0 tbs .nil).get ng w ∧ AllRo (lay0 tbs .nil) := by
 have Hn : HRel w.heap.size w (gLaid ng) (Tr.nil : Ht).get ng w := by
  refine ⟨Below.refl _ _, Nat.le_refl _, fun b rb ro k => ?_, fun b o k => (by cases k), fun b ms k => (by cases k), fun b cs m gr k => (by cases k), fun b1 b2 o1 o2 r r1 r2 _ k => (by cases k), fun b x k => by cases k⟩
  simp only [gLaid] at k
  split at k
  · cases k; exact ⟨by omega, by omega⟩
  · cases k
 refine ⟨lay0_ok (rbs := fun _ => True) tbs 0 .nil hn Hn (fun rb _ b o r1 k => by cases k) (fun b _ => rfl) (fun tb ht hg => ?_) (fun tb ht rb ro k => ?_), allRo_lay0 tbs _ ?_ fun b o e => by cases e⟩
 · exfalso
   have := List.all_eq_true.1 hcb tb ht
   simp only [tbPlain, Bool.and_eq_true, Bool.not_eq_true'] at this
   rw [this.2.2.2] at hg; cases hg
 · refine ⟨trivial, ?_⟩
   rw [Nat.zero_add] at k ⊢
   have := List.all_eq_true.1 hcb tb ht
   simp only [tbPlain, Bool.and_eq_true, Bool.not_eq_true'] at this
   obtain ⟨c0, c1, c2, c3⟩ := this
   have c0 := blt_iff.1 c0
   have c2 := blt_iff.1 c2
   simp only [gLaid, if_pos c0] at k
   cases k
   have hcell := hl tb ht
   have hex : ∃ rc el fz, w.heap[tb.num]? = some (.cells rc el fz) ∧ tb.cs.length ≤ rc.size := by
    have h1 := hcell (tb.cs.length - 1) tb.cs[tb.cs.length - 1] (List.getElem?_eq_getElem (by omega))
    obtain ⟨rc, el, fz, hh, _, h2⟩ := cell_block h1
    exact ⟨rc, el, fz, hh, by have := getElem?_lt h2; simp only at this; omega⟩
   obtain ⟨rc, el, fz, hh, hsz⟩ := hex
   refine ⟨_, hh, ⟨by omega, fun i v v' e e' => ?_, (fun k => by cases k), (fun gr k => by rw [c3] at k; cases k), (fun _ => rfl)⟩⟩
   have h2 := hcell i v e
   unfold World.cell? at h2
   simp only [hh, Option.isSome_none, Bool.false_eq_true, if_false] at h2
   rw [Nat.zero_add] at e'
   rw [e'] at h2
   cases h2
   exact VRel.of_plain _ 4 v (List.all_eq_true.1 c1 v (List.mem_of_getElem? e))
 · exact List.all_eq_true.2 fun tb ht => by
    have := List.all_eq_true.1 hcb tb ht
    simp only [tbPlain, Bool.and_eq_true] at this
    exact this.2.2.2
theorem globLaid (ng : Nat) : GlobOk (gLaid ng) ng := fun i hi => by simp [gLaid, hi]
end
end Sw

namespace Sw
noncomputable section
open Go Go.RowKit Go.ChangeShapes
section
variable {H : Type} {enc : TypeId × Value → H} {P : Program}
theorem trodAll_stays (hl : laidOutB P = true) {W W' : World} (hb : Below W.heap.size W W') : ∀ {ts : List TypeId} {vs : List Value} {ds : List (DataW H)} {ps : List MemPlace}, (∀ t ∈ ts, P.readableRec t = true ∧ t < P.types.size) →
 DataW.TrodAll enc P W 0 (fun _ => true) true ts vs ds ps → (∀ x ∈ ps, x.block < W.heap.size) → DataW.TrodAll enc P W' 0 (fun b => decide (b < W.heap.size)) true ts vs ds ps
 | [], [], [], _, _, h, _ => h
 | t :: ts, v :: vs, d :: ds, _, hr, h, hlt => by
  obtain ⟨p, q, h1, h2, rfl⟩ := h
  obtain ⟨r1, r2⟩ := hr t (List.mem_cons_self ..)
  exact ⟨p, q, Below.trod hl r1 r2 h1 hb (fun x hx => hlt x (List.mem_append_left _ hx)), trodAll_stays hl hb (fun t ht => hr t (List.mem_cons_of_mem _ ht)) h2 (fun x hx => hlt x (List.mem_append_right _ hx)), rfl⟩
 | [], _ :: _, _, _, _, h, _ => h.elim
 | [], [], _ :: _, _, _, h, _ => h.elim
 | _ :: _, [], _, _, _, h, _ => h.elim
 | _ :: _, _ :: _, [], _, _, h, _ => h.elim
theorem post_true {f : Func} {s : ChangeSpec} {apart fresh handsOn : Bool} {W W' : World} {args : Array Value} {ds gs : List (DataW H)} {before : List MemPlace} {t : TypeId} (hl : laidOutB P = true)
 (hW : DataW.Whole enc P f.params.toList s.vars apart W args.toList ds gs before) (hv : s.vars = []) (hs : s.fn H (ds ++ gs) = { results := [.lit (.bool true)], args := ds }) (hr : f.resultTypes = #[t]) (hu : P.underlying t = some .bool)
 (hp : ∀ t ∈ f.params.toList, P.readableRec t = true ∧ t < P.types.size) (hb : Below W.heap.size W W') : s.post enc P f apart fresh handsOn false W args (.bool true) W' := by
 have hW' := hW
 obtain ⟨p, q, hA, hV, rfl, _, _⟩ := hW
 refine ⟨ds, gs, p ++ q, [], p, [], hW', ?_, ?_, ?_, ?_, fun h => by cases h⟩
 · rw [hs, hr]
   exact trodAll_mk1 (shut_bool hu true)
 · rw [hs]
   exact trodAll_stays hl hb hp hA (fun x hx => hW'.lt x (List.mem_append_left _ hx))
 · rw [hs, hv]; rfl
 · exact hb.frame _
theorem weightsEach_more {us : List TypeId} {gs : List (DataW H)} : ∀ {ts : List TypeId} {ds : List (DataW H)} {k : Nat}, k ∈ DataW.weightsEach P ts ds → k ∈ DataW.weightsEach P (ts ++ us) (ds ++ gs)
 | [], _, _, h => by simp [DataW.weightsEach] at h
 | _ :: _, [], _, h => by simp [DataW.weightsEach] at h
 | t :: ts, d :: ds, k, h => by
  simp only [List.cons_append, DataW.weightsEach] at h ⊢
  rcases List.mem_append.1 h with h | h
  · exact List.mem_append_left _ h
  · exact List.mem_append_right _ (weightsEach_more h)
theorem returns_true {C : Checked} {os : Os} {f : FuncId} {fn : Func} {s : ChangeSpec} {apart fresh handsOn : Bool} {X : World → Array Value → Prop} {t : TypeId}
 (hX : ∀ (w w' : World) (args : Array Value), w.heap = w'.heap → X w args → X w' args)
 (own : ownKnob C.prog.godebug = none) (started : os.Started) (noInit : C.prog.inits.idxOf? f = none) (hfn : C.prog.funcs[f]? = some fn)
 (witness : ∃ (w : World) (tape : Tape) (i : Input), w.os = os ∧ (w.forCall tape i).Shaped C.prog ∧ i.vars = [] ∧ Input.okWide C.prog (w.forCall tape i) .any w.heap.size f i ∧
  ((s.pre enc C.prog fn [] apart (w.forCall tape i).memory i.args ∧ X (w.forCall tape i).memory i.args) ∧ sizedMet enc C.prog fn (OpenSpec.ofChange s) apart (w.forCall tape i).memory i.args) ∧ ({} : Assume).holds C.prog (lone (Frame.enter C.prog f i.args .normal) [] (w.forCall tape i)))
 (hl : laidOutB C.prog = true) (hv : s.vars = []) (hr : fn.resultTypes = #[t]) (hu : C.prog.underlying t = some .bool) (hp : ∀ t ∈ fn.params.toList, C.prog.readableRec t = true ∧ t < C.prog.types.size)
 (contract : ∀ (W : World) (base : Nat) (args : Array Value) (ds gs : List (DataW H)) (before p : List MemPlace),
  (∀ (j : Nat) t v, fn.params[j]? = some t → args[j]? = some v → Value.okWide C.prog W .any base t v) →
  DataW.TrodAll enc C.prog W 0 (fun _ => true) true fn.params.toList args.toList ds p → (∀ k ∈ DataW.weightsEach C.prog fn.params.toList ds, k ≤ reachBytes) → gs = [] →
  X W args → W.ShapedOpen C.prog →
  s.fn H (ds ++ gs) = { results := [.lit (.bool true)], args := ds } ∧ Calls C.prog f args W fun e W' => e = .returned (.bool true) ∧ Below W.heap.size W W') :
 ReturnsInHanded {} C os f .any (fun w args => (s.pre enc C.prog fn [] apart w args ∧ X w args) ∧ sizedMet enc C.prog fn (OpenSpec.ofChange s) apart w args) (s.post enc C.prog fn apart fresh handsOn false) := by
 refine returnsInHanded_of_calls own started noInit witness ?_
 intro w tape i _ hsh _ hok hpre _
 obtain ⟨_, _, _, fn', hfn', _, _, _, _, hval⟩ := hok
 have e : fn' = fn := Option.some.inj (hfn'.symm.trans hfn)
 subst e
 obtain ⟨⟨⟨ds, gs, before, hw, hc⟩, hx⟩, hz⟩ := hpre
 have hw' := DataW.Whole.of_heap (w' := w.forCall tape i) (by rfl) hw
 have hw2 := hw'
 obtain ⟨p, q, hA, hV, _, _, _⟩ := hw2
 have hgs : gs = [] := by
  rw [hv] at hV
  cases gs with
  | nil => rfl
  | cons a b => exact hV.elim
 obtain ⟨hs, hcalls⟩ := contract (w.forCall tape i) w.heap.size i.args ds gs before p hval hA (fun k hk => of_decide_eq_true (List.all_eq_true.1 (sizedMet.weights hz hw) k (weightsEach_more hk))) hgs (hX _ _ _ (by rfl) hx) hsh
 refine hcalls.mono fun e W' ⟨he, hb⟩ => ?_
 subst he
 exact ChangeSpec.post_blind (post_true hl hw' hv hs hr hu hp hb)
end
end
end Sw

namespace Sw
noncomputable section
open Go Go.RowKit Go.ChangeShapes
section
variable {P : Program} {hp : Ht} {nx : Nat}
def structTys (P : Program) (t : TypeId) : Option (List TypeId) := match P.underlying t with
 | some (.struct fs) => some (fs.toList.map (·.type))
 | _ => none
def RpAll (P : Program) (hp : Ht) (nx n : Nat) : List TypeId → List (List Value) → Prop
 | [], [] => True
 | t :: ts, l :: ls => Rp P hp nx n t l ∧ RpAll P hp nx n ts ls
 | _, _ => False
theorem RpAll.of {n : Nat} : ∀ (ts : List TypeId) (lss : List (List Value)), lss.length = ts.length → (∀ (i : Nat) (t : TypeId) (l : List Value), ts[i]? = some t → lss[i]? = some l → Rp P hp nx n t l) → RpAll P hp nx n ts lss
 | [], [], _, _ => trivial
 | t :: ts, l :: ls, h, k => ⟨k 0 t l rfl rfl, RpAll.of ts ls (by simpa using h) fun i t' l' a b => k (i + 1) t' l' a b⟩
 | [], _ :: _, h, _ => by simp at h
 | _ :: _, [], h, _ => by simp at h
theorem Rp.fields {k : Nat} {t : TypeId} {ls : List Value} {ts : List TypeId} (hu : structTys P t = some ts) (h : Rp P hp nx k t ls) : ∃ n lss, ls = lss.flatten ∧ RpAll P hp nx n ts lss := by
 cases k with
 | zero => exact h.elim
 | succ n =>
  unfold structTys at hu
  unfold Rp at h
  split at hu
  · rename_i fs e
    cases hu
    rw [e] at h
    obtain ⟨lss, h1, h2, h3⟩ := h
    refine ⟨n, lss, h1, RpAll.of _ _ (by simpa using h2) fun i t l a b => ?_⟩
    rw [List.getElem?_map, Array.getElem?_toList, Option.map_eq_some_iff] at a
    obtain ⟨f, hf, rfl⟩ := a
    exact (h3 i f l hf b).1
  · cases hu
theorem Rp.int {k : Nat} {t : TypeId} {ls : List Value} {ik : IntKind} (hu : P.underlying t = some (.int ik)) (h : Rp P hp nx k t ls) : ∃ z : Int, ls = [.int ik z] ∧ (Lit.int ik z).wf = true := by
 cases k with
 | zero => exact h.elim
 | succ n => unfold Rp at h; rw [hu] at h; exact h
theorem Rp.bool {k : Nat} {t : TypeId} {ls : List Value} (hu : P.underlying t = some .bool) (h : Rp P hp nx k t ls) : ∃ b : Bool, ls = [.bool b] := by
 cases k with
 | zero => exact h.elim
 | succ n => unfold Rp at h; rw [hu] at h; exact h
theorem Rp.string {k : Nat} {t : TypeId} {ls : List Value} (hu : P.underlying t = some .string) (h : Rp P hp nx k t ls) : ∃ s : ByteArray, ls = [.string s] ∧ s.size ≤ reachBytes := by
 cases k with
 | zero => exact h.elim
 | succ n => unfold Rp at h; rw [hu] at h; exact h
theorem each_enc {α : Type} {enc : α → List Value} {E : α → Prop} : ∀ (lss : List (List Value)), (∀ l ∈ lss, ∃ x, l = enc x ∧ E x) → ∃ xs : List α, lss = xs.map enc ∧ ∀ x ∈ xs, E x
 | [], _ => ⟨[], rfl, fun x h => by cases h⟩
 | l :: lss, h => by
  obtain ⟨x, rfl, hx⟩ := h l (List.mem_cons_self ..)
  obtain ⟨xs, rfl, hxs⟩ := each_enc lss fun l hl => h l (List.mem_cons_of_mem _ hl)
  exact ⟨x :: xs, rfl, fun y hy => by
   rcases List.mem_cons.1 hy with rfl | hy
   · exact hx
   · exact hxs y hy⟩
theorem Rp.slice {α : Type} {enc : α → List Value} {m : Nat} {E : Ht → Nat → α → Prop} {k : Nat} {t e : TypeId} {ls : List Value} (hu : P.underlying t = some (.slice e)) (hlen : ∀ x, (enc x).length = m) (he : ∀ k l, Rp P hp nx k e l → ∃ x : α, l = enc x ∧ E hp nx x) (h : Rp P hp nx k t ls) :
 ∃ s : SV α, ls = [s.v] ∧ SlOk enc m E hp nx s := by
 cases k with
 | zero => exact h.elim
 | succ n =>
  unfold Rp at h; rw [hu] at h
  rcases h with rfl | rfl | ⟨b, len, cap, lss, rfl, h0, hlc, hcm, hb, hh, hl, hr⟩
  · exact ⟨⟨_, []⟩, rfl, ⟨fun x h => (by cases h), .inl ⟨rfl, .inl rfl⟩, by show (0 : Nat) < _; decide⟩, fun x h => (by cases h)⟩
  · exact ⟨⟨_, []⟩, rfl, ⟨fun x h => (by cases h), .inl ⟨rfl, .inr rfl⟩, by show (0 : Nat) < _; decide⟩, fun x h => (by cases h)⟩
  · obtain ⟨xs, rfl, hxs⟩ := each_enc lss fun l hl => he n l (hr l hl).1
    rw [List.length_map] at hl
    refine ⟨⟨_, xs⟩, rfl, ⟨fun x _ => hlen x, .inr ⟨b, cap, _, by rw [← hl], h0, hb, by rw [hh, List.flatMap_def]⟩, ?_⟩, hxs⟩
    have : reachBytes < 281474976710656 := by decide
    show xs.length < _
    omega
theorem Rp.slice1 {α : Type} {enc : α → List Value} {m : Nat} {k : Nat} {t e : TypeId} {ls : List Value} (hu : P.underlying t = some (.slice e)) (hlen : ∀ x, (enc x).length = m) (he : ∀ k l, Rp P hp nx k e l → ∃ x : α, l = enc x) (h : Rp P hp nx k t ls) :
 ∃ s : SV α, ls = [s.v] ∧ SOk enc m hp nx s := by
 obtain ⟨s, h1, h2⟩ := Rp.slice (E := fun _ _ _ => True) hu hlen (fun k l h => by obtain ⟨x, hx⟩ := he k l h; exact ⟨x, hx, trivial⟩) h
 exact ⟨s, h1, h2.1⟩
end
theorem mtB_keep {hp hp' : Ht} (h : ∀ b o, hp.get b = some o → hp'.get b = some o) : ∀ (tbs : List TB) (A : Assoc) {A1 : Assoc}, mtB hp false tbs A = some A1 → mtB hp' false tbs A = some A1
 | [], A, A1, k => k
 | tb :: tbs, A, A1, k => by
  unfold mtB at k ⊢
  cases hl : look tb.num A with
  | none => rw [hl] at k; cases k
  | some b =>
   rw [hl] at k
   simp only at k ⊢
   cases hb : hp.get b with
   | none => rw [hb] at k; cases k
   | some o =>
    rw [hb] at k
    rw [h b o hb]
    cases o with
    | cells cs m =>
     simp only at k ⊢
     cases hg : grpOk m tb && (!false || !m.ro) with
     | false => rw [hg] at k; cases k
     | true =>
      rw [hg] at k
      simp only [cond_true] at k ⊢
      cases hm : mtL (mtV 8) cs tb.cs A with
      | none => rw [hm] at k; cases k
      | some A2 => rw [hm] at k; exact mtB_keep h tbs A2 k
    | _ => cases k
def useOk (ng : Nat) (tbs : List TB) : Bool := match mtB (lay0 tbs .nil) false tbs (idA ng) with
 | some A1 => grpFree A1 tbs && keysLt ng A1
 | none => false
theorem use_plain {ng : Nat} {tbs : List TB} (hk : useOk ng tbs = true) {hp : Ht} {nx : Nat} (h : ∀ b o, (lay0 tbs .nil).get b = some o → hp.get b = some o) : useTs ng [⟨[], tbs, ng, .bool true, [], 0⟩] [] hp nx = some (.bool true, hp, nx) := by
 unfold useOk at hk
 split at hk
 · rename_i A1 e
   rw [Bool.and_eq_true] at hk
   have e2 := mtB_keep h tbs (idA ng) e
   have : useT ng ⟨[], tbs, ng, .bool true, [], 0⟩ [] hp nx = some (.bool true, hp, nx) := by
    unfold useT
    simp only [mtL, e2, hk.1, hk.2, Bool.and_self, cond_true]
    rfl
   simp only [useTs, this]
 · cases hk
theorem sane_wf {e : Env} {ng : Nat} {tbs : List TB} {f : FuncId} (hK : e.K f = some (kOfT ng [⟨[], tbs, ng, .bool true, [], 0⟩])) (hk : useOk ng tbs = true) {hp : Ht} {nx : Nat} (h : ∀ b o, (lay0 tbs .nil).get b = some o → hp.get b = some o) : WF e f [] hp nx (Stays nx hp (BoolIs True)) :=
 .tmpl hK (use_plain hk h) ⟨⟨true, rfl, fun _ => trivial, fun _ => rfl⟩, Nat.le_refl _, HE.refl _ _⟩
theorem CallLands.of_calls {P : Program} {B0 : Nat} {w0 : World} {g : Gm} {hp : Ht} {nx : Nat} {w : World} {f : FuncId} {args : Array Value} {v v' : Value} (H : HRel B0 w0 g hp.get nx w) (hv : VRel g v v') (h : Calls P f args w fun e w' => e = .returned v' ∧ w' = w) :
 CallLands P B0 w0 .normal g nx f args w v hp nx := by
 refine ⟨v', w, g, H, hv, Ext.refl _ _ _, fun cs => ?_⟩
 obtain ⟨e, w', fr, ⟨rfl, rfl⟩, st, hf, h1, h2, h3, h4⟩ := h cs
 exact ⟨fr, st, h1, h2, h3, hf, h4⟩
theorem below_cell {B0 : Nat} {w0 w : World} (h : Below B0 w0 w) {b o : Nat} (hb : b < B0) : w.cell? ⟨b, o, none⟩ = w0.cell? ⟨b, o, none⟩ := by
 unfold World.cell?
 simp only [h.block b hb]
theorem WF.callsTrue {P : Program} {ng B0 : Nat} {w0 : World} {e : Env} {g : Gm} {hp : Ht} {nx : Nat} {w : World} (ok : EnvOk P ng e) (kok : KOk P ng B0 w0 e) (H : HRel B0 w0 g hp.get nx w) (hg : GlobOk g ng) {f : FuncId} {l : List Value} {args : Array Value} (hl : LRel g l args.toList)
 (h : WF e f l hp nx (fun v _ _ => v = .bool true)) : Calls P f args w fun en w' => en = .returned (.bool true) ∧ Below B0 w0 w' := by
 obtain ⟨v, hp', nx', ⟨n0, h1⟩, rfl⟩ := h
 refine Sw.calls_true ok kok H hg hl n0 1 ?_
 simp only [explore, h1 n0 (Nat.le_refl _)]
 rfl
theorem BoolIs.isTrue {v : Value} (h : BoolIs True v) : v = .bool true := by
 obtain ⟨c, rfl, h⟩ := h
 rw [h.2 trivial]
theorem size_of_cell {w : World} {b o : Nat} {v : Value} (h : w.cell? ⟨b, o, none⟩ = some v) : b < w.heap.size := by
 unfold World.cell? at h
 simp only at h
 split at h
 · rename_i c el fz hh; exact (Array.getElem?_eq_some_iff.1 hh).1
 · cases h
theorem trodAll_len {H : Type} {enc : TypeId × Value → H} {P : Program} {w : World} {low : Nat} {spare : Nat → Bool} {held : Bool} : ∀ {ts : List TypeId} {vs : List Value} {ds : List (DataW H)} {ps : List MemPlace}, DataW.TrodAll enc P w low spare held ts vs ds ps → ds.length = ts.length
 | [], [], [], _, _ => rfl
 | _ :: _, _ :: _, _ :: _, _, h => by obtain ⟨_, _, _, h2, _⟩ := h; simp [trodAll_len h2]
 | [], _ :: _, _, _, h => h.elim
 | [], [], _ :: _, _, h => h.elim
 | _ :: _, [], _, _, h => h.elim
 | _ :: _, _ :: _, [], _, h => h.elim
theorem has_lt {m N t : Nat} (h : Nat.blt m (2 ^ N) = true) (hs : has m t = true) : t < N := by
 rcases Nat.lt_or_ge t N with h' | h'
 · exact h'
 · exfalso
   have : m < 2 ^ t := Nat.lt_of_lt_of_le (blt_iff.1 h) (Nat.pow_le_pow_right (by decide) h')
   unfold has at hs
   rw [Nat.testBit_lt_two_pow this] at hs; cases hs
theorem law_calls {H : Type} {enc : TypeId × Value → H} {P : Program} {ng : Nat} {e : Env} {S : TypeId → Bool} {tbs : List TB} {f : FuncId} {W : World} {base : Nat} {ts : List TypeId} {args : Array Value} {ds : List (DataW H)} {p : List MemPlace}
 (ok : EnvOk P ng e) (kok : KOk P ng W.heap.size W e) (hs : ng ≤ W.heap.size) (hn : numsOk 0 ng tbs = true) (hcb : tbs.all (tbPlain ng) = true) (hl : LaidAt tbs W) (hS : ∀ t, S t = true → openTy P S t = true)
 (hA : DataW.TrodAll enc P W 0 (fun _ => true) true ts args.toList ds p) (hwt : ∀ k ∈ DataW.weightsEach P ts ds, k ≤ reachBytes) (hval : ∀ (j : Nat) t v, ts[j]? = some t → args[j]? = some v → Value.okWide P W .any base t v) (hts : ∀ t ∈ ts, S t = true)
 (h : ∀ (hp : Ht) (nx : Nat) (lvs : List Value), ArgsRp P hp nx ts lvs → (∀ (hp' : Ht) (nx' : Nat), nx ≤ nx' → HE nx hp hp' → ∀ b o, (lay0 tbs .nil).get b = some o → hp'.get b = some o) → WF e f lvs hp nx (Stays nx hp (BoolIs True))) :
 Calls P f args W fun en W' => en = .returned (.bool true) ∧ Below W.heap.size W W' := by
 obtain ⟨H0, a0⟩ := startLaid hs hn hcb hl
 obtain ⟨g, hp, nx, lvs, H1, a1, e1, n1, he, r1, k1⟩ := open_args (B0 := W.heap.size) (w0 := W) hS ts args.toList ds p hA hwt (fun j t v a b => hval j t v a (by simpa using b)) hts (gLaid ng) (lay0 tbs .nil) ng H0 a0
 refine WF.callsTrue ok kok H1 ((globLaid ng).mono e1) r1 ((h hp nx lvs k1 fun hp' nx' hn' he' b o hb => ?_).mono fun v _ _ hv => hv.1.isTrue)
 have hlt : b < ng := (H0.live b o hb).1
 rw [he' b (by omega), he b hlt]; exact hb
end
end Sw
