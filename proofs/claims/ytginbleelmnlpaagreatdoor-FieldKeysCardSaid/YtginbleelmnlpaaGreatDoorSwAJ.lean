/- A part of the proof that the law returns true for every input that its row speaks of. No condition is added. -/
import Derived.Test.YtginbleelmnlpaaGreatDoorSwAI
namespace Sw
noncomputable section
open Go Go.Proofs Go.RowKit
set_option maxRecDepth 100000
set_option maxHeartbeats 1600000
def InR (s : RStarter) : Prop := (-9223372036854775808 ≤ s.fAge ∧ s.fAge ≤ 9223372036854775807) ∧ (-9223372036854775808 ≤ s.fWave ∧ s.fWave ≤ 9223372036854775807)
theorem wrapI64 {n : Int} (h : -9223372036854775808 ≤ n) (h2 : n < 9223372036854775808) : wrapE .i64 n = n := by
  rw [wrapE_eq]
  simp only [IntKind.wrap, IntKind.bits, IntKind.signed, Bool.true_and, decide_eq_true_eq, show (2 : Int) ^ 64 = 18446744073709551616 by decide, show ((2 : Int) ^ (64 - 1)) = 9223372036854775808 by decide]
  split <;> omega
theorem negI {x : Int} (h : -9223372036854775808 ≤ x ∧ x ≤ 9223372036854775807) (hx : ¬ x = -9223372036854775808) : wrapE .i64 (0 - x) = -x := by
  rw [wrapI64 (by omega) (by omega)]; omega
def KeysSay (a b : RStarter) (n : Int) (P Q : Prop) : Prop := (keyS a n < keyS b n ↔ P) ∧ (keyS b n < keyS a n ↔ Q)
theorem keys1 {a b : RStarter} (ha : InR a) (hb : InR b) (h1 : ¬ a.fAge = -9223372036854775808) (h2 : ¬ b.fAge = -9223372036854775808) : KeysSay a b 1 (b.fAge < a.fAge) (a.fAge < b.fAge) := by
  have e : ∀ s, keyS s 1 = wrapE .i64 (0 - s.fAge) := fun _ => rfl
  unfold KeysSay
  rw [e, e, negI ha.1 h1, negI hb.1 h2]; omega
theorem keys2 {a b : RStarter} : KeysSay a b 2 (a.fAge < b.fAge) (b.fAge < a.fAge) := ⟨Iff.rfl, Iff.rfl⟩
theorem keys3 {a b : RStarter} (ha : InR a) (hb : InR b) (h1 : ¬ a.fWave = -9223372036854775808) (h2 : ¬ b.fWave = -9223372036854775808) : KeysSay a b 3 (b.fWave < a.fWave) (a.fWave < b.fWave) := by
  have e : ∀ s, keyS s 3 = wrapE .i64 (0 - s.fWave) := fun _ => rfl
  unfold KeysSay
  rw [e, e, negI ha.2 h1, negI hb.2 h2]; omega
theorem keys4 {a b : RStarter} : KeysSay a b 4 (a.fBib < b.fBib) (b.fBib < a.fBib) := ⟨Iff.rfl, Iff.rfl⟩
theorem keys5 {a b : RStarter} : KeysSay a b 5 (a.fLot < b.fLot) (b.fLot < a.fLot) := ⟨Iff.rfl, Iff.rfl⟩
theorem keys0 {a b : RStarter} {n : Int} (h1 : ¬ n = 1) (h2 : ¬ n = 2) (h3 : ¬ n = 3) (h4 : ¬ n = 4) (h5 : ¬ n = 5) : ¬ keyS a n < keyS b n ∧ ¬ keyS b n < keyS a n := by
  have k : ∀ c : Int, ¬ n = c → eqI n c = false := fun c h => by
    cases hq : eqI n c with
    | true => exact absurd (eqI_iff.1 hq) h
    | false => rfl
  rw [keyS_none (k 1 h1) (k 2 h2) (k 3 h3) (k 4 h4) (k 5 h5), keyS_none (k 1 h1) (k 2 h2) (k 3 h3) (k 4 h4) (k 5 h5)]
  omega
theorem fieldKeys_wf (a b : RStarter) (l : SV RStep) (v : REnv) (hp : Ht) (nx : Nat) (ha : InR a) (hb : InR b) (hl : SlOk encStep 8 (fun hp nx y => RStepOk hp nx y) hp nx l) (hlen : l.l.length ≤ 2932031007403) (hsane : ∀ (hp' : Ht) (nx' : Nat), nx ≤ nx' → HE nx hp hp' → WF ex 4 [] hp' nx' (Stays nx' hp' (BoolIs True))) : WF ex 3 [.agg (encStarter a).toArray, .agg (encStarter b).toArray, l.v, .agg (encEnv v).toArray] hp nx (Stays nx hp (BoolIs True)) := by
 obtain ⟨a1, c2, hv3⟩ := hl.1.shape
 have hsm3 := hl.1.2.2
 rw [hv3]
 refine WF.body (fi := ⟨Tryz.f3.body.getD .skip, 164, [.tmp 8]⟩) (by kernel_rfl) (by kernel_rfl) (by kernel_rfl) rfl ?_
 have hE := HE.refl nx hp
 refine sr ?_
 refine WO.cons (WC.box (.agg (encStarter a).toArray) (encStarter a) rfl (by kernel_rfl) rfl ?_)
 obtain ⟨hp5, hx6, he7, hb8⟩ := boxed hp (nx) (encStarter a)
 rw [hx6]; clear hx6
 have hE9 := hE.trans he7 (Nat.le_refl nx)
 have le10 := Nat.le_trans (Nat.le_refl nx) (Nat.le_succ (nx))
 refine WO.cons (WC.box (.agg (encStarter b).toArray) (encStarter b) rfl (by kernel_rfl) rfl ?_)
 obtain ⟨hp12, hx13, he14, hb15⟩ := boxed hp5 (nx + 1) (encStarter b)
 rw [hx13]; clear hx13
 have hE16 := hE9.trans he14 le10
 have hb17 := he14.get hb8 (Nat.lt_succ_self (nx))
 have lt18 := Nat.lt_of_lt_of_le (Nat.lt_succ_self (nx)) (Nat.le_succ (nx + 1))
 have le19 := Nat.le_trans le10 (Nat.le_succ (nx + 1))
 refine WO.cons (WC.box (.agg (encEnv v).toArray) (encEnv v) rfl (by kernel_rfl) rfl ?_)
 obtain ⟨hp21, hx22, he23, hb24⟩ := boxed hp12 (nx + 1 + 1) (encEnv v)
 rw [hx22]; clear hx22
 have hE25 := hE16.trans he23 le19
 have hb26 := he23.get hb17 lt18
 have lt27 := Nat.lt_of_lt_of_le lt18 (Nat.le_succ (nx + 1 + 1))
 have hb28 := he23.get hb15 (Nat.lt_succ_self (nx + 1))
 have lt29 := Nat.lt_of_lt_of_le (Nat.lt_succ_self (nx + 1)) (Nat.le_succ (nx + 1 + 1))
 have le30 := Nat.le_trans le19 (Nat.le_succ (nx + 1 + 1))
 refine ov 8 (.bool false) ?_
 refine WO.nil ?_
 refine WP.seq ?_
 refine sr ?_
 refine WO.cons (WC.call 18 4 ([]) (fun _ _ _ => by kernel_rfl) ((hsane hp21 (nx + 1 + 1 + 1) le30 hE25).mono ?_))
 rintro _ hp31 nx32 ⟨⟨c35, rfl, p35⟩, hn33, he34⟩
 have hE36 := hE25.trans he34 le30
 have hb37 := he34.get hb26 lt27
 have lt38 := Nat.lt_of_lt_of_le lt27 hn33
 have hb39 := he34.get hb28 lt29
 have lt40 := Nat.lt_of_lt_of_le lt29 hn33
 have hb41 := he34.get hb24 (Nat.lt_succ_self (nx + 1 + 1))
 have lt42 := Nat.lt_of_lt_of_le (Nat.lt_succ_self (nx + 1 + 1)) hn33
 have le43 := Nat.le_trans le30 hn33
 obtain ⟨c44, e44, p44⟩ := @nb (!c35) (¬ (True)) (by rw [Bool.not_eq_true', ← Bool.not_eq_true, p35])
 refine ov 19 (.bool c44) ?_ (fun _ _ _ => by subst e44; kernel_rfl)
 refine WO.nil ?_
 refine WP.cond c44 (by kernel_rfl) (fun h45 => ?_) (fun h45 => ?_)
 ·
  have q46 := (p44).1 h45
  refine sr ?_
  refine ov 8 (.bool false) ?_
  refine WO.nil ?_
  refine WP.ret ⟨rfl, rfl, [.bool false], by kernel_rfl, ?_⟩
  simp at q46
 ·
  have q46 := nq p44 h45
  refine WP.skip ?_
  refine WP.seq ?_
  refine sr ?_
  refine ov 20 (.slice a1 (l.l.length) c2) ?_
  refine WO.cons (WC.call 21 5 ([l.v]) (fun _ _ _ => by (try rw [hv3]); kernel_rfl) ((few07_wf l hp31 (nx32) (hl.mono (fun _ h => h.mono) hE36 le43)).mono ?_))
  rintro _ hp47 nx48 ⟨⟨c51, rfl, p51i⟩, hn49, he50⟩
  have p51 : c51 = true ↔ (c51 = true) := Iff.rfl
  have hE52 := hE36.trans he50 le43
  have hb53 := he50.get hb37 lt38
  have lt54 := Nat.lt_of_lt_of_le lt38 hn49
  have hb55 := he50.get hb39 lt40
  have lt56 := Nat.lt_of_lt_of_le lt40 hn49
  have hb57 := he50.get hb41 lt42
  have le59 := Nat.le_trans le43 hn49
  obtain ⟨c60, e60, p60⟩ := @nb (!c51) (¬ (c51 = true)) (by rw [Bool.not_eq_true', ← Bool.not_eq_true, p51])
  refine ov 22 (.bool c60) ?_ (fun _ _ _ => by subst e60; kernel_rfl)
  refine WO.nil ?_
  refine WP.cond c60 (by kernel_rfl) (fun h61 => ?_) (fun h61 => ?_)
  ·
   have q62 := (p60).1 h61
   refine sr ?_
   refine ov 8 (.bool true) ?_
   refine WO.nil ?_
   refine WP.ret ⟨rfl, rfl, [.bool true], by kernel_rfl, ?_⟩
   exact ⟨⟨true, rfl, fun _ => trivial, fun _ => rfl⟩, le59, hE52⟩
  ·
   have q62 := nq p60 h61
   refine WP.skip ?_
   refine sr ?_
   refine ov 24 (.slice a1 (l.l.length) c2) ?_
   refine WO.cons (WC.loadS (nx + 1 + 1) (0) (encEnv v) (by kernel_rfl) T_agg26 T_size26 hb57 rfl ?_)
   refine WO.cons (WC.call 26 6 ([l.v, .agg (encEnv v).toArray]) (fun _ _ _ => by (try rw [hv3]); kernel_rfl) ((direct_wf l v hp47 (nx48) (hl.mono (fun _ h => h.mono) hE52 le59) hlen).mono ?_))
   rintro _ hp63 nx64 ⟨J, z, rfl, hJok, hJ5, hn65, he66⟩
   have hE67 := hE52.trans he66 le59
   have hb68 := he66.get hb53 lt54
   have lt69 := Nat.lt_of_lt_of_le lt54 hn65
   have hb70 := he66.get hb55 lt56
   have lt71 := Nat.lt_of_lt_of_le lt56 hn65
   have le74 := Nat.le_trans le59 hn65
   have hr75 := HE.refl (nx64) hp63
   have rl76 := Nat.le_refl (nx64)
   obtain ⟨a77, c78, hv79⟩ := hJok.shape
   have hsm79 := hJok.2.2
   rw [hv79]
   refine ov 23 (.tuple ⟨[.slice a77 (J.l.length) c78, .int .i64 (z)]⟩) ?_
   refine ov 27 (.slice a77 (J.l.length) c78) ?_
   refine ov 28 (.int .i64 (z)) ?_
   refine ov 9 (.slice a77 (J.l.length) c78) ?_
   refine ov 10 (.int .i64 (z)) ?_
   refine WO.nil ?_
   refine WP.seq ?_
   refine sr ?_
   refine ov 29 (.int .i64 (z)) ?_
   obtain ⟨c80, e80, p80⟩ := @nb ((!(eqI (z) (0)))) ((z) ≠ (0)) (neI_iff)
   refine ov 30 (.bool c80) ?_ (fun _ _ _ => by subst e80; kernel_rfl)
   refine WO.nil ?_
   refine WP.cond c80 (by kernel_rfl) (fun h81 => ?_) (fun h81 => ?_)
   ·
    have q82 := (p80).1 h81
    refine sr ?_
    refine ov 8 (.bool true) ?_
    refine WO.nil ?_
    refine WP.ret ⟨rfl, rfl, [.bool true], by kernel_rfl, ?_⟩
    exact ⟨⟨true, rfl, fun _ => trivial, fun _ => rfl⟩, le74, hE67⟩
   ·
    have q82 := nq p80 h81
    refine WP.skip ?_
    refine WP.seq ?_
    refine WP.drawS [⟨[0, 1, 3, 4], [0, 1, 3, 4], some 2⟩, ⟨[], [3, 4], some 5⟩, ⟨[], [], some 6⟩, ⟨[], [], some 7⟩, ⟨[], [], none⟩] (by kernel_rfl) _ rfl ?_
    refine WD.eff ?_
    refine WN.consAt rfl (WC.loadS nx (0) (encStarter a) (by kernel_rfl) T_agg23 T_size23 hb68 rfl ?_)
    refine nv 32 (.slice a77 (J.l.length) c78) ?_
    refine WN.consAt rfl (WC.loadS (nx + 1) (0) (encStarter b) (by kernel_rfl) T_agg23 T_size23 hb70 rfl ?_)
    refine nv 35 (.slice a77 (J.l.length) c78) ?_
    refine WN.nil ⟨?_, ?_⟩
    ·
     refine co (.agg (encStarter a).toArray) (eLoad ex.T hp63.get 23 (.pointer (some ⟨nx, 0, none⟩))) (eLoad_agg T_agg23 T_size23 hb68 rfl) (encStarter_vEq a) ?_
     refine cv (.slice a77 (J.l.length) c78) (hv79 ▸ hJok.eqSelf 8) ?_
     refine co (.agg (encStarter b).toArray) (eLoad ex.T hp63.get 23 (.pointer (some ⟨(nx + 1), 0, none⟩))) (eLoad_agg T_agg23 T_size23 hb70 rfl) (encStarter_vEq b) ?_
     refine cv (.slice a77 (J.l.length) c78) (hv79 ▸ hJok.eqSelf 8) ?_
     exact Chks.nil
    refine WC.at rfl (WC.call 33 7 ([.agg (encStarter a).toArray, J.v]) (fun _ _ _ => by (try rw [hv79]); kernel_rfl) ((keys_wf a J hp63 (nx64) (hJok.mono hr75 rl76) (by omega)).mono ?_))
    rintro _ hp83 nx84 ⟨Y87, rfl, hYl88, hYok89, hn85, he86⟩
    have hE90 := hE67.trans he86 le74
    have hb91 := he86.get hb68 lt69
    have lt92 := Nat.lt_of_lt_of_le lt69 hn85
    have hb93 := he86.get hb70 lt71
    have lt94 := Nat.lt_of_lt_of_le lt71 hn85
    have hr97 := hr75.trans he86 rl76
    have rl98 := Nat.le_trans rl76 hn85
    have le99 := Nat.le_trans le74 hn85
    have hr100 := HE.refl (nx84) hp83
    have rl101 := Nat.le_refl (nx84)
    obtain ⟨a102, c103, hv104⟩ := hYok89.shape
    have hsm104 := hYok89.2.2
    rw [hv104]
    have hYl88n : Y87.l.length = J.l.length := by rw [hYl88, List.length_map]
    refine WD.eff ?_
    refine WN.nil ⟨?_, ?_⟩
    ·
     refine co (.agg (encStarter b).toArray) (eLoad ex.T hp83.get 23 (.pointer (some ⟨(nx + 1), 0, none⟩))) (eLoad_agg T_agg23 T_size23 hb93 rfl) (encStarter_vEq b) ?_
     refine cv (.slice a77 (J.l.length) c78) (hv79 ▸ hJok.eqSelf 8) ?_
     exact Chks.nil
    refine WC.at rfl (WC.call 36 7 ([.agg (encStarter b).toArray, J.v]) (fun _ _ _ => by (try rw [hv79]); kernel_rfl) ((keys_wf b J hp83 (nx84) (hJok.mono hr97 rl98) (by omega)).mono ?_))
    rintro _ hp105 nx106 ⟨Y109, rfl, hYl110, hYok111, hn107, he108⟩
    have hE112 := hE90.trans he108 le99
    have hb113 := he108.get hb91 lt92
    have lt114 := Nat.lt_of_lt_of_le lt92 hn107
    have hb115 := he108.get hb93 lt94
    have lt116 := Nat.lt_of_lt_of_le lt94 hn107
    have hr119 := hr97.trans he108 rl98
    have rl120 := Nat.le_trans rl98 hn107
    have hr121 := hr100.trans he108 rl101
    have rl122 := Nat.le_trans rl101 hn107
    have le123 := Nat.le_trans le99 hn107
    have hr124 := HE.refl (nx106) hp105
    have rl125 := Nat.le_refl (nx106)
    obtain ⟨a126, c127, hv128⟩ := hYok111.shape
    have hsm128 := hYok111.2.2
    rw [hv128]
    have hYl110n : Y109.l.length = J.l.length := by rw [hYl110, List.length_map]
    refine WD.eff ?_
    refine WN.nil ⟨?_, ?_⟩
    ·
     exact Chks.nil
    refine WC.at rfl (WC.val 11 (.slice a102 (Y87.l.length) c103) (fun _ _ _ => by kernel_rfl) ?_)
    refine WD.eff ?_
    refine WN.nil ⟨?_, ?_⟩
    ·
     exact Chks.nil
    refine WC.at rfl (WC.val 12 (.slice a126 (Y109.l.length) c127) (fun _ _ _ => by kernel_rfl) ?_)
    refine WD.last ?_
    refine WN.nil ⟨?_, ?_⟩
    ·
     exact Chks.nil
    refine WP.seq ?_
    refine sr ?_
    refine ov 37 (.slice a102 (Y87.l.length) c103) ?_
    refine ov 38 (.int .i64 (.ofNat (Y87.l.length))) ?_
    refine ov 39 (.slice a77 (J.l.length) c78) ?_
    refine ov 40 (.int .i64 (.ofNat (J.l.length))) ?_
    obtain ⟨c129, e129, p129⟩ := @nb ((!(eqI (.ofNat (Y87.l.length)) (.ofNat (J.l.length))))) (((Y87.l.length : Nat) : Int) ≠ ((J.l.length : Nat) : Int)) (neI_iff)
    refine ov 41 (.bool c129) ?_ (fun _ _ _ => by subst e129; kernel_rfl)
    refine ov 42 (.bool c129) ?_
    refine og 42 (!c129) (.slice a126 (Y109.l.length) c127) (.bool c129) (by cases c129 <;> rfl) (fun h => by obtain rfl := bF h; exact fun _ _ _ => by kernel_rfl) ?_
    refine og 42 (!c129) (.int .i64 (.ofNat (Y109.l.length))) (.bool c129) (by cases c129 <;> rfl) (fun h => by obtain rfl := bF h; exact fun _ _ _ => by kernel_rfl) ?_
    refine og 42 (!c129) (.slice a77 (J.l.length) c78) (.bool c129) (by cases c129 <;> rfl) (fun h => by obtain rfl := bF h; exact fun _ _ _ => by kernel_rfl) ?_
    refine og 42 (!c129) (.int .i64 (.ofNat (J.l.length))) (.bool c129) (by cases c129 <;> rfl) (fun h => by obtain rfl := bF h; exact fun _ _ _ => by kernel_rfl) ?_
    obtain ⟨c130, e130, p130⟩ := @nb ((!(eqI (.ofNat (Y109.l.length)) (.ofNat (J.l.length))))) (((Y109.l.length : Nat) : Int) ≠ ((J.l.length : Nat) : Int)) (neI_iff)
    refine og 42 (!c129) (.bool c130) (.bool c129) (by cases c129 <;> rfl) (fun h => by obtain rfl := bF h; exact fun _ _ _ => by subst e130; kernel_rfl) ?_
    obtain ⟨c131, e131, p131⟩ := @nb ((c129 || c130)) ((((Y87.l.length : Nat) : Int) ≠ ((J.l.length : Nat) : Int)) ∨ (((Y109.l.length : Nat) : Int) ≠ ((J.l.length : Nat) : Int))) (by rw [Bool.or_eq_true, p129, p130])
    refine WO.cons (WC.opt (v := .bool c131) 48 (ePick (.bool c129) (.bool true) ((bif !c129 then .bool c130 else undef))) (fun _ _ _ => by kernel_rfl) (by rw [e131]; exact ePick_or (fun h => by obtain rfl : c129 = false := h; rfl)) ?_)
    refine WO.nil ?_
    refine WP.cond c131 (by kernel_rfl) (fun h132 => ?_) (fun h132 => ?_)
    ·
     have q133 := (p131).1 h132
     refine sr ?_
     refine ov 8 (.bool false) ?_
     refine WO.nil ?_
     refine WP.ret ⟨rfl, rfl, [.bool false], by kernel_rfl, ?_⟩
     exact absurd q133 (by omega)
    ·
     have q133 := nq p131 h132
     refine WP.skip ?_
     refine WP.seq ?_
     refine sr ?_
     refine ov 49 (.slice a77 (J.l.length) c78) ?_
     refine ov 50 (.int .i64 (.ofNat (J.l.length))) ?_
     refine ov 51 (.int .i64 (0)) ?_
     refine WO.nil ?_
     refine WP.block ?_
     have hj135 : ∀ t : Tm, (((((((t.set 4 (t.get 4)).set 5 (t.get 5)).set 11 (t.get 11)).set 12 (t.get 12)).set 49 (t.get 49)).set 50 (t.get 50)).set 51 (t.get 51)) = t := fun t => by kernel_rfl
     refine WP.loop (fun m s => ∃ (iL134 : Nat), iL134 + m = J.l.length ∧ s.to.get 4 = .pointer (some ⟨nx, 0, none⟩) ∧ s.to.get 5 = .pointer (some ⟨(nx + 1), 0, none⟩) ∧ s.to.get 11 = .slice a102 (Y87.l.length) c103 ∧ s.to.get 12 = .slice a126 (Y109.l.length) c127 ∧ s.to.get 49 = .slice a77 (J.l.length) c78 ∧ s.to.get 50 = .int .i64 (.ofNat (J.l.length)) ∧ s.to.get 51 = .int .i64 (.ofNat iL134) ∧ s.ds = [] ∧ s.cs = [] ∧ nx106 ≤ s.nx ∧ HE (nx106) hp105 s.hp) ?_ (J.l.length) ?_
     ·
      rintro mL134 ⟨toL134, dsL134, hp136, nx137, csL134⟩ ⟨iL134, him138, gL134_4, gL134_5, gL134_11, gL134_12, gL134_49, gL134_50, gL134_51, hdsL134, hcsL134, hn139, he140⟩
      simp only at gL134_4 gL134_5 gL134_11 gL134_12 gL134_49 gL134_50 gL134_51 hdsL134 hcsL134 hn139 he140
      subst hdsL134 hcsL134
      rw [← hj135 toL134, gL134_4, gL134_5, gL134_11, gL134_12, gL134_49, gL134_50, gL134_51]
      clear gL134_4 gL134_5 gL134_11 gL134_12 gL134_49 gL134_50 gL134_51
      have hE141 := hE112.trans he140 le123
      have hb142 := he140.get hb113 lt114
      have hb144 := he140.get hb115 lt116
      have hr148 := hr119.trans he140 rl120
      have rl149 := Nat.le_trans rl120 hn139
      have hr150 := hr121.trans he140 rl122
      have rl151 := Nat.le_trans rl122 hn139
      have hr152 := hr124.trans he140 rl125
      have rl153 := Nat.le_trans rl125 hn139
      have le154 := Nat.le_trans le123 hn139
      refine sr ?_
      obtain ⟨c155, e155, p155⟩ := @nb (ltI (.ofNat iL134) (.ofNat (J.l.length))) (((iL134 : Nat) : Int) < ((J.l.length : Nat) : Int)) (ltI_iff)
      refine ov 52 (.bool c155) ?_ (fun _ _ _ => by subst e155; kernel_rfl)
      refine WO.nil ?_
      refine WP.seq ?_
      refine WP.cond c155 (by kernel_rfl) (fun h156 => ?_) (fun h156 => ?_)
      ·
       have q157 := (p155).1 h156
       refine WP.skip ?_
       refine WP.seq ?_
       refine WP.block ?_
       refine sr ?_
       refine ov 53 (.int .i64 (.ofNat iL134)) ?_
       have hlt158 : iL134 < J.l.length := by omega
       refine WO.cons (WC.ix (k := .i64) a77 (J.l.length) c78 (iL134) 1 (by kernel_rfl) (by kernel_rfl) T_und29 T_size3 ((hJok.mono hr148 rl149).blkA hv79 (zl hlt158)) (hlt158) ?_)
       obtain ⟨x159, hx160⟩ : ∃ el_, J.l[iL134]? = some el_ := ⟨_, List.getElem?_eq_getElem (hlt158)⟩
       refine WO.cons (WC.load1E (blk a77) (0 + (iL134) * 1) (.int .i64 (x159)) (by kernel_rfl) T_agg3 ((hJok.mono hr148 rl149).blkB hv79 (zl hlt158)) (flat_at1 (hJok.mono hr148 rl149).1 hx160 rfl) ?_)
       refine ov 13 (.int .i64 (.ofNat iL134)) ?_
       refine ov 14 (.int .i64 (x159)) ?_
       refine WO.nil ?_
       refine sr ?_
       refine ov 15 (.bool false) ?_
       refine ov 16 (.bool false) ?_
       refine WO.nil ?_
       refine WP.seq ?_
       refine sr ?_
       refine ov 56 (.int .i64 (x159)) ?_
       refine WO.nil ?_
       refine WP.block ?_
       refine sr ?_
       obtain ⟨c161, e161, p161⟩ := @nb (eqI (x159) (1)) ((x159) = (1)) (eqI_iff)
       refine ov 58 (.bool c161) ?_ (fun _ _ _ => by subst e161; kernel_rfl)
       refine ov 57 (.bool c161) ?_
       refine WO.nil ?_
       refine WP.cond c161 (by kernel_rfl) (fun h162 => ?_) (fun h162 => ?_)
       ·
        have q163 := (p161).1 h162
        refine WP.drawS [⟨[0, 1, 2, 3, 4, 5, 6, 7, 8, 9], [0, 1, 2, 3, 4, 5, 6, 7, 8, 9], some 10⟩, ⟨[], [5, 6, 7, 8, 9], some 11⟩, ⟨[], [], none⟩] (by kernel_rfl) _ rfl ?_
        refine WD.eff ?_
        refine nv 59 (.pointer (some ⟨nx, 0 + 4, none⟩)) ?_
        refine WN.consAt rfl (WC.load1 nx (0 + 4) (.int .i64 (a.fAge)) (by kernel_rfl) T_agg3 hb142 rfl ?_)
        refine nv 61 (.pointer (some ⟨(nx + 1), 0 + 4, none⟩)) ?_
        refine WN.consAt rfl (WC.load1 (nx + 1) (0 + 4) (.int .i64 (b.fAge)) (by kernel_rfl) T_agg3 hb144 rfl ?_)
        obtain ⟨c164, e164, p164⟩ := @nb (ltI (b.fAge) (a.fAge)) ((b.fAge) < (a.fAge)) (ltI_iff)
        refine nv 63 (.bool c164) ?_ (fun _ _ _ => by subst e164; kernel_rfl)
        refine nv 64 (.pointer (some ⟨nx, 0 + 4, none⟩)) ?_
        refine WN.consAt rfl (WC.load1 nx (0 + 4) (.int .i64 (a.fAge)) (by kernel_rfl) T_agg3 hb142 rfl ?_)
        refine nv 66 (.pointer (some ⟨(nx + 1), 0 + 4, none⟩)) ?_
        refine WN.consAt rfl (WC.load1 (nx + 1) (0 + 4) (.int .i64 (b.fAge)) (by kernel_rfl) T_agg3 hb144 rfl ?_)
        obtain ⟨c165, e165, p165⟩ := @nb (ltI (a.fAge) (b.fAge)) ((a.fAge) < (b.fAge)) (ltI_iff)
        refine nv 68 (.bool c165) ?_ (fun _ _ _ => by subst e165; kernel_rfl)
        refine WN.nil ⟨?_, ?_⟩
        ·
         refine cv (.pointer (some ⟨nx, 0 + 4, none⟩)) (vEq_ptr ..) ?_
         refine co (.int .i64 (a.fAge)) (eLoad ex.T hp136.get 3 (.pointer (some ⟨nx, 0 + 4, none⟩))) (eLoad_one T_agg3 hb142 rfl) (vEq_int ..) ?_
         refine cv (.pointer (some ⟨(nx + 1), 0 + 4, none⟩)) (vEq_ptr ..) ?_
         refine co (.int .i64 (b.fAge)) (eLoad ex.T hp136.get 3 (.pointer (some ⟨(nx + 1), 0 + 4, none⟩))) (eLoad_one T_agg3 hb144 rfl) (vEq_int ..) ?_
         refine cv (.bool c164) (vEq_bool 8 c164) ?_ (fun _ => by subst e164; kernel_rfl)
         refine cv (.pointer (some ⟨nx, 0 + 4, none⟩)) (vEq_ptr ..) ?_
         refine co (.int .i64 (a.fAge)) (eLoad ex.T hp136.get 3 (.pointer (some ⟨nx, 0 + 4, none⟩))) (eLoad_one T_agg3 hb142 rfl) (vEq_int ..) ?_
         refine cv (.pointer (some ⟨(nx + 1), 0 + 4, none⟩)) (vEq_ptr ..) ?_
         refine co (.int .i64 (b.fAge)) (eLoad ex.T hp136.get 3 (.pointer (some ⟨(nx + 1), 0 + 4, none⟩))) (eLoad_one T_agg3 hb144 rfl) (vEq_int ..) ?_
         refine cv (.bool c165) (vEq_bool 8 c165) ?_ (fun _ => by subst e165; kernel_rfl)
         exact Chks.nil
        refine WC.at rfl (WC.val 15 (.bool c164) (fun _ _ _ => by kernel_rfl) ?_)
        refine WD.eff ?_
        refine WN.nil ⟨?_, ?_⟩
        ·
         refine cv (.pointer (some ⟨nx, 0 + 4, none⟩)) (vEq_ptr ..) ?_
         refine co (.int .i64 (a.fAge)) (eLoad ex.T hp136.get 3 (.pointer (some ⟨nx, 0 + 4, none⟩))) (eLoad_one T_agg3 hb142 rfl) (vEq_int ..) ?_
         refine cv (.pointer (some ⟨(nx + 1), 0 + 4, none⟩)) (vEq_ptr ..) ?_
         refine co (.int .i64 (b.fAge)) (eLoad ex.T hp136.get 3 (.pointer (some ⟨(nx + 1), 0 + 4, none⟩))) (eLoad_one T_agg3 hb144 rfl) (vEq_int ..) ?_
         refine cv (.bool c165) (vEq_bool 8 c165) ?_ (fun _ => by subst e165; kernel_rfl)
         exact Chks.nil
        refine WC.at rfl (WC.val 16 (.bool c165) (fun _ _ _ => by kernel_rfl) ?_)
        refine WD.last ?_
        refine WN.nil ⟨?_, ?_⟩
        ·
         exact Chks.nil
        refine sr ?_
        refine ov 17 (.int .i64 (-9223372036854775808)) ?_
        refine WO.nil ?_
        refine WP.seq ?_
        refine sr ?_
        refine ov 117 (.pointer (some ⟨nx, 0 + 4, none⟩)) ?_
        refine WO.cons (WC.load1 nx (0 + 4) (.int .i64 (a.fAge)) (by kernel_rfl) T_agg3 hb142 rfl ?_)
        refine ov 119 (.int .i64 (-9223372036854775808)) ?_
        obtain ⟨c166, e166, p166⟩ := @nb (eqI (a.fAge) (-9223372036854775808)) ((a.fAge) = (-9223372036854775808)) (eqI_iff)
        refine ov 120 (.bool c166) ?_ (fun _ _ _ => by subst e166; kernel_rfl)
        refine ov 121 (.bool c166) ?_
        refine og 121 (!c166) (.pointer (some ⟨(nx + 1), 0 + 4, none⟩)) (.bool c166) (by cases c166 <;> rfl) (fun h => by obtain rfl := bF h; exact fun _ _ _ => by kernel_rfl) ?_
        refine ogc 121 (!c166) (.int .i64 (b.fAge)) (.bool c166) (by cases c166 <;> rfl) (fun h => by obtain rfl := bF h; exact WC.load1 (nx + 1) (0 + 4) (.int .i64 (b.fAge)) (by kernel_rfl) T_agg3 hb144 rfl rfl) ?_
        refine og 121 (!c166) (.int .i64 (-9223372036854775808)) (.bool c166) (by cases c166 <;> rfl) (fun h => by obtain rfl := bF h; exact fun _ _ _ => by kernel_rfl) ?_
        obtain ⟨c167, e167, p167⟩ := @nb (eqI (b.fAge) (-9223372036854775808)) ((b.fAge) = (-9223372036854775808)) (eqI_iff)
        refine og 121 (!c166) (.bool c167) (.bool c166) (by cases c166 <;> rfl) (fun h => by obtain rfl := bF h; exact fun _ _ _ => by subst e167; kernel_rfl) ?_
        obtain ⟨c168, e168, p168⟩ := @nb ((c166 || c167)) (((a.fAge) = (-9223372036854775808)) ∨ ((b.fAge) = (-9223372036854775808))) (by rw [Bool.or_eq_true, p166, p167])
        refine WO.cons (WC.opt (v := .bool c168) 126 (ePick (.bool c166) (.bool true) ((bif !c166 then .bool c167 else undef))) (fun _ _ _ => by kernel_rfl) (by rw [e168]; exact ePick_or (fun h => by obtain rfl : c166 = false := h; rfl)) ?_)
        refine ov 127 (.bool c168) ?_
        refine og 127 (!c168) (.pointer (some ⟨nx, 0 + 2, none⟩)) (.bool c168) (by cases c168 <;> rfl) (fun h => by obtain rfl := bF h; exact fun _ _ _ => by kernel_rfl) ?_
        refine ogc 127 (!c168) (.int .i64 (a.fWave)) (.bool c168) (by cases c168 <;> rfl) (fun h => by obtain rfl := bF h; exact WC.load1 nx (0 + 2) (.int .i64 (a.fWave)) (by kernel_rfl) T_agg3 hb142 rfl rfl) ?_
        refine og 127 (!c168) (.int .i64 (-9223372036854775808)) (.bool c168) (by cases c168 <;> rfl) (fun h => by obtain rfl := bF h; exact fun _ _ _ => by kernel_rfl) ?_
        obtain ⟨c169, e169, p169⟩ := @nb (eqI (a.fWave) (-9223372036854775808)) ((a.fWave) = (-9223372036854775808)) (eqI_iff)
        refine og 127 (!c168) (.bool c169) (.bool c168) (by cases c168 <;> rfl) (fun h => by obtain rfl := bF h; exact fun _ _ _ => by subst e169; kernel_rfl) ?_
        obtain ⟨c170, e170, p170⟩ := @nb ((c168 || c169)) ((((a.fAge) = (-9223372036854775808)) ∨ ((b.fAge) = (-9223372036854775808))) ∨ ((a.fWave) = (-9223372036854775808))) (by rw [Bool.or_eq_true, p168, p169])
        refine WO.cons (WC.opt (v := .bool c170) 132 (ePick (.bool c168) (.bool true) ((bif !c168 then .bool c169 else undef))) (fun _ _ _ => by kernel_rfl) (by rw [e170]; exact ePick_or (fun h => by obtain rfl : c168 = false := h; rfl)) ?_)
        refine ov 133 (.bool c170) ?_
        refine og 133 (!c170) (.pointer (some ⟨(nx + 1), 0 + 2, none⟩)) (.bool c170) (by cases c170 <;> rfl) (fun h => by obtain rfl := bF h; exact fun _ _ _ => by kernel_rfl) ?_
        refine ogc 133 (!c170) (.int .i64 (b.fWave)) (.bool c170) (by cases c170 <;> rfl) (fun h => by obtain rfl := bF h; exact WC.load1 (nx + 1) (0 + 2) (.int .i64 (b.fWave)) (by kernel_rfl) T_agg3 hb144 rfl rfl) ?_
        refine og 133 (!c170) (.int .i64 (-9223372036854775808)) (.bool c170) (by cases c170 <;> rfl) (fun h => by obtain rfl := bF h; exact fun _ _ _ => by kernel_rfl) ?_
        obtain ⟨c171, e171, p171⟩ := @nb (eqI (b.fWave) (-9223372036854775808)) ((b.fWave) = (-9223372036854775808)) (eqI_iff)
        refine og 133 (!c170) (.bool c171) (.bool c170) (by cases c170 <;> rfl) (fun h => by obtain rfl := bF h; exact fun _ _ _ => by subst e171; kernel_rfl) ?_
        obtain ⟨c172, e172, p172⟩ := @nb ((c170 || c171)) (((((a.fAge) = (-9223372036854775808)) ∨ ((b.fAge) = (-9223372036854775808))) ∨ ((a.fWave) = (-9223372036854775808))) ∨ ((b.fWave) = (-9223372036854775808))) (by rw [Bool.or_eq_true, p170, p171])
        refine WO.cons (WC.opt (v := .bool c172) 138 (ePick (.bool c170) (.bool true) ((bif !c170 then .bool c171 else undef))) (fun _ _ _ => by kernel_rfl) (by rw [e172]; exact ePick_or (fun h => by obtain rfl : c170 = false := h; rfl)) ?_)
        refine WO.nil ?_
        refine WP.cond c172 (by kernel_rfl) (fun h173 => ?_) (fun h173 => ?_)
        ·
         have q174 := (p172).1 h173
         refine sr ?_
         refine ov 8 (.bool true) ?_
         refine WO.nil ?_
         refine WP.ret ⟨rfl, rfl, [.bool true], by kernel_rfl, ?_⟩
         exact ⟨⟨true, rfl, fun _ => trivial, fun _ => rfl⟩, le154, hE141⟩
        ·
         have q174 := nq p172 h173
         refine WP.skip ?_
         refine WP.seq ?_
         refine WP.drawS [⟨[0, 1, 2, 3, 4, 5, 6, 7, 8, 9, 10, 11, 12, 13, 14, 15, 16, 17, 18, 19, 20, 21, 22, 23], [0, 1, 2, 3, 4, 5, 6, 7, 8, 9, 10, 11, 12, 13, 14, 15, 16, 17, 18, 19, 20, 21, 22, 23], none⟩] (by kernel_rfl) _ rfl ?_
         refine WD.last ?_
         refine nv 139 (.slice a102 (Y87.l.length) c103) ?_
         refine nv 140 (.int .i64 (.ofNat iL134)) ?_
         have hlt175 : iL134 < Y87.l.length := by omega
         refine WN.consAt rfl (WC.ix (k := .i64) a102 (Y87.l.length) c103 (iL134) 1 (by kernel_rfl) (by kernel_rfl) T_und29 T_size3 ((hYok89.mono hr150 rl151).blkA hv104 (zl hlt175)) (hlt175) ?_)
         obtain ⟨x176, hx177⟩ : ∃ el_, Y87.l[iL134]? = some el_ := ⟨_, List.getElem?_eq_getElem (hlt175)⟩
         refine WN.consAt rfl (WC.load1E (blk a102) (0 + (iL134) * 1) (.int .i64 (x176)) (by kernel_rfl) T_agg3 ((hYok89.mono hr150 rl151).blkB hv104 (zl hlt175)) (flat_at1 (hYok89.mono hr150 rl151).1 hx177 rfl) ?_)
         refine nv 143 (.slice a126 (Y109.l.length) c127) ?_
         refine nv 144 (.int .i64 (.ofNat iL134)) ?_
         have hlt178 : iL134 < Y109.l.length := by omega
         refine WN.consAt rfl (WC.ix (k := .i64) a126 (Y109.l.length) c127 (iL134) 1 (by kernel_rfl) (by kernel_rfl) T_und29 T_size3 ((hYok111.mono hr152 rl153).blkA hv128 (zl hlt178)) (hlt178) ?_)
         obtain ⟨x179, hx180⟩ : ∃ el_, Y109.l[iL134]? = some el_ := ⟨_, List.getElem?_eq_getElem (hlt178)⟩
         refine WN.consAt rfl (WC.load1E (blk a126) (0 + (iL134) * 1) (.int .i64 (x179)) (by kernel_rfl) T_agg3 ((hYok111.mono hr152 rl153).blkB hv128 (zl hlt178)) (flat_at1 (hYok111.mono hr152 rl153).1 hx180 rfl) ?_)
         obtain ⟨c181, e181, p181⟩ := @nb (ltI (x176) (x179)) ((x176) < (x179)) (ltI_iff)
         refine nv 147 (.bool c181) ?_ (fun _ _ _ => by subst e181; kernel_rfl)
         refine nv 148 (.bool c164) ?_
         obtain ⟨c182, e182, p182⟩ := @nb (!(bif c181 then c164 else !c164)) (¬ (((x176) < (x179)) ↔ ((b.fAge) < (a.fAge)))) (by rw [← p181, ← p164]; cases c181 <;> cases c164 <;> simp)
         refine nv 149 (.bool c182) ?_ (fun _ _ _ => by subst e182; cases c181 <;> cases c164 <;> kernel_rfl)
         refine nv 150 (.bool c182) ?_
         refine ng rfl 150 (!c182) (.slice a102 (Y87.l.length) c103) (.bool c182) (by cases c182 <;> rfl) (fun h => by obtain rfl := bF h; exact fun _ _ _ => by kernel_rfl) ?_
         refine ng rfl 150 (!c182) (.int .i64 (.ofNat iL134)) (.bool c182) (by cases c182 <;> rfl) (fun h => by obtain rfl := bF h; exact fun _ _ _ => by kernel_rfl) ?_
         have hlt183 : (!c182) = true → iL134 < Y87.l.length := fun h => by obtain rfl : c182 = false := (by simpa using h); have q0 : ¬ (¬ (((x176) < (x179)) ↔ ((b.fAge) < (a.fAge)))) := (fun k => absurd ((p182).2 k) (by decide)); omega
         refine ngc rfl 150 (!c182) (.pointer (some ⟨(blk a102), 0 + (iL134) * 1, none⟩)) (.bool c182) (by cases c182 <;> rfl) (fun h => by obtain rfl := bF h; exact WC.ix (k := .i64) a102 (Y87.l.length) c103 (iL134) 1 (by kernel_rfl) (by kernel_rfl) T_und29 T_size3 ((hYok89.mono hr150 rl151).blkA hv104 (zl ((hlt183 rfl)))) ((hlt183 rfl)) rfl) ?_
         refine ngc rfl 150 (!c182) (.int .i64 (x176)) (.bool c182) (by cases c182 <;> rfl) (fun h => by obtain rfl := bF h; exact WC.load1E (blk a102) (0 + (iL134) * 1) (.int .i64 (x176)) (by kernel_rfl) T_agg3 ((hYok89.mono hr150 rl151).blkB hv104 (zl ((hlt183 rfl)))) (flat_at1 (hYok89.mono hr150 rl151).1 hx177 rfl) rfl) ?_
         refine ng rfl 150 (!c182) (.slice a126 (Y109.l.length) c127) (.bool c182) (by cases c182 <;> rfl) (fun h => by obtain rfl := bF h; exact fun _ _ _ => by kernel_rfl) ?_
         refine ng rfl 150 (!c182) (.int .i64 (.ofNat iL134)) (.bool c182) (by cases c182 <;> rfl) (fun h => by obtain rfl := bF h; exact fun _ _ _ => by kernel_rfl) ?_
         have hlt184 : (!c182) = true → iL134 < Y109.l.length := fun h => by obtain rfl : c182 = false := (by simpa using h); have q0 : ¬ (¬ (((x176) < (x179)) ↔ ((b.fAge) < (a.fAge)))) := (fun k => absurd ((p182).2 k) (by decide)); omega
         refine ngc rfl 150 (!c182) (.pointer (some ⟨(blk a126), 0 + (iL134) * 1, none⟩)) (.bool c182) (by cases c182 <;> rfl) (fun h => by obtain rfl := bF h; exact WC.ix (k := .i64) a126 (Y109.l.length) c127 (iL134) 1 (by kernel_rfl) (by kernel_rfl) T_und29 T_size3 ((hYok111.mono hr152 rl153).blkA hv128 (zl ((hlt184 rfl)))) ((hlt184 rfl)) rfl) ?_
         refine ngc rfl 150 (!c182) (.int .i64 (x179)) (.bool c182) (by cases c182 <;> rfl) (fun h => by obtain rfl := bF h; exact WC.load1E (blk a126) (0 + (iL134) * 1) (.int .i64 (x179)) (by kernel_rfl) T_agg3 ((hYok111.mono hr152 rl153).blkB hv128 (zl ((hlt184 rfl)))) (flat_at1 (hYok111.mono hr152 rl153).1 hx180 rfl) rfl) ?_
         obtain ⟨c185, e185, p185⟩ := @nb (ltI (x179) (x176)) ((x179) < (x176)) (ltI_iff)
         refine ng rfl 150 (!c182) (.bool c185) (.bool c182) (by cases c182 <;> rfl) (fun h => by obtain rfl := bF h; exact fun _ _ _ => by subst e185; kernel_rfl) ?_
         refine ng rfl 150 (!c182) (.bool c165) (.bool c182) (by cases c182 <;> rfl) (fun h => by obtain rfl := bF h; exact fun _ _ _ => by kernel_rfl) ?_
         obtain ⟨c186, e186, p186⟩ := @nb (!(bif c185 then c165 else !c165)) (¬ (((x179) < (x176)) ↔ ((a.fAge) < (b.fAge)))) (by rw [← p185, ← p165]; cases c185 <;> cases c165 <;> simp)
         refine ng rfl 150 (!c182) (.bool c186) (.bool c182) (by cases c182 <;> rfl) (fun h => by obtain rfl := bF h; exact fun _ _ _ => by subst e186; cases c185 <;> cases c165 <;> kernel_rfl) ?_
         obtain ⟨c187, e187, p187⟩ := @nb ((c182 || c186)) ((¬ (((x176) < (x179)) ↔ ((b.fAge) < (a.fAge)))) ∨ (¬ (((x179) < (x176)) ↔ ((a.fAge) < (b.fAge))))) (by rw [Bool.or_eq_true, p182, p186])
         refine WN.consAt rfl (WC.opt (v := .bool c187) 162 (ePick (.bool c182) (.bool true) ((bif !c182 then .bool c186 else undef))) (fun _ _ _ => by kernel_rfl) (by rw [e187]; exact ePick_or (fun h => by obtain rfl : c182 = false := h; rfl)) ?_)
         refine WN.nil ⟨?_, ?_⟩
         ·
          refine cv (.slice a102 (Y87.l.length) c103) (hv104 ▸ hYok89.eqSelf 8) ?_
          refine cv (.int .i64 (.ofNat iL134)) (vEq_int ..) ?_
          refine co (.pointer (some ⟨(blk a102), 0 + (iL134) * 1, none⟩)) (eIndexAddr ex.T 29 (.slice a102 (Y87.l.length) c103) (.int .i64 (.ofNat (iL134)))) (eIndexAddr_A (k := .i64) T_und29 T_size3 ((hYok89.mono hr150 rl151).blkA hv104 (zl hlt175)) (hlt175)) (vEq_ptr ..) ?_
          refine co (.int .i64 (x176)) (eLoad ex.T hp136.get 3 (.pointer (some ⟨(blk a102), 0 + (iL134) * 1, none⟩))) (eLoad_oneE T_agg3 ((hYok89.mono hr150 rl151).blkB hv104 (zl hlt175)) (flat_at1 (hYok89.mono hr150 rl151).1 hx177 rfl)) (vEq_int ..) ?_
          refine cv (.slice a126 (Y109.l.length) c127) (hv128 ▸ hYok111.eqSelf 8) ?_
          refine cv (.int .i64 (.ofNat iL134)) (vEq_int ..) ?_
          refine co (.pointer (some ⟨(blk a126), 0 + (iL134) * 1, none⟩)) (eIndexAddr ex.T 29 (.slice a126 (Y109.l.length) c127) (.int .i64 (.ofNat (iL134)))) (eIndexAddr_A (k := .i64) T_und29 T_size3 ((hYok111.mono hr152 rl153).blkA hv128 (zl hlt178)) (hlt178)) (vEq_ptr ..) ?_
          refine co (.int .i64 (x179)) (eLoad ex.T hp136.get 3 (.pointer (some ⟨(blk a126), 0 + (iL134) * 1, none⟩))) (eLoad_oneE T_agg3 ((hYok111.mono hr152 rl153).blkB hv128 (zl hlt178)) (flat_at1 (hYok111.mono hr152 rl153).1 hx180 rfl)) (vEq_int ..) ?_
          refine cv (.bool c181) (vEq_bool 8 c181) ?_ (fun _ => by subst e181; kernel_rfl)
          refine cv (.bool c164) (vEq_bool 8 c164) ?_
          refine cv (.bool c182) (vEq_bool 8 c182) ?_ (fun _ => by subst e182; cases c181 <;> cases c164 <;> kernel_rfl)
          refine cv (.bool c182) (vEq_bool 8 c182) ?_
          refine cg rfl 150 (!c182) (.slice a102 (Y87.l.length) c103) (.bool c182) (by cases c182 <;> rfl) (fun h => by obtain rfl := bF h; exact chkV1 (.slice a102 (Y87.l.length) c103) (fun _ => by kernel_rfl) (hv104 ▸ hYok89.eqSelf 8)) ?_
          refine cg rfl 150 (!c182) (.int .i64 (.ofNat iL134)) (.bool c182) (by cases c182 <;> rfl) (fun h => by obtain rfl := bF h; exact chkV1 (.int .i64 (.ofNat iL134)) (fun _ => by kernel_rfl) (vEq_int ..)) ?_
          refine cg rfl 150 (!c182) (.pointer (some ⟨(blk a102), 0 + (iL134) * 1, none⟩)) (.bool c182) (by cases c182 <;> rfl) (fun h => by obtain rfl := bF h; exact chkO1 (.pointer (some ⟨(blk a102), 0 + (iL134) * 1, none⟩)) (eIndexAddr ex.T 29 (.slice a102 (Y87.l.length) c103) (.int .i64 (.ofNat (iL134)))) (fun _ => by kernel_rfl) (eIndexAddr_A (k := .i64) T_und29 T_size3 ((hYok89.mono hr150 rl151).blkA hv104 (zl ((hlt183 rfl)))) ((hlt183 rfl))) (vEq_ptr ..)) ?_
          refine cg rfl 150 (!c182) (.int .i64 (x176)) (.bool c182) (by cases c182 <;> rfl) (fun h => by obtain rfl := bF h; exact chkO1 (.int .i64 (x176)) (eLoad ex.T hp136.get 3 (.pointer (some ⟨(blk a102), 0 + (iL134) * 1, none⟩))) (fun _ => by kernel_rfl) (eLoad_oneE T_agg3 ((hYok89.mono hr150 rl151).blkB hv104 (zl ((hlt183 rfl)))) (flat_at1 (hYok89.mono hr150 rl151).1 hx177 rfl)) (vEq_int ..)) ?_
          refine cg rfl 150 (!c182) (.slice a126 (Y109.l.length) c127) (.bool c182) (by cases c182 <;> rfl) (fun h => by obtain rfl := bF h; exact chkV1 (.slice a126 (Y109.l.length) c127) (fun _ => by kernel_rfl) (hv128 ▸ hYok111.eqSelf 8)) ?_
          refine cg rfl 150 (!c182) (.int .i64 (.ofNat iL134)) (.bool c182) (by cases c182 <;> rfl) (fun h => by obtain rfl := bF h; exact chkV1 (.int .i64 (.ofNat iL134)) (fun _ => by kernel_rfl) (vEq_int ..)) ?_
          refine cg rfl 150 (!c182) (.pointer (some ⟨(blk a126), 0 + (iL134) * 1, none⟩)) (.bool c182) (by cases c182 <;> rfl) (fun h => by obtain rfl := bF h; exact chkO1 (.pointer (some ⟨(blk a126), 0 + (iL134) * 1, none⟩)) (eIndexAddr ex.T 29 (.slice a126 (Y109.l.length) c127) (.int .i64 (.ofNat (iL134)))) (fun _ => by kernel_rfl) (eIndexAddr_A (k := .i64) T_und29 T_size3 ((hYok111.mono hr152 rl153).blkA hv128 (zl ((hlt184 rfl)))) ((hlt184 rfl))) (vEq_ptr ..)) ?_
          refine cg rfl 150 (!c182) (.int .i64 (x179)) (.bool c182) (by cases c182 <;> rfl) (fun h => by obtain rfl := bF h; exact chkO1 (.int .i64 (x179)) (eLoad ex.T hp136.get 3 (.pointer (some ⟨(blk a126), 0 + (iL134) * 1, none⟩))) (fun _ => by kernel_rfl) (eLoad_oneE T_agg3 ((hYok111.mono hr152 rl153).blkB hv128 (zl ((hlt184 rfl)))) (flat_at1 (hYok111.mono hr152 rl153).1 hx180 rfl)) (vEq_int ..)) ?_
          refine cg rfl 150 (!c182) (.bool c185) (.bool c182) (by cases c182 <;> rfl) (fun h => by obtain rfl := bF h; exact chkV1 (.bool c185) (fun _ => by subst e185; kernel_rfl) (vEq_bool 8 c185)) ?_
          refine cg rfl 150 (!c182) (.bool c165) (.bool c182) (by cases c182 <;> rfl) (fun h => by obtain rfl := bF h; exact chkV1 (.bool c165) (fun _ => by kernel_rfl) (vEq_bool 8 c165)) ?_
          refine cg rfl 150 (!c182) (.bool c186) (.bool c182) (by cases c182 <;> rfl) (fun h => by obtain rfl := bF h; exact chkV1 (.bool c186) (fun _ => by subst e186; cases c185 <;> cases c165 <;> kernel_rfl) (vEq_bool 8 c186)) ?_
          refine co (.bool c187) (ePick (.bool c182) (.bool true) ((bif !c182 then .bool c186 else undef))) ((by rw [e187]; exact ePick_or (fun h => by obtain rfl : c182 = false := h; rfl))) (vEq_bool 8 c187) ?_
          exact Chks.nil
         refine WP.cond c187 (by kernel_rfl) (fun h188 => ?_) (fun h188 => ?_)
         ·
          have q189 := (p187).1 h188
          refine sr ?_
          refine ov 8 (.bool false) ?_
          refine WO.nil ?_
          refine WP.ret ⟨rfl, rfl, [.bool false], by kernel_rfl, ?_⟩
          exfalso
          have hxa : x176 = keyS a x159 := by have h := hx177; rw [hYl88, List.getElem?_map, hx160] at h; exact (Option.some.inj h).symm
          have hxb : x179 = keyS b x159 := by have h := hx180; rw [hYl110, List.getElem?_map, hx160] at h; exact (Option.some.inj h).symm
          have l1 := not_or.1 q174
          have l2 := not_or.1 l1.1
          have l3 := not_or.1 l2.1
          rw [hxa, hxb] at q189
          rw [q163] at q189
          have hk := (keys1 ha hb l3.1 l3.2)
          rcases q189 with h | h
          · exact h hk.1
          · exact h hk.2
         ·
          have q189 := nq p187 h188
          refine WP.skip ?_
          refine WP.region ?_
          refine ov 163 (.int .i64 (.ofNat (iL134 + 1))) ?_ (fun _ _ _ => by rw [← wrapAdd (show iL134 + 1 < 9223372036854775808 by omega)]; kernel_rfl)
          refine ov 51 (.int .i64 (.ofNat (iL134 + 1))) ?_
          refine WO.nil ?_
          refine ⟨J.l.length - (iL134 + 1), by omega, iL134 + 1, by omega, by kernel_rfl, by kernel_rfl, by kernel_rfl, by kernel_rfl, by kernel_rfl, by kernel_rfl, by kernel_rfl, rfl, rfl, ?_, ?_⟩
          · exact hn139
          · exact he140
       ·
        have q163 := nq p161 h162
        refine sr ?_
        obtain ⟨c190, e190, p190⟩ := @nb (eqI (x159) (2)) ((x159) = (2)) (eqI_iff)
        refine ov 70 (.bool c190) ?_ (fun _ _ _ => by subst e190; kernel_rfl)
        refine ov 69 (.bool c190) ?_
        refine WO.nil ?_
        refine WP.cond c190 (by kernel_rfl) (fun h191 => ?_) (fun h191 => ?_)
        ·
         have q192 := (p190).1 h191
         refine WP.drawS [⟨[0, 1, 2, 3, 4, 5, 6, 7, 8, 9], [0, 1, 2, 3, 4, 5, 6, 7, 8, 9], some 10⟩, ⟨[], [5, 6, 7, 8, 9], some 11⟩, ⟨[], [], none⟩] (by kernel_rfl) _ rfl ?_
         refine WD.eff ?_
         refine nv 71 (.pointer (some ⟨nx, 0 + 4, none⟩)) ?_
         refine WN.consAt rfl (WC.load1 nx (0 + 4) (.int .i64 (a.fAge)) (by kernel_rfl) T_agg3 hb142 rfl ?_)
         refine nv 73 (.pointer (some ⟨(nx + 1), 0 + 4, none⟩)) ?_
         refine WN.consAt rfl (WC.load1 (nx + 1) (0 + 4) (.int .i64 (b.fAge)) (by kernel_rfl) T_agg3 hb144 rfl ?_)
         obtain ⟨c193, e193, p193⟩ := @nb (ltI (a.fAge) (b.fAge)) ((a.fAge) < (b.fAge)) (ltI_iff)
         refine nv 75 (.bool c193) ?_ (fun _ _ _ => by subst e193; kernel_rfl)
         refine nv 76 (.pointer (some ⟨nx, 0 + 4, none⟩)) ?_
         refine WN.consAt rfl (WC.load1 nx (0 + 4) (.int .i64 (a.fAge)) (by kernel_rfl) T_agg3 hb142 rfl ?_)
         refine nv 78 (.pointer (some ⟨(nx + 1), 0 + 4, none⟩)) ?_
         refine WN.consAt rfl (WC.load1 (nx + 1) (0 + 4) (.int .i64 (b.fAge)) (by kernel_rfl) T_agg3 hb144 rfl ?_)
         obtain ⟨c194, e194, p194⟩ := @nb (ltI (b.fAge) (a.fAge)) ((b.fAge) < (a.fAge)) (ltI_iff)
         refine nv 80 (.bool c194) ?_ (fun _ _ _ => by subst e194; kernel_rfl)
         refine WN.nil ⟨?_, ?_⟩
         ·
          refine cv (.pointer (some ⟨nx, 0 + 4, none⟩)) (vEq_ptr ..) ?_
          refine co (.int .i64 (a.fAge)) (eLoad ex.T hp136.get 3 (.pointer (some ⟨nx, 0 + 4, none⟩))) (eLoad_one T_agg3 hb142 rfl) (vEq_int ..) ?_
          refine cv (.pointer (some ⟨(nx + 1), 0 + 4, none⟩)) (vEq_ptr ..) ?_
          refine co (.int .i64 (b.fAge)) (eLoad ex.T hp136.get 3 (.pointer (some ⟨(nx + 1), 0 + 4, none⟩))) (eLoad_one T_agg3 hb144 rfl) (vEq_int ..) ?_
          refine cv (.bool c193) (vEq_bool 8 c193) ?_ (fun _ => by subst e193; kernel_rfl)
          refine cv (.pointer (some ⟨nx, 0 + 4, none⟩)) (vEq_ptr ..) ?_
          refine co (.int .i64 (a.fAge)) (eLoad ex.T hp136.get 3 (.pointer (some ⟨nx, 0 + 4, none⟩))) (eLoad_one T_agg3 hb142 rfl) (vEq_int ..) ?_
          refine cv (.pointer (some ⟨(nx + 1), 0 + 4, none⟩)) (vEq_ptr ..) ?_
          refine co (.int .i64 (b.fAge)) (eLoad ex.T hp136.get 3 (.pointer (some ⟨(nx + 1), 0 + 4, none⟩))) (eLoad_one T_agg3 hb144 rfl) (vEq_int ..) ?_
          refine cv (.bool c194) (vEq_bool 8 c194) ?_ (fun _ => by subst e194; kernel_rfl)
          exact Chks.nil
         refine WC.at rfl (WC.val 15 (.bool c193) (fun _ _ _ => by kernel_rfl) ?_)
         refine WD.eff ?_
         refine WN.nil ⟨?_, ?_⟩
         ·
          refine cv (.pointer (some ⟨nx, 0 + 4, none⟩)) (vEq_ptr ..) ?_
          refine co (.int .i64 (a.fAge)) (eLoad ex.T hp136.get 3 (.pointer (some ⟨nx, 0 + 4, none⟩))) (eLoad_one T_agg3 hb142 rfl) (vEq_int ..) ?_
          refine cv (.pointer (some ⟨(nx + 1), 0 + 4, none⟩)) (vEq_ptr ..) ?_
          refine co (.int .i64 (b.fAge)) (eLoad ex.T hp136.get 3 (.pointer (some ⟨(nx + 1), 0 + 4, none⟩))) (eLoad_one T_agg3 hb144 rfl) (vEq_int ..) ?_
          refine cv (.bool c194) (vEq_bool 8 c194) ?_ (fun _ => by subst e194; kernel_rfl)
          exact Chks.nil
         refine WC.at rfl (WC.val 16 (.bool c194) (fun _ _ _ => by kernel_rfl) ?_)
         refine WD.last ?_
         refine WN.nil ⟨?_, ?_⟩
         ·
          exact Chks.nil
         refine sr ?_
         refine ov 17 (.int .i64 (-9223372036854775808)) ?_
         refine WO.nil ?_
         refine WP.seq ?_
         refine sr ?_
         refine ov 117 (.pointer (some ⟨nx, 0 + 4, none⟩)) ?_
         refine WO.cons (WC.load1 nx (0 + 4) (.int .i64 (a.fAge)) (by kernel_rfl) T_agg3 hb142 rfl ?_)
         refine ov 119 (.int .i64 (-9223372036854775808)) ?_
         obtain ⟨c195, e195, p195⟩ := @nb (eqI (a.fAge) (-9223372036854775808)) ((a.fAge) = (-9223372036854775808)) (eqI_iff)
         refine ov 120 (.bool c195) ?_ (fun _ _ _ => by subst e195; kernel_rfl)
         refine ov 121 (.bool c195) ?_
         refine og 121 (!c195) (.pointer (some ⟨(nx + 1), 0 + 4, none⟩)) (.bool c195) (by cases c195 <;> rfl) (fun h => by obtain rfl := bF h; exact fun _ _ _ => by kernel_rfl) ?_
         refine ogc 121 (!c195) (.int .i64 (b.fAge)) (.bool c195) (by cases c195 <;> rfl) (fun h => by obtain rfl := bF h; exact WC.load1 (nx + 1) (0 + 4) (.int .i64 (b.fAge)) (by kernel_rfl) T_agg3 hb144 rfl rfl) ?_
         refine og 121 (!c195) (.int .i64 (-9223372036854775808)) (.bool c195) (by cases c195 <;> rfl) (fun h => by obtain rfl := bF h; exact fun _ _ _ => by kernel_rfl) ?_
         obtain ⟨c196, e196, p196⟩ := @nb (eqI (b.fAge) (-9223372036854775808)) ((b.fAge) = (-9223372036854775808)) (eqI_iff)
         refine og 121 (!c195) (.bool c196) (.bool c195) (by cases c195 <;> rfl) (fun h => by obtain rfl := bF h; exact fun _ _ _ => by subst e196; kernel_rfl) ?_
         obtain ⟨c197, e197, p197⟩ := @nb ((c195 || c196)) (((a.fAge) = (-9223372036854775808)) ∨ ((b.fAge) = (-9223372036854775808))) (by rw [Bool.or_eq_true, p195, p196])
         refine WO.cons (WC.opt (v := .bool c197) 126 (ePick (.bool c195) (.bool true) ((bif !c195 then .bool c196 else undef))) (fun _ _ _ => by kernel_rfl) (by rw [e197]; exact ePick_or (fun h => by obtain rfl : c195 = false := h; rfl)) ?_)
         refine ov 127 (.bool c197) ?_
         refine og 127 (!c197) (.pointer (some ⟨nx, 0 + 2, none⟩)) (.bool c197) (by cases c197 <;> rfl) (fun h => by obtain rfl := bF h; exact fun _ _ _ => by kernel_rfl) ?_
         refine ogc 127 (!c197) (.int .i64 (a.fWave)) (.bool c197) (by cases c197 <;> rfl) (fun h => by obtain rfl := bF h; exact WC.load1 nx (0 + 2) (.int .i64 (a.fWave)) (by kernel_rfl) T_agg3 hb142 rfl rfl) ?_
         refine og 127 (!c197) (.int .i64 (-9223372036854775808)) (.bool c197) (by cases c197 <;> rfl) (fun h => by obtain rfl := bF h; exact fun _ _ _ => by kernel_rfl) ?_
         obtain ⟨c198, e198, p198⟩ := @nb (eqI (a.fWave) (-9223372036854775808)) ((a.fWave) = (-9223372036854775808)) (eqI_iff)
         refine og 127 (!c197) (.bool c198) (.bool c197) (by cases c197 <;> rfl) (fun h => by obtain rfl := bF h; exact fun _ _ _ => by subst e198; kernel_rfl) ?_
         obtain ⟨c199, e199, p199⟩ := @nb ((c197 || c198)) ((((a.fAge) = (-9223372036854775808)) ∨ ((b.fAge) = (-9223372036854775808))) ∨ ((a.fWave) = (-9223372036854775808))) (by rw [Bool.or_eq_true, p197, p198])
         refine WO.cons (WC.opt (v := .bool c199) 132 (ePick (.bool c197) (.bool true) ((bif !c197 then .bool c198 else undef))) (fun _ _ _ => by kernel_rfl) (by rw [e199]; exact ePick_or (fun h => by obtain rfl : c197 = false := h; rfl)) ?_)
         refine ov 133 (.bool c199) ?_
         refine og 133 (!c199) (.pointer (some ⟨(nx + 1), 0 + 2, none⟩)) (.bool c199) (by cases c199 <;> rfl) (fun h => by obtain rfl := bF h; exact fun _ _ _ => by kernel_rfl) ?_
         refine ogc 133 (!c199) (.int .i64 (b.fWave)) (.bool c199) (by cases c199 <;> rfl) (fun h => by obtain rfl := bF h; exact WC.load1 (nx + 1) (0 + 2) (.int .i64 (b.fWave)) (by kernel_rfl) T_agg3 hb144 rfl rfl) ?_
         refine og 133 (!c199) (.int .i64 (-9223372036854775808)) (.bool c199) (by cases c199 <;> rfl) (fun h => by obtain rfl := bF h; exact fun _ _ _ => by kernel_rfl) ?_
         obtain ⟨c200, e200, p200⟩ := @nb (eqI (b.fWave) (-9223372036854775808)) ((b.fWave) = (-9223372036854775808)) (eqI_iff)
         refine og 133 (!c199) (.bool c200) (.bool c199) (by cases c199 <;> rfl) (fun h => by obtain rfl := bF h; exact fun _ _ _ => by subst e200; kernel_rfl) ?_
         obtain ⟨c201, e201, p201⟩ := @nb ((c199 || c200)) (((((a.fAge) = (-9223372036854775808)) ∨ ((b.fAge) = (-9223372036854775808))) ∨ ((a.fWave) = (-9223372036854775808))) ∨ ((b.fWave) = (-9223372036854775808))) (by rw [Bool.or_eq_true, p199, p200])
         refine WO.cons (WC.opt (v := .bool c201) 138 (ePick (.bool c199) (.bool true) ((bif !c199 then .bool c200 else undef))) (fun _ _ _ => by kernel_rfl) (by rw [e201]; exact ePick_or (fun h => by obtain rfl : c199 = false := h; rfl)) ?_)
         refine WO.nil ?_
         refine WP.cond c201 (by kernel_rfl) (fun h202 => ?_) (fun h202 => ?_)
         ·
          have q203 := (p201).1 h202
          refine sr ?_
          refine ov 8 (.bool true) ?_
          refine WO.nil ?_
          refine WP.ret ⟨rfl, rfl, [.bool true], by kernel_rfl, ?_⟩
          exact ⟨⟨true, rfl, fun _ => trivial, fun _ => rfl⟩, le154, hE141⟩
         ·
          have q203 := nq p201 h202
          refine WP.skip ?_
          refine WP.seq ?_
          refine WP.drawS [⟨[0, 1, 2, 3, 4, 5, 6, 7, 8, 9, 10, 11, 12, 13, 14, 15, 16, 17, 18, 19, 20, 21, 22, 23], [0, 1, 2, 3, 4, 5, 6, 7, 8, 9, 10, 11, 12, 13, 14, 15, 16, 17, 18, 19, 20, 21, 22, 23], none⟩] (by kernel_rfl) _ rfl ?_
          refine WD.last ?_
          refine nv 139 (.slice a102 (Y87.l.length) c103) ?_
          refine nv 140 (.int .i64 (.ofNat iL134)) ?_
          have hlt204 : iL134 < Y87.l.length := by omega
          refine WN.consAt rfl (WC.ix (k := .i64) a102 (Y87.l.length) c103 (iL134) 1 (by kernel_rfl) (by kernel_rfl) T_und29 T_size3 ((hYok89.mono hr150 rl151).blkA hv104 (zl hlt204)) (hlt204) ?_)
          obtain ⟨x205, hx206⟩ : ∃ el_, Y87.l[iL134]? = some el_ := ⟨_, List.getElem?_eq_getElem (hlt204)⟩
          refine WN.consAt rfl (WC.load1E (blk a102) (0 + (iL134) * 1) (.int .i64 (x205)) (by kernel_rfl) T_agg3 ((hYok89.mono hr150 rl151).blkB hv104 (zl hlt204)) (flat_at1 (hYok89.mono hr150 rl151).1 hx206 rfl) ?_)
          refine nv 143 (.slice a126 (Y109.l.length) c127) ?_
          refine nv 144 (.int .i64 (.ofNat iL134)) ?_
          have hlt207 : iL134 < Y109.l.length := by omega
          refine WN.consAt rfl (WC.ix (k := .i64) a126 (Y109.l.length) c127 (iL134) 1 (by kernel_rfl) (by kernel_rfl) T_und29 T_size3 ((hYok111.mono hr152 rl153).blkA hv128 (zl hlt207)) (hlt207) ?_)
          obtain ⟨x208, hx209⟩ : ∃ el_, Y109.l[iL134]? = some el_ := ⟨_, List.getElem?_eq_getElem (hlt207)⟩
          refine WN.consAt rfl (WC.load1E (blk a126) (0 + (iL134) * 1) (.int .i64 (x208)) (by kernel_rfl) T_agg3 ((hYok111.mono hr152 rl153).blkB hv128 (zl hlt207)) (flat_at1 (hYok111.mono hr152 rl153).1 hx209 rfl) ?_)
          obtain ⟨c210, e210, p210⟩ := @nb (ltI (x205) (x208)) ((x205) < (x208)) (ltI_iff)
          refine nv 147 (.bool c210) ?_ (fun _ _ _ => by subst e210; kernel_rfl)
          refine nv 148 (.bool c193) ?_
          obtain ⟨c211, e211, p211⟩ := @nb (!(bif c210 then c193 else !c193)) (¬ (((x205) < (x208)) ↔ ((a.fAge) < (b.fAge)))) (by rw [← p210, ← p193]; cases c210 <;> cases c193 <;> simp)
          refine nv 149 (.bool c211) ?_ (fun _ _ _ => by subst e211; cases c210 <;> cases c193 <;> kernel_rfl)
          refine nv 150 (.bool c211) ?_
          refine ng rfl 150 (!c211) (.slice a102 (Y87.l.length) c103) (.bool c211) (by cases c211 <;> rfl) (fun h => by obtain rfl := bF h; exact fun _ _ _ => by kernel_rfl) ?_
          refine ng rfl 150 (!c211) (.int .i64 (.ofNat iL134)) (.bool c211) (by cases c211 <;> rfl) (fun h => by obtain rfl := bF h; exact fun _ _ _ => by kernel_rfl) ?_
          have hlt212 : (!c211) = true → iL134 < Y87.l.length := fun h => by obtain rfl : c211 = false := (by simpa using h); have q0 : ¬ (¬ (((x205) < (x208)) ↔ ((a.fAge) < (b.fAge)))) := (fun k => absurd ((p211).2 k) (by decide)); omega
          refine ngc rfl 150 (!c211) (.pointer (some ⟨(blk a102), 0 + (iL134) * 1, none⟩)) (.bool c211) (by cases c211 <;> rfl) (fun h => by obtain rfl := bF h; exact WC.ix (k := .i64) a102 (Y87.l.length) c103 (iL134) 1 (by kernel_rfl) (by kernel_rfl) T_und29 T_size3 ((hYok89.mono hr150 rl151).blkA hv104 (zl ((hlt212 rfl)))) ((hlt212 rfl)) rfl) ?_
          refine ngc rfl 150 (!c211) (.int .i64 (x205)) (.bool c211) (by cases c211 <;> rfl) (fun h => by obtain rfl := bF h; exact WC.load1E (blk a102) (0 + (iL134) * 1) (.int .i64 (x205)) (by kernel_rfl) T_agg3 ((hYok89.mono hr150 rl151).blkB hv104 (zl ((hlt212 rfl)))) (flat_at1 (hYok89.mono hr150 rl151).1 hx206 rfl) rfl) ?_
          refine ng rfl 150 (!c211) (.slice a126 (Y109.l.length) c127) (.bool c211) (by cases c211 <;> rfl) (fun h => by obtain rfl := bF h; exact fun _ _ _ => by kernel_rfl) ?_
          refine ng rfl 150 (!c211) (.int .i64 (.ofNat iL134)) (.bool c211) (by cases c211 <;> rfl) (fun h => by obtain rfl := bF h; exact fun _ _ _ => by kernel_rfl) ?_
          have hlt213 : (!c211) = true → iL134 < Y109.l.length := fun h => by obtain rfl : c211 = false := (by simpa using h); have q0 : ¬ (¬ (((x205) < (x208)) ↔ ((a.fAge) < (b.fAge)))) := (fun k => absurd ((p211).2 k) (by decide)); omega
          refine ngc rfl 150 (!c211) (.pointer (some ⟨(blk a126), 0 + (iL134) * 1, none⟩)) (.bool c211) (by cases c211 <;> rfl) (fun h => by obtain rfl := bF h; exact WC.ix (k := .i64) a126 (Y109.l.length) c127 (iL134) 1 (by kernel_rfl) (by kernel_rfl) T_und29 T_size3 ((hYok111.mono hr152 rl153).blkA hv128 (zl ((hlt213 rfl)))) ((hlt213 rfl)) rfl) ?_
          refine ngc rfl 150 (!c211) (.int .i64 (x208)) (.bool c211) (by cases c211 <;> rfl) (fun h => by obtain rfl := bF h; exact WC.load1E (blk a126) (0 + (iL134) * 1) (.int .i64 (x208)) (by kernel_rfl) T_agg3 ((hYok111.mono hr152 rl153).blkB hv128 (zl ((hlt213 rfl)))) (flat_at1 (hYok111.mono hr152 rl153).1 hx209 rfl) rfl) ?_
          obtain ⟨c214, e214, p214⟩ := @nb (ltI (x208) (x205)) ((x208) < (x205)) (ltI_iff)
          refine ng rfl 150 (!c211) (.bool c214) (.bool c211) (by cases c211 <;> rfl) (fun h => by obtain rfl := bF h; exact fun _ _ _ => by subst e214; kernel_rfl) ?_
          refine ng rfl 150 (!c211) (.bool c194) (.bool c211) (by cases c211 <;> rfl) (fun h => by obtain rfl := bF h; exact fun _ _ _ => by kernel_rfl) ?_
          obtain ⟨c215, e215, p215⟩ := @nb (!(bif c214 then c194 else !c194)) (¬ (((x208) < (x205)) ↔ ((b.fAge) < (a.fAge)))) (by rw [← p214, ← p194]; cases c214 <;> cases c194 <;> simp)
          refine ng rfl 150 (!c211) (.bool c215) (.bool c211) (by cases c211 <;> rfl) (fun h => by obtain rfl := bF h; exact fun _ _ _ => by subst e215; cases c214 <;> cases c194 <;> kernel_rfl) ?_
          obtain ⟨c216, e216, p216⟩ := @nb ((c211 || c215)) ((¬ (((x205) < (x208)) ↔ ((a.fAge) < (b.fAge)))) ∨ (¬ (((x208) < (x205)) ↔ ((b.fAge) < (a.fAge))))) (by rw [Bool.or_eq_true, p211, p215])
          refine WN.consAt rfl (WC.opt (v := .bool c216) 162 (ePick (.bool c211) (.bool true) ((bif !c211 then .bool c215 else undef))) (fun _ _ _ => by kernel_rfl) (by rw [e216]; exact ePick_or (fun h => by obtain rfl : c211 = false := h; rfl)) ?_)
          refine WN.nil ⟨?_, ?_⟩
          ·
           refine cv (.slice a102 (Y87.l.length) c103) (hv104 ▸ hYok89.eqSelf 8) ?_
           refine cv (.int .i64 (.ofNat iL134)) (vEq_int ..) ?_
           refine co (.pointer (some ⟨(blk a102), 0 + (iL134) * 1, none⟩)) (eIndexAddr ex.T 29 (.slice a102 (Y87.l.length) c103) (.int .i64 (.ofNat (iL134)))) (eIndexAddr_A (k := .i64) T_und29 T_size3 ((hYok89.mono hr150 rl151).blkA hv104 (zl hlt204)) (hlt204)) (vEq_ptr ..) ?_
           refine co (.int .i64 (x205)) (eLoad ex.T hp136.get 3 (.pointer (some ⟨(blk a102), 0 + (iL134) * 1, none⟩))) (eLoad_oneE T_agg3 ((hYok89.mono hr150 rl151).blkB hv104 (zl hlt204)) (flat_at1 (hYok89.mono hr150 rl151).1 hx206 rfl)) (vEq_int ..) ?_
           refine cv (.slice a126 (Y109.l.length) c127) (hv128 ▸ hYok111.eqSelf 8) ?_
           refine cv (.int .i64 (.ofNat iL134)) (vEq_int ..) ?_
           refine co (.pointer (some ⟨(blk a126), 0 + (iL134) * 1, none⟩)) (eIndexAddr ex.T 29 (.slice a126 (Y109.l.length) c127) (.int .i64 (.ofNat (iL134)))) (eIndexAddr_A (k := .i64) T_und29 T_size3 ((hYok111.mono hr152 rl153).blkA hv128 (zl hlt207)) (hlt207)) (vEq_ptr ..) ?_
           refine co (.int .i64 (x208)) (eLoad ex.T hp136.get 3 (.pointer (some ⟨(blk a126), 0 + (iL134) * 1, none⟩))) (eLoad_oneE T_agg3 ((hYok111.mono hr152 rl153).blkB hv128 (zl hlt207)) (flat_at1 (hYok111.mono hr152 rl153).1 hx209 rfl)) (vEq_int ..) ?_
           refine cv (.bool c210) (vEq_bool 8 c210) ?_ (fun _ => by subst e210; kernel_rfl)
           refine cv (.bool c193) (vEq_bool 8 c193) ?_
           refine cv (.bool c211) (vEq_bool 8 c211) ?_ (fun _ => by subst e211; cases c210 <;> cases c193 <;> kernel_rfl)
           refine cv (.bool c211) (vEq_bool 8 c211) ?_
           refine cg rfl 150 (!c211) (.slice a102 (Y87.l.length) c103) (.bool c211) (by cases c211 <;> rfl) (fun h => by obtain rfl := bF h; exact chkV1 (.slice a102 (Y87.l.length) c103) (fun _ => by kernel_rfl) (hv104 ▸ hYok89.eqSelf 8)) ?_
           refine cg rfl 150 (!c211) (.int .i64 (.ofNat iL134)) (.bool c211) (by cases c211 <;> rfl) (fun h => by obtain rfl := bF h; exact chkV1 (.int .i64 (.ofNat iL134)) (fun _ => by kernel_rfl) (vEq_int ..)) ?_
           refine cg rfl 150 (!c211) (.pointer (some ⟨(blk a102), 0 + (iL134) * 1, none⟩)) (.bool c211) (by cases c211 <;> rfl) (fun h => by obtain rfl := bF h; exact chkO1 (.pointer (some ⟨(blk a102), 0 + (iL134) * 1, none⟩)) (eIndexAddr ex.T 29 (.slice a102 (Y87.l.length) c103) (.int .i64 (.ofNat (iL134)))) (fun _ => by kernel_rfl) (eIndexAddr_A (k := .i64) T_und29 T_size3 ((hYok89.mono hr150 rl151).blkA hv104 (zl ((hlt212 rfl)))) ((hlt212 rfl))) (vEq_ptr ..)) ?_
           refine cg rfl 150 (!c211) (.int .i64 (x205)) (.bool c211) (by cases c211 <;> rfl) (fun h => by obtain rfl := bF h; exact chkO1 (.int .i64 (x205)) (eLoad ex.T hp136.get 3 (.pointer (some ⟨(blk a102), 0 + (iL134) * 1, none⟩))) (fun _ => by kernel_rfl) (eLoad_oneE T_agg3 ((hYok89.mono hr150 rl151).blkB hv104 (zl ((hlt212 rfl)))) (flat_at1 (hYok89.mono hr150 rl151).1 hx206 rfl)) (vEq_int ..)) ?_
           refine cg rfl 150 (!c211) (.slice a126 (Y109.l.length) c127) (.bool c211) (by cases c211 <;> rfl) (fun h => by obtain rfl := bF h; exact chkV1 (.slice a126 (Y109.l.length) c127) (fun _ => by kernel_rfl) (hv128 ▸ hYok111.eqSelf 8)) ?_
           refine cg rfl 150 (!c211) (.int .i64 (.ofNat iL134)) (.bool c211) (by cases c211 <;> rfl) (fun h => by obtain rfl := bF h; exact chkV1 (.int .i64 (.ofNat iL134)) (fun _ => by kernel_rfl) (vEq_int ..)) ?_
           refine cg rfl 150 (!c211) (.pointer (some ⟨(blk a126), 0 + (iL134) * 1, none⟩)) (.bool c211) (by cases c211 <;> rfl) (fun h => by obtain rfl := bF h; exact chkO1 (.pointer (some ⟨(blk a126), 0 + (iL134) * 1, none⟩)) (eIndexAddr ex.T 29 (.slice a126 (Y109.l.length) c127) (.int .i64 (.ofNat (iL134)))) (fun _ => by kernel_rfl) (eIndexAddr_A (k := .i64) T_und29 T_size3 ((hYok111.mono hr152 rl153).blkA hv128 (zl ((hlt213 rfl)))) ((hlt213 rfl))) (vEq_ptr ..)) ?_
           refine cg rfl 150 (!c211) (.int .i64 (x208)) (.bool c211) (by cases c211 <;> rfl) (fun h => by obtain rfl := bF h; exact chkO1 (.int .i64 (x208)) (eLoad ex.T hp136.get 3 (.pointer (some ⟨(blk a126), 0 + (iL134) * 1, none⟩))) (fun _ => by kernel_rfl) (eLoad_oneE T_agg3 ((hYok111.mono hr152 rl153).blkB hv128 (zl ((hlt213 rfl)))) (flat_at1 (hYok111.mono hr152 rl153).1 hx209 rfl)) (vEq_int ..)) ?_
           refine cg rfl 150 (!c211) (.bool c214) (.bool c211) (by cases c211 <;> rfl) (fun h => by obtain rfl := bF h; exact chkV1 (.bool c214) (fun _ => by subst e214; kernel_rfl) (vEq_bool 8 c214)) ?_
           refine cg rfl 150 (!c211) (.bool c194) (.bool c211) (by cases c211 <;> rfl) (fun h => by obtain rfl := bF h; exact chkV1 (.bool c194) (fun _ => by kernel_rfl) (vEq_bool 8 c194)) ?_
           refine cg rfl 150 (!c211) (.bool c215) (.bool c211) (by cases c211 <;> rfl) (fun h => by obtain rfl := bF h; exact chkV1 (.bool c215) (fun _ => by subst e215; cases c214 <;> cases c194 <;> kernel_rfl) (vEq_bool 8 c215)) ?_
           refine co (.bool c216) (ePick (.bool c211) (.bool true) ((bif !c211 then .bool c215 else undef))) ((by rw [e216]; exact ePick_or (fun h => by obtain rfl : c211 = false := h; rfl))) (vEq_bool 8 c216) ?_
           exact Chks.nil
          refine WP.cond c216 (by kernel_rfl) (fun h217 => ?_) (fun h217 => ?_)
          ·
           have q218 := (p216).1 h217
           refine sr ?_
           refine ov 8 (.bool false) ?_
           refine WO.nil ?_
           refine WP.ret ⟨rfl, rfl, [.bool false], by kernel_rfl, ?_⟩
           exfalso
           have hxa : x205 = keyS a x159 := by have h := hx206; rw [hYl88, List.getElem?_map, hx160] at h; exact (Option.some.inj h).symm
           have hxb : x208 = keyS b x159 := by have h := hx209; rw [hYl110, List.getElem?_map, hx160] at h; exact (Option.some.inj h).symm
           have l1 := not_or.1 q203
           have l2 := not_or.1 l1.1
           have l3 := not_or.1 l2.1
           rw [hxa, hxb] at q218
           rw [q192] at q218
           have hk := @keys2 a b
           rcases q218 with h | h
           · exact h hk.1
           · exact h hk.2
          ·
           have q218 := nq p216 h217
           refine WP.skip ?_
           refine WP.region ?_
           refine ov 163 (.int .i64 (.ofNat (iL134 + 1))) ?_ (fun _ _ _ => by rw [← wrapAdd (show iL134 + 1 < 9223372036854775808 by omega)]; kernel_rfl)
           refine ov 51 (.int .i64 (.ofNat (iL134 + 1))) ?_
           refine WO.nil ?_
           refine ⟨J.l.length - (iL134 + 1), by omega, iL134 + 1, by omega, by kernel_rfl, by kernel_rfl, by kernel_rfl, by kernel_rfl, by kernel_rfl, by kernel_rfl, by kernel_rfl, rfl, rfl, ?_, ?_⟩
           · exact hn139
           · exact he140
        ·
         have q192 := nq p190 h191
         refine sr ?_
         obtain ⟨c219, e219, p219⟩ := @nb (eqI (x159) (3)) ((x159) = (3)) (eqI_iff)
         refine ov 82 (.bool c219) ?_ (fun _ _ _ => by subst e219; kernel_rfl)
         refine ov 81 (.bool c219) ?_
         refine WO.nil ?_
         refine WP.cond c219 (by kernel_rfl) (fun h220 => ?_) (fun h220 => ?_)
         ·
          have q221 := (p219).1 h220
          refine WP.drawS [⟨[0, 1, 2, 3, 4, 5, 6, 7, 8, 9], [0, 1, 2, 3, 4, 5, 6, 7, 8, 9], some 10⟩, ⟨[], [5, 6, 7, 8, 9], some 11⟩, ⟨[], [], none⟩] (by kernel_rfl) _ rfl ?_
          refine WD.eff ?_
          refine nv 83 (.pointer (some ⟨nx, 0 + 2, none⟩)) ?_
          refine WN.consAt rfl (WC.load1 nx (0 + 2) (.int .i64 (a.fWave)) (by kernel_rfl) T_agg3 hb142 rfl ?_)
          refine nv 85 (.pointer (some ⟨(nx + 1), 0 + 2, none⟩)) ?_
          refine WN.consAt rfl (WC.load1 (nx + 1) (0 + 2) (.int .i64 (b.fWave)) (by kernel_rfl) T_agg3 hb144 rfl ?_)
          obtain ⟨c222, e222, p222⟩ := @nb (ltI (b.fWave) (a.fWave)) ((b.fWave) < (a.fWave)) (ltI_iff)
          refine nv 87 (.bool c222) ?_ (fun _ _ _ => by subst e222; kernel_rfl)
          refine nv 88 (.pointer (some ⟨nx, 0 + 2, none⟩)) ?_
          refine WN.consAt rfl (WC.load1 nx (0 + 2) (.int .i64 (a.fWave)) (by kernel_rfl) T_agg3 hb142 rfl ?_)
          refine nv 90 (.pointer (some ⟨(nx + 1), 0 + 2, none⟩)) ?_
          refine WN.consAt rfl (WC.load1 (nx + 1) (0 + 2) (.int .i64 (b.fWave)) (by kernel_rfl) T_agg3 hb144 rfl ?_)
          obtain ⟨c223, e223, p223⟩ := @nb (ltI (a.fWave) (b.fWave)) ((a.fWave) < (b.fWave)) (ltI_iff)
          refine nv 92 (.bool c223) ?_ (fun _ _ _ => by subst e223; kernel_rfl)
          refine WN.nil ⟨?_, ?_⟩
          ·
           refine cv (.pointer (some ⟨nx, 0 + 2, none⟩)) (vEq_ptr ..) ?_
           refine co (.int .i64 (a.fWave)) (eLoad ex.T hp136.get 3 (.pointer (some ⟨nx, 0 + 2, none⟩))) (eLoad_one T_agg3 hb142 rfl) (vEq_int ..) ?_
           refine cv (.pointer (some ⟨(nx + 1), 0 + 2, none⟩)) (vEq_ptr ..) ?_
           refine co (.int .i64 (b.fWave)) (eLoad ex.T hp136.get 3 (.pointer (some ⟨(nx + 1), 0 + 2, none⟩))) (eLoad_one T_agg3 hb144 rfl) (vEq_int ..) ?_
           refine cv (.bool c222) (vEq_bool 8 c222) ?_ (fun _ => by subst e222; kernel_rfl)
           refine cv (.pointer (some ⟨nx, 0 + 2, none⟩)) (vEq_ptr ..) ?_
           refine co (.int .i64 (a.fWave)) (eLoad ex.T hp136.get 3 (.pointer (some ⟨nx, 0 + 2, none⟩))) (eLoad_one T_agg3 hb142 rfl) (vEq_int ..) ?_
           refine cv (.pointer (some ⟨(nx + 1), 0 + 2, none⟩)) (vEq_ptr ..) ?_
           refine co (.int .i64 (b.fWave)) (eLoad ex.T hp136.get 3 (.pointer (some ⟨(nx + 1), 0 + 2, none⟩))) (eLoad_one T_agg3 hb144 rfl) (vEq_int ..) ?_
           refine cv (.bool c223) (vEq_bool 8 c223) ?_ (fun _ => by subst e223; kernel_rfl)
           exact Chks.nil
          refine WC.at rfl (WC.val 15 (.bool c222) (fun _ _ _ => by kernel_rfl) ?_)
          refine WD.eff ?_
          refine WN.nil ⟨?_, ?_⟩
          ·
           refine cv (.pointer (some ⟨nx, 0 + 2, none⟩)) (vEq_ptr ..) ?_
           refine co (.int .i64 (a.fWave)) (eLoad ex.T hp136.get 3 (.pointer (some ⟨nx, 0 + 2, none⟩))) (eLoad_one T_agg3 hb142 rfl) (vEq_int ..) ?_
           refine cv (.pointer (some ⟨(nx + 1), 0 + 2, none⟩)) (vEq_ptr ..) ?_
           refine co (.int .i64 (b.fWave)) (eLoad ex.T hp136.get 3 (.pointer (some ⟨(nx + 1), 0 + 2, none⟩))) (eLoad_one T_agg3 hb144 rfl) (vEq_int ..) ?_
           refine cv (.bool c223) (vEq_bool 8 c223) ?_ (fun _ => by subst e223; kernel_rfl)
           exact Chks.nil
          refine WC.at rfl (WC.val 16 (.bool c223) (fun _ _ _ => by kernel_rfl) ?_)
          refine WD.last ?_
          refine WN.nil ⟨?_, ?_⟩
          ·
           exact Chks.nil
          refine sr ?_
          refine ov 17 (.int .i64 (-9223372036854775808)) ?_
          refine WO.nil ?_
          refine WP.seq ?_
          refine sr ?_
          refine ov 117 (.pointer (some ⟨nx, 0 + 4, none⟩)) ?_
          refine WO.cons (WC.load1 nx (0 + 4) (.int .i64 (a.fAge)) (by kernel_rfl) T_agg3 hb142 rfl ?_)
          refine ov 119 (.int .i64 (-9223372036854775808)) ?_
          obtain ⟨c224, e224, p224⟩ := @nb (eqI (a.fAge) (-9223372036854775808)) ((a.fAge) = (-9223372036854775808)) (eqI_iff)
          refine ov 120 (.bool c224) ?_ (fun _ _ _ => by subst e224; kernel_rfl)
          refine ov 121 (.bool c224) ?_
          refine og 121 (!c224) (.pointer (some ⟨(nx + 1), 0 + 4, none⟩)) (.bool c224) (by cases c224 <;> rfl) (fun h => by obtain rfl := bF h; exact fun _ _ _ => by kernel_rfl) ?_
          refine ogc 121 (!c224) (.int .i64 (b.fAge)) (.bool c224) (by cases c224 <;> rfl) (fun h => by obtain rfl := bF h; exact WC.load1 (nx + 1) (0 + 4) (.int .i64 (b.fAge)) (by kernel_rfl) T_agg3 hb144 rfl rfl) ?_
          refine og 121 (!c224) (.int .i64 (-9223372036854775808)) (.bool c224) (by cases c224 <;> rfl) (fun h => by obtain rfl := bF h; exact fun _ _ _ => by kernel_rfl) ?_
          obtain ⟨c225, e225, p225⟩ := @nb (eqI (b.fAge) (-9223372036854775808)) ((b.fAge) = (-9223372036854775808)) (eqI_iff)
          refine og 121 (!c224) (.bool c225) (.bool c224) (by cases c224 <;> rfl) (fun h => by obtain rfl := bF h; exact fun _ _ _ => by subst e225; kernel_rfl) ?_
          obtain ⟨c226, e226, p226⟩ := @nb ((c224 || c225)) (((a.fAge) = (-9223372036854775808)) ∨ ((b.fAge) = (-9223372036854775808))) (by rw [Bool.or_eq_true, p224, p225])
          refine WO.cons (WC.opt (v := .bool c226) 126 (ePick (.bool c224) (.bool true) ((bif !c224 then .bool c225 else undef))) (fun _ _ _ => by kernel_rfl) (by rw [e226]; exact ePick_or (fun h => by obtain rfl : c224 = false := h; rfl)) ?_)
          refine ov 127 (.bool c226) ?_
          refine og 127 (!c226) (.pointer (some ⟨nx, 0 + 2, none⟩)) (.bool c226) (by cases c226 <;> rfl) (fun h => by obtain rfl := bF h; exact fun _ _ _ => by kernel_rfl) ?_
          refine ogc 127 (!c226) (.int .i64 (a.fWave)) (.bool c226) (by cases c226 <;> rfl) (fun h => by obtain rfl := bF h; exact WC.load1 nx (0 + 2) (.int .i64 (a.fWave)) (by kernel_rfl) T_agg3 hb142 rfl rfl) ?_
          refine og 127 (!c226) (.int .i64 (-9223372036854775808)) (.bool c226) (by cases c226 <;> rfl) (fun h => by obtain rfl := bF h; exact fun _ _ _ => by kernel_rfl) ?_
          obtain ⟨c227, e227, p227⟩ := @nb (eqI (a.fWave) (-9223372036854775808)) ((a.fWave) = (-9223372036854775808)) (eqI_iff)
          refine og 127 (!c226) (.bool c227) (.bool c226) (by cases c226 <;> rfl) (fun h => by obtain rfl := bF h; exact fun _ _ _ => by subst e227; kernel_rfl) ?_
          obtain ⟨c228, e228, p228⟩ := @nb ((c226 || c227)) ((((a.fAge) = (-9223372036854775808)) ∨ ((b.fAge) = (-9223372036854775808))) ∨ ((a.fWave) = (-9223372036854775808))) (by rw [Bool.or_eq_true, p226, p227])
          refine WO.cons (WC.opt (v := .bool c228) 132 (ePick (.bool c226) (.bool true) ((bif !c226 then .bool c227 else undef))) (fun _ _ _ => by kernel_rfl) (by rw [e228]; exact ePick_or (fun h => by obtain rfl : c226 = false := h; rfl)) ?_)
          refine ov 133 (.bool c228) ?_
          refine og 133 (!c228) (.pointer (some ⟨(nx + 1), 0 + 2, none⟩)) (.bool c228) (by cases c228 <;> rfl) (fun h => by obtain rfl := bF h; exact fun _ _ _ => by kernel_rfl) ?_
          refine ogc 133 (!c228) (.int .i64 (b.fWave)) (.bool c228) (by cases c228 <;> rfl) (fun h => by obtain rfl := bF h; exact WC.load1 (nx + 1) (0 + 2) (.int .i64 (b.fWave)) (by kernel_rfl) T_agg3 hb144 rfl rfl) ?_
          refine og 133 (!c228) (.int .i64 (-9223372036854775808)) (.bool c228) (by cases c228 <;> rfl) (fun h => by obtain rfl := bF h; exact fun _ _ _ => by kernel_rfl) ?_
          obtain ⟨c229, e229, p229⟩ := @nb (eqI (b.fWave) (-9223372036854775808)) ((b.fWave) = (-9223372036854775808)) (eqI_iff)
          refine og 133 (!c228) (.bool c229) (.bool c228) (by cases c228 <;> rfl) (fun h => by obtain rfl := bF h; exact fun _ _ _ => by subst e229; kernel_rfl) ?_
          obtain ⟨c230, e230, p230⟩ := @nb ((c228 || c229)) (((((a.fAge) = (-9223372036854775808)) ∨ ((b.fAge) = (-9223372036854775808))) ∨ ((a.fWave) = (-9223372036854775808))) ∨ ((b.fWave) = (-9223372036854775808))) (by rw [Bool.or_eq_true, p228, p229])
          refine WO.cons (WC.opt (v := .bool c230) 138 (ePick (.bool c228) (.bool true) ((bif !c228 then .bool c229 else undef))) (fun _ _ _ => by kernel_rfl) (by rw [e230]; exact ePick_or (fun h => by obtain rfl : c228 = false := h; rfl)) ?_)
          refine WO.nil ?_
          refine WP.cond c230 (by kernel_rfl) (fun h231 => ?_) (fun h231 => ?_)
          ·
           have q232 := (p230).1 h231
           refine sr ?_
           refine ov 8 (.bool true) ?_
           refine WO.nil ?_
           refine WP.ret ⟨rfl, rfl, [.bool true], by kernel_rfl, ?_⟩
           exact ⟨⟨true, rfl, fun _ => trivial, fun _ => rfl⟩, le154, hE141⟩
          ·
           have q232 := nq p230 h231
           refine WP.skip ?_
           refine WP.seq ?_
           refine WP.drawS [⟨[0, 1, 2, 3, 4, 5, 6, 7, 8, 9, 10, 11, 12, 13, 14, 15, 16, 17, 18, 19, 20, 21, 22, 23], [0, 1, 2, 3, 4, 5, 6, 7, 8, 9, 10, 11, 12, 13, 14, 15, 16, 17, 18, 19, 20, 21, 22, 23], none⟩] (by kernel_rfl) _ rfl ?_
           refine WD.last ?_
           refine nv 139 (.slice a102 (Y87.l.length) c103) ?_
           refine nv 140 (.int .i64 (.ofNat iL134)) ?_
           have hlt233 : iL134 < Y87.l.length := by omega
           refine WN.consAt rfl (WC.ix (k := .i64) a102 (Y87.l.length) c103 (iL134) 1 (by kernel_rfl) (by kernel_rfl) T_und29 T_size3 ((hYok89.mono hr150 rl151).blkA hv104 (zl hlt233)) (hlt233) ?_)
           obtain ⟨x234, hx235⟩ : ∃ el_, Y87.l[iL134]? = some el_ := ⟨_, List.getElem?_eq_getElem (hlt233)⟩
           refine WN.consAt rfl (WC.load1E (blk a102) (0 + (iL134) * 1) (.int .i64 (x234)) (by kernel_rfl) T_agg3 ((hYok89.mono hr150 rl151).blkB hv104 (zl hlt233)) (flat_at1 (hYok89.mono hr150 rl151).1 hx235 rfl) ?_)
           refine nv 143 (.slice a126 (Y109.l.length) c127) ?_
           refine nv 144 (.int .i64 (.ofNat iL134)) ?_
           have hlt236 : iL134 < Y109.l.length := by omega
           refine WN.consAt rfl (WC.ix (k := .i64) a126 (Y109.l.length) c127 (iL134) 1 (by kernel_rfl) (by kernel_rfl) T_und29 T_size3 ((hYok111.mono hr152 rl153).blkA hv128 (zl hlt236)) (hlt236) ?_)
           obtain ⟨x237, hx238⟩ : ∃ el_, Y109.l[iL134]? = some el_ := ⟨_, List.getElem?_eq_getElem (hlt236)⟩
           refine WN.consAt rfl (WC.load1E (blk a126) (0 + (iL134) * 1) (.int .i64 (x237)) (by kernel_rfl) T_agg3 ((hYok111.mono hr152 rl153).blkB hv128 (zl hlt236)) (flat_at1 (hYok111.mono hr152 rl153).1 hx238 rfl) ?_)
           obtain ⟨c239, e239, p239⟩ := @nb (ltI (x234) (x237)) ((x234) < (x237)) (ltI_iff)
           refine nv 147 (.bool c239) ?_ (fun _ _ _ => by subst e239; kernel_rfl)
           refine nv 148 (.bool c222) ?_
           obtain ⟨c240, e240, p240⟩ := @nb (!(bif c239 then c222 else !c222)) (¬ (((x234) < (x237)) ↔ ((b.fWave) < (a.fWave)))) (by rw [← p239, ← p222]; cases c239 <;> cases c222 <;> simp)
           refine nv 149 (.bool c240) ?_ (fun _ _ _ => by subst e240; cases c239 <;> cases c222 <;> kernel_rfl)
           refine nv 150 (.bool c240) ?_
           refine ng rfl 150 (!c240) (.slice a102 (Y87.l.length) c103) (.bool c240) (by cases c240 <;> rfl) (fun h => by obtain rfl := bF h; exact fun _ _ _ => by kernel_rfl) ?_
           refine ng rfl 150 (!c240) (.int .i64 (.ofNat iL134)) (.bool c240) (by cases c240 <;> rfl) (fun h => by obtain rfl := bF h; exact fun _ _ _ => by kernel_rfl) ?_
           have hlt241 : (!c240) = true → iL134 < Y87.l.length := fun h => by obtain rfl : c240 = false := (by simpa using h); have q0 : ¬ (¬ (((x234) < (x237)) ↔ ((b.fWave) < (a.fWave)))) := (fun k => absurd ((p240).2 k) (by decide)); omega
           refine ngc rfl 150 (!c240) (.pointer (some ⟨(blk a102), 0 + (iL134) * 1, none⟩)) (.bool c240) (by cases c240 <;> rfl) (fun h => by obtain rfl := bF h; exact WC.ix (k := .i64) a102 (Y87.l.length) c103 (iL134) 1 (by kernel_rfl) (by kernel_rfl) T_und29 T_size3 ((hYok89.mono hr150 rl151).blkA hv104 (zl ((hlt241 rfl)))) ((hlt241 rfl)) rfl) ?_
           refine ngc rfl 150 (!c240) (.int .i64 (x234)) (.bool c240) (by cases c240 <;> rfl) (fun h => by obtain rfl := bF h; exact WC.load1E (blk a102) (0 + (iL134) * 1) (.int .i64 (x234)) (by kernel_rfl) T_agg3 ((hYok89.mono hr150 rl151).blkB hv104 (zl ((hlt241 rfl)))) (flat_at1 (hYok89.mono hr150 rl151).1 hx235 rfl) rfl) ?_
           refine ng rfl 150 (!c240) (.slice a126 (Y109.l.length) c127) (.bool c240) (by cases c240 <;> rfl) (fun h => by obtain rfl := bF h; exact fun _ _ _ => by kernel_rfl) ?_
           refine ng rfl 150 (!c240) (.int .i64 (.ofNat iL134)) (.bool c240) (by cases c240 <;> rfl) (fun h => by obtain rfl := bF h; exact fun _ _ _ => by kernel_rfl) ?_
           have hlt242 : (!c240) = true → iL134 < Y109.l.length := fun h => by obtain rfl : c240 = false := (by simpa using h); have q0 : ¬ (¬ (((x234) < (x237)) ↔ ((b.fWave) < (a.fWave)))) := (fun k => absurd ((p240).2 k) (by decide)); omega
           refine ngc rfl 150 (!c240) (.pointer (some ⟨(blk a126), 0 + (iL134) * 1, none⟩)) (.bool c240) (by cases c240 <;> rfl) (fun h => by obtain rfl := bF h; exact WC.ix (k := .i64) a126 (Y109.l.length) c127 (iL134) 1 (by kernel_rfl) (by kernel_rfl) T_und29 T_size3 ((hYok111.mono hr152 rl153).blkA hv128 (zl ((hlt242 rfl)))) ((hlt242 rfl)) rfl) ?_
           refine ngc rfl 150 (!c240) (.int .i64 (x237)) (.bool c240) (by cases c240 <;> rfl) (fun h => by obtain rfl := bF h; exact WC.load1E (blk a126) (0 + (iL134) * 1) (.int .i64 (x237)) (by kernel_rfl) T_agg3 ((hYok111.mono hr152 rl153).blkB hv128 (zl ((hlt242 rfl)))) (flat_at1 (hYok111.mono hr152 rl153).1 hx238 rfl) rfl) ?_
           obtain ⟨c243, e243, p243⟩ := @nb (ltI (x237) (x234)) ((x237) < (x234)) (ltI_iff)
           refine ng rfl 150 (!c240) (.bool c243) (.bool c240) (by cases c240 <;> rfl) (fun h => by obtain rfl := bF h; exact fun _ _ _ => by subst e243; kernel_rfl) ?_
           refine ng rfl 150 (!c240) (.bool c223) (.bool c240) (by cases c240 <;> rfl) (fun h => by obtain rfl := bF h; exact fun _ _ _ => by kernel_rfl) ?_
           obtain ⟨c244, e244, p244⟩ := @nb (!(bif c243 then c223 else !c223)) (¬ (((x237) < (x234)) ↔ ((a.fWave) < (b.fWave)))) (by rw [← p243, ← p223]; cases c243 <;> cases c223 <;> simp)
           refine ng rfl 150 (!c240) (.bool c244) (.bool c240) (by cases c240 <;> rfl) (fun h => by obtain rfl := bF h; exact fun _ _ _ => by subst e244; cases c243 <;> cases c223 <;> kernel_rfl) ?_
           obtain ⟨c245, e245, p245⟩ := @nb ((c240 || c244)) ((¬ (((x234) < (x237)) ↔ ((b.fWave) < (a.fWave)))) ∨ (¬ (((x237) < (x234)) ↔ ((a.fWave) < (b.fWave))))) (by rw [Bool.or_eq_true, p240, p244])
           refine WN.consAt rfl (WC.opt (v := .bool c245) 162 (ePick (.bool c240) (.bool true) ((bif !c240 then .bool c244 else undef))) (fun _ _ _ => by kernel_rfl) (by rw [e245]; exact ePick_or (fun h => by obtain rfl : c240 = false := h; rfl)) ?_)
           refine WN.nil ⟨?_, ?_⟩
           ·
            refine cv (.slice a102 (Y87.l.length) c103) (hv104 ▸ hYok89.eqSelf 8) ?_
            refine cv (.int .i64 (.ofNat iL134)) (vEq_int ..) ?_
            refine co (.pointer (some ⟨(blk a102), 0 + (iL134) * 1, none⟩)) (eIndexAddr ex.T 29 (.slice a102 (Y87.l.length) c103) (.int .i64 (.ofNat (iL134)))) (eIndexAddr_A (k := .i64) T_und29 T_size3 ((hYok89.mono hr150 rl151).blkA hv104 (zl hlt233)) (hlt233)) (vEq_ptr ..) ?_
            refine co (.int .i64 (x234)) (eLoad ex.T hp136.get 3 (.pointer (some ⟨(blk a102), 0 + (iL134) * 1, none⟩))) (eLoad_oneE T_agg3 ((hYok89.mono hr150 rl151).blkB hv104 (zl hlt233)) (flat_at1 (hYok89.mono hr150 rl151).1 hx235 rfl)) (vEq_int ..) ?_
            refine cv (.slice a126 (Y109.l.length) c127) (hv128 ▸ hYok111.eqSelf 8) ?_
            refine cv (.int .i64 (.ofNat iL134)) (vEq_int ..) ?_
            refine co (.pointer (some ⟨(blk a126), 0 + (iL134) * 1, none⟩)) (eIndexAddr ex.T 29 (.slice a126 (Y109.l.length) c127) (.int .i64 (.ofNat (iL134)))) (eIndexAddr_A (k := .i64) T_und29 T_size3 ((hYok111.mono hr152 rl153).blkA hv128 (zl hlt236)) (hlt236)) (vEq_ptr ..) ?_
            refine co (.int .i64 (x237)) (eLoad ex.T hp136.get 3 (.pointer (some ⟨(blk a126), 0 + (iL134) * 1, none⟩))) (eLoad_oneE T_agg3 ((hYok111.mono hr152 rl153).blkB hv128 (zl hlt236)) (flat_at1 (hYok111.mono hr152 rl153).1 hx238 rfl)) (vEq_int ..) ?_
            refine cv (.bool c239) (vEq_bool 8 c239) ?_ (fun _ => by subst e239; kernel_rfl)
            refine cv (.bool c222) (vEq_bool 8 c222) ?_
            refine cv (.bool c240) (vEq_bool 8 c240) ?_ (fun _ => by subst e240; cases c239 <;> cases c222 <;> kernel_rfl)
            refine cv (.bool c240) (vEq_bool 8 c240) ?_
            refine cg rfl 150 (!c240) (.slice a102 (Y87.l.length) c103) (.bool c240) (by cases c240 <;> rfl) (fun h => by obtain rfl := bF h; exact chkV1 (.slice a102 (Y87.l.length) c103) (fun _ => by kernel_rfl) (hv104 ▸ hYok89.eqSelf 8)) ?_
            refine cg rfl 150 (!c240) (.int .i64 (.ofNat iL134)) (.bool c240) (by cases c240 <;> rfl) (fun h => by obtain rfl := bF h; exact chkV1 (.int .i64 (.ofNat iL134)) (fun _ => by kernel_rfl) (vEq_int ..)) ?_
            refine cg rfl 150 (!c240) (.pointer (some ⟨(blk a102), 0 + (iL134) * 1, none⟩)) (.bool c240) (by cases c240 <;> rfl) (fun h => by obtain rfl := bF h; exact chkO1 (.pointer (some ⟨(blk a102), 0 + (iL134) * 1, none⟩)) (eIndexAddr ex.T 29 (.slice a102 (Y87.l.length) c103) (.int .i64 (.ofNat (iL134)))) (fun _ => by kernel_rfl) (eIndexAddr_A (k := .i64) T_und29 T_size3 ((hYok89.mono hr150 rl151).blkA hv104 (zl ((hlt241 rfl)))) ((hlt241 rfl))) (vEq_ptr ..)) ?_
            refine cg rfl 150 (!c240) (.int .i64 (x234)) (.bool c240) (by cases c240 <;> rfl) (fun h => by obtain rfl := bF h; exact chkO1 (.int .i64 (x234)) (eLoad ex.T hp136.get 3 (.pointer (some ⟨(blk a102), 0 + (iL134) * 1, none⟩))) (fun _ => by kernel_rfl) (eLoad_oneE T_agg3 ((hYok89.mono hr150 rl151).blkB hv104 (zl ((hlt241 rfl)))) (flat_at1 (hYok89.mono hr150 rl151).1 hx235 rfl)) (vEq_int ..)) ?_
            refine cg rfl 150 (!c240) (.slice a126 (Y109.l.length) c127) (.bool c240) (by cases c240 <;> rfl) (fun h => by obtain rfl := bF h; exact chkV1 (.slice a126 (Y109.l.length) c127) (fun _ => by kernel_rfl) (hv128 ▸ hYok111.eqSelf 8)) ?_
            refine cg rfl 150 (!c240) (.int .i64 (.ofNat iL134)) (.bool c240) (by cases c240 <;> rfl) (fun h => by obtain rfl := bF h; exact chkV1 (.int .i64 (.ofNat iL134)) (fun _ => by kernel_rfl) (vEq_int ..)) ?_
            refine cg rfl 150 (!c240) (.pointer (some ⟨(blk a126), 0 + (iL134) * 1, none⟩)) (.bool c240) (by cases c240 <;> rfl) (fun h => by obtain rfl := bF h; exact chkO1 (.pointer (some ⟨(blk a126), 0 + (iL134) * 1, none⟩)) (eIndexAddr ex.T 29 (.slice a126 (Y109.l.length) c127) (.int .i64 (.ofNat (iL134)))) (fun _ => by kernel_rfl) (eIndexAddr_A (k := .i64) T_und29 T_size3 ((hYok111.mono hr152 rl153).blkA hv128 (zl ((hlt242 rfl)))) ((hlt242 rfl))) (vEq_ptr ..)) ?_
            refine cg rfl 150 (!c240) (.int .i64 (x237)) (.bool c240) (by cases c240 <;> rfl) (fun h => by obtain rfl := bF h; exact chkO1 (.int .i64 (x237)) (eLoad ex.T hp136.get 3 (.pointer (some ⟨(blk a126), 0 + (iL134) * 1, none⟩))) (fun _ => by kernel_rfl) (eLoad_oneE T_agg3 ((hYok111.mono hr152 rl153).blkB hv128 (zl ((hlt242 rfl)))) (flat_at1 (hYok111.mono hr152 rl153).1 hx238 rfl)) (vEq_int ..)) ?_
            refine cg rfl 150 (!c240) (.bool c243) (.bool c240) (by cases c240 <;> rfl) (fun h => by obtain rfl := bF h; exact chkV1 (.bool c243) (fun _ => by subst e243; kernel_rfl) (vEq_bool 8 c243)) ?_
            refine cg rfl 150 (!c240) (.bool c223) (.bool c240) (by cases c240 <;> rfl) (fun h => by obtain rfl := bF h; exact chkV1 (.bool c223) (fun _ => by kernel_rfl) (vEq_bool 8 c223)) ?_
            refine cg rfl 150 (!c240) (.bool c244) (.bool c240) (by cases c240 <;> rfl) (fun h => by obtain rfl := bF h; exact chkV1 (.bool c244) (fun _ => by subst e244; cases c243 <;> cases c223 <;> kernel_rfl) (vEq_bool 8 c244)) ?_
            refine co (.bool c245) (ePick (.bool c240) (.bool true) ((bif !c240 then .bool c244 else undef))) ((by rw [e245]; exact ePick_or (fun h => by obtain rfl : c240 = false := h; rfl))) (vEq_bool 8 c245) ?_
            exact Chks.nil
           refine WP.cond c245 (by kernel_rfl) (fun h246 => ?_) (fun h246 => ?_)
           ·
            have q247 := (p245).1 h246
            refine sr ?_
            refine ov 8 (.bool false) ?_
            refine WO.nil ?_
            refine WP.ret ⟨rfl, rfl, [.bool false], by kernel_rfl, ?_⟩
            exfalso
            have hxa : x234 = keyS a x159 := by have h := hx235; rw [hYl88, List.getElem?_map, hx160] at h; exact (Option.some.inj h).symm
            have hxb : x237 = keyS b x159 := by have h := hx238; rw [hYl110, List.getElem?_map, hx160] at h; exact (Option.some.inj h).symm
            have l1 := not_or.1 q232
            have l2 := not_or.1 l1.1
            have l3 := not_or.1 l2.1
            rw [hxa, hxb] at q247
            rw [q221] at q247
            have hk := (keys3 ha hb l2.2 l1.2)
            rcases q247 with h | h
            · exact h hk.1
            · exact h hk.2
           ·
            have q247 := nq p245 h246
            refine WP.skip ?_
            refine WP.region ?_
            refine ov 163 (.int .i64 (.ofNat (iL134 + 1))) ?_ (fun _ _ _ => by rw [← wrapAdd (show iL134 + 1 < 9223372036854775808 by omega)]; kernel_rfl)
            refine ov 51 (.int .i64 (.ofNat (iL134 + 1))) ?_
            refine WO.nil ?_
            refine ⟨J.l.length - (iL134 + 1), by omega, iL134 + 1, by omega, by kernel_rfl, by kernel_rfl, by kernel_rfl, by kernel_rfl, by kernel_rfl, by kernel_rfl, by kernel_rfl, rfl, rfl, ?_, ?_⟩
            · exact hn139
            · exact he140
         ·
          have q221 := nq p219 h220
          refine sr ?_
          obtain ⟨c248, e248, p248⟩ := @nb (eqI (x159) (4)) ((x159) = (4)) (eqI_iff)
          refine ov 94 (.bool c248) ?_ (fun _ _ _ => by subst e248; kernel_rfl)
          refine ov 93 (.bool c248) ?_
          refine WO.nil ?_
          refine WP.cond c248 (by kernel_rfl) (fun h249 => ?_) (fun h249 => ?_)
          ·
           have q250 := (p248).1 h249
           refine WP.drawS [⟨[0, 1, 2, 3, 4, 5, 6, 7, 8, 9], [0, 1, 2, 3, 4, 5, 6, 7, 8, 9], some 10⟩, ⟨[], [5, 6, 7, 8, 9], some 11⟩, ⟨[], [], none⟩] (by kernel_rfl) _ rfl ?_
           refine WD.eff ?_
           refine nv 95 (.pointer (some ⟨nx, 0 + 0, none⟩)) ?_
           refine WN.consAt rfl (WC.load1 nx (0 + 0) (.int .i64 (a.fBib)) (by kernel_rfl) T_agg3 hb142 rfl ?_)
           refine nv 97 (.pointer (some ⟨(nx + 1), 0 + 0, none⟩)) ?_
           refine WN.consAt rfl (WC.load1 (nx + 1) (0 + 0) (.int .i64 (b.fBib)) (by kernel_rfl) T_agg3 hb144 rfl ?_)
           obtain ⟨c251, e251, p251⟩ := @nb (ltI (a.fBib) (b.fBib)) ((a.fBib) < (b.fBib)) (ltI_iff)
           refine nv 99 (.bool c251) ?_ (fun _ _ _ => by subst e251; kernel_rfl)
           refine nv 100 (.pointer (some ⟨nx, 0 + 0, none⟩)) ?_
           refine WN.consAt rfl (WC.load1 nx (0 + 0) (.int .i64 (a.fBib)) (by kernel_rfl) T_agg3 hb142 rfl ?_)
           refine nv 102 (.pointer (some ⟨(nx + 1), 0 + 0, none⟩)) ?_
           refine WN.consAt rfl (WC.load1 (nx + 1) (0 + 0) (.int .i64 (b.fBib)) (by kernel_rfl) T_agg3 hb144 rfl ?_)
           obtain ⟨c252, e252, p252⟩ := @nb (ltI (b.fBib) (a.fBib)) ((b.fBib) < (a.fBib)) (ltI_iff)
           refine nv 104 (.bool c252) ?_ (fun _ _ _ => by subst e252; kernel_rfl)
           refine WN.nil ⟨?_, ?_⟩
           ·
            refine cv (.pointer (some ⟨nx, 0 + 0, none⟩)) (vEq_ptr ..) ?_
            refine co (.int .i64 (a.fBib)) (eLoad ex.T hp136.get 3 (.pointer (some ⟨nx, 0 + 0, none⟩))) (eLoad_one T_agg3 hb142 rfl) (vEq_int ..) ?_
            refine cv (.pointer (some ⟨(nx + 1), 0 + 0, none⟩)) (vEq_ptr ..) ?_
            refine co (.int .i64 (b.fBib)) (eLoad ex.T hp136.get 3 (.pointer (some ⟨(nx + 1), 0 + 0, none⟩))) (eLoad_one T_agg3 hb144 rfl) (vEq_int ..) ?_
            refine cv (.bool c251) (vEq_bool 8 c251) ?_ (fun _ => by subst e251; kernel_rfl)
            refine cv (.pointer (some ⟨nx, 0 + 0, none⟩)) (vEq_ptr ..) ?_
            refine co (.int .i64 (a.fBib)) (eLoad ex.T hp136.get 3 (.pointer (some ⟨nx, 0 + 0, none⟩))) (eLoad_one T_agg3 hb142 rfl) (vEq_int ..) ?_
            refine cv (.pointer (some ⟨(nx + 1), 0 + 0, none⟩)) (vEq_ptr ..) ?_
            refine co (.int .i64 (b.fBib)) (eLoad ex.T hp136.get 3 (.pointer (some ⟨(nx + 1), 0 + 0, none⟩))) (eLoad_one T_agg3 hb144 rfl) (vEq_int ..) ?_
            refine cv (.bool c252) (vEq_bool 8 c252) ?_ (fun _ => by subst e252; kernel_rfl)
            exact Chks.nil
           refine WC.at rfl (WC.val 15 (.bool c251) (fun _ _ _ => by kernel_rfl) ?_)
           refine WD.eff ?_
           refine WN.nil ⟨?_, ?_⟩
           ·
            refine cv (.pointer (some ⟨nx, 0 + 0, none⟩)) (vEq_ptr ..) ?_
            refine co (.int .i64 (a.fBib)) (eLoad ex.T hp136.get 3 (.pointer (some ⟨nx, 0 + 0, none⟩))) (eLoad_one T_agg3 hb142 rfl) (vEq_int ..) ?_
            refine cv (.pointer (some ⟨(nx + 1), 0 + 0, none⟩)) (vEq_ptr ..) ?_
            refine co (.int .i64 (b.fBib)) (eLoad ex.T hp136.get 3 (.pointer (some ⟨(nx + 1), 0 + 0, none⟩))) (eLoad_one T_agg3 hb144 rfl) (vEq_int ..) ?_
            refine cv (.bool c252) (vEq_bool 8 c252) ?_ (fun _ => by subst e252; kernel_rfl)
            exact Chks.nil
           refine WC.at rfl (WC.val 16 (.bool c252) (fun _ _ _ => by kernel_rfl) ?_)
           refine WD.last ?_
           refine WN.nil ⟨?_, ?_⟩
           ·
            exact Chks.nil
           refine sr ?_
           refine ov 17 (.int .i64 (-9223372036854775808)) ?_
           refine WO.nil ?_
           refine WP.seq ?_
           refine sr ?_
           refine ov 117 (.pointer (some ⟨nx, 0 + 4, none⟩)) ?_
           refine WO.cons (WC.load1 nx (0 + 4) (.int .i64 (a.fAge)) (by kernel_rfl) T_agg3 hb142 rfl ?_)
           refine ov 119 (.int .i64 (-9223372036854775808)) ?_
           obtain ⟨c253, e253, p253⟩ := @nb (eqI (a.fAge) (-9223372036854775808)) ((a.fAge) = (-9223372036854775808)) (eqI_iff)
           refine ov 120 (.bool c253) ?_ (fun _ _ _ => by subst e253; kernel_rfl)
           refine ov 121 (.bool c253) ?_
           refine og 121 (!c253) (.pointer (some ⟨(nx + 1), 0 + 4, none⟩)) (.bool c253) (by cases c253 <;> rfl) (fun h => by obtain rfl := bF h; exact fun _ _ _ => by kernel_rfl) ?_
           refine ogc 121 (!c253) (.int .i64 (b.fAge)) (.bool c253) (by cases c253 <;> rfl) (fun h => by obtain rfl := bF h; exact WC.load1 (nx + 1) (0 + 4) (.int .i64 (b.fAge)) (by kernel_rfl) T_agg3 hb144 rfl rfl) ?_
           refine og 121 (!c253) (.int .i64 (-9223372036854775808)) (.bool c253) (by cases c253 <;> rfl) (fun h => by obtain rfl := bF h; exact fun _ _ _ => by kernel_rfl) ?_
           obtain ⟨c254, e254, p254⟩ := @nb (eqI (b.fAge) (-9223372036854775808)) ((b.fAge) = (-9223372036854775808)) (eqI_iff)
           refine og 121 (!c253) (.bool c254) (.bool c253) (by cases c253 <;> rfl) (fun h => by obtain rfl := bF h; exact fun _ _ _ => by subst e254; kernel_rfl) ?_
           obtain ⟨c255, e255, p255⟩ := @nb ((c253 || c254)) (((a.fAge) = (-9223372036854775808)) ∨ ((b.fAge) = (-9223372036854775808))) (by rw [Bool.or_eq_true, p253, p254])
           refine WO.cons (WC.opt (v := .bool c255) 126 (ePick (.bool c253) (.bool true) ((bif !c253 then .bool c254 else undef))) (fun _ _ _ => by kernel_rfl) (by rw [e255]; exact ePick_or (fun h => by obtain rfl : c253 = false := h; rfl)) ?_)
           refine ov 127 (.bool c255) ?_
           refine og 127 (!c255) (.pointer (some ⟨nx, 0 + 2, none⟩)) (.bool c255) (by cases c255 <;> rfl) (fun h => by obtain rfl := bF h; exact fun _ _ _ => by kernel_rfl) ?_
           refine ogc 127 (!c255) (.int .i64 (a.fWave)) (.bool c255) (by cases c255 <;> rfl) (fun h => by obtain rfl := bF h; exact WC.load1 nx (0 + 2) (.int .i64 (a.fWave)) (by kernel_rfl) T_agg3 hb142 rfl rfl) ?_
           refine og 127 (!c255) (.int .i64 (-9223372036854775808)) (.bool c255) (by cases c255 <;> rfl) (fun h => by obtain rfl := bF h; exact fun _ _ _ => by kernel_rfl) ?_
           obtain ⟨c256, e256, p256⟩ := @nb (eqI (a.fWave) (-9223372036854775808)) ((a.fWave) = (-9223372036854775808)) (eqI_iff)
           refine og 127 (!c255) (.bool c256) (.bool c255) (by cases c255 <;> rfl) (fun h => by obtain rfl := bF h; exact fun _ _ _ => by subst e256; kernel_rfl) ?_
           obtain ⟨c257, e257, p257⟩ := @nb ((c255 || c256)) ((((a.fAge) = (-9223372036854775808)) ∨ ((b.fAge) = (-9223372036854775808))) ∨ ((a.fWave) = (-9223372036854775808))) (by rw [Bool.or_eq_true, p255, p256])
           refine WO.cons (WC.opt (v := .bool c257) 132 (ePick (.bool c255) (.bool true) ((bif !c255 then .bool c256 else undef))) (fun _ _ _ => by kernel_rfl) (by rw [e257]; exact ePick_or (fun h => by obtain rfl : c255 = false := h; rfl)) ?_)
           refine ov 133 (.bool c257) ?_
           refine og 133 (!c257) (.pointer (some ⟨(nx + 1), 0 + 2, none⟩)) (.bool c257) (by cases c257 <;> rfl) (fun h => by obtain rfl := bF h; exact fun _ _ _ => by kernel_rfl) ?_
           refine ogc 133 (!c257) (.int .i64 (b.fWave)) (.bool c257) (by cases c257 <;> rfl) (fun h => by obtain rfl := bF h; exact WC.load1 (nx + 1) (0 + 2) (.int .i64 (b.fWave)) (by kernel_rfl) T_agg3 hb144 rfl rfl) ?_
           refine og 133 (!c257) (.int .i64 (-9223372036854775808)) (.bool c257) (by cases c257 <;> rfl) (fun h => by obtain rfl := bF h; exact fun _ _ _ => by kernel_rfl) ?_
           obtain ⟨c258, e258, p258⟩ := @nb (eqI (b.fWave) (-9223372036854775808)) ((b.fWave) = (-9223372036854775808)) (eqI_iff)
           refine og 133 (!c257) (.bool c258) (.bool c257) (by cases c257 <;> rfl) (fun h => by obtain rfl := bF h; exact fun _ _ _ => by subst e258; kernel_rfl) ?_
           obtain ⟨c259, e259, p259⟩ := @nb ((c257 || c258)) (((((a.fAge) = (-9223372036854775808)) ∨ ((b.fAge) = (-9223372036854775808))) ∨ ((a.fWave) = (-9223372036854775808))) ∨ ((b.fWave) = (-9223372036854775808))) (by rw [Bool.or_eq_true, p257, p258])
           refine WO.cons (WC.opt (v := .bool c259) 138 (ePick (.bool c257) (.bool true) ((bif !c257 then .bool c258 else undef))) (fun _ _ _ => by kernel_rfl) (by rw [e259]; exact ePick_or (fun h => by obtain rfl : c257 = false := h; rfl)) ?_)
           refine WO.nil ?_
           refine WP.cond c259 (by kernel_rfl) (fun h260 => ?_) (fun h260 => ?_)
           ·
            have q261 := (p259).1 h260
            refine sr ?_
            refine ov 8 (.bool true) ?_
            refine WO.nil ?_
            refine WP.ret ⟨rfl, rfl, [.bool true], by kernel_rfl, ?_⟩
            exact ⟨⟨true, rfl, fun _ => trivial, fun _ => rfl⟩, le154, hE141⟩
           ·
            have q261 := nq p259 h260
            refine WP.skip ?_
            refine WP.seq ?_
            refine WP.drawS [⟨[0, 1, 2, 3, 4, 5, 6, 7, 8, 9, 10, 11, 12, 13, 14, 15, 16, 17, 18, 19, 20, 21, 22, 23], [0, 1, 2, 3, 4, 5, 6, 7, 8, 9, 10, 11, 12, 13, 14, 15, 16, 17, 18, 19, 20, 21, 22, 23], none⟩] (by kernel_rfl) _ rfl ?_
            refine WD.last ?_
            refine nv 139 (.slice a102 (Y87.l.length) c103) ?_
            refine nv 140 (.int .i64 (.ofNat iL134)) ?_
            have hlt262 : iL134 < Y87.l.length := by omega
            refine WN.consAt rfl (WC.ix (k := .i64) a102 (Y87.l.length) c103 (iL134) 1 (by kernel_rfl) (by kernel_rfl) T_und29 T_size3 ((hYok89.mono hr150 rl151).blkA hv104 (zl hlt262)) (hlt262) ?_)
            obtain ⟨x263, hx264⟩ : ∃ el_, Y87.l[iL134]? = some el_ := ⟨_, List.getElem?_eq_getElem (hlt262)⟩
            refine WN.consAt rfl (WC.load1E (blk a102) (0 + (iL134) * 1) (.int .i64 (x263)) (by kernel_rfl) T_agg3 ((hYok89.mono hr150 rl151).blkB hv104 (zl hlt262)) (flat_at1 (hYok89.mono hr150 rl151).1 hx264 rfl) ?_)
            refine nv 143 (.slice a126 (Y109.l.length) c127) ?_
            refine nv 144 (.int .i64 (.ofNat iL134)) ?_
            have hlt265 : iL134 < Y109.l.length := by omega
            refine WN.consAt rfl (WC.ix (k := .i64) a126 (Y109.l.length) c127 (iL134) 1 (by kernel_rfl) (by kernel_rfl) T_und29 T_size3 ((hYok111.mono hr152 rl153).blkA hv128 (zl hlt265)) (hlt265) ?_)
            obtain ⟨x266, hx267⟩ : ∃ el_, Y109.l[iL134]? = some el_ := ⟨_, List.getElem?_eq_getElem (hlt265)⟩
            refine WN.consAt rfl (WC.load1E (blk a126) (0 + (iL134) * 1) (.int .i64 (x266)) (by kernel_rfl) T_agg3 ((hYok111.mono hr152 rl153).blkB hv128 (zl hlt265)) (flat_at1 (hYok111.mono hr152 rl153).1 hx267 rfl) ?_)
            obtain ⟨c268, e268, p268⟩ := @nb (ltI (x263) (x266)) ((x263) < (x266)) (ltI_iff)
            refine nv 147 (.bool c268) ?_ (fun _ _ _ => by subst e268; kernel_rfl)
            refine nv 148 (.bool c251) ?_
            obtain ⟨c269, e269, p269⟩ := @nb (!(bif c268 then c251 else !c251)) (¬ (((x263) < (x266)) ↔ ((a.fBib) < (b.fBib)))) (by rw [← p268, ← p251]; cases c268 <;> cases c251 <;> simp)
            refine nv 149 (.bool c269) ?_ (fun _ _ _ => by subst e269; cases c268 <;> cases c251 <;> kernel_rfl)
            refine nv 150 (.bool c269) ?_
            refine ng rfl 150 (!c269) (.slice a102 (Y87.l.length) c103) (.bool c269) (by cases c269 <;> rfl) (fun h => by obtain rfl := bF h; exact fun _ _ _ => by kernel_rfl) ?_
            refine ng rfl 150 (!c269) (.int .i64 (.ofNat iL134)) (.bool c269) (by cases c269 <;> rfl) (fun h => by obtain rfl := bF h; exact fun _ _ _ => by kernel_rfl) ?_
            have hlt270 : (!c269) = true → iL134 < Y87.l.length := fun h => by obtain rfl : c269 = false := (by simpa using h); have q0 : ¬ (¬ (((x263) < (x266)) ↔ ((a.fBib) < (b.fBib)))) := (fun k => absurd ((p269).2 k) (by decide)); omega
            refine ngc rfl 150 (!c269) (.pointer (some ⟨(blk a102), 0 + (iL134) * 1, none⟩)) (.bool c269) (by cases c269 <;> rfl) (fun h => by obtain rfl := bF h; exact WC.ix (k := .i64) a102 (Y87.l.length) c103 (iL134) 1 (by kernel_rfl) (by kernel_rfl) T_und29 T_size3 ((hYok89.mono hr150 rl151).blkA hv104 (zl ((hlt270 rfl)))) ((hlt270 rfl)) rfl) ?_
            refine ngc rfl 150 (!c269) (.int .i64 (x263)) (.bool c269) (by cases c269 <;> rfl) (fun h => by obtain rfl := bF h; exact WC.load1E (blk a102) (0 + (iL134) * 1) (.int .i64 (x263)) (by kernel_rfl) T_agg3 ((hYok89.mono hr150 rl151).blkB hv104 (zl ((hlt270 rfl)))) (flat_at1 (hYok89.mono hr150 rl151).1 hx264 rfl) rfl) ?_
            refine ng rfl 150 (!c269) (.slice a126 (Y109.l.length) c127) (.bool c269) (by cases c269 <;> rfl) (fun h => by obtain rfl := bF h; exact fun _ _ _ => by kernel_rfl) ?_
            refine ng rfl 150 (!c269) (.int .i64 (.ofNat iL134)) (.bool c269) (by cases c269 <;> rfl) (fun h => by obtain rfl := bF h; exact fun _ _ _ => by kernel_rfl) ?_
            have hlt271 : (!c269) = true → iL134 < Y109.l.length := fun h => by obtain rfl : c269 = false := (by simpa using h); have q0 : ¬ (¬ (((x263) < (x266)) ↔ ((a.fBib) < (b.fBib)))) := (fun k => absurd ((p269).2 k) (by decide)); omega
            refine ngc rfl 150 (!c269) (.pointer (some ⟨(blk a126), 0 + (iL134) * 1, none⟩)) (.bool c269) (by cases c269 <;> rfl) (fun h => by obtain rfl := bF h; exact WC.ix (k := .i64) a126 (Y109.l.length) c127 (iL134) 1 (by kernel_rfl) (by kernel_rfl) T_und29 T_size3 ((hYok111.mono hr152 rl153).blkA hv128 (zl ((hlt271 rfl)))) ((hlt271 rfl)) rfl) ?_
            refine ngc rfl 150 (!c269) (.int .i64 (x266)) (.bool c269) (by cases c269 <;> rfl) (fun h => by obtain rfl := bF h; exact WC.load1E (blk a126) (0 + (iL134) * 1) (.int .i64 (x266)) (by kernel_rfl) T_agg3 ((hYok111.mono hr152 rl153).blkB hv128 (zl ((hlt271 rfl)))) (flat_at1 (hYok111.mono hr152 rl153).1 hx267 rfl) rfl) ?_
            obtain ⟨c272, e272, p272⟩ := @nb (ltI (x266) (x263)) ((x266) < (x263)) (ltI_iff)
            refine ng rfl 150 (!c269) (.bool c272) (.bool c269) (by cases c269 <;> rfl) (fun h => by obtain rfl := bF h; exact fun _ _ _ => by subst e272; kernel_rfl) ?_
            refine ng rfl 150 (!c269) (.bool c252) (.bool c269) (by cases c269 <;> rfl) (fun h => by obtain rfl := bF h; exact fun _ _ _ => by kernel_rfl) ?_
            obtain ⟨c273, e273, p273⟩ := @nb (!(bif c272 then c252 else !c252)) (¬ (((x266) < (x263)) ↔ ((b.fBib) < (a.fBib)))) (by rw [← p272, ← p252]; cases c272 <;> cases c252 <;> simp)
            refine ng rfl 150 (!c269) (.bool c273) (.bool c269) (by cases c269 <;> rfl) (fun h => by obtain rfl := bF h; exact fun _ _ _ => by subst e273; cases c272 <;> cases c252 <;> kernel_rfl) ?_
            obtain ⟨c274, e274, p274⟩ := @nb ((c269 || c273)) ((¬ (((x263) < (x266)) ↔ ((a.fBib) < (b.fBib)))) ∨ (¬ (((x266) < (x263)) ↔ ((b.fBib) < (a.fBib))))) (by rw [Bool.or_eq_true, p269, p273])
            refine WN.consAt rfl (WC.opt (v := .bool c274) 162 (ePick (.bool c269) (.bool true) ((bif !c269 then .bool c273 else undef))) (fun _ _ _ => by kernel_rfl) (by rw [e274]; exact ePick_or (fun h => by obtain rfl : c269 = false := h; rfl)) ?_)
            refine WN.nil ⟨?_, ?_⟩
            ·
             refine cv (.slice a102 (Y87.l.length) c103) (hv104 ▸ hYok89.eqSelf 8) ?_
             refine cv (.int .i64 (.ofNat iL134)) (vEq_int ..) ?_
             refine co (.pointer (some ⟨(blk a102), 0 + (iL134) * 1, none⟩)) (eIndexAddr ex.T 29 (.slice a102 (Y87.l.length) c103) (.int .i64 (.ofNat (iL134)))) (eIndexAddr_A (k := .i64) T_und29 T_size3 ((hYok89.mono hr150 rl151).blkA hv104 (zl hlt262)) (hlt262)) (vEq_ptr ..) ?_
             refine co (.int .i64 (x263)) (eLoad ex.T hp136.get 3 (.pointer (some ⟨(blk a102), 0 + (iL134) * 1, none⟩))) (eLoad_oneE T_agg3 ((hYok89.mono hr150 rl151).blkB hv104 (zl hlt262)) (flat_at1 (hYok89.mono hr150 rl151).1 hx264 rfl)) (vEq_int ..) ?_
             refine cv (.slice a126 (Y109.l.length) c127) (hv128 ▸ hYok111.eqSelf 8) ?_
             refine cv (.int .i64 (.ofNat iL134)) (vEq_int ..) ?_
             refine co (.pointer (some ⟨(blk a126), 0 + (iL134) * 1, none⟩)) (eIndexAddr ex.T 29 (.slice a126 (Y109.l.length) c127) (.int .i64 (.ofNat (iL134)))) (eIndexAddr_A (k := .i64) T_und29 T_size3 ((hYok111.mono hr152 rl153).blkA hv128 (zl hlt265)) (hlt265)) (vEq_ptr ..) ?_
             refine co (.int .i64 (x266)) (eLoad ex.T hp136.get 3 (.pointer (some ⟨(blk a126), 0 + (iL134) * 1, none⟩))) (eLoad_oneE T_agg3 ((hYok111.mono hr152 rl153).blkB hv128 (zl hlt265)) (flat_at1 (hYok111.mono hr152 rl153).1 hx267 rfl)) (vEq_int ..) ?_
             refine cv (.bool c268) (vEq_bool 8 c268) ?_ (fun _ => by subst e268; kernel_rfl)
             refine cv (.bool c251) (vEq_bool 8 c251) ?_
             refine cv (.bool c269) (vEq_bool 8 c269) ?_ (fun _ => by subst e269; cases c268 <;> cases c251 <;> kernel_rfl)
             refine cv (.bool c269) (vEq_bool 8 c269) ?_
             refine cg rfl 150 (!c269) (.slice a102 (Y87.l.length) c103) (.bool c269) (by cases c269 <;> rfl) (fun h => by obtain rfl := bF h; exact chkV1 (.slice a102 (Y87.l.length) c103) (fun _ => by kernel_rfl) (hv104 ▸ hYok89.eqSelf 8)) ?_
             refine cg rfl 150 (!c269) (.int .i64 (.ofNat iL134)) (.bool c269) (by cases c269 <;> rfl) (fun h => by obtain rfl := bF h; exact chkV1 (.int .i64 (.ofNat iL134)) (fun _ => by kernel_rfl) (vEq_int ..)) ?_
             refine cg rfl 150 (!c269) (.pointer (some ⟨(blk a102), 0 + (iL134) * 1, none⟩)) (.bool c269) (by cases c269 <;> rfl) (fun h => by obtain rfl := bF h; exact chkO1 (.pointer (some ⟨(blk a102), 0 + (iL134) * 1, none⟩)) (eIndexAddr ex.T 29 (.slice a102 (Y87.l.length) c103) (.int .i64 (.ofNat (iL134)))) (fun _ => by kernel_rfl) (eIndexAddr_A (k := .i64) T_und29 T_size3 ((hYok89.mono hr150 rl151).blkA hv104 (zl ((hlt270 rfl)))) ((hlt270 rfl))) (vEq_ptr ..)) ?_
             refine cg rfl 150 (!c269) (.int .i64 (x263)) (.bool c269) (by cases c269 <;> rfl) (fun h => by obtain rfl := bF h; exact chkO1 (.int .i64 (x263)) (eLoad ex.T hp136.get 3 (.pointer (some ⟨(blk a102), 0 + (iL134) * 1, none⟩))) (fun _ => by kernel_rfl) (eLoad_oneE T_agg3 ((hYok89.mono hr150 rl151).blkB hv104 (zl ((hlt270 rfl)))) (flat_at1 (hYok89.mono hr150 rl151).1 hx264 rfl)) (vEq_int ..)) ?_
             refine cg rfl 150 (!c269) (.slice a126 (Y109.l.length) c127) (.bool c269) (by cases c269 <;> rfl) (fun h => by obtain rfl := bF h; exact chkV1 (.slice a126 (Y109.l.length) c127) (fun _ => by kernel_rfl) (hv128 ▸ hYok111.eqSelf 8)) ?_
             refine cg rfl 150 (!c269) (.int .i64 (.ofNat iL134)) (.bool c269) (by cases c269 <;> rfl) (fun h => by obtain rfl := bF h; exact chkV1 (.int .i64 (.ofNat iL134)) (fun _ => by kernel_rfl) (vEq_int ..)) ?_
             refine cg rfl 150 (!c269) (.pointer (some ⟨(blk a126), 0 + (iL134) * 1, none⟩)) (.bool c269) (by cases c269 <;> rfl) (fun h => by obtain rfl := bF h; exact chkO1 (.pointer (some ⟨(blk a126), 0 + (iL134) * 1, none⟩)) (eIndexAddr ex.T 29 (.slice a126 (Y109.l.length) c127) (.int .i64 (.ofNat (iL134)))) (fun _ => by kernel_rfl) (eIndexAddr_A (k := .i64) T_und29 T_size3 ((hYok111.mono hr152 rl153).blkA hv128 (zl ((hlt271 rfl)))) ((hlt271 rfl))) (vEq_ptr ..)) ?_
             refine cg rfl 150 (!c269) (.int .i64 (x266)) (.bool c269) (by cases c269 <;> rfl) (fun h => by obtain rfl := bF h; exact chkO1 (.int .i64 (x266)) (eLoad ex.T hp136.get 3 (.pointer (some ⟨(blk a126), 0 + (iL134) * 1, none⟩))) (fun _ => by kernel_rfl) (eLoad_oneE T_agg3 ((hYok111.mono hr152 rl153).blkB hv128 (zl ((hlt271 rfl)))) (flat_at1 (hYok111.mono hr152 rl153).1 hx267 rfl)) (vEq_int ..)) ?_
             refine cg rfl 150 (!c269) (.bool c272) (.bool c269) (by cases c269 <;> rfl) (fun h => by obtain rfl := bF h; exact chkV1 (.bool c272) (fun _ => by subst e272; kernel_rfl) (vEq_bool 8 c272)) ?_
             refine cg rfl 150 (!c269) (.bool c252) (.bool c269) (by cases c269 <;> rfl) (fun h => by obtain rfl := bF h; exact chkV1 (.bool c252) (fun _ => by kernel_rfl) (vEq_bool 8 c252)) ?_
             refine cg rfl 150 (!c269) (.bool c273) (.bool c269) (by cases c269 <;> rfl) (fun h => by obtain rfl := bF h; exact chkV1 (.bool c273) (fun _ => by subst e273; cases c272 <;> cases c252 <;> kernel_rfl) (vEq_bool 8 c273)) ?_
             refine co (.bool c274) (ePick (.bool c269) (.bool true) ((bif !c269 then .bool c273 else undef))) ((by rw [e274]; exact ePick_or (fun h => by obtain rfl : c269 = false := h; rfl))) (vEq_bool 8 c274) ?_
             exact Chks.nil
            refine WP.cond c274 (by kernel_rfl) (fun h275 => ?_) (fun h275 => ?_)
            ·
             have q276 := (p274).1 h275
             refine sr ?_
             refine ov 8 (.bool false) ?_
             refine WO.nil ?_
             refine WP.ret ⟨rfl, rfl, [.bool false], by kernel_rfl, ?_⟩
             exfalso
             have hxa : x263 = keyS a x159 := by have h := hx264; rw [hYl88, List.getElem?_map, hx160] at h; exact (Option.some.inj h).symm
             have hxb : x266 = keyS b x159 := by have h := hx267; rw [hYl110, List.getElem?_map, hx160] at h; exact (Option.some.inj h).symm
             have l1 := not_or.1 q261
             have l2 := not_or.1 l1.1
             have l3 := not_or.1 l2.1
             rw [hxa, hxb] at q276
             rw [q250] at q276
             have hk := @keys4 a b
             rcases q276 with h | h
             · exact h hk.1
             · exact h hk.2
            ·
             have q276 := nq p274 h275
             refine WP.skip ?_
             refine WP.region ?_
             refine ov 163 (.int .i64 (.ofNat (iL134 + 1))) ?_ (fun _ _ _ => by rw [← wrapAdd (show iL134 + 1 < 9223372036854775808 by omega)]; kernel_rfl)
             refine ov 51 (.int .i64 (.ofNat (iL134 + 1))) ?_
             refine WO.nil ?_
             refine ⟨J.l.length - (iL134 + 1), by omega, iL134 + 1, by omega, by kernel_rfl, by kernel_rfl, by kernel_rfl, by kernel_rfl, by kernel_rfl, by kernel_rfl, by kernel_rfl, rfl, rfl, ?_, ?_⟩
             · exact hn139
             · exact he140
          ·
           have q250 := nq p248 h249
           refine sr ?_
           obtain ⟨c277, e277, p277⟩ := @nb (eqI (x159) (5)) ((x159) = (5)) (eqI_iff)
           refine ov 106 (.bool c277) ?_ (fun _ _ _ => by subst e277; kernel_rfl)
           refine ov 105 (.bool c277) ?_
           refine WO.nil ?_
           refine WP.cond c277 (by kernel_rfl) (fun h278 => ?_) (fun h278 => ?_)
           ·
            have q279 := (p277).1 h278
            refine WP.drawS [⟨[0, 1, 2, 3, 4, 5, 6, 7, 8, 9], [0, 1, 2, 3, 4, 5, 6, 7, 8, 9], some 10⟩, ⟨[], [5, 6, 7, 8, 9], some 11⟩, ⟨[], [], none⟩] (by kernel_rfl) _ rfl ?_
            refine WD.eff ?_
            refine nv 107 (.pointer (some ⟨nx, 0 + 7, none⟩)) ?_
            refine WN.consAt rfl (WC.load1 nx (0 + 7) (.int .i64 (a.fLot)) (by kernel_rfl) T_agg3 hb142 rfl ?_)
            refine nv 109 (.pointer (some ⟨(nx + 1), 0 + 7, none⟩)) ?_
            refine WN.consAt rfl (WC.load1 (nx + 1) (0 + 7) (.int .i64 (b.fLot)) (by kernel_rfl) T_agg3 hb144 rfl ?_)
            obtain ⟨c280, e280, p280⟩ := @nb (ltI (a.fLot) (b.fLot)) ((a.fLot) < (b.fLot)) (ltI_iff)
            refine nv 111 (.bool c280) ?_ (fun _ _ _ => by subst e280; kernel_rfl)
            refine nv 112 (.pointer (some ⟨nx, 0 + 7, none⟩)) ?_
            refine WN.consAt rfl (WC.load1 nx (0 + 7) (.int .i64 (a.fLot)) (by kernel_rfl) T_agg3 hb142 rfl ?_)
            refine nv 114 (.pointer (some ⟨(nx + 1), 0 + 7, none⟩)) ?_
            refine WN.consAt rfl (WC.load1 (nx + 1) (0 + 7) (.int .i64 (b.fLot)) (by kernel_rfl) T_agg3 hb144 rfl ?_)
            obtain ⟨c281, e281, p281⟩ := @nb (ltI (b.fLot) (a.fLot)) ((b.fLot) < (a.fLot)) (ltI_iff)
            refine nv 116 (.bool c281) ?_ (fun _ _ _ => by subst e281; kernel_rfl)
            refine WN.nil ⟨?_, ?_⟩
            ·
             refine cv (.pointer (some ⟨nx, 0 + 7, none⟩)) (vEq_ptr ..) ?_
             refine co (.int .i64 (a.fLot)) (eLoad ex.T hp136.get 3 (.pointer (some ⟨nx, 0 + 7, none⟩))) (eLoad_one T_agg3 hb142 rfl) (vEq_int ..) ?_
             refine cv (.pointer (some ⟨(nx + 1), 0 + 7, none⟩)) (vEq_ptr ..) ?_
             refine co (.int .i64 (b.fLot)) (eLoad ex.T hp136.get 3 (.pointer (some ⟨(nx + 1), 0 + 7, none⟩))) (eLoad_one T_agg3 hb144 rfl) (vEq_int ..) ?_
             refine cv (.bool c280) (vEq_bool 8 c280) ?_ (fun _ => by subst e280; kernel_rfl)
             refine cv (.pointer (some ⟨nx, 0 + 7, none⟩)) (vEq_ptr ..) ?_
             refine co (.int .i64 (a.fLot)) (eLoad ex.T hp136.get 3 (.pointer (some ⟨nx, 0 + 7, none⟩))) (eLoad_one T_agg3 hb142 rfl) (vEq_int ..) ?_
             refine cv (.pointer (some ⟨(nx + 1), 0 + 7, none⟩)) (vEq_ptr ..) ?_
             refine co (.int .i64 (b.fLot)) (eLoad ex.T hp136.get 3 (.pointer (some ⟨(nx + 1), 0 + 7, none⟩))) (eLoad_one T_agg3 hb144 rfl) (vEq_int ..) ?_
             refine cv (.bool c281) (vEq_bool 8 c281) ?_ (fun _ => by subst e281; kernel_rfl)
             exact Chks.nil
            refine WC.at rfl (WC.val 15 (.bool c280) (fun _ _ _ => by kernel_rfl) ?_)
            refine WD.eff ?_
            refine WN.nil ⟨?_, ?_⟩
            ·
             refine cv (.pointer (some ⟨nx, 0 + 7, none⟩)) (vEq_ptr ..) ?_
             refine co (.int .i64 (a.fLot)) (eLoad ex.T hp136.get 3 (.pointer (some ⟨nx, 0 + 7, none⟩))) (eLoad_one T_agg3 hb142 rfl) (vEq_int ..) ?_
             refine cv (.pointer (some ⟨(nx + 1), 0 + 7, none⟩)) (vEq_ptr ..) ?_
             refine co (.int .i64 (b.fLot)) (eLoad ex.T hp136.get 3 (.pointer (some ⟨(nx + 1), 0 + 7, none⟩))) (eLoad_one T_agg3 hb144 rfl) (vEq_int ..) ?_
             refine cv (.bool c281) (vEq_bool 8 c281) ?_ (fun _ => by subst e281; kernel_rfl)
             exact Chks.nil
            refine WC.at rfl (WC.val 16 (.bool c281) (fun _ _ _ => by kernel_rfl) ?_)
            refine WD.last ?_
            refine WN.nil ⟨?_, ?_⟩
            ·
             exact Chks.nil
            refine sr ?_
            refine ov 17 (.int .i64 (-9223372036854775808)) ?_
            refine WO.nil ?_
            refine WP.seq ?_
            refine sr ?_
            refine ov 117 (.pointer (some ⟨nx, 0 + 4, none⟩)) ?_
            refine WO.cons (WC.load1 nx (0 + 4) (.int .i64 (a.fAge)) (by kernel_rfl) T_agg3 hb142 rfl ?_)
            refine ov 119 (.int .i64 (-9223372036854775808)) ?_
            obtain ⟨c282, e282, p282⟩ := @nb (eqI (a.fAge) (-9223372036854775808)) ((a.fAge) = (-9223372036854775808)) (eqI_iff)
            refine ov 120 (.bool c282) ?_ (fun _ _ _ => by subst e282; kernel_rfl)
            refine ov 121 (.bool c282) ?_
            refine og 121 (!c282) (.pointer (some ⟨(nx + 1), 0 + 4, none⟩)) (.bool c282) (by cases c282 <;> rfl) (fun h => by obtain rfl := bF h; exact fun _ _ _ => by kernel_rfl) ?_
            refine ogc 121 (!c282) (.int .i64 (b.fAge)) (.bool c282) (by cases c282 <;> rfl) (fun h => by obtain rfl := bF h; exact WC.load1 (nx + 1) (0 + 4) (.int .i64 (b.fAge)) (by kernel_rfl) T_agg3 hb144 rfl rfl) ?_
            refine og 121 (!c282) (.int .i64 (-9223372036854775808)) (.bool c282) (by cases c282 <;> rfl) (fun h => by obtain rfl := bF h; exact fun _ _ _ => by kernel_rfl) ?_
            obtain ⟨c283, e283, p283⟩ := @nb (eqI (b.fAge) (-9223372036854775808)) ((b.fAge) = (-9223372036854775808)) (eqI_iff)
            refine og 121 (!c282) (.bool c283) (.bool c282) (by cases c282 <;> rfl) (fun h => by obtain rfl := bF h; exact fun _ _ _ => by subst e283; kernel_rfl) ?_
            obtain ⟨c284, e284, p284⟩ := @nb ((c282 || c283)) (((a.fAge) = (-9223372036854775808)) ∨ ((b.fAge) = (-9223372036854775808))) (by rw [Bool.or_eq_true, p282, p283])
            refine WO.cons (WC.opt (v := .bool c284) 126 (ePick (.bool c282) (.bool true) ((bif !c282 then .bool c283 else undef))) (fun _ _ _ => by kernel_rfl) (by rw [e284]; exact ePick_or (fun h => by obtain rfl : c282 = false := h; rfl)) ?_)
            refine ov 127 (.bool c284) ?_
            refine og 127 (!c284) (.pointer (some ⟨nx, 0 + 2, none⟩)) (.bool c284) (by cases c284 <;> rfl) (fun h => by obtain rfl := bF h; exact fun _ _ _ => by kernel_rfl) ?_
            refine ogc 127 (!c284) (.int .i64 (a.fWave)) (.bool c284) (by cases c284 <;> rfl) (fun h => by obtain rfl := bF h; exact WC.load1 nx (0 + 2) (.int .i64 (a.fWave)) (by kernel_rfl) T_agg3 hb142 rfl rfl) ?_
            refine og 127 (!c284) (.int .i64 (-9223372036854775808)) (.bool c284) (by cases c284 <;> rfl) (fun h => by obtain rfl := bF h; exact fun _ _ _ => by kernel_rfl) ?_
            obtain ⟨c285, e285, p285⟩ := @nb (eqI (a.fWave) (-9223372036854775808)) ((a.fWave) = (-9223372036854775808)) (eqI_iff)
            refine og 127 (!c284) (.bool c285) (.bool c284) (by cases c284 <;> rfl) (fun h => by obtain rfl := bF h; exact fun _ _ _ => by subst e285; kernel_rfl) ?_
            obtain ⟨c286, e286, p286⟩ := @nb ((c284 || c285)) ((((a.fAge) = (-9223372036854775808)) ∨ ((b.fAge) = (-9223372036854775808))) ∨ ((a.fWave) = (-9223372036854775808))) (by rw [Bool.or_eq_true, p284, p285])
            refine WO.cons (WC.opt (v := .bool c286) 132 (ePick (.bool c284) (.bool true) ((bif !c284 then .bool c285 else undef))) (fun _ _ _ => by kernel_rfl) (by rw [e286]; exact ePick_or (fun h => by obtain rfl : c284 = false := h; rfl)) ?_)
            refine ov 133 (.bool c286) ?_
            refine og 133 (!c286) (.pointer (some ⟨(nx + 1), 0 + 2, none⟩)) (.bool c286) (by cases c286 <;> rfl) (fun h => by obtain rfl := bF h; exact fun _ _ _ => by kernel_rfl) ?_
            refine ogc 133 (!c286) (.int .i64 (b.fWave)) (.bool c286) (by cases c286 <;> rfl) (fun h => by obtain rfl := bF h; exact WC.load1 (nx + 1) (0 + 2) (.int .i64 (b.fWave)) (by kernel_rfl) T_agg3 hb144 rfl rfl) ?_
            refine og 133 (!c286) (.int .i64 (-9223372036854775808)) (.bool c286) (by cases c286 <;> rfl) (fun h => by obtain rfl := bF h; exact fun _ _ _ => by kernel_rfl) ?_
            obtain ⟨c287, e287, p287⟩ := @nb (eqI (b.fWave) (-9223372036854775808)) ((b.fWave) = (-9223372036854775808)) (eqI_iff)
            refine og 133 (!c286) (.bool c287) (.bool c286) (by cases c286 <;> rfl) (fun h => by obtain rfl := bF h; exact fun _ _ _ => by subst e287; kernel_rfl) ?_
            obtain ⟨c288, e288, p288⟩ := @nb ((c286 || c287)) (((((a.fAge) = (-9223372036854775808)) ∨ ((b.fAge) = (-9223372036854775808))) ∨ ((a.fWave) = (-9223372036854775808))) ∨ ((b.fWave) = (-9223372036854775808))) (by rw [Bool.or_eq_true, p286, p287])
            refine WO.cons (WC.opt (v := .bool c288) 138 (ePick (.bool c286) (.bool true) ((bif !c286 then .bool c287 else undef))) (fun _ _ _ => by kernel_rfl) (by rw [e288]; exact ePick_or (fun h => by obtain rfl : c286 = false := h; rfl)) ?_)
            refine WO.nil ?_
            refine WP.cond c288 (by kernel_rfl) (fun h289 => ?_) (fun h289 => ?_)
            ·
             have q290 := (p288).1 h289
             refine sr ?_
             refine ov 8 (.bool true) ?_
             refine WO.nil ?_
             refine WP.ret ⟨rfl, rfl, [.bool true], by kernel_rfl, ?_⟩
             exact ⟨⟨true, rfl, fun _ => trivial, fun _ => rfl⟩, le154, hE141⟩
            ·
             have q290 := nq p288 h289
             refine WP.skip ?_
             refine WP.seq ?_
             refine WP.drawS [⟨[0, 1, 2, 3, 4, 5, 6, 7, 8, 9, 10, 11, 12, 13, 14, 15, 16, 17, 18, 19, 20, 21, 22, 23], [0, 1, 2, 3, 4, 5, 6, 7, 8, 9, 10, 11, 12, 13, 14, 15, 16, 17, 18, 19, 20, 21, 22, 23], none⟩] (by kernel_rfl) _ rfl ?_
             refine WD.last ?_
             refine nv 139 (.slice a102 (Y87.l.length) c103) ?_
             refine nv 140 (.int .i64 (.ofNat iL134)) ?_
             have hlt291 : iL134 < Y87.l.length := by omega
             refine WN.consAt rfl (WC.ix (k := .i64) a102 (Y87.l.length) c103 (iL134) 1 (by kernel_rfl) (by kernel_rfl) T_und29 T_size3 ((hYok89.mono hr150 rl151).blkA hv104 (zl hlt291)) (hlt291) ?_)
             obtain ⟨x292, hx293⟩ : ∃ el_, Y87.l[iL134]? = some el_ := ⟨_, List.getElem?_eq_getElem (hlt291)⟩
             refine WN.consAt rfl (WC.load1E (blk a102) (0 + (iL134) * 1) (.int .i64 (x292)) (by kernel_rfl) T_agg3 ((hYok89.mono hr150 rl151).blkB hv104 (zl hlt291)) (flat_at1 (hYok89.mono hr150 rl151).1 hx293 rfl) ?_)
             refine nv 143 (.slice a126 (Y109.l.length) c127) ?_
             refine nv 144 (.int .i64 (.ofNat iL134)) ?_
             have hlt294 : iL134 < Y109.l.length := by omega
             refine WN.consAt rfl (WC.ix (k := .i64) a126 (Y109.l.length) c127 (iL134) 1 (by kernel_rfl) (by kernel_rfl) T_und29 T_size3 ((hYok111.mono hr152 rl153).blkA hv128 (zl hlt294)) (hlt294) ?_)
             obtain ⟨x295, hx296⟩ : ∃ el_, Y109.l[iL134]? = some el_ := ⟨_, List.getElem?_eq_getElem (hlt294)⟩
             refine WN.consAt rfl (WC.load1E (blk a126) (0 + (iL134) * 1) (.int .i64 (x295)) (by kernel_rfl) T_agg3 ((hYok111.mono hr152 rl153).blkB hv128 (zl hlt294)) (flat_at1 (hYok111.mono hr152 rl153).1 hx296 rfl) ?_)
             obtain ⟨c297, e297, p297⟩ := @nb (ltI (x292) (x295)) ((x292) < (x295)) (ltI_iff)
             refine nv 147 (.bool c297) ?_ (fun _ _ _ => by subst e297; kernel_rfl)
             refine nv 148 (.bool c280) ?_
             obtain ⟨c298, e298, p298⟩ := @nb (!(bif c297 then c280 else !c280)) (¬ (((x292) < (x295)) ↔ ((a.fLot) < (b.fLot)))) (by rw [← p297, ← p280]; cases c297 <;> cases c280 <;> simp)
             refine nv 149 (.bool c298) ?_ (fun _ _ _ => by subst e298; cases c297 <;> cases c280 <;> kernel_rfl)
             refine nv 150 (.bool c298) ?_
             refine ng rfl 150 (!c298) (.slice a102 (Y87.l.length) c103) (.bool c298) (by cases c298 <;> rfl) (fun h => by obtain rfl := bF h; exact fun _ _ _ => by kernel_rfl) ?_
             refine ng rfl 150 (!c298) (.int .i64 (.ofNat iL134)) (.bool c298) (by cases c298 <;> rfl) (fun h => by obtain rfl := bF h; exact fun _ _ _ => by kernel_rfl) ?_
             have hlt299 : (!c298) = true → iL134 < Y87.l.length := fun h => by obtain rfl : c298 = false := (by simpa using h); have q0 : ¬ (¬ (((x292) < (x295)) ↔ ((a.fLot) < (b.fLot)))) := (fun k => absurd ((p298).2 k) (by decide)); omega
             refine ngc rfl 150 (!c298) (.pointer (some ⟨(blk a102), 0 + (iL134) * 1, none⟩)) (.bool c298) (by cases c298 <;> rfl) (fun h => by obtain rfl := bF h; exact WC.ix (k := .i64) a102 (Y87.l.length) c103 (iL134) 1 (by kernel_rfl) (by kernel_rfl) T_und29 T_size3 ((hYok89.mono hr150 rl151).blkA hv104 (zl ((hlt299 rfl)))) ((hlt299 rfl)) rfl) ?_
             refine ngc rfl 150 (!c298) (.int .i64 (x292)) (.bool c298) (by cases c298 <;> rfl) (fun h => by obtain rfl := bF h; exact WC.load1E (blk a102) (0 + (iL134) * 1) (.int .i64 (x292)) (by kernel_rfl) T_agg3 ((hYok89.mono hr150 rl151).blkB hv104 (zl ((hlt299 rfl)))) (flat_at1 (hYok89.mono hr150 rl151).1 hx293 rfl) rfl) ?_
             refine ng rfl 150 (!c298) (.slice a126 (Y109.l.length) c127) (.bool c298) (by cases c298 <;> rfl) (fun h => by obtain rfl := bF h; exact fun _ _ _ => by kernel_rfl) ?_
             refine ng rfl 150 (!c298) (.int .i64 (.ofNat iL134)) (.bool c298) (by cases c298 <;> rfl) (fun h => by obtain rfl := bF h; exact fun _ _ _ => by kernel_rfl) ?_
             have hlt300 : (!c298) = true → iL134 < Y109.l.length := fun h => by obtain rfl : c298 = false := (by simpa using h); have q0 : ¬ (¬ (((x292) < (x295)) ↔ ((a.fLot) < (b.fLot)))) := (fun k => absurd ((p298).2 k) (by decide)); omega
             refine ngc rfl 150 (!c298) (.pointer (some ⟨(blk a126), 0 + (iL134) * 1, none⟩)) (.bool c298) (by cases c298 <;> rfl) (fun h => by obtain rfl := bF h; exact WC.ix (k := .i64) a126 (Y109.l.length) c127 (iL134) 1 (by kernel_rfl) (by kernel_rfl) T_und29 T_size3 ((hYok111.mono hr152 rl153).blkA hv128 (zl ((hlt300 rfl)))) ((hlt300 rfl)) rfl) ?_
             refine ngc rfl 150 (!c298) (.int .i64 (x295)) (.bool c298) (by cases c298 <;> rfl) (fun h => by obtain rfl := bF h; exact WC.load1E (blk a126) (0 + (iL134) * 1) (.int .i64 (x295)) (by kernel_rfl) T_agg3 ((hYok111.mono hr152 rl153).blkB hv128 (zl ((hlt300 rfl)))) (flat_at1 (hYok111.mono hr152 rl153).1 hx296 rfl) rfl) ?_
             obtain ⟨c301, e301, p301⟩ := @nb (ltI (x295) (x292)) ((x295) < (x292)) (ltI_iff)
             refine ng rfl 150 (!c298) (.bool c301) (.bool c298) (by cases c298 <;> rfl) (fun h => by obtain rfl := bF h; exact fun _ _ _ => by subst e301; kernel_rfl) ?_
             refine ng rfl 150 (!c298) (.bool c281) (.bool c298) (by cases c298 <;> rfl) (fun h => by obtain rfl := bF h; exact fun _ _ _ => by kernel_rfl) ?_
             obtain ⟨c302, e302, p302⟩ := @nb (!(bif c301 then c281 else !c281)) (¬ (((x295) < (x292)) ↔ ((b.fLot) < (a.fLot)))) (by rw [← p301, ← p281]; cases c301 <;> cases c281 <;> simp)
             refine ng rfl 150 (!c298) (.bool c302) (.bool c298) (by cases c298 <;> rfl) (fun h => by obtain rfl := bF h; exact fun _ _ _ => by subst e302; cases c301 <;> cases c281 <;> kernel_rfl) ?_
             obtain ⟨c303, e303, p303⟩ := @nb ((c298 || c302)) ((¬ (((x292) < (x295)) ↔ ((a.fLot) < (b.fLot)))) ∨ (¬ (((x295) < (x292)) ↔ ((b.fLot) < (a.fLot))))) (by rw [Bool.or_eq_true, p298, p302])
             refine WN.consAt rfl (WC.opt (v := .bool c303) 162 (ePick (.bool c298) (.bool true) ((bif !c298 then .bool c302 else undef))) (fun _ _ _ => by kernel_rfl) (by rw [e303]; exact ePick_or (fun h => by obtain rfl : c298 = false := h; rfl)) ?_)
             refine WN.nil ⟨?_, ?_⟩
             ·
              refine cv (.slice a102 (Y87.l.length) c103) (hv104 ▸ hYok89.eqSelf 8) ?_
              refine cv (.int .i64 (.ofNat iL134)) (vEq_int ..) ?_
              refine co (.pointer (some ⟨(blk a102), 0 + (iL134) * 1, none⟩)) (eIndexAddr ex.T 29 (.slice a102 (Y87.l.length) c103) (.int .i64 (.ofNat (iL134)))) (eIndexAddr_A (k := .i64) T_und29 T_size3 ((hYok89.mono hr150 rl151).blkA hv104 (zl hlt291)) (hlt291)) (vEq_ptr ..) ?_
              refine co (.int .i64 (x292)) (eLoad ex.T hp136.get 3 (.pointer (some ⟨(blk a102), 0 + (iL134) * 1, none⟩))) (eLoad_oneE T_agg3 ((hYok89.mono hr150 rl151).blkB hv104 (zl hlt291)) (flat_at1 (hYok89.mono hr150 rl151).1 hx293 rfl)) (vEq_int ..) ?_
              refine cv (.slice a126 (Y109.l.length) c127) (hv128 ▸ hYok111.eqSelf 8) ?_
              refine cv (.int .i64 (.ofNat iL134)) (vEq_int ..) ?_
              refine co (.pointer (some ⟨(blk a126), 0 + (iL134) * 1, none⟩)) (eIndexAddr ex.T 29 (.slice a126 (Y109.l.length) c127) (.int .i64 (.ofNat (iL134)))) (eIndexAddr_A (k := .i64) T_und29 T_size3 ((hYok111.mono hr152 rl153).blkA hv128 (zl hlt294)) (hlt294)) (vEq_ptr ..) ?_
              refine co (.int .i64 (x295)) (eLoad ex.T hp136.get 3 (.pointer (some ⟨(blk a126), 0 + (iL134) * 1, none⟩))) (eLoad_oneE T_agg3 ((hYok111.mono hr152 rl153).blkB hv128 (zl hlt294)) (flat_at1 (hYok111.mono hr152 rl153).1 hx296 rfl)) (vEq_int ..) ?_
              refine cv (.bool c297) (vEq_bool 8 c297) ?_ (fun _ => by subst e297; kernel_rfl)
              refine cv (.bool c280) (vEq_bool 8 c280) ?_
              refine cv (.bool c298) (vEq_bool 8 c298) ?_ (fun _ => by subst e298; cases c297 <;> cases c280 <;> kernel_rfl)
              refine cv (.bool c298) (vEq_bool 8 c298) ?_
              refine cg rfl 150 (!c298) (.slice a102 (Y87.l.length) c103) (.bool c298) (by cases c298 <;> rfl) (fun h => by obtain rfl := bF h; exact chkV1 (.slice a102 (Y87.l.length) c103) (fun _ => by kernel_rfl) (hv104 ▸ hYok89.eqSelf 8)) ?_
              refine cg rfl 150 (!c298) (.int .i64 (.ofNat iL134)) (.bool c298) (by cases c298 <;> rfl) (fun h => by obtain rfl := bF h; exact chkV1 (.int .i64 (.ofNat iL134)) (fun _ => by kernel_rfl) (vEq_int ..)) ?_
              refine cg rfl 150 (!c298) (.pointer (some ⟨(blk a102), 0 + (iL134) * 1, none⟩)) (.bool c298) (by cases c298 <;> rfl) (fun h => by obtain rfl := bF h; exact chkO1 (.pointer (some ⟨(blk a102), 0 + (iL134) * 1, none⟩)) (eIndexAddr ex.T 29 (.slice a102 (Y87.l.length) c103) (.int .i64 (.ofNat (iL134)))) (fun _ => by kernel_rfl) (eIndexAddr_A (k := .i64) T_und29 T_size3 ((hYok89.mono hr150 rl151).blkA hv104 (zl ((hlt299 rfl)))) ((hlt299 rfl))) (vEq_ptr ..)) ?_
              refine cg rfl 150 (!c298) (.int .i64 (x292)) (.bool c298) (by cases c298 <;> rfl) (fun h => by obtain rfl := bF h; exact chkO1 (.int .i64 (x292)) (eLoad ex.T hp136.get 3 (.pointer (some ⟨(blk a102), 0 + (iL134) * 1, none⟩))) (fun _ => by kernel_rfl) (eLoad_oneE T_agg3 ((hYok89.mono hr150 rl151).blkB hv104 (zl ((hlt299 rfl)))) (flat_at1 (hYok89.mono hr150 rl151).1 hx293 rfl)) (vEq_int ..)) ?_
              refine cg rfl 150 (!c298) (.slice a126 (Y109.l.length) c127) (.bool c298) (by cases c298 <;> rfl) (fun h => by obtain rfl := bF h; exact chkV1 (.slice a126 (Y109.l.length) c127) (fun _ => by kernel_rfl) (hv128 ▸ hYok111.eqSelf 8)) ?_
              refine cg rfl 150 (!c298) (.int .i64 (.ofNat iL134)) (.bool c298) (by cases c298 <;> rfl) (fun h => by obtain rfl := bF h; exact chkV1 (.int .i64 (.ofNat iL134)) (fun _ => by kernel_rfl) (vEq_int ..)) ?_
              refine cg rfl 150 (!c298) (.pointer (some ⟨(blk a126), 0 + (iL134) * 1, none⟩)) (.bool c298) (by cases c298 <;> rfl) (fun h => by obtain rfl := bF h; exact chkO1 (.pointer (some ⟨(blk a126), 0 + (iL134) * 1, none⟩)) (eIndexAddr ex.T 29 (.slice a126 (Y109.l.length) c127) (.int .i64 (.ofNat (iL134)))) (fun _ => by kernel_rfl) (eIndexAddr_A (k := .i64) T_und29 T_size3 ((hYok111.mono hr152 rl153).blkA hv128 (zl ((hlt300 rfl)))) ((hlt300 rfl))) (vEq_ptr ..)) ?_
              refine cg rfl 150 (!c298) (.int .i64 (x295)) (.bool c298) (by cases c298 <;> rfl) (fun h => by obtain rfl := bF h; exact chkO1 (.int .i64 (x295)) (eLoad ex.T hp136.get 3 (.pointer (some ⟨(blk a126), 0 + (iL134) * 1, none⟩))) (fun _ => by kernel_rfl) (eLoad_oneE T_agg3 ((hYok111.mono hr152 rl153).blkB hv128 (zl ((hlt300 rfl)))) (flat_at1 (hYok111.mono hr152 rl153).1 hx296 rfl)) (vEq_int ..)) ?_
              refine cg rfl 150 (!c298) (.bool c301) (.bool c298) (by cases c298 <;> rfl) (fun h => by obtain rfl := bF h; exact chkV1 (.bool c301) (fun _ => by subst e301; kernel_rfl) (vEq_bool 8 c301)) ?_
              refine cg rfl 150 (!c298) (.bool c281) (.bool c298) (by cases c298 <;> rfl) (fun h => by obtain rfl := bF h; exact chkV1 (.bool c281) (fun _ => by kernel_rfl) (vEq_bool 8 c281)) ?_
              refine cg rfl 150 (!c298) (.bool c302) (.bool c298) (by cases c298 <;> rfl) (fun h => by obtain rfl := bF h; exact chkV1 (.bool c302) (fun _ => by subst e302; cases c301 <;> cases c281 <;> kernel_rfl) (vEq_bool 8 c302)) ?_
              refine co (.bool c303) (ePick (.bool c298) (.bool true) ((bif !c298 then .bool c302 else undef))) ((by rw [e303]; exact ePick_or (fun h => by obtain rfl : c298 = false := h; rfl))) (vEq_bool 8 c303) ?_
              exact Chks.nil
             refine WP.cond c303 (by kernel_rfl) (fun h304 => ?_) (fun h304 => ?_)
             ·
              have q305 := (p303).1 h304
              refine sr ?_
              refine ov 8 (.bool false) ?_
              refine WO.nil ?_
              refine WP.ret ⟨rfl, rfl, [.bool false], by kernel_rfl, ?_⟩
              exfalso
              have hxa : x292 = keyS a x159 := by have h := hx293; rw [hYl88, List.getElem?_map, hx160] at h; exact (Option.some.inj h).symm
              have hxb : x295 = keyS b x159 := by have h := hx296; rw [hYl110, List.getElem?_map, hx160] at h; exact (Option.some.inj h).symm
              have l1 := not_or.1 q290
              have l2 := not_or.1 l1.1
              have l3 := not_or.1 l2.1
              rw [hxa, hxb] at q305
              rw [q279] at q305
              have hk := @keys5 a b
              rcases q305 with h | h
              · exact h hk.1
              · exact h hk.2
             ·
              have q305 := nq p303 h304
              refine WP.skip ?_
              refine WP.region ?_
              refine ov 163 (.int .i64 (.ofNat (iL134 + 1))) ?_ (fun _ _ _ => by rw [← wrapAdd (show iL134 + 1 < 9223372036854775808 by omega)]; kernel_rfl)
              refine ov 51 (.int .i64 (.ofNat (iL134 + 1))) ?_
              refine WO.nil ?_
              refine ⟨J.l.length - (iL134 + 1), by omega, iL134 + 1, by omega, by kernel_rfl, by kernel_rfl, by kernel_rfl, by kernel_rfl, by kernel_rfl, by kernel_rfl, by kernel_rfl, rfl, rfl, ?_, ?_⟩
              · exact hn139
              · exact he140
           ·
            have q279 := nq p277 h278
            refine WP.skip ?_
            refine sr ?_
            refine ov 17 (.int .i64 (-9223372036854775808)) ?_
            refine WO.nil ?_
            refine WP.seq ?_
            refine sr ?_
            refine ov 117 (.pointer (some ⟨nx, 0 + 4, none⟩)) ?_
            refine WO.cons (WC.load1 nx (0 + 4) (.int .i64 (a.fAge)) (by kernel_rfl) T_agg3 hb142 rfl ?_)
            refine ov 119 (.int .i64 (-9223372036854775808)) ?_
            obtain ⟨c306, e306, p306⟩ := @nb (eqI (a.fAge) (-9223372036854775808)) ((a.fAge) = (-9223372036854775808)) (eqI_iff)
            refine ov 120 (.bool c306) ?_ (fun _ _ _ => by subst e306; kernel_rfl)
            refine ov 121 (.bool c306) ?_
            refine og 121 (!c306) (.pointer (some ⟨(nx + 1), 0 + 4, none⟩)) (.bool c306) (by cases c306 <;> rfl) (fun h => by obtain rfl := bF h; exact fun _ _ _ => by kernel_rfl) ?_
            refine ogc 121 (!c306) (.int .i64 (b.fAge)) (.bool c306) (by cases c306 <;> rfl) (fun h => by obtain rfl := bF h; exact WC.load1 (nx + 1) (0 + 4) (.int .i64 (b.fAge)) (by kernel_rfl) T_agg3 hb144 rfl rfl) ?_
            refine og 121 (!c306) (.int .i64 (-9223372036854775808)) (.bool c306) (by cases c306 <;> rfl) (fun h => by obtain rfl := bF h; exact fun _ _ _ => by kernel_rfl) ?_
            obtain ⟨c307, e307, p307⟩ := @nb (eqI (b.fAge) (-9223372036854775808)) ((b.fAge) = (-9223372036854775808)) (eqI_iff)
            refine og 121 (!c306) (.bool c307) (.bool c306) (by cases c306 <;> rfl) (fun h => by obtain rfl := bF h; exact fun _ _ _ => by subst e307; kernel_rfl) ?_
            obtain ⟨c308, e308, p308⟩ := @nb ((c306 || c307)) (((a.fAge) = (-9223372036854775808)) ∨ ((b.fAge) = (-9223372036854775808))) (by rw [Bool.or_eq_true, p306, p307])
            refine WO.cons (WC.opt (v := .bool c308) 126 (ePick (.bool c306) (.bool true) ((bif !c306 then .bool c307 else undef))) (fun _ _ _ => by kernel_rfl) (by rw [e308]; exact ePick_or (fun h => by obtain rfl : c306 = false := h; rfl)) ?_)
            refine ov 127 (.bool c308) ?_
            refine og 127 (!c308) (.pointer (some ⟨nx, 0 + 2, none⟩)) (.bool c308) (by cases c308 <;> rfl) (fun h => by obtain rfl := bF h; exact fun _ _ _ => by kernel_rfl) ?_
            refine ogc 127 (!c308) (.int .i64 (a.fWave)) (.bool c308) (by cases c308 <;> rfl) (fun h => by obtain rfl := bF h; exact WC.load1 nx (0 + 2) (.int .i64 (a.fWave)) (by kernel_rfl) T_agg3 hb142 rfl rfl) ?_
            refine og 127 (!c308) (.int .i64 (-9223372036854775808)) (.bool c308) (by cases c308 <;> rfl) (fun h => by obtain rfl := bF h; exact fun _ _ _ => by kernel_rfl) ?_
            obtain ⟨c309, e309, p309⟩ := @nb (eqI (a.fWave) (-9223372036854775808)) ((a.fWave) = (-9223372036854775808)) (eqI_iff)
            refine og 127 (!c308) (.bool c309) (.bool c308) (by cases c308 <;> rfl) (fun h => by obtain rfl := bF h; exact fun _ _ _ => by subst e309; kernel_rfl) ?_
            obtain ⟨c310, e310, p310⟩ := @nb ((c308 || c309)) ((((a.fAge) = (-9223372036854775808)) ∨ ((b.fAge) = (-9223372036854775808))) ∨ ((a.fWave) = (-9223372036854775808))) (by rw [Bool.or_eq_true, p308, p309])
            refine WO.cons (WC.opt (v := .bool c310) 132 (ePick (.bool c308) (.bool true) ((bif !c308 then .bool c309 else undef))) (fun _ _ _ => by kernel_rfl) (by rw [e310]; exact ePick_or (fun h => by obtain rfl : c308 = false := h; rfl)) ?_)
            refine ov 133 (.bool c310) ?_
            refine og 133 (!c310) (.pointer (some ⟨(nx + 1), 0 + 2, none⟩)) (.bool c310) (by cases c310 <;> rfl) (fun h => by obtain rfl := bF h; exact fun _ _ _ => by kernel_rfl) ?_
            refine ogc 133 (!c310) (.int .i64 (b.fWave)) (.bool c310) (by cases c310 <;> rfl) (fun h => by obtain rfl := bF h; exact WC.load1 (nx + 1) (0 + 2) (.int .i64 (b.fWave)) (by kernel_rfl) T_agg3 hb144 rfl rfl) ?_
            refine og 133 (!c310) (.int .i64 (-9223372036854775808)) (.bool c310) (by cases c310 <;> rfl) (fun h => by obtain rfl := bF h; exact fun _ _ _ => by kernel_rfl) ?_
            obtain ⟨c311, e311, p311⟩ := @nb (eqI (b.fWave) (-9223372036854775808)) ((b.fWave) = (-9223372036854775808)) (eqI_iff)
            refine og 133 (!c310) (.bool c311) (.bool c310) (by cases c310 <;> rfl) (fun h => by obtain rfl := bF h; exact fun _ _ _ => by subst e311; kernel_rfl) ?_
            obtain ⟨c312, e312, p312⟩ := @nb ((c310 || c311)) (((((a.fAge) = (-9223372036854775808)) ∨ ((b.fAge) = (-9223372036854775808))) ∨ ((a.fWave) = (-9223372036854775808))) ∨ ((b.fWave) = (-9223372036854775808))) (by rw [Bool.or_eq_true, p310, p311])
            refine WO.cons (WC.opt (v := .bool c312) 138 (ePick (.bool c310) (.bool true) ((bif !c310 then .bool c311 else undef))) (fun _ _ _ => by kernel_rfl) (by rw [e312]; exact ePick_or (fun h => by obtain rfl : c310 = false := h; rfl)) ?_)
            refine WO.nil ?_
            refine WP.cond c312 (by kernel_rfl) (fun h313 => ?_) (fun h313 => ?_)
            ·
             have q314 := (p312).1 h313
             refine sr ?_
             refine ov 8 (.bool true) ?_
             refine WO.nil ?_
             refine WP.ret ⟨rfl, rfl, [.bool true], by kernel_rfl, ?_⟩
             exact ⟨⟨true, rfl, fun _ => trivial, fun _ => rfl⟩, le154, hE141⟩
            ·
             have q314 := nq p312 h313
             refine WP.skip ?_
             refine WP.seq ?_
             refine WP.drawS [⟨[0, 1, 2, 3, 4, 5, 6, 7, 8, 9, 10, 11, 12, 13, 14, 15, 16, 17, 18, 19, 20, 21, 22, 23], [0, 1, 2, 3, 4, 5, 6, 7, 8, 9, 10, 11, 12, 13, 14, 15, 16, 17, 18, 19, 20, 21, 22, 23], none⟩] (by kernel_rfl) _ rfl ?_
             refine WD.last ?_
             refine nv 139 (.slice a102 (Y87.l.length) c103) ?_
             refine nv 140 (.int .i64 (.ofNat iL134)) ?_
             have hlt315 : iL134 < Y87.l.length := by omega
             refine WN.consAt rfl (WC.ix (k := .i64) a102 (Y87.l.length) c103 (iL134) 1 (by kernel_rfl) (by kernel_rfl) T_und29 T_size3 ((hYok89.mono hr150 rl151).blkA hv104 (zl hlt315)) (hlt315) ?_)
             obtain ⟨x316, hx317⟩ : ∃ el_, Y87.l[iL134]? = some el_ := ⟨_, List.getElem?_eq_getElem (hlt315)⟩
             refine WN.consAt rfl (WC.load1E (blk a102) (0 + (iL134) * 1) (.int .i64 (x316)) (by kernel_rfl) T_agg3 ((hYok89.mono hr150 rl151).blkB hv104 (zl hlt315)) (flat_at1 (hYok89.mono hr150 rl151).1 hx317 rfl) ?_)
             refine nv 143 (.slice a126 (Y109.l.length) c127) ?_
             refine nv 144 (.int .i64 (.ofNat iL134)) ?_
             have hlt318 : iL134 < Y109.l.length := by omega
             refine WN.consAt rfl (WC.ix (k := .i64) a126 (Y109.l.length) c127 (iL134) 1 (by kernel_rfl) (by kernel_rfl) T_und29 T_size3 ((hYok111.mono hr152 rl153).blkA hv128 (zl hlt318)) (hlt318) ?_)
             obtain ⟨x319, hx320⟩ : ∃ el_, Y109.l[iL134]? = some el_ := ⟨_, List.getElem?_eq_getElem (hlt318)⟩
             refine WN.consAt rfl (WC.load1E (blk a126) (0 + (iL134) * 1) (.int .i64 (x319)) (by kernel_rfl) T_agg3 ((hYok111.mono hr152 rl153).blkB hv128 (zl hlt318)) (flat_at1 (hYok111.mono hr152 rl153).1 hx320 rfl) ?_)
             obtain ⟨c321, e321, p321⟩ := @nb (ltI (x316) (x319)) ((x316) < (x319)) (ltI_iff)
             refine nv 147 (.bool c321) ?_ (fun _ _ _ => by subst e321; kernel_rfl)
             refine nv 148 (.bool false) ?_
             refine nv 149 (.bool c321) ?_ (fun _ _ _ => by cases c321 <;> kernel_rfl)
             refine nv 150 (.bool c321) ?_
             refine ng rfl 150 (!c321) (.slice a102 (Y87.l.length) c103) (.bool c321) (by cases c321 <;> rfl) (fun h => by obtain rfl := bF h; exact fun _ _ _ => by kernel_rfl) ?_
             refine ng rfl 150 (!c321) (.int .i64 (.ofNat iL134)) (.bool c321) (by cases c321 <;> rfl) (fun h => by obtain rfl := bF h; exact fun _ _ _ => by kernel_rfl) ?_
             have hlt322 : (!c321) = true → iL134 < Y87.l.length := fun h => by obtain rfl : c321 = false := (by simpa using h); have q0 : ¬ ((x316) < (x319)) := (fun k => absurd ((p321).2 k) (by decide)); omega
             refine ngc rfl 150 (!c321) (.pointer (some ⟨(blk a102), 0 + (iL134) * 1, none⟩)) (.bool c321) (by cases c321 <;> rfl) (fun h => by obtain rfl := bF h; exact WC.ix (k := .i64) a102 (Y87.l.length) c103 (iL134) 1 (by kernel_rfl) (by kernel_rfl) T_und29 T_size3 ((hYok89.mono hr150 rl151).blkA hv104 (zl ((hlt322 rfl)))) ((hlt322 rfl)) rfl) ?_
             refine ngc rfl 150 (!c321) (.int .i64 (x316)) (.bool c321) (by cases c321 <;> rfl) (fun h => by obtain rfl := bF h; exact WC.load1E (blk a102) (0 + (iL134) * 1) (.int .i64 (x316)) (by kernel_rfl) T_agg3 ((hYok89.mono hr150 rl151).blkB hv104 (zl ((hlt322 rfl)))) (flat_at1 (hYok89.mono hr150 rl151).1 hx317 rfl) rfl) ?_
             refine ng rfl 150 (!c321) (.slice a126 (Y109.l.length) c127) (.bool c321) (by cases c321 <;> rfl) (fun h => by obtain rfl := bF h; exact fun _ _ _ => by kernel_rfl) ?_
             refine ng rfl 150 (!c321) (.int .i64 (.ofNat iL134)) (.bool c321) (by cases c321 <;> rfl) (fun h => by obtain rfl := bF h; exact fun _ _ _ => by kernel_rfl) ?_
             have hlt323 : (!c321) = true → iL134 < Y109.l.length := fun h => by obtain rfl : c321 = false := (by simpa using h); have q0 : ¬ ((x316) < (x319)) := (fun k => absurd ((p321).2 k) (by decide)); omega
             refine ngc rfl 150 (!c321) (.pointer (some ⟨(blk a126), 0 + (iL134) * 1, none⟩)) (.bool c321) (by cases c321 <;> rfl) (fun h => by obtain rfl := bF h; exact WC.ix (k := .i64) a126 (Y109.l.length) c127 (iL134) 1 (by kernel_rfl) (by kernel_rfl) T_und29 T_size3 ((hYok111.mono hr152 rl153).blkA hv128 (zl ((hlt323 rfl)))) ((hlt323 rfl)) rfl) ?_
             refine ngc rfl 150 (!c321) (.int .i64 (x319)) (.bool c321) (by cases c321 <;> rfl) (fun h => by obtain rfl := bF h; exact WC.load1E (blk a126) (0 + (iL134) * 1) (.int .i64 (x319)) (by kernel_rfl) T_agg3 ((hYok111.mono hr152 rl153).blkB hv128 (zl ((hlt323 rfl)))) (flat_at1 (hYok111.mono hr152 rl153).1 hx320 rfl) rfl) ?_
             obtain ⟨c324, e324, p324⟩ := @nb (ltI (x319) (x316)) ((x319) < (x316)) (ltI_iff)
             refine ng rfl 150 (!c321) (.bool c324) (.bool c321) (by cases c321 <;> rfl) (fun h => by obtain rfl := bF h; exact fun _ _ _ => by subst e324; kernel_rfl) ?_
             refine ng rfl 150 (!c321) (.bool false) (.bool c321) (by cases c321 <;> rfl) (fun h => by obtain rfl := bF h; exact fun _ _ _ => by kernel_rfl) ?_
             refine ng rfl 150 (!c321) (.bool c324) (.bool c321) (by cases c321 <;> rfl) (fun h => by obtain rfl := bF h; exact fun _ _ _ => by cases c324 <;> kernel_rfl) ?_
             obtain ⟨c325, e325, p325⟩ := @nb ((c321 || c324)) (((x316) < (x319)) ∨ ((x319) < (x316))) (by rw [Bool.or_eq_true, p321, p324])
             refine WN.consAt rfl (WC.opt (v := .bool c325) 162 (ePick (.bool c321) (.bool true) ((bif !c321 then .bool c324 else undef))) (fun _ _ _ => by kernel_rfl) (by rw [e325]; exact ePick_or (fun h => by obtain rfl : c321 = false := h; rfl)) ?_)
             refine WN.nil ⟨?_, ?_⟩
             ·
              refine cv (.slice a102 (Y87.l.length) c103) (hv104 ▸ hYok89.eqSelf 8) ?_
              refine cv (.int .i64 (.ofNat iL134)) (vEq_int ..) ?_
              refine co (.pointer (some ⟨(blk a102), 0 + (iL134) * 1, none⟩)) (eIndexAddr ex.T 29 (.slice a102 (Y87.l.length) c103) (.int .i64 (.ofNat (iL134)))) (eIndexAddr_A (k := .i64) T_und29 T_size3 ((hYok89.mono hr150 rl151).blkA hv104 (zl hlt315)) (hlt315)) (vEq_ptr ..) ?_
              refine co (.int .i64 (x316)) (eLoad ex.T hp136.get 3 (.pointer (some ⟨(blk a102), 0 + (iL134) * 1, none⟩))) (eLoad_oneE T_agg3 ((hYok89.mono hr150 rl151).blkB hv104 (zl hlt315)) (flat_at1 (hYok89.mono hr150 rl151).1 hx317 rfl)) (vEq_int ..) ?_
              refine cv (.slice a126 (Y109.l.length) c127) (hv128 ▸ hYok111.eqSelf 8) ?_
              refine cv (.int .i64 (.ofNat iL134)) (vEq_int ..) ?_
              refine co (.pointer (some ⟨(blk a126), 0 + (iL134) * 1, none⟩)) (eIndexAddr ex.T 29 (.slice a126 (Y109.l.length) c127) (.int .i64 (.ofNat (iL134)))) (eIndexAddr_A (k := .i64) T_und29 T_size3 ((hYok111.mono hr152 rl153).blkA hv128 (zl hlt318)) (hlt318)) (vEq_ptr ..) ?_
              refine co (.int .i64 (x319)) (eLoad ex.T hp136.get 3 (.pointer (some ⟨(blk a126), 0 + (iL134) * 1, none⟩))) (eLoad_oneE T_agg3 ((hYok111.mono hr152 rl153).blkB hv128 (zl hlt318)) (flat_at1 (hYok111.mono hr152 rl153).1 hx320 rfl)) (vEq_int ..) ?_
              refine cv (.bool c321) (vEq_bool 8 c321) ?_ (fun _ => by subst e321; kernel_rfl)
              refine cv (.bool false) rfl ?_
              refine cv (.bool c321) (vEq_bool 8 c321) ?_ (fun _ => by cases c321 <;> kernel_rfl)
              refine cv (.bool c321) (vEq_bool 8 c321) ?_
              refine cg rfl 150 (!c321) (.slice a102 (Y87.l.length) c103) (.bool c321) (by cases c321 <;> rfl) (fun h => by obtain rfl := bF h; exact chkV1 (.slice a102 (Y87.l.length) c103) (fun _ => by kernel_rfl) (hv104 ▸ hYok89.eqSelf 8)) ?_
              refine cg rfl 150 (!c321) (.int .i64 (.ofNat iL134)) (.bool c321) (by cases c321 <;> rfl) (fun h => by obtain rfl := bF h; exact chkV1 (.int .i64 (.ofNat iL134)) (fun _ => by kernel_rfl) (vEq_int ..)) ?_
              refine cg rfl 150 (!c321) (.pointer (some ⟨(blk a102), 0 + (iL134) * 1, none⟩)) (.bool c321) (by cases c321 <;> rfl) (fun h => by obtain rfl := bF h; exact chkO1 (.pointer (some ⟨(blk a102), 0 + (iL134) * 1, none⟩)) (eIndexAddr ex.T 29 (.slice a102 (Y87.l.length) c103) (.int .i64 (.ofNat (iL134)))) (fun _ => by kernel_rfl) (eIndexAddr_A (k := .i64) T_und29 T_size3 ((hYok89.mono hr150 rl151).blkA hv104 (zl ((hlt322 rfl)))) ((hlt322 rfl))) (vEq_ptr ..)) ?_
              refine cg rfl 150 (!c321) (.int .i64 (x316)) (.bool c321) (by cases c321 <;> rfl) (fun h => by obtain rfl := bF h; exact chkO1 (.int .i64 (x316)) (eLoad ex.T hp136.get 3 (.pointer (some ⟨(blk a102), 0 + (iL134) * 1, none⟩))) (fun _ => by kernel_rfl) (eLoad_oneE T_agg3 ((hYok89.mono hr150 rl151).blkB hv104 (zl ((hlt322 rfl)))) (flat_at1 (hYok89.mono hr150 rl151).1 hx317 rfl)) (vEq_int ..)) ?_
              refine cg rfl 150 (!c321) (.slice a126 (Y109.l.length) c127) (.bool c321) (by cases c321 <;> rfl) (fun h => by obtain rfl := bF h; exact chkV1 (.slice a126 (Y109.l.length) c127) (fun _ => by kernel_rfl) (hv128 ▸ hYok111.eqSelf 8)) ?_
              refine cg rfl 150 (!c321) (.int .i64 (.ofNat iL134)) (.bool c321) (by cases c321 <;> rfl) (fun h => by obtain rfl := bF h; exact chkV1 (.int .i64 (.ofNat iL134)) (fun _ => by kernel_rfl) (vEq_int ..)) ?_
              refine cg rfl 150 (!c321) (.pointer (some ⟨(blk a126), 0 + (iL134) * 1, none⟩)) (.bool c321) (by cases c321 <;> rfl) (fun h => by obtain rfl := bF h; exact chkO1 (.pointer (some ⟨(blk a126), 0 + (iL134) * 1, none⟩)) (eIndexAddr ex.T 29 (.slice a126 (Y109.l.length) c127) (.int .i64 (.ofNat (iL134)))) (fun _ => by kernel_rfl) (eIndexAddr_A (k := .i64) T_und29 T_size3 ((hYok111.mono hr152 rl153).blkA hv128 (zl ((hlt323 rfl)))) ((hlt323 rfl))) (vEq_ptr ..)) ?_
              refine cg rfl 150 (!c321) (.int .i64 (x319)) (.bool c321) (by cases c321 <;> rfl) (fun h => by obtain rfl := bF h; exact chkO1 (.int .i64 (x319)) (eLoad ex.T hp136.get 3 (.pointer (some ⟨(blk a126), 0 + (iL134) * 1, none⟩))) (fun _ => by kernel_rfl) (eLoad_oneE T_agg3 ((hYok111.mono hr152 rl153).blkB hv128 (zl ((hlt323 rfl)))) (flat_at1 (hYok111.mono hr152 rl153).1 hx320 rfl)) (vEq_int ..)) ?_
              refine cg rfl 150 (!c321) (.bool c324) (.bool c321) (by cases c321 <;> rfl) (fun h => by obtain rfl := bF h; exact chkV1 (.bool c324) (fun _ => by subst e324; kernel_rfl) (vEq_bool 8 c324)) ?_
              refine cg rfl 150 (!c321) (.bool false) (.bool c321) (by cases c321 <;> rfl) (fun h => by obtain rfl := bF h; exact chkV1 (.bool false) (fun _ => by kernel_rfl) rfl) ?_
              refine cg rfl 150 (!c321) (.bool c324) (.bool c321) (by cases c321 <;> rfl) (fun h => by obtain rfl := bF h; exact chkV1 (.bool c324) (fun _ => by cases c324 <;> kernel_rfl) (vEq_bool 8 c324)) ?_
              refine co (.bool c325) (ePick (.bool c321) (.bool true) ((bif !c321 then .bool c324 else undef))) ((by rw [e325]; exact ePick_or (fun h => by obtain rfl : c321 = false := h; rfl))) (vEq_bool 8 c325) ?_
              exact Chks.nil
             refine WP.cond c325 (by kernel_rfl) (fun h326 => ?_) (fun h326 => ?_)
             ·
              have q327 := (p325).1 h326
              refine sr ?_
              refine ov 8 (.bool false) ?_
              refine WO.nil ?_
              refine WP.ret ⟨rfl, rfl, [.bool false], by kernel_rfl, ?_⟩
              exfalso
              have hxa : x316 = keyS a x159 := by have h := hx317; rw [hYl88, List.getElem?_map, hx160] at h; exact (Option.some.inj h).symm
              have hxb : x319 = keyS b x159 := by have h := hx320; rw [hYl110, List.getElem?_map, hx160] at h; exact (Option.some.inj h).symm
              have l1 := not_or.1 q314
              have l2 := not_or.1 l1.1
              have l3 := not_or.1 l2.1
              rw [hxa, hxb] at q327
              have hk := keys0 (a := a) (b := b) q163 q192 q221 q250 q279
              rcases q327 with h | h
              · exact hk.1 h
              · exact hk.2 h
             ·
              have q327 := nq p325 h326
              refine WP.skip ?_
              refine WP.region ?_
              refine ov 163 (.int .i64 (.ofNat (iL134 + 1))) ?_ (fun _ _ _ => by rw [← wrapAdd (show iL134 + 1 < 9223372036854775808 by omega)]; kernel_rfl)
              refine ov 51 (.int .i64 (.ofNat (iL134 + 1))) ?_
              refine WO.nil ?_
              refine ⟨J.l.length - (iL134 + 1), by omega, iL134 + 1, by omega, by kernel_rfl, by kernel_rfl, by kernel_rfl, by kernel_rfl, by kernel_rfl, by kernel_rfl, by kernel_rfl, rfl, rfl, ?_, ?_⟩
              · exact hn139
              · exact he140
      ·
       have q157 := nq p155 h156
       refine WP.exit ?_
       refine sr ?_
       refine ov 8 (.bool true) ?_
       refine WO.nil ?_
       refine WP.ret ⟨rfl, rfl, [.bool true], by kernel_rfl, ?_⟩
       exact ⟨⟨true, rfl, fun _ => trivial, fun _ => rfl⟩, le154, hE141⟩
     ·
      exact ⟨0, by omega, by kernel_rfl, by kernel_rfl, by kernel_rfl, by kernel_rfl, by kernel_rfl, by kernel_rfl, by kernel_rfl, rfl, rfl, Nat.le_refl _, HE.refl _ _⟩
end
end Sw
