/- A part of the proof that the law returns true for every input that its row speaks of. No condition is added. -/
import Derived.Test.YtginbleelmnlpaaGreatDoorSwAH
namespace Sw
noncomputable section
open Go Go.Proofs Go.RowKit
set_option maxRecDepth 100000
set_option maxHeartbeats 1600000
theorem WC.upd {e : Env} {fm : Fm} {c : Cl} {to : Tm} {ds : List Deferred} {hp : Ht} {nx : Nat} {cs0 : List Nat} {Q : St → Prop} (o : Option Ups) {ups : Ups} (hl : e.low = 0) (h : ∀ rec cs k, c.run e rec fm to ds hp nx cs k = optU o (keOf (fun t _ => t) e.low to ds hp nx cs k)) (ho : o = some ups) (q : Q ⟨to, ds, setAll ups hp, nx, cs0⟩) : WC e fm c ⟨to, ds, hp, nx, cs0⟩ Q :=
  ⟨⟨to, ds, setAll ups hp, nx, cs0⟩, ⟨0, fun n _ cs k => by show c.run e (ev e n) fm to ds hp nx cs k = _; rw [h (ev e n) cs k, ho, hl]; simp only [optU, keOf, updT0, St.at, Nat.add_zero]⟩, q⟩
theorem eMapUpdate_at {T : Ty} {hp : Hp} {t : TypeId} {r : Nat} {k v : Value} {o : Option (AObj Tm)} (h : hp r = o) : eMapUpdate T hp t (.map (some r)) k v = eMapUpdate T (fun _ => o) t (.map (some r)) k v := by
  subst h; unfold eMapUpdate; cases T.und t with
  | none => rfl
  | some d => cases d <;> rfl
theorem eLookup_at {T : Ty} {hp : Hp} {t : TypeId} {r : Nat} {k : Value} {b : Bool} {o : Option (AObj Tm)} (h : hp r = o) : eLookup T hp t (.map (some r)) k b = eLookup T (fun _ => o) t (.map (some r)) k b := by
  subst h; rfl
theorem WC.insert {e : Env} {fm : Fm} {to : Tm} {ds : List Deferred} {hp : Ht} {nx : Nat} {cs0 : List Nat} {Q : St → Prop} {all : List Oper} {ty : TypeId} {pos : String} {aft : Array Edge} {t : TypeId} {m k v : Operand} (r : Nat) (kv vv : Value) {o o' : Option (AObj Tm)} (hl : e.low = 0) (hm : (opd m).run to = .map (some r)) (hk : (opd k).run to = kv) (hv : (opd v).run to = vv)
    (hr : hp.get r = o) (hu : eMapUpdate e.T (fun _ => o) t (.map (some r)) kv vv = some [(r, o')]) (q : Q ⟨to, ds, hp.set r o', nx, cs0⟩) : WC e fm (compOp all ⟨none, .insert t m k v, ty, pos, aft, none⟩) ⟨to, ds, hp, nx, cs0⟩ Q := by
  refine .upd (ups := [(r, o')]) (eMapUpdate e.T hp.get t ((opd m).run to) ((opd k).run to) ((opd v).run to)) hl (fun _ _ _ => rfl) ?_ q
  rw [hm, hk, hv, eMapUpdate_at hr, hu]
def keyS (s : RStarter) (c : Int) : Int :=
  bif eqI c 1 then wrapE .i64 (0 - s.fAge) else bif eqI c 2 then s.fAge else bif eqI c 3 then wrapE .i64 (0 - s.fWave) else bif eqI c 4 then s.fBib else bif eqI c 5 then s.fLot else 0
theorem keyS_none {s : RStarter} {c : Int} (h1 : eqI c 1 = false) (h2 : eqI c 2 = false) (h3 : eqI c 3 = false) (h4 : eqI c 4 = false) (h5 : eqI c 5 = false) : keyS s c = 0 := by
  simp only [keyS, h1, h2, h3, h4, h5, cond_false]
def crit : List MapEntry := [⟨.int .i64 1, .func (.func 52) #[] #[], 0⟩, ⟨.int .i64 2, .func (.func 53) #[] #[], 1⟩, ⟨.int .i64 3, .func (.func 54) #[] #[], 2⟩, ⟨.int .i64 4, .func (.func 55) #[] #[], 3⟩, ⟨.int .i64 5, .func (.func 56) #[] #[], 4⟩]
theorem look_none (r : Nat) (c : Int) (h1 : eqI c 1 = false) (h2 : eqI c 2 = false) (h3 : eqI c 3 = false) (h4 : eqI c 4 = false) (h5 : eqI c 5 = false) : eLookup ex.T (fun _ => some (.map crit 5)) 109 (.map (some r)) (.int .i64 c) true = some (.tuple ⟨[.nilFunc, .bool false]⟩) := by
  have hk : ∀ k : Int, eqKey ex.T 3 (.int .i64 c) (.int .i64 k) = some (eqI c k) := fun k => by kernel_rfl
  have e1 : findE (eqKey ex.T 3 (.int .i64 c)) crit 0 = some none := by simp only [crit, findE, hk, h1, h2, h3, h4, h5]
  have e2 : eLookup ex.T (fun _ => some (.map crit 5)) 109 (.map (some r)) (.int .i64 c) true = (match findE (eqKey ex.T 3 (.int .i64 c)) crit 0 with
    | some (some (_, e)) => some (.tuple #[e.val, .bool true])
    | some none => some (.tuple ⟨[.nilFunc, .bool false]⟩)
    | none => none) := by kernel_rfl
  rw [e2, e1]
theorem look1 (r : Nat) : eLookup ex.T (fun _ => some (.map crit 5)) 109 (.map (some r)) (.int .i64 1) true = some (.tuple ⟨[.func (.func 52) #[] #[], .bool true]⟩) := by kernel_rfl
theorem look2 (r : Nat) : eLookup ex.T (fun _ => some (.map crit 5)) 109 (.map (some r)) (.int .i64 2) true = some (.tuple ⟨[.func (.func 53) #[] #[], .bool true]⟩) := by kernel_rfl
theorem look3 (r : Nat) : eLookup ex.T (fun _ => some (.map crit 5)) 109 (.map (some r)) (.int .i64 3) true = some (.tuple ⟨[.func (.func 54) #[] #[], .bool true]⟩) := by kernel_rfl
theorem look4 (r : Nat) : eLookup ex.T (fun _ => some (.map crit 5)) 109 (.map (some r)) (.int .i64 4) true = some (.tuple ⟨[.func (.func 55) #[] #[], .bool true]⟩) := by kernel_rfl
theorem look5 (r : Nat) : eLookup ex.T (fun _ => some (.map crit 5)) 109 (.map (some r)) (.int .i64 5) true = some (.tuple ⟨[.func (.func 56) #[] #[], .bool true]⟩) := by kernel_rfl
theorem five (q : Int) : q = 1 ∨ q = 2 ∨ q = 3 ∨ q = 4 ∨ q = 5 ∨ (eqI q 1 = false ∧ eqI q 2 = false ∧ eqI q 3 = false ∧ eqI q 4 = false ∧ eqI q 5 = false) := by
  have key : ∀ k : Int, q = k ∨ eqI q k = false := fun k => by
    cases h : eqI q k with
    | true => exact .inl (eqI_iff.1 h)
    | false => exact .inr rfl
  rcases key 1 with h1 | h1
  · exact .inl h1
  rcases key 2 with h2 | h2
  · exact .inr (.inl h2)
  rcases key 3 with h3 | h3
  · exact .inr (.inr (.inl h3))
  rcases key 4 with h4 | h4
  · exact .inr (.inr (.inr (.inl h4)))
  rcases key 5 with h5 | h5
  · exact .inr (.inr (.inr (.inr (.inl h5))))
  exact .inr (.inr (.inr (.inr (.inr ⟨h1, h2, h3, h4, h5⟩))))
theorem T_agg23 : ex.T.agg 23 = some true := by kernel_rfl
theorem T_size23 : ex.T.size 23 = some 8 := by kernel_rfl
theorem criteria_wf (hp : Ht) (nx : Nat) : WF ex 24 [] hp nx (fun v hp' nx' => v = .map (some nx) ∧ nx' = nx + 1 ∧ HE nx hp hp' ∧ hp'.get nx = some (.map crit 5)) := by
 refine WF.body (fi := ⟨Tryz.f24.body.getD .skip, 3, [.tmp 0]⟩) (by kernel_rfl) (by kernel_rfl) (by kernel_rfl) rfl ?_
 refine WP.seq (WP.region ?_)
 refine WO.cons (WC.val 0 (.map none) (fun _ _ _ => by kernel_rfl) ?_)
 refine WO.nil ?_
 refine WP.seq (WP.region ?_)
 refine WO.cons (WC.eff 1 (.map (some nx)) [(nx, some (.map [] 0))] 1 rfl (fun _ _ _ => by kernel_rfl) ?_)
 generalize hh : setAll [(nx, some (.map [] 0))] hp = hp0
 have he0 : HE nx hp hp0 := by subst hh; exact HE.set _ _ (Nat.le_refl _)
 have hr0 : hp0.get nx = (some (.map [] 0)) := by subst hh; exact Tr.get_same ..
 refine WO.cons (WC.insert (o' := (some (.map [⟨.int .i64 1, .func (.func 52) #[] #[], 0⟩] 1))) nx (.int .i64 1) (.func (.func 52) #[] #[]) rfl (by kernel_rfl) (by kernel_rfl) (by kernel_rfl) hr0 (by kernel_rfl) ?_)
 have he1 := he0.trans (HE.set hp0 (some (.map [⟨.int .i64 1, .func (.func 52) #[] #[], 0⟩] 1)) (Nat.le_refl nx)) (Nat.le_refl _)
 have hr1 := Tr.get_same hp0 nx (some (.map [⟨.int .i64 1, .func (.func 52) #[] #[], 0⟩] 1))
 generalize hp0.set nx (some (.map [⟨.int .i64 1, .func (.func 52) #[] #[], 0⟩] 1)) = hp1 at *
 refine WO.cons (WC.insert (o' := (some (.map [⟨.int .i64 1, .func (.func 52) #[] #[], 0⟩, ⟨.int .i64 2, .func (.func 53) #[] #[], 1⟩] 2))) nx (.int .i64 2) (.func (.func 53) #[] #[]) rfl (by kernel_rfl) (by kernel_rfl) (by kernel_rfl) hr1 (by kernel_rfl) ?_)
 have he2 := he1.trans (HE.set hp1 (some (.map [⟨.int .i64 1, .func (.func 52) #[] #[], 0⟩, ⟨.int .i64 2, .func (.func 53) #[] #[], 1⟩] 2)) (Nat.le_refl nx)) (Nat.le_refl _)
 have hr2 := Tr.get_same hp1 nx (some (.map [⟨.int .i64 1, .func (.func 52) #[] #[], 0⟩, ⟨.int .i64 2, .func (.func 53) #[] #[], 1⟩] 2))
 generalize hp1.set nx (some (.map [⟨.int .i64 1, .func (.func 52) #[] #[], 0⟩, ⟨.int .i64 2, .func (.func 53) #[] #[], 1⟩] 2)) = hp2 at *
 refine WO.cons (WC.insert (o' := (some (.map [⟨.int .i64 1, .func (.func 52) #[] #[], 0⟩, ⟨.int .i64 2, .func (.func 53) #[] #[], 1⟩, ⟨.int .i64 3, .func (.func 54) #[] #[], 2⟩] 3))) nx (.int .i64 3) (.func (.func 54) #[] #[]) rfl (by kernel_rfl) (by kernel_rfl) (by kernel_rfl) hr2 (by kernel_rfl) ?_)
 have he3 := he2.trans (HE.set hp2 (some (.map [⟨.int .i64 1, .func (.func 52) #[] #[], 0⟩, ⟨.int .i64 2, .func (.func 53) #[] #[], 1⟩, ⟨.int .i64 3, .func (.func 54) #[] #[], 2⟩] 3)) (Nat.le_refl nx)) (Nat.le_refl _)
 have hr3 := Tr.get_same hp2 nx (some (.map [⟨.int .i64 1, .func (.func 52) #[] #[], 0⟩, ⟨.int .i64 2, .func (.func 53) #[] #[], 1⟩, ⟨.int .i64 3, .func (.func 54) #[] #[], 2⟩] 3))
 generalize hp2.set nx (some (.map [⟨.int .i64 1, .func (.func 52) #[] #[], 0⟩, ⟨.int .i64 2, .func (.func 53) #[] #[], 1⟩, ⟨.int .i64 3, .func (.func 54) #[] #[], 2⟩] 3)) = hp3 at *
 refine WO.cons (WC.insert (o' := (some (.map [⟨.int .i64 1, .func (.func 52) #[] #[], 0⟩, ⟨.int .i64 2, .func (.func 53) #[] #[], 1⟩, ⟨.int .i64 3, .func (.func 54) #[] #[], 2⟩, ⟨.int .i64 4, .func (.func 55) #[] #[], 3⟩] 4))) nx (.int .i64 4) (.func (.func 55) #[] #[]) rfl (by kernel_rfl) (by kernel_rfl) (by kernel_rfl) hr3 (by kernel_rfl) ?_)
 have he4 := he3.trans (HE.set hp3 (some (.map [⟨.int .i64 1, .func (.func 52) #[] #[], 0⟩, ⟨.int .i64 2, .func (.func 53) #[] #[], 1⟩, ⟨.int .i64 3, .func (.func 54) #[] #[], 2⟩, ⟨.int .i64 4, .func (.func 55) #[] #[], 3⟩] 4)) (Nat.le_refl nx)) (Nat.le_refl _)
 have hr4 := Tr.get_same hp3 nx (some (.map [⟨.int .i64 1, .func (.func 52) #[] #[], 0⟩, ⟨.int .i64 2, .func (.func 53) #[] #[], 1⟩, ⟨.int .i64 3, .func (.func 54) #[] #[], 2⟩, ⟨.int .i64 4, .func (.func 55) #[] #[], 3⟩] 4))
 generalize hp3.set nx (some (.map [⟨.int .i64 1, .func (.func 52) #[] #[], 0⟩, ⟨.int .i64 2, .func (.func 53) #[] #[], 1⟩, ⟨.int .i64 3, .func (.func 54) #[] #[], 2⟩, ⟨.int .i64 4, .func (.func 55) #[] #[], 3⟩] 4)) = hp4 at *
 refine WO.cons (WC.insert (o' := (some (.map [⟨.int .i64 1, .func (.func 52) #[] #[], 0⟩, ⟨.int .i64 2, .func (.func 53) #[] #[], 1⟩, ⟨.int .i64 3, .func (.func 54) #[] #[], 2⟩, ⟨.int .i64 4, .func (.func 55) #[] #[], 3⟩, ⟨.int .i64 5, .func (.func 56) #[] #[], 4⟩] 5))) nx (.int .i64 5) (.func (.func 56) #[] #[]) rfl (by kernel_rfl) (by kernel_rfl) (by kernel_rfl) hr4 (by kernel_rfl) ?_)
 have he5 := he4.trans (HE.set hp4 (some (.map [⟨.int .i64 1, .func (.func 52) #[] #[], 0⟩, ⟨.int .i64 2, .func (.func 53) #[] #[], 1⟩, ⟨.int .i64 3, .func (.func 54) #[] #[], 2⟩, ⟨.int .i64 4, .func (.func 55) #[] #[], 3⟩, ⟨.int .i64 5, .func (.func 56) #[] #[], 4⟩] 5)) (Nat.le_refl nx)) (Nat.le_refl _)
 have hr5 := Tr.get_same hp4 nx (some (.map [⟨.int .i64 1, .func (.func 52) #[] #[], 0⟩, ⟨.int .i64 2, .func (.func 53) #[] #[], 1⟩, ⟨.int .i64 3, .func (.func 54) #[] #[], 2⟩, ⟨.int .i64 4, .func (.func 55) #[] #[], 3⟩, ⟨.int .i64 5, .func (.func 56) #[] #[], 4⟩] 5))
 generalize hp4.set nx (some (.map [⟨.int .i64 1, .func (.func 52) #[] #[], 0⟩, ⟨.int .i64 2, .func (.func 53) #[] #[], 1⟩, ⟨.int .i64 3, .func (.func 54) #[] #[], 2⟩, ⟨.int .i64 4, .func (.func 55) #[] #[], 3⟩, ⟨.int .i64 5, .func (.func 56) #[] #[], 4⟩] 5)) = hp5 at *
 refine WO.cons (WC.val 2 (.map (some nx)) (fun _ _ _ => by kernel_rfl) ?_)
 refine WO.cons (WC.val 0 (.map (some nx)) (fun _ _ _ => by kernel_rfl) ?_)
 refine WO.nil ?_
 exact WP.ret ⟨rfl, rfl, [.map (some nx)], by kernel_rfl, rfl, rfl, he5, hr5⟩
theorem crit1_wf (s : RStarter) (hp : Ht) (nx : Nat) : WF ex 52 [.agg (encStarter s).toArray] hp nx (Stays nx hp (IntIs (wrapE .i64 (0 - s.fAge)))) := by
 refine WF.body (fi := ⟨Tryz.f52.body.getD .skip, 6, [.tmp 2]⟩) (by kernel_rfl) (by kernel_rfl) (by kernel_rfl) rfl ?_
 have hE := HE.refl nx hp
 refine sr ?_
 refine WO.cons (WC.box (.agg (encStarter s).toArray) (encStarter s) rfl (by kernel_rfl) rfl ?_)
 obtain ⟨hp2, hx3, he4, hb5⟩ := boxed hp (nx) (encStarter s)
 rw [hx3]; clear hx3
 have hE6 := hE.trans he4 (Nat.le_refl nx)
 have le7 := Nat.le_trans (Nat.le_refl nx) (Nat.le_succ (nx))
 refine ov 2 (.int .i64 (0)) ?_
 refine WO.nil ?_
 refine sr ?_
 refine ov 3 (.pointer (some ⟨nx, 0 + 4, none⟩)) ?_
 refine WO.cons (WC.load1 nx (0 + 4) (.int .i64 (s.fAge)) (by kernel_rfl) T_agg3 hb5 rfl ?_)
 refine ov 5 (.int .i64 (wrapE .i64 (0 - (s.fAge)))) ?_
 refine ov 2 (.int .i64 (wrapE .i64 (0 - (s.fAge)))) ?_
 refine WO.nil ?_
 refine WP.ret ⟨rfl, rfl, [.int .i64 (wrapE .i64 (0 - (s.fAge)))], by kernel_rfl, ?_⟩
 exact ⟨rfl, le7, hE6⟩
theorem crit2_wf (s : RStarter) (hp : Ht) (nx : Nat) : WF ex 53 [.agg (encStarter s).toArray] hp nx (Stays nx hp (IntIs (s.fAge))) := by
 refine WF.body (fi := ⟨Tryz.f53.body.getD .skip, 5, [.tmp 2]⟩) (by kernel_rfl) (by kernel_rfl) (by kernel_rfl) rfl ?_
 have hE := HE.refl nx hp
 refine sr ?_
 refine WO.cons (WC.box (.agg (encStarter s).toArray) (encStarter s) rfl (by kernel_rfl) rfl ?_)
 obtain ⟨hp2, hx3, he4, hb5⟩ := boxed hp (nx) (encStarter s)
 rw [hx3]; clear hx3
 have hE6 := hE.trans he4 (Nat.le_refl nx)
 have le7 := Nat.le_trans (Nat.le_refl nx) (Nat.le_succ (nx))
 refine ov 2 (.int .i64 (0)) ?_
 refine WO.nil ?_
 refine sr ?_
 refine ov 3 (.pointer (some ⟨nx, 0 + 4, none⟩)) ?_
 refine WO.cons (WC.load1 nx (0 + 4) (.int .i64 (s.fAge)) (by kernel_rfl) T_agg3 hb5 rfl ?_)
 refine ov 2 (.int .i64 (s.fAge)) ?_
 refine WO.nil ?_
 refine WP.ret ⟨rfl, rfl, [.int .i64 (s.fAge)], by kernel_rfl, ?_⟩
 exact ⟨rfl, le7, hE6⟩
theorem crit3_wf (s : RStarter) (hp : Ht) (nx : Nat) : WF ex 54 [.agg (encStarter s).toArray] hp nx (Stays nx hp (IntIs (wrapE .i64 (0 - s.fWave)))) := by
 refine WF.body (fi := ⟨Tryz.f54.body.getD .skip, 6, [.tmp 2]⟩) (by kernel_rfl) (by kernel_rfl) (by kernel_rfl) rfl ?_
 have hE := HE.refl nx hp
 refine sr ?_
 refine WO.cons (WC.box (.agg (encStarter s).toArray) (encStarter s) rfl (by kernel_rfl) rfl ?_)
 obtain ⟨hp2, hx3, he4, hb5⟩ := boxed hp (nx) (encStarter s)
 rw [hx3]; clear hx3
 have hE6 := hE.trans he4 (Nat.le_refl nx)
 have le7 := Nat.le_trans (Nat.le_refl nx) (Nat.le_succ (nx))
 refine ov 2 (.int .i64 (0)) ?_
 refine WO.nil ?_
 refine sr ?_
 refine ov 3 (.pointer (some ⟨nx, 0 + 2, none⟩)) ?_
 refine WO.cons (WC.load1 nx (0 + 2) (.int .i64 (s.fWave)) (by kernel_rfl) T_agg3 hb5 rfl ?_)
 refine ov 5 (.int .i64 (wrapE .i64 (0 - (s.fWave)))) ?_
 refine ov 2 (.int .i64 (wrapE .i64 (0 - (s.fWave)))) ?_
 refine WO.nil ?_
 refine WP.ret ⟨rfl, rfl, [.int .i64 (wrapE .i64 (0 - (s.fWave)))], by kernel_rfl, ?_⟩
 exact ⟨rfl, le7, hE6⟩
theorem crit4_wf (s : RStarter) (hp : Ht) (nx : Nat) : WF ex 55 [.agg (encStarter s).toArray] hp nx (Stays nx hp (IntIs (s.fBib))) := by
 refine WF.body (fi := ⟨Tryz.f55.body.getD .skip, 5, [.tmp 2]⟩) (by kernel_rfl) (by kernel_rfl) (by kernel_rfl) rfl ?_
 have hE := HE.refl nx hp
 refine sr ?_
 refine WO.cons (WC.box (.agg (encStarter s).toArray) (encStarter s) rfl (by kernel_rfl) rfl ?_)
 obtain ⟨hp2, hx3, he4, hb5⟩ := boxed hp (nx) (encStarter s)
 rw [hx3]; clear hx3
 have hE6 := hE.trans he4 (Nat.le_refl nx)
 have le7 := Nat.le_trans (Nat.le_refl nx) (Nat.le_succ (nx))
 refine ov 2 (.int .i64 (0)) ?_
 refine WO.nil ?_
 refine sr ?_
 refine ov 3 (.pointer (some ⟨nx, 0 + 0, none⟩)) ?_
 refine WO.cons (WC.load1 nx (0 + 0) (.int .i64 (s.fBib)) (by kernel_rfl) T_agg3 hb5 rfl ?_)
 refine ov 2 (.int .i64 (s.fBib)) ?_
 refine WO.nil ?_
 refine WP.ret ⟨rfl, rfl, [.int .i64 (s.fBib)], by kernel_rfl, ?_⟩
 exact ⟨rfl, le7, hE6⟩
theorem crit5_wf (s : RStarter) (hp : Ht) (nx : Nat) : WF ex 56 [.agg (encStarter s).toArray] hp nx (Stays nx hp (IntIs (s.fLot))) := by
 refine WF.body (fi := ⟨Tryz.f56.body.getD .skip, 5, [.tmp 2]⟩) (by kernel_rfl) (by kernel_rfl) (by kernel_rfl) rfl ?_
 have hE := HE.refl nx hp
 refine sr ?_
 refine WO.cons (WC.box (.agg (encStarter s).toArray) (encStarter s) rfl (by kernel_rfl) rfl ?_)
 obtain ⟨hp2, hx3, he4, hb5⟩ := boxed hp (nx) (encStarter s)
 rw [hx3]; clear hx3
 have hE6 := hE.trans he4 (Nat.le_refl nx)
 have le7 := Nat.le_trans (Nat.le_refl nx) (Nat.le_succ (nx))
 refine ov 2 (.int .i64 (0)) ?_
 refine WO.nil ?_
 refine sr ?_
 refine ov 3 (.pointer (some ⟨nx, 0 + 7, none⟩)) ?_
 refine WO.cons (WC.load1 nx (0 + 7) (.int .i64 (s.fLot)) (by kernel_rfl) T_agg3 hb5 rfl ?_)
 refine ov 2 (.int .i64 (s.fLot)) ?_
 refine WO.nil ?_
 refine WP.ret ⟨rfl, rfl, [.int .i64 (s.fLot)], by kernel_rfl, ?_⟩
 exact ⟨rfl, le7, hE6⟩
theorem keys_wf (r : RStarter) (K : SV Int) (hp : Ht) (nx : Nat) (hK : SOk encI 1 hp nx K) (hKl : K.l.length ≤ 50) : WF ex 7 [.agg (encStarter r).toArray, K.v] hp nx (fun v hp' nx' => ∃ Y : SV Int, v = Y.v ∧ Y.l = K.l.map (keyS r) ∧ SOk encI 1 hp' nx' Y ∧ nx ≤ nx' ∧ HE nx hp hp') := by
 obtain ⟨a1, c2, hv3⟩ := hK.shape
 have hsm3 := hK.2.2
 rw [hv3]
 refine WF.body (fi := ⟨Tryz.f7.body.getD .skip, 34, [.tmp 4]⟩) (by kernel_rfl) (by kernel_rfl) (by kernel_rfl) rfl ?_
 have hE := HE.refl nx hp
 refine sr ?_
 refine WO.cons (WC.box (.agg (encStarter r).toArray) (encStarter r) rfl (by kernel_rfl) rfl ?_)
 obtain ⟨hp5, hx6, he7, hb8⟩ := boxed hp (nx) (encStarter r)
 rw [hx6]; clear hx6
 have hE9 := hE.trans he7 (Nat.le_refl nx)
 have le10 := Nat.le_trans (Nat.le_refl nx) (Nat.le_succ (nx))
 refine ov 4 (.slice none (0) 0) ?_
 refine WO.nil ?_
 refine sr ?_
 refine WO.cons (WC.call 11 24 ([]) (fun _ _ _ => by kernel_rfl) ((criteria_wf hp5 (nx + 1)).mono ?_))
 rintro _ hp11 nx12 ⟨rfl, hnx, he14, hm0⟩
 have hn13 : nx + 1 ≤ nx12 := by omega
 have hE15 := hE9.trans he14 le10
 have hb16 := he14.get hb8 (Nat.lt_succ_self (nx))
 have lt17 := Nat.lt_of_lt_of_le (Nat.lt_succ_self (nx)) hn13
 have le18 := Nat.le_trans le10 hn13
 refine ov 5 (.map (some (nx + 1))) ?_
 refine WO.nil ?_
 refine WP.seq ?_
 refine sr ?_
 refine ov 12 (.slice a1 (K.l.length) c2) ?_
 refine ov 13 (.int .i64 (.ofNat (K.l.length))) ?_
 refine ov 14 (.int .i64 (0)) ?_
 refine WO.nil ?_
 refine WP.block ?_
 have hj20 : ∀ t : Tm, ((((((t.set 2 (t.get 2)).set 4 (t.get 4)).set 5 (t.get 5)).set 12 (t.get 12)).set 13 (t.get 13)).set 14 (t.get 14)) = t := fun t => by kernel_rfl
 refine WP.loop (fun m s => ∃ (iL19 : Nat) (J : SV Int), iL19 + m = K.l.length ∧ s.to.get 2 = .pointer (some ⟨nx, 0, none⟩) ∧ s.to.get 4 = J.v ∧ s.to.get 5 = .map (some (nx + 1)) ∧ s.to.get 12 = .slice a1 (K.l.length) c2 ∧ s.to.get 13 = .int .i64 (.ofNat (K.l.length)) ∧ s.to.get 14 = .int .i64 (.ofNat iL19) ∧ s.ds = [] ∧ s.cs = [] ∧ nx12 ≤ s.nx ∧ HE (nx12) hp11 s.hp ∧ (GroA encI 1 (nx12) s.hp s.nx J) ∧ (J.l = (K.l.take iL19).map (keyS r)) ∧ (J.l.length = iL19)) ?_ (K.l.length) ?_
 ·
  rintro mL19 ⟨toL19, dsL19, hp21, nx22, csL19⟩ ⟨iL19, J, him23, gL19_2, gL19_4, gL19_5, gL19_12, gL19_13, gL19_14, hdsL19, hcsL19, hn24, he25, hG, hJl, hJn⟩
  simp only at gL19_2 gL19_4 gL19_5 gL19_12 gL19_13 gL19_14 hdsL19 hcsL19 hn24 he25 hG
  subst hdsL19 hcsL19
  rw [← hj20 toL19, gL19_2, gL19_4, gL19_5, gL19_12, gL19_13, gL19_14]
  clear gL19_2 gL19_4 gL19_5 gL19_12 gL19_13 gL19_14
  have hE26 := hE15.trans he25 le18
  have hb27 := he25.get hb16 lt17
  have hb29 := he25.get hm0 (show nx + 1 < nx12 by omega)
  have le31 := Nat.le_trans le18 hn24
  have hr32 := HE.refl (nx22) hp21
  have rl33 := Nat.le_refl (nx22)
  refine sr ?_
  obtain ⟨c34, e34, p34⟩ := @nb (ltI (.ofNat iL19) (.ofNat (K.l.length))) (((iL19 : Nat) : Int) < ((K.l.length : Nat) : Int)) (ltI_iff)
  refine ov 15 (.bool c34) ?_ (fun _ _ _ => by subst e34; kernel_rfl)
  refine WO.nil ?_
  refine WP.seq ?_
  refine WP.cond c34 (by kernel_rfl) (fun h35 => ?_) (fun h35 => ?_)
  ·
   have q36 := (p34).1 h35
   refine WP.skip ?_
   refine WP.seq ?_
   refine WP.block ?_
   refine sr ?_
   have hlt37 : iL19 < K.l.length := by omega
   refine WO.cons (WC.ix (k := .i64) a1 (K.l.length) c2 (iL19) 1 (by kernel_rfl) (by kernel_rfl) T_und29 T_size3 ((hK.mono hE26 le31).blkA hv3 (zl hlt37)) (hlt37) ?_)
   obtain ⟨x38, hx39⟩ : ∃ el_, K.l[iL19]? = some el_ := ⟨_, List.getElem?_eq_getElem (hlt37)⟩
   refine WO.cons (WC.load1E (blk a1) (0 + (iL19) * 1) (.int .i64 (x38)) (by kernel_rfl) T_agg3 ((hK.mono hE26 le31).blkB hv3 (zl hlt37)) (flat_at1 (hK.mono hE26 le31).1 hx39 rfl) ?_)
   refine ov 7 (.int .i64 (x38)) ?_
   refine WO.nil ?_
   refine sr ?_
   refine ov 8 (.int .i64 (0)) ?_
   refine WO.nil ?_
   refine WP.seq ?_
   refine WP.seq ?_
   rcases five x38 with rfl | rfl | rfl | rfl | rfl | ⟨k1, k2, k3, k4, k5⟩
   ·
    refine WP.region ?_
    refine ov 19 (.map (some (nx + 1))) ?_
    refine ov 20 (.int .i64 (1)) ?_
    refine WO.cons (WC.opt (v := .tuple ⟨[.func (.func 52) #[] #[], .bool true]⟩) 21 (eLookup ex.T hp21.get 109 (.map (some (nx + 1))) (.int .i64 1) true) (fun _ _ _ => by kernel_rfl) ((eLookup_at hb29).trans (look1 (nx + 1))) ?_)
    refine ov 18 (.tuple ⟨[.func (.func 52) #[] #[], .bool true]⟩) ?_
    refine ov 22 (.func (.func 52) #[] #[]) ?_
    refine ov 23 (.bool true) ?_
    refine ov 9 (.func (.func 52) #[] #[]) ?_
    refine ov 10 (.bool true) ?_
    refine WO.nil ?_
    refine sr ?_
    refine ov 24 (.bool true) ?_
    refine WO.nil ?_
    refine WP.cond true (by kernel_rfl) (fun h40 => ?_) (fun h40 => by cases h40)
    refine WP.region ?_
    refine ov 25 (.func (.func 52) #[] #[]) ?_
    refine WO.cons (WC.loadS nx (0) (encStarter r) (by kernel_rfl) T_agg23 T_size23 hb27 rfl ?_)
    refine WO.cons (WC.call 27 52 ([.agg (encStarter r).toArray]) (fun _ _ _ => by kernel_rfl) ((crit1_wf r hp21 (nx22)).mono ?_))
    rintro _ hp41 nx42 ⟨rfl, hn43, he44⟩
    have hr50 := hr32.trans he44 rl33
    have rl51 := Nat.le_trans rl33 hn43
    have hr52 := he25.trans he44 hn24
    have rl53 := Nat.le_trans hn24 hn43
    refine ov 8 (.int .i64 (wrapE .i64 (0 - r.fAge))) ?_
    refine WO.nil ?_
    refine WP.region ?_
    refine ov 28 (J.v) ?_
    refine ov 29 (.int .i64 (wrapE .i64 (0 - r.fAge))) ?_
    refine WO.cons (WC.buildSlice [.int .i64 (wrapE .i64 (0 - r.fAge))] rfl (by kernel_rfl) ?_)
    obtain ⟨hp55, hx56, he57, hb58⟩ := boxed hp41 (nx42) [.int .i64 (wrapE .i64 (0 - r.fAge))]
    rw [hx56]; clear hx56
    have hr64 := hr50.trans he57 rl51
    have rl65 := Nat.le_trans rl51 (Nat.le_succ (nx42))
    have hr66 := hr52.trans he57 rl53
    have rl67 := Nat.le_trans rl53 (Nat.le_succ (nx42))
    obtain ⟨inf70, hinf71, hby72⟩ := infoI
    refine WO.cons (WC.append1L (enc := encI) (J := J) (wrapE .i64 (0 - r.fAge)) rfl (by kernel_rfl) (by kernel_rfl) (hG.mono hr64 rl65) (intFlat _) hb58 rfl T_und29 T_size3 T_zero3 hinf71 rfl rfl (by decide) (by rw [hby72]; omega) (by omega) (by omega) (by omega) rfl ?_)
    rintro J73 hp74 nx75 hl76 hn77 he78 hG79
    have hr82 := hr66.trans he78 (Nat.le_refl _)
    have rl83 := Nat.le_trans rl67 hn77
    have hr88 := HE.refl (nx75) hp74
    have rl89 := Nat.le_refl (nx75)
    refine ov 4 (J73.v) ?_
    refine WO.nil ?_
    refine WP.region ?_
    refine ov 32 (.int .i64 (.ofNat (iL19 + 1))) ?_ (fun _ _ _ => by rw [← wrapAdd (show iL19 + 1 < 9223372036854775808 by omega)]; kernel_rfl)
    refine ov 14 (.int .i64 (.ofNat (iL19 + 1))) ?_
    refine WO.nil ?_
    refine ⟨K.l.length - (iL19 + 1), by omega, iL19 + 1, J73, by omega, by kernel_rfl, by kernel_rfl, by kernel_rfl, by kernel_rfl, by kernel_rfl, by kernel_rfl, rfl, rfl, ?_, ?_, ?_, ?_, ?_⟩
    · exact rl83
    · exact hr82
    · exact (hG79.mono hr88 rl89)
    · rw [hl76, hJl, List.take_add_one, hx39, List.map_append]; rfl
    · rw [hl76, List.length_append, hJn]; rfl
   ·
    refine WP.region ?_
    refine ov 19 (.map (some (nx + 1))) ?_
    refine ov 20 (.int .i64 (2)) ?_
    refine WO.cons (WC.opt (v := .tuple ⟨[.func (.func 53) #[] #[], .bool true]⟩) 21 (eLookup ex.T hp21.get 109 (.map (some (nx + 1))) (.int .i64 2) true) (fun _ _ _ => by kernel_rfl) ((eLookup_at hb29).trans (look2 (nx + 1))) ?_)
    refine ov 18 (.tuple ⟨[.func (.func 53) #[] #[], .bool true]⟩) ?_
    refine ov 22 (.func (.func 53) #[] #[]) ?_
    refine ov 23 (.bool true) ?_
    refine ov 9 (.func (.func 53) #[] #[]) ?_
    refine ov 10 (.bool true) ?_
    refine WO.nil ?_
    refine sr ?_
    refine ov 24 (.bool true) ?_
    refine WO.nil ?_
    refine WP.cond true (by kernel_rfl) (fun h90 => ?_) (fun h90 => by cases h90)
    refine WP.region ?_
    refine ov 25 (.func (.func 53) #[] #[]) ?_
    refine WO.cons (WC.loadS nx (0) (encStarter r) (by kernel_rfl) T_agg23 T_size23 hb27 rfl ?_)
    refine WO.cons (WC.call 27 53 ([.agg (encStarter r).toArray]) (fun _ _ _ => by kernel_rfl) ((crit2_wf r hp21 (nx22)).mono ?_))
    rintro _ hp91 nx92 ⟨rfl, hn93, he94⟩
    have hr100 := hr32.trans he94 rl33
    have rl101 := Nat.le_trans rl33 hn93
    have hr102 := he25.trans he94 hn24
    have rl103 := Nat.le_trans hn24 hn93
    refine ov 8 (.int .i64 (r.fAge)) ?_
    refine WO.nil ?_
    refine WP.region ?_
    refine ov 28 (J.v) ?_
    refine ov 29 (.int .i64 (r.fAge)) ?_
    refine WO.cons (WC.buildSlice [.int .i64 (r.fAge)] rfl (by kernel_rfl) ?_)
    obtain ⟨hp105, hx106, he107, hb108⟩ := boxed hp91 (nx92) [.int .i64 (r.fAge)]
    rw [hx106]; clear hx106
    have hr114 := hr100.trans he107 rl101
    have rl115 := Nat.le_trans rl101 (Nat.le_succ (nx92))
    have hr116 := hr102.trans he107 rl103
    have rl117 := Nat.le_trans rl103 (Nat.le_succ (nx92))
    obtain ⟨inf120, hinf121, hby122⟩ := infoI
    refine WO.cons (WC.append1L (enc := encI) (J := J) (r.fAge) rfl (by kernel_rfl) (by kernel_rfl) (hG.mono hr114 rl115) (intFlat _) hb108 rfl T_und29 T_size3 T_zero3 hinf121 rfl rfl (by decide) (by rw [hby122]; omega) (by omega) (by omega) (by omega) rfl ?_)
    rintro J123 hp124 nx125 hl126 hn127 he128 hG129
    have hr132 := hr116.trans he128 (Nat.le_refl _)
    have rl133 := Nat.le_trans rl117 hn127
    have hr138 := HE.refl (nx125) hp124
    have rl139 := Nat.le_refl (nx125)
    refine ov 4 (J123.v) ?_
    refine WO.nil ?_
    refine WP.region ?_
    refine ov 32 (.int .i64 (.ofNat (iL19 + 1))) ?_ (fun _ _ _ => by rw [← wrapAdd (show iL19 + 1 < 9223372036854775808 by omega)]; kernel_rfl)
    refine ov 14 (.int .i64 (.ofNat (iL19 + 1))) ?_
    refine WO.nil ?_
    refine ⟨K.l.length - (iL19 + 1), by omega, iL19 + 1, J123, by omega, by kernel_rfl, by kernel_rfl, by kernel_rfl, by kernel_rfl, by kernel_rfl, by kernel_rfl, rfl, rfl, ?_, ?_, ?_, ?_, ?_⟩
    · exact rl133
    · exact hr132
    · exact (hG129.mono hr138 rl139)
    · rw [hl126, hJl, List.take_add_one, hx39, List.map_append]; rfl
    · rw [hl126, List.length_append, hJn]; rfl
   ·
    refine WP.region ?_
    refine ov 19 (.map (some (nx + 1))) ?_
    refine ov 20 (.int .i64 (3)) ?_
    refine WO.cons (WC.opt (v := .tuple ⟨[.func (.func 54) #[] #[], .bool true]⟩) 21 (eLookup ex.T hp21.get 109 (.map (some (nx + 1))) (.int .i64 3) true) (fun _ _ _ => by kernel_rfl) ((eLookup_at hb29).trans (look3 (nx + 1))) ?_)
    refine ov 18 (.tuple ⟨[.func (.func 54) #[] #[], .bool true]⟩) ?_
    refine ov 22 (.func (.func 54) #[] #[]) ?_
    refine ov 23 (.bool true) ?_
    refine ov 9 (.func (.func 54) #[] #[]) ?_
    refine ov 10 (.bool true) ?_
    refine WO.nil ?_
    refine sr ?_
    refine ov 24 (.bool true) ?_
    refine WO.nil ?_
    refine WP.cond true (by kernel_rfl) (fun h140 => ?_) (fun h140 => by cases h140)
    refine WP.region ?_
    refine ov 25 (.func (.func 54) #[] #[]) ?_
    refine WO.cons (WC.loadS nx (0) (encStarter r) (by kernel_rfl) T_agg23 T_size23 hb27 rfl ?_)
    refine WO.cons (WC.call 27 54 ([.agg (encStarter r).toArray]) (fun _ _ _ => by kernel_rfl) ((crit3_wf r hp21 (nx22)).mono ?_))
    rintro _ hp141 nx142 ⟨rfl, hn143, he144⟩
    have hr150 := hr32.trans he144 rl33
    have rl151 := Nat.le_trans rl33 hn143
    have hr152 := he25.trans he144 hn24
    have rl153 := Nat.le_trans hn24 hn143
    refine ov 8 (.int .i64 (wrapE .i64 (0 - r.fWave))) ?_
    refine WO.nil ?_
    refine WP.region ?_
    refine ov 28 (J.v) ?_
    refine ov 29 (.int .i64 (wrapE .i64 (0 - r.fWave))) ?_
    refine WO.cons (WC.buildSlice [.int .i64 (wrapE .i64 (0 - r.fWave))] rfl (by kernel_rfl) ?_)
    obtain ⟨hp155, hx156, he157, hb158⟩ := boxed hp141 (nx142) [.int .i64 (wrapE .i64 (0 - r.fWave))]
    rw [hx156]; clear hx156
    have hr164 := hr150.trans he157 rl151
    have rl165 := Nat.le_trans rl151 (Nat.le_succ (nx142))
    have hr166 := hr152.trans he157 rl153
    have rl167 := Nat.le_trans rl153 (Nat.le_succ (nx142))
    obtain ⟨inf170, hinf171, hby172⟩ := infoI
    refine WO.cons (WC.append1L (enc := encI) (J := J) (wrapE .i64 (0 - r.fWave)) rfl (by kernel_rfl) (by kernel_rfl) (hG.mono hr164 rl165) (intFlat _) hb158 rfl T_und29 T_size3 T_zero3 hinf171 rfl rfl (by decide) (by rw [hby172]; omega) (by omega) (by omega) (by omega) rfl ?_)
    rintro J173 hp174 nx175 hl176 hn177 he178 hG179
    have hr182 := hr166.trans he178 (Nat.le_refl _)
    have rl183 := Nat.le_trans rl167 hn177
    have hr188 := HE.refl (nx175) hp174
    have rl189 := Nat.le_refl (nx175)
    refine ov 4 (J173.v) ?_
    refine WO.nil ?_
    refine WP.region ?_
    refine ov 32 (.int .i64 (.ofNat (iL19 + 1))) ?_ (fun _ _ _ => by rw [← wrapAdd (show iL19 + 1 < 9223372036854775808 by omega)]; kernel_rfl)
    refine ov 14 (.int .i64 (.ofNat (iL19 + 1))) ?_
    refine WO.nil ?_
    refine ⟨K.l.length - (iL19 + 1), by omega, iL19 + 1, J173, by omega, by kernel_rfl, by kernel_rfl, by kernel_rfl, by kernel_rfl, by kernel_rfl, by kernel_rfl, rfl, rfl, ?_, ?_, ?_, ?_, ?_⟩
    · exact rl183
    · exact hr182
    · exact (hG179.mono hr188 rl189)
    · rw [hl176, hJl, List.take_add_one, hx39, List.map_append]; rfl
    · rw [hl176, List.length_append, hJn]; rfl
   ·
    refine WP.region ?_
    refine ov 19 (.map (some (nx + 1))) ?_
    refine ov 20 (.int .i64 (4)) ?_
    refine WO.cons (WC.opt (v := .tuple ⟨[.func (.func 55) #[] #[], .bool true]⟩) 21 (eLookup ex.T hp21.get 109 (.map (some (nx + 1))) (.int .i64 4) true) (fun _ _ _ => by kernel_rfl) ((eLookup_at hb29).trans (look4 (nx + 1))) ?_)
    refine ov 18 (.tuple ⟨[.func (.func 55) #[] #[], .bool true]⟩) ?_
    refine ov 22 (.func (.func 55) #[] #[]) ?_
    refine ov 23 (.bool true) ?_
    refine ov 9 (.func (.func 55) #[] #[]) ?_
    refine ov 10 (.bool true) ?_
    refine WO.nil ?_
    refine sr ?_
    refine ov 24 (.bool true) ?_
    refine WO.nil ?_
    refine WP.cond true (by kernel_rfl) (fun h190 => ?_) (fun h190 => by cases h190)
    refine WP.region ?_
    refine ov 25 (.func (.func 55) #[] #[]) ?_
    refine WO.cons (WC.loadS nx (0) (encStarter r) (by kernel_rfl) T_agg23 T_size23 hb27 rfl ?_)
    refine WO.cons (WC.call 27 55 ([.agg (encStarter r).toArray]) (fun _ _ _ => by kernel_rfl) ((crit4_wf r hp21 (nx22)).mono ?_))
    rintro _ hp191 nx192 ⟨rfl, hn193, he194⟩
    have hr200 := hr32.trans he194 rl33
    have rl201 := Nat.le_trans rl33 hn193
    have hr202 := he25.trans he194 hn24
    have rl203 := Nat.le_trans hn24 hn193
    refine ov 8 (.int .i64 (r.fBib)) ?_
    refine WO.nil ?_
    refine WP.region ?_
    refine ov 28 (J.v) ?_
    refine ov 29 (.int .i64 (r.fBib)) ?_
    refine WO.cons (WC.buildSlice [.int .i64 (r.fBib)] rfl (by kernel_rfl) ?_)
    obtain ⟨hp205, hx206, he207, hb208⟩ := boxed hp191 (nx192) [.int .i64 (r.fBib)]
    rw [hx206]; clear hx206
    have hr214 := hr200.trans he207 rl201
    have rl215 := Nat.le_trans rl201 (Nat.le_succ (nx192))
    have hr216 := hr202.trans he207 rl203
    have rl217 := Nat.le_trans rl203 (Nat.le_succ (nx192))
    obtain ⟨inf220, hinf221, hby222⟩ := infoI
    refine WO.cons (WC.append1L (enc := encI) (J := J) (r.fBib) rfl (by kernel_rfl) (by kernel_rfl) (hG.mono hr214 rl215) (intFlat _) hb208 rfl T_und29 T_size3 T_zero3 hinf221 rfl rfl (by decide) (by rw [hby222]; omega) (by omega) (by omega) (by omega) rfl ?_)
    rintro J223 hp224 nx225 hl226 hn227 he228 hG229
    have hr232 := hr216.trans he228 (Nat.le_refl _)
    have rl233 := Nat.le_trans rl217 hn227
    have hr238 := HE.refl (nx225) hp224
    have rl239 := Nat.le_refl (nx225)
    refine ov 4 (J223.v) ?_
    refine WO.nil ?_
    refine WP.region ?_
    refine ov 32 (.int .i64 (.ofNat (iL19 + 1))) ?_ (fun _ _ _ => by rw [← wrapAdd (show iL19 + 1 < 9223372036854775808 by omega)]; kernel_rfl)
    refine ov 14 (.int .i64 (.ofNat (iL19 + 1))) ?_
    refine WO.nil ?_
    refine ⟨K.l.length - (iL19 + 1), by omega, iL19 + 1, J223, by omega, by kernel_rfl, by kernel_rfl, by kernel_rfl, by kernel_rfl, by kernel_rfl, by kernel_rfl, rfl, rfl, ?_, ?_, ?_, ?_, ?_⟩
    · exact rl233
    · exact hr232
    · exact (hG229.mono hr238 rl239)
    · rw [hl226, hJl, List.take_add_one, hx39, List.map_append]; rfl
    · rw [hl226, List.length_append, hJn]; rfl
   ·
    refine WP.region ?_
    refine ov 19 (.map (some (nx + 1))) ?_
    refine ov 20 (.int .i64 (5)) ?_
    refine WO.cons (WC.opt (v := .tuple ⟨[.func (.func 56) #[] #[], .bool true]⟩) 21 (eLookup ex.T hp21.get 109 (.map (some (nx + 1))) (.int .i64 5) true) (fun _ _ _ => by kernel_rfl) ((eLookup_at hb29).trans (look5 (nx + 1))) ?_)
    refine ov 18 (.tuple ⟨[.func (.func 56) #[] #[], .bool true]⟩) ?_
    refine ov 22 (.func (.func 56) #[] #[]) ?_
    refine ov 23 (.bool true) ?_
    refine ov 9 (.func (.func 56) #[] #[]) ?_
    refine ov 10 (.bool true) ?_
    refine WO.nil ?_
    refine sr ?_
    refine ov 24 (.bool true) ?_
    refine WO.nil ?_
    refine WP.cond true (by kernel_rfl) (fun h240 => ?_) (fun h240 => by cases h240)
    refine WP.region ?_
    refine ov 25 (.func (.func 56) #[] #[]) ?_
    refine WO.cons (WC.loadS nx (0) (encStarter r) (by kernel_rfl) T_agg23 T_size23 hb27 rfl ?_)
    refine WO.cons (WC.call 27 56 ([.agg (encStarter r).toArray]) (fun _ _ _ => by kernel_rfl) ((crit5_wf r hp21 (nx22)).mono ?_))
    rintro _ hp241 nx242 ⟨rfl, hn243, he244⟩
    have hr250 := hr32.trans he244 rl33
    have rl251 := Nat.le_trans rl33 hn243
    have hr252 := he25.trans he244 hn24
    have rl253 := Nat.le_trans hn24 hn243
    refine ov 8 (.int .i64 (r.fLot)) ?_
    refine WO.nil ?_
    refine WP.region ?_
    refine ov 28 (J.v) ?_
    refine ov 29 (.int .i64 (r.fLot)) ?_
    refine WO.cons (WC.buildSlice [.int .i64 (r.fLot)] rfl (by kernel_rfl) ?_)
    obtain ⟨hp255, hx256, he257, hb258⟩ := boxed hp241 (nx242) [.int .i64 (r.fLot)]
    rw [hx256]; clear hx256
    have hr264 := hr250.trans he257 rl251
    have rl265 := Nat.le_trans rl251 (Nat.le_succ (nx242))
    have hr266 := hr252.trans he257 rl253
    have rl267 := Nat.le_trans rl253 (Nat.le_succ (nx242))
    obtain ⟨inf270, hinf271, hby272⟩ := infoI
    refine WO.cons (WC.append1L (enc := encI) (J := J) (r.fLot) rfl (by kernel_rfl) (by kernel_rfl) (hG.mono hr264 rl265) (intFlat _) hb258 rfl T_und29 T_size3 T_zero3 hinf271 rfl rfl (by decide) (by rw [hby272]; omega) (by omega) (by omega) (by omega) rfl ?_)
    rintro J273 hp274 nx275 hl276 hn277 he278 hG279
    have hr282 := hr266.trans he278 (Nat.le_refl _)
    have rl283 := Nat.le_trans rl267 hn277
    have hr288 := HE.refl (nx275) hp274
    have rl289 := Nat.le_refl (nx275)
    refine ov 4 (J273.v) ?_
    refine WO.nil ?_
    refine WP.region ?_
    refine ov 32 (.int .i64 (.ofNat (iL19 + 1))) ?_ (fun _ _ _ => by rw [← wrapAdd (show iL19 + 1 < 9223372036854775808 by omega)]; kernel_rfl)
    refine ov 14 (.int .i64 (.ofNat (iL19 + 1))) ?_
    refine WO.nil ?_
    refine ⟨K.l.length - (iL19 + 1), by omega, iL19 + 1, J273, by omega, by kernel_rfl, by kernel_rfl, by kernel_rfl, by kernel_rfl, by kernel_rfl, by kernel_rfl, rfl, rfl, ?_, ?_, ?_, ?_, ?_⟩
    · exact rl283
    · exact hr282
    · exact (hG279.mono hr288 rl289)
    · rw [hl276, hJl, List.take_add_one, hx39, List.map_append]; rfl
    · rw [hl276, List.length_append, hJn]; rfl
   ·
    refine WP.region ?_
    refine ov 19 (.map (some (nx + 1))) ?_
    refine ov 20 (.int .i64 (x38)) ?_
    refine WO.cons (WC.opt (v := .tuple ⟨[.nilFunc, .bool false]⟩) 21 (eLookup ex.T hp21.get 109 (.map (some (nx + 1))) (.int .i64 x38) true) (fun _ _ _ => by kernel_rfl) ((eLookup_at hb29).trans (look_none (nx + 1) x38 k1 k2 k3 k4 k5)) ?_)
    refine ov 18 (.tuple ⟨[.nilFunc, .bool false]⟩) ?_
    refine ov 22 (.nilFunc) ?_
    refine ov 23 (.bool false) ?_
    refine ov 9 (.nilFunc) ?_
    refine ov 10 (.bool false) ?_
    refine WO.nil ?_
    refine sr ?_
    refine ov 24 (.bool false) ?_
    refine WO.nil ?_
    refine WP.cond false (by kernel_rfl) (fun h290 => by cases h290) (fun h290 => ?_)
    refine WP.skip ?_
    refine WP.region ?_
    refine ov 28 (J.v) ?_
    refine ov 29 (.int .i64 (0)) ?_
    refine WO.cons (WC.buildSlice [.int .i64 (0)] rfl (by kernel_rfl) ?_)
    obtain ⟨hp291, hx292, he293, hb294⟩ := boxed hp21 (nx22) [.int .i64 (0)]
    rw [hx292]; clear hx292
    have hr300 := hr32.trans he293 rl33
    have rl301 := Nat.le_trans rl33 (Nat.le_succ (nx22))
    have hr302 := he25.trans he293 hn24
    have rl303 := Nat.le_trans hn24 (Nat.le_succ (nx22))
    obtain ⟨inf306, hinf307, hby308⟩ := infoI
    refine WO.cons (WC.append1L (enc := encI) (J := J) (0) rfl (by kernel_rfl) (by kernel_rfl) (hG.mono hr300 rl301) (intFlat _) hb294 rfl T_und29 T_size3 T_zero3 hinf307 rfl rfl (by decide) (by rw [hby308]; omega) (by omega) (by omega) (by omega) rfl ?_)
    rintro J309 hp310 nx311 hl312 hn313 he314 hG315
    have hr318 := hr302.trans he314 (Nat.le_refl _)
    have rl319 := Nat.le_trans rl303 hn313
    have hr324 := HE.refl (nx311) hp310
    have rl325 := Nat.le_refl (nx311)
    refine ov 4 (J309.v) ?_
    refine WO.nil ?_
    refine WP.region ?_
    refine ov 32 (.int .i64 (.ofNat (iL19 + 1))) ?_ (fun _ _ _ => by rw [← wrapAdd (show iL19 + 1 < 9223372036854775808 by omega)]; kernel_rfl)
    refine ov 14 (.int .i64 (.ofNat (iL19 + 1))) ?_
    refine WO.nil ?_
    refine ⟨K.l.length - (iL19 + 1), by omega, iL19 + 1, J309, by omega, by kernel_rfl, by kernel_rfl, by kernel_rfl, by kernel_rfl, by kernel_rfl, by kernel_rfl, rfl, rfl, ?_, ?_, ?_, ?_, ?_⟩
    · exact rl319
    · exact hr318
    · exact (hG315.mono hr324 rl325)
    · rw [hl312, hJl, List.take_add_one, hx39, List.map_append]; show _ ++ [(0 : Int)] = _ ++ [keyS r x38]; rw [keyS_none k1 k2 k3 k4 k5]
    · rw [hl312, List.length_append, hJn]; rfl
  ·
   have q36 := nq p34 h35
   refine WP.exit ?_
   refine sr ?_
   refine ov 33 (J.v) ?_
   refine ov 4 (J.v) ?_
   refine WO.nil ?_
   refine WP.ret ⟨rfl, rfl, [J.v], by kernel_rfl, ?_⟩
   have hi : iL19 = K.l.length := by omega
   exact ⟨J, rfl, by rw [hJl, hi, List.take_length], hG.ok (intFlat _) (by omega), le31, hE26⟩
 ·
  exact ⟨0, ⟨.slice none 0 0, []⟩, by omega, by kernel_rfl, by kernel_rfl, by kernel_rfl, by kernel_rfl, by kernel_rfl, by kernel_rfl, rfl, rfl, Nat.le_refl _, HE.refl _ _, GroA.nil, (by simp), rfl⟩
end
end Sw
