/- A part of the proof that the law returns true for every input that its row speaks of. No condition is added. -/
import Derived.ProofKit
import Derived.Carry
import Derived.ChangeSlices
import Derived.LaidLaws
import Derived.Handed
import Derived.Test.YtcocjehgbbmpgaaGreatDoorSwAH
import Derived.Test.YtcocjehgbbmpgaaGreatDoorSwAE
namespace Sw
noncomputable section
open Go Go.RowKit Go.ChangeShapes
section
variable {H : Type} {enc : TypeId × Value → H} {P : Program}
theorem trodAll_stays (hl : laidOutB P = true) {W W' : World} (hb : Below W.heap.size W W') : ∀ {ts : List TypeId} {vs : List Value} {ds : List (DataW H)} {ps : List MemPlace}, (∀ t ∈ ts, P.readableRec t = true ∧ t < P.types.size) →
    DataW.TrodAll enc P W 0 (fun _ => true) true ts vs ds ps → (∀ x ∈ ps, x.block < W.heap.size) → DataW.TrodAll enc P W' 0 (fun b => decide (b < W.heap.size)) true ts vs ds ps
  | [], [], [], _, _, h, _ => h
  | t :: ts, v :: vs, d :: ds, _, hr, h, hlt => by
    obtain ⟨p, q, h1, h2, rfl⟩ := h
    obtain ⟨r1, r2⟩ := hr t (List.mem_cons_self ..)
    exact ⟨p, q, Below.trod hl r1 r2 h1 hb (fun x hx => hlt x (List.mem_append_left _ hx)), trodAll_stays hl hb (fun t ht => hr t (List.mem_cons_of_mem _ ht)) h2 (fun x hx => hlt x (List.mem_append_right _ hx)), rfl⟩
  | [], _ :: _, _, _, _, h, _ => h.elim
  | [], [], _ :: _, _, _, h, _ => h.elim
  | _ :: _, [], _, _, _, h, _ => h.elim
  | _ :: _, _ :: _, [], _, _, h, _ => h.elim
theorem post_true {f : Func} {s : ChangeSpec} {apart fresh handsOn : Bool} {W W' : World} {args : Array Value} {ds gs : List (DataW H)} {before : List MemPlace} {t : TypeId} (hl : laidOutB P = true)
    (hW : DataW.Whole enc P f.params.toList s.vars apart W args.toList ds gs before) (hv : s.vars = []) (hs : s.fn H (ds ++ gs) = { results := [.lit (.bool true)], args := ds }) (hr : f.resultTypes = #[t]) (hu : P.underlying t = some .bool)
    (hp : ∀ t ∈ f.params.toList, P.readableRec t = true ∧ t < P.types.size) (hb : Below W.heap.size W W') : s.post enc P f apart fresh handsOn false W args (.bool true) W' := by
  have hW' := hW
  obtain ⟨p, q, hA, hV, rfl, _, _⟩ := hW
  refine ⟨ds, gs, p ++ q, [], p, [], hW', ?_, ?_, ?_, ?_, fun h => by cases h⟩
  · rw [hs, hr]
    exact trodAll_mk1 (shut_bool hu true)
  · rw [hs]
    exact trodAll_stays hl hb hp hA (fun x hx => hW'.lt x (List.mem_append_left _ hx))
  · rw [hs, hv]; rfl
  · exact hb.frame _
theorem weightsEach_more {us : List TypeId} {gs : List (DataW H)} : ∀ {ts : List TypeId} {ds : List (DataW H)} {k : Nat}, k ∈ DataW.weightsEach P ts ds → k ∈ DataW.weightsEach P (ts ++ us) (ds ++ gs)
  | [], _, _, h => by simp [DataW.weightsEach] at h
  | _ :: _, [], _, h => by simp [DataW.weightsEach] at h
  | t :: ts, d :: ds, k, h => by
    simp only [List.cons_append, DataW.weightsEach] at h ⊢
    rcases List.mem_append.1 h with h | h
    · exact List.mem_append_left _ h
    · exact List.mem_append_right _ (weightsEach_more h)
theorem returns_true {C : Checked} {os : Os} {f : FuncId} {fn : Func} {s : ChangeSpec} {apart fresh handsOn : Bool} {X : World → Array Value → Prop} {t : TypeId}
    (hX : ∀ (w w' : World) (args : Array Value), w.heap = w'.heap → X w args → X w' args)
    (own : ownKnob C.prog.godebug = none) (started : os.Started) (noInit : C.prog.inits.idxOf? f = none) (hfn : C.prog.funcs[f]? = some fn)
    (witness : ∃ (w : World) (tape : Tape) (i : Input), w.os = os ∧ (w.forCall tape i).Shaped C.prog ∧ i.vars = [] ∧ Input.okWide C.prog (w.forCall tape i) .any w.heap.size f i ∧
      ((s.pre enc C.prog fn [] apart (w.forCall tape i).memory i.args ∧ X (w.forCall tape i).memory i.args) ∧ sizedMet enc C.prog fn (OpenSpec.ofChange s) apart (w.forCall tape i).memory i.args) ∧ ({} : Assume).holds C.prog (lone (Frame.enter C.prog f i.args .normal) [] (w.forCall tape i)))
    (hl : laidOutB C.prog = true) (hv : s.vars = []) (hr : fn.resultTypes = #[t]) (hu : C.prog.underlying t = some .bool) (hp : ∀ t ∈ fn.params.toList, C.prog.readableRec t = true ∧ t < C.prog.types.size)
    (contract : ∀ (W : World) (base : Nat) (args : Array Value) (ds gs : List (DataW H)) (before p : List MemPlace),
      (∀ (j : Nat) t v, fn.params[j]? = some t → args[j]? = some v → Value.okWide C.prog W .any base t v) →
      DataW.TrodAll enc C.prog W 0 (fun _ => true) true fn.params.toList args.toList ds p → (∀ k ∈ DataW.weightsEach C.prog fn.params.toList ds, k ≤ reachBytes) → gs = [] →
      X W args → W.ShapedOpen C.prog →
      s.fn H (ds ++ gs) = { results := [.lit (.bool true)], args := ds } ∧ Calls C.prog f args W fun e W' => e = .returned (.bool true) ∧ Below W.heap.size W W') :
    ReturnsInHanded {} C os f .any (fun w args => (s.pre enc C.prog fn [] apart w args ∧ X w args) ∧ sizedMet enc C.prog fn (OpenSpec.ofChange s) apart w args) (s.post enc C.prog fn apart fresh handsOn false) := by
  refine returnsInHanded_of_calls own started noInit witness ?_
  intro w tape i _ hsh _ hok hpre _
  obtain ⟨_, _, _, fn', hfn', _, _, _, _, hval⟩ := hok
  have e : fn' = fn := Option.some.inj (hfn'.symm.trans hfn)
  subst e
  obtain ⟨⟨⟨ds, gs, before, hw, hc⟩, hx⟩, hz⟩ := hpre
  have hw' := DataW.Whole.of_heap (w' := w.forCall tape i) (by rfl) hw
  have hw2 := hw'
  obtain ⟨p, q, hA, hV, _, _, _⟩ := hw2
  have hgs : gs = [] := by
    rw [hv] at hV
    cases gs with
    | nil => rfl
    | cons a b => exact hV.elim
  obtain ⟨hs, hcalls⟩ := contract (w.forCall tape i) w.heap.size i.args ds gs before p hval hA (fun k hk => of_decide_eq_true (List.all_eq_true.1 (sizedMet.weights hz hw) k (weightsEach_more hk))) hgs (hX _ _ _ (by rfl) hx) hsh
  refine hcalls.mono fun e W' ⟨he, hb⟩ => ?_
  subst he
  exact ChangeSpec.post_blind (post_true hl hw' hv hs hr hu hp hb)
end
end
end Sw

namespace Sw
noncomputable section
open Go Go.RowKit Go.ChangeShapes
section
variable {P : Program} {hp : Ht} {nx : Nat}
def structTys (P : Program) (t : TypeId) : Option (List TypeId) := match P.underlying t with
  | some (.struct fs) => some (fs.toList.map (·.type))
  | _ => none
def RpAll (P : Program) (hp : Ht) (nx n : Nat) : List TypeId → List (List Value) → Prop
  | [], [] => True
  | t :: ts, l :: ls => Rp P hp nx n t l ∧ RpAll P hp nx n ts ls
  | _, _ => False
theorem RpAll.of {n : Nat} : ∀ (ts : List TypeId) (lss : List (List Value)), lss.length = ts.length → (∀ (i : Nat) (t : TypeId) (l : List Value), ts[i]? = some t → lss[i]? = some l → Rp P hp nx n t l) → RpAll P hp nx n ts lss
  | [], [], _, _ => trivial
  | t :: ts, l :: ls, h, k => ⟨k 0 t l rfl rfl, RpAll.of ts ls (by simpa using h) fun i t' l' a b => k (i + 1) t' l' a b⟩
  | [], _ :: _, h, _ => by simp at h
  | _ :: _, [], h, _ => by simp at h
theorem Rp.fields {k : Nat} {t : TypeId} {ls : List Value} {ts : List TypeId} (hu : structTys P t = some ts) (h : Rp P hp nx k t ls) : ∃ n lss, ls = lss.flatten ∧ RpAll P hp nx n ts lss := by
  cases k with
  | zero => exact h.elim
  | succ n =>
    unfold structTys at hu
    unfold Rp at h
    split at hu
    · rename_i fs e
      cases hu
      rw [e] at h
      obtain ⟨lss, h1, h2, h3⟩ := h
      refine ⟨n, lss, h1, RpAll.of _ _ (by simpa using h2) fun i t l a b => ?_⟩
      rw [List.getElem?_map, Array.getElem?_toList, Option.map_eq_some_iff] at a
      obtain ⟨f, hf, rfl⟩ := a
      exact (h3 i f l hf b).1
    · cases hu
theorem Rp.int {k : Nat} {t : TypeId} {ls : List Value} {ik : IntKind} (hu : P.underlying t = some (.int ik)) (h : Rp P hp nx k t ls) : ∃ z : Int, ls = [.int ik z] ∧ (Lit.int ik z).wf = true := by
  cases k with
  | zero => exact h.elim
  | succ n => unfold Rp at h; rw [hu] at h; exact h
theorem Rp.bool {k : Nat} {t : TypeId} {ls : List Value} (hu : P.underlying t = some .bool) (h : Rp P hp nx k t ls) : ∃ b : Bool, ls = [.bool b] := by
  cases k with
  | zero => exact h.elim
  | succ n => unfold Rp at h; rw [hu] at h; exact h
theorem Rp.string {k : Nat} {t : TypeId} {ls : List Value} (hu : P.underlying t = some .string) (h : Rp P hp nx k t ls) : ∃ s : ByteArray, ls = [.string s] ∧ s.size ≤ reachBytes := by
  cases k with
  | zero => exact h.elim
  | succ n => unfold Rp at h; rw [hu] at h; exact h
theorem each_enc {α : Type} {enc : α → List Value} {E : α → Prop} : ∀ (lss : List (List Value)), (∀ l ∈ lss, ∃ x, l = enc x ∧ E x) → ∃ xs : List α, lss = xs.map enc ∧ ∀ x ∈ xs, E x
  | [], _ => ⟨[], rfl, fun x h => by cases h⟩
  | l :: lss, h => by
    obtain ⟨x, rfl, hx⟩ := h l (List.mem_cons_self ..)
    obtain ⟨xs, rfl, hxs⟩ := each_enc lss fun l hl => h l (List.mem_cons_of_mem _ hl)
    exact ⟨x :: xs, rfl, fun y hy => by
      rcases List.mem_cons.1 hy with rfl | hy
      · exact hx
      · exact hxs y hy⟩
theorem Rp.slice {α : Type} {enc : α → List Value} {m : Nat} {E : Ht → Nat → α → Prop} {k : Nat} {t e : TypeId} {ls : List Value} (hu : P.underlying t = some (.slice e)) (hlen : ∀ x, (enc x).length = m) (he : ∀ k l, Rp P hp nx k e l → ∃ x : α, l = enc x ∧ E hp nx x) (h : Rp P hp nx k t ls) :
    ∃ s : SV α, ls = [s.v] ∧ SlOk enc m E hp nx s := by
  cases k with
  | zero => exact h.elim
  | succ n =>
    unfold Rp at h; rw [hu] at h
    rcases h with rfl | rfl | ⟨b, len, cap, lss, rfl, h0, hlc, hcm, hb, hh, hl, hr⟩
    · exact ⟨⟨_, []⟩, rfl, ⟨fun x h => (by cases h), .inl ⟨rfl, .inl rfl⟩, by show (0 : Nat) < _; decide⟩, fun x h => (by cases h)⟩
    · exact ⟨⟨_, []⟩, rfl, ⟨fun x h => (by cases h), .inl ⟨rfl, .inr rfl⟩, by show (0 : Nat) < _; decide⟩, fun x h => (by cases h)⟩
    · obtain ⟨xs, rfl, hxs⟩ := each_enc lss fun l hl => he n l (hr l hl).1
      rw [List.length_map] at hl
      refine ⟨⟨_, xs⟩, rfl, ⟨fun x _ => hlen x, .inr ⟨b, cap, _, by rw [← hl], h0, hb, by rw [hh, List.flatMap_def]⟩, ?_⟩, hxs⟩
      have : reachBytes < 281474976710656 := by decide
      have := hcm.1
      show xs.length < _
      omega
theorem Rp.slice1 {α : Type} {enc : α → List Value} {m : Nat} {k : Nat} {t e : TypeId} {ls : List Value} (hu : P.underlying t = some (.slice e)) (hlen : ∀ x, (enc x).length = m) (he : ∀ k l, Rp P hp nx k e l → ∃ x : α, l = enc x) (h : Rp P hp nx k t ls) :
    ∃ s : SV α, ls = [s.v] ∧ SOk enc m hp nx s := by
  obtain ⟨s, h1, h2⟩ := Rp.slice (E := fun _ _ _ => True) hu hlen (fun k l h => by obtain ⟨x, hx⟩ := he k l h; exact ⟨x, hx, trivial⟩) h
  exact ⟨s, h1, h2.1⟩
end
theorem mtB_keep {hp hp' : Ht} (h : ∀ b o, hp.get b = some o → hp'.get b = some o) : ∀ (tbs : List TB) (A : Assoc) {A1 : Assoc}, mtB hp false tbs A = some A1 → mtB hp' false tbs A = some A1
  | [], A, A1, k => k
  | tb :: tbs, A, A1, k => by
    unfold mtB at k ⊢
    cases hl : look tb.num A with
    | none => rw [hl] at k; cases k
    | some b =>
      rw [hl] at k
      simp only at k ⊢
      cases hb : hp.get b with
      | none => rw [hb] at k; cases k
      | some o =>
        rw [hb] at k
        rw [h b o hb]
        cases o with
        | cells cs m =>
          simp only at k ⊢
          cases hg : grpOk m tb && (!false || !m.ro) with
          | false => rw [hg] at k; cases k
          | true =>
            rw [hg] at k
            simp only [cond_true] at k ⊢
            cases hm : mtL (mtV 8) cs tb.cs A with
            | none => rw [hm] at k; cases k
            | some A2 => rw [hm] at k; exact mtB_keep h tbs A2 k
        | _ => cases k
def useOk (ng : Nat) (tbs : List TB) : Bool := match mtB (lay0 tbs .nil) false tbs (idA ng) with
  | some A1 => grpFree A1 tbs && keysLt ng A1
  | none => false
theorem use_plain {ng : Nat} {tbs : List TB} (hk : useOk ng tbs = true) {hp : Ht} {nx : Nat} (h : ∀ b o, (lay0 tbs .nil).get b = some o → hp.get b = some o) : useTs ng [⟨[], tbs, ng, .bool true, [], 0⟩] [] hp nx = some (.bool true, hp, nx) := by
  unfold useOk at hk
  split at hk
  · rename_i A1 e
    rw [Bool.and_eq_true] at hk
    have e2 := mtB_keep h tbs (idA ng) e
    have : useT ng ⟨[], tbs, ng, .bool true, [], 0⟩ [] hp nx = some (.bool true, hp, nx) := by
      unfold useT
      simp only [mtL, e2, hk.1, hk.2, Bool.and_self, cond_true]
      rfl
    simp only [useTs, this]
  · cases hk
theorem sane_wf {e : Env} {ng : Nat} {tbs : List TB} {f : FuncId} (hK : e.K f = some (kOfT ng [⟨[], tbs, ng, .bool true, [], 0⟩])) (hk : useOk ng tbs = true) {hp : Ht} {nx : Nat} (h : ∀ b o, (lay0 tbs .nil).get b = some o → hp.get b = some o) : WF e f [] hp nx (Stays nx hp (BoolIs True)) :=
  .tmpl hK (use_plain hk h) ⟨⟨true, rfl, fun _ => trivial, fun _ => rfl⟩, Nat.le_refl _, HE.refl _ _⟩
theorem CallLands.of_calls {P : Program} {B0 : Nat} {w0 : World} {g : Gm} {hp : Ht} {nx : Nat} {w : World} {f : FuncId} {args : Array Value} {v v' : Value} (H : HRel B0 w0 g hp.get nx w) (hv : VRel g v v') (h : Calls P f args w fun e w' => e = .returned v' ∧ w' = w) :
    CallLands P B0 w0 .normal g nx f args w v hp nx := by
  refine ⟨v', w, g, H, hv, Ext.refl _ _ _, fun cs => ?_⟩
  obtain ⟨e, w', fr, ⟨rfl, rfl⟩, st, hf, h1, h2, h3, h4⟩ := h cs
  exact ⟨fr, st, h1, h2, h3, hf, h4⟩
theorem below_cell {B0 : Nat} {w0 w : World} (h : Below B0 w0 w) {b o : Nat} (hb : b < B0) : w.cell? ⟨b, o, none⟩ = w0.cell? ⟨b, o, none⟩ := by
  unfold World.cell?
  simp only [h.block b hb]
theorem WF.callsTrue {P : Program} {ng B0 : Nat} {w0 : World} {e : Env} {g : Gm} {hp : Ht} {nx : Nat} {w : World} (ok : EnvOk P ng e) (kok : KOk P ng B0 w0 e) (H : HRel B0 w0 g hp.get nx w) (hg : GlobOk g ng) {f : FuncId} {l : List Value} {args : Array Value} (hl : LRel g l args.toList)
    (h : WF e f l hp nx (fun v _ _ => v = .bool true)) : Calls P f args w fun en w' => en = .returned (.bool true) ∧ Below B0 w0 w' := by
  obtain ⟨v, hp', nx', ⟨n0, h1⟩, rfl⟩ := h
  refine Sw.calls_true ok kok H hg hl n0 1 ?_
  simp only [explore, h1 n0 (Nat.le_refl _)]
  rfl
theorem BoolIs.isTrue {v : Value} (h : BoolIs True v) : v = .bool true := by
  obtain ⟨c, rfl, h⟩ := h
  rw [h.2 trivial]
theorem size_of_cell {w : World} {b o : Nat} {v : Value} (h : w.cell? ⟨b, o, none⟩ = some v) : b < w.heap.size := by
  unfold World.cell? at h
  simp only at h
  split at h
  · rename_i c el fz hh; exact (Array.getElem?_eq_some_iff.1 hh).1
  · cases h
theorem trodAll_len {H : Type} {enc : TypeId × Value → H} {P : Program} {w : World} {low : Nat} {spare : Nat → Bool} {held : Bool} : ∀ {ts : List TypeId} {vs : List Value} {ds : List (DataW H)} {ps : List MemPlace}, DataW.TrodAll enc P w low spare held ts vs ds ps → ds.length = ts.length
  | [], [], [], _, _ => rfl
  | _ :: _, _ :: _, _ :: _, _, h => by obtain ⟨_, _, _, h2, _⟩ := h; simp [trodAll_len h2]
  | [], _ :: _, _, _, h => h.elim
  | [], [], _ :: _, _, h => h.elim
  | _ :: _, [], _, _, h => h.elim
  | _ :: _, _ :: _, [], _, h => h.elim
theorem has_lt {m N t : Nat} (h : Nat.blt m (2 ^ N) = true) (hs : has m t = true) : t < N := by
  rcases Nat.lt_or_ge t N with h' | h'
  · exact h'
  · exfalso
    have : m < 2 ^ t := Nat.lt_of_lt_of_le (blt_iff.1 h) (Nat.pow_le_pow_right (by decide) h')
    unfold has at hs
    rw [Nat.testBit_lt_two_pow this] at hs; cases hs
theorem law_calls {H : Type} {enc : TypeId × Value → H} {P : Program} {ng : Nat} {e : Env} {S : TypeId → Bool} {tbs : List TB} {f : FuncId} {W : World} {base : Nat} {ts : List TypeId} {args : Array Value} {ds : List (DataW H)} {p : List MemPlace}
    (ok : EnvOk P ng e) (kok : KOk P ng W.heap.size W e) (hs : ng ≤ W.heap.size) (hn : numsOk 0 ng tbs = true) (hcb : tbs.all (tbPlain ng) = true) (hl : LaidAt tbs W) (hS : ∀ t, S t = true → openTy P S t = true)
    (hA : DataW.TrodAll enc P W 0 (fun _ => true) true ts args.toList ds p) (hwt : ∀ k ∈ DataW.weightsEach P ts ds, k ≤ reachBytes) (hval : ∀ (j : Nat) t v, ts[j]? = some t → args[j]? = some v → Value.okWide P W .any base t v) (hts : ∀ t ∈ ts, S t = true)
    (h : ∀ (hp : Ht) (nx : Nat) (lvs : List Value), ArgsRp P hp nx ts lvs → (∀ (hp' : Ht) (nx' : Nat), nx ≤ nx' → HE nx hp hp' → ∀ b o, (lay0 tbs .nil).get b = some o → hp'.get b = some o) → WF e f lvs hp nx (Stays nx hp (BoolIs True))) :
    Calls P f args W fun en W' => en = .returned (.bool true) ∧ Below W.heap.size W W' := by
  obtain ⟨H0, a0⟩ := startLaid hs hn hcb hl
  obtain ⟨g, hp, nx, lvs, H1, a1, e1, n1, he, r1, k1⟩ := open_args (B0 := W.heap.size) (w0 := W) hS ts args.toList ds p hA hwt (fun j t v a b => hval j t v a (by simpa using b)) hts (gLaid ng) (lay0 tbs .nil) ng H0 a0
  refine WF.callsTrue ok kok H1 ((globLaid ng).mono e1) r1 ((h hp nx lvs k1 fun hp' nx' hn' he' b o hb => ?_).mono fun v _ _ hv => hv.1.isTrue)
  have hlt : b < ng := (H0.live b o hb).1
  rw [he' b (by omega), he b hlt]; exact hb
end
end Sw
