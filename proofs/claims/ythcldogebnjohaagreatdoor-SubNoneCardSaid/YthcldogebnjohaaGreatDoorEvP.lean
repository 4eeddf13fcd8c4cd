/- The evaluator: a region whose order is drawn: what was looked at. -/
import Derived.Test.YthcldogebnjohaaGreatDoorEvN
section
set_option linter.unusedSectionVars false
namespace Go.Ev
open Go.RowKit (Below)
variable {P : Program} {σ σ' : Sg} {A A' : AW} {w w' : World} {N : Nat} {call : Caller} [Frozen P]
theorem tbit_eq (m i : Nat) : tbit m i = m.testBit i := by
  rw [Nat.testBit_eq_decide_div_mod_eq]
  unfold tbit
  have h1 : Nat.mod (Nat.div m (Nat.pow 2 i)) 2 = m / 2 ^ i % 2 := rfl
  rw [h1]
  rcases Nat.mod_two_eq_zero_or_one (m / 2 ^ i) with h | h <;> rw [h] <;> rfl
theorem maskOf_bit {ms : List Nat} {i : Nat} : ∀ {es : List Edge} {m : Nat}, tbit (maskOf ms es m) i = true → tbit m i = true ∨ ∃ e ∈ es, Region.binds .any e = true ∧ (e.on = i ∨ ∃ q, ms[e.on]? = some q ∧ tbit q i = true) := by
  intro es
  induction es with
  | nil => intro m h; exact .inl h
  | cons e es ih =>
    intro m h
    have h : tbit (Bool.rec (maskOf ms es m) (maskOf ms es (Nat.lor (Nat.lor m (Nat.pow 2 e.on)) ((lget ms e.on).getD 0))) (Region.binds .any e)) i = true := h
    cases hb : Region.binds .any e with
    | false =>
      rw [hb] at h
      rcases ih h with h | ⟨e', he, h1, h2⟩
      · exact .inl h
      · exact .inr ⟨e', by simp [he], h1, h2⟩
    | true =>
      rw [hb] at h
      rcases ih h with h | ⟨e', he, h1, h2⟩
      · rw [tbit_eq] at h
        have h : ((m ||| 2 ^ e.on) ||| (lget ms e.on).getD 0).testBit i = true := h
        rw [Nat.testBit_or, Nat.testBit_or, Nat.testBit_two_pow] at h
        simp only [Bool.or_eq_true, decide_eq_true_eq] at h
        rcases h with (h | h) | h
        · exact .inl (by rw [tbit_eq]; exact h)
        · exact .inr ⟨e, by simp, hb, .inl h⟩
        · refine .inr ⟨e, by simp, hb, .inr ?_⟩
          rw [lget_eq] at h
          cases hq : ms[e.on]? with
          | none => rw [hq] at h; simp at h
          | some q => rw [hq] at h; exact ⟨q, rfl, by rw [tbit_eq]; exact h⟩
      · exact .inr ⟨e', by simp [he], h1, h2⟩
def MaskOK (all : List Oper) (M : List Nat) : Prop := M.length = all.length ∧ ∀ (j : Nat) (o : Oper) (q : Nat), all[j]? = some o → M[j]? = some q → ∀ i, tbit q i = true → ∃ e ∈ o.after.toList, Region.binds .any e = true ∧ (e.on = i ∨ ∃ q', M[e.on]? = some q' ∧ tbit q' i = true)
theorem masks_ext : ∀ (os : List Oper) (ms : List Nat), ∃ tl, masks os ms = ms ++ tl ∧ tl.length = os.length ∧ ∀ (i : Nat) (o : Oper), os[i]? = some o → tl[i]? = some (maskOf (ms ++ tl.take i) o.after.toList 0) := by
  intro os
  induction os with
  | nil => intro ms; exact ⟨[], (List.append_nil ms).symm, rfl, fun i o h => by simp at h⟩
  | cons o os ih =>
    intro ms
    obtain ⟨tl, h1, h2, h3⟩ := ih (ms ++ [maskOf ms o.after.toList 0])
    refine ⟨maskOf ms o.after.toList 0 :: tl, ?_, by simp [h2], ?_⟩
    · show masks os (ms ++ [maskOf ms o.after.toList 0]) = _
      rw [h1]; simp
    · intro i o' ho
      cases i with
      | zero => simp at ho; subst ho; simp
      | succ i =>
        simp at ho
        have := h3 i o' ho
        simpa using this
theorem masks_ok (all : List Oper) : MaskOK all (masks all []) := by
  obtain ⟨tl, h1, h2, h3⟩ := masks_ext all []
  simp only [List.nil_append] at h1 h3
  rw [h1]
  refine ⟨h2, fun j o q ho hq i hi => ?_⟩
  have := h3 j o ho
  rw [hq] at this
  cases this
  rcases maskOf_bit hi with h | ⟨e, he, hb, h⟩
  · rw [tbit_eq] at h; simp at h
  · refine ⟨e, he, hb, h.imp id fun ⟨q, hq, ht⟩ => ⟨q, ?_, ht⟩⟩
    rw [List.getElem?_take] at hq
    split at hq
    · exact hq
    · cases hq
theorem closed_bit {all : List Oper} {M : List Nat} (hM : MaskOK all M) {L : Nat → Prop} (hlt : ∀ (j : Nat) (o : Oper), all[j]? = some o → ∀ e ∈ o.after.toList, Region.binds .any e = true → e.on < j)
    (hc : ∀ j, L j → ∀ o : Oper, all[j]? = some o → ∀ e ∈ o.after.toList, Region.binds .any e = true → L e.on) :
    ∀ (j : Nat) (o : Oper) (q : Nat), all[j]? = some o → M[j]? = some q → (∀ e ∈ o.after.toList, Region.binds .any e = true → L e.on) → ∀ i, tbit q i = true → L i := by
  intro j
  induction j using Nat.strongRecOn with
  | _ j ih =>
    intro o q ho hq hL i hi
    obtain ⟨e, he, hb, h⟩ := hM.2 j o q ho hq i hi
    rcases h with rfl | ⟨q', hq', hi'⟩
    · exact hL e he hb
    · have hlt' := hlt j o ho e he hb
      have hl : e.on < all.length := by
        have : e.on < M.length := (List.getElem?_eq_some_iff.1 hq').1
        rw [hM.1] at this; exact this
      have ho' : all[e.on]? = some all[e.on] := List.getElem?_eq_getElem hl
      exact ih e.on hlt' _ q' ho' hq' (hc e.on (hL e he hb) _ ho') i hi'
theorem andTrue {a b : Bool} : (a && b) = true ↔ a = true ∧ b = true := by cases a <;> cases b <;> simp
theorem recTrue {a b : Bool} : (Bool.rec false b a : Bool) = true ↔ a = true ∧ b = true := by cases a <;> simp
theorem impTrue {a b : Bool} : (Bool.rec true b a : Bool) = true ↔ (a = true → b = true) := by cases a <;> simp
theorem rowOk_get {all : List Oper} {y : Oper} {my : Nat} : ∀ {xs : List Oper} {i j : Nat}, rowOk P all y my xs i j = true → ∀ (k : Nat) (x : Oper), xs[k]? = some x → i + k < j → pairOk P all x y (i + k) my = true := by
  intro xs
  induction xs with
  | nil => intro i j _ k x h; simp at h
  | cons x0 xs ih =>
    intro i j h k x hx hlt
    have h : (Bool.rec true (Bool.rec false (rowOk P all y my xs (Nat.succ i) j) (pairOk P all x0 y i my)) (Nat.blt i j) : Bool) = true := h
    have hij : Nat.blt i j = true := blt_iff.2 (by omega)
    rw [hij] at h
    obtain ⟨h1, h2⟩ := recTrue.1 h
    cases k with
    | zero => simp at hx; subst hx; exact h1
    | succ k => simp at hx; have := ih h2 k x hx (by show i + 1 + k < j; omega); rw [show i + (k + 1) = Nat.succ i + k by show _ = i + 1 + k; omega]; exact this
structure RegOK (P : Program) [Frozen P] (all : List Oper) (M : List Nat) : Prop where
  nodefer : ∀ (j : Nat) (o : Oper), all[j]? = some o → notDefer o.op = true
  lt : ∀ (j : Nat) (o : Oper), all[j]? = some o → ∀ e ∈ o.after.toList, Region.binds .any e = true → e.on < j
  pair : ∀ (i j : Nat) (x y : Oper) (q : Nat), all[i]? = some x → all[j]? = some y → M[j]? = some q → i < j → (touch all x y || (loudB P x && loudB P y)) = true → tbit q i = true
theorem regOk_get {all : List Oper} : ∀ {ys : List Oper} {ms : List Nat} {j : Nat}, regOk P all ys ms j = true → ∀ (k : Nat) (y : Oper), ys[k]? = some y → ∃ m, ms[k]? = some m ∧ notDefer y.op = true ∧ edgesOk (j + k) y.after.toList = true ∧ rowOk P all y m all 0 (j + k) = true := by
  intro ys
  induction ys with
  | nil => intro ms j _ k y h; simp at h
  | cons y0 ys ih =>
    intro ms j h k y hy
    cases ms with
    | nil => cases h
    | cons m ms =>
      have h : (Bool.rec false (regOk P all ys ms (Nat.succ j)) (notDefer y0.op && (edgesOk j y0.after.toList && rowOk P all y0 m all 0 j)) : Bool) = true := h
      obtain ⟨h1, h2⟩ := recTrue.1 h
      rw [andTrue, andTrue] at h1
      cases k with
      | zero => simp at hy; subst hy; exact ⟨m, rfl, h1.1, h1.2.1, h1.2.2⟩
      | succ k =>
        simp at hy
        obtain ⟨q, h3, h4, h5, h6⟩ := ih h2 k y hy
        have e : Nat.succ j + k = j + (k + 1) := by show j + 1 + k = _; omega
        rw [e] at h5 h6
        exact ⟨q, by simpa using h3, h4, h5, h6⟩
theorem regOk_ok {all : List Oper} (h : regOk P all all (masks all []) 0 = true) : RegOK P all (masks all []) := by
  refine ⟨fun j o ho => ?_, fun j o ho e he hb => ?_, fun i j x y q hx hy hq hlt ht => ?_⟩
  · obtain ⟨m, _, h1, _⟩ := regOk_get h j o ho; exact h1
  · obtain ⟨m, _, _, h2, _⟩ := regOk_get h j o ho
    unfold edgesOk at h2
    rw [lall_iff] at h2
    have := impTrue.1 (h2 e he) hb
    rw [blt_iff] at this; omega
  · obtain ⟨m, hm, _, _, h3⟩ := regOk_get h j y hy
    rw [hq] at hm; cases hm
    have := rowOk_get h3 i x hx (by omega)
    unfold pairOk at this
    have h4 := impTrue.1 this
    simpa using h4 ht
theorem Rel.below (hR : Rel P σ A w) (hb : Below w.heap.size w w') : Rel P σ A w' ∧ Step σ A w σ A w' := by
  have hlt : ∀ b x, w.heap[b]? = some x → b < w.heap.size := fun b x h => (Array.getElem?_eq_some_iff.1 h).1
  refine ⟨⟨⟨fun i b d o hs hg hl => ?_, hR.inj, hR.lim, hR.glob, hR.top⟩, fun b x hx => ⟨?_, (hR.fro b x hx).2⟩⟩,
    ⟨fun _ _ => rfl, Nat.le_refl _, hb.os, hb.tape, hb.output, hb.size, fun b hb' _ => hb.block b hb', fun _ _ h => h, fun i b d o hle hs _ _ _ => ?_, fun i o _ hg hl => ⟨o, hg, hl⟩⟩⟩
  · obtain ⟨x, hx, ho⟩ := hR.obj i b d o hs hg hl
    exact ⟨x, by rw [hb.block b (hlt b x hx)]; exact hx, ho⟩
  · have h := (hR.fro b x hx).1
    rw [hb.block b (hlt b x h)]; exact h
  · rw [hR.lim i hle] at hs; cases hs
theorem get_none {α : Type} (i : Nat) : (T.e : T α).get i = none := by cases i <;> rfl
theorem no_get {i : Nat} {o : AO} (h : (T.e : T AO).get i = some o) : False := by rw [get_none] at h; cases h
theorem Rel.bare (hR : Rel P σ A w) : Rel P (fun i => if i < P.globals.size then some (i, 0) else none) ⟨.e, P.globals.size⟩ w :=
  ⟨⟨fun _ _ _ _ _ hg _ => (no_get hg).elim, fun _ _ _ _ _ _ _ _ _ hg _ _ _ _ => (no_get hg).elim, fun i hi => if_neg (by have : P.globals.size ≤ i := hi; omega), fun _ hg => if_pos hg, fun i _ => get_none i⟩,
    fun b x hx => ⟨(hR.fro b x hx).1, fun ⟨_, _, _, _, hg, _⟩ => no_get hg⟩⟩
theorem vrl_flats : ∀ {l l' : List Value}, VRL σ l l' → lall flat2 l = true → l' = l
  | [], _, h, _ => by cases h; rfl
  | a :: l, _, h, hf => by
    cases h with
    | cons a1 b1 =>
      have hf : (Bool.rec false (lall flat2 l) (flat2 a) : Bool) = true := hf
      cases ha : flat2 a with
      | false => rw [ha] at hf; cases hf
      | true =>
        rw [ha] at hf
        rw [a1.of_flat2 ha, vrl_flats b1 hf]
theorem vrl_refl_flats : ∀ {l : List Value}, lall flat2 l = true → VRL σ l l
  | [], _ => .nil
  | a :: l, hf => by
    have hf : (Bool.rec false (lall flat2 l) (flat2 a) : Bool) = true := hf
    cases ha : flat2 a with
    | false => rw [ha] at hf; cases hf
    | true =>
      rw [ha] at hf
      exact .cons (.refl_flat2 ha) (vrl_refl_flats hf)
def SoftSem (P : Program) [Frozen P] (o : Oper) (F : T Value) (v : Value) : Prop := flat2 v = true ∧ ∀ (σ : Sg) (A : AW) (w : World) (a : Act), Rel P σ A w → OK P σ F a o.op.operands.toList →
  ∀ (next : Act → World → Prop) (Q : Exit → Act → World → Prop), (∀ w', Below w.heap.size w w' → next (a.put o.dst v) w') → o.wp P a w next Q
theorem SoftSem.of (hcall : CallOK P call) {o : Oper} {F : T Value} {v : Value} (h : softV P call F o.op = some v) : SoftSem P o F v := by
  unfold softV at h
  split at h
  · rename_i c hc
    split at h
    · rename_i f hf
      simp only [ob_some, bt_some, Option.some.injEq] at h
      obtain ⟨vs, hvs, hfl, ⟨u, B⟩, hcl, hu, rfl⟩ := h
      refine ⟨hu, fun σ A w a hR hO next Q hn => ?_⟩
      have hev : evE o.op P F A = some (.enter f vs A) := by
        rw [hc]
        show eCall c P F A = _
        unfold eCall
        rw [hf]
        show eVal (.func f) c P F A = _
        simp only [eVal, hvs, ob_some, opnd]
        simp [ob]
      have hfine := evE_sound hR hO hev
      unfold Oper.wp
      generalize (execOp a.eval o).run P w = r at hfine ⊢
      obtain ⟨_, args', ha, rfl⟩ := hfine
      obtain rfl := vrl_flats ha hfl
      have hnw : ∀ b, ¬ Wr (fun i => if i < P.globals.size then some (i, 0) else none) (⟨.e, P.globals.size⟩ : AW) b := fun b ⟨_, _, _, _, hg, _⟩ => no_get hg
      rcases hcall f _ _ u B hcl _ w _ hR.bare (vrl_refl_flats hfl) with ⟨v', w', hr, σ', hv, hR', hS⟩ | ⟨g, as_, hr, hC⟩
      · rw [hr]
        obtain rfl := hv.of_flat2 hu
        exact hn w' ⟨hS.os, hS.tape, hS.output, hS.size, fun k hk => hS.block k hk (hnw k)⟩
      · rw [hr, Oper.upon_enter]
        refine Calls.mono hC fun e w' he => ?_
        cases e with
        | returned v' =>
          obtain ⟨σ', hv, hR', hS⟩ := he
          obtain rfl := hv.of_flat2 hu
          exact hn w' ⟨hS.os, hS.tape, hS.output, hS.size, fun k hk => hS.block k hk (hnw k)⟩
        | _ => exact he.elim
    · cases h
  · cases h
theorem soft_isE {o : Op} (h : isE P o = false) : softO P o = false := by
  cases hs : softO P o with
  | false => rfl
  | true =>
    unfold softO at hs
    split at hs
    · rename_i c
      split at hs
      · rename_i f hf
        have h : (match c.callee with
          | .builtin b => bnot (quietB b)
          | _ => true) = false := h
        rw [hf] at h; cases h
      · cases hs
    · cases hs
theorem made_soft {F : T Value} {o : Op} {id : Nat} {v : Value} (h : madeV P F o id = some v) : softO P o = false := by
  cases o <;> first | rfl | cases h
inductive What (P : Program) [Frozen P] (call : Caller) (all : List Oper) (ds : List Deferred) (o : Oper) (F : T Value) (A : AW) (h : Option Nat) : Value → AW → Bool → Prop
  | off : wantedA all o F = some false → What P call all ds o F A h (.tuple #[]) A (loudB P o)
  | made (id : Nat) {v : Value} : wantedA all o F = some true → h = some id → madeV P F o.op id = some v → What P call all ds o F A h v A false
  | quiet {v : Value} : wantedA all o F = some true → h = none → isE P o.op = false → QSem P o F A v → What P call all ds o F A h v A false
  | soft {v : Value} : wantedA all o F = some true → h = none → softO P o.op = true → SoftSem P o F v → What P call all ds o F A h v A false
  | loud {v : Value} {B : AW} : wantedA all o F = some true → h = none → isE P o.op = true → softO P o.op = false → LSem P o F A v B → What P call all ds o F A h v B true
inductive Passed (P : Program) [Frozen P] (call : Caller) (N : Nat) (all : List Oper) (ds : List Deferred) : List Oper → List (Option Nat) → Nat → T Value → AW → List Rc → List AW → T Value → AW → Prop
  | nil {hs : List (Option Nat)} {k : Nat} {F : T Value} {A : AW} : Passed P call N all ds [] hs k F A [] [] F A
  | quiet {o : Oper} {os : List Oper} {h : Option Nat} {hs : List (Option Nat)} {k : Nat} {F F1 F' : T Value} {A A' : AW} {v : Value} {rs : List Rc} {As : List AW} :
    What P call all ds o F A h v A false → putF N F o.dst v = some F1 → Passed P call N all ds os hs k F1 A rs As F' A' → Passed P call N all ds (o :: os) (h :: hs) k F A (⟨o, F, v, k, false⟩ :: rs) As F' A'
  | loud {o : Oper} {os : List Oper} {h : Option Nat} {hs : List (Option Nat)} {k : Nat} {F F1 F' : T Value} {A B A' : AW} {v : Value} {rs : List Rc} {As : List AW} :
    What P call all ds o F A h v B true → putF N F o.dst v = some F1 → Passed P call N all ds os hs (k + 1) F1 B rs As F' A' → Passed P call N all ds (o :: os) (h :: hs) k F A (⟨o, F, v, k, true⟩ :: rs) (B :: As) F' A'
theorem passed_of (hcall : CallOK P call) {all : List Oper} : ∀ (os : List Oper), (∀ o ∈ os, notDefer o.op = true) → ∀ (hs : List (Option Nat)) (k : Nat) (s s' : St) (rs : List Rc) (As : List AW), passOps P call N all os hs k s = some (rs, As, s') → s'.ds = s.ds ∧ Passed P call N all s.ds os hs k s.F s.A rs As s'.F s'.A := by
  intro os
  induction os with
  | nil =>
    intro _ hs k s s' rs As h
    have h : some ([], [], s) = some (rs, As, s') := h
    cases h
    exact ⟨rfl, .nil⟩
  | cons o os ih =>
    intro hnd hs k s s' rs As h
    have ih := ih fun o ho => hnd o (List.mem_cons_of_mem _ ho)
    have hnd := hnd o List.mem_cons_self
    cases hs with
    | nil => cases h
    | cons h0 hs =>
      have h : pOne P call N all o h0 k s (passOps P call N all os hs) = some (rs, As, s') := h
      simp only [pOne, ob_some] at h
      obtain ⟨b, hb, h⟩ := h
      have quiet : ∀ v, What P call all s.ds o s.F s.A h0 v s.A false → pQuiet N o v k s (passOps P call N all os hs) = some (rs, As, s') → s'.ds = s.ds ∧ Passed P call N all s.ds (o :: os) (h0 :: hs) k s.F s.A rs As s'.F s'.A := by
        intro v hw hq
        simp only [pQuiet, ob_some, Option.some.injEq, Prod.mk.injEq] at hq
        obtain ⟨F1, hF, ⟨rs1, As1, s1⟩, hp, rfl, hq⟩ := hq
        cases hq
        obtain ⟨e, hP⟩ := ih _ _ _ _ _ _ hp
        exact ⟨e, .quiet hw hF hP⟩
      have eff : ∀ v B, What P call all s.ds o s.F s.A h0 v B true → pEff N o v B k s (passOps P call N all os hs) = some (rs, As, s') → s'.ds = s.ds ∧ Passed P call N all s.ds (o :: os) (h0 :: hs) k s.F s.A rs As s'.F s'.A := by
        intro v B hw hq
        simp only [pEff, ob_some, Option.some.injEq, Prod.mk.injEq] at hq
        obtain ⟨F1, hF, ⟨rs1, As1, s1⟩, hp, rfl, rfl, rfl⟩ := hq
        obtain ⟨e, hP⟩ := ih _ _ _ _ _ _ hp
        exact ⟨e, .loud hw hF hP⟩
      cases b with
      | false =>
        have h : (Bool.rec (pQuiet N o (.tuple #[]) k s (passOps P call N all os hs)) (pEff N o (.tuple #[]) s.A k s (passOps P call N all os hs)) (loudB P o) : Pass) = some (rs, As, s') := h
        have hw := What.off (P := P) (call := call) (ds := s.ds) (A := s.A) (h := h0) hb
        cases hl : loudB P o with
        | false => rw [hl] at h hw; exact quiet _ hw h
        | true => rw [hl] at h hw; exact eff _ _ hw h
      | true =>
        have h : pWant P call N o h0 k s (passOps P call N all os hs) = some (rs, As, s') := h
        unfold pWant at h
        cases h0 with
        | some id =>
          have h : (ob (madeV P s.F o.op id) fun v => pQuiet N o v k s (passOps P call N all os hs)) = some (rs, As, s') := h
          rw [ob_some] at h
          obtain ⟨v, hv, h⟩ := h
          exact quiet v (.made id hb rfl hv) h
        | none =>
          cases hso : softO P o.op with
          | true =>
            have h : (ob (softV P call s.F o.op) fun v => pQuiet N o v k s (passOps P call N all os hs)) = some (rs, As, s') := by
              rw [hso] at h; exact h
            rw [ob_some] at h
            obtain ⟨v, hv, h⟩ := h
            exact quiet v (.soft hb rfl hso (.of hcall hv)) h
          | false =>
          rw [hso] at h
          cases hi : isE P o.op with
          | false =>
            have h : (ob (evQ o.op P s.F s.A.heap) fun v => pQuiet N o v k s (passOps P call N all os hs)) = some (rs, As, s') := by
              have hins : insOf P o.op = .q (evQ o.op) := by unfold insOf; rw [hi]
              rw [hins] at h; exact h
            rw [ob_some] at h
            obtain ⟨v, hv, h⟩ := h
            exact quiet v (.quiet hb rfl hi (.of hv)) h
          | true =>
            have h : (ob (doFx call s.ds (evE o.op P s.F s.A)) fun p => pEff N o p.1 p.2.1 k s (passOps P call N all os hs)) = some (rs, As, s') := by
              have hins : insOf P o.op = .e (evE o.op) := by unfold insOf; rw [hi]
              rw [hins] at h; exact h
            rw [ob_some] at h
            obtain ⟨⟨v, B, ds'⟩, hv, h⟩ := h
            exact eff v B (.loud hb rfl hi hso (.of hcall hv fun d C he => by obtain ⟨c, hc⟩ := evE_defr he; rw [hc] at hnd; cases hnd)) h
end Go.Ev
end

/- The evaluator: a region whose order is drawn: what the pass tells of each operation. -/
section
set_option linter.unusedSectionVars false
namespace Go.Ev
variable {P : Program} {σ σ' : Sg} {A A' : AW} {w w' : World} {N : Nat} {call : Caller} [Frozen P]
def frAt (rs : List Rc) (F' : T Value) (i : Nat) : T Value := ((rs[i]?).map (·.F)).getD F'
theorem frAt_of {rs : List Rc} {F' : T Value} {i : Nat} {r : Rc} (h : rs[i]? = some r) : frAt rs F' i = r.F := by simp [frAt, h]
theorem frAt_succ (r : Rc) (rs : List Rc) (F' : T Value) (i : Nat) : frAt (r :: rs) F' (i + 1) = frAt rs F' i := by simp [frAt]
section
variable {all os : List Oper} {ds : List Deferred} {hs : List (Option Nat)} {k : Nat} {F F' : T Value} {rs : List Rc} {As : List AW}
theorem Passed.head (h : Passed P call N all ds os hs k F A rs As F' A') : frAt rs F' 0 = F := by cases h <;> rfl
theorem Passed.len (h : Passed P call N all ds os hs k F A rs As F' A') : rs.length = os.length := by
  induction h with
  | nil => rfl
  | quiet _ _ _ ih => simp [ih]
  | loud _ _ _ ih => simp [ih]
theorem Passed.last (h : Passed P call N all ds os hs k F A rs As F' A') : (A :: As)[As.length]? = some A' := by
  induction h with
  | nil => rfl
  | quiet _ _ _ ih => exact ih
  | loud _ _ _ ih => simpa using ih
theorem Passed.at (h : Passed P call N all ds os hs k F A rs As F' A') : ∀ (i : Nat) (r : Rc), rs[i]? = some r → ∃ h m A1 B, os[i]? = some r.o ∧ hs[i]? = some h ∧ r.at_ = k + m ∧ (A :: As)[m]? = some A1 ∧
    What P call all ds r.o r.F A1 h r.v B r.loud ∧ (r.loud = true → (A :: As)[m + 1]? = some B) ∧ (r.loud = false → B = A1) ∧ putF N r.F r.o.dst r.v = some (frAt rs F' (i + 1)) := by
  induction h with
  | nil => intro i r h; simp at h
  | @quiet o os h hs k F F1 F' A A' v rs As hw hp hP ih =>
    intro i r hr
    cases i with
    | zero =>
      simp at hr; subst hr
      refine ⟨h, 0, A, A, rfl, rfl, rfl, rfl, hw, fun hh => (by cases hh), fun _ => rfl, ?_⟩
      rw [frAt_succ, hP.head]; exact hp
    | succ i =>
      obtain ⟨h', m, A1, B, h1, h2, h3, h4, h5, h6, h7, h8⟩ := ih i r (by simpa using hr)
      exact ⟨h', m, A1, B, by simpa using h1, by simpa using h2, h3, h4, h5, h6, h7, by rw [frAt_succ]; exact h8⟩
  | @loud o os h hs k F F1 F' A B A' v rs As hw hp hP ih =>
    intro i r hr
    cases i with
    | zero =>
      simp at hr; subst hr
      refine ⟨h, 0, A, B, rfl, rfl, rfl, rfl, hw, fun _ => rfl, fun hh => (by cases hh), ?_⟩
      rw [frAt_succ, hP.head]; exact hp
    | succ i =>
      obtain ⟨h', m, A1, B', h1, h2, h3, h4, h5, h6, h7, h8⟩ := ih i r (by simpa using hr)
      exact ⟨h', m + 1, A1, B', by simpa using h1, by simpa using h2, by omega, by simpa using h4, h5, fun hl => by simpa using h6 hl, h7, by rw [frAt_succ]; exact h8⟩
theorem Passed.base (h : Passed P call N all ds os hs k F A rs As F' A') (i : Nat) (r : Rc) (hr : rs[i]? = some r) : k ≤ r.at_ := by
  obtain ⟨_, m, _, _, _, _, h3, _⟩ := h.at i r hr
  omega
theorem Passed.order (h : Passed P call N all ds os hs k F A rs As F' A') : ∀ (i j : Nat) (r q : Rc), i < j → rs[i]? = some r → rs[j]? = some q → r.loud = true → r.at_ < q.at_ := by
  induction h with
  | nil => intro i j r q _ h; simp at h
  | quiet hw hp hP ih =>
    intro i j r q hlt hr hq hl
    cases j with
    | zero => omega
    | succ j =>
      cases i with
      | zero => simp at hr; subst hr; cases hl
      | succ i => exact ih i j r q (by omega) (by simpa using hr) (by simpa using hq) hl
  | loud hw hp hP ih =>
    intro i j r q hlt hr hq hl
    cases j with
    | zero => omega
    | succ j =>
      cases i with
      | zero =>
        simp at hr; subst hr
        have := hP.base j q (by simpa using hq)
        show _ < q.at_
        simp only
        omega
      | succ i => exact ih i j r q (by omega) (by simpa using hr) (by simpa using hq) hl
theorem Passed.gap (h : Passed P call N all ds os hs k F A rs As F' A') : ∀ (j : Nat) (q : Rc) (c : Nat), rs[j]? = some q → k ≤ c → c < q.at_ → ∃ i r, i < j ∧ rs[i]? = some r ∧ r.loud = true ∧ r.at_ = c := by
  induction h with
  | nil => intro j q c h; simp at h
  | quiet hw hp hP ih =>
    intro j q c hq hk hc
    cases j with
    | zero => simp at hq; subst hq; simp only at hc; omega
    | succ j =>
      obtain ⟨i, r, h1, h2, h3, h4⟩ := ih j q c (by simpa using hq) hk hc
      exact ⟨i + 1, r, by omega, by simpa using h2, h3, h4⟩
  | @loud o os h hs k F F1 F' A B A' v rs As hw hp hP ih =>
    intro j q c hq hk hc
    cases j with
    | zero => simp at hq; subst hq; simp only at hc; omega
    | succ j =>
      by_cases hkc : k = c
      · exact ⟨0, _, by omega, rfl, rfl, hkc⟩
      · obtain ⟨i, r, h1, h2, h3, h4⟩ := ih j q c (by simpa using hq) (by omega) hc
        exact ⟨i + 1, r, by omega, by simpa using h2, h3, h4⟩
theorem Passed.same (h : Passed P call N all ds os hs k F A rs As F' A') {t i : Nat} : ∀ (j : Nat), i ≤ j → j ≤ rs.length → (∀ x r, i ≤ x → x < j → rs[x]? = some r → r.o.dst ≠ some t) → (frAt rs F' j).get t = (frAt rs F' i).get t := by
  intro j
  induction j with
  | zero => intro hij _ _; rw [show i = 0 by omega]
  | succ j ih =>
    intro hij hj hn
    by_cases hi : i = j + 1
    · rw [hi]
    · have hlt : j < rs.length := by omega
      have hr : rs[j]? = some rs[j] := List.getElem?_eq_getElem hlt
      obtain ⟨_, _, _, _, _, _, _, _, _, _, _, hp⟩ := h.at j _ hr
      rw [← ih (by omega) (by omega) fun x r h1 h2 => hn x r h1 (by omega), frAt_of hr]
      have hd := hn j _ (by omega) (by omega) hr
      rcases putF_some hp with ⟨_, e⟩ | ⟨d, e1, _, e⟩
      · rw [e]
      · rw [e, get_set, if_neg]; intro e2; exact hd (by rw [e1, e2])
theorem What.loudIs {o : Oper} {h : Option Nat} {v : Value} {B : AW} {l : Bool} (hw : What P call all ds o F A h v B l) (hh : h = none ↔ hoists o = false) : l = loudB P o := by
  cases hw with
  | off _ => rfl
  | made id _ e _ =>
    have : hoists o = true := by cases hb : hoists o with
      | true => rfl
      | false => rw [hh.2 hb] at e; cases e
    unfold loudB; rw [this]
  | quiet _ e hi _ => unfold loudB; rw [hh.1 e, soft_isE hi]; exact hi.symm
  | soft _ e hs _ => unfold loudB; rw [hh.1 e, hs]
  | loud _ e hi hs _ => unfold loudB; rw [hh.1 e, hs]; exact hi.symm
theorem Passed.louds (h : Passed P call N all ds os hs k F A rs As F' A') (hh : ∀ (i : Nat) (o : Oper), os[i]? = some o → ∃ h, hs[i]? = some h ∧ (h = none ↔ hoists o = false)) :
    ∀ (ms : List Nat) (i0 : Nat), ms.length = os.length → (Ev.louds P os ms i0).length = As.length ∧ ∀ (j : Nat) (e : Nat × Nat), (Ev.louds P os ms i0)[j]? = some e → ∃ i r, e.1 = i0 + i ∧ rs[i]? = some r ∧ r.loud = true ∧ r.at_ = k + j ∧ ms[i]? = some e.2 := by
  induction h with
  | nil => intro ms i0 _; exact ⟨rfl, fun j e h => by simp [Ev.louds] at h⟩
  | @quiet o os h hs k F F1 F' A A' v rs As hw hp hP ih =>
    intro ms i0 hl
    cases ms with
    | nil => simp at hl
    | cons m ms =>
      obtain ⟨h', e1, e2⟩ := hh 0 o rfl
      simp at e1; subst e1
      have hlb := hw.loudIs e2
      have heq : Ev.louds P (o :: os) (m :: ms) i0 = Ev.louds P os ms (Nat.succ i0) := by
        show (Bool.rec _ _ (loudB P o) : List (Nat × Nat)) = _
        rw [← hlb]; rfl
      rw [heq]
      obtain ⟨g1, g2⟩ := ih (fun i o ho => by simpa using hh (i + 1) o (by simpa using ho)) ms (Nat.succ i0) (by simpa using hl)
      refine ⟨g1, fun j e he => ?_⟩
      obtain ⟨i, r, h1, h2, h3, h4, h5⟩ := g2 j e he
      exact ⟨i + 1, r, by rw [h1]; show i0 + 1 + i = _; omega, by simpa using h2, h3, h4, by simpa using h5⟩
  | @loud o os h hs k F F1 F' A B A' v rs As hw hp hP ih =>
    intro ms i0 hl
    cases ms with
    | nil => simp at hl
    | cons m ms =>
      obtain ⟨h', e1, e2⟩ := hh 0 o rfl
      simp at e1; subst e1
      have hlb := hw.loudIs e2
      have heq : Ev.louds P (o :: os) (m :: ms) i0 = (i0, m) :: Ev.louds P os ms (Nat.succ i0) := by
        show (Bool.rec _ _ (loudB P o) : List (Nat × Nat)) = _
        rw [← hlb]; rfl
      rw [heq]
      obtain ⟨g1, g2⟩ := ih (fun i o ho => by simpa using hh (i + 1) o (by simpa using ho)) ms (Nat.succ i0) (by simpa using hl)
      refine ⟨by simp [g1], fun j e he => ?_⟩
      cases j with
      | zero => simp at he; subst he; exact ⟨0, _, rfl, rfl, rfl, rfl, rfl⟩
      | succ j =>
        obtain ⟨i, r, h1, h2, h3, h4, h5⟩ := g2 j e (by simpa using he)
        exact ⟨i + 1, r, by rw [h1]; show i0 + 1 + i = _; omega, by simpa using h2, h3, by omega, by simpa using h5⟩
end
theorem loOf_is {m : Nat} : ∀ {es : List (Nat × Nat)} {k acc : Nat}, loOf m es k acc = acc ∨ ∃ j e, es[j]? = some e ∧ tbit m e.1 = true ∧ loOf m es k acc = k + j + 1 := by
  intro es
  induction es with
  | nil => intro k acc; exact .inl rfl
  | cons e es ih =>
    intro k acc
    have heq : loOf m (e :: es) k acc = loOf m es (Nat.succ k) (Bool.rec acc (Nat.succ k) (tbit m e.1)) := rfl
    rw [heq]
    cases hb : tbit m e.1 with
    | false =>
      rcases ih (k := Nat.succ k) (acc := acc) with h | ⟨j, e', h1, h2, h3⟩
      · exact .inl h
      · exact .inr ⟨j + 1, e', by simpa using h1, h2, by rw [h3]; show k + 1 + j + 1 = _; omega⟩
    | true =>
      rcases ih (k := Nat.succ k) (acc := Nat.succ k) with h | ⟨j, e', h1, h2, h3⟩
      · exact .inr ⟨0, e, rfl, hb, by rw [h]⟩
      · exact .inr ⟨j + 1, e', by simpa using h1, h2, by rw [h3]; show k + 1 + j + 1 = _; omega⟩
theorem hiOf_is {i : Nat} : ∀ {es : List (Nat × Nat)} {k : Nat}, hiOf i es k = k + es.length ∨ ∃ j e, es[j]? = some e ∧ tbit e.2 i = true ∧ hiOf i es k = k + j := by
  intro es
  induction es with
  | nil => intro k; exact .inl rfl
  | cons e es ih =>
    intro k
    have heq : hiOf i (e :: es) k = (Bool.rec (hiOf i es (Nat.succ k)) k (tbit e.2 i) : Nat) := rfl
    rw [heq]
    cases hb : tbit e.2 i with
    | true => exact .inr ⟨0, e, rfl, hb, rfl⟩
    | false =>
      rcases ih (k := Nat.succ k) with h | ⟨j, e', h1, h2, h3⟩
      · exact .inl (by show hiOf i es (Nat.succ k) = _; rw [h]; show k + 1 + es.length = k + (es.length + 1); omega)
      · exact .inr ⟨j + 1, e', by simpa using h1, h2, by show hiOf i es (Nat.succ k) = _; rw [h3]; show k + 1 + j = _; omega⟩
theorem winOk_get {all : List Oper} {r : Rc} {h : Option Nat} {lo hi : Nat} : ∀ {As : List AW} {k : Nat}, winOk P all r h lo hi As k = true → ∀ (m : Nat) (A : AW), As[m]? = some A → lo ≤ k + m → k + m ≤ hi → isOwn h r (k + m) = false → againOk P all r h A.heap = true := by
  intro As
  induction As with
  | nil => intro k _ m A h; simp at h
  | cons A0 As ih =>
    intro k hw m A hA hlo hhi hown
    have hw : (Bool.rec (winOk P all r h lo hi As (Nat.succ k)) (Bool.rec false (winOk P all r h lo hi As (Nat.succ k)) (againOk P all r h A0.heap)) (Nat.ble lo k && (Nat.ble k hi && bnot (isOwn h r k))) : Bool) = true := hw
    cases m with
    | zero =>
      simp at hA; subst hA
      have hc : (Nat.ble lo k && (Nat.ble k hi && bnot (isOwn h r k))) = true := by
        rw [andTrue, andTrue]
        exact ⟨bleIff.2 (by omega), bleIff.2 (by omega), by rw [bnot_eq, show isOwn h r k = false from hown]; rfl⟩
      rw [hc] at hw
      exact (recTrue.1 hw).1
    | succ m =>
      have hrest : winOk P all r h lo hi As (Nat.succ k) = true := by
        cases hc : (Nat.ble lo k && (Nat.ble k hi && bnot (isOwn h r k))) with
        | false => rw [hc] at hw; exact hw
        | true => rw [hc] at hw; exact (recTrue.1 hw).2
      have e : Nat.succ k + m = k + (m + 1) := by show k + 1 + m = _; omega
      exact ih hrest m A (by simpa using hA) (by rw [e]; exact hlo) (by rw [e]; exact hhi) (by rw [e]; exact hown)
theorem winsOk_get {all : List Oper} {es : List (Nat × Nat)} {As : List AW} : ∀ {rs : List Rc} {hs : List (Option Nat)} {ms : List Nat} {i0 : Nat}, winsOk P all es As rs hs ms i0 = true → ∀ (i : Nat) (r : Rc), rs[i]? = some r →
    ∃ h m, hs[i]? = some h ∧ ms[i]? = some m ∧ (r.loud = true ∨ winOk P all r h (loOf m es 0 0) (hiOf (i0 + i) es 0) As 0 = true) := by
  intro rs
  induction rs with
  | nil => intro hs ms i0 _ i r h; simp at h
  | cons r0 rs ih =>
    intro hs ms i0 hw i r hr
    cases hs with
    | nil => cases hw
    | cons h hs =>
      cases ms with
      | nil => cases hw
      | cons m ms =>
        have hw : (Bool.rec false (winsOk P all es As rs hs ms (Nat.succ i0)) (r0.loud || winOk P all r0 h (loOf m es 0 0) (hiOf i0 es 0) As 0) : Bool) = true := hw
        obtain ⟨h1, h2⟩ := recTrue.1 hw
        cases i with
        | zero => simp at hr; subst hr; exact ⟨h, m, rfl, rfl, by simpa using h1⟩
        | succ i =>
          obtain ⟨h', m', g1, g2, g3⟩ := ih h2 i r (by simpa using hr)
          have e : Nat.succ i0 + i = i0 + (i + 1) := by show i0 + 1 + i = _; omega
          rw [e] at g3
          exact ⟨h', m', by simpa using g1, by simpa using g2, g3⟩
theorem addrEq_eq {a b : Option Addr} (h : addrEq a b = true) : a = b := by
  cases a with
  | none => cases b with
    | none => rfl
    | some b => cases h
  | some a => cases b with
    | none => cases h
    | some b =>
      have h : (Nat.beq a.block b.block && (Nat.beq a.off b.off && (a.spot.isNone && b.spot.isNone))) = true := h
      obtain ⟨x, y, z⟩ := a; obtain ⟨x', y', z'⟩ := b
      simp only [Bool.and_eq_true, beqIff, Option.isNone_iff_eq_none] at h
      obtain ⟨rfl, rfl, rfl, rfl⟩ := h
      rfl
theorem intEq_eq {a b : Int} (h : intEq a b = true) : a = b := by
  cases a <;> cases b <;> first | (cases h; done) | (rw [beqIff.1 h])
theorem onatEq_eq {a b : Option Nat} (h : onatEq a b = true) : a = b := by
  cases a <;> cases b <;> first | rfl | (cases h; done) | (rw [beqIff.1 h])
theorem veq_eq {x y : Value} (h : veq x y = true) : x = y := by
  cases x with
  | bool a => cases y <;> first | (cases h; done) | (rename_i b; cases a <;> cases b <;> first | rfl | (cases h))
  | int j a => cases y <;> first | (cases h; done) | (rename_i k b; have h : (sameK j k && intEq a b) = true := h; rw [andTrue] at h; rw [sameK_eq h.1, intEq_eq h.2])
  | string a => cases y <;> first | (cases h; done) | (rename_i b; have h : bytesEq a.data.toList b.data.toList = true := h; obtain ⟨⟨a⟩⟩ := a; obtain ⟨⟨b⟩⟩ := b; rw [show a = b from (bytesEq_iff _ _).1 h])
  | pointer a => cases y <;> first | (cases h; done) | (rename_i b; rw [addrEq_eq (a := a) (b := b) h])
  | slice a l c => cases y <;> first | (cases h; done) | (rename_i b m d; have h : (addrEq a b && (Nat.beq l m && Nat.beq c d)) = true := h; rw [andTrue, andTrue] at h; rw [addrEq_eq h.1, beqIff.1 h.2.1, beqIff.1 h.2.2])
  | map a => cases y <;> first | (cases h; done) | (rename_i b; rw [onatEq_eq (a := a) (b := b) h])
  | nilFunc => cases y <;> first | rfl | (cases h; done)
  | nilIface => cases y <;> first | rfl | (cases h; done)
  | _ => cases h
theorem veqs_eq : ∀ {l m : List Value}, veqs l m = true → l = m := by
  intro l
  induction l with
  | nil => intro m h; cases m with
    | nil => rfl
    | cons b m => cases h
  | cons a l ih =>
    intro m h
    cases m with
    | nil => cases h
    | cons b m =>
      obtain ⟨h1, h2⟩ := recTrue.1 (show (Bool.rec false (veqs l m) (veq a b) : Bool) = true from h)
      rw [ih h2, veq_eq h1]
theorem veq2_eq {x y : Value} (h : veq2 x y = true) : x = y := by
  cases x with
  | agg a => cases y <;> first | (cases h; done) | (rename_i b; have h : veqs a.toList b.toList = true := h; rw [Array.toList_inj.1 (veqs_eq h)])
  | tuple a => cases y <;> first | (cases h; done) | (rename_i b; have h : veqs a.toList b.toList = true := h; rw [Array.toList_inj.1 (veqs_eq h)])
  | func f a c =>
    cases f with
    | func f =>
      cases y <;> try (cases h; done)
      rename_i g b d
      cases g <;> try (cases h; done)
      rename_i g
      have h : (Nat.beq f g && (veqs a.toList b.toList && veqs c.toList d.toList)) = true := h
      rw [andTrue, andTrue] at h
      rw [beqIff.1 h.1, Array.toList_inj.1 (veqs_eq h.2.1), Array.toList_inj.1 (veqs_eq h.2.2)]
    | _ => exact veq_eq h
  | _ => exact veq_eq h
theorem isSomeB_iff {α : Type} {x : Option α} : isSomeB x = true ↔ ∃ y, x = some y := by cases x <;> simp [isSomeB]
end Go.Ev
end
