/- The evaluator: a region whose order is drawn: what was looked at. -/
import Derived.Test.YtamjbnfmpfgjcaaGreatDoorEvO
namespace Go.Ev
variable {P : Program} {σ σ' : Sg} {A A' : AW} {w w' : World} {N : Nat} {call : Caller}

/- Masks. -/
theorem tbit_eq (m i : Nat) : tbit m i = m.testBit i := by
  rw [Nat.testBit_eq_decide_div_mod_eq]
  unfold tbit
  have h1 : Nat.mod (Nat.div m (Nat.pow 2 i)) 2 = m / 2 ^ i % 2 := rfl
  rw [h1]
  rcases Nat.mod_two_eq_zero_or_one (m / 2 ^ i) with h | h <;> rw [h] <;> rfl
theorem maskOf_bit {ms : List Nat} {i : Nat} : ∀ {es : List Edge} {m : Nat}, tbit (maskOf ms es m) i = true → tbit m i = true ∨ ∃ e ∈ es, Region.binds .any e = true ∧ (e.on = i ∨ ∃ q, ms[e.on]? = some q ∧ tbit q i = true) := by
  intro es
  induction es with
  | nil => intro m h; exact .inl h
  | cons e es ih =>
    intro m h
    have h : tbit (Bool.rec (maskOf ms es m) (maskOf ms es (Nat.lor (Nat.lor m (Nat.pow 2 e.on)) ((lget ms e.on).getD 0))) (Region.binds .any e)) i = true := h
    cases hb : Region.binds .any e with
    | false =>
      rw [hb] at h
      rcases ih h with h | ⟨e', he, h1, h2⟩
      · exact .inl h
      · exact .inr ⟨e', by simp [he], h1, h2⟩
    | true =>
      rw [hb] at h
      rcases ih h with h | ⟨e', he, h1, h2⟩
      · rw [tbit_eq] at h
        have h : ((m ||| 2 ^ e.on) ||| (lget ms e.on).getD 0).testBit i = true := h
        rw [Nat.testBit_or, Nat.testBit_or, Nat.testBit_two_pow] at h
        simp only [Bool.or_eq_true, decide_eq_true_eq] at h
        rcases h with (h | h) | h
        · exact .inl (by rw [tbit_eq]; exact h)
        · exact .inr ⟨e, by simp, hb, .inl h⟩
        · refine .inr ⟨e, by simp, hb, .inr ?_⟩
          rw [lget_eq] at h
          cases hq : ms[e.on]? with
          | none => rw [hq] at h; simp at h
          | some q => rw [hq] at h; exact ⟨q, rfl, by rw [tbit_eq]; exact h⟩
      · exact .inr ⟨e', by simp [he], h1, h2⟩
/-- Each bit stands for something ahead. -/
def MaskOK (all : List Oper) (M : List Nat) : Prop := M.length = all.length ∧ ∀ (j : Nat) (o : Oper) (q : Nat), all[j]? = some o → M[j]? = some q → ∀ i, tbit q i = true → ∃ e ∈ o.after.toList, Region.binds .any e = true ∧ (e.on = i ∨ ∃ q', M[e.on]? = some q' ∧ tbit q' i = true)
theorem masks_ext : ∀ (os : List Oper) (ms : List Nat), ∃ tl, masks os ms = ms ++ tl ∧ tl.length = os.length ∧ ∀ (i : Nat) (o : Oper), os[i]? = some o → tl[i]? = some (maskOf (ms ++ tl.take i) o.after.toList 0) := by
  intro os
  induction os with
  | nil => intro ms; exact ⟨[], (List.append_nil ms).symm, rfl, fun i o h => by simp at h⟩
  | cons o os ih =>
    intro ms
    obtain ⟨tl, h1, h2, h3⟩ := ih (ms ++ [maskOf ms o.after.toList 0])
    refine ⟨maskOf ms o.after.toList 0 :: tl, ?_, by simp [h2], ?_⟩
    · show masks os (ms ++ [maskOf ms o.after.toList 0]) = _
      rw [h1]; simp
    · intro i o' ho
      cases i with
      | zero => simp at ho; subst ho; simp
      | succ i =>
        simp at ho
        have := h3 i o' ho
        simpa using this
theorem masks_ok (all : List Oper) : MaskOK all (masks all []) := by
  obtain ⟨tl, h1, h2, h3⟩ := masks_ext all []
  simp only [List.nil_append] at h1 h3
  rw [h1]
  refine ⟨h2, fun j o q ho hq i hi => ?_⟩
  have := h3 j o ho
  rw [hq] at this
  cases this
  rcases maskOf_bit hi with h | ⟨e, he, hb, h⟩
  · rw [tbit_eq] at h; simp at h
  · refine ⟨e, he, hb, h.imp id fun ⟨q, hq, ht⟩ => ⟨q, ?_, ht⟩⟩
    rw [List.getElem?_take] at hq
    split at hq
    · exact hq
    · cases hq
/-- What is listed, and all ahead of it. -/
theorem closed_bit {all : List Oper} {M : List Nat} (hM : MaskOK all M) {L : Nat → Prop} (hlt : ∀ (j : Nat) (o : Oper), all[j]? = some o → ∀ e ∈ o.after.toList, Region.binds .any e = true → e.on < j)
    (hc : ∀ j, L j → ∀ o : Oper, all[j]? = some o → ∀ e ∈ o.after.toList, Region.binds .any e = true → L e.on) :
    ∀ (j : Nat) (o : Oper) (q : Nat), all[j]? = some o → M[j]? = some q → (∀ e ∈ o.after.toList, Region.binds .any e = true → L e.on) → ∀ i, tbit q i = true → L i := by
  intro j
  induction j using Nat.strongRecOn with
  | _ j ih =>
    intro o q ho hq hL i hi
    obtain ⟨e, he, hb, h⟩ := hM.2 j o q ho hq i hi
    rcases h with rfl | ⟨q', hq', hi'⟩
    · exact hL e he hb
    · have hlt' := hlt j o ho e he hb
      have hl : e.on < all.length := by
        have : e.on < M.length := (List.getElem?_eq_some_iff.1 hq').1
        rw [hM.1] at this; exact this
      have ho' : all[e.on]? = some all[e.on] := List.getElem?_eq_getElem hl
      exact ih e.on hlt' _ q' ho' hq' (hc e.on (hL e he hb) _ ho') i hi'

/- What was checked of the region. -/
theorem andTrue {a b : Bool} : (a && b) = true ↔ a = true ∧ b = true := by cases a <;> cases b <;> simp
theorem recTrue {a b : Bool} : (Bool.rec false b a : Bool) = true ↔ a = true ∧ b = true := by cases a <;> simp
theorem impTrue {a b : Bool} : (Bool.rec true b a : Bool) = true ↔ (a = true → b = true) := by cases a <;> simp
theorem rowOk_get {all : List Oper} {y : Oper} {my : Nat} : ∀ {xs : List Oper} {i j : Nat}, rowOk P all y my xs i j = true → ∀ (k : Nat) (x : Oper), xs[k]? = some x → i + k < j → pairOk P all x y (i + k) my = true := by
  intro xs
  induction xs with
  | nil => intro i j _ k x h; simp at h
  | cons x0 xs ih =>
    intro i j h k x hx hlt
    have h : (Bool.rec true (Bool.rec false (rowOk P all y my xs (Nat.succ i) j) (pairOk P all x0 y i my)) (Nat.blt i j) : Bool) = true := h
    have hij : Nat.blt i j = true := blt_iff.2 (by omega)
    rw [hij] at h
    obtain ⟨h1, h2⟩ := recTrue.1 h
    cases k with
    | zero => simp at hx; subst hx; exact h1
    | succ k => simp at hx; have := ih h2 k x hx (by show i + 1 + k < j; omega); rw [show i + (k + 1) = Nat.succ i + k by show _ = i + 1 + k; omega]; exact this
structure RegOK (P : Program) (all : List Oper) (M : List Nat) : Prop where
  nodefer : ∀ (j : Nat) (o : Oper), all[j]? = some o → notDefer o.op = true
  lt : ∀ (j : Nat) (o : Oper), all[j]? = some o → ∀ e ∈ o.after.toList, Region.binds .any e = true → e.on < j
  pair : ∀ (i j : Nat) (x y : Oper) (q : Nat), all[i]? = some x → all[j]? = some y → M[j]? = some q → i < j → (touch all x y || (loudB P x && loudB P y)) = true → tbit q i = true
theorem regOk_get {all : List Oper} : ∀ {ys : List Oper} {ms : List Nat} {j : Nat}, regOk P all ys ms j = true → ∀ (k : Nat) (y : Oper), ys[k]? = some y → ∃ m, ms[k]? = some m ∧ notDefer y.op = true ∧ edgesOk (j + k) y.after.toList = true ∧ rowOk P all y m all 0 (j + k) = true := by
  intro ys
  induction ys with
  | nil => intro ms j _ k y h; simp at h
  | cons y0 ys ih =>
    intro ms j h k y hy
    cases ms with
    | nil => cases h
    | cons m ms =>
      have h : (Bool.rec false (regOk P all ys ms (Nat.succ j)) (notDefer y0.op && (edgesOk j y0.after.toList && rowOk P all y0 m all 0 j)) : Bool) = true := h
      obtain ⟨h1, h2⟩ := recTrue.1 h
      rw [andTrue, andTrue] at h1
      cases k with
      | zero => simp at hy; subst hy; exact ⟨m, rfl, h1.1, h1.2.1, h1.2.2⟩
      | succ k =>
        simp at hy
        obtain ⟨q, h3, h4, h5, h6⟩ := ih h2 k y hy
        have e : Nat.succ j + k = j + (k + 1) := by show j + 1 + k = _; omega
        rw [e] at h5 h6
        exact ⟨q, by simpa using h3, h4, h5, h6⟩
theorem regOk_ok {all : List Oper} (h : regOk P all all (masks all []) 0 = true) : RegOK P all (masks all []) := by
  refine ⟨fun j o ho => ?_, fun j o ho e he hb => ?_, fun i j x y q hx hy hq hlt ht => ?_⟩
  · obtain ⟨m, _, h1, _⟩ := regOk_get h j o ho; exact h1
  · obtain ⟨m, _, _, h2, _⟩ := regOk_get h j o ho
    unfold edgesOk at h2
    rw [lall_iff] at h2
    have := impTrue.1 (h2 e he) hb
    rw [blt_iff] at this; omega
  · obtain ⟨m, hm, _, _, h3⟩ := regOk_get h j y hy
    rw [hq] at hm; cases hm
    have := rowOk_get h3 i x hx (by omega)
    unfold pairOk at this
    have h4 := impTrue.1 this
    simpa using h4 ht

/- The pass. -/
inductive What (P : Program) (call : Caller) (all : List Oper) (ds : List Deferred) (o : Oper) (F : T Value) (A : AW) (h : Option Nat) : Value → AW → Bool → Prop
  | off : wantedA all o F = some false → What P call all ds o F A h (.tuple #[]) A (loudB P o)
  | made (id : Nat) {v : Value} : wantedA all o F = some true → h = some id → madeV P F o.op id = some v → What P call all ds o F A h v A false
  | quiet {v : Value} : wantedA all o F = some true → h = none → isE P o.op = false → evQ o.op P F A.heap = some v → What P call all ds o F A h v A false
  | loud {v : Value} {B : AW} {ds' : List Deferred} : wantedA all o F = some true → h = none → isE P o.op = true → doFx call ds (evE o.op P F A) = some (v, B, ds') → What P call all ds o F A h v B true
inductive Passed (P : Program) (call : Caller) (N : Nat) (all : List Oper) (ds : List Deferred) : List Oper → List (Option Nat) → Nat → T Value → AW → List Rc → List AW → T Value → AW → Prop
  | nil {hs : List (Option Nat)} {k : Nat} {F : T Value} {A : AW} : Passed P call N all ds [] hs k F A [] [] F A
  | quiet {o : Oper} {os : List Oper} {h : Option Nat} {hs : List (Option Nat)} {k : Nat} {F F1 F' : T Value} {A A' : AW} {v : Value} {rs : List Rc} {As : List AW} :
    What P call all ds o F A h v A false → putF N F o.dst v = some F1 → Passed P call N all ds os hs k F1 A rs As F' A' → Passed P call N all ds (o :: os) (h :: hs) k F A (⟨o, F, v, k, false⟩ :: rs) As F' A'
  | loud {o : Oper} {os : List Oper} {h : Option Nat} {hs : List (Option Nat)} {k : Nat} {F F1 F' : T Value} {A B A' : AW} {v : Value} {rs : List Rc} {As : List AW} :
    What P call all ds o F A h v B true → putF N F o.dst v = some F1 → Passed P call N all ds os hs (k + 1) F1 B rs As F' A' → Passed P call N all ds (o :: os) (h :: hs) k F A (⟨o, F, v, k, true⟩ :: rs) (B :: As) F' A'
theorem passed_of {all : List Oper} : ∀ (os : List Oper) (hs : List (Option Nat)) (k : Nat) (s s' : St) (rs : List Rc) (As : List AW), passOps P call N all os hs k s = some (rs, As, s') → s'.ds = s.ds ∧ Passed P call N all s.ds os hs k s.F s.A rs As s'.F s'.A := by
  intro os
  induction os with
  | nil =>
    intro hs k s s' rs As h
    have h : some ([], [], s) = some (rs, As, s') := h
    cases h
    exact ⟨rfl, .nil⟩
  | cons o os ih =>
    intro hs k s s' rs As h
    cases hs with
    | nil => cases h
    | cons h0 hs =>
      have h : pOne P call N all o h0 k s (passOps P call N all os hs) = some (rs, As, s') := h
      simp only [pOne, ob_some] at h
      obtain ⟨b, hb, h⟩ := h
      have quiet : ∀ v, What P call all s.ds o s.F s.A h0 v s.A false → pQuiet N o v k s (passOps P call N all os hs) = some (rs, As, s') → s'.ds = s.ds ∧ Passed P call N all s.ds (o :: os) (h0 :: hs) k s.F s.A rs As s'.F s'.A := by
        intro v hw hq
        simp only [pQuiet, ob_some, Option.some.injEq, Prod.mk.injEq] at hq
        obtain ⟨F1, hF, ⟨rs1, As1, s1⟩, hp, rfl, hq⟩ := hq
        cases hq
        obtain ⟨e, hP⟩ := ih _ _ _ _ _ _ hp
        exact ⟨e, .quiet hw hF hP⟩
      have eff : ∀ v B, What P call all s.ds o s.F s.A h0 v B true → pEff N o v B k s (passOps P call N all os hs) = some (rs, As, s') → s'.ds = s.ds ∧ Passed P call N all s.ds (o :: os) (h0 :: hs) k s.F s.A rs As s'.F s'.A := by
        intro v B hw hq
        simp only [pEff, ob_some, Option.some.injEq, Prod.mk.injEq] at hq
        obtain ⟨F1, hF, ⟨rs1, As1, s1⟩, hp, rfl, rfl, rfl⟩ := hq
        obtain ⟨e, hP⟩ := ih _ _ _ _ _ _ hp
        exact ⟨e, .loud hw hF hP⟩
      cases b with
      | false =>
        have h : (Bool.rec (pQuiet N o (.tuple #[]) k s (passOps P call N all os hs)) (pEff N o (.tuple #[]) s.A k s (passOps P call N all os hs)) (loudB P o) : Pass) = some (rs, As, s') := h
        have hw := What.off (P := P) (call := call) (ds := s.ds) (A := s.A) (h := h0) hb
        cases hl : loudB P o with
        | false => rw [hl] at h hw; exact quiet _ hw h
        | true => rw [hl] at h hw; exact eff _ _ hw h
      | true =>
        have h : pWant P call N o h0 k s (passOps P call N all os hs) = some (rs, As, s') := h
        unfold pWant at h
        cases h0 with
        | some id =>
          have h : (ob (madeV P s.F o.op id) fun v => pQuiet N o v k s (passOps P call N all os hs)) = some (rs, As, s') := h
          rw [ob_some] at h
          obtain ⟨v, hv, h⟩ := h
          exact quiet v (.made id hb rfl hv) h
        | none =>
          cases hi : isE P o.op with
          | false =>
            have h : (ob (evQ o.op P s.F s.A.heap) fun v => pQuiet N o v k s (passOps P call N all os hs)) = some (rs, As, s') := by
              have hins : insOf P o.op = .q (evQ o.op) := by unfold insOf; rw [hi]
              rw [hins] at h; exact h
            rw [ob_some] at h
            obtain ⟨v, hv, h⟩ := h
            exact quiet v (.quiet hb rfl hi hv) h
          | true =>
            have h : (ob (doFx call s.ds (evE o.op P s.F s.A)) fun p => pEff N o p.1 p.2.1 k s (passOps P call N all os hs)) = some (rs, As, s') := by
              have hins : insOf P o.op = .e (evE o.op) := by unfold insOf; rw [hi]
              rw [hins] at h; exact h
            rw [ob_some] at h
            obtain ⟨⟨v, B, ds'⟩, hv, h⟩ := h
            exact eff v B (.loud hb rfl hi hv) h
end Go.Ev
