/- The evaluator: a region whose order is drawn: what the pass tells of each operation. -/
import Derived.Test.YtamjbnfmpfgjcaaGreatDoorEvP
namespace Go.Ev
variable {P : Program} {σ σ' : Sg} {A A' : AW} {w w' : World} {N : Nat} {call : Caller}

def frAt (rs : List Rc) (F' : T Value) (i : Nat) : T Value := ((rs[i]?).map (·.F)).getD F'
theorem frAt_of {rs : List Rc} {F' : T Value} {i : Nat} {r : Rc} (h : rs[i]? = some r) : frAt rs F' i = r.F := by simp [frAt, h]
theorem frAt_succ (r : Rc) (rs : List Rc) (F' : T Value) (i : Nat) : frAt (r :: rs) F' (i + 1) = frAt rs F' i := by simp [frAt]
section
variable {all os : List Oper} {ds : List Deferred} {hs : List (Option Nat)} {k : Nat} {F F' : T Value} {rs : List Rc} {As : List AW}
theorem Passed.head (h : Passed P call N all ds os hs k F A rs As F' A') : frAt rs F' 0 = F := by cases h <;> rfl
theorem Passed.len (h : Passed P call N all ds os hs k F A rs As F' A') : rs.length = os.length := by
  induction h with
  | nil => rfl
  | quiet _ _ _ ih => simp [ih]
  | loud _ _ _ ih => simp [ih]
theorem Passed.last (h : Passed P call N all ds os hs k F A rs As F' A') : (A :: As)[As.length]? = some A' := by
  induction h with
  | nil => rfl
  | quiet _ _ _ ih => exact ih
  | loud _ _ _ ih => simpa using ih
theorem Passed.at (h : Passed P call N all ds os hs k F A rs As F' A') : ∀ (i : Nat) (r : Rc), rs[i]? = some r → ∃ h m A1 B, os[i]? = some r.o ∧ hs[i]? = some h ∧ r.at_ = k + m ∧ (A :: As)[m]? = some A1 ∧
    What P call all ds r.o r.F A1 h r.v B r.loud ∧ (r.loud = true → (A :: As)[m + 1]? = some B) ∧ (r.loud = false → B = A1) ∧ putF N r.F r.o.dst r.v = some (frAt rs F' (i + 1)) := by
  induction h with
  | nil => intro i r h; simp at h
  | @quiet o os h hs k F F1 F' A A' v rs As hw hp hP ih =>
    intro i r hr
    cases i with
    | zero =>
      simp at hr; subst hr
      refine ⟨h, 0, A, A, rfl, rfl, rfl, rfl, hw, fun hh => (by cases hh), fun _ => rfl, ?_⟩
      rw [frAt_succ, hP.head]; exact hp
    | succ i =>
      obtain ⟨h', m, A1, B, h1, h2, h3, h4, h5, h6, h7, h8⟩ := ih i r (by simpa using hr)
      exact ⟨h', m, A1, B, by simpa using h1, by simpa using h2, h3, h4, h5, h6, h7, by rw [frAt_succ]; exact h8⟩
  | @loud o os h hs k F F1 F' A B A' v rs As hw hp hP ih =>
    intro i r hr
    cases i with
    | zero =>
      simp at hr; subst hr
      refine ⟨h, 0, A, B, rfl, rfl, rfl, rfl, hw, fun _ => rfl, fun hh => (by cases hh), ?_⟩
      rw [frAt_succ, hP.head]; exact hp
    | succ i =>
      obtain ⟨h', m, A1, B', h1, h2, h3, h4, h5, h6, h7, h8⟩ := ih i r (by simpa using hr)
      exact ⟨h', m + 1, A1, B', by simpa using h1, by simpa using h2, by omega, by simpa using h4, h5, fun hl => by simpa using h6 hl, h7, by rw [frAt_succ]; exact h8⟩
theorem Passed.base (h : Passed P call N all ds os hs k F A rs As F' A') (i : Nat) (r : Rc) (hr : rs[i]? = some r) : k ≤ r.at_ := by
  obtain ⟨_, m, _, _, _, _, h3, _⟩ := h.at i r hr
  omega
theorem Passed.order (h : Passed P call N all ds os hs k F A rs As F' A') : ∀ (i j : Nat) (r q : Rc), i < j → rs[i]? = some r → rs[j]? = some q → r.loud = true → r.at_ < q.at_ := by
  induction h with
  | nil => intro i j r q _ h; simp at h
  | quiet hw hp hP ih =>
    intro i j r q hlt hr hq hl
    cases j with
    | zero => omega
    | succ j =>
      cases i with
      | zero => simp at hr; subst hr; cases hl
      | succ i => exact ih i j r q (by omega) (by simpa using hr) (by simpa using hq) hl
  | loud hw hp hP ih =>
    intro i j r q hlt hr hq hl
    cases j with
    | zero => omega
    | succ j =>
      cases i with
      | zero =>
        simp at hr; subst hr
        have := hP.base j q (by simpa using hq)
        show _ < q.at_
        simp only
        omega
      | succ i => exact ih i j r q (by omega) (by simpa using hr) (by simpa using hq) hl
theorem Passed.gap (h : Passed P call N all ds os hs k F A rs As F' A') : ∀ (j : Nat) (q : Rc) (c : Nat), rs[j]? = some q → k ≤ c → c < q.at_ → ∃ i r, i < j ∧ rs[i]? = some r ∧ r.loud = true ∧ r.at_ = c := by
  induction h with
  | nil => intro j q c h; simp at h
  | quiet hw hp hP ih =>
    intro j q c hq hk hc
    cases j with
    | zero => simp at hq; subst hq; simp only at hc; omega
    | succ j =>
      obtain ⟨i, r, h1, h2, h3, h4⟩ := ih j q c (by simpa using hq) hk hc
      exact ⟨i + 1, r, by omega, by simpa using h2, h3, h4⟩
  | @loud o os h hs k F F1 F' A B A' v rs As hw hp hP ih =>
    intro j q c hq hk hc
    cases j with
    | zero => simp at hq; subst hq; simp only at hc; omega
    | succ j =>
      by_cases hkc : k = c
      · exact ⟨0, _, by omega, rfl, rfl, hkc⟩
      · obtain ⟨i, r, h1, h2, h3, h4⟩ := ih j q c (by simpa using hq) (by omega) hc
        exact ⟨i + 1, r, by omega, by simpa using h2, h3, h4⟩
/-- A temporary that nothing writes between two operations. -/
theorem Passed.same (h : Passed P call N all ds os hs k F A rs As F' A') {t i : Nat} : ∀ (j : Nat), i ≤ j → j ≤ rs.length → (∀ x r, i ≤ x → x < j → rs[x]? = some r → r.o.dst ≠ some t) → (frAt rs F' j).get t = (frAt rs F' i).get t := by
  intro j
  induction j with
  | zero => intro hij _ _; rw [show i = 0 by omega]
  | succ j ih =>
    intro hij hj hn
    by_cases hi : i = j + 1
    · rw [hi]
    · have hlt : j < rs.length := by omega
      have hr : rs[j]? = some rs[j] := List.getElem?_eq_getElem hlt
      obtain ⟨_, _, _, _, _, _, _, _, _, _, _, hp⟩ := h.at j _ hr
      rw [← ih (by omega) (by omega) fun x r h1 h2 => hn x r h1 (by omega), frAt_of hr]
      have hd := hn j _ (by omega) (by omega) hr
      rcases putF_some hp with ⟨_, e⟩ | ⟨d, e1, _, e⟩
      · rw [e]
      · rw [e, get_set, if_neg]; intro e2; exact hd (by rw [e1, e2])
theorem What.loudIs {o : Oper} {h : Option Nat} {v : Value} {B : AW} {l : Bool} (hw : What P call all ds o F A h v B l) (hh : h = none ↔ hoists o = false) : l = loudB P o := by
  cases hw with
  | off _ => rfl
  | made id _ e _ =>
    have : hoists o = true := by cases hb : hoists o with
      | true => rfl
      | false => rw [hh.2 hb] at e; cases e
    unfold loudB; rw [this]
  | quiet _ e hi _ => unfold loudB; rw [hh.1 e]; exact hi.symm
  | loud _ e hi _ => unfold loudB; rw [hh.1 e]; exact hi.symm
/-- The loud operations, in a row. -/
theorem Passed.louds (h : Passed P call N all ds os hs k F A rs As F' A') (hh : ∀ (i : Nat) (o : Oper), os[i]? = some o → ∃ h, hs[i]? = some h ∧ (h = none ↔ hoists o = false)) :
    ∀ (ms : List Nat) (i0 : Nat), ms.length = os.length → (Ev.louds P os ms i0).length = As.length ∧ ∀ (j : Nat) (e : Nat × Nat), (Ev.louds P os ms i0)[j]? = some e → ∃ i r, e.1 = i0 + i ∧ rs[i]? = some r ∧ r.loud = true ∧ r.at_ = k + j ∧ ms[i]? = some e.2 := by
  induction h with
  | nil => intro ms i0 _; exact ⟨rfl, fun j e h => by simp [Ev.louds] at h⟩
  | @quiet o os h hs k F F1 F' A A' v rs As hw hp hP ih =>
    intro ms i0 hl
    cases ms with
    | nil => simp at hl
    | cons m ms =>
      obtain ⟨h', e1, e2⟩ := hh 0 o rfl
      simp at e1; subst e1
      have hlb := hw.loudIs e2
      have heq : Ev.louds P (o :: os) (m :: ms) i0 = Ev.louds P os ms (Nat.succ i0) := by
        show (Bool.rec _ _ (loudB P o) : List (Nat × Nat)) = _
        rw [← hlb]; rfl
      rw [heq]
      obtain ⟨g1, g2⟩ := ih (fun i o ho => by simpa using hh (i + 1) o (by simpa using ho)) ms (Nat.succ i0) (by simpa using hl)
      refine ⟨g1, fun j e he => ?_⟩
      obtain ⟨i, r, h1, h2, h3, h4, h5⟩ := g2 j e he
      exact ⟨i + 1, r, by rw [h1]; show i0 + 1 + i = _; omega, by simpa using h2, h3, h4, by simpa using h5⟩
  | @loud o os h hs k F F1 F' A B A' v rs As hw hp hP ih =>
    intro ms i0 hl
    cases ms with
    | nil => simp at hl
    | cons m ms =>
      obtain ⟨h', e1, e2⟩ := hh 0 o rfl
      simp at e1; subst e1
      have hlb := hw.loudIs e2
      have heq : Ev.louds P (o :: os) (m :: ms) i0 = (i0, m) :: Ev.louds P os ms (Nat.succ i0) := by
        show (Bool.rec _ _ (loudB P o) : List (Nat × Nat)) = _
        rw [← hlb]; rfl
      rw [heq]
      obtain ⟨g1, g2⟩ := ih (fun i o ho => by simpa using hh (i + 1) o (by simpa using ho)) ms (Nat.succ i0) (by simpa using hl)
      refine ⟨by simp [g1], fun j e he => ?_⟩
      cases j with
      | zero => simp at he; subst he; exact ⟨0, _, rfl, rfl, rfl, rfl, rfl⟩
      | succ j =>
        obtain ⟨i, r, h1, h2, h3, h4, h5⟩ := g2 j e (by simpa using he)
        exact ⟨i + 1, r, by rw [h1]; show i0 + 1 + i = _; omega, by simpa using h2, h3, by omega, by simpa using h5⟩
end
/- Windows. -/
theorem loOf_is {m : Nat} : ∀ {es : List (Nat × Nat)} {k acc : Nat}, loOf m es k acc = acc ∨ ∃ j e, es[j]? = some e ∧ tbit m e.1 = true ∧ loOf m es k acc = k + j + 1 := by
  intro es
  induction es with
  | nil => intro k acc; exact .inl rfl
  | cons e es ih =>
    intro k acc
    have heq : loOf m (e :: es) k acc = loOf m es (Nat.succ k) (Bool.rec acc (Nat.succ k) (tbit m e.1)) := rfl
    rw [heq]
    cases hb : tbit m e.1 with
    | false =>
      rcases ih (k := Nat.succ k) (acc := acc) with h | ⟨j, e', h1, h2, h3⟩
      · exact .inl h
      · exact .inr ⟨j + 1, e', by simpa using h1, h2, by rw [h3]; show k + 1 + j + 1 = _; omega⟩
    | true =>
      rcases ih (k := Nat.succ k) (acc := Nat.succ k) with h | ⟨j, e', h1, h2, h3⟩
      · exact .inr ⟨0, e, rfl, hb, by rw [h]⟩
      · exact .inr ⟨j + 1, e', by simpa using h1, h2, by rw [h3]; show k + 1 + j + 1 = _; omega⟩
theorem hiOf_is {i : Nat} : ∀ {es : List (Nat × Nat)} {k : Nat}, hiOf i es k = k + es.length ∨ ∃ j e, es[j]? = some e ∧ tbit e.2 i = true ∧ hiOf i es k = k + j := by
  intro es
  induction es with
  | nil => intro k; exact .inl rfl
  | cons e es ih =>
    intro k
    have heq : hiOf i (e :: es) k = (Bool.rec (hiOf i es (Nat.succ k)) k (tbit e.2 i) : Nat) := rfl
    rw [heq]
    cases hb : tbit e.2 i with
    | true => exact .inr ⟨0, e, rfl, hb, rfl⟩
    | false =>
      rcases ih (k := Nat.succ k) with h | ⟨j, e', h1, h2, h3⟩
      · exact .inl (by show hiOf i es (Nat.succ k) = _; rw [h]; show k + 1 + es.length = k + (es.length + 1); omega)
      · exact .inr ⟨j + 1, e', by simpa using h1, h2, by show hiOf i es (Nat.succ k) = _; rw [h3]; show k + 1 + j = _; omega⟩
theorem winOk_get {all : List Oper} {r : Rc} {h : Option Nat} {lo hi : Nat} : ∀ {As : List AW} {k : Nat}, winOk P all r h lo hi As k = true → ∀ (m : Nat) (A : AW), As[m]? = some A → lo ≤ k + m → k + m ≤ hi → isOwn h r (k + m) = false → againOk P all r h A.heap = true := by
  intro As
  induction As with
  | nil => intro k _ m A h; simp at h
  | cons A0 As ih =>
    intro k hw m A hA hlo hhi hown
    have hw : (Bool.rec (winOk P all r h lo hi As (Nat.succ k)) (Bool.rec false (winOk P all r h lo hi As (Nat.succ k)) (againOk P all r h A0.heap)) (Nat.ble lo k && (Nat.ble k hi && bnot (isOwn h r k))) : Bool) = true := hw
    cases m with
    | zero =>
      simp at hA; subst hA
      have hc : (Nat.ble lo k && (Nat.ble k hi && bnot (isOwn h r k))) = true := by
        rw [andTrue, andTrue]
        exact ⟨bleIff.2 (by omega), bleIff.2 (by omega), by rw [bnot_eq, show isOwn h r k = false from hown]; rfl⟩
      rw [hc] at hw
      exact (recTrue.1 hw).1
    | succ m =>
      have hrest : winOk P all r h lo hi As (Nat.succ k) = true := by
        cases hc : (Nat.ble lo k && (Nat.ble k hi && bnot (isOwn h r k))) with
        | false => rw [hc] at hw; exact hw
        | true => rw [hc] at hw; exact (recTrue.1 hw).2
      have e : Nat.succ k + m = k + (m + 1) := by show k + 1 + m = _; omega
      exact ih hrest m A (by simpa using hA) (by rw [e]; exact hlo) (by rw [e]; exact hhi) (by rw [e]; exact hown)
theorem winsOk_get {all : List Oper} {es : List (Nat × Nat)} {As : List AW} : ∀ {rs : List Rc} {hs : List (Option Nat)} {ms : List Nat} {i0 : Nat}, winsOk P all es As rs hs ms i0 = true → ∀ (i : Nat) (r : Rc), rs[i]? = some r →
    ∃ h m, hs[i]? = some h ∧ ms[i]? = some m ∧ (r.loud = true ∨ winOk P all r h (loOf m es 0 0) (hiOf (i0 + i) es 0) As 0 = true) := by
  intro rs
  induction rs with
  | nil => intro hs ms i0 _ i r h; simp at h
  | cons r0 rs ih =>
    intro hs ms i0 hw i r hr
    cases hs with
    | nil => cases hw
    | cons h hs =>
      cases ms with
      | nil => cases hw
      | cons m ms =>
        have hw : (Bool.rec false (winsOk P all es As rs hs ms (Nat.succ i0)) (r0.loud || winOk P all r0 h (loOf m es 0 0) (hiOf i0 es 0) As 0) : Bool) = true := hw
        obtain ⟨h1, h2⟩ := recTrue.1 hw
        cases i with
        | zero => simp at hr; subst hr; exact ⟨h, m, rfl, rfl, by simpa using h1⟩
        | succ i =>
          obtain ⟨h', m', g1, g2, g3⟩ := ih h2 i r (by simpa using hr)
          have e : Nat.succ i0 + i = i0 + (i + 1) := by show i0 + 1 + i = _; omega
          rw [e] at g3
          exact ⟨h', m', by simpa using g1, by simpa using g2, g3⟩

/- Values that are one. -/
theorem addrEq_eq {a b : Option Addr} (h : addrEq a b = true) : a = b := by
  cases a with
  | none => cases b with
    | none => rfl
    | some b => cases h
  | some a => cases b with
    | none => cases h
    | some b =>
      have h : (Nat.beq a.block b.block && (Nat.beq a.off b.off && (a.spot.isNone && b.spot.isNone))) = true := h
      obtain ⟨x, y, z⟩ := a; obtain ⟨x', y', z'⟩ := b
      simp only [Bool.and_eq_true, beqIff, Option.isNone_iff_eq_none] at h
      obtain ⟨rfl, rfl, rfl, rfl⟩ := h
      rfl
theorem intEq_eq {a b : Int} (h : intEq a b = true) : a = b := by
  cases a <;> cases b <;> first | (cases h; done) | (rw [beqIff.1 h])
theorem onatEq_eq {a b : Option Nat} (h : onatEq a b = true) : a = b := by
  cases a <;> cases b <;> first | rfl | (cases h; done) | (rw [beqIff.1 h])
theorem veq_eq {x y : Value} (h : veq x y = true) : x = y := by
  cases x with
  | bool a => cases y <;> first | (cases h; done) | (rename_i b; cases a <;> cases b <;> first | rfl | (cases h))
  | int j a => cases y <;> first | (cases h; done) | (rename_i k b; have h : (sameK j k && intEq a b) = true := h; rw [andTrue] at h; rw [sameK_eq h.1, intEq_eq h.2])
  | string a => cases y <;> first | (cases h; done) | (rename_i b; have h : bytesEq a.data.toList b.data.toList = true := h; obtain ⟨⟨a⟩⟩ := a; obtain ⟨⟨b⟩⟩ := b; rw [show a = b from (bytesEq_iff _ _).1 h])
  | pointer a => cases y <;> first | (cases h; done) | (rename_i b; rw [addrEq_eq (a := a) (b := b) h])
  | slice a l c => cases y <;> first | (cases h; done) | (rename_i b m d; have h : (addrEq a b && (Nat.beq l m && Nat.beq c d)) = true := h; rw [andTrue, andTrue] at h; rw [addrEq_eq h.1, beqIff.1 h.2.1, beqIff.1 h.2.2])
  | map a => cases y <;> first | (cases h; done) | (rename_i b; rw [onatEq_eq (a := a) (b := b) h])
  | nilFunc => cases y <;> first | rfl | (cases h; done)
  | nilIface => cases y <;> first | rfl | (cases h; done)
  | _ => cases h
theorem veqs_eq : ∀ {l m : List Value}, veqs l m = true → l = m := by
  intro l
  induction l with
  | nil => intro m h; cases m with
    | nil => rfl
    | cons b m => cases h
  | cons a l ih =>
    intro m h
    cases m with
    | nil => cases h
    | cons b m =>
      obtain ⟨h1, h2⟩ := recTrue.1 (show (Bool.rec false (veqs l m) (veq a b) : Bool) = true from h)
      rw [ih h2, veq_eq h1]
theorem veq2_eq {x y : Value} (h : veq2 x y = true) : x = y := by
  cases x with
  | agg a => cases y <;> first | (cases h; done) | (rename_i b; have h : veqs a.toList b.toList = true := h; rw [Array.toList_inj.1 (veqs_eq h)])
  | tuple a => cases y <;> first | (cases h; done) | (rename_i b; have h : veqs a.toList b.toList = true := h; rw [Array.toList_inj.1 (veqs_eq h)])
  | func f a c =>
    cases f with
    | func f =>
      cases y <;> try (cases h; done)
      rename_i g b d
      cases g <;> try (cases h; done)
      rename_i g
      have h : (Nat.beq f g && (veqs a.toList b.toList && veqs c.toList d.toList)) = true := h
      rw [andTrue, andTrue] at h
      rw [beqIff.1 h.1, Array.toList_inj.1 (veqs_eq h.2.1), Array.toList_inj.1 (veqs_eq h.2.2)]
    | _ => exact veq_eq h
  | _ => exact veq_eq h
theorem isSomeB_iff {α : Type} {x : Option α} : isSomeB x = true ↔ ∃ y, x = some y := by cases x <;> simp [isSomeB]
end Go.Ev
