/- The evaluator: a region whose order is drawn: what the pass tells of each operation. -/
import Derived.Test.YtfkacmmcgncooaaGreatDoorEvO
section
set_option linter.unusedSectionVars false
namespace Go.Ev
variable {P : Program} {σ σ' : Sg} {A A' : AW} {w w' : World} {N : Nat} {call : Caller} [Frozen P]
def frAt (rs : List Rc) (F' : T Value) (i : Nat) : T Value := ((rs[i]?).map (·.F)).getD F'
theorem frAt_of {rs : List Rc} {F' : T Value} {i : Nat} {r : Rc} (h : rs[i]? = some r) : frAt rs F' i = r.F := by simp [frAt, h]
theorem frAt_succ (r : Rc) (rs : List Rc) (F' : T Value) (i : Nat) : frAt (r :: rs) F' (i + 1) = frAt rs F' i := by simp [frAt]
section
variable {all os : List Oper} {ds : List Deferred} {hs : List (Option Nat)} {k : Nat} {F F' : T Value} {rs : List Rc} {As : List AW}
theorem Passed.head (h : Passed P call N all ds os hs k F A rs As F' A') : frAt rs F' 0 = F := by cases h <;> rfl
theorem Passed.len (h : Passed P call N all ds os hs k F A rs As F' A') : rs.length = os.length := by
  induction h with
  | nil => rfl
  | quiet _ _ _ ih => simp [ih]
  | loud _ _ _ ih => simp [ih]
theorem Passed.last (h : Passed P call N all ds os hs k F A rs As F' A') : (A :: As)[As.length]? = some A' := by
  induction h with
  | nil => rfl
  | quiet _ _ _ ih => exact ih
  | loud _ _ _ ih => simpa using ih
theorem Passed.at (h : Passed P call N all ds os hs k F A rs As F' A') : ∀ (i : Nat) (r : Rc), rs[i]? = some r → ∃ h m A1 B, os[i]? = some r.o ∧ hs[i]? = some h ∧ r.at_ = k + m ∧ (A :: As)[m]? = some A1 ∧
    What P call all ds r.o r.F A1 h r.v B r.loud ∧ (r.loud = true → (A :: As)[m + 1]? = some B) ∧ (r.loud = false → B = A1) ∧ putF N r.F r.o.dst r.v = some (frAt rs F' (i + 1)) := by
  induction h with
  | nil => intro i r h; simp at h
  | @quiet o os h hs k F F1 F' A A' v rs As hw hp hP ih =>
    intro i r hr
    cases i with
    | zero =>
      simp at hr; subst hr
      refine ⟨h, 0, A, A, rfl, rfl, rfl, rfl, hw, fun hh => (by cases hh), fun _ => rfl, ?_⟩
      rw [frAt_succ, hP.head]; exact hp
    | succ i =>
      obtain ⟨h', m, A1, B, h1, h2, h3, h4, h5, h6, h7, h8⟩ := ih i r (by simpa using hr)
      exact ⟨h', m, A1, B, by simpa using h1, by simpa using h2, h3, h4, h5, h6, h7, by rw [frAt_succ]; exact h8⟩
  | @loud o os h hs k F F1 F' A B A' v rs As hw hp hP ih =>
    intro i r hr
    cases i with
    | zero =>
      simp at hr; subst hr
      refine ⟨h, 0, A, B, rfl, rfl, rfl, rfl, hw, fun _ => rfl, fun hh => (by cases hh), ?_⟩
      rw [frAt_succ, hP.head]; exact hp
    | succ i =>
      obtain ⟨h', m, A1, B', h1, h2, h3, h4, h5, h6, h7, h8⟩ := ih i r (by simpa using hr)
      exact ⟨h', m + 1, A1, B', by simpa using h1, by simpa using h2, by omega, by simpa using h4, h5, fun hl => by simpa using h6 hl, h7, by rw [frAt_succ]; exact h8⟩
theorem Passed.base (h : Passed P call N all ds os hs k F A rs As F' A') (i : Nat) (r : Rc) (hr : rs[i]? = some r) : k ≤ r.at_ := by
  obtain ⟨_, m, _, _, _, _, h3, _⟩ := h.at i r hr
  omega
theorem Passed.order (h : Passed P call N all ds os hs k F A rs As F' A') : ∀ (i j : Nat) (r q : Rc), i < j → rs[i]? = some r → rs[j]? = some q → r.loud = true → r.at_ < q.at_ := by
  induction h with
  | nil => intro i j r q _ h; simp at h
  | quiet hw hp hP ih =>
    intro i j r q hlt hr hq hl
    cases j with
    | zero => omega
    | succ j =>
      cases i with
      | zero => simp at hr; subst hr; cases hl
      | succ i => exact ih i j r q (by omega) (by simpa using hr) (by simpa using hq) hl
  | loud hw hp hP ih =>
    intro i j r q hlt hr hq hl
    cases j with
    | zero => omega
    | succ j =>
      cases i with
      | zero =>
        simp at hr; subst hr
        have := hP.base j q (by simpa using hq)
        show _ < q.at_
        simp only
        omega
      | succ i => exact ih i j r q (by omega) (by simpa using hr) (by simpa using hq) hl
theorem Passed.gap (h : Passed P call N all ds os hs k F A rs As F' A') : ∀ (j : Nat) (q : Rc) (c : Nat), rs[j]? = some q → k ≤ c → c < q.at_ → ∃ i r, i < j ∧ rs[i]? = some r ∧ r.loud = true ∧ r.at_ = c := by
  induction h with
  | nil => intro j q c h; simp at h
  | quiet hw hp hP ih =>
    intro j q c hq hk hc
    cases j with
    | zero => simp at hq; subst hq; simp only at hc; omega
    | succ j =>
      obtain ⟨i, r, h1, h2, h3, h4⟩ := ih j q c (by simpa using hq) hk hc
      exact ⟨i + 1, r, by omega, by simpa using h2, h3, h4⟩
  | @loud o os h hs k F F1 F' A B A' v rs As hw hp hP ih =>
    intro j q c hq hk hc
    cases j with
    | zero => simp at hq; subst hq; simp only at hc; omega
    | succ j =>
      by_cases hkc : k = c
      · exact ⟨0, _, by omega, rfl, rfl, hkc⟩
      · obtain ⟨i, r, h1, h2, h3, h4⟩ := ih j q c (by simpa using hq) (by omega) hc
        exact ⟨i + 1, r, by omega, by simpa using h2, h3, h4⟩
theorem Passed.same (h : Passed P call N all ds os hs k F A rs As F' A') {t i : Nat} : ∀ (j : Nat), i ≤ j → j ≤ rs.length → (∀ x r, i ≤ x → x < j → rs[x]? = some r → r.o.dst ≠ some t) → (frAt rs F' j).get t = (frAt rs F' i).get t := by
  intro j
  induction j with
  | zero => intro hij _ _; rw [show i = 0 by omega]
  | succ j ih =>
    intro hij hj hn
    by_cases hi : i = j + 1
    · rw [hi]
    · have hlt : j < rs.length := by omega
      have hr : rs[j]? = some rs[j] := List.getElem?_eq_getElem hlt
      obtain ⟨_, _, _, _, _, _, _, _, _, _, _, hp⟩ := h.at j _ hr
      rw [← ih (by omega) (by omega) fun x r h1 h2 => hn x r h1 (by omega), frAt_of hr]
      have hd := hn j _ (by omega) (by omega) hr
      rcases putF_some hp with ⟨_, e⟩ | ⟨d, e1, _, e⟩
      · rw [e]
      · rw [e, get_set, if_neg]; intro e2; exact hd (by rw [e1, e2])
theorem What.loudIs {o : Oper} {h : Option Nat} {v : Value} {B : AW} {l : Bool} (hw : What P call all ds o F A h v B l) (hh : h = none ↔ hoists o = false) : l = loudB P o := by
  cases hw with
  | off _ => rfl
  | made id _ e _ =>
    have : hoists o = true := by cases hb : hoists o with
      | true => rfl
      | false => rw [hh.2 hb] at e; cases e
    unfold loudB; rw [this]
  | quiet _ e hi _ => unfold loudB; rw [hh.1 e, soft_isE hi]; exact hi.symm
  | soft _ e hs _ => unfold loudB; rw [hh.1 e, hs]
  | loud _ e hi hs _ => unfold loudB; rw [hh.1 e, hs]; exact hi.symm
theorem Passed.louds (h : Passed P call N all ds os hs k F A rs As F' A') (hh : ∀ (i : Nat) (o : Oper), os[i]? = some o → ∃ h, hs[i]? = some h ∧ (h = none ↔ hoists o = false)) :
    ∀ (ms : List Nat) (i0 : Nat), ms.length = os.length → (Ev.louds P os ms i0).length = As.length ∧ ∀ (j : Nat) (e : Nat × Nat), (Ev.louds P os ms i0)[j]? = some e → ∃ i r, e.1 = i0 + i ∧ rs[i]? = some r ∧ r.loud = true ∧ r.at_ = k + j ∧ ms[i]? = some e.2 := by
  induction h with
  | nil => intro ms i0 _; exact ⟨rfl, fun j e h => by simp [Ev.louds] at h⟩
  | @quiet o os h hs k F F1 F' A A' v rs As hw hp hP ih =>
    intro ms i0 hl
    cases ms with
    | nil => simp at hl
    | cons m ms =>
      obtain ⟨h', e1, e2⟩ := hh 0 o rfl
      simp at e1; subst e1
      have hlb := hw.loudIs e2
      have heq : Ev.louds P (o :: os) (m :: ms) i0 = Ev.louds P os ms (Nat.succ i0) := by
        show (Bool.rec _ _ (loudB P o) : List (Nat × Nat)) = _
        rw [← hlb]; rfl
      rw [heq]
      obtain ⟨g1, g2⟩ := ih (fun i o ho => by simpa using hh (i + 1) o (by simpa using ho)) ms (Nat.succ i0) (by simpa using hl)
      refine ⟨g1, fun j e he => ?_⟩
      obtain ⟨i, r, h1, h2, h3, h4, h5⟩ := g2 j e he
      exact ⟨i + 1, r, by rw [h1]; show i0 + 1 + i = _; omega, by simpa using h2, h3, h4, by simpa using h5⟩
  | @loud o os h hs k F F1 F' A B A' v rs As hw hp hP ih =>
    intro ms i0 hl
    cases ms with
    | nil => simp at hl
    | cons m ms =>
      obtain ⟨h', e1, e2⟩ := hh 0 o rfl
      simp at e1; subst e1
      have hlb := hw.loudIs e2
      have heq : Ev.louds P (o :: os) (m :: ms) i0 = (i0, m) :: Ev.louds P os ms (Nat.succ i0) := by
        show (Bool.rec _ _ (loudB P o) : List (Nat × Nat)) = _
        rw [← hlb]; rfl
      rw [heq]
      obtain ⟨g1, g2⟩ := ih (fun i o ho => by simpa using hh (i + 1) o (by simpa using ho)) ms (Nat.succ i0) (by simpa using hl)
      refine ⟨by simp [g1], fun j e he => ?_⟩
      cases j with
      | zero => simp at he; subst he; exact ⟨0, _, rfl, rfl, rfl, rfl, rfl⟩
      | succ j =>
        obtain ⟨i, r, h1, h2, h3, h4, h5⟩ := g2 j e (by simpa using he)
        exact ⟨i + 1, r, by rw [h1]; show i0 + 1 + i = _; omega, by simpa using h2, h3, by omega, by simpa using h5⟩
end
theorem loOf_is {m : Nat} : ∀ {es : List (Nat × Nat)} {k acc : Nat}, loOf m es k acc = acc ∨ ∃ j e, es[j]? = some e ∧ tbit m e.1 = true ∧ loOf m es k acc = k + j + 1 := by
  intro es
  induction es with
  | nil => intro k acc; exact .inl rfl
  | cons e es ih =>
    intro k acc
    have heq : loOf m (e :: es) k acc = loOf m es (Nat.succ k) (Bool.rec acc (Nat.succ k) (tbit m e.1)) := rfl
    rw [heq]
    cases hb : tbit m e.1 with
    | false =>
      rcases ih (k := Nat.succ k) (acc := acc) with h | ⟨j, e', h1, h2, h3⟩
      · exact .inl h
      · exact .inr ⟨j + 1, e', by simpa using h1, h2, by rw [h3]; show k + 1 + j + 1 = _; omega⟩
    | true =>
      rcases ih (k := Nat.succ k) (acc := Nat.succ k) with h | ⟨j, e', h1, h2, h3⟩
      · exact .inr ⟨0, e, rfl, hb, by rw [h]⟩
      · exact .inr ⟨j + 1, e', by simpa using h1, h2, by rw [h3]; show k + 1 + j + 1 = _; omega⟩
theorem hiOf_is {i : Nat} : ∀ {es : List (Nat × Nat)} {k : Nat}, hiOf i es k = k + es.length ∨ ∃ j e, es[j]? = some e ∧ tbit e.2 i = true ∧ hiOf i es k = k + j := by
  intro es
  induction es with
  | nil => intro k; exact .inl rfl
  | cons e es ih =>
    intro k
    have heq : hiOf i (e :: es) k = (Bool.rec (hiOf i es (Nat.succ k)) k (tbit e.2 i) : Nat) := rfl
    rw [heq]
    cases hb : tbit e.2 i with
    | true => exact .inr ⟨0, e, rfl, hb, rfl⟩
    | false =>
      rcases ih (k := Nat.succ k) with h | ⟨j, e', h1, h2, h3⟩
      · exact .inl (by show hiOf i es (Nat.succ k) = _; rw [h]; show k + 1 + es.length = k + (es.length + 1); omega)
      · exact .inr ⟨j + 1, e', by simpa using h1, h2, by show hiOf i es (Nat.succ k) = _; rw [h3]; show k + 1 + j = _; omega⟩
theorem winOk_get {all : List Oper} {r : Rc} {h : Option Nat} {lo hi : Nat} : ∀ {As : List AW} {k : Nat}, winOk P all r h lo hi As k = true → ∀ (m : Nat) (A : AW), As[m]? = some A → lo ≤ k + m → k + m ≤ hi → isOwn h r (k + m) = false → againOk P all r h A.heap = true := by
  intro As
  induction As with
  | nil => intro k _ m A h; simp at h
  | cons A0 As ih =>
    intro k hw m A hA hlo hhi hown
    have hw : (Bool.rec (winOk P all r h lo hi As (Nat.succ k)) (Bool.rec false (winOk P all r h lo hi As (Nat.succ k)) (againOk P all r h A0.heap)) (Nat.ble lo k && (Nat.ble k hi && bnot (isOwn h r k))) : Bool) = true := hw
    cases m with
    | zero =>
      simp at hA; subst hA
      have hc : (Nat.ble lo k && (Nat.ble k hi && bnot (isOwn h r k))) = true := by
        rw [andTrue, andTrue]
        exact ⟨bleIff.2 (by omega), bleIff.2 (by omega), by rw [bnot_eq, show isOwn h r k = false from hown]; rfl⟩
      rw [hc] at hw
      exact (recTrue.1 hw).1
    | succ m =>
      have hrest : winOk P all r h lo hi As (Nat.succ k) = true := by
        cases hc : (Nat.ble lo k && (Nat.ble k hi && bnot (isOwn h r k))) with
        | false => rw [hc] at hw; exact hw
        | true => rw [hc] at hw; exact (recTrue.1 hw).2
      have e : Nat.succ k + m = k + (m + 1) := by show k + 1 + m = _; omega
      exact ih hrest m A (by simpa using hA) (by rw [e]; exact hlo) (by rw [e]; exact hhi) (by rw [e]; exact hown)
theorem winsOk_get {all : List Oper} {es : List (Nat × Nat)} {As : List AW} : ∀ {rs : List Rc} {hs : List (Option Nat)} {ms : List Nat} {i0 : Nat}, winsOk P all es As rs hs ms i0 = true → ∀ (i : Nat) (r : Rc), rs[i]? = some r →
    ∃ h m, hs[i]? = some h ∧ ms[i]? = some m ∧ (r.loud = true ∨ winOk P all r h (loOf m es 0 0) (hiOf (i0 + i) es 0) As 0 = true) := by
  intro rs
  induction rs with
  | nil => intro hs ms i0 _ i r h; simp at h
  | cons r0 rs ih =>
    intro hs ms i0 hw i r hr
    cases hs with
    | nil => cases hw
    | cons h hs =>
      cases ms with
      | nil => cases hw
      | cons m ms =>
        have hw : (Bool.rec false (winsOk P all es As rs hs ms (Nat.succ i0)) (r0.loud || winOk P all r0 h (loOf m es 0 0) (hiOf i0 es 0) As 0) : Bool) = true := hw
        obtain ⟨h1, h2⟩ := recTrue.1 hw
        cases i with
        | zero => simp at hr; subst hr; exact ⟨h, m, rfl, rfl, by simpa using h1⟩
        | succ i =>
          obtain ⟨h', m', g1, g2, g3⟩ := ih h2 i r (by simpa using hr)
          have e : Nat.succ i0 + i = i0 + (i + 1) := by show i0 + 1 + i = _; omega
          rw [e] at g3
          exact ⟨h', m', by simpa using g1, by simpa using g2, g3⟩
theorem addrEq_eq {a b : Option Addr} (h : addrEq a b = true) : a = b := by
  cases a with
  | none => cases b with
    | none => rfl
    | some b => cases h
  | some a => cases b with
    | none => cases h
    | some b =>
      have h : (Nat.beq a.block b.block && (Nat.beq a.off b.off && (a.spot.isNone && b.spot.isNone))) = true := h
      obtain ⟨x, y, z⟩ := a; obtain ⟨x', y', z'⟩ := b
      simp only [Bool.and_eq_true, beqIff, Option.isNone_iff_eq_none] at h
      obtain ⟨rfl, rfl, rfl, rfl⟩ := h
      rfl
theorem intEq_eq {a b : Int} (h : intEq a b = true) : a = b := by
  cases a <;> cases b <;> first | (cases h; done) | (rw [beqIff.1 h])
theorem onatEq_eq {a b : Option Nat} (h : onatEq a b = true) : a = b := by
  cases a <;> cases b <;> first | rfl | (cases h; done) | (rw [beqIff.1 h])
theorem veq_eq {x y : Value} (h : veq x y = true) : x = y := by
  cases x with
  | bool a => cases y <;> first | (cases h; done) | (rename_i b; cases a <;> cases b <;> first | rfl | (cases h))
  | int j a => cases y <;> first | (cases h; done) | (rename_i k b; have h : (sameK j k && intEq a b) = true := h; rw [andTrue] at h; rw [sameK_eq h.1, intEq_eq h.2])
  | string a => cases y <;> first | (cases h; done) | (rename_i b; have h : bytesEq a.data.toList b.data.toList = true := h; obtain ⟨⟨a⟩⟩ := a; obtain ⟨⟨b⟩⟩ := b; rw [show a = b from (bytesEq_iff _ _).1 h])
  | pointer a => cases y <;> first | (cases h; done) | (rename_i b; rw [addrEq_eq (a := a) (b := b) h])
  | slice a l c => cases y <;> first | (cases h; done) | (rename_i b m d; have h : (addrEq a b && (Nat.beq l m && Nat.beq c d)) = true := h; rw [andTrue, andTrue] at h; rw [addrEq_eq h.1, beqIff.1 h.2.1, beqIff.1 h.2.2])
  | map a => cases y <;> first | (cases h; done) | (rename_i b; rw [onatEq_eq (a := a) (b := b) h])
  | nilFunc => cases y <;> first | rfl | (cases h; done)
  | nilIface => cases y <;> first | rfl | (cases h; done)
  | _ => cases h
theorem veqs_eq : ∀ {l m : List Value}, veqs l m = true → l = m := by
  intro l
  induction l with
  | nil => intro m h; cases m with
    | nil => rfl
    | cons b m => cases h
  | cons a l ih =>
    intro m h
    cases m with
    | nil => cases h
    | cons b m =>
      obtain ⟨h1, h2⟩ := recTrue.1 (show (Bool.rec false (veqs l m) (veq a b) : Bool) = true from h)
      rw [ih h2, veq_eq h1]
theorem veq2_eq {x y : Value} (h : veq2 x y = true) : x = y := by
  cases x with
  | agg a => cases y <;> first | (cases h; done) | (rename_i b; have h : veqs a.toList b.toList = true := h; rw [Array.toList_inj.1 (veqs_eq h)])
  | tuple a => cases y <;> first | (cases h; done) | (rename_i b; have h : veqs a.toList b.toList = true := h; rw [Array.toList_inj.1 (veqs_eq h)])
  | func f a c =>
    cases f with
    | func f =>
      cases y <;> try (cases h; done)
      rename_i g b d
      cases g <;> try (cases h; done)
      rename_i g
      have h : (Nat.beq f g && (veqs a.toList b.toList && veqs c.toList d.toList)) = true := h
      rw [andTrue, andTrue] at h
      rw [beqIff.1 h.1, Array.toList_inj.1 (veqs_eq h.2.1), Array.toList_inj.1 (veqs_eq h.2.2)]
    | _ => exact veq_eq h
  | _ => exact veq_eq h
theorem isSomeB_iff {α : Type} {x : Option α} : isSomeB x = true ↔ ∃ y, x = some y := by cases x <;> simp [isSomeB]
end Go.Ev
end

/- The evaluator: a region whose order is drawn: every order comes to the same. -/
section
set_option linter.unusedSectionVars false
namespace Go.Ev
variable {P : Program} {σ σ' : Sg} {A A' : AW} {w w' : World} {N : Nat} {call : Caller} [Frozen P]
structure Hoisted (os : List Oper) (A : AW) (hs : List (Option Nat)) (A1 : AW) : Prop where
  ok : ∀ (i : Nat) (o : Oper), os[i]? = some o → ∃ h, hs[i]? = some h ∧ (h = none ↔ hoists o = false)
  next : A.next ≤ A1.next
  ids : ∀ (i id : Nat), hs[i]? = some (some id) → A.next ≤ id ∧ id < A1.next
  lt : ∀ (i j id id' : Nat), i < j → hs[i]? = some (some id) → hs[j]? = some (some id') → id < id'
  old : ∀ j, j < A.next → A1.heap.get j = A.heap.get j
  top : (∀ j, A.next ≤ j → A.heap.get j = none) → ∀ j, A1.next ≤ j → A1.heap.get j = none
theorem hoist_ok {G : T Value} : ∀ (os : List Oper) (A : AW) (hs : List (Option Nat)) (A1 : AW), hoist P G os A = some (hs, A1) → Hoisted os A hs A1 := by
  intro os
  induction os with
  | nil =>
    intro A hs A1 h
    have h : some (([] : List (Option Nat)), A) = some (hs, A1) := h
    cases h
    exact ⟨fun i o h => by simp at h, Nat.le_refl _, fun i id h => by simp at h, fun i j id id' _ h => by simp at h, fun _ _ => rfl, fun h => h⟩
  | cons o os ih =>
    intro A hs A1 h
    have h : (Bool.rec (ob (hoist P G os A) fun p => some (none :: p.1, p.2)) (ob (madeO P G o.op) fun x => ob (hoist P G os (A.add x)) fun p => some (some A.next :: p.1, p.2)) (hoists o) : Option (List (Option Nat) × AW)) = some (hs, A1) := h
    cases hh : hoists o with
    | false =>
      rw [hh] at h
      simp only [ob_some, Option.some.injEq, Prod.mk.injEq] at h
      obtain ⟨⟨hs', B⟩, hp, rfl, rfl⟩ := h
      have k := ih A hs' _ hp
      refine ⟨fun i o' ho => ?_, k.next, fun i id hi => ?_, fun i j id id' hij hi hj => ?_, k.old, k.top⟩
      · cases i with
        | zero => simp at ho; subst ho; exact ⟨none, rfl, by simp [hh]⟩
        | succ i => simpa using k.ok i o' (by simpa using ho)
      · cases i with
        | zero => simp at hi
        | succ i => exact k.ids i id (by simpa using hi)
      · cases i with
        | zero => simp at hi
        | succ i =>
          cases j with
          | zero => omega
          | succ j => exact k.lt i j id id' (by omega) (by simpa using hi) (by simpa using hj)
    | true =>
      rw [hh] at h
      simp only [ob_some, Option.some.injEq, Prod.mk.injEq] at h
      obtain ⟨x, hB, ⟨hs', C⟩, hp, e1, e2⟩ := h
      simp only at e1 e2
      subst e1 e2
      have k := ih _ hs' _ hp
      have hn : (A.add x).next = A.next + 1 := rfl
      have hnext := k.next
      refine ⟨fun i o' ho => ?_, by omega, fun i id hi => ?_, fun i j id id' hij hi hj => ?_, fun j hj => ?_, fun ht => k.top fun j hj => by rw [hn] at hj; rw [heap_add, if_neg (by omega)]; exact ht j (by omega)⟩
      · cases i with
        | zero => simp at ho; subst ho; exact ⟨some A.next, rfl, by simp [hh]⟩
        | succ i => simpa using k.ok i o' (by simpa using ho)
      · cases i with
        | zero => simp at hi; subst hi; omega
        | succ i => have := k.ids i id (by simpa using hi); rw [hn] at this; omega
      · cases j with
        | zero => omega
        | succ j =>
          have := k.ids j id' (by simpa using hj)
          rw [hn] at this
          cases i with
          | zero => simp at hi; subst hi; omega
          | succ i => exact k.lt i j id id' (by omega) (by simpa using hi) (by simpa using hj)
      · rw [k.old j (by rw [hn]; omega), heap_add, if_neg (by omega)]
theorem Rel.place (hR : Rel P σ A w) {id d : Nat} {o : AO} {x : Obj} (hn : σ id = none) (hlt : id < A.next) (hg : A.heap.get id = some o) (hh : w'.heap = w.heap.push x) (hor : OR P σ d o x) : Rel P (ext σ id (w.heap.size, d)) A w' := by
  have hsub := sub_ext (w.heap.size, d) hn
  have hold : ∀ k, k < w.heap.size → w'.heap[k]? = w.heap[k]? := fun k hk => by rw [hh, Array.getElem?_push_lt hk, Array.getElem?_eq_getElem hk]
  have hnew : w'.heap[w.heap.size]? = some x := by rw [hh]; simp
  have hltb : ∀ {k y}, w.heap[k]? = some y → k < w.heap.size := fun {k y} h => (Array.getElem?_eq_some_iff.1 h).1
  have hnone : ∀ i d' o', σ i = some (w.heap.size, d') → A.heap.get i = some o' → live o' = true → False := fun i d' o' hi hg hl => by
    obtain ⟨y, hy, _⟩ := hR.obj i _ d' o' hi hg hl
    exact Nat.lt_irrefl _ (hltb hy)
  refine ⟨⟨?_, ?_, ?_, ?_, hR.top⟩, fun b x e => ?_⟩
  case' refine_5 =>
    obtain ⟨h1, h2⟩ := hR.fro b x e
    refine ⟨by rw [hold _ (hltb h1)]; exact h1, ?_⟩
    rintro ⟨j, d', oj, hj, hgj, hw⟩
    by_cases e : j = id
    · subst e; rw [ext_self] at hj; cases hj; exact Nat.lt_irrefl _ (hltb h1)
    · rw [ext_other _ e] at hj; exact h2 ⟨j, d', oj, hj, hgj, hw⟩
  · intro j b' d' oj hj hgj hlj
    by_cases e : j = id
    · subst e; rw [ext_self] at hj; cases hj; rw [hg] at hgj; cases hgj
      exact ⟨x, hnew, hor.sub hsub⟩
    · rw [ext_other _ e] at hj
      obtain ⟨y, hy, hor'⟩ := hR.obj j b' d' oj hj hgj hlj
      exact ⟨y, by rw [hold _ (hltb hy)]; exact hy, hor'.sub hsub⟩
  · intro j k b' d1 d2 oj ok hj hk hgj hgk hlj hlk hjk
    by_cases e : j = id <;> by_cases e2 : k = id
    · rw [e, e2]
    · subst e; rw [ext_self] at hj; cases hj; rw [ext_other _ e2] at hk; exact (hnone k d2 ok hk hgk hlk).elim
    · subst e2; rw [ext_self] at hk; cases hk; rw [ext_other _ e] at hj; exact (hnone j d1 oj hj hgj hlj).elim
    · rw [ext_other _ e] at hj; rw [ext_other _ e2] at hk
      exact hR.inj _ _ b' d1 d2 oj ok hj hk hgj hgk hlj hlk hjk
  · intro i hi; rw [ext_other _ (by omega)]; exact hR.lim i hi
  · intro g hg'
    rw [ext_other _ (fun e => by have := hR.glob g hg'; rw [e, hn] at this; cases this)]
    exact hR.glob g hg'
theorem Step.place {σ0 : Sg} {A0 : AW} {w0 : World} (hS : Step σ0 A0 w0 σ A w) {id d : Nat} {x : Obj} (hge : A0.next ≤ id) (hh : w'.heap = w.heap.push x) (h1 : w'.os = w.os) (h2 : w'.tape = w.tape) (h3 : w'.output = w.output) :
    Step σ0 A0 w0 (Ev.ext σ id (w.heap.size, d)) A w' := by
  have hold : ∀ k, k < w.heap.size → w'.heap[k]? = w.heap[k]? := fun k hk => by rw [hh, Array.getElem?_push_lt hk, Array.getElem?_eq_getElem hk]
  have hsz := hS.size
  refine ⟨fun i hi => ?_, hS.next, h1.trans hS.os, h2.trans hS.tape, h3.trans hS.output, by rw [hh]; simp; omega, fun b hb hw => ?_, ?_, ?_, hS.old⟩
  · rw [ext_other _ (by omega)]; exact hS.ext i hi
  · rw [hold b (by omega)]; exact hS.block b hb hw
  · rintro b hb ⟨i, d', o, hi, hg, hm⟩
    by_cases e : i = id
    · subst e; rw [ext_self] at hi; cases hi; omega
    · rw [ext_other _ e] at hi; exact hS.wr b hb ⟨i, d', o, hi, hg, hm⟩
  · intro i b d' o hi hs hg hl hb
    by_cases e : i = id
    · subst e; rw [ext_self] at hs; cases hs; omega
    · rw [ext_other _ e] at hs; exact hS.new i b d' o hi hs hg hl hb
theorem freshO_eq {x y : AO} (h : freshO x y = true) : y = x ∧ ((∃ c e, x = .row c e .own) ∨ x = .map [] 0) := by
  unfold freshO at h
  split at h
  · split at h
    · rw [andTrue, beqIff] at h
      obtain ⟨rfl, h2⟩ := h
      rw [veqs_eq h2]
      exact ⟨rfl, .inl ⟨_, _, rfl⟩⟩
    · cases h
  · split at h
    · exact ⟨rfl, .inr rfl⟩
    · cases h
  · cases h
theorem fresh_run {o : Oper} {id : Nat} {F : T Value} {a : Act} {v : Value} (hR : Rel P σ A w) (hO : OK P σ F a o.op.operands.toList) (hv : madeV P F o.op id = some v) (h : freshAt P F o.op id A.heap = true) :
    ∃ v' x ob, A.heap.get id = some ob ∧ (execOp a.eval o).run P w = .ok (.value v') { w with heap := w.heap.push x } ∧ OR P σ 0 ob x ∧ VR (ext σ id (w.heap.size, 0)) v v' := by
  unfold freshAt at h
  cases hm : madeO P F o.op with
  | none => rw [hm] at h; cases h
  | some x =>
    rw [hm] at h
    cases hg : A.heap.get id with
    | none => rw [hg] at h; cases h
    | some y =>
      rw [hg] at h
      obtain ⟨rfl, _⟩ := freshO_eq (show freshO x y = true from h)
      obtain ⟨dst, op, ty, pos, after, guard⟩ := o
      cases op <;> simp only [madeO] at hm <;> try (cases hm; done)
      case alloc e =>
        simp only [ob_some, Option.some.injEq] at hm
        obtain ⟨z, hz, rfl⟩ := hm
        have hv : some (Value.pointer (some ⟨id, 0, none⟩)) = some v := hv
        cases hv
        obtain ⟨zv, hzr, hzc, hzz⟩ := run_zero (σ := σ) hz w
        refine ⟨.pointer (some ⟨w.heap.size, 0, none⟩), .cells ⟨_⟩ _ (0, 0), _, rfl, ?_, ⟨.inr rfl, rowR_own hzz⟩, .ptr (ext_self _ _)⟩
        simp only [execOp, Instr.alloc, newVar, Sem.run_bind, hzr, Result.andThen_ok, hzc, run_newRow, Sem.run_pure]
      case makeMap t r =>
        cases r with
        | some r => cases hm
        | none =>
          have hm : some (AO.map [] 0) = some y := hm
          cases hm
          have hv : some (Value.map (some id)) = some v := hv
          cases hv
          refine ⟨.map (some w.heap.size), .map #[] 0, _, rfl, ?_, ⟨rfl, .nil⟩, .map (ext_self _ _)⟩
          simp only [execOp, Instr.makeMap, Option.map, Sem.run_bind, run_newObj, Result.andThen_ok, Sem.run_pure]
      case makeSlice t l c =>
        simp only [ob_some] at hm
        obtain ⟨lv, hlv, cv, hcv, hm⟩ := hm
        simp only [madeV, ob_some, Option.some.injEq] at hv
        obtain ⟨lv', hlv', cv', hcv', ln, hln, cn, hcn, rfl⟩ := hv
        rw [hlv] at hlv'; cases hlv'
        rw [hcv] at hcv'; cases hcv'
        simp only [madeS, ob_some, bt_some, Option.some.injEq] at hm
        obtain ⟨e, ht, ln', hln', cn', hcn', z, hz, i, hi, hzl, hle, hfew, rfl⟩ := hm
        rw [hln] at hln'; cases hln'
        rw [hcn] at hcn'; cases hcn'
        rw [sliceT_some] at ht
        rw [lenB_iff] at hzl
        rw [bleIff] at hle
        rw [i64V_some] at hln hcn
        subst hln hcn
        have h1 := (hO l (by simp [Op.operands]) _ hlv).of_flat rfl
        have h2 := (hO c (by simp [Op.operands]) _ hcv).of_flat rfl
        obtain ⟨_, _, _, hzz⟩ := run_zero (σ := σ) hz w
        refine ⟨.slice (some ⟨w.heap.size, 0, none⟩) ln cn, .cells ⟨lrep cn z⟩ e (0, 0), _, rfl, ?_, ⟨.inr rfl, rowR_own (hzz.lrep cn)⟩, .slice (ext_self _ _)⟩
        simp only [execOp, h1, h2, Sem.run_bind, makeSlice_core ht hz hi hzl hle hfew w, Result.andThen_ok, Sem.run_pure]
end Go.Ev
end
