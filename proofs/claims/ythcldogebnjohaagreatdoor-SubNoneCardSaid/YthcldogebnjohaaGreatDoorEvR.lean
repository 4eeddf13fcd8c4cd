/- The evaluator: a region whose order is drawn: every order comes to the same. -/
import Derived.Test.YthcldogebnjohaaGreatDoorEvP
set_option linter.unusedSectionVars false
namespace Go.Ev
variable {P : Program} {σ σ' : Sg} {A A' : AW} {w w' : World} {N : Nat} {call : Caller} [Frozen P]
structure Hoisted (os : List Oper) (A : AW) (hs : List (Option Nat)) (A1 : AW) : Prop where
  ok : ∀ (i : Nat) (o : Oper), os[i]? = some o → ∃ h, hs[i]? = some h ∧ (h = none ↔ hoists o = false)
  next : A.next ≤ A1.next
  ids : ∀ (i id : Nat), hs[i]? = some (some id) → A.next ≤ id ∧ id < A1.next
  lt : ∀ (i j id id' : Nat), i < j → hs[i]? = some (some id) → hs[j]? = some (some id') → id < id'
  old : ∀ j, j < A.next → A1.heap.get j = A.heap.get j
  top : (∀ j, A.next ≤ j → A.heap.get j = none) → ∀ j, A1.next ≤ j → A1.heap.get j = none
theorem hoist_ok {G : T Value} : ∀ (os : List Oper) (A : AW) (hs : List (Option Nat)) (A1 : AW), hoist P G os A = some (hs, A1) → Hoisted os A hs A1 := by
  intro os
  induction os with
  | nil =>
    intro A hs A1 h
    have h : some (([] : List (Option Nat)), A) = some (hs, A1) := h
    cases h
    exact ⟨fun i o h => by simp at h, Nat.le_refl _, fun i id h => by simp at h, fun i j id id' _ h => by simp at h, fun _ _ => rfl, fun h => h⟩
  | cons o os ih =>
    intro A hs A1 h
    have h : (Bool.rec (ob (hoist P G os A) fun p => some (none :: p.1, p.2)) (ob (madeO P G o.op) fun x => ob (hoist P G os (A.add x)) fun p => some (some A.next :: p.1, p.2)) (hoists o) : Option (List (Option Nat) × AW)) = some (hs, A1) := h
    cases hh : hoists o with
    | false =>
      rw [hh] at h
      simp only [ob_some, Option.some.injEq, Prod.mk.injEq] at h
      obtain ⟨⟨hs', B⟩, hp, rfl, rfl⟩ := h
      have k := ih A hs' _ hp
      refine ⟨fun i o' ho => ?_, k.next, fun i id hi => ?_, fun i j id id' hij hi hj => ?_, k.old, k.top⟩
      · cases i with
        | zero => simp at ho; subst ho; exact ⟨none, rfl, by simp [hh]⟩
        | succ i => simpa using k.ok i o' (by simpa using ho)
      · cases i with
        | zero => simp at hi
        | succ i => exact k.ids i id (by simpa using hi)
      · cases i with
        | zero => simp at hi
        | succ i =>
          cases j with
          | zero => omega
          | succ j => exact k.lt i j id id' (by omega) (by simpa using hi) (by simpa using hj)
    | true =>
      rw [hh] at h
      simp only [ob_some, Option.some.injEq, Prod.mk.injEq] at h
      obtain ⟨x, hB, ⟨hs', C⟩, hp, e1, e2⟩ := h
      simp only at e1 e2
      subst e1 e2
      have k := ih _ hs' _ hp
      have hn : (A.add x).next = A.next + 1 := rfl
      have hnext := k.next
      refine ⟨fun i o' ho => ?_, by omega, fun i id hi => ?_, fun i j id id' hij hi hj => ?_, fun j hj => ?_, fun ht => k.top fun j hj => by rw [hn] at hj; rw [heap_add, if_neg (by omega)]; exact ht j (by omega)⟩
      · cases i with
        | zero => simp at ho; subst ho; exact ⟨some A.next, rfl, by simp [hh]⟩
        | succ i => simpa using k.ok i o' (by simpa using ho)
      · cases i with
        | zero => simp at hi; subst hi; omega
        | succ i => have := k.ids i id (by simpa using hi); rw [hn] at this; omega
      · cases j with
        | zero => omega
        | succ j =>
          have := k.ids j id' (by simpa using hj)
          rw [hn] at this
          cases i with
          | zero => simp at hi; subst hi; omega
          | succ i => exact k.lt i j id id' (by omega) (by simpa using hi) (by simpa using hj)
      · rw [k.old j (by rw [hn]; omega), heap_add, if_neg (by omega)]
theorem Rel.place (hR : Rel P σ A w) {id d : Nat} {o : AO} {x : Obj} (hn : σ id = none) (hlt : id < A.next) (hg : A.heap.get id = some o) (hh : w'.heap = w.heap.push x) (hor : OR P σ d o x) : Rel P (ext σ id (w.heap.size, d)) A w' := by
  have hsub := sub_ext (w.heap.size, d) hn
  have hold : ∀ k, k < w.heap.size → w'.heap[k]? = w.heap[k]? := fun k hk => by rw [hh, Array.getElem?_push_lt hk, Array.getElem?_eq_getElem hk]
  have hnew : w'.heap[w.heap.size]? = some x := by rw [hh]; simp
  have hltb : ∀ {k y}, w.heap[k]? = some y → k < w.heap.size := fun {k y} h => (Array.getElem?_eq_some_iff.1 h).1
  have hnone : ∀ i d' o', σ i = some (w.heap.size, d') → A.heap.get i = some o' → live o' = true → False := fun i d' o' hi hg hl => by
    obtain ⟨y, hy, _⟩ := hR.obj i _ d' o' hi hg hl
    exact Nat.lt_irrefl _ (hltb hy)
  refine ⟨⟨?_, ?_, ?_, ?_, hR.top⟩, fun b x e => ?_⟩
  case' refine_5 =>
    obtain ⟨h1, h2⟩ := hR.fro b x e
    refine ⟨by rw [hold _ (hltb h1)]; exact h1, ?_⟩
    rintro ⟨j, d', oj, hj, hgj, hw⟩
    by_cases e : j = id
    · subst e; rw [ext_self] at hj; cases hj; exact Nat.lt_irrefl _ (hltb h1)
    · rw [ext_other _ e] at hj; exact h2 ⟨j, d', oj, hj, hgj, hw⟩
  · intro j b' d' oj hj hgj hlj
    by_cases e : j = id
    · subst e; rw [ext_self] at hj; cases hj; rw [hg] at hgj; cases hgj
      exact ⟨x, hnew, hor.sub hsub⟩
    · rw [ext_other _ e] at hj
      obtain ⟨y, hy, hor'⟩ := hR.obj j b' d' oj hj hgj hlj
      exact ⟨y, by rw [hold _ (hltb hy)]; exact hy, hor'.sub hsub⟩
  · intro j k b' d1 d2 oj ok hj hk hgj hgk hlj hlk hjk
    by_cases e : j = id <;> by_cases e2 : k = id
    · rw [e, e2]
    · subst e; rw [ext_self] at hj; cases hj; rw [ext_other _ e2] at hk; exact (hnone k d2 ok hk hgk hlk).elim
    · subst e2; rw [ext_self] at hk; cases hk; rw [ext_other _ e] at hj; exact (hnone j d1 oj hj hgj hlj).elim
    · rw [ext_other _ e] at hj; rw [ext_other _ e2] at hk
      exact hR.inj _ _ b' d1 d2 oj ok hj hk hgj hgk hlj hlk hjk
  · intro i hi; rw [ext_other _ (by omega)]; exact hR.lim i hi
  · intro g hg'
    rw [ext_other _ (fun e => by have := hR.glob g hg'; rw [e, hn] at this; cases this)]
    exact hR.glob g hg'
theorem Step.place {σ0 : Sg} {A0 : AW} {w0 : World} (hS : Step σ0 A0 w0 σ A w) {id d : Nat} {x : Obj} (hge : A0.next ≤ id) (hh : w'.heap = w.heap.push x) (h1 : w'.os = w.os) (h2 : w'.tape = w.tape) (h3 : w'.output = w.output) :
    Step σ0 A0 w0 (Ev.ext σ id (w.heap.size, d)) A w' := by
  have hold : ∀ k, k < w.heap.size → w'.heap[k]? = w.heap[k]? := fun k hk => by rw [hh, Array.getElem?_push_lt hk, Array.getElem?_eq_getElem hk]
  have hsz := hS.size
  refine ⟨fun i hi => ?_, hS.next, h1.trans hS.os, h2.trans hS.tape, h3.trans hS.output, by rw [hh]; simp; omega, fun b hb hw => ?_, ?_, ?_, hS.old⟩
  · rw [ext_other _ (by omega)]; exact hS.ext i hi
  · rw [hold b (by omega)]; exact hS.block b hb hw
  · rintro b hb ⟨i, d', o, hi, hg, hm⟩
    by_cases e : i = id
    · subst e; rw [ext_self] at hi; cases hi; omega
    · rw [ext_other _ e] at hi; exact hS.wr b hb ⟨i, d', o, hi, hg, hm⟩
  · intro i b d' o hi hs hg hl hb
    by_cases e : i = id
    · subst e; rw [ext_self] at hs; cases hs; omega
    · rw [ext_other _ e] at hs; exact hS.new i b d' o hi hs hg hl hb
theorem freshO_eq {x y : AO} (h : freshO x y = true) : y = x ∧ ((∃ c e, x = .row c e .own) ∨ x = .map [] 0) := by
  unfold freshO at h
  split at h
  · split at h
    · rw [andTrue, beqIff] at h
      obtain ⟨rfl, h2⟩ := h
      rw [veqs_eq h2]
      exact ⟨rfl, .inl ⟨_, _, rfl⟩⟩
    · cases h
  · split at h
    · exact ⟨rfl, .inr rfl⟩
    · cases h
  · cases h
theorem fresh_run {o : Oper} {id : Nat} {F : T Value} {a : Act} {v : Value} (hR : Rel P σ A w) (hO : OK P σ F a o.op.operands.toList) (hv : madeV P F o.op id = some v) (h : freshAt P F o.op id A.heap = true) :
    ∃ v' x ob, A.heap.get id = some ob ∧ (execOp a.eval o).run P w = .ok (.value v') { w with heap := w.heap.push x } ∧ OR P σ 0 ob x ∧ VR (ext σ id (w.heap.size, 0)) v v' := by
  unfold freshAt at h
  cases hm : madeO P F o.op with
  | none => rw [hm] at h; cases h
  | some x =>
    rw [hm] at h
    cases hg : A.heap.get id with
    | none => rw [hg] at h; cases h
    | some y =>
      rw [hg] at h
      obtain ⟨rfl, _⟩ := freshO_eq (show freshO x y = true from h)
      obtain ⟨dst, op, ty, pos, after, guard⟩ := o
      cases op <;> simp only [madeO] at hm <;> try (cases hm; done)
      case alloc e =>
        simp only [ob_some, Option.some.injEq] at hm
        obtain ⟨z, hz, rfl⟩ := hm
        have hv : some (Value.pointer (some ⟨id, 0, none⟩)) = some v := hv
        cases hv
        obtain ⟨zv, hzr, hzc, hzz⟩ := run_zero (σ := σ) hz w
        refine ⟨.pointer (some ⟨w.heap.size, 0, none⟩), .cells ⟨_⟩ _ (0, 0), _, rfl, ?_, ⟨.inr rfl, rowR_own hzz⟩, .ptr (ext_self _ _)⟩
        simp only [execOp, Instr.alloc, newVar, Sem.run_bind, hzr, Result.andThen_ok, hzc, run_newRow, Sem.run_pure]
      case makeMap t r =>
        cases r with
        | some r => cases hm
        | none =>
          have hm : some (AO.map [] 0) = some y := hm
          cases hm
          have hv : some (Value.map (some id)) = some v := hv
          cases hv
          refine ⟨.map (some w.heap.size), .map #[] 0, _, rfl, ?_, ⟨rfl, .nil⟩, .map (ext_self _ _)⟩
          simp only [execOp, Instr.makeMap, Option.map, Sem.run_bind, run_newObj, Result.andThen_ok, Sem.run_pure]
      case makeSlice t l c =>
        simp only [ob_some] at hm
        obtain ⟨lv, hlv, cv, hcv, hm⟩ := hm
        simp only [madeV, ob_some, Option.some.injEq] at hv
        obtain ⟨lv', hlv', cv', hcv', ln, hln, cn, hcn, rfl⟩ := hv
        rw [hlv] at hlv'; cases hlv'
        rw [hcv] at hcv'; cases hcv'
        simp only [madeS, ob_some, bt_some, Option.some.injEq] at hm
        obtain ⟨e, ht, ln', hln', cn', hcn', z, hz, i, hi, hzl, hle, hfew, rfl⟩ := hm
        rw [hln] at hln'; cases hln'
        rw [hcn] at hcn'; cases hcn'
        rw [sliceT_some] at ht
        rw [lenB_iff] at hzl
        rw [bleIff] at hle
        rw [i64V_some] at hln hcn
        subst hln hcn
        have h1 := (hO l (by simp [Op.operands]) _ hlv).of_flat rfl
        have h2 := (hO c (by simp [Op.operands]) _ hcv).of_flat rfl
        obtain ⟨_, _, _, hzz⟩ := run_zero (σ := σ) hz w
        refine ⟨.slice (some ⟨w.heap.size, 0, none⟩) ln cn, .cells ⟨lrep cn z⟩ e (0, 0), _, rfl, ?_, ⟨.inr rfl, rowR_own (hzz.lrep cn)⟩, .slice (ext_self _ _)⟩
        simp only [execOp, h1, h2, Sem.run_bind, makeSlice_core ht hz hi hzl hle hfew w, Result.andThen_ok, Sem.run_pure]
end Go.Ev
