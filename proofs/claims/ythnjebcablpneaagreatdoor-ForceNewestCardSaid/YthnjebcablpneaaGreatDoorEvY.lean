/- Operations that leave the heap as it is: in a region that draws its order they may be taken first, in the text's order. -/
import Derived.OrdersHeld
import Derived.Calls
import Derived.Laws.Sem
set_option maxRecDepth 10000
namespace Go.Ev
/-- Where it comes to an end, the heap is as it was. -/
def Keeps {α : Type} (s : Sem α) : Prop := ∀ (P : Program) (w : World) (x : α) (w' : World), s.run P w = .ok x w' → w'.heap = w.heap
variable {α β : Type}
theorem Keeps.halt (h : Halt) : Keeps (.halt h : Sem α) := fun P w x w' e => by simp [Sem.run] at e
theorem Keeps.stuck (s : String) : Keeps (stuck s : Sem α) := .halt _
theorem Keeps.unsupported (u : Unsupported) : Keeps (unsupported u : Sem α) := .halt _
theorem Keeps.pure (a : α) : Keeps (pure a : Sem α) := fun P w x w' e => by
  rw [Sem.run_pure] at e; cases e; rfl
theorem Keeps.bind {s : Sem α} {f : α → Sem β} (hs : Keeps s) (hf : ∀ a, Keeps (f a)) : Keeps (s >>= f) := fun P w x w' e => by
  rw [Sem.run_bind] at e
  cases hr : s.run P w with
  | ok a w1 =>
    rw [hr] at e
    exact (hf a P w1 x w' e).trans (hs P w a w1 hr)
  | halt h w1 => rw [hr] at e; cases e
theorem Keeps.program : Keeps program := fun P w x w' e => by
  have e : (.ok P w : Result Program) = .ok x w' := e
  cases e; rfl
theorem Keeps.shape (r : Nat) : Keeps (shape r) := fun P w x w' e => by
  have e : (.ok (w.shape? r) w : Result _) = .ok x w' := e
  cases e; rfl
theorem Keeps.frozen (a : Addr) : Keeps (frozen a) := fun P w x w' e => by
  have e : (.ok (w.frozen? a) w : Result _) = .ok x w' := e
  cases e; rfl
theorem Keeps.choose (q : Question) : Keeps (choose q) := fun P w x w' e => by
  unfold Go.choose at e
  simp only [Sem.run] at e
  split at e <;> (cases e; rfl)
theorem Keeps.getObj (r : Nat) : Keeps (getObj r) := fun P w x w' e => by
  unfold Go.getObj at e
  simp only [Sem.run] at e
  split at e
  · cases e
  · cases e; rfl
  · cases e
theorem Keeps.load (a : Addr) : Keeps (load a) := fun P w x w' e => by
  unfold Go.load at e
  simp only [Sem.run] at e
  split at e
  · cases e; rfl
  · split at e
    · cases e; rfl
    · cases e
theorem Keeps.typeInfo (t : TypeId) : Keeps (typeInfo t) := by
  unfold Go.typeInfo
  refine Keeps.program.bind fun P => ?_
  split
  · exact .pure _
  · exact .stuck _
theorem Keeps.underlying (t : TypeId) : Keeps (underlying t) := by
  unfold Go.underlying
  refine Keeps.program.bind fun P => ?_
  split
  · exact .pure _
  · exact .stuck _
theorem Keeps.sizeOf (t : TypeId) : Keeps (sizeOf t) := (Keeps.typeInfo t).bind fun _ => .pure _
theorem Keeps.isAgg (t : TypeId) : Keeps (isAgg t) := by
  unfold Go.isAgg
  refine (Keeps.underlying t).bind fun d => ?_
  split <;> exact .pure _
theorem Keeps.loadCellsFrom (a : Addr) : ∀ (n i : Nat) (acc : Array Value), Keeps (loadCellsFrom a i n acc)
  | 0, _, _ => .pure _
  | n + 1, i, acc => (Keeps.load _).bind fun v => Keeps.loadCellsFrom a n (i + 1) _
theorem Keeps.loadVar (t : TypeId) (a : Addr) : Keeps (loadVar t a) := by
  unfold Go.loadVar
  refine (Keeps.isAgg t).bind fun b => ?_
  split
  · exact (Keeps.sizeOf t).bind fun n => (Keeps.loadCellsFrom a n 0 #[]).bind fun _ => .pure _
  · exact .load a
theorem Keeps.sureAddr (v : Value) : Keeps (Instr.sureAddr v) := by
  unfold Instr.sureAddr
  split
  · exact .pure _
  · exact .stuck _
theorem Keeps.loadAt (t : TypeId) (v : Value) : Keeps (Instr.loadAt t v) := (Keeps.sureAddr v).bind fun a => .loadVar t a
def Dead {α : Type} (s : Sem α) : Prop := ∀ (P : Program) (w : World) (x : α) (w' : World), s.run P w ≠ .ok x w'
theorem Dead.keeps {s : Sem α} (h : Dead s) : Keeps s := fun P w x w' e => absurd e (h P w x w')
theorem Dead.bind {s : Sem α} {f : α → Sem β} (hf : ∀ a, Dead (f a)) : Dead (s >>= f) := fun P w x w' e => by
  rw [Sem.run_bind] at e
  cases hs : s.run P w with
  | ok a w1 => rw [hs] at e; exact hf a P w1 x w' e
  | halt h w1 => rw [hs] at e; cases e
theorem Dead.goPanic (v : Value) : Dead (goPanic v : Sem α) := fun P w x w' e => by simp [Go.goPanic, Sem.run] at e
theorem Dead.runtimePanic (e : RuntimeError) : Dead (runtimePanic e : Sem α) := by
  unfold Go.runtimePanic
  refine Dead.bind fun p => ?_
  cases e <;> simp only
  all_goals first
    | exact Dead.goPanic _
    | exact Dead.bind fun _ => Dead.bind fun _ => Dead.goPanic _
theorem Keeps.runtimePanic (e : RuntimeError) : Keeps (runtimePanic e : Sem α) := (Dead.runtimePanic e).keeps
theorem Keeps.boundsPanic (k : IntKind) (x y : Int) (c : BoundsCode) : Keeps (boundsPanic k x y c : Sem α) := by
  unfold Go.boundsPanic
  dsimp only
  split
  · exact ((Keeps.choose _).bind fun _ => .pure _).bind fun _ => .runtimePanic _
  · exact (Keeps.pure _).bind fun _ => .runtimePanic _
theorem Keeps.asIntOf (v : Value) : Keeps (asIntOf v) := by
  unfold Go.asIntOf
  split
  · exact .pure _
  · exact .unsupported _
  · exact .stuck _
theorem Keeps.asBool (v : Value) : Keeps (asBool v) := by
  unfold Go.asBool
  split
  · exact .pure _
  · exact .stuck _
theorem Keeps.asAddr (v : Value) : Keeps (asAddr v) := by
  unfold Go.asAddr
  repeat' first
    | exact Keeps.pure _
    | exact Keeps.stuck _
    | exact Keeps.unsupported _
    | exact Keeps.runtimePanic _
    | split
theorem Keeps.asAgg (v : Value) : Keeps (asAgg v) := by
  unfold Go.asAgg
  split
  · exact .pure _
  · exact .stuck _
theorem Keeps.viewAt (r : Nat) : Keeps (viewAt r) := by
  unfold Go.viewAt
  refine (Keeps.shape r).bind fun o => ?_
  split
  · exact .pure _
  · refine (Keeps.getObj r).bind fun o => ?_
    split <;> exact .pure _
theorem Keeps.noView (a : Addr) : Keeps (noView a) := by
  unfold Go.noView
  refine (Keeps.viewAt _).bind fun o => ?_
  split
  · exact .unsupported _
  · exact .pure _
theorem Keeps.byteOf (a : Addr) : Keeps (byteOf a) := by
  unfold Go.byteOf
  split
  · exact .pure _
  · refine Keeps.program.bind fun p => (Keeps.noView a).bind fun _ => (Keeps.shape _).bind fun o => ?_
    split
    · dsimp only
      split
      · exact .pure _
      · split
        · exact .pure _
        · exact .stuck _
    · exact .stuck _
theorem Keeps.partAt (a : Addr) (o b : Nat) : Keeps (partAt a o b) := by
  unfold Go.partAt
  exact (Keeps.byteOf _).bind fun _ => (Keeps.byteOf _).bind fun _ => .pure _
theorem Keeps.fieldPlace (a : Addr) (f : Field) : Keeps (fieldPlace a f) := by
  unfold Go.fieldPlace
  refine (Keeps.sizeOf _).bind fun n => ?_
  split
  · exact .partAt _ _ _
  · exact .pure _
theorem Keeps.fieldAt (s : TypeId) (x : Value) (f : Nat) : Keeps (Instr.fieldAt s x f) := by
  unfold Instr.fieldAt
  refine (Keeps.underlying s).bind fun d => ?_
  split
  · split
    · exact (Keeps.sureAddr x).bind fun a => (Keeps.fieldPlace a _).bind fun _ => .pure _
    · exact .stuck _
  · exact .stuck _
theorem Keeps.sliceBound (x : Value) (y : Nat) (c : BoundsCode) : Keeps (Instr.sliceBound x y c) := by
  unfold Instr.sliceBound
  refine (Keeps.asIntOf x).bind fun ⟨k, i⟩ => ?_
  dsimp only
  split
  · exact .pure _
  · exact .boundsPanic _ _ _ _
theorem Keeps.sliceBounds (b : Bool) (len cap : Nat) (lo hi mx : Option Value) : Keeps (Instr.sliceBounds b len cap lo hi mx) := by
  unfold Instr.sliceBounds
  dsimp only
  repeat' first
    | exact Keeps.pure _
    | exact Keeps.stuck _
    | exact Keeps.sliceBound _ _ _
    | (refine Keeps.bind ?_ fun _ => ?_)
    | split
theorem Keeps.slice (t : TypeId) (x : Value) (lo hi mx : Option Value) : Keeps (Instr.slice t x lo hi mx) := by
  unfold Instr.slice
  refine (Keeps.underlying t).bind fun d => ?_
  repeat' first
    | exact Keeps.pure _
    | exact Keeps.stuck _
    | exact Keeps.sliceBounds _ _ _ _ _ _
    | exact Keeps.sizeOf _
    | exact Keeps.underlying _
    | exact Keeps.asAddr _
    | (refine Keeps.bind ?_ fun _ => ?_)
    | split
    | dsimp only
/-- .. and what it comes to is a value. -/
def KeepsN (s : Sem Next) : Prop := ∀ (P : Program) (w : World) (x : Next) (w' : World), s.run P w = .ok x w' → w'.heap = w.heap ∧ ∃ v, x = .value v
theorem KeepsN.pure (v : Value) : KeepsN (Pure.pure (Next.value v)) := fun P w x w' e => by
  rw [Sem.run_pure] at e; cases e; exact ⟨rfl, _, rfl⟩
theorem KeepsN.of {s : Sem Value} (hs : Keeps s) : KeepsN (s >>= fun v => Pure.pure (Next.value v)) := fun P w x w' e => by
  rw [Sem.run_bind] at e
  cases hr : s.run P w with
  | ok a w1 =>
    rw [hr] at e
    simp only [Result.andThen_ok, Sem.run_pure] at e
    cases e
    exact ⟨hs P w a _ hr, _, rfl⟩
  | halt h w1 => rw [hr] at e; cases e
theorem KeepsN.bind {s : Sem α} {f : α → Sem Next} (hs : Keeps s) (hf : ∀ a, KeepsN (f a)) : KeepsN (s >>= f) := fun P w x w' e => by
  rw [Sem.run_bind] at e
  cases hr : s.run P w with
  | ok a w1 =>
    rw [hr] at e
    obtain ⟨h1, h2⟩ := hf a P w1 x w' e
    exact ⟨h1.trans (hs P w a w1 hr), h2⟩
  | halt h w1 => rw [hr] at e; cases e
theorem Keeps.extract (t : Value) (i : Nat) : Keeps (Instr.extract t i) := by
  unfold Instr.extract
  repeat' first
    | exact Keeps.pure _
    | exact Keeps.stuck _
    | split
theorem Keeps.sliceAt (t : TypeId) (x : Value) (lo hi mx : Option Value) : Keeps (Instr.sliceAt t x lo hi mx) := by
  unfold Instr.sliceAt
  refine (Keeps.underlying t).bind fun d => ?_
  split
  · exact (Keeps.sureAddr x).bind fun a => (Keeps.sliceBounds _ _ _ _ _ _).bind fun q => (Keeps.sizeOf _).bind fun _ => .pure _
  · exact .slice _ _ _ _ _
theorem Keeps.len_ (ts : Array TypeId) (t : TypeId) (xs : Array Value) : Keeps (Builtin.len_ ts t xs) := by
  unfold Builtin.len_
  repeat' first
    | exact Keeps.pure _
    | exact Keeps.stuck _
    | exact Keeps.unsupported _
    | exact Keeps.underlying _
    | exact Keeps.getObj _
    | exact Keeps.runtimePanic _
    | (refine Keeps.bind ?_ fun _ => ?_)
    | split
    | dsimp only
theorem Keeps.stringOp (op : BinOp) (x y : ByteArray) : Keeps (Op.stringOp op x y) := by
  unfold Op.stringOp
  dsimp only
  repeat' first
    | exact Keeps.pure _
    | exact Keeps.stuck _
    | exact Keeps.unsupported _
    | split
theorem Keeps.min2 (x y : Value) : Keeps (Builtin.min2 x y) := by
  unfold Builtin.min2
  repeat' first
    | exact Keeps.pure _
    | exact Keeps.stuck _
    | exact Keeps.unsupported _
    | exact Keeps.choose _
    | exact Keeps.asBool _
    | exact Keeps.stringOp _ _ _
    | (refine Keeps.bind ?_ fun _ => ?_)
    | split
    | dsimp only
theorem Keeps.foldlM {f : Value → Value → Sem Value} (hf : ∀ a b, Keeps (f a b)) : ∀ (l : List Value) (x : Value), Keeps (l.foldlM f x)
  | [], x => .pure x
  | y :: l, x => (hf x y).bind fun z => Keeps.foldlM hf l z
theorem Keeps.min_ (ts : Array TypeId) (t : TypeId) (xs : Array Value) : Keeps (Builtin.min_ ts t xs) := by
  unfold Builtin.min_
  split
  · exact .stuck _
  · exact Keeps.foldlM (fun _ _ => Keeps.min2 _ _) _ _
def leavesB : Op → Bool
  | .move _ | .assign _ | .pick .. | .load .. | .slice .. | .fieldAddr .. | .extract .. => true
  | .call c => match c.callee with
    | .builtin .len | .builtin .min => true
    | _ => false
  | _ => false
theorem leavesB_ok {o : Oper} (h : leavesB o.op = true) (ρ : Operand → Value) : KeepsN (execOp ρ o) := by
  unfold execOp
  dsimp only
  cases ho : o.op <;> rw [ho] at h <;> first | (cases h; done) | skip
  case move x => exact .pure _
  case assign x => exact .pure _
  case pick c a b => exact KeepsN.bind (Keeps.asBool _) fun _ => .pure _
  case load t a => exact .of (.loadAt _ _)
  case slice t x lo hi mx => exact .of (.sliceAt _ _ _ _ _)
  case fieldAddr s x f => exact .of (.fieldAt _ _ _)
  case extract t i => exact .of (.extract _ _)
  case call c =>
    unfold leavesB at h
    dsimp only at h
    unfold resolve
    split at h
    · rename_i hc
      simp only [hc]
      exact KeepsN.of (Keeps.len_ _ _ _)
    · rename_i hc
      simp only [hc]
      exact KeepsN.of (Keeps.min_ _ _ _)
    · cases h
section
variable {P : Program} {ops : Array Oper} {Q : Exit → Act → World → Prop} {md : Region.Mode}
theorem wpOp_keep {j : Nat} {oj : Oper} (hj : ops[j]? = some oj) (hk : leavesB oj.op = true) {K : Act → World → Prop} {a : Act} {w : World} (h : wpOp P ops Q j K a w) :
    wpOp P ops Q j (fun a' w' => w'.heap = w.heap ∧ K a' w') a w := by
  unfold wpOp at *
  simp only [hj] at *
  split
  · rename_i hw
    simp only [hw, if_true] at h
    rcases h with h | h
    case inr => exact .inr h
    refine .inl ?_
    unfold Oper.wp at *
    cases hr : (execOp a.eval oj).run P w with
    | ok n w' =>
      obtain ⟨h1, v, rfl⟩ := leavesB_ok hk a.eval P w n w' hr
      rw [hr] at h
      simp only [Oper.upon] at h ⊢
      exact ⟨h1, h⟩
    | halt x w' =>
      rw [hr] at h
      cases x <;> simp only [Oper.upon] at h ⊢ <;> exact h
  · rename_i hw
    simp only [hw] at h
    exact ⟨trivial, h⟩
/-- All that may come before number i leaves the heap as it is. -/
def keepFree (md : Region.Mode) (ops : Array Oper) (listed : Array Bool) (i : Nat) : Bool :=
  (List.range ops.size).all fun j => j == i || listed.getD j true || match ops[j]? with
    | some oj => oj.after.any (fun e => Region.binds md e && e.on == i) || leavesB oj.op
    | none => true
theorem keepFree_spec {i : Nat} {listed : Array Bool} (h : keepFree md ops listed i = true) (j : Nat) (oj : Oper)
    (hj : ops[j]? = some oj) (hne : j ≠ i) (hun : listed.getD j true = false) (hno : ∀ e ∈ oj.after, Region.binds md e = true → e.on ≠ i) : leavesB oj.op = true := by
  simp only [keepFree, List.all_eq_true, List.mem_range] at h
  have := h j (Array.getElem?_eq_some_iff.1 hj).1
  simp only [hj, hun, Bool.or_eq_true, beq_iff_eq, Bool.false_eq_true, or_false, hne, false_or] at this
  rcases this with h1 | h1
  · exfalso
    obtain ⟨e, he, hb⟩ := Array.any_eq_true'.1 h1
    simp only [Bool.and_eq_true, beq_iff_eq] at hb
    exact hno e he hb.1 hb.2
  · exact h1
theorem wpAny_keep_first {i : Nat} {oi : Oper} {v : Value} {w0 : World} (hi : ops[i]? = some oi) (hsel : ∀ (j : Nat) (o : Oper) cs b, ops[j]? = some o → o.op ≠ .select cs b)
    (hQ : ∀ c a w, Q (.panic c) (a.put oi.dst v) w → Q (.panic c) a w) :
    ∀ (fuel : Nat) (listed : Array Bool) (a : Act) (w : World), w.heap = w0.heap →
      (∀ j oj, ops[j]? = some oj → j ≠ i → listed.getD j true = false → (∀ e ∈ oj.after, Region.binds md e = true → e.on ≠ i) → oi.apart ops oj = true ∧ leavesB oj.op = true) →
      i ∈ Region.ready md ops listed → YieldsIf P ops (fun W => W.heap = w0.heap) oi v a →
      wpAny P md ops Q fuel (listed.setIfInBounds i true) (a.put oi.dst v) w → wpAny P md ops Q (fuel + 1) listed a w := by
  intro fuel
  induction fuel with
  | zero =>
    intro listed a w hS _ hr hy H
    refine ⟨fun h => (by rw [h] at hr; cases hr), fun j hj => ?_⟩
    by_cases hji : j = i
    · subst hji; exact hy.wpOp hi hS H
    · have := ready_mono hj hji
      rw [H.1] at this
      cases this
  | succ fuel ih =>
    intro listed a w hS hfree hr hy H
    refine ⟨fun h => (by rw [h] at hr; cases hr), fun j hj => ?_⟩
    by_cases hji : j = i
    · subst hji; exact hy.wpOp hi hS H
    · have h1 := H.2 j (ready_mono hj hji)
      obtain ⟨hjun, oj, hoj, hall⟩ := mem_ready.1 hj
      have hnot : ∀ e ∈ oj.after, Region.binds md e = true → e.on ≠ i := fun e he hb heq => by
        have h1 := hall e he hb
        have h0 := (mem_ready.1 hr).1
        rw [heq] at h1
        rcases Nat.lt_or_ge i listed.size with h' | h'
        · simp [h'] at h0 h1; rw [h0] at h1; cases h1
        · simp [Array.getElem?_eq_none h'] at h1
      obtain ⟨hap, hkp⟩ := hfree j oj hoj hji hjun hnot
      have h2 := wpOp_keep hoj hkp (wpOp_putIf hoj hap (fun cs b => hsel i oi cs b hi) (fun cs b => hsel j oj cs b hoj) hQ hy h1)
      have hfree' : ∀ k ok, ops[k]? = some ok → k ≠ i → (listed.setIfInBounds j true).getD k true = false →
          (∀ e ∈ ok.after, Region.binds md e = true → e.on ≠ i) → oi.apart ops ok = true ∧ leavesB ok.op = true := fun k ok hk hki hun hno => by
        refine hfree k ok hk hki ?_ hno
        by_cases hjk : j = k
        · subst hjk; exact hjun
        · rw [getD_set_ne true hjk] at hun; exact hun
      refine wpOp_mono (fun a' w' h3 => ih (listed.setIfInBounds j true) a' w' (h3.1.trans hS) hfree' (ready_mono hr (Ne.symm hji)) h3.2.1 ?_) h2
      rw [Array.setIfInBounds_comm _ _ hji]
      exact h3.2.2
/-- Number i is taken first: what may come before it leaves the heap as it is. -/
theorem wpAny_keep {i : Nat} {oi : Oper} {v : Value} {fuel : Nat} {listed : Array Bool} {a : Act} {w : World} (hi : ops[i]? = some oi)
    (hs : Region.noSelect ops = true) (hf : Region.free md ops listed i = true) (hk : keepFree md ops listed i = true) (hr : (Region.ready md ops listed).contains i = true)
    (hQ : ∀ c a w, Q (.panic c) (a.put oi.dst v) w → Q (.panic c) a w) (hw : Region.wanted oi (yielded ops a.tmps) = true) (hy : ∀ W : World, W.heap = w.heap → (execOp a.eval oi).run P W = .ok (.value v) W)
    (h : wpAny P md ops Q fuel (listed.setIfInBounds i true) (a.put oi.dst v) w) : wpAny P md ops Q (fuel + 1) listed a w :=
  wpAny_keep_first hi (Region.noSelect_spec hs) hQ fuel listed a w rfl (fun j oj hj hne hun hno => ⟨Region.free_spec hi hf j oj hj hne hun hno, keepFree_spec hk j oj hj hne hun hno⟩) (by simpa using hr) (.inl ⟨hw, hy⟩) h
end
end Go.Ev
