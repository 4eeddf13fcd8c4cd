/- The evaluator: how its memory relates to the model's; what is read there. -/
import Derived.Test.YthokbbichifohaaGreatDoorEvA
import Derived.Laws.Cells
import Derived.Laws.Strings
section
set_option linter.unusedSectionVars false
namespace Go.Ev
variable {P : Program} {σ : Sg}
inductive ER (σ : Sg) : List MapEntry → List MapEntry → Prop
  | nil : ER σ [] []
  | cons {e e' : MapEntry} {l l' : List MapEntry} : e'.key = e.key → flat e.key = true → VR σ e.val e'.val → e'.born = e.born → ER σ l l' → ER σ (e :: l) (e' :: l')
def unfrozen (n : Nat) (fz : Nat × Nat) : Prop := ∀ o, o < n → ¬ (fz.1 ≤ o ∧ o < fz.2)
structure RowR (P : Program) (σ : Sg) (d : Nat) (c : List Value) (e : TypeId) (m : Md) (c' : Array Value) (fz : Nat × Nat) : Prop where
  cells : ∃ cs x, c'.toList = cs ++ x ∧ VRL σ c cs ∧ (m.roomy = false → x = [])
  exact_ : m.roomy = false → d = 0
  cap : ∀ rc, m = .grown rc → ∀ i, P.info? e = some i → c'.size = (rc + d) * i.size
  free : m.writes = true → unfrozen c'.size fz
def OR (P : Program) (σ : Sg) (d : Nat) : AO → Obj → Prop
  | .row c e m, .cells c' e' fz => (m.writes = false ∨ e' = e) ∧ RowR P σ d c e m c' fz
  | .map es k, .map es' k' => k' = k ∧ ER σ es es'.toList
  | _, _ => False
def live : AO → Bool
  | .dead => false
  | _ => true
def mayW : AO → Bool
  | .row _ _ m => m.writes
  | .map _ _ => true
  | .dead => false
theorem live_of_mayW {o : AO} (h : mayW o = true) : live o = true := by cases o <;> simp_all [mayW, live]
def Wr (σ : Sg) (A : AW) (b : Nat) : Prop := ∃ i d o, σ i = some (b, d) ∧ A.heap.get i = some o ∧ mayW o = true
class Frozen (P : Program) where
  F : Nat → Option Obj
structure RelB (P : Program) (σ : Sg) (A : AW) (w : World) : Prop where
  obj : ∀ i b d o, σ i = some (b, d) → A.heap.get i = some o → live o = true → ∃ x, w.heap[b]? = some x ∧ OR P σ d o x
  inj : ∀ i j b d d' o o', σ i = some (b, d) → σ j = some (b, d') → A.heap.get i = some o → A.heap.get j = some o' → live o = true → live o' = true → (mayW o || mayW o') = true → i = j
  lim : ∀ i, A.next ≤ i → σ i = none
  glob : ∀ g, g < P.globals.size → σ g = some (g, 0)
  top : ∀ i, A.next ≤ i → A.heap.get i = none
def Fro (P : Program) [Frozen P] (σ : Sg) (A : AW) (w : World) : Prop := ∀ b x, Frozen.F P b = some x → w.heap[b]? = some x ∧ ¬ Wr σ A b
structure Rel (P : Program) [Frozen P] (σ : Sg) (A : AW) (w : World) : Prop extends RelB P σ A w where
  fro : Fro P σ A w
variable [Frozen P]
structure Step (σ : Sg) (A : AW) (w : World) (σ' : Sg) (A' : AW) (w' : World) : Prop where
  ext : ∀ i, i < A.next → σ' i = σ i
  next : A.next ≤ A'.next
  os : w'.os = w.os
  tape : w'.tape = w.tape
  output : w'.output = w.output
  size : w.heap.size ≤ w'.heap.size
  block : ∀ b, b < w.heap.size → ¬ Wr σ A b → w'.heap[b]? = w.heap[b]?
  wr : ∀ b, b < w.heap.size → Wr σ' A' b → Wr σ A b
  new : ∀ i b d o, A.next ≤ i → σ' i = some (b, d) → A'.heap.get i = some o → live o = true → b < w.heap.size → Wr σ A b
  old : ∀ i o, i < A.next → A'.heap.get i = some o → live o = true → ∃ o', A.heap.get i = some o' ∧ live o' = true
theorem Step.refl {A : AW} {w : World} (h : ∀ i, A.next ≤ i → σ i = none) : Step σ A w σ A w :=
  ⟨fun _ _ => rfl, Nat.le_refl _, rfl, rfl, rfl, Nat.le_refl _, fun _ _ _ => rfl, fun _ _ h => h, fun i b d o h1 h2 _ _ _ => (by
    rw [h i h1] at h2; cases h2), fun i o _ h2 h3 => ⟨o, h2, h3⟩⟩
theorem Step.trans {σ1 σ2 : Sg} {A A1 A2 : AW} {w w1 w2 : World} (h : Step σ A w σ1 A1 w1) (k : Step σ1 A1 w1 σ2 A2 w2) : Step σ A w σ2 A2 w2 where
  ext := fun i hi => (k.ext i (Nat.lt_of_lt_of_le hi h.next)).trans (h.ext i hi)
  next := Nat.le_trans h.next k.next
  os := k.os.trans h.os
  tape := k.tape.trans h.tape
  output := k.output.trans h.output
  size := Nat.le_trans h.size k.size
  block := fun b hb hn => (k.block b (Nat.lt_of_lt_of_le hb h.size) fun hw => hn (h.wr b hb hw)).trans (h.block b hb hn)
  wr := fun b hb hw => h.wr b hb (k.wr b (Nat.lt_of_lt_of_le hb h.size) hw)
  new := fun i b d o hi hs ho hl hb => by
    by_cases h1 : A1.next ≤ i
    · exact h.wr b hb (k.new i b d o h1 hs ho hl (Nat.lt_of_lt_of_le hb h.size))
    · have h1 : i < A1.next := Nat.lt_of_not_le h1
      obtain ⟨o', ho', hl'⟩ := k.old i o h1 ho hl
      exact h.new i b d o' hi (by rw [← k.ext i h1]; exact hs) ho' hl' hb
  old := fun i o hi ho hl => by
    obtain ⟨o', ho', hl'⟩ := k.old i o (Nat.lt_of_lt_of_le hi h.next) ho hl
    exact h.old i o' hi ho' hl'
theorem Fro.step {σ' : Sg} {A A' : AW} {w w' : World} (h : Fro P σ A w) (k : Step σ A w σ' A' w') : Fro P σ' A' w' := fun b x e => by
  obtain ⟨h1, h2⟩ := h b x e
  have hb : b < w.heap.size := (Array.getElem?_eq_some_iff.1 h1).1
  exact ⟨(k.block b hb h2).trans h1, fun hw => h2 (k.wr b hb hw)⟩
theorem Rel.both {σ' : Sg} {A A' : AW} {w w' : World} (hR : Rel P σ A w) (h : RelB P σ' A' w' ∧ Step σ A w σ' A' w') : Rel P σ' A' w' ∧ Step σ A w σ' A' w' := ⟨⟨h.1, hR.fro.step h.2⟩, h.2⟩
theorem Step.sub {σ' : Sg} {A A' : AW} {w w' : World} (h : Step σ A w σ' A' w') (hl : ∀ i, A.next ≤ i → σ i = none) : Sub σ σ' := fun i p hp => by
  by_cases hi : i < A.next
  · rw [h.ext i hi]; exact hp
  · rw [hl i (Nat.le_of_not_lt hi)] at hp; cases hp
theorem rowAt_some {H : T AO} {i : Nat} {β : Type} {f : List Value → TypeId → Md → Option β} {y : β} : rowAt H i f = some y ↔ ∃ c e m, H.get i = some (.row c e m) ∧ f c e m = some y := by
  simp only [rowAt, ob_some]
  constructor
  · rintro ⟨o, h, h2⟩
    cases o with
    | row c e m => exact ⟨c, e, m, h, h2⟩
    | map _ _ => cases h2
    | dead => cases h2
  · rintro ⟨c, e, m, h, h2⟩; exact ⟨_, h, h2⟩
theorem mapAt_some {H : T AO} {i : Nat} {β : Type} {f : List MapEntry → Nat → Option β} {y : β} : mapAt H i f = some y ↔ ∃ es k, H.get i = some (.map es k) ∧ f es k = some y := by
  simp only [mapAt, ob_some]
  constructor
  · rintro ⟨o, h, h2⟩
    cases o with
    | row c e m => cases h2
    | map es k => exact ⟨es, k, h, h2⟩
    | dead => cases h2
  · rintro ⟨es, k, h, h2⟩; exact ⟨_, h, h2⟩
theorem plainAt_some {a : Addr} {β : Type} {f : Nat → Nat → Option β} {y : β} : plainAt a f = some y ↔ a = ⟨a.block, a.off, none⟩ ∧ f a.block a.off = some y := by
  obtain ⟨b, o, s⟩ := a
  cases s <;> simp [plainAt]
theorem ptrV_some {v : Value} {a : Addr} : ptrV v = some a ↔ v = .pointer (some a) := by cases v <;> simp [ptrV]
theorem aggV_some {v : Value} {c : List Value} : aggV v = some c ↔ v = .agg ⟨c⟩ := by
  cases v <;> simp [aggV]
  rename_i x; obtain ⟨x⟩ := x; simp
theorem numV_some {v : Value} {n : Nat} : numV v = some n ↔ ∃ k, v = .int k (.ofNat n) := by
  cases v <;> simp [numV]
  rename_i k i; cases i <;> simp
  omega
theorem strV_some {v : Value} {l : List UInt8} : strV v = some l ↔ v = mkStr l := by
  cases v <;> simp [strV, mkStr]
  rename_i x; obtain ⟨⟨x⟩⟩ := x; simp
theorem tupV_some {v : Value} {c : List Value} : tupV v = some c ↔ v = .tuple ⟨c⟩ := by
  cases v <;> simp [tupV]
  rename_i x; obtain ⟨x⟩ := x; simp
theorem boolOf_some {v : Value} {b : Bool} : boolOf v = some b ↔ v = .bool b := by cases v <;> simp [boolOf]
theorem VR.ptr_inv {i o : Nat} {v' : Value} (h : VR σ (.pointer (some ⟨i, o, none⟩)) v') : ∃ b d, σ i = some (b, d) ∧ v' = .pointer (some ⟨b, o, none⟩) := by
  cases h with
  | ptr e => exact ⟨_, _, e, rfl⟩
  | flat e => simp [Ev.flat] at e
theorem VR.ptr_plain {a : Addr} {v' : Value} (h : VR σ (.pointer (some a)) v') : a = ⟨a.block, a.off, none⟩ := by
  cases h with
  | ptr e => rfl
  | flat e => simp [Ev.flat] at e
theorem VR.slice_inv {i o l c : Nat} {v' : Value} (h : VR σ (.slice (some ⟨i, o, none⟩) l c) v') : ∃ b d, σ i = some (b, d) ∧ v' = .slice (some ⟨b, o, none⟩) l (c + d) := by
  cases h with
  | slice e => exact ⟨_, _, e, rfl⟩
  | flat e => simp [Ev.flat] at e
theorem VR.map_inv {i : Nat} {v' : Value} (h : VR σ (.map (some i)) v') : ∃ b d, σ i = some (b, d) ∧ v' = .map (some b) := by
  cases h with
  | map e => exact ⟨_, _, e, rfl⟩
  | flat e => simp [Ev.flat] at e
theorem VR.agg_inv {c : List Value} {v' : Value} (h : VR σ (.agg ⟨c⟩) v') : ∃ c', VRL σ c c' ∧ v' = .agg ⟨c'⟩ := by
  cases h with
  | agg a => exact ⟨_, a, rfl⟩
  | flat e => simp [Ev.flat] at e
theorem VR.tuple_inv {c : List Value} {v' : Value} (h : VR σ (.tuple ⟨c⟩) v') : ∃ c', VRL σ c c' ∧ v' = .tuple ⟨c'⟩ := by
  cases h with
  | tuple a => exact ⟨_, a, rfl⟩
  | flat e => simp [Ev.flat] at e
theorem VR.undef : VR σ Go.undef Go.undef := .tuple .nil
variable {A : AW} {w : World}
theorem Rel.rowA (hR : Rel P σ A w) {i b d : Nat} {c : List Value} {e : TypeId} {m : Md} (hs : σ i = some (b, d)) (hg : A.heap.get i = some (.row c e m)) :
    ∃ c' e' fz, w.heap[b]? = some (.cells c' e' fz) ∧ RowR P σ d c e m c' fz ∧ (m.writes = false ∨ e' = e) := by
  obtain ⟨x, hx, ho⟩ := hR.obj i b d _ hs hg rfl
  cases x with
  | cells c' e' fz => obtain ⟨h, hr⟩ := ho; exact ⟨c', e', fz, hx, hr, h⟩
  | _ => exact ho.elim
theorem Rel.row (hR : Rel P σ A w) {i b d : Nat} {c : List Value} {e : TypeId} {m : Md} (hs : σ i = some (b, d)) (hg : A.heap.get i = some (.row c e m)) (hm : m.writes = true) :
    ∃ c' fz, w.heap[b]? = some (.cells c' e fz) ∧ RowR P σ d c e m c' fz := by
  obtain ⟨c', e', fz, hx, hr, h⟩ := hR.rowA hs hg
  rcases h with e | rfl
  · rw [e] at hm; cases hm
  · exact ⟨c', fz, hx, hr⟩
theorem Rel.map (hR : Rel P σ A w) {i b d : Nat} {es : List MapEntry} {k : Nat} (hs : σ i = some (b, d)) (hg : A.heap.get i = some (.map es k)) :
    ∃ es', w.heap[b]? = some (.map es' k) ∧ ER σ es es'.toList := by
  obtain ⟨x, hx, ho⟩ := hR.obj i b d _ hs hg rfl
  cases x with
  | map es' k' => obtain ⟨rfl, hr⟩ := ho; exact ⟨es', hx, hr⟩
  | _ => exact ho.elim
theorem RowR.get {d : Nat} {c : List Value} {e : TypeId} {m : Md} {c' : Array Value} {fz : Nat × Nat} (h : RowR P σ d c e m c' fz) {k : Nat} {v : Value} (hk : c[k]? = some v) :
    ∃ v', c'[k]? = some v' ∧ VR σ v v' := by
  obtain ⟨cs, x, e, hc, _⟩ := h.cells
  obtain ⟨v', hv, hr⟩ := hc.get hk
  refine ⟨v', ?_, hr⟩
  rw [← Array.getElem?_toList, e, List.getElem?_append_left (by
    rcases Nat.lt_or_ge k cs.length with h' | h'
    · exact h'
    · rw [List.getElem?_eq_none h'] at hv; cases hv)]
  exact hv
theorem cell_of {b o : Nat} {c' : Array Value} {e : TypeId} {fz : Nat × Nat} {v' : Value} (h : w.heap[b]? = some (.cells c' e fz)) (hk : c'[o]? = some v') : w.cell? ⟨b, o, none⟩ = some v' := by
  simp [World.cell?, h, hk]
theorem add_plain (b o n : Nat) : (⟨b, o, none⟩ : Addr).add n = ⟨b, o + n, none⟩ := by
  unfold Addr.add; split <;> simp_all
theorem run_info {t : TypeId} {i : TypeInfo} (h : P.info? t = some i) (w : World) : (typeInfo t).run P w = .ok i w := by simp [typeInfo, h]
theorem run_under {t : TypeId} {d : TypeDesc} (h : P.underlying t = some d) (w : World) : (underlying t).run P w = .ok d w := by simp [underlying, h]
theorem sizeA_some {t : TypeId} {n : Nat} : sizeA P t = some n ↔ ∃ i, P.info? t = some i ∧ i.size = n := by simp [sizeA, ob_some]
theorem run_size {t : TypeId} {n : Nat} (h : sizeA P t = some n) (w : World) : (sizeOf t).run P w = .ok n w := by
  obtain ⟨i, hi, rfl⟩ := sizeA_some.1 h
  simp [sizeOf, run_info hi]
theorem run_agg {t : TypeId} {b : Bool} (h : isAggA P t = some b) (w : World) : (isAgg t).run P w = .ok b w := by
  simp only [isAggA, ob_some, Option.some.injEq] at h
  obtain ⟨d, hd, rfl⟩ := h
  simp only [isAgg, Sem.run_bind, run_under hd, Result.andThen_ok]
  cases d <;> rfl
theorem run_part {t : TypeId} {c cs : List Value} {off : Nat} {v : Value} (h : partA P t c off = some v) (hc : VRL σ c cs) (x : List Value) (w : World) :
    ∃ v', VR σ v v' ∧ (part t ⟨cs ++ x⟩ off).run P w = .ok v' w := by
  simp only [partA, ob_some] at h
  obtain ⟨b, hb, h⟩ := h
  have hlen := hc.length
  cases b with
  | false =>
    have h' : lget c off = some v := h
    rw [lget_eq] at h'
    obtain ⟨v', hv, hr⟩ := hc.get h'
    have hlt : off < cs.length := by
      rcases Nat.lt_or_ge off cs.length with h' | h'
      · exact h'
      · rw [List.getElem?_eq_none h'] at hv; cases hv
    have : (cs ++ x)[off]? = some v' := by rw [List.getElem?_append_left hlt]; exact hv
    refine ⟨v', hr, ?_⟩
    simp [part, run_agg hb, this]
  | true =>
    have h' : ob (sizeA P t) (fun n => ob (lsub c off n) fun l => some (.agg ⟨l⟩)) = some v := h
    simp only [ob_some, Option.some.injEq] at h'
    obtain ⟨n, hn, l, hl, rfl⟩ := h'
    obtain ⟨rfl, hle⟩ := lsub_some hl
    refine ⟨.agg ⟨(cs.drop off).take n⟩, .agg ((hc.drop off).take n), ?_⟩
    simp only [part, Sem.run_bind, run_agg hb, run_size hn, Result.andThen_ok, if_true, Sem.run_pure]
    congr 2
    apply Array.toList_inj.1
    rw [Array.toList_extract]
    simp only [List.extract_eq_take_drop]
    rw [List.drop_append_of_le_length (by omega), List.take_append_of_le_length (by simp; omega)]
    congr 1
    omega
theorem run_loadA (hR : Rel P σ A w) {t : TypeId} {v u v' : Value} (h : loadA P t A.heap v = some u) (hv : VR σ v v') :
    ∃ u', VR σ u u' ∧ (Instr.loadAt t v').run P w = .ok u' w ∧ ∃ a, v' = .pointer (some a) ∧ (loadVar t a).run P w = .ok u' w := by
  simp only [loadA, ob_some, plainAt_some, rowAt_some, ptrV_some] at h
  obtain ⟨a, rfl, ha, c, e, m, hg, h⟩ := h
  rw [ha] at hv
  obtain ⟨b, d, hs, rfl⟩ := hv.ptr_inv
  obtain ⟨c', e', fz, hw, hr, _⟩ := hR.rowA hs hg
  simp only [partA, ob_some] at h
  obtain ⟨ag, hb, h⟩ := h
  suffices hh : ∃ u', VR σ u u' ∧ (loadVar t ⟨b, a.off, none⟩).run P w = .ok u' w by
    obtain ⟨u', h1, h2⟩ := hh
    exact ⟨u', h1, by simp [Instr.loadAt, Instr.sureAddr, h2], _, rfl, h2⟩
  cases ag with
  | false =>
    have h' : lget c a.off = some u := h
    rw [lget_eq] at h'
    obtain ⟨u', hk, hu⟩ := hr.get h'
    refine ⟨u', hu, ?_⟩
    simp [loadVar, run_agg hb, cell_of hw hk]
  | true =>
    have h' : ob (sizeA P t) (fun n => ob (lsub c a.off n) fun l => some (.agg ⟨l⟩)) = some u := h
    simp only [ob_some, Option.some.injEq] at h'
    obtain ⟨n, hn, l, hl, rfl⟩ := h'
    obtain ⟨rfl, hle⟩ := lsub_some hl
    obtain ⟨cs, x, ec, hc, _⟩ := hr.cells
    have hlen := hc.length
    refine ⟨.agg ⟨(cs.drop a.off).take n⟩, .agg ((hc.drop a.off).take n), ?_⟩
    have hll : ((cs.drop a.off).take n).length = n := by simp; omega
    have hload := run_loadCells_list (P := P) (w := w) ⟨b, a.off, none⟩ ((cs.drop a.off).take n) (fun j v hj => by
      rw [add_plain]
      refine cell_of hw ?_
      rw [← Array.getElem?_toList, ec]
      have hjl : j < n := by
        rcases Nat.lt_or_ge j n with h' | h'
        · exact h'
        · rw [List.getElem?_eq_none (by omega)] at hj; cases hj
      rw [List.getElem?_append_left (by omega)]
      rw [List.getElem?_take, if_pos hjl, List.getElem?_drop] at hj
      exact hj)
    rw [hll] at hload
    simp [loadVar, run_agg hb, run_size hn, hload]
end Go.Ev
end

/- The evaluator: the operators. -/
section
set_option linter.unusedSectionVars false
namespace Go.Ev
variable {P : Program} {σ : Sg} {A : AW} {w : World} [Frozen P]
theorem pureA_run {α : Type} (s : Sem α) : ∀ {v : α}, pureA P s = some v → ∀ w, s.run P w = .ok v w := by
  induction s with
  | pure a => intro v h w; simp only [pureA, Option.some.injEq] at h; subst h; rfl
  | program k ih => intro v h w; simp only [pureA] at h; exact ih P h w
  | _ => intro v h w; simp [pureA] at h
theorem flatPure_run {s : Sem Value} {v : Value} (h : flatPure P s = some v) : flat v = true ∧ ∀ w, s.run P w = .ok v w := by
  simp only [flatPure, ob_some, bt_some, fval_eq, Option.some.injEq] at h
  obtain ⟨u, hu, hf, rfl⟩ := h
  exact ⟨hf, pureA_run s hu⟩
theorem eqGuard_plain {op : BinOp} {t : TypeId} {x y : Operand} {a b : Value} (h1 : a ≠ .nilIface) (h2 : ∀ c, a ≠ .agg c) (w : World) : (eqGuard op t x y a b).run P w = .ok () w := by
  unfold eqGuard
  cases op <;> first | rfl | (cases a <;> first | rfl | exact absurd rfl h1 | exact absurd rfl (h2 _))
theorem eqGuard_const {op : BinOp} {t : TypeId} {x y : Operand} (h : (isConstO x || isConstO y) = true) (b : Value) (w : World) : (eqGuard op t x y .nilIface b).run P w = .ok () w := by
  unfold eqGuard
  cases op <;> first | rfl | (cases b <;> first | rfl | (cases x <;> cases y <;> first | rfl | (simp [isConstO] at h)))
theorem within_wrap {k : IntKind} {n : Nat} {v : Value} (h : within k n = some v) : v = .int k (k.wrap (n : Int)) := by
  unfold within at h
  cases hb : Nat.blt n (lim k) with
  | true =>
    have hlt := blt_iff.1 hb
    rw [hb] at h
    have h' : natV k n = some v := h
    rw [natV_eq] at h'
    cases h'
    congr 1
    cases k <;> simp only [lim] at hlt <;> simp [IntKind.wrap, IntKind.bits, IntKind.signed] <;> omega
  | false =>
    rw [hb] at h
    have h' : bt (unsig k) (natV k (Nat.mod n (lim k))) = some v := h
    simp only [bt_some, natV_eq, Option.some.injEq] at h'
    obtain ⟨hu, rfl⟩ := h'
    congr 1
    have hm : Nat.mod n (lim k) = n % lim k := rfl
    rw [hm]
    cases k <;> simp only [unsig] at hu <;> first | (exact absurd hu (by decide)) | (simp [lim, IntKind.wrap, IntKind.bits, IntKind.signed]; done) | (simp [lim, IntKind.wrap, IntKind.bits, IntKind.signed]; omega)
theorem lim_le (k : IntKind) : lim k ≤ 2 ^ k.bits := by cases k <;> decide
theorem nbits_eq (k : IntKind) : nbits k = k.bits := by cases k <;> rfl
theorem sameK_eq {j k : IntKind} (h : sameK j k = true) : j = k := by cases j <;> cases k <;> first | rfl | exact absurd h (by decide)
theorem ofInt_nat {n a : Nat} (h : a < 2 ^ n) : (BitVec.ofInt n (a : Int)).toNat = a := by
  rw [BitVec.toNat_ofInt]
  have : ((a : Int) % ((2 ^ n : Nat) : Int)) = ((a % 2 ^ n : Nat) : Int) := by simp
  rw [this, Nat.mod_eq_of_lt h]
  rfl
theorem nBits_run {f : Nat → Nat → Nat} {k : IntKind} {a b : Nat} {v : Value} (h : nBits f k a b = some v) : a < 2 ^ k.bits ∧ b < 2 ^ k.bits ∧ v = .int k (k.wrap ((f a b : Nat) : Int)) := by
  simp only [nBits, bt_some, blt_iff] at h
  exact ⟨Nat.lt_of_lt_of_le h.1 (lim_le k), Nat.lt_of_lt_of_le h.2.1 (lim_le k), within_wrap h.2.2⟩
theorem intBits_run {k : IntKind} {a b : Nat} (ha : a < 2 ^ k.bits) (hb : b < 2 ^ k.bits) :
    Op.intBits .and k (a : Int) (b : Int) = pure (.int k (k.wrap ((Nat.land a b : Nat) : Int))) ∧ Op.intBits .or k (a : Int) (b : Int) = pure (.int k (k.wrap ((Nat.lor a b : Nat) : Int))) ∧
    Op.intBits .xor k (a : Int) (b : Int) = pure (.int k (k.wrap ((Nat.xor a b : Nat) : Int))) := by
  refine ⟨?_, ?_, ?_⟩ <;> simp only [Op.intBits, BitVec.toNat_and, BitVec.toNat_or, BitVec.toNat_xor, ofInt_nat ha, ofInt_nat hb] <;> rfl
theorem binOp_int {op : BinOp} {t : TypeId} {k : IntKind} {a b : Int} (hs : isShift op = false) : binOp op t (.int k a) (.int k b) =
    (match op with
    | .add | .sub | .mul => Op.intArith op k a b
    | .quo | .rem => Op.intDiv op k a b
    | .and | .or | .xor | .andNot => Op.intBits op k a b
    | _ => Op.intCmp op a b) := by
  cases op <;> first | (exact absurd hs (by decide)) | simp [binOp]
theorem nOp_run {op : BinOp} {t : TypeId} {j k : IntKind} {a b : Nat} {v : Value} (hk : isShift op = true ∨ j = k) (h : nOp op j a b = some v) (w : World) :
    flat v = true ∧ (binOp op t (.int j (a : Int)) (.int k (b : Int))).run P w = .ok v w := by
  have hfl : ∀ {n : Nat}, within j n = some v → flat v = true := fun h => by rw [within_wrap h]; rfl
  have hfb : ∀ {x : Bool}, boolV x = some v → flat v = true ∧ v = .bool x := fun h => by rw [boolV_eq] at h; cases h; exact ⟨rfl, rfl⟩
  cases op with
  | shl =>
    simp only [nOp, nShl, bt_some, bleIff, nbits_eq] at h
    refine ⟨hfl h.2, ?_⟩
    rw [within_wrap h.2]
    have hp : Nat.mul a (Nat.pow 2 b) = a * 2 ^ b := rfl
    simp only [binOp, Op.shift, hp]
    rw [if_neg (by omega)]
    simp only [Int.toNat_natCast, Nat.min_eq_left h.1]
    simp
  | shr =>
    simp only [nOp, nShr, bt_some, bleIff, nbits_eq, natV_eq, Option.some.injEq] at h
    obtain ⟨h1, rfl⟩ := h
    refine ⟨rfl, ?_⟩
    have hp : Nat.div a (Nat.pow 2 b) = a / 2 ^ b := rfl
    simp only [binOp, Op.shift, hp]
    rw [if_neg (by omega)]
    simp only [Int.toNat_natCast, Nat.min_eq_left h1, Sem.run_pure]
    congr 2
    rw [Int.fdiv_eq_ediv_of_nonneg _ (by exact Int.le_of_lt (Int.pow_pos (by decide)))]
    simp
  | andNot => simp [nOp] at h
  | add => obtain rfl : j = k := hk.resolve_left (by decide); refine ⟨hfl h, ?_⟩; rw [binOp_int rfl, within_wrap h]; simp [Op.intArith]
  | mul => obtain rfl : j = k := hk.resolve_left (by decide); refine ⟨hfl h, ?_⟩; rw [binOp_int rfl, within_wrap h]; simp [Op.intArith]
  | sub =>
    obtain rfl : j = k := hk.resolve_left (by decide)
    simp only [nOp, nSub, bt_some, bleIff] at h
    refine ⟨hfl h.2, ?_⟩; rw [binOp_int rfl, within_wrap h.2]
    have : ((Nat.sub a b : Nat) : Int) = (a : Int) - (b : Int) := by have : Nat.sub a b = a - b := rfl; omega
    simp only [Op.intArith, this, Sem.run_pure]
  | quo =>
    obtain rfl : j = k := hk.resolve_left (by decide)
    simp only [nOp, nQuo, bt_some, blt_iff] at h
    refine ⟨hfl h.2, ?_⟩; rw [binOp_int rfl, within_wrap h.2]
    have hb : ¬ ((b : Int) = 0) := by omega
    simp only [Op.intDiv, if_neg hb, Sem.run_pure]
    rfl
  | rem =>
    obtain rfl : j = k := hk.resolve_left (by decide)
    simp only [nOp, nRem, bt_some, blt_iff, natV_eq, Option.some.injEq] at h
    obtain ⟨h1, rfl⟩ := h
    refine ⟨rfl, ?_⟩; rw [binOp_int rfl]
    have hb : ¬ ((b : Int) = 0) := by omega
    simp only [Op.intDiv, if_neg hb, Sem.run_pure]
    rfl
  | and => obtain rfl : j = k := hk.resolve_left (by decide); obtain ⟨ha, hb, rfl⟩ := nBits_run h; rw [binOp_int rfl]; simp only [(intBits_run ha hb).1]; exact ⟨rfl, rfl⟩
  | or => obtain rfl : j = k := hk.resolve_left (by decide); obtain ⟨ha, hb, rfl⟩ := nBits_run h; rw [binOp_int rfl]; simp only [(intBits_run ha hb).2.1]; exact ⟨rfl, rfl⟩
  | xor => obtain rfl : j = k := hk.resolve_left (by decide); obtain ⟨ha, hb, rfl⟩ := nBits_run h; rw [binOp_int rfl]; simp only [(intBits_run ha hb).2.2]; exact ⟨rfl, rfl⟩
  | eql => obtain rfl : j = k := hk.resolve_left (by decide); obtain ⟨h1, rfl⟩ := hfb h; refine ⟨h1, ?_⟩; rw [binOp_int rfl]; simp [Op.intCmp]; rw [Bool.eq_iff_iff]; simp [beqIff]; try omega
  | neq => obtain rfl : j = k := hk.resolve_left (by decide); obtain ⟨h1, rfl⟩ := hfb h; refine ⟨h1, ?_⟩; rw [binOp_int rfl]; simp [Op.intCmp, bnot_eq]; rw [Bool.eq_iff_iff]; simp [← Bool.not_eq_true, beqIff]; try omega
  | lss => obtain rfl : j = k := hk.resolve_left (by decide); obtain ⟨h1, rfl⟩ := hfb h; refine ⟨h1, ?_⟩; rw [binOp_int rfl]; simp [Op.intCmp]; rw [Bool.eq_iff_iff]; simp [blt_iff]; try omega
  | leq => obtain rfl : j = k := hk.resolve_left (by decide); obtain ⟨h1, rfl⟩ := hfb h; refine ⟨h1, ?_⟩; rw [binOp_int rfl]; simp [Op.intCmp]; rw [Bool.eq_iff_iff]; simp [bleIff]; try omega
  | gtr => obtain rfl : j = k := hk.resolve_left (by decide); obtain ⟨h1, rfl⟩ := hfb h; refine ⟨h1, ?_⟩; rw [binOp_int rfl]; simp [Op.intCmp]; rw [Bool.eq_iff_iff]; simp [blt_iff]; try omega
  | geq => obtain rfl : j = k := hk.resolve_left (by decide); obtain ⟨h1, rfl⟩ := hfb h; refine ⟨h1, ?_⟩; rw [binOp_int rfl]; simp [Op.intCmp]; rw [Bool.eq_iff_iff]; simp [bleIff]; try omega
theorem intOp_run {op : BinOp} {t : TypeId} {j k : IntKind} {a b : Int} {v : Value} (h : intOp P op t j a k b = some v) (w : World) :
    flat v = true ∧ (binOp op t (.int j a) (.int k b)).run P w = .ok v w := by
  cases a with
  | negSucc m => have h' : slowInt P op t j (.negSucc m) k b = some v := h; have := flatPure_run h'; exact ⟨this.1, this.2 w⟩
  | ofNat m =>
    cases b with
    | negSucc n => have h' : slowInt P op t j (.ofNat m) k (.negSucc n) = some v := h; have := flatPure_run h'; exact ⟨this.1, this.2 w⟩
    | ofNat n =>
      have h' : bt (Bool.rec (sameK j k) true (isShift op)) (orElse (nOp op j m n) (slowInt P op t j (.ofNat m) k (.ofNat n))) = some v := h
      rw [bt_some] at h'
      obtain ⟨hk, h'⟩ := h'
      have hk' : isShift op = true ∨ j = k := by
        cases hs : isShift op with
        | true => exact .inl rfl
        | false => rw [hs] at hk; exact .inr (sameK_eq hk)
      cases hn : nOp op j m n with
      | some u => rw [hn] at h'; cases h'; exact nOp_run hk' hn w
      | none => rw [hn] at h'; have h'' : slowInt P op t j (.ofNat m) k (.ofNat n) = some v := h'; have := flatPure_run h''; exact ⟨this.1, this.2 w⟩
end Go.Ev
end

/- The evaluator: operators of other values; nil. -/
section
set_option linter.unusedSectionVars false
namespace Go.Ev
variable {P : Program} {σ : Sg} {A : AW} {w : World} [Frozen P]
theorem bytesEq_iff : ∀ (l m : List UInt8), bytesEq l m = true ↔ l = m := by
  intro l
  induction l with
  | nil => intro m; cases m with
    | nil => exact ⟨fun _ => rfl, fun _ => rfl⟩
    | cons b m => exact ⟨fun h => (by cases h), fun h => (by cases h)⟩
  | cons a l ih => intro m; cases m with
    | nil => exact ⟨fun h => (by cases h), fun h => (by cases h)⟩
    | cons b m =>
      show (Bool.rec false (bytesEq l m) (Nat.beq a.toNat b.toNat) : Bool) = true ↔ _
      cases hb : Nat.beq a.toNat b.toNat with
      | true =>
        have : a = b := by have := beqIff.1 hb; exact UInt8.toNat_inj.1 this
        subst this
        show bytesEq l m = true ↔ _
        rw [ih]; simp
      | false =>
        have : a ≠ b := fun e => by subst e; rw [beqIff.2 rfl] at hb; cases hb
        constructor
        · intro h; cases h
        · intro h; cases h; exact absurd rfl this
theorem ofEq_some {op : BinOp} {b : Bool} {v : Value} (h : ofEq op b = some v) : (op = .eql ∧ v = .bool b) ∨ (op = .neq ∧ v = .bool !b) := by
  unfold ofEq at h
  split at h
  · rw [boolV_eq] at h; cases h; exact .inl ⟨rfl, rfl⟩
  · rw [boolV_eq, bnot_eq] at h; cases h; exact .inr ⟨rfl, rfl⟩
  · cases h
theorem strOp_run {op : BinOp} {t : TypeId} {a b : ByteArray} {v : Value} (h : strOp op a.data.toList b.data.toList = some v) (w : World) : flat v = true ∧ (binOp op t (.string a) (.string b)).run P w = .ok v w := by
  have ha : a.toList = a.data.toList := ByteArray.toList_eq a
  have hb : b.toList = b.data.toList := ByteArray.toList_eq b
  unfold strOp at h
  split at h
  · simp only [bt_some, bleIff, Option.some.injEq] at h
    obtain ⟨h1, rfl⟩ := h
    refine ⟨rfl, ?_⟩
    have h2 : a.size + b.size ≤ 1099511627776 := h1
    simp only [binOp, Op.stringOp]
    rw [if_neg (by simp [IntKind.max, IntKind.signed, IntKind.bits]; omega)]
    simp only [Sem.run_pure]
    congr 2
  · rw [boolV_eq] at h; cases h
    refine ⟨rfl, ?_⟩
    simp only [binOp, Op.stringOp, ha, hb, Sem.run_pure]
    congr 2
    rw [Bool.eq_iff_iff, bytesEq_iff]; simp
  · rw [boolV_eq, bnot_eq] at h; cases h
    refine ⟨rfl, ?_⟩
    simp only [binOp, Op.stringOp, ha, hb, Sem.run_pure]
    congr 3
    rw [Bool.eq_iff_iff, bytesEq_iff]; simp
  · cases h
theorem equal_eq : ∃ n, ∀ (t : TypeId) (x y : Value), Op.equal t x y = Op.equalIn (n + 1) t x y := ⟨9999, fun _ _ _ => rfl⟩
theorem nilEq_run {t : TypeId} {x y x' y' : Value} {b : Bool} (h : nilEq P t x y = some b) (hx : VR σ x x') (hy : VR σ y y') (w : World) : (Op.equal t x' y').run P w = .ok b w := by
  obtain ⟨N, hN⟩ := equal_eq
  rw [hN]
  unfold nilEq at h
  split at h <;> rename_i hu <;> first | (cases h; done) | skip
  · obtain rfl := hy.of_flat rfl
    rename_i a
    cases a with
    | none => obtain rfl := hx.of_flat rfl; cases h; simp [Op.equalIn, run_under hu]
    | some a => cases h; rw [hx.ptr_plain] at hx; obtain ⟨b, d, _, rfl⟩ := hx.ptr_inv; simp [Op.equalIn, run_under hu]
  · obtain rfl := hx.of_flat rfl; cases h; rw [hy.ptr_plain] at hy; obtain ⟨b, d, _, rfl⟩ := hy.ptr_inv; simp [Op.equalIn, run_under hu]
  · obtain rfl := hy.of_flat rfl
    cases hx with
    | slice e => cases h; simp [Op.equalIn, run_under hu]
    | flat e => rename_i a _ _; cases a with
      | none => cases h; simp [Op.equalIn, run_under hu]
      | some a => simp [flat] at e
  · obtain rfl := hy.of_flat rfl
    cases hx with
    | map e => cases h; simp [Op.equalIn, run_under hu]
    | flat e => rename_i a; cases a with
      | none => cases h; simp [Op.equalIn, run_under hu]
      | some a => simp [flat] at e
  · obtain rfl := hy.of_flat rfl; obtain rfl := hx.of_flat rfl; cases h; simp [Op.equalIn, run_under hu]
  · obtain rfl := hy.of_flat rfl
    cases hx with
    | func a b => cases h; simp [Op.equalIn, run_under hu]
    | flat e => simp [flat] at e
  · obtain rfl := hy.of_flat rfl; obtain rfl := hx.of_flat rfl; cases h; simp [Op.equalIn, run_under hu]
  · obtain rfl := hy.of_flat rfl
    rw [bt_some] at h
    obtain ⟨hlt, h⟩ := h
    cases hx with
    | iface _ a => cases h; simp [Op.equalIn, run_under hu]
    | flat e => simp [flat] at e
    | sym => exact absurd hlt (by simp [Nat.blt_eq, SYM, UNK, MN])
    | any => exact absurd hlt (by simp [Nat.blt_eq, SYM, UNK, MN])
    | ext => exact absurd hlt (by simp [Nat.blt_eq, SYM, EXT])
    | mn => exact absurd hlt (by simp [Nat.blt_eq, SYM, UNK, MN])
    | mnil => exact absurd hlt (by simp [Nat.blt_eq, SYM, UNK, MN])
def plainEq : Value → Bool
  | .int _ _ | .float _ _ | .complex _ _ _ | .string _ => false
  | _ => true
theorem binOp_eql {t : TypeId} {x y : Value} (hx : plainEq x = true) (b : Bool) (w : World) (h : (Op.equal t x y).run P w = .ok b w) :
    (binOp .eql t x y).run P w = .ok (.bool b) w ∧ (binOp .neq t x y).run P w = .ok (.bool !b) w := by
  cases x <;> first | (cases hx; done) | (constructor <;> simp [binOp, h])
theorem ofEq_run {op : BinOp} {t : TypeId} {x y : Value} {b : Bool} {v : Value} (hx : plainEq x = true) (h : (Op.equal t x y).run P w = .ok b w) (ho : ofEq op b = some v) :
    flat v = true ∧ (binOp op t x y).run P w = .ok v w := by
  rcases ofEq_some ho with ⟨rfl, rfl⟩ | ⟨rfl, rfl⟩
  · exact ⟨rfl, (binOp_eql hx b w h).1⟩
  · exact ⟨rfl, (binOp_eql hx b w h).2⟩
theorem not_sure {x x' : Value} {σ : Sg} (h : VR σ x x') (hs : sure x = true) : (∀ t v, x = .iface t v → Nat.blt t SYM = true) := fun t v e => by subst e; exact hs
theorem noSYM : ¬ Nat.blt SYM SYM = true := by simp [Nat.blt_eq, SYM, UNK, MN]
theorem noUNK : ¬ Nat.blt UNK SYM = true := by simp [Nat.blt_eq, SYM, UNK, MN]
theorem noEXT : ¬ Nat.blt EXT SYM = true := by simp [Nat.blt_eq, SYM, EXT]
theorem noMN : ¬ Nat.blt MN SYM = true := by simp [Nat.blt_eq, SYM, UNK, MN]
theorem VR.plainEq {x x' : Value} (h : VR σ x x') (hs : sure x = true) : Ev.plainEq x' = Ev.plainEq x := by
  have hq := not_sure h hs
  clear hs
  cases h with
  | sym => exact absurd (hq _ _ rfl) noSYM
  | any => exact absurd (hq _ _ rfl) noUNK
  | ext => exact absurd (hq _ _ rfl) noEXT
  | mnil => exact absurd (hq _ _ rfl) noMN
  | mn => exact absurd (hq _ _ rfl) noMN
  | _ => rfl
theorem nilEq_plain {t : TypeId} {x y : Value} {b : Bool} (h : nilEq P t x y = some b) : plainEq x = true := by
  unfold nilEq at h
  split at h <;> first | (cases h; done) | rfl
theorem VR.nil_iff {x x' : Value} (h : VR σ x x') (hs : sure x = true) : x' = .nilIface ↔ x = .nilIface := by
  have hq := not_sure h hs
  clear hs
  cases h with
  | sym => exact absurd (hq _ _ rfl) noSYM
  | any => exact absurd (hq _ _ rfl) noUNK
  | ext => exact absurd (hq _ _ rfl) noEXT
  | mnil => exact absurd (hq _ _ rfl) noMN
  | mn => exact absurd (hq _ _ rfl) noMN
  | _ => simp
theorem VR.agg_iff {x x' : Value} (h : VR σ x x') (hs : sure x = true) : (∀ c, x' ≠ .agg c) ↔ (∀ c, x ≠ .agg c) := by
  have hq := not_sure h hs
  clear hs
  cases h with
  | sym => exact absurd (hq _ _ rfl) noSYM
  | any => exact absurd (hq _ _ rfl) noUNK
  | ext => exact absurd (hq _ _ rfl) noEXT
  | mnil => exact absurd (hq _ _ rfl) noMN
  | mn => exact absurd (hq _ _ rfl) noMN
  | _ => simp
theorem nilEq_sure {t : TypeId} {x y : Value} {b : Bool} (h : nilEq P t x y = some b) : sure x = true := by
  unfold nilEq at h
  split at h <;> first | (cases h; done) | rfl | (rw [bt_some] at h; exact h.1)
theorem nilEq_noagg {t : TypeId} {x y : Value} {b : Bool} (h : nilEq P t x y = some b) : ∀ c, x ≠ .agg c := by
  intro c hc; subst hc
  unfold nilEq at h
  split at h <;> first | (cases h; done) | simp_all
theorem nilOp_run {op : BinOp} {t : TypeId} {xo yo : Operand} {x y x' y' v : Value} (h : nilOp P op t xo yo x y = some v) (hx : VR σ x x') (hy : VR σ y y') (w : World) :
    flat v = true ∧ (do eqGuard op t xo yo x' y'; binOp op t x' y').run P w = .ok v w := by
  simp only [nilOp, bt_some, ob_some] at h
  obtain ⟨hc, b, hb, ho⟩ := h
  have hr := ofEq_run (by rw [hx.plainEq (nilEq_sure hb)]; exact nilEq_plain hb) (nilEq_run hb hx hy w) ho
  refine ⟨hr.1, ?_⟩
  have hg : (eqGuard op t xo yo x' y').run P w = .ok () w := by
    by_cases hn : x = .nilIface
    · have := (hx.nil_iff (nilEq_sure hb)).2 hn
      subst this
      exact eqGuard_const (by revert hc; cases isConstO xo <;> cases isConstO yo <;> simp) y' w
    · exact eqGuard_plain (fun e => hn ((hx.nil_iff (nilEq_sure hb)).1 e)) ((hx.agg_iff (nilEq_sure hb)).2 (nilEq_noagg hb)) w
  simp [hg, hr.2]
theorem binA_run {op : BinOp} {t : TypeId} {xo yo : Operand} {x y x' y' v : Value} (h : binA P op t xo yo x y = some v) (hx : VR σ x x') (hy : VR σ y y') (w : World) :
    flat v = true ∧ (do eqGuard op t xo yo x' y'; binOp op t x' y').run P w = .ok v w := by
  unfold binA at h
  split at h
  · split at h
    · obtain rfl := hx.of_flat rfl; obtain rfl := hy.of_flat rfl
      have := intOp_run h w
      exact ⟨this.1, by simp [eqGuard_plain (a := .int _ _) (by simp) (by simp), this.2]⟩
    · cases h
  · split at h
    · obtain rfl := hx.of_flat rfl; obtain rfl := hy.of_flat rfl
      have := strOp_run (P := P) (t := t) h w
      exact ⟨this.1, by simp [eqGuard_plain (a := .string _) (by simp) (by simp), this.2]⟩
    · cases h
  · split at h
    · rename_i a _ b
      obtain rfl := hx.of_flat rfl; obtain rfl := hy.of_flat rfl
      simp only [boolOp, ob_some, bt_some] at h
      obtain ⟨d, hd, hb, ho⟩ := h
      have hdb : d = .bool := by cases d <;> first | rfl | (cases hb)
      subst hdb
      have he : (Op.equal t (.bool a) (.bool b)).run P w = .ok (a == b) w := by obtain ⟨N, hN⟩ := equal_eq; rw [hN]; simp [Op.equalIn, run_under hd]
      have hab : (Bool.rec (bnot b) b a : Bool) = (a == b) := by cases a <;> cases b <;> rfl
      rw [hab] at ho
      have := ofEq_run rfl he ho
      exact ⟨this.1, by simp [eqGuard_plain (a := .bool _) (by simp) (by simp), this.2]⟩
    · cases h
  · split at h
    · simp only [aggOp, bt_some] at h
      obtain ⟨_, h1, h2, h3⟩ := h
      obtain rfl := hx.of_flat2 h1; obtain rfl := hy.of_flat2 h2
      have := flatPure_run h3
      exact ⟨this.1, this.2 w⟩
    · cases h
  · unfold ptrOp at h
    split at h
    · rename_i a _ b
      simp only [ob_some, ptrEq, bt_some, plainAt_some, beqIff, blt_iff, ptrT, Option.some.injEq] at h
      obtain ⟨r, ⟨e, ⟨d, hd, he⟩, n, hn, hn0, ha, hb, hij, rfl⟩, ho⟩ := h
      have hde : d = .pointer e := by cases d <;> simp [ptrD] at he; rw [he]
      subst hde
      rw [ha] at hx; rw [hb] at hy
      obtain ⟨b1, d1, hs1, rfl⟩ := hx.ptr_inv
      obtain ⟨b2, d2, hs2, rfl⟩ := hy.ptr_inv
      rw [hij, hs2] at hs1
      cases hs1
      have hn1 : n ≠ 0 := by omega
      have hq : (Op.equal t (.pointer (some ⟨b1, a.off, none⟩)) (.pointer (some ⟨b1, b.off, none⟩))).run P w = .ok (Nat.beq a.off b.off) w := by
        obtain ⟨N, hN⟩ := equal_eq
        rw [hN]
        simp only [Op.equalIn, Sem.run_bind, run_under hd, Result.andThen_ok, run_size hn, ne_eq, hn1, not_false_eq_true, if_true, sameAddr, beq_self_eq_true]
        simp only [Sem.run_pure]
        congr 1
        rw [Bool.eq_iff_iff, beqIff]
        simp
      have := ofEq_run rfl hq ho
      exact ⟨this.1, by simp [eqGuard_plain (a := .pointer _) (by simp) (by simp), this.2]⟩
    · exact nilOp_run h hx hy w
  · exact nilOp_run h hx hy w
end Go.Ev
end

/- The evaluator: places, parts, slices, literals, maps. -/
section
set_option linter.unusedSectionVars false
namespace Go.Ev
variable {P : Program} {σ : Sg} {A : AW} {w : World} [Frozen P]
theorem cells_eq (v : Value) : v.cells = ⟨cellsA v⟩ := by cases v <;> rfl
theorem fold_set (off : Nat) : ∀ (l : List Value) (k : Nat) (c : Array Value), off + k + l.length ≤ c.size →
    ((l.zipIdx k).foldl (fun cs p => cs.setIfInBounds (off + p.2) p.1) c).toList = c.toList.take (off + k) ++ (l ++ c.toList.drop (off + k + l.length)) := by
  intro l
  induction l with
  | nil => intro k c h; simp
  | cons x l ih =>
    intro k c h
    simp only [List.zipIdx_cons, List.foldl_cons]
    rw [ih (k + 1) (c.setIfInBounds (off + k) x) (by simp at h ⊢; omega)]
    simp only [Array.toList_setIfInBounds]
    have hlt : off + k < c.toList.length := by simp at h ⊢; omega
    have ht : (c.toList.set (off + k) x).take (off + k + 1) = c.toList.take (off + k) ++ [x] := by
      rw [List.take_add_one, List.take_set_of_le (Nat.le_refl _), List.getElem?_set_self hlt]
      rfl
    rw [show off + (k + 1) = off + k + 1 by omega, ht, List.drop_set_of_lt (by omega)]
    simp only [List.length_cons, List.append_assoc, List.cons_append, List.nil_append]
    rw [show off + k + 1 + l.length = off + k + (l.length + 1) by omega]
inductive PR (σ : Sg) : List (Nat × Value) → List (Nat × Value) → Prop
  | nil : PR σ [] []
  | cons {i : Nat} {v v' : Value} {l l' : List (Nat × Value)} : VR σ v v' → PR σ l l' → PR σ ((i, v) :: l) ((i, v') :: l')
theorem fill_run {pl pl' : Nat → Option (Nat × Nat)} (hp : ∀ i q, pl i = some q → pl' i = some q) : ∀ {ps ps' : List (Nat × Value)} {z c zs : List Value}, PR σ ps ps' → fillA pl ps z = some c → VRL σ z zs →
    ∃ cs, Instr.fill pl' ⟨zs⟩ ps' = some ⟨cs⟩ ∧ VRL σ c cs := by
  intro ps
  induction ps with
  | nil => intro ps' z c zs hpr h hz; cases hpr; simp only [fillA] at h; cases h; exact ⟨zs, rfl, hz⟩
  | cons p ps ih =>
    intro ps' z c zs hpr h hz
    cases hpr with
    | @cons i v v' l l' hv hl =>
      have h' : ob (pl i) (fun q => bt (notU v) (bt (lenB (cellsA v) q.2) (ob (lover (cellsA v) q.1 z) (fillA pl ps)))) = some c := h
      simp only [ob_some, bt_some, lenB_iff] at h'
      obtain ⟨⟨off, size⟩, hq, hnu, hlen, z', hz', h'⟩ := h'
      simp only at hlen hz'
      obtain ⟨rfl, hle⟩ := lover_some _ _ _ _ hz'
      have hc := hv.cells hnu
      have hcl := hc.length
      have hzl := hz.length
      have hcs : v'.cells.size = size := by rw [← hlen, ← hcl]; simp
      have hVR : VRL σ (z.take off ++ (cellsA v ++ z.drop (off + (cellsA v).length))) (zs.take off ++ (v'.cells.toList ++ zs.drop (off + v'.cells.toList.length))) := by
        rw [hcl]; exact (hz.take off).append (hc.append (hz.drop _))
      obtain ⟨cs, h1, h2⟩ := ih hl h' hVR
      refine ⟨cs, ?_, h2⟩
      unfold Instr.fill
      simp only [hp i _ hq]
      rw [if_neg (by simp [hcs]; omega), ← h1]
      congr 1
      apply Array.toList_inj.1
      rw [← Array.foldl_toList, Array.toList_zipIdx]
      have := fold_set off v'.cells.toList 0 ⟨zs⟩ (by simp; omega)
      simpa using this
theorem zeroA_some {t : TypeId} {z : List Value} : zeroA P t = some z ↔ ∃ i v, P.info? t = some i ∧ i.zero = some v ∧ flats (cellsA v) = true ∧ z = cellsA v := by
  simp only [zeroA, ob_some, bt_some, Option.some.injEq]
  constructor
  · rintro ⟨i, hi, v, hv, hf, rfl⟩; exact ⟨i, v, hi, hv, hf, rfl⟩
  · rintro ⟨i, v, hi, hv, hf, rfl⟩; exact ⟨i, hi, v, hv, hf, rfl⟩
theorem run_zero {t : TypeId} {z : List Value} (h : zeroA P t = some z) (w : World) : ∃ v, (zeroValue t).run P w = .ok v w ∧ v.cells = ⟨z⟩ ∧ VRL σ z z := by
  obtain ⟨i, v, hi, hv, hf, rfl⟩ := zeroA_some.1 h
  exact ⟨v, by simp [zeroValue, run_info hi, hv], cells_eq v, .refl_flats hf⟩
theorem placesA_run : ∀ {fs : List Field} {pl : List (Nat × Nat)}, placesA P fs = some pl → ∀ w, (fs.mapM fun f => do pure (f.offset, ← sizeOf f.type) : Sem (List (Nat × Nat))).run P w = .ok pl w := by
  intro fs
  induction fs with
  | nil => intro pl h w; have := omap_nil.1 h; subst this; rfl
  | cons f fs ih =>
    intro pl h w
    obtain ⟨y, ys, h1, h2, rfl⟩ := omap_cons.1 h
    simp only [ob_some, Option.some.injEq] at h1
    obtain ⟨n, hn, rfl⟩ := h1
    have := ih h2 w
    simp only [List.mapM_cons, Sem.run_bind, run_size hn, Result.andThen_ok, Sem.run_pure, this]
theorem buildA_run {t : TypeId} {ps ps' : List (Nat × Value)} {v : Value} (h : buildA P t ps = some v) (hp : PR σ ps ps') (w : World) : ∃ v', VR σ v v' ∧ (Instr.build t ⟨ps'⟩).run P w = .ok v' w := by
  simp only [buildA, ob_some] at h
  obtain ⟨z, hz, d, hd, h⟩ := h
  obtain ⟨zv, hzr, hzc, hzz⟩ := run_zero (σ := σ) hz w
  split at h
  · rename_i fs
    simp only [buildS, ob_some, Option.some.injEq] at h
    obtain ⟨pl, hpl, c, hc, rfl⟩ := h
    obtain ⟨cs, h1, h2⟩ := fill_run (pl' := fun i => (pl.toArray)[i]?) (fun i q hq => by rw [lget_eq] at hq; simpa using hq) hp hc hzz
    refine ⟨.agg ⟨cs⟩, .agg h2, ?_⟩
    have hm := placesA_run hpl w
    obtain ⟨fl⟩ := fs
    have hm2 : (Array.mapM (fun f : Field => (do pure (f.offset, ← sizeOf f.type) : Sem (Nat × Nat))) ⟨fl⟩).run P w = .ok pl.toArray w := by
      have : (⟨fl⟩ : Array Field) = fl.toArray := rfl
      rw [this, List.mapM_toArray]
      simp only [Sem.run_map, hm, Result.andThen_ok]
    simp only [Instr.build, Sem.run_bind, hzr, Result.andThen_ok, run_under hd, hm2, hzc, h1, Sem.run_pure]
  · rename_i n e
    simp only [buildR, ob_some, Option.some.injEq] at h
    obtain ⟨sz, hsz, c, hc, rfl⟩ := h
    obtain ⟨cs, h1, h2⟩ := fill_run (pl' := fun i => some (i * sz, sz)) (fun i q hq => hq) hp hc hzz
    refine ⟨.agg ⟨cs⟩, .agg h2, ?_⟩
    simp only [Instr.build, Sem.run_bind, hzr, Result.andThen_ok, run_under hd, run_size hsz, hzc, h1, Sem.run_pure]
  · cases h
theorem ptrTo_eq (b o : Nat) : ptrTo b o = some (.pointer (some ⟨b, o, none⟩)) := fnat_eq o _
theorem structT_some {t : TypeId} {fs : Array Field} : structT P t = some fs ↔ P.underlying t = some (.struct fs) := by
  simp only [structT, ob_some]
  constructor
  · rintro ⟨d, hd, h⟩; cases d <;> simp [structD] at h; rw [hd, h]
  · intro h; exact ⟨_, h, rfl⟩
theorem sliceT_some {t e : TypeId} : sliceT P t = some e ↔ P.underlying t = some (.slice e) := by
  simp only [sliceT, ob_some]
  constructor
  · rintro ⟨d, hd, h⟩; cases d <;> simp [sliceD] at h; rw [hd, h]
  · intro h; exact ⟨_, h, rfl⟩
theorem arrayT_some {t : TypeId} {q : Nat × TypeId} : arrayT P t = some q ↔ P.underlying t = some (.array q.1 q.2) := by
  simp only [arrayT, ob_some]
  constructor
  · rintro ⟨d, hd, h⟩; cases d <;> simp [arrayD] at h; rw [hd, ← h]
  · intro h; exact ⟨_, h, rfl⟩
theorem mapT_some {t : TypeId} {q : TypeId × TypeId} : mapT P t = some q ↔ P.underlying t = some (.map q.1 q.2) := by
  simp only [mapT, ob_some]
  constructor
  · rintro ⟨d, hd, h⟩; cases d <;> simp [mapD] at h; rw [hd, ← h]
  · intro h; exact ⟨_, h, rfl⟩
theorem ptrT_some {t e : TypeId} : ptrT P t = some e ↔ P.underlying t = some (.pointer e) := by
  simp only [ptrT, ob_some]
  constructor
  · rintro ⟨d, hd, h⟩; cases d <;> simp [ptrD] at h; rw [hd, h]
  · intro h; exact ⟨_, h, rfl⟩
theorem fieldAddr_run {s : TypeId} {v v' u : Value} {f : Nat} (h : fieldAddrA P s v f = some u) (hv : VR σ v v') (w : World) : ∃ u', VR σ u u' ∧ (Instr.fieldAt s v' f).run P w = .ok u' w := by
  simp only [fieldAddrA, ob_some, bt_some, structT_some, ptrV_some, plainAt_some, blt_iff, ptrTo_eq, Option.some.injEq] at h
  obtain ⟨fs, hs, fd, hf, n, hn, hn0, a, rfl, ha, rfl⟩ := h
  rw [ha] at hv
  obtain ⟨b, d, hsb, rfl⟩ := hv.ptr_inv
  refine ⟨_, .ptr hsb, ?_⟩
  rw [lget_eq] at hf
  have hf' : fs[f]? = some fd := by rw [← Array.getElem?_toList]; exact hf
  have hn1 : n ≠ 0 := by omega
  simp [Instr.fieldAt, run_under hs, hf', Instr.sureAddr, fieldPlace, run_size hn, hn1, add_plain]
theorem field_run {t : TypeId} {v v' u : Value} {f : Nat} (h : fieldA P t v f = some u) (hv : VR σ v v') (w : World) : ∃ u', VR σ u u' ∧ (Instr.field t v' f).run P w = .ok u' w := by
  simp only [fieldA, ob_some, structT_some, aggV_some] at h
  obtain ⟨fs, hs, c, rfl, fd, hf, h⟩ := h
  obtain ⟨c', hc, rfl⟩ := hv.agg_inv
  obtain ⟨u', hu, hr⟩ := run_part h hc [] w
  refine ⟨u', hu, ?_⟩
  rw [lget_eq] at hf
  have hf' : fs[f]? = some fd := by rw [← Array.getElem?_toList]; exact hf
  simp only [List.append_nil] at hr
  simp [Instr.field, run_under hs, hf', asAgg, hr]
theorem indexAddr_run {t : TypeId} {x x' i i' u : Value} (h : indexAddrA P t x i = some u) (hx : VR σ x x') (hi : VR σ i i') (w : World) : ∃ u', VR σ u u' ∧ (Instr.indexAt t x' i').run P w = .ok u' w := by
  simp only [indexAddrA, ob_some] at h
  obtain ⟨d, hd, h⟩ := h
  split at h
  · rename_i len e
    simp only [ob_some, ptrV_some, idxAt, plainAt_some, numV_some, bt_some, blt_iff, ptrTo_eq, Option.some.injEq] at h
    obtain ⟨a, rfl, ha, n, ⟨k, rfl⟩, hlt, sz, hsz, rfl⟩ := h
    obtain rfl := hi.of_flat rfl
    rw [ha] at hx
    obtain ⟨b, d, hsb, rfl⟩ := hx.ptr_inv
    refine ⟨_, .ptr hsb, ?_⟩
    have h1 : (0 : Int) ≤ Int.ofNat n ∧ Int.ofNat n < (len : Int) := ⟨by simp, by simpa using hlt⟩
    simp only [Instr.indexAt, asIntOf, Sem.run_bind, Sem.run_pure, Result.andThen_ok, run_under hd, Instr.sureAddr, if_pos h1, run_size hsz, add_plain]
    rfl
  · rename_i e
    split at h
    · rename_i a len cap
      simp only [ob_some, idxAt, plainAt_some, numV_some, bt_some, blt_iff, ptrTo_eq, Option.some.injEq] at h
      obtain ⟨a, rfl, ha, n, ⟨k, rfl⟩, hlt, sz, hsz, rfl⟩ := h
      obtain rfl := hi.of_flat rfl
      rw [ha] at hx
      obtain ⟨b, d, hsb, rfl⟩ := hx.slice_inv
      refine ⟨_, .ptr hsb, ?_⟩
      have h1 : (0 : Int) ≤ Int.ofNat n ∧ Int.ofNat n < (len : Int) := ⟨by simp, by simpa using hlt⟩
      simp only [Instr.indexAt, asIntOf, Sem.run_bind, Sem.run_pure, Result.andThen_ok, run_under hd, if_pos h1, run_size hsz, add_plain]
      rfl
    · cases h
  · cases h
theorem index_run {t : TypeId} {x x' i i' u : Value} (h : indexA P t x i = some u) (hx : VR σ x x') (hi : VR σ i i') (w : World) : ∃ u', VR σ u u' ∧ (Instr.index t x' i').run P w = .ok u' w := by
  simp only [indexA, ob_some] at h
  obtain ⟨d, hd, h⟩ := h
  split at h
  · rename_i len e
    simp only [ob_some, aggV_some, numV_some, bt_some, blt_iff] at h
    obtain ⟨c, rfl, n, ⟨k, rfl⟩, hlt, sz, hsz, h⟩ := h
    obtain rfl := hi.of_flat rfl
    obtain ⟨c', hc, rfl⟩ := hx.agg_inv
    obtain ⟨u', hu, hr⟩ := run_part h hc [] w
    refine ⟨u', hu, ?_⟩
    have h1 : (0 : Int) ≤ Int.ofNat n ∧ Int.ofNat n < (len : Int) := ⟨by simp, by simpa using hlt⟩
    simp only [List.append_nil] at hr
    simp only [Instr.index, asIntOf, Sem.run_bind, Sem.run_pure, Result.andThen_ok, run_under hd, if_pos h1, run_size hsz]
    exact hr
  · simp only [ob_some, strV_some, numV_some, natV_eq, Option.some.injEq] at h
    obtain ⟨s, rfl, n, ⟨k, rfl⟩, b, hb, rfl⟩ := h
    obtain rfl := hi.of_flat rfl
    obtain rfl := hx.of_flat rfl
    rw [lget_eq] at hb
    refine ⟨_, .flat rfl, ?_⟩
    have h0 : (0 : Int) ≤ Int.ofNat n := by simp
    have hlt : n < s.length := by
      rcases Nat.lt_or_ge n s.length with h' | h'
      · exact h'
      · rw [List.getElem?_eq_none h'] at hb; cases hb
    have hg : (⟨⟨s⟩⟩ : ByteArray)[(Int.ofNat n).toNat]? = some b := by
      have hn : (Int.ofNat n).toNat = n := rfl
      rw [hn]
      have hsz : n < (⟨⟨s⟩⟩ : ByteArray).size := hlt
      rw [getElem?_pos (⟨⟨s⟩⟩ : ByteArray) n hsz]
      have : (⟨⟨s⟩⟩ : ByteArray)[n] = s[n] := rfl
      rw [this]
      rw [List.getElem?_eq_getElem hlt] at hb
      exact hb
    simp only [mkStr, Instr.index, asIntOf, Sem.run_bind, Sem.run_pure, Result.andThen_ok, run_under hd, if_pos h0, hg]
    rfl
  · cases h
end Go.Ev
end

/- The evaluator: slices, maps, conversions, lengths. -/
section
set_option linter.unusedSectionVars false
namespace Go.Ev
variable {P : Program} {σ : Sg} {A : AW} {w : World} [Frozen P]
inductive OVR (σ : Sg) : Option Value → Option Value → Prop
  | none : OVR σ none none
  | some {v v' : Value} : VR σ v v' → OVR σ (some v) (some v')
theorem upto_some {v : Value} {n i : Nat} : upto v n = some i ↔ (∃ k, v = .int k (.ofNat i)) ∧ i ≤ n := by
  simp only [upto, ob_some, bt_some, numV_some, bleIff, Option.some.injEq]
  constructor
  · rintro ⟨j, hk, hl, rfl⟩; exact ⟨hk, hl⟩
  · rintro ⟨hk, hl⟩; exact ⟨i, hk, hl, rfl⟩
theorem sliceBound_run {v v' : Value} {n m i : Nat} {code : BoundsCode} (h : upto v n = some i) (hv : VR σ v v') (hm : i ≤ m) (w : World) : (Instr.sliceBound v' m code).run P w = .ok i w := by
  obtain ⟨⟨k, rfl⟩, _⟩ := upto_some.1 h
  obtain rfl := hv.of_flat rfl
  have h1 : (0 : Int) ≤ Int.ofNat i ∧ Int.ofNat i ≤ (m : Int) := ⟨by simp, by simpa using hm⟩
  simp only [Instr.sliceBound, asIntOf, Sem.run_bind, Sem.run_pure, Result.andThen_ok, if_pos h1]
  rfl
theorem bounds_le {len cap l h : Nat} {lo hi : Option Value} (hb : boundsA len cap lo hi = some (l, h)) : l ≤ h := by
  simp only [boundsA, ob_some, Option.some.injEq, Prod.mk.injEq] at hb
  obtain ⟨h', hh, l', hl, rfl, rfl⟩ := hb
  cases lo with
  | none => cases hl; exact Nat.zero_le _
  | some v => exact (upto_some.1 hl).2
theorem bounds_run {b : Bool} {len cap m l h : Nat} {lo hi lo' hi' : Option Value} (hb : boundsA len cap lo hi = some (l, h)) (hlo : OVR σ lo lo') (hhi : OVR σ hi hi') (hm : h ≤ m) (w : World) :
    (Instr.sliceBounds b len m lo' hi' none).run P w = .ok (l, h, m) w := by
  have hle := bounds_le hb
  simp only [boundsA, ob_some, Option.some.injEq, Prod.mk.injEq] at hb
  obtain ⟨h', hh, l', hl, rfl, rfl⟩ := hb
  cases hhi with
  | none =>
    cases hh
    cases hlo with
    | none => cases hl; simp [Instr.sliceBounds]
    | some hv => have := fun c => sliceBound_run (P := P) (code := c) hl hv hle w; simp [Instr.sliceBounds, this]
  | some hv1 =>
    have h1 := fun c => sliceBound_run (P := P) (code := c) hh hv1 hm w
    cases hlo with
    | none => cases hl; simp [Instr.sliceBounds, h1]
    | some hv => have := fun c => sliceBound_run (P := P) (code := c) hl hv hle w; simp [Instr.sliceBounds, h1, this]
theorem bounds3_run {b : Bool} {len cap m l h : Nat} {lo lo' : Option Value} {hv hv' mx mx' : Value} (hmx : upto mx cap = some m) (hb : boundsA len m lo (some hv) = some (l, h)) (hlo : OVR σ lo lo') (hhi : VR σ hv hv') (hmv : VR σ mx mx') (w : World) :
    (Instr.sliceBounds b len cap lo' (some hv') (some mx')).run P w = .ok (l, h, m) w := by
  have hle := bounds_le hb
  simp only [boundsA, ob_some, Option.some.injEq, Prod.mk.injEq] at hb
  obtain ⟨h', hh, l', hl, rfl, rfl⟩ := hb
  have hm' : ∀ c, (Instr.sliceBound mx' cap c).run P w = .ok m w := fun c => sliceBound_run hmx hmv (upto_some.1 hmx).2 w
  have hh' : ∀ c, (Instr.sliceBound hv' m c).run P w = .ok h' w := fun c => sliceBound_run hh hhi (upto_some.1 hh).2 w
  cases hlo with
  | none => cases hl; simp [Instr.sliceBounds, hm', hh']
  | some hv => have := fun c => sliceBound_run (P := P) (code := c) hl hv hle w; simp [Instr.sliceBounds, hm', hh', this]
theorem cutAt_eq (b o l n cap len' : Nat) : cutAt b o l n cap len' = some (.slice (some ⟨b, if cap = l then o else o + l * n, none⟩) len' (cap - l)) := by
  unfold cutAt
  rw [fnat_eq, fnat_eq, fnat_eq]
  have : (Bool.rec (Nat.add o (Nat.mul l n)) o (Nat.beq cap l) : Nat) = if cap = l then o else o + l * n := by
    cases h : Nat.beq cap l with
    | true => rw [if_pos (beqIff.1 h)]
    | false => rw [if_neg (fun e => by rw [beqIff.2 e] at h; cases h)]; rfl
  rw [this]; rfl
theorem sliceA_run (hR : Rel P σ A w) {t : TypeId} {x x' u : Value} {lo lo' hi hi' mx mx' : Option Value} (h : sliceA P A.heap t x lo hi mx = some u) (hx : VR σ x x') (hlo : OVR σ lo lo') (hhi : OVR σ hi hi') (hmx : OVR σ mx mx') :
    ∃ u', VR σ u u' ∧ (Instr.sliceAt t x' lo' hi' mx').run P w = .ok u' w := by
  simp only [sliceA, ob_some] at h
  obtain ⟨d, hd, h⟩ := h
  split at h
  · simp only [ob_some, strV_some] at h
    obtain ⟨s, rfl, h⟩ := h
    obtain rfl := hx.of_flat rfl
    cases hmx with
    | some _ => cases h
    | none =>
      have h' : (fnat s.length fun n => ob (boundsA n n lo hi) fun p => ob (lsub s p.1 (Nat.sub p.2 p.1)) fun b => some (mkStr b)) = some u := h
      rw [fnat_eq] at h'
      simp only [ob_some, Option.some.injEq] at h'
      obtain ⟨⟨l, hh⟩, hb, bs, hs, rfl⟩ := h'
      obtain ⟨rfl, hle⟩ := lsub_some hs
      have hle2 := bounds_le hb
      have hhl : hh ≤ s.length := by have : Nat.sub hh l = hh - l := rfl; simp only at hle hle2; omega
      refine ⟨_, .flat rfl, ?_⟩
      have hb' := bounds_run (P := P) (b := false) hb hlo hhi hhl w
      have hsz : (⟨⟨s⟩⟩ : ByteArray).size = s.length := rfl
      simp only [mkStr, Instr.sliceAt, Instr.slice, Sem.run_bind, run_under hd, Result.andThen_ok, Option.isSome_none, Bool.false_eq_true, if_false, hsz, hb', Sem.run_pure]
      congr 2
      apply ByteArray.ext
      apply Array.toList_inj.1
      rw [ByteArray.data_extract, Array.toList_extract, List.extract_eq_take_drop]
      rfl
  · rename_i e
    unfold sliceL at h
    split at h
    · rename_i a len cap
      rw [ob_some] at h
      obtain ⟨n, hn, h⟩ := h
      cases a with
      | none =>
        have h' : bt (Nat.beq (Nat.add len cap) 0) (sliceN lo hi mx) = some u := h
        rw [bt_some, beqIff] at h'
        obtain ⟨h0, h'⟩ := h'
        have h0' : len + cap = 0 := h0
        obtain ⟨rfl, rfl⟩ : len = 0 ∧ cap = 0 := ⟨by omega, by omega⟩
        obtain rfl := hx.of_flat rfl
        cases hmx with
        | some _ => cases h'
        | none =>
          have h'' : ob (boundsA 0 0 lo hi) (fun _ => some (Value.slice none 0 0)) = some u := h'
          simp only [ob_some, Option.some.injEq] at h''
          obtain ⟨⟨l, hh⟩, hb, rfl⟩ := h''
          have hle2 := bounds_le hb
          have hh0 : hh ≤ 0 := by
            simp only [boundsA, ob_some, Option.some.injEq, Prod.mk.injEq] at hb
            obtain ⟨h', hh', _, _, _, rfl⟩ := hb
            cases hi with
            | none => cases hh'; exact Nat.le_refl 0
            | some v => exact (upto_some.1 hh').2
          have hb' := bounds_run (P := P) (b := true) hb hlo hhi hh0 w
          refine ⟨_, .flat rfl, ?_⟩
          obtain ⟨rfl, rfl⟩ : l = 0 ∧ hh = 0 := ⟨by omega, by omega⟩
          simp [Instr.sliceAt, Instr.slice, run_under hd, hb', run_size hn]
      | some a =>
        have h' : (plainAt a fun b o => rowAt A.heap b fun _ _ m => Option.rec (slice2 m.roomy b o len cap n lo hi) (fun mx => slice3 m.roomy b o len cap n lo hi mx) mx) = some u := h
        rw [plainAt_some, rowAt_some] at h'
        obtain ⟨ha, c, e', m, hg, h'⟩ := h'
        rw [ha] at hx
        obtain ⟨b, dd, hsb, rfl⟩ := hx.slice_inv
        obtain ⟨c', e', fz, hw, hr, _⟩ := hR.rowA hsb hg
        cases hmx with
        | none =>
          have h'' : slice2 m.roomy a.block a.off len cap n lo hi = some u := h'
          simp only [slice2, ob_some, bt_some, bleIff, cutAt_eq, Option.some.injEq] at h''
          obtain ⟨⟨l, hh⟩, hb, hhc, hok, rfl⟩ := h''
          simp only at hhc hok
          have hle2 := bounds_le hb
          have hb' := bounds_run (P := P) (b := true) (m := cap + dd) hb hlo hhi (by omega) w
          have hout : (Instr.sliceAt t (.slice (some ⟨b, a.off, none⟩) len (cap + dd)) lo' hi' none).run P w = .ok (.slice (some ⟨b, if cap + dd = l then a.off else a.off + l * n, none⟩) (hh - l) (cap + dd - l)) w := by
            simp only [Instr.sliceAt, Instr.slice, Sem.run_bind, run_under hd, Result.andThen_ok, hb', run_size hn, Sem.run_pure, Option.map_some]
            congr 2
            split <;> simp [add_plain]
          refine ⟨_, ?_, hout⟩
          have he : (if cap + dd = l then a.off else a.off + l * n) = if cap = l then a.off else a.off + l * n := by
            cases hrm : m.roomy with
            | false => rw [hr.exact_ hrm]; rfl
            | true =>
              rw [hrm] at hok
              cases l with
              | zero => simp
              | succ l => have hlt : l + 1 < cap := blt_iff.1 hok; rw [if_neg (by omega), if_neg (by omega)]
          rw [he, show cap + dd - l = (cap - l) + dd by omega]
          exact .slice hsb
        | some hmv =>
          rename_i mv mv'
          have h'' : slice3 m.roomy a.block a.off len cap n lo hi mv = some u := h'
          cases hrm : m.roomy with
          | true => rw [hrm] at h''; cases h''
          | false =>
            rw [hrm] at h''
            have h3 : (ob hi fun hv => ob (upto mv cap) fun m => ob (boundsA len m lo (some hv)) fun p => cutAt a.block a.off p.1 n m (Nat.sub p.2 p.1)) = some u := h''
            simp only [ob_some, cutAt_eq, Option.some.injEq] at h3
            obtain ⟨hv, rfl, mm, hmm, ⟨l, hh⟩, hb, rfl⟩ := h3
            obtain rfl : dd = 0 := hr.exact_ hrm
            cases hhi with
            | some hhv =>
              have hb' := bounds3_run (P := P) (b := true) hmm hb hlo hhv hmv w
              refine ⟨_, .slice hsb, ?_⟩
              simp only [Instr.sliceAt, Instr.slice, Sem.run_bind, run_under hd, Result.andThen_ok, hb', run_size hn, Sem.run_pure, Option.map_some, Nat.add_zero]
              congr 2
              split <;> simp [add_plain]
    · cases h
  · rename_i n e
    simp only [sliceR, ob_some, ptrV_some, plainAt_some, rowAt_some, bt_some] at h
    obtain ⟨a, rfl, ha, sz, hsz, c, e', m, hg, hrm, h⟩ := h
    rw [bnot_eq] at hrm
    have hrm : m.roomy = false := by simpa using hrm
    rw [ha] at hx
    obtain ⟨b, dd, hsb, rfl⟩ := hx.ptr_inv
    obtain ⟨c', e', fz, hw, hr, _⟩ := hR.rowA hsb hg
    obtain rfl : dd = 0 := hr.exact_ hrm
    cases hmx with
    | some _ => cases h
    | none =>
      have h' : (ob (boundsA n n lo hi) fun p => bt (Nat.ble p.2 n) (cutAt a.block a.off p.1 sz n (Nat.sub p.2 p.1))) = some u := h
      simp only [ob_some, bt_some, bleIff, cutAt_eq, Option.some.injEq] at h'
      obtain ⟨⟨l, hh⟩, hb, hhn, rfl⟩ := h'
      have hb' := bounds_run (P := P) (b := false) hb hlo hhi hhn w
      refine ⟨_, .slice hsb, ?_⟩
      simp only [Instr.sliceAt, Instr.sureAddr, Sem.run_bind, run_under hd, Result.andThen_ok, hb', run_size hsz, Sem.run_pure, Nat.add_zero]
      congr 2
      split <;> simp [add_plain]
  · cases h
end Go.Ev
end

/- The evaluator: maps, conversions, lengths; every quiet operation. -/
section
set_option linter.unusedSectionVars false
namespace Go.Ev
variable {P : Program} {σ : Sg} {A : AW} {w : World} [Frozen P]
inductive FR2 (σ : Sg) : Option (Nat × Value) → Option (Nat × Value) → Prop
  | none : FR2 σ none none
  | some {i : Nat} {v v' : Value} : VR σ v v' → FR2 σ (some (i, v)) (some (i, v'))
theorem findNow_run {kd : TypeDesc} {k : Value} : ∀ {es es' : List MapEntry} {n : Nat} {r : Option (Nat × Value)}, ER σ es es' → Instr.findNow kd k es n = some r → ∃ r', Instr.findNow kd k es' n = some r' ∧ FR2 σ r r' := by
  intro es
  induction es with
  | nil => intro es' n r he h; cases he; simp only [Instr.findNow] at h; cases h; exact ⟨none, rfl, .none⟩
  | cons e es ih =>
    intro es' n r he h
    cases he with
    | @cons _ e' _ l' h1 h2 h3 h4 h5 =>
      simp only [Instr.findNow, h1] at h ⊢
      cases hs : Instr.sameNow kd k e.key with
      | none => rw [hs] at h; cases h
      | some b =>
        rw [hs] at h
        cases b with
        | true => cases h; exact ⟨_, rfl, .some h3⟩
        | false => exact ih h5 h
theorem checkKey_run {b : Bool} {kt : TypeId} {kd : TypeDesc} {k : Value} (hu : P.underlying kt = some kd) (hk : keyD kd = true) (w : World) : (Instr.checkKey b 10000 kt k).run P w = .ok () w := by
  obtain ⟨n, hn⟩ : ∃ n, 10000 = n + 1 := ⟨9999, rfl⟩
  rw [hn]
  unfold Instr.checkKey
  simp only [Sem.run_bind, run_under hu, Result.andThen_ok]
  cases kd <;> first | (cases hk; done) | rfl
theorem findKey_run {kt : TypeId} {kd : TypeDesc} {k : Value} {es : List MapEntry} {r : Option (Nat × Value)} (hu : P.underlying kt = some kd) (h : Instr.findNow kd k es 0 = some r) (w : World) : (Instr.findKey kt k es).run P w = .ok r w := by
  simp [Instr.findKey, run_under hu, h]
theorem run_getMap {r k : Nat} {es : Array MapEntry} (h : w.heap[r]? = some (.map es k)) : (getObj r).run P w = .ok (.map es k) w := by simp [getObj, Sem.run, h]
theorem okV_some {ok : Bool} {v u : Value} {b : Bool} (h : okV ok v b = some u) : u = if ok then .tuple #[v, .bool b] else v := by cases ok <;> (cases h; rfl)
theorem VR.ok {ok : Bool} {v v' : Value} {b : Bool} (h : VR σ v v') : VR σ (if ok then .tuple #[v, .bool b] else v) (if ok then .tuple #[v', .bool b] else v') := by
  cases ok
  · exact h
  · exact .tuple (.cons h (.cons (.flat rfl) .nil))
theorem mapV_some {v : Value} {m : Option Nat} : mapV v = some m ↔ v = .map m := by cases v <;> simp [mapV]
theorem entriesA_some {H : T AO} {m : Value} {es : List MapEntry} : entriesA H m = some es ↔ (m = .map none ∧ es = []) ∨ ∃ r k, m = .map (some r) ∧ H.get r = some (.map es k) := by
  simp only [entriesA, ob_some, mapV_some]
  constructor
  · rintro ⟨r, rfl, h⟩
    cases r with
    | none => cases h; exact .inl ⟨rfl, rfl⟩
    | some r =>
      have h' : (mapAt H r fun es _ => some es) = some es := h
      rw [mapAt_some] at h'
      obtain ⟨es', k, hg, h'⟩ := h'
      cases h'
      exact .inr ⟨r, k, rfl, hg⟩
  · rintro (⟨rfl, rfl⟩ | ⟨r, k, rfl, hg⟩)
    · exact ⟨none, rfl, rfl⟩
    · exact ⟨some r, rfl, mapAt_some.2 ⟨es, k, hg, rfl⟩⟩
theorem lookupA_run (hR : Rel P σ A w) {t : TypeId} {m m' k k' u : Value} {ok : Bool} (h : lookupA P A.heap t m k ok = some u) (hm : VR σ m m') (hk : VR σ k k') :
    ∃ u', VR σ u u' ∧ (Instr.lookup t m' k' ok).run P w = .ok u' w := by
  simp only [lookupA, ob_some, bt_some, mapT_some, entriesA_some] at h
  obtain ⟨⟨kt, et⟩, ht, hf, kd, hkd, hkk, es, hes, r, hr, h⟩ := h
  obtain rfl := hk.of_flat hf
  simp only at ht hkd
  rcases hes with ⟨rfl, rfl⟩ | ⟨b0, c, rfl, hg⟩
  · obtain rfl := hm.of_flat rfl
    simp only [Instr.findNow] at hr
    cases hr
    have h' : (ob (zero2 P et) fun z => okV ok z false) = some u := h
    simp only [ob_some, zero2, bt_some, Option.some.injEq] at h'
    obtain ⟨z, ⟨i, hi, z', hz, hz2, rfl⟩, ho⟩ := h'
    rw [okV_some ho]
    have hzr : (zeroValue et).run P w = .ok z' w := by simp [zeroValue, run_info hi, hz]
    have hfk := findKey_run (P := P) (es := []) (k := k') hkd rfl w
    exact ⟨_, VR.ok (.refl_flat2 hz2), by simp [Instr.lookup, run_under ht, checkKey_run hkd hkk, hfk, hzr]⟩
  · obtain ⟨b, d, hs, rfl⟩ := hm.map_inv
    obtain ⟨es', hw, he⟩ := hR.map hs hg
    obtain ⟨r', hr', hfr⟩ := findNow_run he hr
    have hfk := findKey_run (P := P) hkd hr' w
    cases hfr with
    | none =>
      have h' : (ob (zero2 P et) fun z => okV ok z false) = some u := h
      simp only [ob_some, zero2, bt_some, Option.some.injEq] at h'
      obtain ⟨z, ⟨i, hi, z', hz, hz2, rfl⟩, ho⟩ := h'
      rw [okV_some ho]
      have hzr : (zeroValue et).run P w = .ok z' w := by simp [zeroValue, run_info hi, hz]
      exact ⟨_, VR.ok (.refl_flat2 hz2), by simp [Instr.lookup, run_under ht, run_getMap hw, checkKey_run hkd hkk, hfk, hzr]⟩
    | some hv =>
      rename_i i v v'
      rw [okV_some (show okV ok v true = some u from h)]
      exact ⟨_, VR.ok hv, by simp [Instr.lookup, run_under ht, run_getMap hw, checkKey_run hkd hkk, hfk]⟩
theorem ER.length {es es' : List MapEntry} (h : ER σ es es') : es'.length = es.length := by
  induction es generalizing es' with
  | nil => cases h; rfl
  | cons e es ih => cases h with | cons _ _ _ _ h5 => simp [ih h5]
theorem lenA_run (hR : Rel P σ A w) {t : TypeId} {x x' u : Value} (h : lenA P A.heap t x = some u) (hx : VR σ x x') (ts : List TypeId) (ty : TypeId) (as_ : List Value) :
    flat u = true ∧ (Builtin.len_ ⟨t :: ts⟩ ty ⟨x' :: as_⟩).run P w = .ok u w := by
  simp only [lenA, ob_some] at h
  obtain ⟨d, hd, h⟩ := h
  split at h
  · simp only [ob_some, strV_some, natV_eq, Option.some.injEq] at h
    obtain ⟨s, rfl, rfl⟩ := h
    obtain rfl := hx.of_flat rfl
    exact ⟨rfl, by simp [Builtin.len_, run_under hd, mkStr]; rfl⟩
  · split at h
    · rw [natV_eq] at h; cases h
      refine ⟨rfl, ?_⟩
      cases hx with
      | slice e => simp [Builtin.len_, run_under hd]; rfl
      | flat e => simp [Builtin.len_, run_under hd]; rfl
    · cases h
  · rw [natV_eq] at h; cases h
    exact ⟨rfl, by simp [Builtin.len_, run_under hd]; rfl⟩
  · simp only [ob_some, entriesA_some, natV_eq, Option.some.injEq] at h
    obtain ⟨es, hes, rfl⟩ := h
    refine ⟨rfl, ?_⟩
    rcases hes with ⟨rfl, rfl⟩ | ⟨r, k, rfl, hg⟩
    · obtain rfl := hx.of_flat rfl
      simp [Builtin.len_, run_under hd]; rfl
    · obtain ⟨b, d, hs, rfl⟩ := hx.map_inv
      obtain ⟨es', hw, he⟩ := hR.map hs hg
      have hl := he.length
      simp [Builtin.len_, run_under hd, run_getMap hw]
      rw [show es'.size = es.length by simpa using hl]
      rfl
  · cases h
theorem capA_run (hR : Rel P σ A w) {t : TypeId} {x x' u : Value} (h : capA P A.heap t x = some u) (hx : VR σ x x') (ts : List TypeId) (ty : TypeId) (as_ : List Value) :
    flat u = true ∧ (Builtin.cap_ ⟨t :: ts⟩ ty ⟨x' :: as_⟩).run P w = .ok u w := by
  simp only [capA, ob_some, sliceT_some] at h
  obtain ⟨e, hd, h⟩ := h
  split at h
  · rename_i a l n
    cases a with
    | none =>
      have h' : natV .i64 n = some u := h
      rw [natV_eq] at h'; cases h'
      refine ⟨rfl, ?_⟩
      cases hx with
      | flat e => simp [Builtin.cap_, run_under hd]; rfl
    | some a =>
      have h' : (rowAt A.heap a.block fun _ _ m => bt (bnot m.roomy) (natV .i64 n)) = some u := h
      simp only [rowAt_some, bt_some, natV_eq, Option.some.injEq, bnot_eq] at h'
      obtain ⟨c, e', m, hg, hrm, rfl⟩ := h'
      have hrm : m.roomy = false := by simpa using hrm
      refine ⟨rfl, ?_⟩
      cases hx with
      | flat e => simp [flat] at e
      | slice hs =>
        obtain ⟨c', e', fz, hw, hr, _⟩ := hR.rowA hs hg
        obtain rfl := hr.exact_ hrm
        simp [Builtin.cap_, run_under hd]; rfl
  · cases h
theorem convInt_run {s d : TypeId} {k : IntKind} {n : Int} {u : Value} (h : convInt P s d n = some u) (w : World) : flat u = true ∧ (convert s d (.int k n)).run P w = .ok u w := by
  simp only [convInt, ob_some] at h
  obtain ⟨sd, hs, dd, hd, kk, hk, h⟩ := h
  have hdd : dd = .int kk := by cases dd <;> simp [intD] at hk; rw [hk]
  subst hdd
  have hc : (convert s d (.int k n)).run P w = (Conv.intToInt kk n).run P w := by
    simp only [convert, Sem.run_bind, run_under hs, run_under hd, Result.andThen_ok]
  rw [hc]
  cases n with
  | negSucc m => have h' : flatPure P (Conv.intToInt kk (.negSucc m)) = some u := h; have := flatPure_run h'; exact ⟨this.1, this.2 w⟩
  | ofNat m =>
    have h' : (Bool.rec (flatPure P (Conv.intToInt kk (.ofNat m))) (natV kk m) (Nat.blt m (lim kk)) : Option Value) = some u := h
    cases hb : Nat.blt m (lim kk) with
    | false => rw [hb] at h'; have h'' : flatPure P (Conv.intToInt kk (.ofNat m)) = some u := h'; have := flatPure_run h''; exact ⟨this.1, this.2 w⟩
    | true =>
      rw [hb] at h'
      have h'' : natV kk m = some u := h'
      have hw : within kk m = some u := by unfold within; rw [hb]; exact h''
      rw [within_wrap hw]
      exact ⟨rfl, rfl⟩
theorem shape_of {b : Nat} {c' : Array Value} {e : TypeId} {fz : Nat × Nat} (h : w.heap[b]? = some (.cells c' e fz)) : w.shape? b = some (e, c'.size) := by simp [World.shape?, h]
theorem seenAt_run {b o : Nat} {c' : Array Value} {e : TypeId} {fz : Nat × Nat} (h : w.heap[b]? = some (.cells c' e fz)) : (Conv.seenAt ⟨b, o, none⟩).run P w = .ok ⟨b, o, none⟩ w := by
  simp [Conv.seenAt, viewAt, shape_of h]
theorem unsafeD_eq {d : TypeDesc} (h : unsafeD d = true) : d = .unsafePointer := by cases d <;> first | rfl | (cases h)
theorem RowR.exactly {d : Nat} {c : List Value} {e : TypeId} {m : Md} {c' : Array Value} {fz : Nat × Nat} (h : RowR P σ d c e m c' fz) (hm : m.roomy = false) : c'.size = c.length := by
  obtain ⟨cs, x, ec, hc, hx⟩ := h.cells
  rw [hx hm, List.append_nil] at ec
  rw [← hc.length, ← ec]; simp
theorem ptrConv_run (hR : Rel P σ A w) {s d : TypeId} {a : Addr} {x' u : Value} (h : ptrConvA P A.heap s d a = some u) (hx : VR σ (.pointer (some a)) x') : ∃ u', VR σ u u' ∧ (convert s d x').run P w = .ok u' w := by
  have hor : ptrOut P A.heap s d a = some u ∨ ptrIn P A.heap s d a = some u := by
    unfold ptrConvA at h
    cases ho : ptrOut P A.heap s d a with
    | some v => rw [ho] at h; exact .inl h
    | none => rw [ho] at h; exact .inr h
  rcases hor with h | h
  · simp only [ptrOut, ob_some, bt_some, ptrT_some, plainAt_some, rowAt_some, blt_iff, Option.some.injEq, bnot_eq, lget_eq] at h
    obtain ⟨t, hs, dd, hd, hud, n, hn, hn0, ha, c, e, m, hg, hrm, v, hv, rfl⟩ := h
    have := unsafeD_eq hud; subst this
    have hrm : m.roomy = false := by simpa using hrm
    rw [ha] at hx ⊢
    obtain ⟨b, dl, hsb, rfl⟩ := hx.ptr_inv
    obtain ⟨c', e', fz, hw, hr, _⟩ := hR.rowA hsb hg
    refine ⟨_, .ptr hsb, ?_⟩
    have hlt : a.off < c'.size := by
      rw [hr.exactly hrm]
      rcases Nat.lt_or_ge a.off c.length with h' | h'
      · exact h'
      · rw [List.getElem?_eq_none h'] at hv; cases hv
    have hn1 : n ≠ 0 := by omega
    simp only [convert, Sem.run_bind, run_under hs, run_under hd, Result.andThen_ok, Conv.unsafePointer, seenAt_run hw, cellsIn, run_shape, shape_of hw, Sem.run_pure, run_size hn]
    simp [hn1]
    omega
  · simp only [ptrIn, ob_some, bt_some, ptrT_some, plainAt_some, rowAt_some, Option.some.injEq, bnot_eq] at h
    obtain ⟨dd, hs, hud, t, hd, n, hn, ha, c, e, m, hg, hmw, hrm, hl, rfl⟩ := h
    have := unsafeD_eq hud; subst this
    have hrm : m.roomy = false := by simpa using hrm
    rw [ha] at hx ⊢
    obtain ⟨b, dl, hsb, rfl⟩ := hx.ptr_inv
    obtain ⟨c', fz, hw, hr⟩ := hR.row hsb hg hmw
    refine ⟨_, .ptr hsb, ?_⟩
    have hl' : liesAt P P.depth e (c'.size / P.cellsOf e) a.off t 1 = true := by rw [hr.exactly hrm]; exact hl
    simp [convert, run_under hs, run_under hd, Conv.unsafePointer, seenAt_run hw, run_size hn, variablesAt, shape_of hw, hl']
end Go.Ev
end

/- The evaluator: every quiet operation gives what the model gives. -/
section
set_option linter.unusedSectionVars false
namespace Go.Ev
variable {P : Program} {σ : Sg} {A : AW} {w : World} [Frozen P]
def OK (P : Program) [Frozen P] (σ : Sg) (F : T Value) (a : Act) (xs : List Operand) : Prop := ∀ x ∈ xs, ∀ v, opnd P F x = some v → VR σ v (a.eval x)
theorem opnds_run {F : T Value} {a : Act} : ∀ {xs : List Operand} {vs : List Value}, OK P σ F a xs → opnds P F xs = some vs → VRL σ vs (xs.map a.eval) := by
  intro xs
  induction xs with
  | nil => intro vs _ h; have := omap_nil.1 h; subst this; exact .nil
  | cons x xs ih =>
    intro vs hO h
    obtain ⟨y, ys, h1, h2, rfl⟩ := omap_cons.1 h
    exact .cons (hO x (by simp) y h1) (ih (fun x hx => hO x (by simp [hx])) h2)
theorem parts_run {F : T Value} {a : Act} : ∀ {xs : List (Nat × Operand)} {vs : List (Nat × Value)}, OK P σ F a (xs.map (·.2)) → partsA P F xs = some vs → PR σ vs (xs.map fun p => (p.1, a.eval p.2)) := by
  intro xs
  induction xs with
  | nil => intro vs _ h; have := omap_nil.1 h; subst this; exact .nil
  | cons x xs ih =>
    intro vs hO h
    obtain ⟨y, ys, h1, h2, rfl⟩ := omap_cons.1 h
    simp only [ob_some, Option.some.injEq] at h1
    obtain ⟨v, hv, rfl⟩ := h1
    exact .cons (hO x.2 (by simp) v hv) (ih (fun x hx => hO x (by simp at hx ⊢; exact .inr hx)) h2)
theorem optOp_run {F : T Value} {a : Act} {x : Option Operand} {v : Option Value} (hO : OK P σ F a x.toList) (h : optOp P F x = some v) : OVR σ v (x.map a.eval) := by
  cases x with
  | none => cases h; exact .none
  | some x =>
    have h' : (ob (opnd P F x) fun v => some (some v)) = some v := h
    simp only [ob_some, Option.some.injEq] at h'
    obtain ⟨u, hu, rfl⟩ := h'
    exact .some (hO x (by simp) u hu)
theorem nilCheck_run {x x' u : Value} (h : nilCheckA x = some u) (hx : VR σ x x') : u = x ∧ ((∃ p, x' = .pointer (some p)) ∨ ∃ f a c, x' = .func (.func f) a c) := by
  unfold nilCheckA at h
  split at h
  · cases h; rw [hx.ptr_plain] at hx; obtain ⟨b, d, _, rfl⟩ := hx.ptr_inv; exact ⟨rfl, .inl ⟨_, rfl⟩⟩
  · cases h
    cases hx with
    | func _ _ => exact ⟨rfl, .inr ⟨_, _, _, rfl⟩⟩
    | flat e => simp [flat] at e
  · cases h
theorem map_pairs (a : Act) (ps : List (Nat × Operand)) : (⟨ps⟩ : Array (Nat × Operand)).map (fun (i, x) => (i, a.eval x)) = ⟨ps.map fun p => (p.1, a.eval p.2)⟩ := by
  have : (⟨ps⟩ : Array (Nat × Operand)) = ps.toArray := rfl
  rw [this, List.map_toArray]
theorem map_ops (a : Act) (xs : List Operand) : (⟨xs⟩ : Array Operand).map a.eval = ⟨xs.map a.eval⟩ := by
  have : (⟨xs⟩ : Array Operand) = xs.toArray := rfl
  rw [this, List.map_toArray]
theorem data_run (a : Addr) (l c : Nat) (hc : c ≠ 0) (ts : Array TypeId) (ty : TypeId) (w : World) : (Builtin.unsafeSliceData_ ts ty #[.slice (some a) l c]).run P w = .ok (.pointer (some a)) w := by
  show (if c ≠ 0 then (pure (.pointer (some a)) : Sem Value) else _).run P w = _
  rw [if_pos hc]; rfl
theorem dataV_run {x x' u : Value} (h : dataV x = some u) (hx : VR σ x x') (ts : Array TypeId) (ty : TypeId) (w : World) : ∃ u', VR σ u u' ∧ (Builtin.unsafeSliceData_ ts ty #[x']).run P w = .ok u' w := by
  unfold dataV at h
  split at h
  · cases h
    cases hx with
    | flat e => exact ⟨_, .flat rfl, rfl⟩
  · cases h
    cases hx with
    | slice e => exact ⟨_, .ptr e, data_run _ _ _ (by omega) ts ty w⟩
    | flat e => simp [flat] at e
  · cases h
theorem qBuiltin_sound (hR : Rel P σ A w) {b : Builtin} {c : Call} {a : Act} {F : T Value} {v : Value} {ty : TypeId} {cs : Array Bool} (hO : OK P σ F a c.args.toList) (h : qBuiltin b c P F A.heap = some v) :
    ∃ v', VR σ v v' ∧ (builtin b c.argTypes ty cs (c.args.map a.eval)).run P w = .ok (.value v') w := by
  obtain ⟨cal, ⟨args⟩, ⟨ats⟩⟩ := c
  rw [map_ops]
  unfold qBuiltin at h
  split at h
  · simp only [qOne, ob_some, lget_eq] at h
    obtain ⟨t, ht, x, hx, u, hu, h⟩ := h
    cases ats with
    | nil => simp at ht
    | cons t' ts => cases args with
      | nil => simp at hx
      | cons x' xs =>
        simp at ht hx; subst ht hx
        obtain ⟨hf, hr⟩ := lenA_run hR h (hO _ (by simp) u hu) ts ty (xs.map a.eval)
        exact ⟨v, .flat hf, by simp only [builtin, List.map_cons, Sem.run_bind, hr, Result.andThen_ok, Sem.run_pure]⟩
  · simp only [qOne, ob_some, lget_eq] at h
    obtain ⟨t, ht, x, hx, u, hu, h⟩ := h
    cases ats with
    | nil => simp at ht
    | cons t' ts => cases args with
      | nil => simp at hx
      | cons x' xs =>
        simp at ht hx; subst ht hx
        obtain ⟨hf, hr⟩ := capA_run hR h (hO _ (by simp) u hu) ts ty (xs.map a.eval)
        exact ⟨v, .flat hf, by simp only [builtin, List.map_cons, Sem.run_bind, hr, Result.andThen_ok, Sem.run_pure]⟩
  · simp only [qMinMax, ob_some, bt_some] at h
    obtain ⟨vs, hvs, hf, h⟩ := h
    have hv := opnds_run hO hvs
    rw [hv.of_flats hf]
    have := flatPure_run h
    refine ⟨v, .flat this.1, ?_⟩
    have h2 : (Builtin.min_ ⟨ats⟩ ty ⟨vs⟩).run P w = .ok v w := this.2 w
    simp only [builtin, Sem.run_bind, h2, Result.andThen_ok, Sem.run_pure]
  · simp only [qMinMax, ob_some, bt_some] at h
    obtain ⟨vs, hvs, hf, h⟩ := h
    have hv := opnds_run hO hvs
    rw [hv.of_flats hf]
    have := flatPure_run h
    refine ⟨v, .flat this.1, ?_⟩
    have h2 : (Builtin.max_ ⟨ats⟩ ty ⟨vs⟩).run P w = .ok v w := this.2 w
    simp only [builtin, Sem.run_bind, h2, Result.andThen_ok, Sem.run_pure]
  · unfold qData at h
    split at h
    · rename_i x hx
      simp only at hx
      subst hx
      rw [ob_some] at h
      obtain ⟨u, hu, h⟩ := h
      obtain ⟨u', h1, h2⟩ := dataV_run (P := P) h (hO _ (by simp) u hu) ⟨ats⟩ ty w
      exact ⟨u', h1, by simp only [builtin, List.map_cons, List.map_nil, Sem.run_bind, Sem.run_pure]; rw [h2]; rfl⟩
    · cases h
  · cases h
theorem evQ_sound (hR : Rel P σ A w) {o : Oper} {a : Act} {F : T Value} {v : Value} (hO : OK P σ F a o.op.operands.toList) (h : evQ o.op P F A.heap = some v) :
    ∃ v', VR σ v v' ∧ (execOp a.eval o).run P w = .ok (.value v') w := by
  obtain ⟨dst, op, ty, pos, after, guard⟩ := o
  cases op <;> simp only [evQ] at h <;> try (cases h; done)
  case move x => exact ⟨_, hO x (by simp [Op.operands]) v h, rfl⟩
  case assign x => exact ⟨_, hO x (by simp [Op.operands]) v h, rfl⟩
  case pick c x y =>
    simp only [qPick, ob_some, boolOf_some] at h
    obtain ⟨u, hu, b, rfl, h⟩ := h
    have hc := (hO c (by simp [Op.operands]) _ hu).of_flat rfl
    cases b with
    | true => exact ⟨_, hO x (by simp [Op.operands]) v h, by simp [execOp, hc, asBool]⟩
    | false => exact ⟨_, hO y (by simp [Op.operands]) v h, by simp [execOp, hc, asBool]⟩
  case load t x =>
    simp only [qLoad, ob_some] at h
    obtain ⟨u, hu, h⟩ := h
    obtain ⟨u', h1, h2, _⟩ := run_loadA hR h (hO x (by simp [Op.operands]) u hu)
    exact ⟨u', h1, by simp [execOp, h2]⟩
  case nilCheck x =>
    simp only [qNil, ob_some] at h
    obtain ⟨u, hu, h⟩ := h
    have hx := hO x (by simp [Op.operands]) u hu
    obtain ⟨rfl, h3⟩ := nilCheck_run h hx
    refine ⟨_, hx, ?_⟩
    rcases h3 with ⟨p, hp⟩ | ⟨f, b, c, hp⟩ <;> simp [execOp, hp]
  case build t ps =>
    simp only [qBuild, ob_some] at h
    obtain ⟨vs, hvs, h⟩ := h
    obtain ⟨ps⟩ := ps
    have hp := parts_run (a := a) (fun x hx => hO x (by simpa [Op.operands] using hx)) hvs
    obtain ⟨v', h1, h2⟩ := buildA_run h hp w
    refine ⟨v', h1, ?_⟩
    simp only [execOp, map_pairs, Sem.run_bind, h2, Result.andThen_ok, Sem.run_pure]
  case binOp op t x y yt =>
    simp only [qBin, ob_some] at h
    obtain ⟨u, hu, u2, hu2, h⟩ := h
    obtain ⟨hf, hr⟩ := binA_run h (hO x (by simp [Op.operands]) u hu) (hO y (by simp [Op.operands]) u2 hu2) w
    refine ⟨v, .flat hf, ?_⟩
    simp only [execOp, Sem.run_bind] at hr ⊢
    rw [hr]; rfl
  case unOp op t x =>
    simp only [qUn, ob_some, bt_some] at h
    obtain ⟨u, hu, hf, h⟩ := h
    have hx := (hO x (by simp [Op.operands]) _ hu).of_flat hf
    have := flatPure_run h
    exact ⟨v, .flat this.1, by simp [execOp, hx, this.2 w]⟩
  case convert s d x =>
    simp only [qConv, ob_some] at h
    obtain ⟨u, hu, h⟩ := h
    have hx := hO x (by simp [Op.operands]) _ hu
    split at h
    · have hx := hx.of_flat rfl
      have := fun k => convInt_run (k := k) h w
      exact ⟨v, .flat (this .i64).1, by simp only [execOp, hx, Sem.run_bind, (this _).2, Result.andThen_ok, Sem.run_pure]⟩
    · rw [ob_some] at h
      obtain ⟨p, rfl, h⟩ := h
      obtain ⟨u', h1, h2⟩ := ptrConv_run hR h hx
      exact ⟨u', h1, by simp only [execOp, Sem.run_bind, h2, Result.andThen_ok, Sem.run_pure]⟩
    · cases h
  case makeInterface t x =>
    simp only [qIface, ob_some, bt_some, Option.some.injEq, bnot_eq] at h
    obtain ⟨u, hu, d, hd, hi, hlt, rfl⟩ := h
    refine ⟨_, .iface hlt (hO x (by simp [Op.operands]) _ hu), ?_⟩
    simp only [execOp, Instr.makeInterface, Sem.run_bind, run_under hd, Result.andThen_ok]
    cases d <;> first | (simp [ifaceD] at hi; done) | rfl
  case makeFunc fn f c =>
    simp only [qFunc, ob_some, Option.some.injEq] at h
    obtain ⟨vf, hf, vc, hc, rfl⟩ := h
    obtain ⟨f⟩ := f; obtain ⟨c⟩ := c
    have h1 := opnds_run (a := a) (fun x hx => hO x (by simp [Op.operands]; exact .inl hx)) hf
    have h2 := opnds_run (a := a) (fun x hx => hO x (by simp [Op.operands]; exact .inr hx)) hc
    exact ⟨_, .func h1 h2, by simp [execOp, Instr.makeFunc]⟩
  case slice t x lo hi mx =>
    simp only [qSlice, ob_some] at h
    obtain ⟨u, hu, lo', hlo, hi', hhi, mx', hmx, h⟩ := h
    obtain ⟨u', h1, h2⟩ := sliceA_run hR h (hO x (by simp [Op.operands]) u hu) (optOp_run (fun x hx => hO x (by simp at hx; simp [Op.operands, hx])) hlo) (optOp_run (fun x hx => hO x (by simp at hx; simp [Op.operands, hx])) hhi) (optOp_run (fun x hx => hO x (by simp at hx; simp [Op.operands, hx])) hmx)
    exact ⟨u', h1, by simp only [execOp, Sem.run_bind, h2, Result.andThen_ok, Sem.run_pure]⟩
  case sliceToArrayPointer t x =>
    simp only [qArr, ob_some, arrayT_some] at h
    obtain ⟨⟨n, e⟩, ht, u, hu, h⟩ := h
    have hx := hO x (by simp [Op.operands]) u hu
    split at h
    · simp only [ob_some, bt_some, bleIff, Option.some.injEq] at h
      obtain ⟨p, rfl, hle, rfl⟩ := h
      cases hE : a.eval x <;> rw [hE] at hx <;> cases hx
      · rename_i e1; simp [flat] at e1
      · rename_i i b d o e1
        refine ⟨_, .ptr e1, ?_⟩
        simp only at hle ht
        simp only [execOp, hE, Instr.arrayAt, Sem.run_bind, run_under ht, Result.andThen_ok]
        rw [if_neg (by omega)]
        rfl
    · cases h
  case fieldAddr s x f =>
    simp only [qFieldAddr, ob_some] at h
    obtain ⟨u, hu, h⟩ := h
    obtain ⟨u', h1, h2⟩ := fieldAddr_run h (hO x (by simp [Op.operands]) u hu) w
    exact ⟨u', h1, by simp only [execOp, Sem.run_bind, h2, Result.andThen_ok, Sem.run_pure]⟩
  case field t x f =>
    simp only [qField, ob_some] at h
    obtain ⟨u, hu, h⟩ := h
    obtain ⟨u', h1, h2⟩ := field_run h (hO x (by simp [Op.operands]) u hu) w
    exact ⟨u', h1, by simp only [execOp, Sem.run_bind, h2, Result.andThen_ok, Sem.run_pure]⟩
  case indexAddr t x i =>
    simp only [qIndexAddr, ob_some] at h
    obtain ⟨u, hu, k, hk, h⟩ := h
    obtain ⟨u', h1, h2⟩ := indexAddr_run h (hO x (by simp [Op.operands]) u hu) (hO i (by simp [Op.operands]) k hk) w
    exact ⟨u', h1, by simp only [execOp, Sem.run_bind, h2, Result.andThen_ok, Sem.run_pure]⟩
  case index t x i =>
    simp only [qIndex, ob_some] at h
    obtain ⟨u, hu, k, hk, h⟩ := h
    obtain ⟨u', h1, h2⟩ := index_run h (hO x (by simp [Op.operands]) u hu) (hO i (by simp [Op.operands]) k hk) w
    exact ⟨u', h1, by simp only [execOp, Sem.run_bind, h2, Result.andThen_ok, Sem.run_pure]⟩
  case lookup t x k ok =>
    simp only [qLookup, ob_some] at h
    obtain ⟨u, hu, kv, hk, h⟩ := h
    obtain ⟨u', h1, h2⟩ := lookupA_run hR h (hO x (by simp [Op.operands]) u hu) (hO k (by simp [Op.operands]) kv hk)
    exact ⟨u', h1, by simp only [execOp, Sem.run_bind, h2, Result.andThen_ok, Sem.run_pure]⟩
  case extract x i =>
    simp only [qExtract, ob_some, tupV_some, lget_eq] at h
    obtain ⟨u, hu, vs, rfl, h⟩ := h
    obtain ⟨c', hc, he⟩ := (hO x (by simp [Op.operands]) _ hu).tuple_inv
    obtain ⟨v', hv, hr⟩ := hc.get h
    refine ⟨v', hr, ?_⟩
    have : (⟨c'⟩ : Array Value)[i]? = some v' := by rw [← Array.getElem?_toList]; exact hv
    simp [execOp, he, Instr.extract, this]
  case call c =>
    obtain ⟨cal, args, ats⟩ := c
    cases cal with
    | builtin b =>
      have h : qBuiltin b ⟨.builtin b, args, ats⟩ P F A.heap = some v := h
      obtain ⟨v', h1, h2⟩ := qBuiltin_sound hR (ty := ty) (cs := args.map fun | .const _ => true | _ => false) (fun x hx => hO x (by simp [Op.operands, Call.operands]; simpa using hx)) h
      refine ⟨v', h1, ?_⟩
      simp only [execOp, resolve, Sem.run_bind, Sem.run_pure, Result.andThen_ok, invoke]
      exact h2
    | _ => cases h
end Go.Ev
end
