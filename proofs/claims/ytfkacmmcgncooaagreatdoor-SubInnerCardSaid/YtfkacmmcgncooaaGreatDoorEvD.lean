/- The evaluator: how its memory relates to the model's; what is read there. -/
import Derived.Test.YtfkacmmcgncooaaGreatDoorEvB
import Derived.Laws.Cells
import Derived.Laws.Strings
section
set_option linter.unusedSectionVars false
namespace Go.Ev
variable {P : Program} {σ : Sg}
inductive ER (σ : Sg) : List MapEntry → List MapEntry → Prop
  | nil : ER σ [] []
  | cons {e e' : MapEntry} {l l' : List MapEntry} : e'.key = e.key → flat e.key = true → VR σ e.val e'.val → e'.born = e.born → ER σ l l' → ER σ (e :: l) (e' :: l')
def unfrozen (n : Nat) (fz : Nat × Nat) : Prop := ∀ o, o < n → ¬ (fz.1 ≤ o ∧ o < fz.2)
structure RowR (P : Program) (σ : Sg) (d : Nat) (c : List Value) (e : TypeId) (m : Md) (c' : Array Value) (fz : Nat × Nat) : Prop where
  cells : ∃ cs x, c'.toList = cs ++ x ∧ VRL σ c cs ∧ (m.roomy = false → x = [])
  exact_ : m.roomy = false → d = 0
  cap : ∀ rc, m = .grown rc → ∀ i, P.info? e = some i → c'.size = (rc + d) * i.size
  free : m.writes = true → unfrozen c'.size fz
def OR (P : Program) (σ : Sg) (d : Nat) : AO → Obj → Prop
  | .row c e m, .cells c' e' fz => (m.writes = false ∨ e' = e) ∧ RowR P σ d c e m c' fz
  | .map es k, .map es' k' => k' = k ∧ ER σ es es'.toList
  | _, _ => False
def live : AO → Bool
  | .dead => false
  | _ => true
def mayW : AO → Bool
  | .row _ _ m => m.writes
  | .map _ _ => true
  | .dead => false
theorem live_of_mayW {o : AO} (h : mayW o = true) : live o = true := by cases o <;> simp_all [mayW, live]
def Wr (σ : Sg) (A : AW) (b : Nat) : Prop := ∃ i d o, σ i = some (b, d) ∧ A.heap.get i = some o ∧ mayW o = true
class Frozen (P : Program) where
  F : Nat → Option Obj
structure RelB (P : Program) (σ : Sg) (A : AW) (w : World) : Prop where
  obj : ∀ i b d o, σ i = some (b, d) → A.heap.get i = some o → live o = true → ∃ x, w.heap[b]? = some x ∧ OR P σ d o x
  inj : ∀ i j b d d' o o', σ i = some (b, d) → σ j = some (b, d') → A.heap.get i = some o → A.heap.get j = some o' → live o = true → live o' = true → (mayW o || mayW o') = true → i = j
  lim : ∀ i, A.next ≤ i → σ i = none
  glob : ∀ g, g < P.globals.size → σ g = some (g, 0)
  top : ∀ i, A.next ≤ i → A.heap.get i = none
def Fro (P : Program) [Frozen P] (σ : Sg) (A : AW) (w : World) : Prop := ∀ b x, Frozen.F P b = some x → w.heap[b]? = some x ∧ ¬ Wr σ A b
structure Rel (P : Program) [Frozen P] (σ : Sg) (A : AW) (w : World) : Prop extends RelB P σ A w where
  fro : Fro P σ A w
variable [Frozen P]
structure Step (σ : Sg) (A : AW) (w : World) (σ' : Sg) (A' : AW) (w' : World) : Prop where
  ext : ∀ i, i < A.next → σ' i = σ i
  next : A.next ≤ A'.next
  os : w'.os = w.os
  tape : w'.tape = w.tape
  output : w'.output = w.output
  size : w.heap.size ≤ w'.heap.size
  block : ∀ b, b < w.heap.size → ¬ Wr σ A b → w'.heap[b]? = w.heap[b]?
  wr : ∀ b, b < w.heap.size → Wr σ' A' b → Wr σ A b
  new : ∀ i b d o, A.next ≤ i → σ' i = some (b, d) → A'.heap.get i = some o → live o = true → b < w.heap.size → Wr σ A b
  old : ∀ i o, i < A.next → A'.heap.get i = some o → live o = true → ∃ o', A.heap.get i = some o' ∧ live o' = true
theorem Step.refl {A : AW} {w : World} (h : ∀ i, A.next ≤ i → σ i = none) : Step σ A w σ A w :=
  ⟨fun _ _ => rfl, Nat.le_refl _, rfl, rfl, rfl, Nat.le_refl _, fun _ _ _ => rfl, fun _ _ h => h, fun i b d o h1 h2 _ _ _ => (by
    rw [h i h1] at h2; cases h2), fun i o _ h2 h3 => ⟨o, h2, h3⟩⟩
theorem Step.trans {σ1 σ2 : Sg} {A A1 A2 : AW} {w w1 w2 : World} (h : Step σ A w σ1 A1 w1) (k : Step σ1 A1 w1 σ2 A2 w2) : Step σ A w σ2 A2 w2 where
  ext := fun i hi => (k.ext i (Nat.lt_of_lt_of_le hi h.next)).trans (h.ext i hi)
  next := Nat.le_trans h.next k.next
  os := k.os.trans h.os
  tape := k.tape.trans h.tape
  output := k.output.trans h.output
  size := Nat.le_trans h.size k.size
  block := fun b hb hn => (k.block b (Nat.lt_of_lt_of_le hb h.size) fun hw => hn (h.wr b hb hw)).trans (h.block b hb hn)
  wr := fun b hb hw => h.wr b hb (k.wr b (Nat.lt_of_lt_of_le hb h.size) hw)
  new := fun i b d o hi hs ho hl hb => by
    by_cases h1 : A1.next ≤ i
    · exact h.wr b hb (k.new i b d o h1 hs ho hl (Nat.lt_of_lt_of_le hb h.size))
    · have h1 : i < A1.next := Nat.lt_of_not_le h1
      obtain ⟨o', ho', hl'⟩ := k.old i o h1 ho hl
      exact h.new i b d o' hi (by rw [← k.ext i h1]; exact hs) ho' hl' hb
  old := fun i o hi ho hl => by
    obtain ⟨o', ho', hl'⟩ := k.old i o (Nat.lt_of_lt_of_le hi h.next) ho hl
    exact h.old i o' hi ho' hl'
theorem Fro.step {σ' : Sg} {A A' : AW} {w w' : World} (h : Fro P σ A w) (k : Step σ A w σ' A' w') : Fro P σ' A' w' := fun b x e => by
  obtain ⟨h1, h2⟩ := h b x e
  have hb : b < w.heap.size := (Array.getElem?_eq_some_iff.1 h1).1
  exact ⟨(k.block b hb h2).trans h1, fun hw => h2 (k.wr b hb hw)⟩
theorem Rel.both {σ' : Sg} {A A' : AW} {w w' : World} (hR : Rel P σ A w) (h : RelB P σ' A' w' ∧ Step σ A w σ' A' w') : Rel P σ' A' w' ∧ Step σ A w σ' A' w' := ⟨⟨h.1, hR.fro.step h.2⟩, h.2⟩
theorem Step.sub {σ' : Sg} {A A' : AW} {w w' : World} (h : Step σ A w σ' A' w') (hl : ∀ i, A.next ≤ i → σ i = none) : Sub σ σ' := fun i p hp => by
  by_cases hi : i < A.next
  · rw [h.ext i hi]; exact hp
  · rw [hl i (Nat.le_of_not_lt hi)] at hp; cases hp
theorem rowAt_some {H : T AO} {i : Nat} {β : Type} {f : List Value → TypeId → Md → Option β} {y : β} : rowAt H i f = some y ↔ ∃ c e m, H.get i = some (.row c e m) ∧ f c e m = some y := by
  simp only [rowAt, ob_some]
  constructor
  · rintro ⟨o, h, h2⟩
    cases o with
    | row c e m => exact ⟨c, e, m, h, h2⟩
    | map _ _ => cases h2
    | dead => cases h2
  · rintro ⟨c, e, m, h, h2⟩; exact ⟨_, h, h2⟩
theorem mapAt_some {H : T AO} {i : Nat} {β : Type} {f : List MapEntry → Nat → Option β} {y : β} : mapAt H i f = some y ↔ ∃ es k, H.get i = some (.map es k) ∧ f es k = some y := by
  simp only [mapAt, ob_some]
  constructor
  · rintro ⟨o, h, h2⟩
    cases o with
    | row c e m => cases h2
    | map es k => exact ⟨es, k, h, h2⟩
    | dead => cases h2
  · rintro ⟨es, k, h, h2⟩; exact ⟨_, h, h2⟩
theorem plainAt_some {a : Addr} {β : Type} {f : Nat → Nat → Option β} {y : β} : plainAt a f = some y ↔ a = ⟨a.block, a.off, none⟩ ∧ f a.block a.off = some y := by
  obtain ⟨b, o, s⟩ := a
  cases s <;> simp [plainAt]
theorem ptrV_some {v : Value} {a : Addr} : ptrV v = some a ↔ v = .pointer (some a) := by cases v <;> simp [ptrV]
theorem aggV_some {v : Value} {c : List Value} : aggV v = some c ↔ v = .agg ⟨c⟩ := by
  cases v <;> simp [aggV]
  rename_i x; obtain ⟨x⟩ := x; simp
theorem numV_some {v : Value} {n : Nat} : numV v = some n ↔ ∃ k, v = .int k (.ofNat n) := by
  cases v <;> simp [numV]
  rename_i k i; cases i <;> simp
  omega
theorem strV_some {v : Value} {l : List UInt8} : strV v = some l ↔ v = mkStr l := by
  cases v <;> simp [strV, mkStr]
  rename_i x; obtain ⟨⟨x⟩⟩ := x; simp
theorem tupV_some {v : Value} {c : List Value} : tupV v = some c ↔ v = .tuple ⟨c⟩ := by
  cases v <;> simp [tupV]
  rename_i x; obtain ⟨x⟩ := x; simp
theorem boolOf_some {v : Value} {b : Bool} : boolOf v = some b ↔ v = .bool b := by cases v <;> simp [boolOf]
theorem VR.ptr_inv {i o : Nat} {v' : Value} (h : VR σ (.pointer (some ⟨i, o, none⟩)) v') : ∃ b d, σ i = some (b, d) ∧ v' = .pointer (some ⟨b, o, none⟩) := by
  cases h with
  | ptr e => exact ⟨_, _, e, rfl⟩
  | flat e => simp [Ev.flat] at e
theorem VR.ptr_plain {a : Addr} {v' : Value} (h : VR σ (.pointer (some a)) v') : a = ⟨a.block, a.off, none⟩ := by
  cases h with
  | ptr e => rfl
  | flat e => simp [Ev.flat] at e
theorem VR.slice_inv {i o l c : Nat} {v' : Value} (h : VR σ (.slice (some ⟨i, o, none⟩) l c) v') : ∃ b d, σ i = some (b, d) ∧ v' = .slice (some ⟨b, o, none⟩) l (c + d) := by
  cases h with
  | slice e => exact ⟨_, _, e, rfl⟩
  | flat e => simp [Ev.flat] at e
theorem VR.map_inv {i : Nat} {v' : Value} (h : VR σ (.map (some i)) v') : ∃ b d, σ i = some (b, d) ∧ v' = .map (some b) := by
  cases h with
  | map e => exact ⟨_, _, e, rfl⟩
  | flat e => simp [Ev.flat] at e
theorem VR.agg_inv {c : List Value} {v' : Value} (h : VR σ (.agg ⟨c⟩) v') : ∃ c', VRL σ c c' ∧ v' = .agg ⟨c'⟩ := by
  cases h with
  | agg a => exact ⟨_, a, rfl⟩
  | flat e => simp [Ev.flat] at e
theorem VR.tuple_inv {c : List Value} {v' : Value} (h : VR σ (.tuple ⟨c⟩) v') : ∃ c', VRL σ c c' ∧ v' = .tuple ⟨c'⟩ := by
  cases h with
  | tuple a => exact ⟨_, a, rfl⟩
  | flat e => simp [Ev.flat] at e
theorem VR.undef : VR σ Go.undef Go.undef := .tuple .nil
variable {A : AW} {w : World}
theorem Rel.rowA (hR : Rel P σ A w) {i b d : Nat} {c : List Value} {e : TypeId} {m : Md} (hs : σ i = some (b, d)) (hg : A.heap.get i = some (.row c e m)) :
    ∃ c' e' fz, w.heap[b]? = some (.cells c' e' fz) ∧ RowR P σ d c e m c' fz ∧ (m.writes = false ∨ e' = e) := by
  obtain ⟨x, hx, ho⟩ := hR.obj i b d _ hs hg rfl
  cases x with
  | cells c' e' fz => obtain ⟨h, hr⟩ := ho; exact ⟨c', e', fz, hx, hr, h⟩
  | _ => exact ho.elim
theorem Rel.row (hR : Rel P σ A w) {i b d : Nat} {c : List Value} {e : TypeId} {m : Md} (hs : σ i = some (b, d)) (hg : A.heap.get i = some (.row c e m)) (hm : m.writes = true) :
    ∃ c' fz, w.heap[b]? = some (.cells c' e fz) ∧ RowR P σ d c e m c' fz := by
  obtain ⟨c', e', fz, hx, hr, h⟩ := hR.rowA hs hg
  rcases h with e | rfl
  · rw [e] at hm; cases hm
  · exact ⟨c', fz, hx, hr⟩
theorem Rel.map (hR : Rel P σ A w) {i b d : Nat} {es : List MapEntry} {k : Nat} (hs : σ i = some (b, d)) (hg : A.heap.get i = some (.map es k)) :
    ∃ es', w.heap[b]? = some (.map es' k) ∧ ER σ es es'.toList := by
  obtain ⟨x, hx, ho⟩ := hR.obj i b d _ hs hg rfl
  cases x with
  | map es' k' => obtain ⟨rfl, hr⟩ := ho; exact ⟨es', hx, hr⟩
  | _ => exact ho.elim
theorem RowR.get {d : Nat} {c : List Value} {e : TypeId} {m : Md} {c' : Array Value} {fz : Nat × Nat} (h : RowR P σ d c e m c' fz) {k : Nat} {v : Value} (hk : c[k]? = some v) :
    ∃ v', c'[k]? = some v' ∧ VR σ v v' := by
  obtain ⟨cs, x, e, hc, _⟩ := h.cells
  obtain ⟨v', hv, hr⟩ := hc.get hk
  refine ⟨v', ?_, hr⟩
  rw [← Array.getElem?_toList, e, List.getElem?_append_left (by
    rcases Nat.lt_or_ge k cs.length with h' | h'
    · exact h'
    · rw [List.getElem?_eq_none h'] at hv; cases hv)]
  exact hv
theorem cell_of {b o : Nat} {c' : Array Value} {e : TypeId} {fz : Nat × Nat} {v' : Value} (h : w.heap[b]? = some (.cells c' e fz)) (hk : c'[o]? = some v') : w.cell? ⟨b, o, none⟩ = some v' := by
  simp [World.cell?, h, hk]
theorem add_plain (b o n : Nat) : (⟨b, o, none⟩ : Addr).add n = ⟨b, o + n, none⟩ := by
  unfold Addr.add; split <;> simp_all
theorem run_info {t : TypeId} {i : TypeInfo} (h : P.info? t = some i) (w : World) : (typeInfo t).run P w = .ok i w := by simp [typeInfo, h]
theorem run_under {t : TypeId} {d : TypeDesc} (h : P.underlying t = some d) (w : World) : (underlying t).run P w = .ok d w := by simp [underlying, h]
theorem sizeA_some {t : TypeId} {n : Nat} : sizeA P t = some n ↔ ∃ i, P.info? t = some i ∧ i.size = n := by simp [sizeA, ob_some]
theorem run_size {t : TypeId} {n : Nat} (h : sizeA P t = some n) (w : World) : (sizeOf t).run P w = .ok n w := by
  obtain ⟨i, hi, rfl⟩ := sizeA_some.1 h
  simp [sizeOf, run_info hi]
theorem run_agg {t : TypeId} {b : Bool} (h : isAggA P t = some b) (w : World) : (isAgg t).run P w = .ok b w := by
  simp only [isAggA, ob_some, Option.some.injEq] at h
  obtain ⟨d, hd, rfl⟩ := h
  simp only [isAgg, Sem.run_bind, run_under hd, Result.andThen_ok]
  cases d <;> rfl
theorem run_part {t : TypeId} {c cs : List Value} {off : Nat} {v : Value} (h : partA P t c off = some v) (hc : VRL σ c cs) (x : List Value) (w : World) :
    ∃ v', VR σ v v' ∧ (part t ⟨cs ++ x⟩ off).run P w = .ok v' w := by
  simp only [partA, ob_some] at h
  obtain ⟨b, hb, h⟩ := h
  have hlen := hc.length
  cases b with
  | false =>
    have h' : lget c off = some v := h
    rw [lget_eq] at h'
    obtain ⟨v', hv, hr⟩ := hc.get h'
    have hlt : off < cs.length := by
      rcases Nat.lt_or_ge off cs.length with h' | h'
      · exact h'
      · rw [List.getElem?_eq_none h'] at hv; cases hv
    have : (cs ++ x)[off]? = some v' := by rw [List.getElem?_append_left hlt]; exact hv
    refine ⟨v', hr, ?_⟩
    simp [part, run_agg hb, this]
  | true =>
    have h' : ob (sizeA P t) (fun n => ob (lsub c off n) fun l => some (.agg ⟨l⟩)) = some v := h
    simp only [ob_some, Option.some.injEq] at h'
    obtain ⟨n, hn, l, hl, rfl⟩ := h'
    obtain ⟨rfl, hle⟩ := lsub_some hl
    refine ⟨.agg ⟨(cs.drop off).take n⟩, .agg ((hc.drop off).take n), ?_⟩
    simp only [part, Sem.run_bind, run_agg hb, run_size hn, Result.andThen_ok, if_true, Sem.run_pure]
    congr 2
    apply Array.toList_inj.1
    rw [Array.toList_extract]
    simp only [List.extract_eq_take_drop]
    rw [List.drop_append_of_le_length (by omega), List.take_append_of_le_length (by simp; omega)]
    congr 1
    omega
theorem run_loadA (hR : Rel P σ A w) {t : TypeId} {v u v' : Value} (h : loadA P t A.heap v = some u) (hv : VR σ v v') :
    ∃ u', VR σ u u' ∧ (Instr.loadAt t v').run P w = .ok u' w ∧ ∃ a, v' = .pointer (some a) ∧ (loadVar t a).run P w = .ok u' w := by
  simp only [loadA, ob_some, plainAt_some, rowAt_some, ptrV_some] at h
  obtain ⟨a, rfl, ha, c, e, m, hg, h⟩ := h
  rw [ha] at hv
  obtain ⟨b, d, hs, rfl⟩ := hv.ptr_inv
  obtain ⟨c', e', fz, hw, hr, _⟩ := hR.rowA hs hg
  simp only [partA, ob_some] at h
  obtain ⟨ag, hb, h⟩ := h
  suffices hh : ∃ u', VR σ u u' ∧ (loadVar t ⟨b, a.off, none⟩).run P w = .ok u' w by
    obtain ⟨u', h1, h2⟩ := hh
    exact ⟨u', h1, by simp [Instr.loadAt, Instr.sureAddr, h2], _, rfl, h2⟩
  cases ag with
  | false =>
    have h' : lget c a.off = some u := h
    rw [lget_eq] at h'
    obtain ⟨u', hk, hu⟩ := hr.get h'
    refine ⟨u', hu, ?_⟩
    simp [loadVar, run_agg hb, cell_of hw hk]
  | true =>
    have h' : ob (sizeA P t) (fun n => ob (lsub c a.off n) fun l => some (.agg ⟨l⟩)) = some u := h
    simp only [ob_some, Option.some.injEq] at h'
    obtain ⟨n, hn, l, hl, rfl⟩ := h'
    obtain ⟨rfl, hle⟩ := lsub_some hl
    obtain ⟨cs, x, ec, hc, _⟩ := hr.cells
    have hlen := hc.length
    refine ⟨.agg ⟨(cs.drop a.off).take n⟩, .agg ((hc.drop a.off).take n), ?_⟩
    have hll : ((cs.drop a.off).take n).length = n := by simp; omega
    have hload := run_loadCells_list (P := P) (w := w) ⟨b, a.off, none⟩ ((cs.drop a.off).take n) (fun j v hj => by
      rw [add_plain]
      refine cell_of hw ?_
      rw [← Array.getElem?_toList, ec]
      have hjl : j < n := by
        rcases Nat.lt_or_ge j n with h' | h'
        · exact h'
        · rw [List.getElem?_eq_none (by omega)] at hj; cases hj
      rw [List.getElem?_append_left (by omega)]
      rw [List.getElem?_take, if_pos hjl, List.getElem?_drop] at hj
      exact hj)
    rw [hll] at hload
    simp [loadVar, run_agg hb, run_size hn, hload]
end Go.Ev
end

/- The evaluator: the operators. -/
section
set_option linter.unusedSectionVars false
namespace Go.Ev
variable {P : Program} {σ : Sg} {A : AW} {w : World} [Frozen P]
theorem pureA_run {α : Type} (s : Sem α) : ∀ {v : α}, pureA P s = some v → ∀ w, s.run P w = .ok v w := by
  induction s with
  | pure a => intro v h w; simp only [pureA, Option.some.injEq] at h; subst h; rfl
  | program k ih => intro v h w; simp only [pureA] at h; exact ih P h w
  | _ => intro v h w; simp [pureA] at h
theorem flatPure_run {s : Sem Value} {v : Value} (h : flatPure P s = some v) : flat v = true ∧ ∀ w, s.run P w = .ok v w := by
  simp only [flatPure, ob_some, bt_some, fval_eq, Option.some.injEq] at h
  obtain ⟨u, hu, hf, rfl⟩ := h
  exact ⟨hf, pureA_run s hu⟩
theorem eqGuard_plain {op : BinOp} {t : TypeId} {x y : Operand} {a b : Value} (h1 : a ≠ .nilIface) (h2 : ∀ c, a ≠ .agg c) (w : World) : (eqGuard op t x y a b).run P w = .ok () w := by
  unfold eqGuard
  cases op <;> first | rfl | (cases a <;> first | rfl | exact absurd rfl h1 | exact absurd rfl (h2 _))
theorem eqGuard_const {op : BinOp} {t : TypeId} {x y : Operand} (h : (isConstO x || isConstO y) = true) (b : Value) (w : World) : (eqGuard op t x y .nilIface b).run P w = .ok () w := by
  unfold eqGuard
  cases op <;> first | rfl | (cases b <;> first | rfl | (cases x <;> cases y <;> first | rfl | (simp [isConstO] at h)))
theorem within_wrap {k : IntKind} {n : Nat} {v : Value} (h : within k n = some v) : v = .int k (k.wrap (n : Int)) := by
  unfold within at h
  cases hb : Nat.blt n (lim k) with
  | true =>
    have hlt := blt_iff.1 hb
    rw [hb] at h
    have h' : natV k n = some v := h
    rw [natV_eq] at h'
    cases h'
    congr 1
    cases k <;> simp only [lim] at hlt <;> simp [IntKind.wrap, IntKind.bits, IntKind.signed] <;> omega
  | false =>
    rw [hb] at h
    have h' : bt (unsig k) (natV k (Nat.mod n (lim k))) = some v := h
    simp only [bt_some, natV_eq, Option.some.injEq] at h'
    obtain ⟨hu, rfl⟩ := h'
    congr 1
    have hm : Nat.mod n (lim k) = n % lim k := rfl
    rw [hm]
    cases k <;> simp only [unsig] at hu <;> first | (exact absurd hu (by decide)) | (simp [lim, IntKind.wrap, IntKind.bits, IntKind.signed]; done) | (simp [lim, IntKind.wrap, IntKind.bits, IntKind.signed]; omega)
theorem lim_le (k : IntKind) : lim k ≤ 2 ^ k.bits := by cases k <;> decide
theorem nbits_eq (k : IntKind) : nbits k = k.bits := by cases k <;> rfl
theorem sameK_eq {j k : IntKind} (h : sameK j k = true) : j = k := by cases j <;> cases k <;> first | rfl | exact absurd h (by decide)
theorem ofInt_nat {n a : Nat} (h : a < 2 ^ n) : (BitVec.ofInt n (a : Int)).toNat = a := by
  rw [BitVec.toNat_ofInt]
  have : ((a : Int) % ((2 ^ n : Nat) : Int)) = ((a % 2 ^ n : Nat) : Int) := by simp
  rw [this, Nat.mod_eq_of_lt h]
  rfl
theorem nBits_run {f : Nat → Nat → Nat} {k : IntKind} {a b : Nat} {v : Value} (h : nBits f k a b = some v) : a < 2 ^ k.bits ∧ b < 2 ^ k.bits ∧ v = .int k (k.wrap ((f a b : Nat) : Int)) := by
  simp only [nBits, bt_some, blt_iff] at h
  exact ⟨Nat.lt_of_lt_of_le h.1 (lim_le k), Nat.lt_of_lt_of_le h.2.1 (lim_le k), within_wrap h.2.2⟩
theorem intBits_run {k : IntKind} {a b : Nat} (ha : a < 2 ^ k.bits) (hb : b < 2 ^ k.bits) :
    Op.intBits .and k (a : Int) (b : Int) = pure (.int k (k.wrap ((Nat.land a b : Nat) : Int))) ∧ Op.intBits .or k (a : Int) (b : Int) = pure (.int k (k.wrap ((Nat.lor a b : Nat) : Int))) ∧
    Op.intBits .xor k (a : Int) (b : Int) = pure (.int k (k.wrap ((Nat.xor a b : Nat) : Int))) := by
  refine ⟨?_, ?_, ?_⟩ <;> simp only [Op.intBits, BitVec.toNat_and, BitVec.toNat_or, BitVec.toNat_xor, ofInt_nat ha, ofInt_nat hb] <;> rfl
theorem binOp_int {op : BinOp} {t : TypeId} {k : IntKind} {a b : Int} (hs : isShift op = false) : binOp op t (.int k a) (.int k b) =
    (match op with
    | .add | .sub | .mul => Op.intArith op k a b
    | .quo | .rem => Op.intDiv op k a b
    | .and | .or | .xor | .andNot => Op.intBits op k a b
    | _ => Op.intCmp op a b) := by
  cases op <;> first | (exact absurd hs (by decide)) | simp [binOp]
theorem nOp_run {op : BinOp} {t : TypeId} {j k : IntKind} {a b : Nat} {v : Value} (hk : isShift op = true ∨ j = k) (h : nOp op j a b = some v) (w : World) :
    flat v = true ∧ (binOp op t (.int j (a : Int)) (.int k (b : Int))).run P w = .ok v w := by
  have hfl : ∀ {n : Nat}, within j n = some v → flat v = true := fun h => by rw [within_wrap h]; rfl
  have hfb : ∀ {x : Bool}, boolV x = some v → flat v = true ∧ v = .bool x := fun h => by rw [boolV_eq] at h; cases h; exact ⟨rfl, rfl⟩
  cases op with
  | shl =>
    simp only [nOp, nShl, bt_some, bleIff, nbits_eq] at h
    refine ⟨hfl h.2, ?_⟩
    rw [within_wrap h.2]
    have hp : Nat.mul a (Nat.pow 2 b) = a * 2 ^ b := rfl
    simp only [binOp, Op.shift, hp]
    rw [if_neg (by omega)]
    simp only [Int.toNat_natCast, Nat.min_eq_left h.1]
    simp
  | shr =>
    simp only [nOp, nShr, bt_some, bleIff, nbits_eq, natV_eq, Option.some.injEq] at h
    obtain ⟨h1, rfl⟩ := h
    refine ⟨rfl, ?_⟩
    have hp : Nat.div a (Nat.pow 2 b) = a / 2 ^ b := rfl
    simp only [binOp, Op.shift, hp]
    rw [if_neg (by omega)]
    simp only [Int.toNat_natCast, Nat.min_eq_left h1, Sem.run_pure]
    congr 2
    rw [Int.fdiv_eq_ediv_of_nonneg _ (by exact Int.le_of_lt (Int.pow_pos (by decide)))]
    simp
  | andNot => simp [nOp] at h
  | add => obtain rfl : j = k := hk.resolve_left (by decide); refine ⟨hfl h, ?_⟩; rw [binOp_int rfl, within_wrap h]; simp [Op.intArith]
  | mul => obtain rfl : j = k := hk.resolve_left (by decide); refine ⟨hfl h, ?_⟩; rw [binOp_int rfl, within_wrap h]; simp [Op.intArith]
  | sub =>
    obtain rfl : j = k := hk.resolve_left (by decide)
    simp only [nOp, nSub, bt_some, bleIff] at h
    refine ⟨hfl h.2, ?_⟩; rw [binOp_int rfl, within_wrap h.2]
    have : ((Nat.sub a b : Nat) : Int) = (a : Int) - (b : Int) := by have : Nat.sub a b = a - b := rfl; omega
    simp only [Op.intArith, this, Sem.run_pure]
  | quo =>
    obtain rfl : j = k := hk.resolve_left (by decide)
    simp only [nOp, nQuo, bt_some, blt_iff] at h
    refine ⟨hfl h.2, ?_⟩; rw [binOp_int rfl, within_wrap h.2]
    have hb : ¬ ((b : Int) = 0) := by omega
    simp only [Op.intDiv, if_neg hb, Sem.run_pure]
    rfl
  | rem =>
    obtain rfl : j = k := hk.resolve_left (by decide)
    simp only [nOp, nRem, bt_some, blt_iff, natV_eq, Option.some.injEq] at h
    obtain ⟨h1, rfl⟩ := h
    refine ⟨rfl, ?_⟩; rw [binOp_int rfl]
    have hb : ¬ ((b : Int) = 0) := by omega
    simp only [Op.intDiv, if_neg hb, Sem.run_pure]
    rfl
  | and => obtain rfl : j = k := hk.resolve_left (by decide); obtain ⟨ha, hb, rfl⟩ := nBits_run h; rw [binOp_int rfl]; simp only [(intBits_run ha hb).1]; exact ⟨rfl, rfl⟩
  | or => obtain rfl : j = k := hk.resolve_left (by decide); obtain ⟨ha, hb, rfl⟩ := nBits_run h; rw [binOp_int rfl]; simp only [(intBits_run ha hb).2.1]; exact ⟨rfl, rfl⟩
  | xor => obtain rfl : j = k := hk.resolve_left (by decide); obtain ⟨ha, hb, rfl⟩ := nBits_run h; rw [binOp_int rfl]; simp only [(intBits_run ha hb).2.2]; exact ⟨rfl, rfl⟩
  | eql => obtain rfl : j = k := hk.resolve_left (by decide); obtain ⟨h1, rfl⟩ := hfb h; refine ⟨h1, ?_⟩; rw [binOp_int rfl]; simp [Op.intCmp]; rw [Bool.eq_iff_iff]; simp [beqIff]; try omega
  | neq => obtain rfl : j = k := hk.resolve_left (by decide); obtain ⟨h1, rfl⟩ := hfb h; refine ⟨h1, ?_⟩; rw [binOp_int rfl]; simp [Op.intCmp, bnot_eq]; rw [Bool.eq_iff_iff]; simp [← Bool.not_eq_true, beqIff]; try omega
  | lss => obtain rfl : j = k := hk.resolve_left (by decide); obtain ⟨h1, rfl⟩ := hfb h; refine ⟨h1, ?_⟩; rw [binOp_int rfl]; simp [Op.intCmp]; rw [Bool.eq_iff_iff]; simp [blt_iff]; try omega
  | leq => obtain rfl : j = k := hk.resolve_left (by decide); obtain ⟨h1, rfl⟩ := hfb h; refine ⟨h1, ?_⟩; rw [binOp_int rfl]; simp [Op.intCmp]; rw [Bool.eq_iff_iff]; simp [bleIff]; try omega
  | gtr => obtain rfl : j = k := hk.resolve_left (by decide); obtain ⟨h1, rfl⟩ := hfb h; refine ⟨h1, ?_⟩; rw [binOp_int rfl]; simp [Op.intCmp]; rw [Bool.eq_iff_iff]; simp [blt_iff]; try omega
  | geq => obtain rfl : j = k := hk.resolve_left (by decide); obtain ⟨h1, rfl⟩ := hfb h; refine ⟨h1, ?_⟩; rw [binOp_int rfl]; simp [Op.intCmp]; rw [Bool.eq_iff_iff]; simp [bleIff]; try omega
theorem intOp_run {op : BinOp} {t : TypeId} {j k : IntKind} {a b : Int} {v : Value} (h : intOp P op t j a k b = some v) (w : World) :
    flat v = true ∧ (binOp op t (.int j a) (.int k b)).run P w = .ok v w := by
  cases a with
  | negSucc m => have h' : slowInt P op t j (.negSucc m) k b = some v := h; have := flatPure_run h'; exact ⟨this.1, this.2 w⟩
  | ofNat m =>
    cases b with
    | negSucc n => have h' : slowInt P op t j (.ofNat m) k (.negSucc n) = some v := h; have := flatPure_run h'; exact ⟨this.1, this.2 w⟩
    | ofNat n =>
      have h' : bt (Bool.rec (sameK j k) true (isShift op)) (orElse (nOp op j m n) (slowInt P op t j (.ofNat m) k (.ofNat n))) = some v := h
      rw [bt_some] at h'
      obtain ⟨hk, h'⟩ := h'
      have hk' : isShift op = true ∨ j = k := by
        cases hs : isShift op with
        | true => exact .inl rfl
        | false => rw [hs] at hk; exact .inr (sameK_eq hk)
      cases hn : nOp op j m n with
      | some u => rw [hn] at h'; cases h'; exact nOp_run hk' hn w
      | none => rw [hn] at h'; have h'' : slowInt P op t j (.ofNat m) k (.ofNat n) = some v := h'; have := flatPure_run h''; exact ⟨this.1, this.2 w⟩
end Go.Ev
end

/- The evaluator: operators of other values; nil. -/
section
set_option linter.unusedSectionVars false
namespace Go.Ev
variable {P : Program} {σ : Sg} {A : AW} {w : World} [Frozen P]
theorem bytesEq_iff : ∀ (l m : List UInt8), bytesEq l m = true ↔ l = m := by
  intro l
  induction l with
  | nil => intro m; cases m with
    | nil => exact ⟨fun _ => rfl, fun _ => rfl⟩
    | cons b m => exact ⟨fun h => (by cases h), fun h => (by cases h)⟩
  | cons a l ih => intro m; cases m with
    | nil => exact ⟨fun h => (by cases h), fun h => (by cases h)⟩
    | cons b m =>
      show (Bool.rec false (bytesEq l m) (Nat.beq a.toNat b.toNat) : Bool) = true ↔ _
      cases hb : Nat.beq a.toNat b.toNat with
      | true =>
        have : a = b := by have := beqIff.1 hb; exact UInt8.toNat_inj.1 this
        subst this
        show bytesEq l m = true ↔ _
        rw [ih]; simp
      | false =>
        have : a ≠ b := fun e => by subst e; rw [beqIff.2 rfl] at hb; cases hb
        constructor
        · intro h; cases h
        · intro h; cases h; exact absurd rfl this
theorem ofEq_some {op : BinOp} {b : Bool} {v : Value} (h : ofEq op b = some v) : (op = .eql ∧ v = .bool b) ∨ (op = .neq ∧ v = .bool !b) := by
  unfold ofEq at h
  split at h
  · rw [boolV_eq] at h; cases h; exact .inl ⟨rfl, rfl⟩
  · rw [boolV_eq, bnot_eq] at h; cases h; exact .inr ⟨rfl, rfl⟩
  · cases h
theorem strOp_run {op : BinOp} {t : TypeId} {a b : ByteArray} {v : Value} (h : strOp op a.data.toList b.data.toList = some v) (w : World) : flat v = true ∧ (binOp op t (.string a) (.string b)).run P w = .ok v w := by
  have ha : a.toList = a.data.toList := ByteArray.toList_eq a
  have hb : b.toList = b.data.toList := ByteArray.toList_eq b
  unfold strOp at h
  split at h
  · simp only [bt_some, bleIff, Option.some.injEq] at h
    obtain ⟨h1, rfl⟩ := h
    refine ⟨rfl, ?_⟩
    have h2 : a.size + b.size ≤ 1099511627776 := h1
    simp only [binOp, Op.stringOp]
    rw [if_neg (by simp [IntKind.max, IntKind.signed, IntKind.bits]; omega)]
    simp only [Sem.run_pure]
    congr 2
  · rw [boolV_eq] at h; cases h
    refine ⟨rfl, ?_⟩
    simp only [binOp, Op.stringOp, ha, hb, Sem.run_pure]
    congr 2
    rw [Bool.eq_iff_iff, bytesEq_iff]; simp
  · rw [boolV_eq, bnot_eq] at h; cases h
    refine ⟨rfl, ?_⟩
    simp only [binOp, Op.stringOp, ha, hb, Sem.run_pure]
    congr 3
    rw [Bool.eq_iff_iff, bytesEq_iff]; simp
  · cases h
theorem equal_eq : ∃ n, ∀ (t : TypeId) (x y : Value), Op.equal t x y = Op.equalIn (n + 1) t x y := ⟨9999, fun _ _ _ => rfl⟩
theorem nilEq_run {t : TypeId} {x y x' y' : Value} {b : Bool} (h : nilEq P t x y = some b) (hx : VR σ x x') (hy : VR σ y y') (w : World) : (Op.equal t x' y').run P w = .ok b w := by
  obtain ⟨N, hN⟩ := equal_eq
  rw [hN]
  unfold nilEq at h
  split at h <;> rename_i hu <;> first | (cases h; done) | skip
  · obtain rfl := hy.of_flat rfl
    rename_i a
    cases a with
    | none => obtain rfl := hx.of_flat rfl; cases h; simp [Op.equalIn, run_under hu]
    | some a => cases h; rw [hx.ptr_plain] at hx; obtain ⟨b, d, _, rfl⟩ := hx.ptr_inv; simp [Op.equalIn, run_under hu]
  · obtain rfl := hx.of_flat rfl; cases h; rw [hy.ptr_plain] at hy; obtain ⟨b, d, _, rfl⟩ := hy.ptr_inv; simp [Op.equalIn, run_under hu]
  · obtain rfl := hy.of_flat rfl
    cases hx with
    | slice e => cases h; simp [Op.equalIn, run_under hu]
    | flat e => rename_i a _ _; cases a with
      | none => cases h; simp [Op.equalIn, run_under hu]
      | some a => simp [flat] at e
  · obtain rfl := hy.of_flat rfl
    cases hx with
    | map e => cases h; simp [Op.equalIn, run_under hu]
    | flat e => rename_i a; cases a with
      | none => cases h; simp [Op.equalIn, run_under hu]
      | some a => simp [flat] at e
  · obtain rfl := hy.of_flat rfl; obtain rfl := hx.of_flat rfl; cases h; simp [Op.equalIn, run_under hu]
  · obtain rfl := hy.of_flat rfl
    cases hx with
    | func a b => cases h; simp [Op.equalIn, run_under hu]
    | flat e => simp [flat] at e
  · obtain rfl := hy.of_flat rfl; obtain rfl := hx.of_flat rfl; cases h; simp [Op.equalIn, run_under hu]
  · obtain rfl := hy.of_flat rfl
    rw [bt_some] at h
    obtain ⟨hlt, h⟩ := h
    cases hx with
    | iface _ a => cases h; simp [Op.equalIn, run_under hu]
    | flat e => simp [flat] at e
    | sym => exact absurd hlt (by simp [Nat.blt_eq, SYM, UNK, MN])
    | any => exact absurd hlt (by simp [Nat.blt_eq, SYM, UNK, MN])
    | emp => exact absurd hlt (by simp [Nat.blt_eq, SYM, UNK, MN])
    | ext => exact absurd hlt (by simp [Nat.blt_eq, SYM, EXT])
    | exl => exact absurd hlt (by simp [Nat.blt_eq, SYM, EXL])
    | mn => exact absurd hlt (by simp [Nat.blt_eq, SYM, UNK, MN])
    | mnil => exact absurd hlt (by simp [Nat.blt_eq, SYM, UNK, MN])
def plainEq : Value → Bool
  | .int _ _ | .float _ _ | .complex _ _ _ | .string _ => false
  | _ => true
theorem binOp_eql {t : TypeId} {x y : Value} (hx : plainEq x = true) (b : Bool) (w : World) (h : (Op.equal t x y).run P w = .ok b w) :
    (binOp .eql t x y).run P w = .ok (.bool b) w ∧ (binOp .neq t x y).run P w = .ok (.bool !b) w := by
  cases x <;> first | (cases hx; done) | (constructor <;> simp [binOp, h])
theorem ofEq_run {op : BinOp} {t : TypeId} {x y : Value} {b : Bool} {v : Value} (hx : plainEq x = true) (h : (Op.equal t x y).run P w = .ok b w) (ho : ofEq op b = some v) :
    flat v = true ∧ (binOp op t x y).run P w = .ok v w := by
  rcases ofEq_some ho with ⟨rfl, rfl⟩ | ⟨rfl, rfl⟩
  · exact ⟨rfl, (binOp_eql hx b w h).1⟩
  · exact ⟨rfl, (binOp_eql hx b w h).2⟩
theorem not_sure {x x' : Value} {σ : Sg} (h : VR σ x x') (hs : sure x = true) : (∀ t v, x = .iface t v → Nat.blt t SYM = true) := fun t v e => by subst e; exact hs
theorem noSYM : ¬ Nat.blt SYM SYM = true := by simp [Nat.blt_eq, SYM, UNK, MN]
theorem noUNK : ¬ Nat.blt UNK SYM = true := by simp [Nat.blt_eq, SYM, UNK, MN]
theorem noEXT : ¬ Nat.blt EXT SYM = true := by simp [Nat.blt_eq, SYM, EXT]
theorem noEXL : ¬ Nat.blt EXL SYM = true := by simp [Nat.blt_eq, SYM, EXL]
theorem noMN : ¬ Nat.blt MN SYM = true := by simp [Nat.blt_eq, SYM, UNK, MN]
theorem VR.plainEq {x x' : Value} (h : VR σ x x') (hs : sure x = true) : Ev.plainEq x' = Ev.plainEq x := by
  have hq := not_sure h hs
  clear hs
  cases h with
  | sym => exact absurd (hq _ _ rfl) noSYM
  | any => exact absurd (hq _ _ rfl) noUNK
  | emp => exact absurd (hq _ _ rfl) noUNK
  | ext => exact absurd (hq _ _ rfl) noEXT
  | exl => exact absurd (hq _ _ rfl) noEXL
  | mnil => exact absurd (hq _ _ rfl) noMN
  | mn => exact absurd (hq _ _ rfl) noMN
  | _ => rfl
theorem nilEq_plain {t : TypeId} {x y : Value} {b : Bool} (h : nilEq P t x y = some b) : plainEq x = true := by
  unfold nilEq at h
  split at h <;> first | (cases h; done) | rfl
theorem VR.nil_iff {x x' : Value} (h : VR σ x x') (hs : sure x = true) : x' = .nilIface ↔ x = .nilIface := by
  have hq := not_sure h hs
  clear hs
  cases h with
  | sym => exact absurd (hq _ _ rfl) noSYM
  | any => exact absurd (hq _ _ rfl) noUNK
  | emp => exact absurd (hq _ _ rfl) noUNK
  | ext => exact absurd (hq _ _ rfl) noEXT
  | exl => exact absurd (hq _ _ rfl) noEXL
  | mnil => exact absurd (hq _ _ rfl) noMN
  | mn => exact absurd (hq _ _ rfl) noMN
  | _ => simp
theorem VR.agg_iff {x x' : Value} (h : VR σ x x') (hs : sure x = true) : (∀ c, x' ≠ .agg c) ↔ (∀ c, x ≠ .agg c) := by
  have hq := not_sure h hs
  clear hs
  cases h with
  | sym => exact absurd (hq _ _ rfl) noSYM
  | any => exact absurd (hq _ _ rfl) noUNK
  | emp => exact absurd (hq _ _ rfl) noUNK
  | ext => exact absurd (hq _ _ rfl) noEXT
  | exl => exact absurd (hq _ _ rfl) noEXL
  | mnil => exact absurd (hq _ _ rfl) noMN
  | mn => exact absurd (hq _ _ rfl) noMN
  | _ => simp
theorem nilEq_sure {t : TypeId} {x y : Value} {b : Bool} (h : nilEq P t x y = some b) : sure x = true := by
  unfold nilEq at h
  split at h <;> first | (cases h; done) | rfl | (rw [bt_some] at h; exact h.1)
theorem nilEq_noagg {t : TypeId} {x y : Value} {b : Bool} (h : nilEq P t x y = some b) : ∀ c, x ≠ .agg c := by
  intro c hc; subst hc
  unfold nilEq at h
  split at h <;> first | (cases h; done) | simp_all
theorem nilOp_run {op : BinOp} {t : TypeId} {xo yo : Operand} {x y x' y' v : Value} (h : nilOp P op t xo yo x y = some v) (hx : VR σ x x') (hy : VR σ y y') (w : World) :
    flat v = true ∧ (do eqGuard op t xo yo x' y'; binOp op t x' y').run P w = .ok v w := by
  simp only [nilOp, bt_some, ob_some] at h
  obtain ⟨hc, b, hb, ho⟩ := h
  have hr := ofEq_run (by rw [hx.plainEq (nilEq_sure hb)]; exact nilEq_plain hb) (nilEq_run hb hx hy w) ho
  refine ⟨hr.1, ?_⟩
  have hg : (eqGuard op t xo yo x' y').run P w = .ok () w := by
    by_cases hn : x = .nilIface
    · have := (hx.nil_iff (nilEq_sure hb)).2 hn
      subst this
      exact eqGuard_const (by revert hc; cases isConstO xo <;> cases isConstO yo <;> simp) y' w
    · exact eqGuard_plain (fun e => hn ((hx.nil_iff (nilEq_sure hb)).1 e)) ((hx.agg_iff (nilEq_sure hb)).2 (nilEq_noagg hb)) w
  simp [hg, hr.2]
theorem binA_run {op : BinOp} {t : TypeId} {xo yo : Operand} {x y x' y' v : Value} (h : binA P op t xo yo x y = some v) (hx : VR σ x x') (hy : VR σ y y') (w : World) :
    flat v = true ∧ (do eqGuard op t xo yo x' y'; binOp op t x' y').run P w = .ok v w := by
  unfold binA at h
  split at h
  · split at h
    · obtain rfl := hx.of_flat rfl; obtain rfl := hy.of_flat rfl
      have := intOp_run h w
      exact ⟨this.1, by simp [eqGuard_plain (a := .int _ _) (by simp) (by simp), this.2]⟩
    · cases h
  · split at h
    · obtain rfl := hx.of_flat rfl; obtain rfl := hy.of_flat rfl
      have := strOp_run (P := P) (t := t) h w
      exact ⟨this.1, by simp [eqGuard_plain (a := .string _) (by simp) (by simp), this.2]⟩
    · cases h
  · split at h
    · rename_i a _ b
      obtain rfl := hx.of_flat rfl; obtain rfl := hy.of_flat rfl
      simp only [boolOp, ob_some, bt_some] at h
      obtain ⟨d, hd, hb, ho⟩ := h
      have hdb : d = .bool := by cases d <;> first | rfl | (cases hb)
      subst hdb
      have he : (Op.equal t (.bool a) (.bool b)).run P w = .ok (a == b) w := by obtain ⟨N, hN⟩ := equal_eq; rw [hN]; simp [Op.equalIn, run_under hd]
      have hab : (Bool.rec (bnot b) b a : Bool) = (a == b) := by cases a <;> cases b <;> rfl
      rw [hab] at ho
      have := ofEq_run rfl he ho
      exact ⟨this.1, by simp [eqGuard_plain (a := .bool _) (by simp) (by simp), this.2]⟩
    · cases h
  · split at h
    · simp only [aggOp, bt_some] at h
      obtain ⟨_, h1, h2, h3⟩ := h
      obtain rfl := hx.of_flat2 h1; obtain rfl := hy.of_flat2 h2
      have := flatPure_run h3
      exact ⟨this.1, this.2 w⟩
    · cases h
  · unfold ptrOp at h
    split at h
    · rename_i a _ b
      simp only [ob_some, ptrEq, bt_some, plainAt_some, beqIff, blt_iff, ptrT, Option.some.injEq] at h
      obtain ⟨r, ⟨e, ⟨d, hd, he⟩, n, hn, hn0, ha, hb, hij, rfl⟩, ho⟩ := h
      have hde : d = .pointer e := by cases d <;> simp [ptrD] at he; rw [he]
      subst hde
      rw [ha] at hx; rw [hb] at hy
      obtain ⟨b1, d1, hs1, rfl⟩ := hx.ptr_inv
      obtain ⟨b2, d2, hs2, rfl⟩ := hy.ptr_inv
      rw [hij, hs2] at hs1
      cases hs1
      have hn1 : n ≠ 0 := by omega
      have hq : (Op.equal t (.pointer (some ⟨b1, a.off, none⟩)) (.pointer (some ⟨b1, b.off, none⟩))).run P w = .ok (Nat.beq a.off b.off) w := by
        obtain ⟨N, hN⟩ := equal_eq
        rw [hN]
        simp only [Op.equalIn, Sem.run_bind, run_under hd, Result.andThen_ok, run_size hn, ne_eq, hn1, not_false_eq_true, if_true, sameAddr, beq_self_eq_true]
        simp only [Sem.run_pure]
        congr 1
        rw [Bool.eq_iff_iff, beqIff]
        simp
      have := ofEq_run rfl hq ho
      exact ⟨this.1, by simp [eqGuard_plain (a := .pointer _) (by simp) (by simp), this.2]⟩
    · exact nilOp_run h hx hy w
  · exact nilOp_run h hx hy w
end Go.Ev
end

/- The evaluator: places, parts, slices, literals, maps. -/
section
set_option linter.unusedSectionVars false
namespace Go.Ev
variable {P : Program} {σ : Sg} {A : AW} {w : World} [Frozen P]
theorem cells_eq (v : Value) : v.cells = ⟨cellsA v⟩ := by cases v <;> rfl
theorem fold_set (off : Nat) : ∀ (l : List Value) (k : Nat) (c : Array Value), off + k + l.length ≤ c.size →
    ((l.zipIdx k).foldl (fun cs p => cs.setIfInBounds (off + p.2) p.1) c).toList = c.toList.take (off + k) ++ (l ++ c.toList.drop (off + k + l.length)) := by
  intro l
  induction l with
  | nil => intro k c h; simp
  | cons x l ih =>
    intro k c h
    simp only [List.zipIdx_cons, List.foldl_cons]
    rw [ih (k + 1) (c.setIfInBounds (off + k) x) (by simp at h ⊢; omega)]
    simp only [Array.toList_setIfInBounds]
    have hlt : off + k < c.toList.length := by simp at h ⊢; omega
    have ht : (c.toList.set (off + k) x).take (off + k + 1) = c.toList.take (off + k) ++ [x] := by
      rw [List.take_add_one, List.take_set_of_le (Nat.le_refl _), List.getElem?_set_self hlt]
      rfl
    rw [show off + (k + 1) = off + k + 1 by omega, ht, List.drop_set_of_lt (by omega)]
    simp only [List.length_cons, List.append_assoc, List.cons_append, List.nil_append]
    rw [show off + k + 1 + l.length = off + k + (l.length + 1) by omega]
inductive PR (σ : Sg) : List (Nat × Value) → List (Nat × Value) → Prop
  | nil : PR σ [] []
  | cons {i : Nat} {v v' : Value} {l l' : List (Nat × Value)} : VR σ v v' → PR σ l l' → PR σ ((i, v) :: l) ((i, v') :: l')
theorem fill_run {pl pl' : Nat → Option (Nat × Nat)} (hp : ∀ i q, pl i = some q → pl' i = some q) : ∀ {ps ps' : List (Nat × Value)} {z c zs : List Value}, PR σ ps ps' → fillA pl ps z = some c → VRL σ z zs →
    ∃ cs, Instr.fill pl' ⟨zs⟩ ps' = some ⟨cs⟩ ∧ VRL σ c cs := by
  intro ps
  induction ps with
  | nil => intro ps' z c zs hpr h hz; cases hpr; simp only [fillA] at h; cases h; exact ⟨zs, rfl, hz⟩
  | cons p ps ih =>
    intro ps' z c zs hpr h hz
    cases hpr with
    | @cons i v v' l l' hv hl =>
      have h' : ob (pl i) (fun q => bt (notU v) (bt (lenB (cellsA v) q.2) (ob (lover (cellsA v) q.1 z) (fillA pl ps)))) = some c := h
      simp only [ob_some, bt_some, lenB_iff] at h'
      obtain ⟨⟨off, size⟩, hq, hnu, hlen, z', hz', h'⟩ := h'
      simp only at hlen hz'
      obtain ⟨rfl, hle⟩ := lover_some _ _ _ _ hz'
      have hc := hv.cells hnu
      have hcl := hc.length
      have hzl := hz.length
      have hcs : v'.cells.size = size := by rw [← hlen, ← hcl]; simp
      have hVR : VRL σ (z.take off ++ (cellsA v ++ z.drop (off + (cellsA v).length))) (zs.take off ++ (v'.cells.toList ++ zs.drop (off + v'.cells.toList.length))) := by
        rw [hcl]; exact (hz.take off).append (hc.append (hz.drop _))
      obtain ⟨cs, h1, h2⟩ := ih hl h' hVR
      refine ⟨cs, ?_, h2⟩
      unfold Instr.fill
      simp only [hp i _ hq]
      rw [if_neg (by simp [hcs]; omega), ← h1]
      congr 1
      apply Array.toList_inj.1
      rw [← Array.foldl_toList, Array.toList_zipIdx]
      have := fold_set off v'.cells.toList 0 ⟨zs⟩ (by simp; omega)
      simpa using this
theorem zeroA_some {t : TypeId} {z : List Value} : zeroA P t = some z ↔ ∃ i v, P.info? t = some i ∧ i.zero = some v ∧ flats (cellsA v) = true ∧ z = cellsA v := by
  simp only [zeroA, ob_some, bt_some, Option.some.injEq]
  constructor
  · rintro ⟨i, hi, v, hv, hf, rfl⟩; exact ⟨i, v, hi, hv, hf, rfl⟩
  · rintro ⟨i, v, hi, hv, hf, rfl⟩; exact ⟨i, hi, v, hv, hf, rfl⟩
theorem run_zero {t : TypeId} {z : List Value} (h : zeroA P t = some z) (w : World) : ∃ v, (zeroValue t).run P w = .ok v w ∧ v.cells = ⟨z⟩ ∧ VRL σ z z := by
  obtain ⟨i, v, hi, hv, hf, rfl⟩ := zeroA_some.1 h
  exact ⟨v, by simp [zeroValue, run_info hi, hv], cells_eq v, .refl_flats hf⟩
theorem placesA_run : ∀ {fs : List Field} {pl : List (Nat × Nat)}, placesA P fs = some pl → ∀ w, (fs.mapM fun f => do pure (f.offset, ← sizeOf f.type) : Sem (List (Nat × Nat))).run P w = .ok pl w := by
  intro fs
  induction fs with
  | nil => intro pl h w; have := omap_nil.1 h; subst this; rfl
  | cons f fs ih =>
    intro pl h w
    obtain ⟨y, ys, h1, h2, rfl⟩ := omap_cons.1 h
    simp only [ob_some, Option.some.injEq] at h1
    obtain ⟨n, hn, rfl⟩ := h1
    have := ih h2 w
    simp only [List.mapM_cons, Sem.run_bind, run_size hn, Result.andThen_ok, Sem.run_pure, this]
theorem buildA_run {t : TypeId} {ps ps' : List (Nat × Value)} {v : Value} (h : buildA P t ps = some v) (hp : PR σ ps ps') (w : World) : ∃ v', VR σ v v' ∧ (Instr.build t ⟨ps'⟩).run P w = .ok v' w := by
  simp only [buildA, ob_some] at h
  obtain ⟨z, hz, d, hd, h⟩ := h
  obtain ⟨zv, hzr, hzc, hzz⟩ := run_zero (σ := σ) hz w
  split at h
  · rename_i fs
    simp only [buildS, ob_some, Option.some.injEq] at h
    obtain ⟨pl, hpl, c, hc, rfl⟩ := h
    obtain ⟨cs, h1, h2⟩ := fill_run (pl' := fun i => (pl.toArray)[i]?) (fun i q hq => by rw [lget_eq] at hq; simpa using hq) hp hc hzz
    refine ⟨.agg ⟨cs⟩, .agg h2, ?_⟩
    have hm := placesA_run hpl w
    obtain ⟨fl⟩ := fs
    have hm2 : (Array.mapM (fun f : Field => (do pure (f.offset, ← sizeOf f.type) : Sem (Nat × Nat))) ⟨fl⟩).run P w = .ok pl.toArray w := by
      have : (⟨fl⟩ : Array Field) = fl.toArray := rfl
      rw [this, List.mapM_toArray]
      simp only [Sem.run_map, hm, Result.andThen_ok]
    simp only [Instr.build, Sem.run_bind, hzr, Result.andThen_ok, run_under hd, hm2, hzc, h1, Sem.run_pure]
  · rename_i n e
    simp only [buildR, ob_some, Option.some.injEq] at h
    obtain ⟨sz, hsz, c, hc, rfl⟩ := h
    obtain ⟨cs, h1, h2⟩ := fill_run (pl' := fun i => some (i * sz, sz)) (fun i q hq => hq) hp hc hzz
    refine ⟨.agg ⟨cs⟩, .agg h2, ?_⟩
    simp only [Instr.build, Sem.run_bind, hzr, Result.andThen_ok, run_under hd, run_size hsz, hzc, h1, Sem.run_pure]
  · cases h
theorem ptrTo_eq (b o : Nat) : ptrTo b o = some (.pointer (some ⟨b, o, none⟩)) := fnat_eq o _
theorem structT_some {t : TypeId} {fs : Array Field} : structT P t = some fs ↔ P.underlying t = some (.struct fs) := by
  simp only [structT, ob_some]
  constructor
  · rintro ⟨d, hd, h⟩; cases d <;> simp [structD] at h; rw [hd, h]
  · intro h; exact ⟨_, h, rfl⟩
theorem sliceT_some {t e : TypeId} : sliceT P t = some e ↔ P.underlying t = some (.slice e) := by
  simp only [sliceT, ob_some]
  constructor
  · rintro ⟨d, hd, h⟩; cases d <;> simp [sliceD] at h; rw [hd, h]
  · intro h; exact ⟨_, h, rfl⟩
theorem arrayT_some {t : TypeId} {q : Nat × TypeId} : arrayT P t = some q ↔ P.underlying t = some (.array q.1 q.2) := by
  simp only [arrayT, ob_some]
  constructor
  · rintro ⟨d, hd, h⟩; cases d <;> simp [arrayD] at h; rw [hd, ← h]
  · intro h; exact ⟨_, h, rfl⟩
theorem mapT_some {t : TypeId} {q : TypeId × TypeId} : mapT P t = some q ↔ P.underlying t = some (.map q.1 q.2) := by
  simp only [mapT, ob_some]
  constructor
  · rintro ⟨d, hd, h⟩; cases d <;> simp [mapD] at h; rw [hd, ← h]
  · intro h; exact ⟨_, h, rfl⟩
theorem ptrT_some {t e : TypeId} : ptrT P t = some e ↔ P.underlying t = some (.pointer e) := by
  simp only [ptrT, ob_some]
  constructor
  · rintro ⟨d, hd, h⟩; cases d <;> simp [ptrD] at h; rw [hd, h]
  · intro h; exact ⟨_, h, rfl⟩
theorem fieldAddr_run {s : TypeId} {v v' u : Value} {f : Nat} (h : fieldAddrA P s v f = some u) (hv : VR σ v v') (w : World) : ∃ u', VR σ u u' ∧ (Instr.fieldAt s v' f).run P w = .ok u' w := by
  simp only [fieldAddrA, ob_some, bt_some, structT_some, ptrV_some, plainAt_some, blt_iff, ptrTo_eq, Option.some.injEq] at h
  obtain ⟨fs, hs, fd, hf, n, hn, hn0, a, rfl, ha, rfl⟩ := h
  rw [ha] at hv
  obtain ⟨b, d, hsb, rfl⟩ := hv.ptr_inv
  refine ⟨_, .ptr hsb, ?_⟩
  rw [lget_eq] at hf
  have hf' : fs[f]? = some fd := by rw [← Array.getElem?_toList]; exact hf
  have hn1 : n ≠ 0 := by omega
  simp [Instr.fieldAt, run_under hs, hf', Instr.sureAddr, fieldPlace, run_size hn, hn1, add_plain]
theorem field_run {t : TypeId} {v v' u : Value} {f : Nat} (h : fieldA P t v f = some u) (hv : VR σ v v') (w : World) : ∃ u', VR σ u u' ∧ (Instr.field t v' f).run P w = .ok u' w := by
  simp only [fieldA, ob_some, structT_some, aggV_some] at h
  obtain ⟨fs, hs, c, rfl, fd, hf, h⟩ := h
  obtain ⟨c', hc, rfl⟩ := hv.agg_inv
  obtain ⟨u', hu, hr⟩ := run_part h hc [] w
  refine ⟨u', hu, ?_⟩
  rw [lget_eq] at hf
  have hf' : fs[f]? = some fd := by rw [← Array.getElem?_toList]; exact hf
  simp only [List.append_nil] at hr
  simp [Instr.field, run_under hs, hf', asAgg, hr]
theorem indexAddr_run {t : TypeId} {x x' i i' u : Value} (h : indexAddrA P t x i = some u) (hx : VR σ x x') (hi : VR σ i i') (w : World) : ∃ u', VR σ u u' ∧ (Instr.indexAt t x' i').run P w = .ok u' w := by
  simp only [indexAddrA, ob_some] at h
  obtain ⟨d, hd, h⟩ := h
  split at h
  · rename_i len e
    simp only [ob_some, ptrV_some, idxAt, plainAt_some, numV_some, bt_some, blt_iff, ptrTo_eq, Option.some.injEq] at h
    obtain ⟨a, rfl, ha, n, ⟨k, rfl⟩, hlt, sz, hsz, rfl⟩ := h
    obtain rfl := hi.of_flat rfl
    rw [ha] at hx
    obtain ⟨b, d, hsb, rfl⟩ := hx.ptr_inv
    refine ⟨_, .ptr hsb, ?_⟩
    have h1 : (0 : Int) ≤ Int.ofNat n ∧ Int.ofNat n < (len : Int) := ⟨by simp, by simpa using hlt⟩
    simp only [Instr.indexAt, asIntOf, Sem.run_bind, Sem.run_pure, Result.andThen_ok, run_under hd, Instr.sureAddr, if_pos h1, run_size hsz, add_plain]
    rfl
  · rename_i e
    split at h
    · rename_i a len cap
      simp only [ob_some, idxAt, plainAt_some, numV_some, bt_some, blt_iff, ptrTo_eq, Option.some.injEq] at h
      obtain ⟨a, rfl, ha, n, ⟨k, rfl⟩, hlt, sz, hsz, rfl⟩ := h
      obtain rfl := hi.of_flat rfl
      rw [ha] at hx
      obtain ⟨b, d, hsb, rfl⟩ := hx.slice_inv
      refine ⟨_, .ptr hsb, ?_⟩
      have h1 : (0 : Int) ≤ Int.ofNat n ∧ Int.ofNat n < (len : Int) := ⟨by simp, by simpa using hlt⟩
      simp only [Instr.indexAt, asIntOf, Sem.run_bind, Sem.run_pure, Result.andThen_ok, run_under hd, if_pos h1, run_size hsz, add_plain]
      rfl
    · cases h
  · cases h
theorem index_run {t : TypeId} {x x' i i' u : Value} (h : indexA P t x i = some u) (hx : VR σ x x') (hi : VR σ i i') (w : World) : ∃ u', VR σ u u' ∧ (Instr.index t x' i').run P w = .ok u' w := by
  simp only [indexA, ob_some] at h
  obtain ⟨d, hd, h⟩ := h
  split at h
  · rename_i len e
    simp only [ob_some, aggV_some, numV_some, bt_some, blt_iff] at h
    obtain ⟨c, rfl, n, ⟨k, rfl⟩, hlt, sz, hsz, h⟩ := h
    obtain rfl := hi.of_flat rfl
    obtain ⟨c', hc, rfl⟩ := hx.agg_inv
    obtain ⟨u', hu, hr⟩ := run_part h hc [] w
    refine ⟨u', hu, ?_⟩
    have h1 : (0 : Int) ≤ Int.ofNat n ∧ Int.ofNat n < (len : Int) := ⟨by simp, by simpa using hlt⟩
    simp only [List.append_nil] at hr
    simp only [Instr.index, asIntOf, Sem.run_bind, Sem.run_pure, Result.andThen_ok, run_under hd, if_pos h1, run_size hsz]
    exact hr
  · simp only [ob_some, strV_some, numV_some, natV_eq, Option.some.injEq] at h
    obtain ⟨s, rfl, n, ⟨k, rfl⟩, b, hb, rfl⟩ := h
    obtain rfl := hi.of_flat rfl
    obtain rfl := hx.of_flat rfl
    rw [lget_eq] at hb
    refine ⟨_, .flat rfl, ?_⟩
    have h0 : (0 : Int) ≤ Int.ofNat n := by simp
    have hlt : n < s.length := by
      rcases Nat.lt_or_ge n s.length with h' | h'
      · exact h'
      · rw [List.getElem?_eq_none h'] at hb; cases hb
    have hg : (⟨⟨s⟩⟩ : ByteArray)[(Int.ofNat n).toNat]? = some b := by
      have hn : (Int.ofNat n).toNat = n := rfl
      rw [hn]
      have hsz : n < (⟨⟨s⟩⟩ : ByteArray).size := hlt
      rw [getElem?_pos (⟨⟨s⟩⟩ : ByteArray) n hsz]
      have : (⟨⟨s⟩⟩ : ByteArray)[n] = s[n] := rfl
      rw [this]
      rw [List.getElem?_eq_getElem hlt] at hb
      exact hb
    simp only [mkStr, Instr.index, asIntOf, Sem.run_bind, Sem.run_pure, Result.andThen_ok, run_under hd, if_pos h0, hg]
    rfl
  · cases h
end Go.Ev
end
