/- The evaluator: how its memory relates to the model's; what is read there. -/
import Derived.Test.YtamjbnfmpfgjcaaGreatDoorEvC
import Derived.Laws.Cells
namespace Go.Ev
variable {P : Program} {σ : Sg}

inductive ER (σ : Sg) : List MapEntry → List MapEntry → Prop
  | nil : ER σ [] []
  | cons {e e' : MapEntry} {l l' : List MapEntry} : e'.key = e.key → flat e.key = true → VR σ e.val e'.val → e'.born = e.born → ER σ l l' → ER σ (e :: l) (e' :: l')
def unfrozen (n : Nat) (fz : Nat × Nat) : Prop := ∀ o, o < n → ¬ (fz.1 ≤ o ∧ o < fz.2)
structure RowR (P : Program) (σ : Sg) (d : Nat) (c : List Value) (e : TypeId) (m : Md) (c' : Array Value) (fz : Nat × Nat) : Prop where
  cells : ∃ cs x, c'.toList = cs ++ x ∧ VRL σ c cs ∧ (m.roomy = false → x = [])
  exact_ : m.roomy = false → d = 0
  cap : ∀ rc, m = .grown rc → ∃ i, P.info? e = some i ∧ c'.size = (rc + d) * i.size
  free : m.writes = true → unfrozen c'.size fz
/-- How an object relates to the model's. -/
def OR (P : Program) (σ : Sg) (d : Nat) : AO → Obj → Prop
  | .row c e m, .cells c' e' fz => (m = .ro ∨ e' = e) ∧ RowR P σ d c e m c' fz
  | .map es k, .map es' k' => k' = k ∧ ER σ es es'.toList
  | _, _ => False
def live : AO → Bool
  | .dead => false
  | _ => true
def mayW : AO → Bool
  | .row _ _ m => m.writes
  | .map _ _ => true
  | .dead => false
theorem live_of_mayW {o : AO} (h : mayW o = true) : live o = true := by cases o <;> simp_all [mayW, live]
/-- A block that may be written. -/
def Wr (σ : Sg) (A : AW) (b : Nat) : Prop := ∃ i d o, σ i = some (b, d) ∧ A.heap.get i = some o ∧ mayW o = true
structure Rel (P : Program) (σ : Sg) (A : AW) (w : World) : Prop where
  obj : ∀ i b d o, σ i = some (b, d) → A.heap.get i = some o → live o = true → ∃ x, w.heap[b]? = some x ∧ OR P σ d o x
  inj : ∀ i j b d d' o o', σ i = some (b, d) → σ j = some (b, d') → A.heap.get i = some o → A.heap.get j = some o' → live o = true → live o' = true → i = j
  lim : ∀ i, A.next ≤ i → σ i = none
  glob : ∀ g, g < P.globals.size → σ g = some (g, 0)
  top : ∀ i, A.next ≤ i → A.heap.get i = none
/-- What a step leaves as it was. -/
structure Step (σ : Sg) (A : AW) (w : World) (σ' : Sg) (A' : AW) (w' : World) : Prop where
  ext : ∀ i, i < A.next → σ' i = σ i
  next : A.next ≤ A'.next
  os : w'.os = w.os
  tape : w'.tape = w.tape
  output : w'.output = w.output
  size : w.heap.size ≤ w'.heap.size
  block : ∀ b, b < w.heap.size → ¬ Wr σ A b → w'.heap[b]? = w.heap[b]?
  wr : ∀ b, b < w.heap.size → Wr σ' A' b → Wr σ A b
  new : ∀ i b d o, A.next ≤ i → σ' i = some (b, d) → A'.heap.get i = some o → live o = true → b < w.heap.size → Wr σ A b
  old : ∀ i o, i < A.next → A'.heap.get i = some o → live o = true → ∃ o', A.heap.get i = some o' ∧ live o' = true
theorem Step.refl {A : AW} {w : World} (h : ∀ i, A.next ≤ i → σ i = none) : Step σ A w σ A w :=
  ⟨fun _ _ => rfl, Nat.le_refl _, rfl, rfl, rfl, Nat.le_refl _, fun _ _ _ => rfl, fun _ _ h => h, fun i b d o h1 h2 _ _ _ => (by
    rw [h i h1] at h2; cases h2), fun i o _ h2 h3 => ⟨o, h2, h3⟩⟩
theorem Step.trans {σ1 σ2 : Sg} {A A1 A2 : AW} {w w1 w2 : World} (h : Step σ A w σ1 A1 w1) (k : Step σ1 A1 w1 σ2 A2 w2) : Step σ A w σ2 A2 w2 where
  ext := fun i hi => (k.ext i (Nat.lt_of_lt_of_le hi h.next)).trans (h.ext i hi)
  next := Nat.le_trans h.next k.next
  os := k.os.trans h.os
  tape := k.tape.trans h.tape
  output := k.output.trans h.output
  size := Nat.le_trans h.size k.size
  block := fun b hb hn => (k.block b (Nat.lt_of_lt_of_le hb h.size) fun hw => hn (h.wr b hb hw)).trans (h.block b hb hn)
  wr := fun b hb hw => h.wr b hb (k.wr b (Nat.lt_of_lt_of_le hb h.size) hw)
  new := fun i b d o hi hs ho hl hb => by
    by_cases h1 : A1.next ≤ i
    · exact h.wr b hb (k.new i b d o h1 hs ho hl (Nat.lt_of_lt_of_le hb h.size))
    · have h1 : i < A1.next := Nat.lt_of_not_le h1
      obtain ⟨o', ho', hl'⟩ := k.old i o h1 ho hl
      exact h.new i b d o' hi (by rw [← k.ext i h1]; exact hs) ho' hl' hb
  old := fun i o hi ho hl => by
    obtain ⟨o', ho', hl'⟩ := k.old i o (Nat.lt_of_lt_of_le hi h.next) ho hl
    exact h.old i o' hi ho' hl'
theorem Step.sub {σ' : Sg} {A A' : AW} {w w' : World} (h : Step σ A w σ' A' w') (hl : ∀ i, A.next ≤ i → σ i = none) : Sub σ σ' := fun i p hp => by
  by_cases hi : i < A.next
  · rw [h.ext i hi]; exact hp
  · rw [hl i (Nat.le_of_not_lt hi)] at hp; cases hp

/- Reading. -/
theorem rowAt_some {H : T AO} {i : Nat} {β : Type} {f : List Value → TypeId → Md → Option β} {y : β} : rowAt H i f = some y ↔ ∃ c e m, H.get i = some (.row c e m) ∧ f c e m = some y := by
  simp only [rowAt, ob_some]
  constructor
  · rintro ⟨o, h, h2⟩
    cases o with
    | row c e m => exact ⟨c, e, m, h, h2⟩
    | map _ _ => cases h2
    | dead => cases h2
  · rintro ⟨c, e, m, h, h2⟩; exact ⟨_, h, h2⟩
theorem mapAt_some {H : T AO} {i : Nat} {β : Type} {f : List MapEntry → Nat → Option β} {y : β} : mapAt H i f = some y ↔ ∃ es k, H.get i = some (.map es k) ∧ f es k = some y := by
  simp only [mapAt, ob_some]
  constructor
  · rintro ⟨o, h, h2⟩
    cases o with
    | row c e m => cases h2
    | map es k => exact ⟨es, k, h, h2⟩
    | dead => cases h2
  · rintro ⟨es, k, h, h2⟩; exact ⟨_, h, h2⟩
theorem plainAt_some {a : Addr} {β : Type} {f : Nat → Nat → Option β} {y : β} : plainAt a f = some y ↔ a = ⟨a.block, a.off, none⟩ ∧ f a.block a.off = some y := by
  obtain ⟨b, o, s⟩ := a
  cases s <;> simp [plainAt]
theorem ptrV_some {v : Value} {a : Addr} : ptrV v = some a ↔ v = .pointer (some a) := by cases v <;> simp [ptrV]
theorem aggV_some {v : Value} {c : List Value} : aggV v = some c ↔ v = .agg ⟨c⟩ := by
  cases v <;> simp [aggV]
  rename_i x; obtain ⟨x⟩ := x; simp
theorem numV_some {v : Value} {n : Nat} : numV v = some n ↔ ∃ k, v = .int k (.ofNat n) := by
  cases v <;> simp [numV]
  rename_i k i; cases i <;> simp
  omega
theorem strV_some {v : Value} {l : List UInt8} : strV v = some l ↔ v = mkStr l := by
  cases v <;> simp [strV, mkStr]
  rename_i x; obtain ⟨⟨x⟩⟩ := x; simp
theorem tupV_some {v : Value} {c : List Value} : tupV v = some c ↔ v = .tuple ⟨c⟩ := by
  cases v <;> simp [tupV]
  rename_i x; obtain ⟨x⟩ := x; simp
theorem boolOf_some {v : Value} {b : Bool} : boolOf v = some b ↔ v = .bool b := by cases v <;> simp [boolOf]
theorem VR.ptr_inv {i o : Nat} {v' : Value} (h : VR σ (.pointer (some ⟨i, o, none⟩)) v') : ∃ b d, σ i = some (b, d) ∧ v' = .pointer (some ⟨b, o, none⟩) := by
  cases h with
  | ptr e => exact ⟨_, _, e, rfl⟩
  | flat e => simp [Ev.flat] at e
theorem VR.ptr_plain {a : Addr} {v' : Value} (h : VR σ (.pointer (some a)) v') : a = ⟨a.block, a.off, none⟩ := by
  cases h with
  | ptr e => rfl
  | flat e => simp [Ev.flat] at e
theorem VR.slice_inv {i o l c : Nat} {v' : Value} (h : VR σ (.slice (some ⟨i, o, none⟩) l c) v') : ∃ b d, σ i = some (b, d) ∧ v' = .slice (some ⟨b, o, none⟩) l (c + d) := by
  cases h with
  | slice e => exact ⟨_, _, e, rfl⟩
  | flat e => simp [Ev.flat] at e
theorem VR.map_inv {i : Nat} {v' : Value} (h : VR σ (.map (some i)) v') : ∃ b d, σ i = some (b, d) ∧ v' = .map (some b) := by
  cases h with
  | map e => exact ⟨_, _, e, rfl⟩
  | flat e => simp [Ev.flat] at e
theorem VR.agg_inv {c : List Value} {v' : Value} (h : VR σ (.agg ⟨c⟩) v') : ∃ c', VRL σ c c' ∧ v' = .agg ⟨c'⟩ := by
  cases h with
  | agg a => exact ⟨_, a, rfl⟩
  | flat e => simp [Ev.flat] at e
theorem VR.tuple_inv {c : List Value} {v' : Value} (h : VR σ (.tuple ⟨c⟩) v') : ∃ c', VRL σ c c' ∧ v' = .tuple ⟨c'⟩ := by
  cases h with
  | tuple a => exact ⟨_, a, rfl⟩
  | flat e => simp [Ev.flat] at e
theorem VR.undef : VR σ Go.undef Go.undef := .tuple .nil

variable {A : AW} {w : World}
/-- A row that is there: its block's cells; of one that may be written the type, too. -/
theorem Rel.rowA (hR : Rel P σ A w) {i b d : Nat} {c : List Value} {e : TypeId} {m : Md} (hs : σ i = some (b, d)) (hg : A.heap.get i = some (.row c e m)) :
    ∃ c' e' fz, w.heap[b]? = some (.cells c' e' fz) ∧ RowR P σ d c e m c' fz ∧ (m = .ro ∨ e' = e) := by
  obtain ⟨x, hx, ho⟩ := hR.obj i b d _ hs hg rfl
  cases x with
  | cells c' e' fz => obtain ⟨h, hr⟩ := ho; exact ⟨c', e', fz, hx, hr, h⟩
  | _ => exact ho.elim
theorem Rel.row (hR : Rel P σ A w) {i b d : Nat} {c : List Value} {e : TypeId} {m : Md} (hs : σ i = some (b, d)) (hg : A.heap.get i = some (.row c e m)) (hm : m.writes = true) :
    ∃ c' fz, w.heap[b]? = some (.cells c' e fz) ∧ RowR P σ d c e m c' fz := by
  obtain ⟨c', e', fz, hx, hr, h⟩ := hR.rowA hs hg
  rcases h with rfl | rfl
  · cases hm
  · exact ⟨c', fz, hx, hr⟩
theorem Rel.map (hR : Rel P σ A w) {i b d : Nat} {es : List MapEntry} {k : Nat} (hs : σ i = some (b, d)) (hg : A.heap.get i = some (.map es k)) :
    ∃ es', w.heap[b]? = some (.map es' k) ∧ ER σ es es'.toList := by
  obtain ⟨x, hx, ho⟩ := hR.obj i b d _ hs hg rfl
  cases x with
  | map es' k' => obtain ⟨rfl, hr⟩ := ho; exact ⟨es', hx, hr⟩
  | _ => exact ho.elim
theorem RowR.get {d : Nat} {c : List Value} {e : TypeId} {m : Md} {c' : Array Value} {fz : Nat × Nat} (h : RowR P σ d c e m c' fz) {k : Nat} {v : Value} (hk : c[k]? = some v) :
    ∃ v', c'[k]? = some v' ∧ VR σ v v' := by
  obtain ⟨cs, x, e, hc, _⟩ := h.cells
  obtain ⟨v', hv, hr⟩ := hc.get hk
  refine ⟨v', ?_, hr⟩
  rw [← Array.getElem?_toList, e, List.getElem?_append_left (by
    rcases Nat.lt_or_ge k cs.length with h' | h'
    · exact h'
    · rw [List.getElem?_eq_none h'] at hv; cases hv)]
  exact hv
theorem cell_of {b o : Nat} {c' : Array Value} {e : TypeId} {fz : Nat × Nat} {v' : Value} (h : w.heap[b]? = some (.cells c' e fz)) (hk : c'[o]? = some v') : w.cell? ⟨b, o, none⟩ = some v' := by
  simp [World.cell?, h, hk]
theorem add_plain (b o n : Nat) : (⟨b, o, none⟩ : Addr).add n = ⟨b, o + n, none⟩ := by
  unfold Addr.add; split <;> simp_all
theorem run_info {t : TypeId} {i : TypeInfo} (h : P.info? t = some i) (w : World) : (typeInfo t).run P w = .ok i w := by simp [typeInfo, h]
theorem run_under {t : TypeId} {d : TypeDesc} (h : P.underlying t = some d) (w : World) : (underlying t).run P w = .ok d w := by simp [underlying, h]
theorem sizeA_some {t : TypeId} {n : Nat} : sizeA P t = some n ↔ ∃ i, P.info? t = some i ∧ i.size = n := by simp [sizeA, ob_some]
theorem run_size {t : TypeId} {n : Nat} (h : sizeA P t = some n) (w : World) : (sizeOf t).run P w = .ok n w := by
  obtain ⟨i, hi, rfl⟩ := sizeA_some.1 h
  simp [sizeOf, run_info hi]
theorem run_agg {t : TypeId} {b : Bool} (h : isAggA P t = some b) (w : World) : (isAgg t).run P w = .ok b w := by
  simp only [isAggA, ob_some, Option.some.injEq] at h
  obtain ⟨d, hd, rfl⟩ := h
  simp only [isAgg, Sem.run_bind, run_under hd, Result.andThen_ok]
  cases d <;> rfl
/-- A part of cells. -/
theorem run_part {t : TypeId} {c cs : List Value} {off : Nat} {v : Value} (h : partA P t c off = some v) (hc : VRL σ c cs) (x : List Value) (w : World) :
    ∃ v', VR σ v v' ∧ (part t ⟨cs ++ x⟩ off).run P w = .ok v' w := by
  simp only [partA, ob_some] at h
  obtain ⟨b, hb, h⟩ := h
  have hlen := hc.length
  cases b with
  | false =>
    have h' : lget c off = some v := h
    rw [lget_eq] at h'
    obtain ⟨v', hv, hr⟩ := hc.get h'
    have hlt : off < cs.length := by
      rcases Nat.lt_or_ge off cs.length with h' | h'
      · exact h'
      · rw [List.getElem?_eq_none h'] at hv; cases hv
    have : (cs ++ x)[off]? = some v' := by rw [List.getElem?_append_left hlt]; exact hv
    refine ⟨v', hr, ?_⟩
    simp [part, run_agg hb, this]
  | true =>
    have h' : ob (sizeA P t) (fun n => ob (lsub c off n) fun l => some (.agg ⟨l⟩)) = some v := h
    simp only [ob_some, Option.some.injEq] at h'
    obtain ⟨n, hn, l, hl, rfl⟩ := h'
    obtain ⟨rfl, hle⟩ := lsub_some hl
    refine ⟨.agg ⟨(cs.drop off).take n⟩, .agg ((hc.drop off).take n), ?_⟩
    simp only [part, Sem.run_bind, run_agg hb, run_size hn, Result.andThen_ok, if_true, Sem.run_pure]
    congr 2
    apply Array.toList_inj.1
    rw [Array.toList_extract]
    simp only [List.extract_eq_take_drop]
    rw [List.drop_append_of_le_length (by omega), List.take_append_of_le_length (by simp; omega)]
    congr 1
    omega
/-- A variable is loaded. -/
theorem run_loadA (hR : Rel P σ A w) {t : TypeId} {v u v' : Value} (h : loadA P t A.heap v = some u) (hv : VR σ v v') :
    ∃ u', VR σ u u' ∧ (Instr.loadAt t v').run P w = .ok u' w ∧ ∃ a, v' = .pointer (some a) ∧ (loadVar t a).run P w = .ok u' w := by
  simp only [loadA, ob_some, plainAt_some, rowAt_some, ptrV_some] at h
  obtain ⟨a, rfl, ha, c, e, m, hg, h⟩ := h
  rw [ha] at hv
  obtain ⟨b, d, hs, rfl⟩ := hv.ptr_inv
  obtain ⟨c', e', fz, hw, hr, _⟩ := hR.rowA hs hg
  simp only [partA, ob_some] at h
  obtain ⟨ag, hb, h⟩ := h
  suffices hh : ∃ u', VR σ u u' ∧ (loadVar t ⟨b, a.off, none⟩).run P w = .ok u' w by
    obtain ⟨u', h1, h2⟩ := hh
    exact ⟨u', h1, by simp [Instr.loadAt, Instr.sureAddr, h2], _, rfl, h2⟩
  cases ag with
  | false =>
    have h' : lget c a.off = some u := h
    rw [lget_eq] at h'
    obtain ⟨u', hk, hu⟩ := hr.get h'
    refine ⟨u', hu, ?_⟩
    simp [loadVar, run_agg hb, cell_of hw hk]
  | true =>
    have h' : ob (sizeA P t) (fun n => ob (lsub c a.off n) fun l => some (.agg ⟨l⟩)) = some u := h
    simp only [ob_some, Option.some.injEq] at h'
    obtain ⟨n, hn, l, hl, rfl⟩ := h'
    obtain ⟨rfl, hle⟩ := lsub_some hl
    obtain ⟨cs, x, ec, hc, _⟩ := hr.cells
    have hlen := hc.length
    refine ⟨.agg ⟨(cs.drop a.off).take n⟩, .agg ((hc.drop a.off).take n), ?_⟩
    have hll : ((cs.drop a.off).take n).length = n := by simp; omega
    have hload := run_loadCells_list (P := P) (w := w) ⟨b, a.off, none⟩ ((cs.drop a.off).take n) (fun j v hj => by
      rw [add_plain]
      refine cell_of hw ?_
      rw [← Array.getElem?_toList, ec]
      have hjl : j < n := by
        rcases Nat.lt_or_ge j n with h' | h'
        · exact h'
        · rw [List.getElem?_eq_none (by omega)] at hj; cases hj
      rw [List.getElem?_append_left (by omega)]
      rw [List.getElem?_take, if_pos hjl, List.getElem?_drop] at hj
      exact hj)
    rw [hll] at hload
    simp [loadVar, run_agg hb, run_size hn, hload]
end Go.Ev
