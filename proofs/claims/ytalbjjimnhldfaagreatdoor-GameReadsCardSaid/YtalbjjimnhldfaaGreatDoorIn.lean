/- A slice of integers, or of bools, that came in, as a list. -/
import Derived.Test.YtalbjjimnhldfaaGreatDoorBase
import Derived.ProofKit
import Derived.OpenShut
import Derived.ShutString
import Derived.ChangeOld
import Derived.Deep.Slices
namespace Go.Proofs.YtalbjjimnhldfaaGreatDoor
open Go.RowKit Go.ChangeShapes Go.WideShapes Go.ChangeAt

theorem own_knob : ownKnob Tryz.prog.godebug = none := by kernel_rfl
theorem laid_out : laidOutB Tryz.prog = true := by kernel_rfl

theorem addr_plain {w : World} {x : Addr} {v : Value} (h : w.cell? x = some v) : x = ⟨x.block, x.off, none⟩ := by
  obtain ⟨b, off, spot⟩ := x
  have : spot = none := World.cell?_spot h
  subst this
  rfl
theorem add_plain (b off k : Nat) : (⟨b, off, none⟩ : Addr).add k = ⟨b, off + k, none⟩ := by
  unfold Addr.add
  split
  · subst_vars; rfl
  · rfl

section
variable {H : Type} {enc : TypeId × Value → H} {P : Program} {W : World} {base : Nat} {spare : Nat → Bool} {held : Bool}

/-- A slice that was read as data, its elements of one cell each. -/
theorem slice_in {α : Type} (f : α → Value) (R : α → Prop) {t e : TypeId} {fuel : Nat} {a : Option Addr} {len cap : Nat} {x : DataW H × List MemPlace} (h1 : P.underlying t = some (.slice e)) (h3 : P.cellsOf e = 1)
    (hel : ∀ n v y, DataW.trod enc P W base spare held n e [v] = some y → ∃ u, v = f u ∧ R u)
    (hf : DataW.trod enc P W base spare held fuel t [.slice a len cap] = some x) :
    ∃ xs : List α, Sl f W a len xs ∧ (∀ u ∈ xs, R u) ∧ (a = none → cap = 0) := by
  rcases Go.Deep.open_slice h1 hf with ⟨hcs, _⟩ | ⟨y, l, c, m, n, D, Pl, hcs, _, hl, hm, hmm, _, hi⟩
  · simp at hcs
    obtain ⟨rfl, rfl, rfl⟩ := hcs
    exact ⟨[], Sl.nil, by simp, fun _ => rfl⟩
  · simp at hcs
    obtain ⟨rfl, rfl, rfl⟩ := hcs
    have hz' : len ≤ m := by rw [hmm]; split <;> omega
    have each : ∀ i, i < len → ∃ u, W.cell? (y.add i) = some (f u) ∧ R u := by
      intro i hlt
      obtain ⟨cs', hc, ht⟩ := hi i (by omega)
      rw [h3, Nat.mul_one] at hc
      obtain ⟨_, hcl, hat⟩ := World.cells?_some hc
      match cs', hcl with
      | [v], _ =>
        obtain ⟨u, rfl, hR⟩ := hel _ _ _ ht
        refine ⟨u, ?_, hR⟩
        have := hat 0 (by omega)
        simpa [Addr.add] using this
    have pick : ∀ k, k ≤ len → ∃ xs : List α, xs.length = k ∧ (∀ u ∈ xs, R u) ∧ ∀ j v, xs[j]? = some v → W.cell? (y.add j) = some (f v) := by
      intro k
      induction k with
      | zero => intro _; exact ⟨[], rfl, by simp, by simp⟩
      | succ k ih =>
        intro hk
        obtain ⟨xs, hl, hR, hc⟩ := ih (by omega)
        obtain ⟨u, hu, hRu⟩ := each k (by omega)
        refine ⟨xs ++ [u], by simp [hl], ?_, ?_⟩
        · intro v hv
          rcases List.mem_append.1 hv with hv | hv
          · exact hR v hv
          · simp at hv; subst hv; exact hRu
        · intro j v hv
          by_cases hj : j < k
          · rw [List.getElem?_append_left (by omega)] at hv
            exact hc j v hv
          · have hlt := (List.getElem?_eq_some_iff.1 hv).1
            simp [hl] at hlt
            obtain rfl : j = k := by omega
            rw [List.getElem?_append_right (by omega), hl] at hv
            simp at hv
            subst hv
            exact hu
    obtain ⟨xs, hxl, hR, hc⟩ := pick len (Nat.le_refl _)
    refine ⟨xs, ⟨hxl, by unfold maxLen at hm; omega, fun hn => ?_⟩, hR, fun h => by cases h⟩
    obtain ⟨u0, h0, _⟩ := each 0 (by omega)
    simp only [Addr.add, if_true] at h0
    have hy := addr_plain h0
    refine ⟨y.block, y.off, by rw [← hy], World.block_lt_of_cell? W y h0, fun j v hv => ?_⟩
    have := hc j v hv
    rw [hy, add_plain] at this
    exact this

/-- A slice that was read as data, its elements of several cells each. -/
theorem sliceN_in {α : Type} (sz : Nat) (f : α → List Value) (R : α → Prop) {t e : TypeId} {fuel : Nat} {a : Option Addr} {len cap : Nat} {x : DataW H × List MemPlace} (h1 : P.underlying t = some (.slice e)) (h3 : P.cellsOf e = sz) (hs : 0 < sz)
    (hel : ∀ n cs y, cs.length = sz → DataW.trod enc P W base spare held n e cs = some y → ∃ u, cs = f u ∧ R u)
    (hf : DataW.trod enc P W base spare held fuel t [.slice a len cap] = some x) :
    ∃ xs : List α, Sln sz f W a len xs ∧ (∀ u ∈ xs, R u) ∧ (a = none → cap = 0) := by
  rcases Go.Deep.open_slice h1 hf with ⟨hcs, _⟩ | ⟨y, l, c, m, n, D, Pl, hcs, _, hl, hm, hmm, _, hi⟩
  · simp at hcs
    obtain ⟨rfl, rfl, rfl⟩ := hcs
    exact ⟨[], Sln.nil, by simp, fun _ => rfl⟩
  · simp at hcs
    obtain ⟨rfl, rfl, rfl⟩ := hcs
    have hz' : len ≤ m := by rw [hmm]; split <;> omega
    have each : ∀ i, i < len → ∃ u, (f u).length = sz ∧ (∀ j c, (f u)[j]? = some c → W.cell? ((y.add (i * sz)).add j) = some c) ∧ R u := by
      intro i hlt
      obtain ⟨cs', hc, ht⟩ := hi i (by omega)
      rw [h3] at hc
      obtain ⟨_, hcl, hat⟩ := World.cells?_some hc
      obtain ⟨u, rfl, hR⟩ := hel _ _ _ hcl ht
      refine ⟨u, hcl, fun j c hj => ?_, hR⟩
      have hjl := (List.getElem?_eq_some_iff.1 hj).1
      rw [hat j (by omega), hj]
    have pick : ∀ k, k ≤ len → ∃ xs : List α, xs.length = k ∧ (∀ u ∈ xs, R u ∧ (f u).length = sz) ∧ ∀ i v, xs[i]? = some v → ∀ j c, (f v)[j]? = some c → W.cell? ((y.add (i * sz)).add j) = some c := by
      intro k
      induction k with
      | zero => intro _; exact ⟨[], rfl, by simp, by simp⟩
      | succ k ih =>
        intro hk
        obtain ⟨xs, hl, hR, hc⟩ := ih (by omega)
        obtain ⟨u, hul, hu, hRu⟩ := each k (by omega)
        refine ⟨xs ++ [u], by simp [hl], ?_, ?_⟩
        · intro v hv
          rcases List.mem_append.1 hv with hv | hv
          · exact hR v hv
          · simp at hv; subst hv; exact ⟨hRu, hul⟩
        · intro j v hv
          by_cases hj : j < k
          · rw [List.getElem?_append_left (by omega)] at hv
            exact hc j v hv
          · have hlt := (List.getElem?_eq_some_iff.1 hv).1
            simp [hl] at hlt
            obtain rfl : j = k := by omega
            rw [List.getElem?_append_right (by omega), hl] at hv
            simp at hv
            subst hv
            exact hu
    obtain ⟨xs, hxl, hR, hc⟩ := pick len (Nat.le_refl _)
    refine ⟨xs, ⟨hxl, by unfold maxLen at hm; omega, fun v hv => (hR v hv).2, fun hn => ?_⟩, fun u hu => (hR u hu).1, fun h => by cases h⟩
    obtain ⟨u0, hu0, h0, _⟩ := each 0 (by omega)
    have hy : y = ⟨y.block, y.off, none⟩ ∧ y.block < W.heap.size := by
      have := h0 0 _ (List.getElem?_eq_getElem (by omega))
      rw [Nat.zero_mul] at this
      simp only [Addr.add, if_true] at this
      exact ⟨addr_plain this, World.block_lt_of_cell? W y this⟩
    refine ⟨y.block, y.off, by rw [← hy.1], hy.2, fun i v hv j c hj => ?_⟩
    have := hc i v hv j c hj
    rw [hy.1, add_plain, add_plain] at this
    exact this

/-- A slice of numbers that was read as data. -/
theorem ints_in {t e : TypeId} {k : IntKind} {fuel : Nat} {a : Option Addr} {len cap : Nat} {x : DataW H × List MemPlace} (h1 : P.underlying t = some (.slice e)) (h2 : P.underlying e = some (.int k)) (h3 : P.cellsOf e = 1)
    (hf : DataW.trod enc P W base spare held fuel t [.slice a len cap] = some x) :
    ∃ xs : List Int, Sl (Value.int k) W a len xs ∧ (∀ n ∈ xs, (Lit.int k n).wf = true) ∧ (a = none → cap = 0) :=
  slice_in _ _ h1 h3 (fun n v y hy => by
    obtain ⟨u, e0, _, wu⟩ := DataW.trod_int h2 hy
    exact ⟨u, by simpa using e0, wu⟩) hf
/-- A slice of bools that was read as data. -/
theorem bools_in {t e : TypeId} {fuel : Nat} {a : Option Addr} {len cap : Nat} {x : DataW H × List MemPlace} (h1 : P.underlying t = some (.slice e)) (h2 : P.underlying e = some .bool) (h3 : P.cellsOf e = 1)
    (hf : DataW.trod enc P W base spare held fuel t [.slice a len cap] = some x) :
    ∃ xs : List Bool, Sl Value.bool W a len xs ∧ (a = none → cap = 0) := by
  obtain ⟨xs, h, _, hc⟩ := slice_in Value.bool (fun _ => True) h1 h3 (fun n v y hy => by
    obtain ⟨u, e0, _⟩ := DataW.trod_bool h2 hy
    exact ⟨u, by simpa using e0, trivial⟩) hf
  exact ⟨xs, h, hc⟩
end
theorem fits_wf {xs : List Int} (h : ∀ n ∈ xs, (Lit.int .i64 n).wf = true) : Fits xs := fun x hx => by
  have := h x hx
  simp only [Lit.wf, Bool.and_eq_true, decide_eq_true_eq] at this
  exact this
end Go.Proofs.YtalbjjimnhldfaaGreatDoor
