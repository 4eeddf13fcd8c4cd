/- Words for memory: a slice that reads as a list; rows of the call's own. -/
import Derived.Test.YthokbbichifohaaGreatDoorRows
import Derived.WalkKit
import Derived.WalkSpells
import Derived.Lib.Hide
import Derived.Deep.QuietTactic
import Derived.BigQuiet
import Derived.Maps.AppendAt
import Derived.Laws.AppendOwnNone
import Derived.ProofKit
import Derived.OpenShut
import Derived.ShutString
import Derived.ChangeOld
import Derived.Deep.Slices
import Derived.Maps.OwnSet
import Derived.DeepKeys4
import Derived.Lib.SmallJoins
import Derived.Test.YthokbbichifohaaGreatDoorYcn
import Derived.Test.YthokbbichifohaaGreatDoorGlob
import Derived.Test.YthokbbichifohaaGreatDoorEnv
section
namespace Go.Proofs.YthokbbichifohaaGreatDoor
open Go.RowKit
structure Sl {α : Type} (f : α → Value) (w : World) (A : Option Addr) (n : Nat) (xs : List α) : Prop where
  len : xs.length = n
  max : n ≤ 9223372036854775807
  at_ : 0 < n → ∃ b off, A = some ⟨b, off, none⟩ ∧ b < w.heap.size ∧ ∀ k v, xs[k]? = some v → w.cell? ⟨b, off + k, none⟩ = some (f v)
theorem Sl.get {α : Type} {f : α → Value} {w : World} {A : Option Addr} {n k : Nat} {xs : List α} (h : Sl f w A n xs) (hk : k < n) :
    ∃ b off v, A = some ⟨b, off, none⟩ ∧ b < w.heap.size ∧ w.cell? ⟨b, off + k, none⟩ = some (f v) ∧ Hid (xs[k]? = some v) := by
  obtain ⟨b, off, hA, hb, hc⟩ := h.at_ (by omega)
  have hl : k < xs.length := by rw [h.len]; exact hk
  have hv := List.getElem?_eq_getElem hl
  exact ⟨b, off, _, hA, hb, hc k _ hv, hv⟩
theorem Sl.drew {α : Type} {f : α → Value} {w : World} {A : Option Addr} {n : Nat} {xs : List α} (h : Sl f w A n xs) : Sl f w.drew A n xs := ⟨h.len, h.max, h.at_⟩
theorem Sl.below {α : Type} {f : α → Value} {w w' : World} {A : Option Addr} {n : Nat} {xs : List α} (h : Sl f w A n xs) (hb : Below w.heap.size w w') : Sl f w' A n xs :=
  ⟨h.len, h.max, fun hn => by
    obtain ⟨b, off, hA, hlt, hc⟩ := h.at_ hn
    exact ⟨b, off, hA, Nat.lt_of_lt_of_le hlt hb.size, fun k v hv => (hb.cell (p := ⟨b, off + k, none⟩) hlt).trans (hc k v hv)⟩⟩
theorem Sl.nil {α : Type} {f : α → Value} {w : World} {A : Option Addr} : Sl f w A 0 ([] : List α) := ⟨rfl, by omega, fun h => absurd h (by omega)⟩
structure Sln {α : Type} (sz : Nat) (f : α → List Value) (w : World) (A : Option Addr) (n : Nat) (xs : List α) : Prop where
  len : xs.length = n
  max : n ≤ 9223372036854775807
  cells : ∀ v ∈ xs, (f v).length = sz
  at_ : 0 < n → ∃ b off, A = some ⟨b, off, none⟩ ∧ b < w.heap.size ∧ ∀ i v, xs[i]? = some v → ∀ j c, (f v)[j]? = some c → w.cell? ⟨b, off + i * sz + j, none⟩ = some c
section
variable {α : Type} {sz : Nat} {f : α → List Value} {w w' : World} {A : Option Addr} {n k : Nat} {xs : List α}
theorem Sln.nil : Sln sz f w A 0 ([] : List α) := ⟨rfl, by omega, by simp, fun h => absurd h (by omega)⟩
theorem Sln.get (h : Sln sz f w A n xs) (hk : k < n) :
    ∃ b off v, A = some ⟨b, off, none⟩ ∧ b < w.heap.size ∧ (∀ j c, (f v)[j]? = some c → w.cell? ⟨b, off + k * sz + j, none⟩ = some c) ∧ Hid (xs[k]? = some v) := by
  obtain ⟨b, off, hA, hb, hc⟩ := h.at_ (by omega)
  have hl : k < xs.length := by rw [h.len]; exact hk
  have hv := List.getElem?_eq_getElem hl
  exact ⟨b, off, _, hA, hb, hc k _ hv, hv⟩
theorem Sln.below (h : Sln sz f w A n xs) (hb : Below w.heap.size w w') : Sln sz f w' A n xs :=
  ⟨h.len, h.max, h.cells, fun hn => by
    obtain ⟨b, off, hA, hlt, hc⟩ := h.at_ hn
    exact ⟨b, off, hA, Nat.lt_of_lt_of_le hlt hb.size, fun i v hv j c hj => (hb.cell (p := ⟨b, off + i * sz + j, none⟩) hlt).trans (hc i v hv j c hj)⟩⟩
end
def Fits (xs : List Int) : Prop := ∀ x ∈ xs, -9223372036854775808 ≤ x ∧ x ≤ 9223372036854775807
theorem Fits.at_ {xs : List Int} {k : Nat} {v : Int} (h : Fits xs) (hv : Hid (xs[k]? = some v)) : -9223372036854775808 ≤ v ∧ v ≤ 9223372036854775807 := h v (List.mem_of_getElem? hv.out)
theorem Sl.of_own {α : Type} {f : α → Value} {w : World} {base e g n cap : Nat} {xs : List α} (h : w.ownsRow base e 1 (.slice (some ⟨g, 0, none⟩) n cap) n (xs.map f)) :
    Sl f w (some ⟨g, 0, none⟩) n xs := by
  have hl : xs.length = n := by simpa using h.1
  refine ⟨hl, ?_, fun hn => ⟨g, 0, rfl, (h.lt g rfl).2, fun k v hv => ?_⟩⟩
  · rcases h.2 with ⟨h', _⟩ | ⟨g', cap', cur, h', _, _, hnc, hcm, _⟩
    · simp at h'
    · unfold maxLen at hcm; omega
  · have hk : k < n := by rw [← hl]; exact (List.getElem?_eq_some_iff.1 hv).1
    have := h.cellAt k (by omega)
    rw [List.getElem?_map, hv] at this
    simpa using this
section
variable {P : Program} {w : World} {ops : Array Oper} {rest : List Oper} {o : Oper} {a : Act} {Q : Exit → Act → World → Prop} {t e : TypeId} {z : Value} {bytes : Nat} {α : Type} {f : α → Value}
end
theorem Sl.setCell {α : Type} {f : α → Value} {w : World} {A : Option Addr} {n : Nat} {xs : List α} (h : Sl f w A n xs) {p : Addr} (u : Value) (hp : ∀ ad, A = some ad → ad.block ≠ p.block) : Sl f (w.setCell p u) A n xs :=
  ⟨h.len, h.max, fun hn => by
    obtain ⟨b, off, hA, hlt, hc⟩ := h.at_ hn
    have hne := hp _ hA
    refine ⟨b, off, hA, by simpa using hlt, fun k v hv => ?_⟩
    rw [← hc k v hv]
    exact World.cell?_setCell_other w p ⟨b, off + k, none⟩ u (fun e => hne (by rw [e]))⟩
theorem own_lit {α : Type} (f : α → Value) (w : World) (base : Nat) (cs : Array Value) (e : TypeId) (n : Nat) (xs : List α) (hb : base ≤ w.heap.size) (hn : xs.length = n) (hm : n ≤ maxLen) (h : cs.toList = xs.map f) :
    (w.alloc (.cells cs e)).ownsRow base e 1 (.slice (some ⟨w.heap.size, 0, none⟩) n n) n (xs.map f) := by
  have hs : cs.size = n * 1 := by rw [← Array.length_toList, h, List.length_map, hn, Nat.mul_one]
  have := World.ownsRow_lit (base := base) (e := e) (size := 1) w cs n hb hm hs
  rwa [h] at this
theorem Sl.lit {α : Type} (f : α → Value) (w : World) (cs : Array Value) (e : TypeId) (n : Nat) (xs : List α) (hn : xs.length = n) (hm : n ≤ maxLen) (h : cs.toList = xs.map f) :
    Sl f (w.alloc (.cells cs e)) (some ⟨w.heap.size, 0, none⟩) n xs := Sl.of_own (own_lit f w 0 cs e n xs (Nat.zero_le _) hn hm h)
theorem Sl.alloc {α : Type} {f : α → Value} {w : World} {A : Option Addr} {n : Nat} {xs : List α} (h : Sl f w A n xs) (o : Obj) : Sl f (w.alloc o) A n xs := h.below ((Below.refl _ _).alloc (Nat.le_refl _) o)
end Go.Proofs.YthokbbichifohaaGreatDoor
end

/- A slice of integers, or of bools, that came in, as a list. -/
section
namespace Go.Proofs.YthokbbichifohaaGreatDoor
open Go.RowKit Go.ChangeShapes Go.WideShapes Go.ChangeAt
theorem own_knob : ownKnob Tryz.prog.godebug = none := by kernel_rfl
theorem laid_out : laidOutB Tryz.prog = true := by kernel_rfl
theorem addr_plain {w : World} {x : Addr} {v : Value} (h : w.cell? x = some v) : x = ⟨x.block, x.off, none⟩ := by
  obtain ⟨b, off, spot⟩ := x
  have : spot = none := World.cell?_spot h
  subst this
  rfl
theorem add_plain (b off k : Nat) : (⟨b, off, none⟩ : Addr).add k = ⟨b, off + k, none⟩ := by
  unfold Addr.add
  split
  · subst_vars; rfl
  · rfl
section
variable {H : Type} {enc : TypeId × Value → H} {P : Program} {W : World} {base : Nat} {spare : Nat → Bool} {held : Bool}
theorem slice_in {α : Type} (f : α → Value) (R : α → Prop) {t e : TypeId} {fuel : Nat} {a : Option Addr} {len cap : Nat} {x : DataW H × List MemPlace} (h1 : P.underlying t = some (.slice e)) (h3 : P.cellsOf e = 1)
    (hel : ∀ n v y, DataW.trod enc P W base spare held n e [v] = some y → ∃ u, v = f u ∧ R u)
    (hf : DataW.trod enc P W base spare held fuel t [.slice a len cap] = some x) :
    ∃ xs : List α, Sl f W a len xs ∧ (∀ u ∈ xs, R u) ∧ (a = none → cap = 0) := by
  rcases Go.Deep.open_slice h1 hf with ⟨hcs, _⟩ | ⟨y, l, c, m, n, D, Pl, hcs, _, hl, hm, hmm, _, hi⟩
  · simp at hcs
    obtain ⟨rfl, rfl, rfl⟩ := hcs
    exact ⟨[], Sl.nil, by simp, fun _ => rfl⟩
  · simp at hcs
    obtain ⟨rfl, rfl, rfl⟩ := hcs
    have hz' : len ≤ m := by rw [hmm]; split <;> omega
    have each : ∀ i, i < len → ∃ u, W.cell? (y.add i) = some (f u) ∧ R u := by
      intro i hlt
      obtain ⟨cs', hc, ht⟩ := hi i (by omega)
      rw [h3, Nat.mul_one] at hc
      obtain ⟨_, hcl, hat⟩ := World.cells?_some hc
      match cs', hcl with
      | [v], _ =>
        obtain ⟨u, rfl, hR⟩ := hel _ _ _ ht
        refine ⟨u, ?_, hR⟩
        have := hat 0 (by omega)
        simpa [Addr.add] using this
    have pick : ∀ k, k ≤ len → ∃ xs : List α, xs.length = k ∧ (∀ u ∈ xs, R u) ∧ ∀ j v, xs[j]? = some v → W.cell? (y.add j) = some (f v) := by
      intro k
      induction k with
      | zero => intro _; exact ⟨[], rfl, by simp, by simp⟩
      | succ k ih =>
        intro hk
        obtain ⟨xs, hl, hR, hc⟩ := ih (by omega)
        obtain ⟨u, hu, hRu⟩ := each k (by omega)
        refine ⟨xs ++ [u], by simp [hl], ?_, ?_⟩
        · intro v hv
          rcases List.mem_append.1 hv with hv | hv
          · exact hR v hv
          · simp at hv; subst hv; exact hRu
        · intro j v hv
          by_cases hj : j < k
          · rw [List.getElem?_append_left (by omega)] at hv
            exact hc j v hv
          · have hlt := (List.getElem?_eq_some_iff.1 hv).1
            simp [hl] at hlt
            obtain rfl : j = k := by omega
            rw [List.getElem?_append_right (by omega), hl] at hv
            simp at hv
            subst hv
            exact hu
    obtain ⟨xs, hxl, hR, hc⟩ := pick len (Nat.le_refl _)
    refine ⟨xs, ⟨hxl, by unfold maxLen at hm; omega, fun hn => ?_⟩, hR, fun h => by cases h⟩
    obtain ⟨u0, h0, _⟩ := each 0 (by omega)
    simp only [Addr.add, if_true] at h0
    have hy := addr_plain h0
    refine ⟨y.block, y.off, by rw [← hy], World.block_lt_of_cell? W y h0, fun j v hv => ?_⟩
    have := hc j v hv
    rw [hy, add_plain] at this
    exact this
theorem sliceN_in {α : Type} (sz : Nat) (f : α → List Value) (R : α → Prop) {t e : TypeId} {fuel : Nat} {a : Option Addr} {len cap : Nat} {x : DataW H × List MemPlace} (h1 : P.underlying t = some (.slice e)) (h3 : P.cellsOf e = sz) (hs : 0 < sz)
    (hel : ∀ n cs y, cs.length = sz → DataW.trod enc P W base spare held n e cs = some y → ∃ u, cs = f u ∧ R u)
    (hf : DataW.trod enc P W base spare held fuel t [.slice a len cap] = some x) :
    ∃ xs : List α, Sln sz f W a len xs ∧ (∀ u ∈ xs, R u) ∧ (a = none → cap = 0) := by
  rcases Go.Deep.open_slice h1 hf with ⟨hcs, _⟩ | ⟨y, l, c, m, n, D, Pl, hcs, _, hl, hm, hmm, _, hi⟩
  · simp at hcs
    obtain ⟨rfl, rfl, rfl⟩ := hcs
    exact ⟨[], Sln.nil, by simp, fun _ => rfl⟩
  · simp at hcs
    obtain ⟨rfl, rfl, rfl⟩ := hcs
    have hz' : len ≤ m := by rw [hmm]; split <;> omega
    have each : ∀ i, i < len → ∃ u, (f u).length = sz ∧ (∀ j c, (f u)[j]? = some c → W.cell? ((y.add (i * sz)).add j) = some c) ∧ R u := by
      intro i hlt
      obtain ⟨cs', hc, ht⟩ := hi i (by omega)
      rw [h3] at hc
      obtain ⟨_, hcl, hat⟩ := World.cells?_some hc
      obtain ⟨u, rfl, hR⟩ := hel _ _ _ hcl ht
      refine ⟨u, hcl, fun j c hj => ?_, hR⟩
      have hjl := (List.getElem?_eq_some_iff.1 hj).1
      rw [hat j (by omega), hj]
    have pick : ∀ k, k ≤ len → ∃ xs : List α, xs.length = k ∧ (∀ u ∈ xs, R u ∧ (f u).length = sz) ∧ ∀ i v, xs[i]? = some v → ∀ j c, (f v)[j]? = some c → W.cell? ((y.add (i * sz)).add j) = some c := by
      intro k
      induction k with
      | zero => intro _; exact ⟨[], rfl, by simp, by simp⟩
      | succ k ih =>
        intro hk
        obtain ⟨xs, hl, hR, hc⟩ := ih (by omega)
        obtain ⟨u, hul, hu, hRu⟩ := each k (by omega)
        refine ⟨xs ++ [u], by simp [hl], ?_, ?_⟩
        · intro v hv
          rcases List.mem_append.1 hv with hv | hv
          · exact hR v hv
          · simp at hv; subst hv; exact ⟨hRu, hul⟩
        · intro j v hv
          by_cases hj : j < k
          · rw [List.getElem?_append_left (by omega)] at hv
            exact hc j v hv
          · have hlt := (List.getElem?_eq_some_iff.1 hv).1
            simp [hl] at hlt
            obtain rfl : j = k := by omega
            rw [List.getElem?_append_right (by omega), hl] at hv
            simp at hv
            subst hv
            exact hu
    obtain ⟨xs, hxl, hR, hc⟩ := pick len (Nat.le_refl _)
    refine ⟨xs, ⟨hxl, by unfold maxLen at hm; omega, fun v hv => (hR v hv).2, fun hn => ?_⟩, fun u hu => (hR u hu).1, fun h => by cases h⟩
    obtain ⟨u0, hu0, h0, _⟩ := each 0 (by omega)
    have hy : y = ⟨y.block, y.off, none⟩ ∧ y.block < W.heap.size := by
      have := h0 0 _ (List.getElem?_eq_getElem (by omega))
      rw [Nat.zero_mul] at this
      simp only [Addr.add, if_true] at this
      exact ⟨addr_plain this, World.block_lt_of_cell? W y this⟩
    refine ⟨y.block, y.off, by rw [← hy.1], hy.2, fun i v hv j c hj => ?_⟩
    have := hc i v hv j c hj
    rw [hy.1, add_plain, add_plain] at this
    exact this
theorem ints_in {t e : TypeId} {k : IntKind} {fuel : Nat} {a : Option Addr} {len cap : Nat} {x : DataW H × List MemPlace} (h1 : P.underlying t = some (.slice e)) (h2 : P.underlying e = some (.int k)) (h3 : P.cellsOf e = 1)
    (hf : DataW.trod enc P W base spare held fuel t [.slice a len cap] = some x) :
    ∃ xs : List Int, Sl (Value.int k) W a len xs ∧ (∀ n ∈ xs, (Lit.int k n).wf = true) ∧ (a = none → cap = 0) :=
  slice_in _ _ h1 h3 (fun n v y hy => by
    obtain ⟨u, e0, _, wu⟩ := DataW.trod_int h2 hy
    exact ⟨u, by simpa using e0, wu⟩) hf
theorem bools_in {t e : TypeId} {fuel : Nat} {a : Option Addr} {len cap : Nat} {x : DataW H × List MemPlace} (h1 : P.underlying t = some (.slice e)) (h2 : P.underlying e = some .bool) (h3 : P.cellsOf e = 1)
    (hf : DataW.trod enc P W base spare held fuel t [.slice a len cap] = some x) :
    ∃ xs : List Bool, Sl Value.bool W a len xs ∧ (a = none → cap = 0) := by
  obtain ⟨xs, h, _, hc⟩ := slice_in Value.bool (fun _ => True) h1 h3 (fun n v y hy => by
    obtain ⟨u, e0, _⟩ := DataW.trod_bool h2 hy
    exact ⟨u, by simpa using e0, trivial⟩) hf
  exact ⟨xs, h, hc⟩
end
end Go.Proofs.YthokbbichifohaaGreatDoor
end

/- Digests and throws as values: whether two are the same; rows of elements of several cells. -/
section
set_option maxRecDepth 100000
namespace Go.Proofs.YthokbbichifohaaGreatDoor
open Go.RowKit
def Dig (ds : List Int) : Prop := ds.length = 8 ∧ ∀ d ∈ ds, 0 ≤ d ∧ d ≤ 255
def digL (d : List Int) : List Value := d.map (Value.int .u8)
theorem digCells : Tryz.prog.cellsOf 81 = 8 := by kernel_rfl
theorem u8Cells : Tryz.prog.cellsOf 5 = 1 := by kernel_rfl
theorem intCells : Tryz.prog.cellsOf 3 = 1 := by kernel_rfl
theorem u64Cells : Tryz.prog.cellsOf 25 = 1 := by kernel_rfl
theorem rollCells : Tryz.prog.cellsOf 27 = 5 := by kernel_rfl
structure Rl where
  cell : Int
  sides : Int
  mover : Int
  next : Int
  sum : Int
  deriving DecidableEq
def Rl.cells (r : Rl) : List Value := [.int .i64 r.cell, .int .i64 r.sides, .int .i64 r.mover, .int .i64 r.next, .int .u64 r.sum]
def Rl.v (r : Rl) : Value := .agg #[.int .i64 r.cell, .int .i64 r.sides, .int .i64 r.mover, .int .i64 r.next, .int .u64 r.sum]
structure Rl.Ok (r : Rl) : Prop where
  cell : (Lit.int .i64 r.cell).wf = true
  sides : (Lit.int .i64 r.sides).wf = true
  mover : (Lit.int .i64 r.mover).wf = true
  next : (Lit.int .i64 r.next).wf = true
  sum : (Lit.int .u64 r.sum).wf = true
section
variable {P : Program} {w : World} {ops : Array Oper} {rest : List Oper} {o : Oper} {a : Act} {Q : Exit → Act → World → Prop} {t e : TypeId} {z : Value} {sz bytes : Nat} {α : Type} {f : α → List Value}
end
end Go.Proofs.YthokbbichifohaaGreatDoor
end

/- Positions: as they lie in memory, and as they came in; clones; whether two are the same. -/
section
set_option maxRecDepth 100000
namespace Go.Proofs.YthokbbichifohaaGreatDoor
open Go.RowKit Go.ChangeShapes Go.WideShapes Go.ChangeAt Go.Joins
theorem Sl.take {α : Type} {f : α → Value} {w : World} {A : Option Addr} {n : Nat} {xs : List α} (h : Sl f w A n xs) (j : Nat) : Sl f w A (min n j) (xs.take j) := by
  have hl := h.len
  have hm := h.max
  refine ⟨by simp [hl]; omega, by omega, fun hn => ?_⟩
  obtain ⟨b, off, hA, hlt, hc⟩ := h.at_ (by omega)
  refine ⟨b, off, hA, hlt, fun i v hv => hc i v ?_⟩
  rw [List.getElem?_take] at hv
  split at hv
  · exact hv
  · cases hv
theorem Sln.take {α : Type} {sz : Nat} {f : α → List Value} {w : World} {A : Option Addr} {n : Nat} {xs : List α} (h : Sln sz f w A n xs) (j : Nat) : Sln sz f w A (min n j) (xs.take j) := by
  have hl := h.len
  have hm := h.max
  refine ⟨by simp [hl]; omega, by omega, fun v hv => h.cells v (List.mem_of_mem_take hv), fun hn => ?_⟩
  obtain ⟨b, off, hA, hlt, hc⟩ := h.at_ (by omega)
  refine ⟨b, off, hA, hlt, fun i v hv => hc i v ?_⟩
  rw [List.getElem?_take] at hv
  split at hv
  · exact hv
  · cases hv
def W32 (xs : List Int) : Prop := ∀ x ∈ xs, -2147483648 ≤ x ∧ x ≤ 2147483647
theorem W32.take {xs : List Int} (h : W32 xs) (j : Nat) : W32 (xs.take j) := fun x hx => h x (List.mem_of_mem_take hx)
structure PosD where
  vars : List Int
  gone : List Bool
  tips : List (List Int)
  roll : Rl
structure PosAt (w : World) (A B C : Option Addr) (n m k : Nat) (x : PosD) : Prop where
  vars : Sl (Value.int .i32) w A n x.vars
  gone : Sl Value.bool w B m x.gone
  tips : Sln 8 digL w C k x.tips
  w32 : W32 x.vars
  digs : ∀ d ∈ x.tips, Dig d
  ok : x.roll.Ok
theorem PosAt.below {w w' : World} {A B C : Option Addr} {n m k : Nat} {x : PosD} (h : PosAt w A B C n m k x) (hb : Below w.heap.size w w') : PosAt w' A B C n m k x :=
  ⟨h.vars.below hb, h.gone.below hb, h.tips.below hb, h.w32, h.digs, h.ok⟩
def PosD.cut (x : PosD) : PosD := ⟨x.vars.take 70, x.gone.take 10, x.tips.take 10, x.roll⟩
theorem PosAt.cut {w : World} {A B C : Option Addr} {n m k : Nat} {x : PosD} (h : PosAt w A B C n m k x) : PosAt w A B C (min n 70) (min m 10) (min k 10) x.cut :=
  ⟨h.vars.take 70, h.gone.take 10, h.tips.take 10, h.w32.take 70, fun d hd => h.digs d (List.mem_of_mem_take hd), h.ok⟩
theorem wf32 {x : Int} (h : (Lit.int .i32 x).wf = true) : -2147483648 ≤ x ∧ x ≤ 2147483647 := by
  simp only [Lit.wf, Bool.and_eq_true, decide_eq_true_eq] at h
  exact h
theorem u8_in {x : Int} (h : (Lit.int .u8 x).wf = true) : 0 ≤ x ∧ x ≤ 255 := by
  simp only [Lit.wf, Bool.and_eq_true, decide_eq_true_eq] at h
  exact h
theorem posCells : Tryz.prog.cellsOf 29 = 8 := by kernel_rfl
theorem i32sCells : Tryz.prog.cellsOf 22 = 1 := by kernel_rfl
theorem boolsCells : Tryz.prog.cellsOf 23 = 1 := by kernel_rfl
theorem digsCells : Tryz.prog.cellsOf 24 = 1 := by kernel_rfl
section
variable {H : Type} {enc : TypeId × Value → H} {W : World} {base : Nat} {spare : Nat → Bool} {held : Bool}
theorem roll_in {fuel : Nat} {cs : List Value} {x : DataW H × List MemPlace} (h : DataW.trod enc Tryz.prog W base spare held fuel 27 cs = some x) : ∃ r : Rl, r.Ok ∧ cs = r.cells := by
  obtain ⟨xs, n, rfl, rfl, hl, hx, hi⟩ := DataW.trod_struct Tryz.underlying27 h
  rw [rollCells] at hl
  have hxl : xs.length = 5 := by rw [hx]; kernel_rfl
  match cs, hl with
  | [c0, c1, c2, c3, c4], _ =>
  match xs, hxl with
  | [x0, x1, x2, x3, x4], _ =>
  have e0 : DataW.trod enc Tryz.prog W base spare held n 3 (([c0, c1, c2, c3, c4].drop 0).take (Tryz.prog.cellsOf 3)) = _ := hi 0 _ rfl
  have e1 : DataW.trod enc Tryz.prog W base spare held n 3 (([c0, c1, c2, c3, c4].drop 1).take (Tryz.prog.cellsOf 3)) = _ := hi 1 _ rfl
  have e2 : DataW.trod enc Tryz.prog W base spare held n 3 (([c0, c1, c2, c3, c4].drop 2).take (Tryz.prog.cellsOf 3)) = _ := hi 2 _ rfl
  have e3 : DataW.trod enc Tryz.prog W base spare held n 3 (([c0, c1, c2, c3, c4].drop 3).take (Tryz.prog.cellsOf 3)) = _ := hi 3 _ rfl
  have e4 : DataW.trod enc Tryz.prog W base spare held n 25 (([c0, c1, c2, c3, c4].drop 4).take (Tryz.prog.cellsOf 25)) = _ := hi 4 _ rfl
  simp only [intCells, u64Cells, List.getElem?_cons_zero, List.getElem?_cons_succ, List.drop_zero, List.drop_succ_cons, List.take_succ_cons, List.take_zero] at e0 e1 e2 e3 e4
  obtain ⟨a0, q0, _, w0⟩ := DataW.trod_int Tryz.underlying3 e0
  obtain ⟨a1, q1, _, w1⟩ := DataW.trod_int Tryz.underlying3 e1
  obtain ⟨a2, q2, _, w2⟩ := DataW.trod_int Tryz.underlying3 e2
  obtain ⟨a3, q3, _, w3⟩ := DataW.trod_int Tryz.underlying3 e3
  obtain ⟨a4, q4, _, w4⟩ := DataW.trod_int Tryz.underlying25 e4
  simp at q0 q1 q2 q3 q4
  subst q0 q1 q2 q3 q4
  exact ⟨⟨a0, a1, a2, a3, a4⟩, ⟨w0, w1, w2, w3, w4⟩, rfl⟩
theorem dig_in {fuel : Nat} {cs : List Value} {x : DataW H × List MemPlace} (h : DataW.trod enc Tryz.prog W base spare held fuel 81 cs = some x) : ∃ d : List Int, cs = digL d ∧ Dig d := by
  obtain ⟨xs, n, rfl, _, hl, hlen, hi⟩ := DataW.trod_array Tryz.underlying81 h
  rw [digCells] at hl
  rw [u8Cells] at hi
  match cs, hl with
  | [c0, c1, c2, c3, c4, c5, c6, c7], _ =>
  match xs, hlen with
  | [x0, x1, x2, x3, x4, x5, x6, x7], _ =>
  have e0 := hi 0 (by omega)
  have e1 := hi 1 (by omega)
  have e2 := hi 2 (by omega)
  have e3 := hi 3 (by omega)
  have e4 := hi 4 (by omega)
  have e5 := hi 5 (by omega)
  have e6 := hi 6 (by omega)
  have e7 := hi 7 (by omega)
  simp only [Nat.mul_one, List.getElem?_cons_zero, List.getElem?_cons_succ, List.drop_zero, List.drop_succ_cons, List.take_succ_cons, List.take_zero] at e0 e1 e2 e3 e4 e5 e6 e7
  obtain ⟨a0, q0, _, w0⟩ := DataW.trod_int Tryz.underlying5 e0
  obtain ⟨a1, q1, _, w1⟩ := DataW.trod_int Tryz.underlying5 e1
  obtain ⟨a2, q2, _, w2⟩ := DataW.trod_int Tryz.underlying5 e2
  obtain ⟨a3, q3, _, w3⟩ := DataW.trod_int Tryz.underlying5 e3
  obtain ⟨a4, q4, _, w4⟩ := DataW.trod_int Tryz.underlying5 e4
  obtain ⟨a5, q5, _, w5⟩ := DataW.trod_int Tryz.underlying5 e5
  obtain ⟨a6, q6, _, w6⟩ := DataW.trod_int Tryz.underlying5 e6
  obtain ⟨a7, q7, _, w7⟩ := DataW.trod_int Tryz.underlying5 e7
  simp only [List.cons.injEq, and_true] at q0 q1 q2 q3 q4 q5 q6 q7
  subst q0 q1 q2 q3 q4 q5 q6 q7
  refine ⟨[a0, a1, a2, a3, a4, a5, a6, a7], rfl, rfl, ?_⟩
  intro b hb
  simp only [List.mem_cons, List.not_mem_nil, or_false] at hb
  rcases hb with rfl | rfl | rfl | rfl | rfl | rfl | rfl | rfl
  all_goals (apply u8_in; assumption)
theorem slice_shape {t e : TypeId} {fuel : Nat} {v : Value} {x : DataW H × List MemPlace} (ht : Tryz.prog.underlying t = some (.slice e)) (h : DataW.trod enc Tryz.prog W base spare held fuel t [v] = some x) : ∃ A n c, v = .slice A n c ∧ n ≤ c := by
  rcases Go.Deep.open_slice ht h with ⟨hcs, _⟩ | ⟨y, l, c, _, _, _, _, hcs, _, hlc, _⟩
  · simp at hcs; exact ⟨_, _, _, hcs, Nat.le_refl _⟩
  · simp at hcs; exact ⟨_, _, _, hcs, hlc⟩
theorem pos_in {fuel : Nat} {cs : List Value} {x : DataW H × List MemPlace} (h : DataW.trod enc Tryz.prog W base spare held fuel 29 cs = some x) :
    ∃ (A B C : Option Addr) (n c m d k e : Nat) (y : PosD), PosAt W A B C n m k y ∧ cs = [.slice A n c, .slice B m d, .slice C k e] ++ y.roll.cells ∧ (A = none → c = 0) ∧ (B = none → d = 0) ∧ (C = none → e = 0) ∧ n ≤ c ∧ m ≤ d ∧ k ≤ e := by
  obtain ⟨xs, n, rfl, rfl, hl, hx, hi⟩ := DataW.trod_struct Tryz.underlying29 h
  rw [posCells] at hl
  have hxl : xs.length = 4 := by rw [hx]; kernel_rfl
  match cs, hl with
  | [c0, c1, c2, c3, c4, c5, c6, c7], _ =>
  match xs, hxl with
  | [x0, x1, x2, x3], _ =>
  have e0 : DataW.trod enc Tryz.prog W base spare held n 22 (([c0, c1, c2, c3, c4, c5, c6, c7].drop 0).take (Tryz.prog.cellsOf 22)) = _ := hi 0 _ rfl
  have e1 : DataW.trod enc Tryz.prog W base spare held n 23 (([c0, c1, c2, c3, c4, c5, c6, c7].drop 1).take (Tryz.prog.cellsOf 23)) = _ := hi 1 _ rfl
  have e2 : DataW.trod enc Tryz.prog W base spare held n 24 (([c0, c1, c2, c3, c4, c5, c6, c7].drop 2).take (Tryz.prog.cellsOf 24)) = _ := hi 2 _ rfl
  have e3 : DataW.trod enc Tryz.prog W base spare held n 27 (([c0, c1, c2, c3, c4, c5, c6, c7].drop 3).take (Tryz.prog.cellsOf 27)) = _ := hi 3 _ rfl
  simp only [i32sCells, boolsCells, digsCells, rollCells, List.getElem?_cons_zero, List.getElem?_cons_succ, List.drop_zero, List.drop_succ_cons, List.take_succ_cons, List.take_zero] at e0 e1 e2 e3
  obtain ⟨A, n0, c0', rfl, q0⟩ := slice_shape Tryz.underlying22 e0
  obtain ⟨B, n1, c1', rfl, q1⟩ := slice_shape Tryz.underlying23 e1
  obtain ⟨C, n2, c2', rfl, q2⟩ := slice_shape Tryz.underlying24 e2
  obtain ⟨vs, h0, w0, z0⟩ := ints_in Tryz.underlying22 Tryz.underlying21 (by kernel_rfl) e0
  obtain ⟨gs, h1, z1⟩ := bools_in Tryz.underlying23 Tryz.underlying4 (by kernel_rfl) e1
  obtain ⟨ts, h2, w2, z2⟩ := sliceN_in 8 digL Dig Tryz.underlying24 digCells (by omega) (fun n cs y _ hy => dig_in hy) e2
  obtain ⟨r, hr, hrc⟩ := roll_in e3
  exact ⟨A, B, C, n0, c0', n1, c1', n2, c2', ⟨vs, gs, ts, r⟩, ⟨h0, h1, h2, fun x hx => wf32 (w0 x hx), w2, hr⟩, by rw [← hrc]; rfl, z0, z1, z2, q0, q1, q2⟩
theorem pos_val {v : Value} {d : DataW H} {p : List MemPlace} {b0 : Nat} (hv : Value.okWide Tryz.prog W .any b0 29 v) (h : DataW.Trod enc Tryz.prog W base spare held 29 v d p) :
    ∃ (A B C : Option Addr) (n c m d k e : Nat) (y : PosD), PosAt W A B C n m k y ∧ v = .agg #[.slice A n c, .slice B m d, .slice C k e, .int .i64 y.roll.cell, .int .i64 y.roll.sides, .int .i64 y.roll.mover, .int .i64 y.roll.next, .int .u64 y.roll.sum] ∧ (A = none → c = 0) ∧ (B = none → d = 0) ∧ (C = none → e = 0) ∧ n ≤ c ∧ m ≤ d ∧ k ≤ e := by
  obtain ⟨cs, rfl, hsz⟩ := okWide_struct Tryz.underlying29 hv
  obtain ⟨fuel, hf⟩ := h
  obtain ⟨A, B, C, n, c, m, d, k, e, y, h1, h2, h3⟩ := pos_in hf
  refine ⟨A, B, C, n, c, m, d, k, e, y, h1, ?_, h3⟩
  congr 1
  exact Array.toList_inj.1 h2
end
end Go.Proofs.YthokbbichifohaaGreatDoor
end

/- From what came in to what the evaluator is told of. -/
section
set_option maxRecDepth 100000
namespace Go.Proofs.YthokbbichifohaaGreatDoor
open Go.RowKit Go.Ev
set_option linter.unusedSectionVars false
variable [Go.Ev.Frozen Tryz.prog]
theorem rowAt_le {P : Program} {ft : TypeId → Bool} {d : Nat} {e : TypeId} {count off n : Nat} (h : Go.rowAt P ft d e count off n = true) : off ≤ count * P.cellsOf e := by
  cases d with
  | zero => cases h
  | succ d =>
    unfold Go.rowAt at h
    by_cases hs : P.cellsOf e = 0
    · simp [hs] at h
    · simp only [hs, if_false, Bool.or_eq_true, Bool.and_eq_true, beq_iff_eq, decide_eq_true_eq] at h
      have hd := Nat.div_add_mod off (P.cellsOf e)
      have hm := Nat.mod_lt off (Nat.pos_of_ne_zero hs)
      rcases h with ⟨⟨h1, h2⟩, _⟩ | ⟨h1, _⟩
      · have := Nat.mul_le_mul_right (P.cellsOf e) (show off / P.cellsOf e ≤ count by omega)
        rw [Nat.mul_comm] at hd
        omega
      · have := Nat.mul_le_mul_right (P.cellsOf e) (show off / P.cellsOf e + 1 ≤ count by omega)
        rw [Nat.add_mul, Nat.one_mul] at this
        rw [Nat.mul_comm] at hd
        omega
theorem liesAt_le {P : Program} {e : TypeId} {count off : Nat} : ∀ {d : Nat} {u : TypeId} {n : Nat}, liesAt P d e count off u n = true → off ≤ count * P.cellsOf e := by
  intro d
  induction d with
  | zero => intro u n h; cases h
  | succ d ih =>
    intro u n h
    unfold liesAt at h
    rw [Bool.or_eq_true] at h
    rcases h with h | h
    · exact rowAt_le h
    · split at h
      · exact ih h
      · cases h
theorem slice_has {P : Program} {w : World} {r : Reach} {base : Nat} {t e : TypeId} {a : Addr} {len cap : Nat} (ht : P.underlying t = some (.slice e)) (h : Cell.okWide P w r base t (.slice (some a) len cap)) : a.spot = none ∧ ∃ cs ty fz, w.heap[a.block]? = some (.cells cs ty fz) ∧ a.off ≤ cs.size := by
  unfold Cell.okWide at h
  rw [ht] at h
  have h : Cell.ok P w r base t (.slice (some a) len cap) := h
  unfold Cell.ok at h
  rw [ht] at h
  obtain ⟨_, _, _, h1, row, cells, h2, h3⟩ := h
  refine ⟨h1, ?_⟩
  unfold World.shape? at h2
  split at h2
  · rename_i c el fz hq
    cases h2
    refine ⟨c, _, _, hq, Nat.le_trans (liesAt_le h3) (Nat.div_mul_le_self _ _)⟩
  · cases h2
theorem cell_row {w : World} {b i : Nat} {v : Value} {cs : Array Value} {ty : TypeId} {fz : Nat × Nat} (h : w.cell? ⟨b, i, none⟩ = some v) (hb : w.heap[b]? = some (.cells cs ty fz)) : cs.toList[i]? = some v := by
  unfold World.cell? at h
  rw [hb] at h
  simpa using h
theorem sli_in {α : Type} {f : α → Value} (hf : ∀ x, Ev.flat (f x) = true) {sz : Nat} {w : World} {A : Option Addr} {n c : Nat} {xs : List α} (hlen : xs.length = n * sz) (hat : 0 < n → ∃ b off, A = some ⟨b, off, none⟩ ∧ b < w.heap.size ∧ ∀ i x, xs[i]? = some x → w.cell? ⟨b, off + i, none⟩ = some (f x))
    (hA : A = none → c = 0) (hc : n ≤ c) (hz : 0 < sz) (hh : ∀ a, A = some a → a.spot = none ∧ ∃ cs ty fz, w.heap[a.block]? = some (.cells cs ty fz) ∧ a.off ≤ cs.size) :
    ∃ (nb : Bool) (o : Nat) (cl : List Value) (blk : Option Nat), Sli f sz nb o n c cl xs ∧ (∀ b, blk = some b → ∃ cs ty fz, w.heap[b]? = some (.cells cs ty fz) ∧ ∀ σ, VRL σ cl cs.toList) ∧ ∀ σ i, σ i = blk.map (fun b => (b, 0)) → VR σ (mnS i nb o n c) (.slice A n c) := by
  cases A with
  | none =>
    have hc0 := hA rfl
    have hn0 : n = 0 := by omega
    subst hc0 hn0
    have hx : xs = [] := List.eq_nil_of_length_eq_zero (by omega)
    subst hx
    exact ⟨true, 0, [], none, .none, (fun b h => by cases h), fun σ i _ => .mnil rfl rfl rfl⟩
  | some a =>
    obtain ⟨hsp, cs, ty, fz, hbk, hoff⟩ := hh a rfl
    obtain ⟨b, off, sp⟩ := a
    have hsp : sp = none := hsp
    subst hsp
    have hbk : w.heap[b]? = some (.cells cs ty fz) := hbk
    have hoff : off ≤ cs.size := hoff
    have cellAt : ∀ i x, xs[i]? = some x → cs.toList[off + i]? = some (f x) := fun i x hx => by
      have hi : i < xs.length := (List.getElem?_eq_some_iff.1 hx).1
      have hn : 0 < n := by
        rcases Nat.eq_zero_or_pos n with e | e
        · rw [e, Nat.zero_mul] at hlen; omega
        · exact e
      obtain ⟨b', off', e1, _, h2⟩ := hat hn
      cases e1
      exact cell_row (h2 i x hx) hbk
    have hfl : ∀ i v, i < n * sz → cs.toList[off + i]? = some v → Ev.flat v = true := fun i v hi hv => by
      have hi' : i < xs.length := by omega
      have := cellAt i _ (List.getElem?_eq_getElem hi')
      rw [this] at hv; cases hv; exact hf _
    have hfit : off + n * sz ≤ cs.toList.length := by
      rcases Nat.eq_zero_or_pos (n * sz) with e | e
      · rw [e]; simpa using hoff
      · have hi' : n * sz - 1 < xs.length := by omega
        have := (List.getElem?_eq_some_iff.1 (cellAt (n * sz - 1) _ (List.getElem?_eq_getElem hi'))).1
        omega
    refine ⟨false, off, wnd off (n * sz) cs.toList, some b, ⟨fun i x hx => ?_, hlen, (fun h => by cases h), fun _ => by rw [wnd_length]; exact hfit, hc, wnd_flat _ _ _ hfl⟩, fun b' hb' => ?_, fun σ i hi => ?_⟩
    · have hi : i < xs.length := (List.getElem?_eq_some_iff.1 hx).1
      left
      rw [wnd_get _ _ _ _ (by omega)]; exact cellAt i x hx
    · cases hb'; exact ⟨cs, ty, fz, hbk, fun σ => wnd_vr _ _ _ hfl⟩
    · exact .mn (d := 0) rfl hi
theorem glob_ro : ∀ j o, (putAll G0 .e).get j = some o → mayW o = false := fun j o hj => by
  have hro : roB 12 G0 = true := by kernel_rfl
  have ho : onceB G0 = true := by kernel_rfl
  obtain ⟨k1, k2⟩ := putAll_get j G0 .e ho
  cases hk : keyB j G0 with
  | false => rw [k2 hk] at hj; cases hj
  | true =>
    obtain ⟨o', ho'⟩ := keyB_iff.1 hk
    rw [k1 o' ho'] at hj; cases hj
    have := List.all_eq_true.1 hro (j, _) ho'
    simp only [Bool.and_eq_true] at this
    obtain ⟨c, e, rfl, _⟩ := roO_some this.2
    rfl
theorem flat_join : ∀ {ds : List (List Int)}, (∀ d ∈ ds, Dig d) → ds.flatten.length = ds.length * 8 := by
  intro ds
  induction ds with
  | nil => intro _; rfl
  | cons d ds ih => intro h; rw [List.flatten_cons, List.length_append, ih (fun x hx => h x (by simp [hx])), (h d (by simp)).1, List.length_cons]; omega
theorem flat_dig : ∀ {ds : List (List Int)}, (∀ d ∈ ds, Dig d) → ∀ i x, ds.flatten[i]? = some x → ∃ d, ds[i / 8]? = some d ∧ d[i % 8]? = some x := by
  intro ds
  induction ds with
  | nil => intro _ i x h; simp at h
  | cons d ds ih =>
    intro h i x hx
    have hd := (h d (by simp)).1
    rw [List.flatten_cons] at hx
    by_cases hi : i < 8
    · rw [List.getElem?_append_left (by omega)] at hx
      exact ⟨d, by rw [show i / 8 = 0 by omega]; rfl, by rw [show i % 8 = i by omega]; exact hx⟩
    · rw [List.getElem?_append_right (by omega), hd] at hx
      obtain ⟨d', h1, h2⟩ := ih (fun x hx => h x (by simp [hx])) (i - 8) x hx
      refine ⟨d', ?_, ?_⟩
      · rw [show i / 8 = (i - 8) / 8 + 1 by omega]; exact h1
      · rw [show i % 8 = (i - 8) % 8 by omega]; exact h2
end Go.Proofs.YthokbbichifohaaGreatDoor
end

/- The law of nil rules, for any number and any position as they come in. -/
section
set_option maxRecDepth 100000
namespace Go.Proofs.YthokbbichifohaaGreatDoor
open Go.RowKit Go.Ev
set_option linter.unusedSectionVars false
variable [Frozen Tryz.prog]
noncomputable section
abbrev globR : List (Nat × PO) := [(0, .f cells0 307 .ro), (1, .f cells1 313 .ro), (2, .f cells2 336 .ro), (4, .f cells4 307 .ro), (5, .f cells5 348 .ro), (6, .f cells6 362 .ro), (8, .f cells8 366 .ro), (9, .f cells9 369 .ro), (10, .f cells10 370 .ro)]
end
theorem globs : mem globR 12 = ⟨putAll G0 .e, 12⟩ := by kernel_rfl
theorem okPos {w : World} {base : Nat} {cs : Array Value} (h : Value.okWide Tryz.prog w .any base 29 (.agg cs)) : ∀ (i : Nat) (u : TypeId) (v : Value), ([22, 23, 24] : List TypeId)[i]? = some u → cs[i]? = some v → Cell.okWide Tryz.prog w .any base u v := by
  unfold Value.okWide at h
  rw [Tryz.underlying29] at h
  obtain ⟨cs', hcs, hsz, ts, hts, _, hall⟩ := h
  cases hcs
  have hts2 : Tryz.prog.cellTypes Tryz.prog.depth 29 = some [22, 23, 24, 3, 3, 3, 3, 25] := by kernel_rfl
  rw [hts2] at hts
  cases hts
  intro i u v hi hv
  obtain ⟨u', h1, h2⟩ := hall i v hv
  match i, hi with
  | 0, hi => cases hi; cases h1; exact h2
  | 1, hi => cases hi; cases h1; exact h2
  | 2, hi => cases hi; cases h1; exact h2
  | n + 3, hi => simp at hi
theorem walkC (n : Int) (w : World) (A B C : Option Addr) (n1 c1 n2 c2 n3 c3 : Nat) (y : PosD) (hy : PosAt w A B C n1 n2 n3 y) (hL : LaidIn G0 w) (hfro : ∀ b x, Frozen.F Tryz.prog b = some x → w.heap[b]? = some x)
    (q1 : A = none → c1 = 0) (q2 : B = none → c2 = 0) (q3 : C = none → c3 = 0) (l1 : n1 ≤ c1) (l2 : n2 ≤ c2) (l3 : n3 ≤ c3)
    (o1 : ∀ a, A = some a → a.spot = none ∧ ∃ cs ty fz, w.heap[a.block]? = some (.cells cs ty fz) ∧ a.off ≤ cs.size) (o2 : ∀ a, B = some a → a.spot = none ∧ ∃ cs ty fz, w.heap[a.block]? = some (.cells cs ty fz) ∧ a.off ≤ cs.size) (o3 : ∀ a, C = some a → a.spot = none ∧ ∃ cs ty fz, w.heap[a.block]? = some (.cells cs ty fz) ∧ a.off ≤ cs.size) :
    Calls Tryz.prog 3 #[.int .i64 n, .agg #[.slice A n1 c1, .slice B n2 c2, .slice C n3 c3, .int .i64 y.roll.cell, .int .i64 y.roll.sides, .int .i64 y.roll.mover, .int .i64 y.roll.next, .int .u64 y.roll.sum]] w fun e w' => e = .returned (.bool true) ∧ Below w.heap.size w w' := by
  obtain ⟨b1, p1, r1, k1, s1, t1, u1⟩ := sli_in (f := Value.int .i32) (fun _ => rfl) (sz := 1) (by rw [hy.vars.len, Nat.mul_one]) hy.vars.at_ q1 l1 (by omega) o1
  obtain ⟨b2, p2, r2, k2, s2, t2, u2⟩ := sli_in (f := Value.bool) (fun _ => rfl) (sz := 1) (by rw [hy.gone.len, Nat.mul_one]) hy.gone.at_ q2 l2 (by omega) o2
  obtain ⟨b3, p3, r3, k3, s3, t3, u3⟩ := sli_in (f := Value.int .u8) (fun _ => rfl) (sz := 8) (xs := y.tips.flatten) (by rw [flat_join hy.digs, hy.tips.len]) (fun h => by
    obtain ⟨b, off, e1, e2, e3⟩ := hy.tips.at_ h
    refine ⟨b, off, e1, e2, fun i x hx => ?_⟩
    obtain ⟨d, h1, h2⟩ := flat_dig hy.digs i x hx
    have := e3 (i / 8) d h1 (i % 8) (.int .u8 x) (by simp [digL, h2])
    rw [show off + i / 8 * 8 + i % 8 = off + i by omega] at this
    exact this) q3 l3 (by omega) o3
  have hng : Tryz.prog.globals.size = 12 := by kernel_rfl
  have hR0 := Rel.laid (P := Tryz.prog) (G := G0) (ng := 12) hng (by kernel_rfl) (by kernel_rfl) hL hfro
  obtain ⟨hR1, w1⟩ := Rel.addRo (i := 12 + 2) (n' := 12 + 3) hR0 glob_ro (if_neg (by omega)) (by omega) (by omega) (by omega) r3 81 k3 t3
  obtain ⟨hR2, w2⟩ := Rel.addRo (i := 12 + 1) (n' := 12 + 3) hR1 w1 (by show (if 12 + 1 = 12 + 2 then _ else _) = none; rw [if_neg (by omega)]; exact if_neg (by omega)) (by omega) (by omega) (by omega) r2 4 k2 t2
  obtain ⟨hR3, w3⟩ := Rel.addRo (i := 12) (n' := 12 + 3) hR2 w2 (by show (if 12 = 12 + 1 then _ else _) = none; rw [if_neg (by omega)]; show (if 12 = 12 + 2 then _ else _) = none; rw [if_neg (by omega)]; exact if_neg (by omega)) (by omega) (by omega) (by omega) r1 21 k1 t1
  let a : CN := ⟨n, ⟨⟨b1, p1, n1, c1, r1⟩, ⟨b2, p2, n2, c2, r2⟩, ⟨b3, p3, n3, c3, r3⟩, y.roll.cell, y.roll.sides, y.roll.mover, y.roll.next, y.roll.sum⟩⟩
  obtain ⟨Bm, hsem⟩ := nil_sem a ⟨y.vars, y.gone, y.tips.flatten⟩ ⟨s1, s2, s3⟩
  have hmem : mem (S_nil.R a) S_nil.n = ⟨(((putAll G0 .e).set (12 + 2) (.row r3 81 .gro)).set (12 + 1) (.row r2 4 .gro)).set 12 (.row r1 21 .gro), 12 + 3⟩ := by
    have := congrArg AW.heap globs
    show (⟨(((mem globR 12).heap.set (12 + 2) _).set (12 + 1) _).set 12 _, _⟩ : AW) = _
    rw [this]
    rfl
  rw [hmem] at hsem
  refine sem_calls envOK (fn := Tryz.f3) (by kernel_rfl) rfl rfl hsem hR3 ?_ w3
  refine .cons (tgI_vr _ _) (.cons (.agg (.cons (u1 _ _ ?_) (.cons (u2 _ _ ?_) (.cons (u3 _ _ ?_) (.cons (tgI_vr _ _) (.cons (tgI_vr _ _) (.cons (tgI_vr _ _) (.cons (tgI_vr _ _) (.cons (tgI_vr _ _) .nil))))))))) .nil)
  · exact if_pos rfl
  · show (if 12 + 1 = 12 then _ else _) = _; rw [if_neg (by omega)]; exact if_pos rfl
  · show (if 12 + 2 = 12 then _ else _) = _; rw [if_neg (by omega)]; show (if 12 + 2 = 12 + 1 then _ else _) = _; rw [if_neg (by omega)]; exact if_pos rfl
end Go.Proofs.YthokbbichifohaaGreatDoor
end
