/- Words for memory: a slice that reads as a list; rows of the call's own. -/
import Derived.Test.YtfkacmmcgncooaaGreatDoorRows
import Derived.WalkKit
import Derived.WalkSpells
import Derived.Lib.Hide
import Derived.Deep.QuietTactic
import Derived.BigQuiet
import Derived.Maps.AppendAt
import Derived.Laws.AppendOwnNone
import Derived.ProofKit
import Derived.OpenShut
import Derived.ShutString
import Derived.ChangeOld
import Derived.Deep.Slices
import Derived.Maps.OwnSet
import Derived.DeepKeys4
import Derived.Lib.SmallJoins
import Derived.Test.YtfkacmmcgncooaaGreatDoorYx0
import Derived.Test.YtfkacmmcgncooaaGreatDoorGlob
import Derived.Test.YtfkacmmcgncooaaGreatDoorEnv
import Derived.Test.YtfkacmmcgncooaaGreatDoorYw1P
import Derived.Test.YtfkacmmcgncooaaGreatDoorYw9P
section
namespace Go.Proofs.YtfkacmmcgncooaaGreatDoor
open Go.RowKit
structure Sl {α : Type} (f : α → Value) (w : World) (A : Option Addr) (n : Nat) (xs : List α) : Prop where
  len : xs.length = n
  max : n ≤ 9223372036854775807
  at_ : 0 < n → ∃ b off, A = some ⟨b, off, none⟩ ∧ b < w.heap.size ∧ ∀ k v, xs[k]? = some v → w.cell? ⟨b, off + k, none⟩ = some (f v)
theorem Sl.get {α : Type} {f : α → Value} {w : World} {A : Option Addr} {n k : Nat} {xs : List α} (h : Sl f w A n xs) (hk : k < n) :
    ∃ b off v, A = some ⟨b, off, none⟩ ∧ b < w.heap.size ∧ w.cell? ⟨b, off + k, none⟩ = some (f v) ∧ Hid (xs[k]? = some v) := by
  obtain ⟨b, off, hA, hb, hc⟩ := h.at_ (by omega)
  have hl : k < xs.length := by rw [h.len]; exact hk
  have hv := List.getElem?_eq_getElem hl
  exact ⟨b, off, _, hA, hb, hc k _ hv, hv⟩
theorem Sl.drew {α : Type} {f : α → Value} {w : World} {A : Option Addr} {n : Nat} {xs : List α} (h : Sl f w A n xs) : Sl f w.drew A n xs := ⟨h.len, h.max, h.at_⟩
theorem Sl.below {α : Type} {f : α → Value} {w w' : World} {A : Option Addr} {n : Nat} {xs : List α} (h : Sl f w A n xs) (hb : Below w.heap.size w w') : Sl f w' A n xs :=
  ⟨h.len, h.max, fun hn => by
    obtain ⟨b, off, hA, hlt, hc⟩ := h.at_ hn
    exact ⟨b, off, hA, Nat.lt_of_lt_of_le hlt hb.size, fun k v hv => (hb.cell (p := ⟨b, off + k, none⟩) hlt).trans (hc k v hv)⟩⟩
theorem Sl.nil {α : Type} {f : α → Value} {w : World} {A : Option Addr} : Sl f w A 0 ([] : List α) := ⟨rfl, by omega, fun h => absurd h (by omega)⟩
structure Sln {α : Type} (sz : Nat) (f : α → List Value) (w : World) (A : Option Addr) (n : Nat) (xs : List α) : Prop where
  len : xs.length = n
  max : n ≤ 9223372036854775807
  cells : ∀ v ∈ xs, (f v).length = sz
  at_ : 0 < n → ∃ b off, A = some ⟨b, off, none⟩ ∧ b < w.heap.size ∧ ∀ i v, xs[i]? = some v → ∀ j c, (f v)[j]? = some c → w.cell? ⟨b, off + i * sz + j, none⟩ = some c
section
variable {α : Type} {sz : Nat} {f : α → List Value} {w w' : World} {A : Option Addr} {n k : Nat} {xs : List α}
theorem Sln.nil : Sln sz f w A 0 ([] : List α) := ⟨rfl, by omega, by simp, fun h => absurd h (by omega)⟩
theorem Sln.get (h : Sln sz f w A n xs) (hk : k < n) :
    ∃ b off v, A = some ⟨b, off, none⟩ ∧ b < w.heap.size ∧ (∀ j c, (f v)[j]? = some c → w.cell? ⟨b, off + k * sz + j, none⟩ = some c) ∧ Hid (xs[k]? = some v) := by
  obtain ⟨b, off, hA, hb, hc⟩ := h.at_ (by omega)
  have hl : k < xs.length := by rw [h.len]; exact hk
  have hv := List.getElem?_eq_getElem hl
  exact ⟨b, off, _, hA, hb, hc k _ hv, hv⟩
theorem Sln.below (h : Sln sz f w A n xs) (hb : Below w.heap.size w w') : Sln sz f w' A n xs :=
  ⟨h.len, h.max, h.cells, fun hn => by
    obtain ⟨b, off, hA, hlt, hc⟩ := h.at_ hn
    exact ⟨b, off, hA, Nat.lt_of_lt_of_le hlt hb.size, fun i v hv j c hj => (hb.cell (p := ⟨b, off + i * sz + j, none⟩) hlt).trans (hc i v hv j c hj)⟩⟩
end
def Fits (xs : List Int) : Prop := ∀ x ∈ xs, -9223372036854775808 ≤ x ∧ x ≤ 9223372036854775807
theorem Fits.at_ {xs : List Int} {k : Nat} {v : Int} (h : Fits xs) (hv : Hid (xs[k]? = some v)) : -9223372036854775808 ≤ v ∧ v ≤ 9223372036854775807 := h v (List.mem_of_getElem? hv.out)
theorem Sl.of_own {α : Type} {f : α → Value} {w : World} {base e g n cap : Nat} {xs : List α} (h : w.ownsRow base e 1 (.slice (some ⟨g, 0, none⟩) n cap) n (xs.map f)) :
    Sl f w (some ⟨g, 0, none⟩) n xs := by
  have hl : xs.length = n := by simpa using h.1
  refine ⟨hl, ?_, fun hn => ⟨g, 0, rfl, (h.lt g rfl).2, fun k v hv => ?_⟩⟩
  · rcases h.2 with ⟨h', _⟩ | ⟨g', cap', cur, h', _, _, hnc, hcm, _⟩
    · simp at h'
    · unfold maxLen at hcm; omega
  · have hk : k < n := by rw [← hl]; exact (List.getElem?_eq_some_iff.1 hv).1
    have := h.cellAt k (by omega)
    rw [List.getElem?_map, hv] at this
    simpa using this
section
variable {P : Program} {w : World} {ops : Array Oper} {rest : List Oper} {o : Oper} {a : Act} {Q : Exit → Act → World → Prop} {t e : TypeId} {z : Value} {bytes : Nat} {α : Type} {f : α → Value}
end
theorem Sl.setCell {α : Type} {f : α → Value} {w : World} {A : Option Addr} {n : Nat} {xs : List α} (h : Sl f w A n xs) {p : Addr} (u : Value) (hp : ∀ ad, A = some ad → ad.block ≠ p.block) : Sl f (w.setCell p u) A n xs :=
  ⟨h.len, h.max, fun hn => by
    obtain ⟨b, off, hA, hlt, hc⟩ := h.at_ hn
    have hne := hp _ hA
    refine ⟨b, off, hA, by simpa using hlt, fun k v hv => ?_⟩
    rw [← hc k v hv]
    exact World.cell?_setCell_other w p ⟨b, off + k, none⟩ u (fun e => hne (by rw [e]))⟩
theorem own_lit {α : Type} (f : α → Value) (w : World) (base : Nat) (cs : Array Value) (e : TypeId) (n : Nat) (xs : List α) (hb : base ≤ w.heap.size) (hn : xs.length = n) (hm : n ≤ maxLen) (h : cs.toList = xs.map f) :
    (w.alloc (.cells cs e)).ownsRow base e 1 (.slice (some ⟨w.heap.size, 0, none⟩) n n) n (xs.map f) := by
  have hs : cs.size = n * 1 := by rw [← Array.length_toList, h, List.length_map, hn, Nat.mul_one]
  have := World.ownsRow_lit (base := base) (e := e) (size := 1) w cs n hb hm hs
  rwa [h] at this
theorem Sl.lit {α : Type} (f : α → Value) (w : World) (cs : Array Value) (e : TypeId) (n : Nat) (xs : List α) (hn : xs.length = n) (hm : n ≤ maxLen) (h : cs.toList = xs.map f) :
    Sl f (w.alloc (.cells cs e)) (some ⟨w.heap.size, 0, none⟩) n xs := Sl.of_own (own_lit f w 0 cs e n xs (Nat.zero_le _) hn hm h)
theorem Sl.alloc {α : Type} {f : α → Value} {w : World} {A : Option Addr} {n : Nat} {xs : List α} (h : Sl f w A n xs) (o : Obj) : Sl f (w.alloc o) A n xs := h.below ((Below.refl _ _).alloc (Nat.le_refl _) o)
end Go.Proofs.YtfkacmmcgncooaaGreatDoor
end

/- A slice of integers, or of bools, that came in, as a list. -/
section
namespace Go.Proofs.YtfkacmmcgncooaaGreatDoor
open Go.RowKit Go.ChangeShapes Go.WideShapes Go.ChangeAt
theorem own_knob : ownKnob Tryz.prog.godebug = none := by kernel_rfl
theorem laid_out : laidOutB Tryz.prog = true := by kernel_rfl
theorem addr_plain {w : World} {x : Addr} {v : Value} (h : w.cell? x = some v) : x = ⟨x.block, x.off, none⟩ := by
  obtain ⟨b, off, spot⟩ := x
  have : spot = none := World.cell?_spot h
  subst this
  rfl
theorem add_plain (b off k : Nat) : (⟨b, off, none⟩ : Addr).add k = ⟨b, off + k, none⟩ := by
  unfold Addr.add
  split
  · subst_vars; rfl
  · rfl
section
variable {H : Type} {enc : TypeId × Value → H} {P : Program} {W : World} {base : Nat} {spare : Nat → Bool} {held : Bool}
theorem slice_in {α : Type} (f : α → Value) (R : α → Prop) {t e : TypeId} {fuel : Nat} {a : Option Addr} {len cap : Nat} {x : DataW H × List MemPlace} (h1 : P.underlying t = some (.slice e)) (h3 : P.cellsOf e = 1)
    (hel : ∀ n v y, DataW.trod enc P W base spare held n e [v] = some y → ∃ u, v = f u ∧ R u)
    (hf : DataW.trod enc P W base spare held fuel t [.slice a len cap] = some x) :
    ∃ xs : List α, Sl f W a len xs ∧ (∀ u ∈ xs, R u) ∧ (a = none → cap = 0) := by
  rcases Go.Deep.open_slice h1 hf with ⟨hcs, _⟩ | ⟨y, l, c, m, n, D, Pl, hcs, _, hl, hm, hmm, _, hi⟩
  · simp at hcs
    obtain ⟨rfl, rfl, rfl⟩ := hcs
    exact ⟨[], Sl.nil, by simp, fun _ => rfl⟩
  · simp at hcs
    obtain ⟨rfl, rfl, rfl⟩ := hcs
    have hz' : len ≤ m := by rw [hmm]; split <;> omega
    have each : ∀ i, i < len → ∃ u, W.cell? (y.add i) = some (f u) ∧ R u := by
      intro i hlt
      obtain ⟨cs', hc, ht⟩ := hi i (by omega)
      rw [h3, Nat.mul_one] at hc
      obtain ⟨_, hcl, hat⟩ := World.cells?_some hc
      match cs', hcl with
      | [v], _ =>
        obtain ⟨u, rfl, hR⟩ := hel _ _ _ ht
        refine ⟨u, ?_, hR⟩
        have := hat 0 (by omega)
        simpa [Addr.add] using this
    have pick : ∀ k, k ≤ len → ∃ xs : List α, xs.length = k ∧ (∀ u ∈ xs, R u) ∧ ∀ j v, xs[j]? = some v → W.cell? (y.add j) = some (f v) := by
      intro k
      induction k with
      | zero => intro _; exact ⟨[], rfl, by simp, by simp⟩
      | succ k ih =>
        intro hk
        obtain ⟨xs, hl, hR, hc⟩ := ih (by omega)
        obtain ⟨u, hu, hRu⟩ := each k (by omega)
        refine ⟨xs ++ [u], by simp [hl], ?_, ?_⟩
        · intro v hv
          rcases List.mem_append.1 hv with hv | hv
          · exact hR v hv
          · simp at hv; subst hv; exact hRu
        · intro j v hv
          by_cases hj : j < k
          · rw [List.getElem?_append_left (by omega)] at hv
            exact hc j v hv
          · have hlt := (List.getElem?_eq_some_iff.1 hv).1
            simp [hl] at hlt
            obtain rfl : j = k := by omega
            rw [List.getElem?_append_right (by omega), hl] at hv
            simp at hv
            subst hv
            exact hu
    obtain ⟨xs, hxl, hR, hc⟩ := pick len (Nat.le_refl _)
    refine ⟨xs, ⟨hxl, by unfold maxLen at hm; omega, fun hn => ?_⟩, hR, fun h => by cases h⟩
    obtain ⟨u0, h0, _⟩ := each 0 (by omega)
    simp only [Addr.add, if_true] at h0
    have hy := addr_plain h0
    refine ⟨y.block, y.off, by rw [← hy], World.block_lt_of_cell? W y h0, fun j v hv => ?_⟩
    have := hc j v hv
    rw [hy, add_plain] at this
    exact this
theorem sliceN_in {α : Type} (sz : Nat) (f : α → List Value) (R : α → Prop) {t e : TypeId} {fuel : Nat} {a : Option Addr} {len cap : Nat} {x : DataW H × List MemPlace} (h1 : P.underlying t = some (.slice e)) (h3 : P.cellsOf e = sz) (hs : 0 < sz)
    (hel : ∀ n cs y, cs.length = sz → DataW.trod enc P W base spare held n e cs = some y → ∃ u, cs = f u ∧ R u)
    (hf : DataW.trod enc P W base spare held fuel t [.slice a len cap] = some x) :
    ∃ xs : List α, Sln sz f W a len xs ∧ (∀ u ∈ xs, R u) ∧ (a = none → cap = 0) := by
  rcases Go.Deep.open_slice h1 hf with ⟨hcs, _⟩ | ⟨y, l, c, m, n, D, Pl, hcs, _, hl, hm, hmm, _, hi⟩
  · simp at hcs
    obtain ⟨rfl, rfl, rfl⟩ := hcs
    exact ⟨[], Sln.nil, by simp, fun _ => rfl⟩
  · simp at hcs
    obtain ⟨rfl, rfl, rfl⟩ := hcs
    have hz' : len ≤ m := by rw [hmm]; split <;> omega
    have each : ∀ i, i < len → ∃ u, (f u).length = sz ∧ (∀ j c, (f u)[j]? = some c → W.cell? ((y.add (i * sz)).add j) = some c) ∧ R u := by
      intro i hlt
      obtain ⟨cs', hc, ht⟩ := hi i (by omega)
      rw [h3] at hc
      obtain ⟨_, hcl, hat⟩ := World.cells?_some hc
      obtain ⟨u, rfl, hR⟩ := hel _ _ _ hcl ht
      refine ⟨u, hcl, fun j c hj => ?_, hR⟩
      have hjl := (List.getElem?_eq_some_iff.1 hj).1
      rw [hat j (by omega), hj]
    have pick : ∀ k, k ≤ len → ∃ xs : List α, xs.length = k ∧ (∀ u ∈ xs, R u ∧ (f u).length = sz) ∧ ∀ i v, xs[i]? = some v → ∀ j c, (f v)[j]? = some c → W.cell? ((y.add (i * sz)).add j) = some c := by
      intro k
      induction k with
      | zero => intro _; exact ⟨[], rfl, by simp, by simp⟩
      | succ k ih =>
        intro hk
        obtain ⟨xs, hl, hR, hc⟩ := ih (by omega)
        obtain ⟨u, hul, hu, hRu⟩ := each k (by omega)
        refine ⟨xs ++ [u], by simp [hl], ?_, ?_⟩
        · intro v hv
          rcases List.mem_append.1 hv with hv | hv
          · exact hR v hv
          · simp at hv; subst hv; exact ⟨hRu, hul⟩
        · intro j v hv
          by_cases hj : j < k
          · rw [List.getElem?_append_left (by omega)] at hv
            exact hc j v hv
          · have hlt := (List.getElem?_eq_some_iff.1 hv).1
            simp [hl] at hlt
            obtain rfl : j = k := by omega
            rw [List.getElem?_append_right (by omega), hl] at hv
            simp at hv
            subst hv
            exact hu
    obtain ⟨xs, hxl, hR, hc⟩ := pick len (Nat.le_refl _)
    refine ⟨xs, ⟨hxl, by unfold maxLen at hm; omega, fun v hv => (hR v hv).2, fun hn => ?_⟩, fun u hu => (hR u hu).1, fun h => by cases h⟩
    obtain ⟨u0, hu0, h0, _⟩ := each 0 (by omega)
    have hy : y = ⟨y.block, y.off, none⟩ ∧ y.block < W.heap.size := by
      have := h0 0 _ (List.getElem?_eq_getElem (by omega))
      rw [Nat.zero_mul] at this
      simp only [Addr.add, if_true] at this
      exact ⟨addr_plain this, World.block_lt_of_cell? W y this⟩
    refine ⟨y.block, y.off, by rw [← hy.1], hy.2, fun i v hv j c hj => ?_⟩
    have := hc i v hv j c hj
    rw [hy.1, add_plain, add_plain] at this
    exact this
theorem ints_in {t e : TypeId} {k : IntKind} {fuel : Nat} {a : Option Addr} {len cap : Nat} {x : DataW H × List MemPlace} (h1 : P.underlying t = some (.slice e)) (h2 : P.underlying e = some (.int k)) (h3 : P.cellsOf e = 1)
    (hf : DataW.trod enc P W base spare held fuel t [.slice a len cap] = some x) :
    ∃ xs : List Int, Sl (Value.int k) W a len xs ∧ (∀ n ∈ xs, (Lit.int k n).wf = true) ∧ (a = none → cap = 0) :=
  slice_in _ _ h1 h3 (fun n v y hy => by
    obtain ⟨u, e0, _, wu⟩ := DataW.trod_int h2 hy
    exact ⟨u, by simpa using e0, wu⟩) hf
end
end Go.Proofs.YtfkacmmcgncooaaGreatDoor
end

/- Digests and throws as values: whether two are the same; rows of elements of several cells. -/
section
set_option maxRecDepth 100000
namespace Go.Proofs.YtfkacmmcgncooaaGreatDoor
open Go.RowKit
def Dig (ds : List Int) : Prop := ds.length = 8 ∧ ∀ d ∈ ds, 0 ≤ d ∧ d ≤ 255
def digL (d : List Int) : List Value := d.map (Value.int .u8)
structure Rl where
  cell : Int
  sides : Int
  mover : Int
  next : Int
  sum : Int
  deriving DecidableEq
def Rl.cells (r : Rl) : List Value := [.int .i64 r.cell, .int .i64 r.sides, .int .i64 r.mover, .int .i64 r.next, .int .u64 r.sum]
def Rl.v (r : Rl) : Value := .agg #[.int .i64 r.cell, .int .i64 r.sides, .int .i64 r.mover, .int .i64 r.next, .int .u64 r.sum]
structure Rl.Ok (r : Rl) : Prop where
  cell : (Lit.int .i64 r.cell).wf = true
  sides : (Lit.int .i64 r.sides).wf = true
  mover : (Lit.int .i64 r.mover).wf = true
  next : (Lit.int .i64 r.next).wf = true
  sum : (Lit.int .u64 r.sum).wf = true
section
variable {P : Program} {w : World} {ops : Array Oper} {rest : List Oper} {o : Oper} {a : Act} {Q : Exit → Act → World → Prop} {t e : TypeId} {z : Value} {sz bytes : Nat} {α : Type} {f : α → List Value}
end
end Go.Proofs.YtfkacmmcgncooaaGreatDoor
end

/- Positions: as they lie in memory, and as they came in; clones; whether two are the same. -/
section
set_option maxRecDepth 100000
namespace Go.Proofs.YtfkacmmcgncooaaGreatDoor
open Go.RowKit Go.ChangeShapes Go.WideShapes Go.ChangeAt Go.Joins
theorem Sl.take {α : Type} {f : α → Value} {w : World} {A : Option Addr} {n : Nat} {xs : List α} (h : Sl f w A n xs) (j : Nat) : Sl f w A (min n j) (xs.take j) := by
  have hl := h.len
  have hm := h.max
  refine ⟨by simp [hl]; omega, by omega, fun hn => ?_⟩
  obtain ⟨b, off, hA, hlt, hc⟩ := h.at_ (by omega)
  refine ⟨b, off, hA, hlt, fun i v hv => hc i v ?_⟩
  rw [List.getElem?_take] at hv
  split at hv
  · exact hv
  · cases hv
theorem Sln.take {α : Type} {sz : Nat} {f : α → List Value} {w : World} {A : Option Addr} {n : Nat} {xs : List α} (h : Sln sz f w A n xs) (j : Nat) : Sln sz f w A (min n j) (xs.take j) := by
  have hl := h.len
  have hm := h.max
  refine ⟨by simp [hl]; omega, by omega, fun v hv => h.cells v (List.mem_of_mem_take hv), fun hn => ?_⟩
  obtain ⟨b, off, hA, hlt, hc⟩ := h.at_ (by omega)
  refine ⟨b, off, hA, hlt, fun i v hv => hc i v ?_⟩
  rw [List.getElem?_take] at hv
  split at hv
  · exact hv
  · cases hv
def W32 (xs : List Int) : Prop := ∀ x ∈ xs, -2147483648 ≤ x ∧ x ≤ 2147483647
theorem W32.take {xs : List Int} (h : W32 xs) (j : Nat) : W32 (xs.take j) := fun x hx => h x (List.mem_of_mem_take hx)
structure PosD where
  vars : List Int
  gone : List Bool
  tips : List (List Int)
  roll : Rl
structure PosAt (w : World) (A B C : Option Addr) (n m k : Nat) (x : PosD) : Prop where
  vars : Sl (Value.int .i32) w A n x.vars
  gone : Sl Value.bool w B m x.gone
  tips : Sln 8 digL w C k x.tips
  w32 : W32 x.vars
  digs : ∀ d ∈ x.tips, Dig d
  ok : x.roll.Ok
theorem PosAt.below {w w' : World} {A B C : Option Addr} {n m k : Nat} {x : PosD} (h : PosAt w A B C n m k x) (hb : Below w.heap.size w w') : PosAt w' A B C n m k x :=
  ⟨h.vars.below hb, h.gone.below hb, h.tips.below hb, h.w32, h.digs, h.ok⟩
def PosD.cut (x : PosD) : PosD := ⟨x.vars.take 70, x.gone.take 10, x.tips.take 10, x.roll⟩
theorem PosAt.cut {w : World} {A B C : Option Addr} {n m k : Nat} {x : PosD} (h : PosAt w A B C n m k x) : PosAt w A B C (min n 70) (min m 10) (min k 10) x.cut :=
  ⟨h.vars.take 70, h.gone.take 10, h.tips.take 10, h.w32.take 70, fun d hd => h.digs d (List.mem_of_mem_take hd), h.ok⟩
theorem wf32 {x : Int} (h : (Lit.int .i32 x).wf = true) : -2147483648 ≤ x ∧ x ≤ 2147483647 := by
  simp only [Lit.wf, Bool.and_eq_true, decide_eq_true_eq] at h
  exact h
section
variable {H : Type} {enc : TypeId × Value → H} {W : World} {base : Nat} {spare : Nat → Bool} {held : Bool}
theorem slice_shape {t e : TypeId} {fuel : Nat} {v : Value} {x : DataW H × List MemPlace} (ht : Tryz.prog.underlying t = some (.slice e)) (h : DataW.trod enc Tryz.prog W base spare held fuel t [v] = some x) : ∃ A n c, v = .slice A n c ∧ n ≤ c := by
  rcases Go.Deep.open_slice ht h with ⟨hcs, _⟩ | ⟨y, l, c, _, _, _, _, hcs, _, hlc, _⟩
  · simp at hcs; exact ⟨_, _, _, hcs, Nat.le_refl _⟩
  · simp at hcs; exact ⟨_, _, _, hcs, hlc⟩
end
end Go.Proofs.YtfkacmmcgncooaaGreatDoor
end

/- From what came in to what the evaluator is told of. -/
section
set_option maxRecDepth 100000
namespace Go.Proofs.YtfkacmmcgncooaaGreatDoor
open Go.RowKit Go.Ev
set_option linter.unusedSectionVars false
variable [Go.Ev.Frozen Tryz.prog]
theorem glob_ro : ∀ j o, (putAll G0 .e).get j = some o → mayW o = false := fun j o hj => by
  have hro : roB 12 G0 = true := by kernel_rfl
  have ho : onceB G0 = true := by kernel_rfl
  obtain ⟨k1, k2⟩ := putAll_get j G0 .e ho
  cases hk : keyB j G0 with
  | false => rw [k2 hk] at hj; cases hj
  | true =>
    obtain ⟨o', ho'⟩ := keyB_iff.1 hk
    rw [k1 o' ho'] at hj; cases hj
    have := List.all_eq_true.1 hro (j, _) ho'
    simp only [Bool.and_eq_true] at this
    obtain ⟨c, e, rfl, _⟩ := roO_some this.2
    rfl
end Go.Proofs.YtfkacmmcgncooaaGreatDoor
end

/- From the world to the law of money. -/
section
set_option maxRecDepth 100000
namespace Go.Proofs.YtfkacmmcgncooaaGreatDoor
open Go.RowKit Go.Ev Go.ChangeShapes Go.WideShapes Go.ChangeAt Go.Joins
abbrev frzW (w : World) : Frozen Tryz.prog := ⟨fun b => w.heap[b]?⟩
structure ActD where
  w : Int
  t : Int
  z : Int
  h : Int
  v : Option Addr
  l : Nat
  c : Nat
def ActD.cells (a : ActD) : List Value := [.int .u8 a.w, .int .i64 a.t, .int .i32 a.z, .int .u8 a.h, .slice a.v a.l a.c]
structure ActD.Ok (W : World) (a : ActD) : Prop where
  w : 0 ≤ a.w ∧ a.w < 256
  z : inR a.z
  h : 0 ≤ a.h ∧ a.h < 256
  c : a.l ≤ a.c
  s : ∃ xs : List Int, Sl (Value.int .i64) W a.v a.l xs
theorem actCells : Tryz.prog.cellsOf 42 = 5 := by kernel_rfl
theorem u8_lt {x : Int} (h : (Lit.int .u8 x).wf = true) : 0 ≤ x ∧ x < 256 := by
  simp only [Lit.wf, Bool.and_eq_true, decide_eq_true_eq] at h
  have h : (0 : Int) ≤ x ∧ x ≤ 255 := h
  omega
theorem u16_lt {x : Int} (h : (Lit.int .u16 x).wf = true) : 0 ≤ x ∧ x < 65536 := by
  simp only [Lit.wf, Bool.and_eq_true, decide_eq_true_eq] at h
  have h : (0 : Int) ≤ x ∧ x ≤ 65535 := h
  omega
section
variable {H : Type} {enc : TypeId × Value → H} {W : World} {base : Nat} {spare : Nat → Bool} {held : Bool}
theorem act_in {fuel : Nat} {cs : List Value} {x : DataW H × List MemPlace} (h : DataW.trod enc Tryz.prog W base spare held fuel 42 cs = some x) : ∃ a : ActD, cs = a.cells ∧ a.Ok W := by
  obtain ⟨xs, n, rfl, rfl, hl, hx, hi⟩ := DataW.trod_struct Tryz.underlying42 h
  rw [actCells] at hl
  have hxl : xs.length = 5 := by rw [hx]; kernel_rfl
  have k0 : Tryz.prog.cellsOf 5 = 1 := by kernel_rfl
  have k1 : Tryz.prog.cellsOf 3 = 1 := by kernel_rfl
  have k2 : Tryz.prog.cellsOf 21 = 1 := by kernel_rfl
  have k4 : Tryz.prog.cellsOf 40 = 1 := by kernel_rfl
  match cs, hl with
  | [c0, c1, c2, c3, c4], _ =>
  match xs, hxl with
  | [x0, x1, x2, x3, x4], _ =>
  have e0 : DataW.trod enc Tryz.prog W base spare held n 5 (([c0, c1, c2, c3, c4].drop 0).take (Tryz.prog.cellsOf 5)) = _ := hi 0 _ rfl
  have e1 : DataW.trod enc Tryz.prog W base spare held n 3 (([c0, c1, c2, c3, c4].drop 1).take (Tryz.prog.cellsOf 3)) = _ := hi 1 _ rfl
  have e2 : DataW.trod enc Tryz.prog W base spare held n 21 (([c0, c1, c2, c3, c4].drop 2).take (Tryz.prog.cellsOf 21)) = _ := hi 2 _ rfl
  have e3 : DataW.trod enc Tryz.prog W base spare held n 5 (([c0, c1, c2, c3, c4].drop 3).take (Tryz.prog.cellsOf 5)) = _ := hi 3 _ rfl
  have e4 : DataW.trod enc Tryz.prog W base spare held n 40 (([c0, c1, c2, c3, c4].drop 4).take (Tryz.prog.cellsOf 40)) = _ := hi 4 _ rfl
  simp only [k0, k1, k2, k4, List.getElem?_cons_zero, List.getElem?_cons_succ, List.drop_zero, List.drop_succ_cons, List.take_succ_cons, List.take_zero] at e0 e1 e2 e3 e4
  obtain ⟨a0, q0, _, w0⟩ := DataW.trod_int Tryz.underlying5 e0
  obtain ⟨a1, q1, _, w1⟩ := DataW.trod_int Tryz.underlying3 e1
  obtain ⟨a2, q2, _, w2⟩ := DataW.trod_int Tryz.underlying21 e2
  obtain ⟨a3, q3, _, w3⟩ := DataW.trod_int Tryz.underlying5 e3
  simp only [List.cons.injEq, and_true] at q0 q1 q2 q3
  subst q0 q1 q2 q3
  obtain ⟨A, m, c, rfl, q4⟩ := slice_shape Tryz.underlying40 e4
  obtain ⟨vs, h0, _, _⟩ := ints_in Tryz.underlying40 Tryz.underlying3 (by kernel_rfl) e4
  exact ⟨⟨a0, a1, a2, a3, A, m, c⟩, rfl, u8_lt w0, wf32 w2, u8_lt w3, q4, vs, h0⟩
theorem two_val {v : Value} {d : DataW H} {p : List MemPlace} {b0 : Nat} (hv : Value.okWide Tryz.prog W .any b0 23 v) (h : DataW.Trod enc Tryz.prog W base spare held 23 v d p) :
    ∃ x y : Int, v = .agg ⟨[.int .u16 x, .int .u16 y]⟩ ∧ (0 ≤ x ∧ x < 65536) ∧ 0 ≤ y ∧ y < 65536 := by
  obtain ⟨cs, rfl⟩ : ∃ cs, v = .agg cs := by
    unfold Value.okWide at hv
    rw [Tryz.underlying23] at hv
    obtain ⟨cs, h1, _⟩ := hv
    exact ⟨cs, h1⟩
  obtain ⟨fuel, hf⟩ := h
  have hf : DataW.trod enc Tryz.prog W base spare held fuel 23 cs.toList = some (d, p) := hf
  obtain ⟨l⟩ := cs
  obtain ⟨xs, n, rfl, _, hl, hlen, hi⟩ := DataW.trod_array Tryz.underlying23 hf
  have k2 : Tryz.prog.cellsOf 23 = 2 := by kernel_rfl
  have k1 : Tryz.prog.cellsOf 22 = 1 := by kernel_rfl
  rw [k2] at hl
  rw [k1] at hi
  match l, hl with
  | [c0, c1], _ =>
  match xs, hlen with
  | [x0, x1], _ =>
  have e0 := hi 0 (by omega)
  have e1 := hi 1 (by omega)
  simp only [Nat.mul_one, List.getElem?_cons_zero, List.getElem?_cons_succ, List.drop_zero, List.drop_succ_cons, List.take_succ_cons, List.take_zero] at e0 e1
  obtain ⟨a0, q0, _, w0⟩ := DataW.trod_int Tryz.underlying22 e0
  obtain ⟨a1, q1, _, w1⟩ := DataW.trod_int Tryz.underlying22 e1
  simp only [List.cons.injEq, and_true] at q0 q1
  subst q0 q1
  exact ⟨a0, a1, rfl, u16_lt w0, u16_lt w1⟩
theorem acts_in {fuel : Nat} {A : Option Addr} {n c : Nat} {x : DataW H × List MemPlace} (h : DataW.trod enc Tryz.prog W base spare held fuel 24 [.slice A n c] = some x) : ∃ xs : List ActD, Sln 5 ActD.cells W A n xs ∧ ∀ u ∈ xs, u.Ok W := by
  obtain ⟨xs, h1, h2, _⟩ := sliceN_in 5 ActD.cells (ActD.Ok W) Tryz.underlying24 actCells (by omega) (fun n cs y _ hy => act_in hy) h
  exact ⟨xs, h1, h2⟩
end
theorem fx_of {w : World} {b o : Nat} {v : Value} (h : w.cell? ⟨b, o, none⟩ = some v) : @FX Tryz.prog (frzW w) b o v := by
  unfold World.cell? at h
  split at h
  · rename_i cs e fz hq
    exact ⟨cs, e, fz, hq, by simpa using h⟩
  · cases h
theorem acts_x {w : World} {A : Option Addr} {n : Nat} {xs : List ActD} (s : Sln 5 ActD.cells w A n xs) (ho : ∀ u ∈ xs, u.Ok w) : @actsX (frzW w) A n := by
  refine ⟨s.max, fun i hi => ?_⟩
  obtain ⟨b, off, hA, _, hc⟩ := s.at_ (by omega)
  have hlt : i < xs.length := by rw [s.len]; exact hi
  have hg := List.getElem?_eq_getElem hlt
  have hk := ho _ (List.getElem_mem hlt)
  generalize xs[i] = u at hg hk
  have hc := hc i u hg
  refine ⟨b, off, hA, u.w, u.t, u.z, u.h, u.v, u.l, u.c, ⟨fx_of (hc 0 _ rfl), fx_of (hc 1 _ rfl), fx_of (hc 2 _ rfl), fx_of (hc 3 _ rfl), fx_of (hc 4 _ rfl)⟩, ⟨hk.w, hk.z, hk.h⟩, fun hl => ?_⟩
  obtain ⟨ys, sy⟩ := hk.s
  obtain ⟨b2, o2, hv, _, hy⟩ := sy.at_ (by omega)
  have hyl : ys.length = 2 := by rw [sy.len]; exact hl
  match ys, hyl with
  | [y0, y1], _ => exact ⟨b2, o2, hv, by have := hk.c; omega, y0, y1, fx_of (hy 0 y0 rfl), fx_of (hy 1 y1 rfl)⟩
end Go.Proofs.YtfkacmmcgncooaaGreatDoor
end

/- From the world to the law of a table within another one. -/
section
set_option maxRecDepth 100000
namespace Go.Proofs.YtfkacmmcgncooaaGreatDoor
open Go.RowKit Go.Ev Go.ChangeShapes Go.WideShapes Go.ChangeAt Go.Joins
theorem walkN (w : World) (which : Int) (hw : 0 ≤ which ∧ which < 256) (inner : Int) (hi : 0 ≤ inner ∧ inner < 256) (x y : Int) (hx : 0 ≤ x ∧ x < 65536) (hy : 0 ≤ y ∧ y < 65536) (A : Option Addr) (n c : Nat) (xs : List ActD) (s : Sln 5 ActD.cells w A n xs) (ho : ∀ u ∈ xs, u.Ok w) (B : Option Addr) (m k : Nat) (ys : List ActD) (s2 : Sln 5 ActD.cells w B m ys) (ho2 : ∀ u ∈ ys, u.Ok w) (hL : LaidIn G0 w) :
    Calls Tryz.prog 3 #[.int .u8 which, .int .u8 inner, .agg ⟨[.int .u16 x, .int .u16 y]⟩, .slice A n c, .slice B m k] w fun e w' => e = .returned (.bool true) ∧ Below w.heap.size w w' := by
  letI : Frozen Tryz.prog := frzW w
  have hng : Tryz.prog.globals.size = 12 := by kernel_rfl
  have hR0 := Rel.laid (P := Tryz.prog) (G := G0) (ng := 12) hng (by kernel_rfl) (by kernel_rfl) hL (fun _ _ h => h)
  obtain ⟨v, R', n', hK, _, h⟩ := s_inner ⟨which, inner, x, y, A, n, c, B, m, k⟩ (fun v _ _ => v = .bool true) ⟨⟨⟨hw, hi⟩, hx, hy⟩, acts_x s ho, acts_x s2 ho2⟩ ⟨fun _ _ => rfl, trivial⟩
  subst hK
  have h : FnSem Tryz.prog 3 (S_inner.args ⟨which, inner, x, y, A, n, c, B, m, k⟩) (mem (S_inner.R ⟨which, inner, x, y, A, n, c, B, m, k⟩) S_inner.n) (.bool true) (mem R' n') := h
  have hmem : mem (S_inner.R ⟨which, inner, x, y, A, n, c, B, m, k⟩) S_inner.n = ⟨putAll G0 .e, 12⟩ := globs
  rw [hmem] at h
  exact sem_calls envOK (fn := Tryz.f3) (by kernel_rfl) rfl rfl h hR0 (.cons (tgI_vr _ _) (.cons (tgI_vr _ _) (.cons (.agg (.cons (tgI_vr _ _) (.cons (tgI_vr _ _) .nil))) (.cons (.ext rfl) (.cons (.ext rfl) .nil))))) glob_ro
end Go.Proofs.YtfkacmmcgncooaaGreatDoor
end
