/- Words for memory: a slice that reads as a list; rows of the call's own. -/
import Derived.Test.YthcldogebnjohaaGreatDoorRows
import Derived.WalkKit
import Derived.WalkSpells
import Derived.Lib.Hide
import Derived.Deep.QuietTactic
import Derived.BigQuiet
import Derived.Maps.AppendAt
import Derived.Laws.AppendOwnNone
import Derived.ProofKit
import Derived.OpenShut
import Derived.ShutString
import Derived.ChangeOld
import Derived.Deep.Slices
import Derived.Maps.OwnSet
import Derived.DeepKeys4
import Derived.Lib.SmallJoins
import Derived.Test.YthcldogebnjohaaGreatDoorYns
import Derived.Test.YthcldogebnjohaaGreatDoorGlob
import Derived.Test.YthcldogebnjohaaGreatDoorEnv
section
namespace Go.Proofs.YthcldogebnjohaaGreatDoor
open Go.RowKit
structure Sl {α : Type} (f : α → Value) (w : World) (A : Option Addr) (n : Nat) (xs : List α) : Prop where
  len : xs.length = n
  max : n ≤ 9223372036854775807
  at_ : 0 < n → ∃ b off, A = some ⟨b, off, none⟩ ∧ b < w.heap.size ∧ ∀ k v, xs[k]? = some v → w.cell? ⟨b, off + k, none⟩ = some (f v)
theorem Sl.get {α : Type} {f : α → Value} {w : World} {A : Option Addr} {n k : Nat} {xs : List α} (h : Sl f w A n xs) (hk : k < n) :
    ∃ b off v, A = some ⟨b, off, none⟩ ∧ b < w.heap.size ∧ w.cell? ⟨b, off + k, none⟩ = some (f v) ∧ Hid (xs[k]? = some v) := by
  obtain ⟨b, off, hA, hb, hc⟩ := h.at_ (by omega)
  have hl : k < xs.length := by rw [h.len]; exact hk
  have hv := List.getElem?_eq_getElem hl
  exact ⟨b, off, _, hA, hb, hc k _ hv, hv⟩
theorem Sl.drew {α : Type} {f : α → Value} {w : World} {A : Option Addr} {n : Nat} {xs : List α} (h : Sl f w A n xs) : Sl f w.drew A n xs := ⟨h.len, h.max, h.at_⟩
theorem Sl.below {α : Type} {f : α → Value} {w w' : World} {A : Option Addr} {n : Nat} {xs : List α} (h : Sl f w A n xs) (hb : Below w.heap.size w w') : Sl f w' A n xs :=
  ⟨h.len, h.max, fun hn => by
    obtain ⟨b, off, hA, hlt, hc⟩ := h.at_ hn
    exact ⟨b, off, hA, Nat.lt_of_lt_of_le hlt hb.size, fun k v hv => (hb.cell (p := ⟨b, off + k, none⟩) hlt).trans (hc k v hv)⟩⟩
theorem Sl.nil {α : Type} {f : α → Value} {w : World} {A : Option Addr} : Sl f w A 0 ([] : List α) := ⟨rfl, by omega, fun h => absurd h (by omega)⟩
structure Sln {α : Type} (sz : Nat) (f : α → List Value) (w : World) (A : Option Addr) (n : Nat) (xs : List α) : Prop where
  len : xs.length = n
  max : n ≤ 9223372036854775807
  cells : ∀ v ∈ xs, (f v).length = sz
  at_ : 0 < n → ∃ b off, A = some ⟨b, off, none⟩ ∧ b < w.heap.size ∧ ∀ i v, xs[i]? = some v → ∀ j c, (f v)[j]? = some c → w.cell? ⟨b, off + i * sz + j, none⟩ = some c
section
variable {α : Type} {sz : Nat} {f : α → List Value} {w w' : World} {A : Option Addr} {n k : Nat} {xs : List α}
theorem Sln.nil : Sln sz f w A 0 ([] : List α) := ⟨rfl, by omega, by simp, fun h => absurd h (by omega)⟩
theorem Sln.get (h : Sln sz f w A n xs) (hk : k < n) :
    ∃ b off v, A = some ⟨b, off, none⟩ ∧ b < w.heap.size ∧ (∀ j c, (f v)[j]? = some c → w.cell? ⟨b, off + k * sz + j, none⟩ = some c) ∧ Hid (xs[k]? = some v) := by
  obtain ⟨b, off, hA, hb, hc⟩ := h.at_ (by omega)
  have hl : k < xs.length := by rw [h.len]; exact hk
  have hv := List.getElem?_eq_getElem hl
  exact ⟨b, off, _, hA, hb, hc k _ hv, hv⟩
theorem Sln.below (h : Sln sz f w A n xs) (hb : Below w.heap.size w w') : Sln sz f w' A n xs :=
  ⟨h.len, h.max, h.cells, fun hn => by
    obtain ⟨b, off, hA, hlt, hc⟩ := h.at_ hn
    exact ⟨b, off, hA, Nat.lt_of_lt_of_le hlt hb.size, fun i v hv j c hj => (hb.cell (p := ⟨b, off + i * sz + j, none⟩) hlt).trans (hc i v hv j c hj)⟩⟩
end
def Fits (xs : List Int) : Prop := ∀ x ∈ xs, -9223372036854775808 ≤ x ∧ x ≤ 9223372036854775807
theorem Fits.at_ {xs : List Int} {k : Nat} {v : Int} (h : Fits xs) (hv : Hid (xs[k]? = some v)) : -9223372036854775808 ≤ v ∧ v ≤ 9223372036854775807 := h v (List.mem_of_getElem? hv.out)
theorem Sl.of_own {α : Type} {f : α → Value} {w : World} {base e g n cap : Nat} {xs : List α} (h : w.ownsRow base e 1 (.slice (some ⟨g, 0, none⟩) n cap) n (xs.map f)) :
    Sl f w (some ⟨g, 0, none⟩) n xs := by
  have hl : xs.length = n := by simpa using h.1
  refine ⟨hl, ?_, fun hn => ⟨g, 0, rfl, (h.lt g rfl).2, fun k v hv => ?_⟩⟩
  · rcases h.2 with ⟨h', _⟩ | ⟨g', cap', cur, h', _, _, hnc, hcm, _⟩
    · simp at h'
    · unfold maxLen at hcm; omega
  · have hk : k < n := by rw [← hl]; exact (List.getElem?_eq_some_iff.1 hv).1
    have := h.cellAt k (by omega)
    rw [List.getElem?_map, hv] at this
    simpa using this
section
variable {P : Program} {w : World} {ops : Array Oper} {rest : List Oper} {o : Oper} {a : Act} {Q : Exit → Act → World → Prop} {t e : TypeId} {z : Value} {bytes : Nat} {α : Type} {f : α → Value}
end
theorem Sl.setCell {α : Type} {f : α → Value} {w : World} {A : Option Addr} {n : Nat} {xs : List α} (h : Sl f w A n xs) {p : Addr} (u : Value) (hp : ∀ ad, A = some ad → ad.block ≠ p.block) : Sl f (w.setCell p u) A n xs :=
  ⟨h.len, h.max, fun hn => by
    obtain ⟨b, off, hA, hlt, hc⟩ := h.at_ hn
    have hne := hp _ hA
    refine ⟨b, off, hA, by simpa using hlt, fun k v hv => ?_⟩
    rw [← hc k v hv]
    exact World.cell?_setCell_other w p ⟨b, off + k, none⟩ u (fun e => hne (by rw [e]))⟩
theorem own_lit {α : Type} (f : α → Value) (w : World) (base : Nat) (cs : Array Value) (e : TypeId) (n : Nat) (xs : List α) (hb : base ≤ w.heap.size) (hn : xs.length = n) (hm : n ≤ maxLen) (h : cs.toList = xs.map f) :
    (w.alloc (.cells cs e)).ownsRow base e 1 (.slice (some ⟨w.heap.size, 0, none⟩) n n) n (xs.map f) := by
  have hs : cs.size = n * 1 := by rw [← Array.length_toList, h, List.length_map, hn, Nat.mul_one]
  have := World.ownsRow_lit (base := base) (e := e) (size := 1) w cs n hb hm hs
  rwa [h] at this
theorem Sl.lit {α : Type} (f : α → Value) (w : World) (cs : Array Value) (e : TypeId) (n : Nat) (xs : List α) (hn : xs.length = n) (hm : n ≤ maxLen) (h : cs.toList = xs.map f) :
    Sl f (w.alloc (.cells cs e)) (some ⟨w.heap.size, 0, none⟩) n xs := Sl.of_own (own_lit f w 0 cs e n xs (Nat.zero_le _) hn hm h)
theorem Sl.alloc {α : Type} {f : α → Value} {w : World} {A : Option Addr} {n : Nat} {xs : List α} (h : Sl f w A n xs) (o : Obj) : Sl f (w.alloc o) A n xs := h.below ((Below.refl _ _).alloc (Nat.le_refl _) o)
end Go.Proofs.YthcldogebnjohaaGreatDoor
end

/- A slice of integers, or of bools, that came in, as a list. -/
section
namespace Go.Proofs.YthcldogebnjohaaGreatDoor
open Go.RowKit Go.ChangeShapes Go.WideShapes Go.ChangeAt
theorem own_knob : ownKnob Tryz.prog.godebug = none := by kernel_rfl
theorem laid_out : laidOutB Tryz.prog = true := by kernel_rfl
theorem addr_plain {w : World} {x : Addr} {v : Value} (h : w.cell? x = some v) : x = ⟨x.block, x.off, none⟩ := by
  obtain ⟨b, off, spot⟩ := x
  have : spot = none := World.cell?_spot h
  subst this
  rfl
theorem add_plain (b off k : Nat) : (⟨b, off, none⟩ : Addr).add k = ⟨b, off + k, none⟩ := by
  unfold Addr.add
  split
  · subst_vars; rfl
  · rfl
section
variable {H : Type} {enc : TypeId × Value → H} {P : Program} {W : World} {base : Nat} {spare : Nat → Bool} {held : Bool}
theorem slice_in {α : Type} (f : α → Value) (R : α → Prop) {t e : TypeId} {fuel : Nat} {a : Option Addr} {len cap : Nat} {x : DataW H × List MemPlace} (h1 : P.underlying t = some (.slice e)) (h3 : P.cellsOf e = 1)
    (hel : ∀ n v y, DataW.trod enc P W base spare held n e [v] = some y → ∃ u, v = f u ∧ R u)
    (hf : DataW.trod enc P W base spare held fuel t [.slice a len cap] = some x) :
    ∃ xs : List α, Sl f W a len xs ∧ (∀ u ∈ xs, R u) ∧ (a = none → cap = 0) := by
  rcases Go.Deep.open_slice h1 hf with ⟨hcs, _⟩ | ⟨y, l, c, m, n, D, Pl, hcs, _, hl, hm, hmm, _, hi⟩
  · simp at hcs
    obtain ⟨rfl, rfl, rfl⟩ := hcs
    exact ⟨[], Sl.nil, by simp, fun _ => rfl⟩
  · simp at hcs
    obtain ⟨rfl, rfl, rfl⟩ := hcs
    have hz' : len ≤ m := by rw [hmm]; split <;> omega
    have each : ∀ i, i < len → ∃ u, W.cell? (y.add i) = some (f u) ∧ R u := by
      intro i hlt
      obtain ⟨cs', hc, ht⟩ := hi i (by omega)
      rw [h3, Nat.mul_one] at hc
      obtain ⟨_, hcl, hat⟩ := World.cells?_some hc
      match cs', hcl with
      | [v], _ =>
        obtain ⟨u, rfl, hR⟩ := hel _ _ _ ht
        refine ⟨u, ?_, hR⟩
        have := hat 0 (by omega)
        simpa [Addr.add] using this
    have pick : ∀ k, k ≤ len → ∃ xs : List α, xs.length = k ∧ (∀ u ∈ xs, R u) ∧ ∀ j v, xs[j]? = some v → W.cell? (y.add j) = some (f v) := by
      intro k
      induction k with
      | zero => intro _; exact ⟨[], rfl, by simp, by simp⟩
      | succ k ih =>
        intro hk
        obtain ⟨xs, hl, hR, hc⟩ := ih (by omega)
        obtain ⟨u, hu, hRu⟩ := each k (by omega)
        refine ⟨xs ++ [u], by simp [hl], ?_, ?_⟩
        · intro v hv
          rcases List.mem_append.1 hv with hv | hv
          · exact hR v hv
          · simp at hv; subst hv; exact hRu
        · intro j v hv
          by_cases hj : j < k
          · rw [List.getElem?_append_left (by omega)] at hv
            exact hc j v hv
          · have hlt := (List.getElem?_eq_some_iff.1 hv).1
            simp [hl] at hlt
            obtain rfl : j = k := by omega
            rw [List.getElem?_append_right (by omega), hl] at hv
            simp at hv
            subst hv
            exact hu
    obtain ⟨xs, hxl, hR, hc⟩ := pick len (Nat.le_refl _)
    refine ⟨xs, ⟨hxl, by unfold maxLen at hm; omega, fun hn => ?_⟩, hR, fun h => by cases h⟩
    obtain ⟨u0, h0, _⟩ := each 0 (by omega)
    simp only [Addr.add, if_true] at h0
    have hy := addr_plain h0
    refine ⟨y.block, y.off, by rw [← hy], World.block_lt_of_cell? W y h0, fun j v hv => ?_⟩
    have := hc j v hv
    rw [hy, add_plain] at this
    exact this
theorem ints_in {t e : TypeId} {k : IntKind} {fuel : Nat} {a : Option Addr} {len cap : Nat} {x : DataW H × List MemPlace} (h1 : P.underlying t = some (.slice e)) (h2 : P.underlying e = some (.int k)) (h3 : P.cellsOf e = 1)
    (hf : DataW.trod enc P W base spare held fuel t [.slice a len cap] = some x) :
    ∃ xs : List Int, Sl (Value.int k) W a len xs ∧ (∀ n ∈ xs, (Lit.int k n).wf = true) ∧ (a = none → cap = 0) :=
  slice_in _ _ h1 h3 (fun n v y hy => by
    obtain ⟨u, e0, _, wu⟩ := DataW.trod_int h2 hy
    exact ⟨u, by simpa using e0, wu⟩) hf
end
end Go.Proofs.YthcldogebnjohaaGreatDoor
end

/- Digests and throws as values: whether two are the same; rows of elements of several cells. -/
section
set_option maxRecDepth 100000
namespace Go.Proofs.YthcldogebnjohaaGreatDoor
open Go.RowKit
def Dig (ds : List Int) : Prop := ds.length = 8 ∧ ∀ d ∈ ds, 0 ≤ d ∧ d ≤ 255
def digL (d : List Int) : List Value := d.map (Value.int .u8)
structure Rl where
  cell : Int
  sides : Int
  mover : Int
  next : Int
  sum : Int
  deriving DecidableEq
def Rl.cells (r : Rl) : List Value := [.int .i64 r.cell, .int .i64 r.sides, .int .i64 r.mover, .int .i64 r.next, .int .u64 r.sum]
def Rl.v (r : Rl) : Value := .agg #[.int .i64 r.cell, .int .i64 r.sides, .int .i64 r.mover, .int .i64 r.next, .int .u64 r.sum]
structure Rl.Ok (r : Rl) : Prop where
  cell : (Lit.int .i64 r.cell).wf = true
  sides : (Lit.int .i64 r.sides).wf = true
  mover : (Lit.int .i64 r.mover).wf = true
  next : (Lit.int .i64 r.next).wf = true
  sum : (Lit.int .u64 r.sum).wf = true
section
variable {P : Program} {w : World} {ops : Array Oper} {rest : List Oper} {o : Oper} {a : Act} {Q : Exit → Act → World → Prop} {t e : TypeId} {z : Value} {sz bytes : Nat} {α : Type} {f : α → List Value}
end
end Go.Proofs.YthcldogebnjohaaGreatDoor
end

/- Positions: as they lie in memory, and as they came in; clones; whether two are the same. -/
section
set_option maxRecDepth 100000
namespace Go.Proofs.YthcldogebnjohaaGreatDoor
open Go.RowKit Go.ChangeShapes Go.WideShapes Go.ChangeAt Go.Joins
theorem Sl.take {α : Type} {f : α → Value} {w : World} {A : Option Addr} {n : Nat} {xs : List α} (h : Sl f w A n xs) (j : Nat) : Sl f w A (min n j) (xs.take j) := by
  have hl := h.len
  have hm := h.max
  refine ⟨by simp [hl]; omega, by omega, fun hn => ?_⟩
  obtain ⟨b, off, hA, hlt, hc⟩ := h.at_ (by omega)
  refine ⟨b, off, hA, hlt, fun i v hv => hc i v ?_⟩
  rw [List.getElem?_take] at hv
  split at hv
  · exact hv
  · cases hv
theorem Sln.take {α : Type} {sz : Nat} {f : α → List Value} {w : World} {A : Option Addr} {n : Nat} {xs : List α} (h : Sln sz f w A n xs) (j : Nat) : Sln sz f w A (min n j) (xs.take j) := by
  have hl := h.len
  have hm := h.max
  refine ⟨by simp [hl]; omega, by omega, fun v hv => h.cells v (List.mem_of_mem_take hv), fun hn => ?_⟩
  obtain ⟨b, off, hA, hlt, hc⟩ := h.at_ (by omega)
  refine ⟨b, off, hA, hlt, fun i v hv => hc i v ?_⟩
  rw [List.getElem?_take] at hv
  split at hv
  · exact hv
  · cases hv
def W32 (xs : List Int) : Prop := ∀ x ∈ xs, -2147483648 ≤ x ∧ x ≤ 2147483647
theorem W32.take {xs : List Int} (h : W32 xs) (j : Nat) : W32 (xs.take j) := fun x hx => h x (List.mem_of_mem_take hx)
structure PosD where
  vars : List Int
  gone : List Bool
  tips : List (List Int)
  roll : Rl
structure PosAt (w : World) (A B C : Option Addr) (n m k : Nat) (x : PosD) : Prop where
  vars : Sl (Value.int .i32) w A n x.vars
  gone : Sl Value.bool w B m x.gone
  tips : Sln 8 digL w C k x.tips
  w32 : W32 x.vars
  digs : ∀ d ∈ x.tips, Dig d
  ok : x.roll.Ok
theorem PosAt.below {w w' : World} {A B C : Option Addr} {n m k : Nat} {x : PosD} (h : PosAt w A B C n m k x) (hb : Below w.heap.size w w') : PosAt w' A B C n m k x :=
  ⟨h.vars.below hb, h.gone.below hb, h.tips.below hb, h.w32, h.digs, h.ok⟩
def PosD.cut (x : PosD) : PosD := ⟨x.vars.take 70, x.gone.take 10, x.tips.take 10, x.roll⟩
theorem PosAt.cut {w : World} {A B C : Option Addr} {n m k : Nat} {x : PosD} (h : PosAt w A B C n m k x) : PosAt w A B C (min n 70) (min m 10) (min k 10) x.cut :=
  ⟨h.vars.take 70, h.gone.take 10, h.tips.take 10, h.w32.take 70, fun d hd => h.digs d (List.mem_of_mem_take hd), h.ok⟩
section
variable {H : Type} {enc : TypeId × Value → H} {W : World} {base : Nat} {spare : Nat → Bool} {held : Bool}
theorem slice_shape {t e : TypeId} {fuel : Nat} {v : Value} {x : DataW H × List MemPlace} (ht : Tryz.prog.underlying t = some (.slice e)) (h : DataW.trod enc Tryz.prog W base spare held fuel t [v] = some x) : ∃ A n c, v = .slice A n c ∧ n ≤ c := by
  rcases Go.Deep.open_slice ht h with ⟨hcs, _⟩ | ⟨y, l, c, _, _, _, _, hcs, _, hlc, _⟩
  · simp at hcs; exact ⟨_, _, _, hcs, Nat.le_refl _⟩
  · simp at hcs; exact ⟨_, _, _, hcs, hlc⟩
end
end Go.Proofs.YthcldogebnjohaaGreatDoor
end

/- From what came in to what the evaluator is told of. -/
section
set_option maxRecDepth 100000
namespace Go.Proofs.YthcldogebnjohaaGreatDoor
open Go.RowKit Go.Ev
set_option linter.unusedSectionVars false
variable [Go.Ev.Frozen Tryz.prog]
theorem rowAt_le {P : Program} {ft : TypeId → Bool} {d : Nat} {e : TypeId} {count off n : Nat} (h : Go.rowAt P ft d e count off n = true) : off ≤ count * P.cellsOf e := by
  cases d with
  | zero => cases h
  | succ d =>
    unfold Go.rowAt at h
    by_cases hs : P.cellsOf e = 0
    · simp [hs] at h
    · simp only [hs, if_false, Bool.or_eq_true, Bool.and_eq_true, beq_iff_eq, decide_eq_true_eq] at h
      have hd := Nat.div_add_mod off (P.cellsOf e)
      have hm := Nat.mod_lt off (Nat.pos_of_ne_zero hs)
      rcases h with ⟨⟨h1, h2⟩, _⟩ | ⟨h1, _⟩
      · have := Nat.mul_le_mul_right (P.cellsOf e) (show off / P.cellsOf e ≤ count by omega)
        rw [Nat.mul_comm] at hd
        omega
      · have := Nat.mul_le_mul_right (P.cellsOf e) (show off / P.cellsOf e + 1 ≤ count by omega)
        rw [Nat.add_mul, Nat.one_mul] at this
        rw [Nat.mul_comm] at hd
        omega
theorem liesAt_le {P : Program} {e : TypeId} {count off : Nat} : ∀ {d : Nat} {u : TypeId} {n : Nat}, liesAt P d e count off u n = true → off ≤ count * P.cellsOf e := by
  intro d
  induction d with
  | zero => intro u n h; cases h
  | succ d ih =>
    intro u n h
    unfold liesAt at h
    rw [Bool.or_eq_true] at h
    rcases h with h | h
    · exact rowAt_le h
    · split at h
      · exact ih h
      · cases h
theorem slice_has {P : Program} {w : World} {r : Reach} {base : Nat} {t e : TypeId} {a : Addr} {len cap : Nat} (ht : P.underlying t = some (.slice e)) (h : Cell.okWide P w r base t (.slice (some a) len cap)) : a.spot = none ∧ ∃ cs ty fz, w.heap[a.block]? = some (.cells cs ty fz) ∧ a.off ≤ cs.size := by
  unfold Cell.okWide at h
  rw [ht] at h
  have h : Cell.ok P w r base t (.slice (some a) len cap) := h
  unfold Cell.ok at h
  rw [ht] at h
  obtain ⟨_, _, _, h1, row, cells, h2, h3⟩ := h
  refine ⟨h1, ?_⟩
  unfold World.shape? at h2
  split at h2
  · rename_i c el fz hq
    cases h2
    refine ⟨c, _, _, hq, Nat.le_trans (liesAt_le h3) (Nat.div_mul_le_self _ _)⟩
  · cases h2
theorem cell_row {w : World} {b i : Nat} {v : Value} {cs : Array Value} {ty : TypeId} {fz : Nat × Nat} (h : w.cell? ⟨b, i, none⟩ = some v) (hb : w.heap[b]? = some (.cells cs ty fz)) : cs.toList[i]? = some v := by
  unfold World.cell? at h
  rw [hb] at h
  simpa using h
theorem sli_in {α : Type} {f : α → Value} (hf : ∀ x, Ev.flat (f x) = true) {sz : Nat} {w : World} {A : Option Addr} {n c : Nat} {xs : List α} (hlen : xs.length = n * sz) (hat : 0 < n → ∃ b off, A = some ⟨b, off, none⟩ ∧ b < w.heap.size ∧ ∀ i x, xs[i]? = some x → w.cell? ⟨b, off + i, none⟩ = some (f x))
    (hA : A = none → c = 0) (hc : n ≤ c) (hz : 0 < sz) (hh : ∀ a, A = some a → a.spot = none ∧ ∃ cs ty fz, w.heap[a.block]? = some (.cells cs ty fz) ∧ a.off ≤ cs.size) :
    ∃ (nb : Bool) (o : Nat) (cl : List Value) (blk : Option Nat), Sli f sz nb o n c cl xs ∧ (∀ b, blk = some b → ∃ cs ty fz, w.heap[b]? = some (.cells cs ty fz) ∧ ∀ σ, VRL σ cl cs.toList) ∧ ∀ σ i, σ i = blk.map (fun b => (b, 0)) → VR σ (mnS i nb o n c) (.slice A n c) := by
  cases A with
  | none =>
    have hc0 := hA rfl
    have hn0 : n = 0 := by omega
    subst hc0 hn0
    have hx : xs = [] := List.eq_nil_of_length_eq_zero (by omega)
    subst hx
    exact ⟨true, 0, [], none, .none, (fun b h => by cases h), fun σ i _ => .mnil rfl rfl rfl⟩
  | some a =>
    obtain ⟨hsp, cs, ty, fz, hbk, hoff⟩ := hh a rfl
    obtain ⟨b, off, sp⟩ := a
    have hsp : sp = none := hsp
    subst hsp
    have hbk : w.heap[b]? = some (.cells cs ty fz) := hbk
    have hoff : off ≤ cs.size := hoff
    have cellAt : ∀ i x, xs[i]? = some x → cs.toList[off + i]? = some (f x) := fun i x hx => by
      have hi : i < xs.length := (List.getElem?_eq_some_iff.1 hx).1
      have hn : 0 < n := by
        rcases Nat.eq_zero_or_pos n with e | e
        · rw [e, Nat.zero_mul] at hlen; omega
        · exact e
      obtain ⟨b', off', e1, _, h2⟩ := hat hn
      cases e1
      exact cell_row (h2 i x hx) hbk
    have hfl : ∀ i v, i < n * sz → cs.toList[off + i]? = some v → Ev.flat v = true := fun i v hi hv => by
      have hi' : i < xs.length := by omega
      have := cellAt i _ (List.getElem?_eq_getElem hi')
      rw [this] at hv; cases hv; exact hf _
    have hfit : off + n * sz ≤ cs.toList.length := by
      rcases Nat.eq_zero_or_pos (n * sz) with e | e
      · rw [e]; simpa using hoff
      · have hi' : n * sz - 1 < xs.length := by omega
        have := (List.getElem?_eq_some_iff.1 (cellAt (n * sz - 1) _ (List.getElem?_eq_getElem hi'))).1
        omega
    refine ⟨false, off, wnd off (n * sz) cs.toList, some b, ⟨fun i x hx => ?_, hlen, (fun h => by cases h), fun _ => by rw [wnd_length]; exact hfit, hc, wnd_flat _ _ _ hfl⟩, fun b' hb' => ?_, fun σ i hi => ?_⟩
    · have hi : i < xs.length := (List.getElem?_eq_some_iff.1 hx).1
      left
      rw [wnd_get _ _ _ _ (by omega)]; exact cellAt i x hx
    · cases hb'; exact ⟨cs, ty, fz, hbk, fun σ => wnd_vr _ _ _ hfl⟩
    · exact .mn (d := 0) rfl hi
theorem glob_ro : ∀ j o, (putAll G0 .e).get j = some o → mayW o = false := fun j o hj => by
  have hro : roB 12 G0 = true := by kernel_rfl
  have ho : onceB G0 = true := by kernel_rfl
  obtain ⟨k1, k2⟩ := putAll_get j G0 .e ho
  cases hk : keyB j G0 with
  | false => rw [k2 hk] at hj; cases hj
  | true =>
    obtain ⟨o', ho'⟩ := keyB_iff.1 hk
    rw [k1 o' ho'] at hj; cases hj
    have := List.all_eq_true.1 hro (j, _) ho'
    simp only [Bool.and_eq_true] at this
    obtain ⟨c, e, rfl, _⟩ := roO_some this.2
    rfl
end Go.Proofs.YthcldogebnjohaaGreatDoor
end

/- The law of what can't be begun, for any amounts as they come in. -/
section
set_option maxRecDepth 100000
namespace Go.Proofs.YthcldogebnjohaaGreatDoor
open Go.RowKit Go.Ev Go.ChangeShapes Go.WideShapes Go.ChangeAt Go.Joins
set_option linter.unusedSectionVars false
variable [Frozen Tryz.prog]
theorem wfB {x : Int} (h : (Lit.int .u8 x).wf = true) : 0 ≤ x ∧ x < 256 := by
  simp only [Lit.wf, Bool.and_eq_true, decide_eq_true_eq] at h
  have h : (0 : Int) ≤ x ∧ x ≤ 255 := h
  omega
theorem walkN (which : Int) (hw : 0 ≤ which ∧ which < 256) (k : Int) (w : World) (A : Option Addr) (n c : Nat) (xs : List Int) (s : Sl (Value.int .i64) w A n xs) (hL : LaidIn G0 w) (hfro : ∀ b x, Frozen.F Tryz.prog b = some x → w.heap[b]? = some x) (q : A = none → c = 0) (l : n ≤ c)
    (o : ∀ a, A = some a → a.spot = none ∧ ∃ cs ty fz, w.heap[a.block]? = some (.cells cs ty fz) ∧ a.off ≤ cs.size) :
    Calls Tryz.prog 3 #[.int .u8 which, .slice A n c, .int .i32 k] w fun e w' => e = .returned (.bool true) ∧ Below w.heap.size w w' := by
  obtain ⟨b1, p1, r1, k1, s1, v1, u1⟩ := sli_in (f := Value.int .i64) (fun _ => rfl) (sz := 1) (by rw [s.len, Nat.mul_one]) s.at_ q l (by omega) o
  have hng : Tryz.prog.globals.size = 12 := by kernel_rfl
  have hR0 := Rel.laid (P := Tryz.prog) (G := G0) (ng := 12) hng (by kernel_rfl) (by kernel_rfl) hL hfro
  obtain ⟨hR1, z1⟩ := Rel.addRo (i := 12) (n' := 12 + 1) hR0 glob_ro (if_neg (by omega)) (by omega) (by omega) (by omega) r1 3 k1 v1
  obtain ⟨Bm, hsem⟩ := none_sem ⟨which, ⟨b1, p1, n, c, r1⟩, k⟩ hw xs s1
  have hmem : mem (S_noneA.R ⟨which, ⟨b1, p1, n, c, r1⟩, k⟩) S_noneA.n = ⟨(putAll G0 .e).set 12 (.row r1 3 .gro), 12 + 1⟩ := by
    have := congrArg AW.heap globs
    show (⟨(mem globR 12).heap.set 12 _, _⟩ : AW) = _
    rw [this]
    rfl
  rw [hmem] at hsem
  refine sem_calls envOK (fn := Tryz.f3) (by kernel_rfl) rfl rfl hsem hR1 ?_ z1
  exact .cons (tgI_vr _ _) (.cons (u1 _ _ (if_pos rfl)) (.cons (tgI_vr _ _) .nil))
end Go.Proofs.YthcldogebnjohaaGreatDoor
end
