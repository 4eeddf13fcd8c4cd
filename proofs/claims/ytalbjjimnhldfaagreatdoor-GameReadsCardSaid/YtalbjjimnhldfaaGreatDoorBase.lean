/- Words for memory: a slice that reads as a list; rows of the call's own. -/
import Derived.Test.YtalbjjimnhldfaaGreatDoorRows
import Derived.WalkKit
import Derived.WalkSpells
import Derived.Lib.Hide
import Derived.Deep.QuietTactic
import Derived.BigQuiet
import Derived.Maps.AppendAt
import Derived.Laws.AppendOwnNone
namespace Go.Proofs.YtalbjjimnhldfaaGreatDoor
open Go.RowKit

/-- The slice value '.slice A n c' reads as the list xs, element by element by f. -/
structure Sl {α : Type} (f : α → Value) (w : World) (A : Option Addr) (n : Nat) (xs : List α) : Prop where
  len : xs.length = n
  max : n ≤ 9223372036854775807
  at_ : 0 < n → ∃ b off, A = some ⟨b, off, none⟩ ∧ b < w.heap.size ∧ ∀ k v, xs[k]? = some v → w.cell? ⟨b, off + k, none⟩ = some (f v)

theorem Sl.get {α : Type} {f : α → Value} {w : World} {A : Option Addr} {n k : Nat} {xs : List α} (h : Sl f w A n xs) (hk : k < n) :
    ∃ b off v, A = some ⟨b, off, none⟩ ∧ b < w.heap.size ∧ w.cell? ⟨b, off + k, none⟩ = some (f v) ∧ Hid (xs[k]? = some v) := by
  obtain ⟨b, off, hA, hb, hc⟩ := h.at_ (by omega)
  have hl : k < xs.length := by rw [h.len]; exact hk
  have hv := List.getElem?_eq_getElem hl
  exact ⟨b, off, _, hA, hb, hc k _ hv, hv⟩

theorem Sl.drewN {α : Type} {f : α → Value} {w : World} {A : Option Addr} {n : Nat} {xs : List α} (h : Sl f w A n xs) (m : Nat) : Sl f (w.drewN m) A n xs := ⟨h.len, h.max, h.at_⟩
theorem Sl.drew {α : Type} {f : α → Value} {w : World} {A : Option Addr} {n : Nat} {xs : List α} (h : Sl f w A n xs) : Sl f w.drew A n xs := ⟨h.len, h.max, h.at_⟩
theorem Sl.below {α : Type} {f : α → Value} {w w' : World} {A : Option Addr} {n : Nat} {xs : List α} (h : Sl f w A n xs) (hb : Below w.heap.size w w') : Sl f w' A n xs :=
  ⟨h.len, h.max, fun hn => by
    obtain ⟨b, off, hA, hlt, hc⟩ := h.at_ hn
    exact ⟨b, off, hA, Nat.lt_of_lt_of_le hlt hb.size, fun k v hv => (hb.cell (p := ⟨b, off + k, none⟩) hlt).trans (hc k v hv)⟩⟩
theorem Sl.nil {α : Type} {f : α → Value} {w : World} {A : Option Addr} : Sl f w A 0 ([] : List α) := ⟨rfl, by omega, fun h => absurd h (by omega)⟩

/-- The same, each element of sz cells. -/
structure Sln {α : Type} (sz : Nat) (f : α → List Value) (w : World) (A : Option Addr) (n : Nat) (xs : List α) : Prop where
  len : xs.length = n
  max : n ≤ 9223372036854775807
  cells : ∀ v ∈ xs, (f v).length = sz
  at_ : 0 < n → ∃ b off, A = some ⟨b, off, none⟩ ∧ b < w.heap.size ∧ ∀ i v, xs[i]? = some v → ∀ j c, (f v)[j]? = some c → w.cell? ⟨b, off + i * sz + j, none⟩ = some c
section
variable {α : Type} {sz : Nat} {f : α → List Value} {w w' : World} {A : Option Addr} {n k : Nat} {xs : List α}
theorem Sln.nil : Sln sz f w A 0 ([] : List α) := ⟨rfl, by omega, by simp, fun h => absurd h (by omega)⟩
theorem Sln.get (h : Sln sz f w A n xs) (hk : k < n) :
    ∃ b off v, A = some ⟨b, off, none⟩ ∧ b < w.heap.size ∧ (∀ j c, (f v)[j]? = some c → w.cell? ⟨b, off + k * sz + j, none⟩ = some c) ∧ Hid (xs[k]? = some v) := by
  obtain ⟨b, off, hA, hb, hc⟩ := h.at_ (by omega)
  have hl : k < xs.length := by rw [h.len]; exact hk
  have hv := List.getElem?_eq_getElem hl
  exact ⟨b, off, _, hA, hb, hc k _ hv, hv⟩
theorem Sln.drewN (h : Sln sz f w A n xs) (m : Nat) : Sln sz f (w.drewN m) A n xs := ⟨h.len, h.max, h.cells, h.at_⟩
theorem Sln.below (h : Sln sz f w A n xs) (hb : Below w.heap.size w w') : Sln sz f w' A n xs :=
  ⟨h.len, h.max, h.cells, fun hn => by
    obtain ⟨b, off, hA, hlt, hc⟩ := h.at_ hn
    exact ⟨b, off, hA, Nat.lt_of_lt_of_le hlt hb.size, fun i v hv j c hj => (hb.cell (p := ⟨b, off + i * sz + j, none⟩) hlt).trans (hc i v hv j c hj)⟩⟩
end

/-- Numbers that fit an int. -/
def Fits (xs : List Int) : Prop := ∀ x ∈ xs, -9223372036854775808 ≤ x ∧ x ≤ 9223372036854775807
theorem Fits.at_ {xs : List Int} {k : Nat} {v : Int} (h : Fits xs) (hv : Hid (xs[k]? = some v)) : -9223372036854775808 ≤ v ∧ v ≤ 9223372036854775807 := h v (List.mem_of_getElem? hv.out)

theorem take_snoc {α : Type} {xs : List α} {k : Nat} {v : α} (h : xs[k]? = some v) : xs.take (k + 1) = xs.take k ++ [v] := by
  rw [List.take_add_one, h]; rfl

theorem drop_cons {α : Type} {xs : List α} {k : Nat} {v : α} (h : xs[k]? = some v) : xs.drop k = v :: xs.drop (k + 1) := by
  obtain ⟨hl, rfl⟩ := List.getElem?_eq_some_iff.1 h
  exact List.drop_eq_getElem_cons hl

theorem Sl.of_own {α : Type} {f : α → Value} {w : World} {base e g n cap : Nat} {xs : List α} (h : w.ownsRow base e 1 (.slice (some ⟨g, 0, none⟩) n cap) n (xs.map f)) :
    Sl f w (some ⟨g, 0, none⟩) n xs := by
  have hl : xs.length = n := by simpa using h.1
  refine ⟨hl, ?_, fun hn => ⟨g, 0, rfl, (h.lt g rfl).2, fun k v hv => ?_⟩⟩
  · rcases h.2 with ⟨h', _⟩ | ⟨g', cap', cur, h', _, _, hnc, hcm, _⟩
    · simp at h'
    · unfold maxLen at hcm; omega
  · have hk : k < n := by rw [← hl]; exact (List.getElem?_eq_some_iff.1 hv).1
    have := h.cellAt k (by omega)
    rw [List.getElem?_map, hv] at this
    simpa using this


/-- What an append or a make asks of a slice type t with one-cell elements of type e. -/
structure ElemTy (P : Program) (t e : TypeId) (z : Value) (bytes : Nat) : Prop where
  sl : P.underlying t = some (.slice e)
  info : ∃ i, P.info? e = some i ∧ i.zero = some z ∧ i.size = 1 ∧ i.bytes = bytes
  one : z.cells = #[z]

theorem ElemTy.mk' {P : Program} {t e : TypeId} {z : Value} {bytes : Nat} (h1 : P.underlying t = some (.slice e)) (h2 : (P.info? e).map (fun i => (i.zero, i.size, i.bytes)) = some (some z, 1, bytes)) (h3 : z.cells = #[z]) : ElemTy P t e z bytes := by
  obtain ⟨i, a, b, c, d⟩ := info_parts h2
  exact ⟨h1, ⟨i, a, b, c, d⟩, h3⟩

section
variable {P : Program} {w : World} {ops : Array Oper} {rest : List Oper} {o : Oper} {a : Act} {Q : Exit → Act → World → Prop} {t e : TypeId} {z : Value} {bytes : Nat} {α : Type} {f : α → Value}

theorem own_slice {base n : Nat} {v : Value} {xs : List Value} (h : w.ownsRow base e 1 v n xs) : ∃ A c, v = .slice A n c := by
  rcases h.2 with ⟨rfl, rfl⟩ | ⟨g, cap, cur, rfl, _⟩
  · exact ⟨_, _, rfl⟩
  · exact ⟨_, _, rfl⟩

/-- 'append(s, x...)' onto a row of the call's own, the source a slice that reads as a list. -/
theorem wpList_app (T : ElemTy P t e z bytes) (hgd : o.guard = none) (s x : Operand)
    (ho : o.op = .call { callee := .builtin .append, args := #[s, x], argTypes := #[t, t] }) (hf : ∀ y, (f y).oneCell' = true)
    (base : Nat) (v : Value) (n : Nat) (xs : List α) (hs : a.eval s = v) (hown : w.ownsRow base e 1 v n (xs.map f))
    (A : Option Addr) (m c : Nat) (ys : List α) (hx : a.eval x = .slice A m c) (hr : Sl f w A m ys) (hA : A = none → c = 0)
    (h63 : n + m ≤ maxLen) (hbytes : (n + m) * bytes ≤ 140737488355328) (hbase : base ≤ w.heap.size)
    (h : ∀ A' c' w', w'.ownsRow base e 1 (.slice A' (n + m) c') (n + m) ((xs ++ ys).map f) → w.grownBy w' v.ownBlock → ((Value.slice A' (n + m) c').ownBlock = v.ownBlock ∨ (Value.slice A' (n + m) c').ownBlock = some w.heap.size) →
      wpList P ops Q rest (a.put o.dst (.slice A' (n + m) c')) w') : wpList P ops Q (o :: rest) a w := by
  obtain ⟨i, hi, hz, hs1, hby⟩ := T.info
  rcases A with _ | ad
  · have hc := hA rfl
    subst hc
    have hm : m = 0 := by
      rcases Nat.eq_zero_or_pos m with h0 | h0
      · exact h0
      · obtain ⟨b, off, hb, _⟩ := hr.at_ h0
        cases hb
    subst hm
    have hy : ys = [] := List.eq_nil_of_length_eq_zero hr.len
    subst hy
    obtain ⟨A', c', rfl⟩ := own_slice hown
    refine wpList_append_own_none hgd s x t ho base e i 1 T.sl hi _ n _ hs hown hx (h A' c' w (by simpa using hown) (World.grownBy.refl w _) (.inl rfl))
  · refine wpList_append_own_at w hgd s x t ho base e i z 1 bytes T.sl hi hz hs1 hby (by rw [T.one]; rfl) (by omega) v n _ hs hown ad m c (ys.map f) hx (by simp [hr.len]) ?_ ?_ h63 hbytes hbase ?_
    · intro j u hu
      rw [List.getElem?_map] at hu
      obtain ⟨y, hy, rfl⟩ := Option.map_eq_some_iff.1 hu
      have hj : j < m := by rw [← hr.len]; exact (List.getElem?_eq_some_iff.1 hy).1
      obtain ⟨b, off, hb, _, hc⟩ := hr.at_ (by omega)
      injection hb with hb
      subst hb
      have hcc := hc j y hy
      by_cases hj0 : j = 0
      · subst hj0; simpa [Addr.add] using hcc
      · simpa [Addr.add, hj0] using hcc
    · intro u hu
      obtain ⟨y, _, rfl⟩ := List.mem_map.1 hu
      exact hf y
    · intro v' w' h1 h2 _ h4
      rw [← List.map_append] at h1
      obtain ⟨A', c', rfl⟩ := own_slice h1
      exact h A' c' w' h1 h2 h4

/-- 'append(s, y)' of one element onto a row of the call's own: the element lies in the newest block. -/
theorem wpList_app1 (T : ElemTy P t e z bytes) (hgd : o.guard = none) (s x : Operand)
    (ho : o.op = .call { callee := .builtin .append, args := #[s, x], argTypes := #[t, t] }) (hf : ∀ y, (f y).oneCell' = true)
    (base : Nat) (v : Value) (n : Nat) (xs : List α) (y : α) (t1 : TypeId) (hs : a.eval s = v) (hown : w.ownsRow base e 1 v n (xs.map f))
    (hx : a.eval x = .slice (some ⟨w.heap.size, 0, none⟩) 1 1)
    (h63 : n + 1 ≤ maxLen) (hbytes : (n + 1) * bytes ≤ 140737488355328) (hbase : base ≤ w.heap.size)
    (h : ∀ A' c' w', w'.ownsRow base e 1 (.slice A' (n + 1) c') (n + 1) ((xs ++ [y]).map f) → (w.alloc (.cells #[f y] t1)).grownBy w' v.ownBlock → ((Value.slice A' (n + 1) c').ownBlock = v.ownBlock ∨ (Value.slice A' (n + 1) c').ownBlock = some (w.heap.size + 1)) →
      wpList P ops Q rest (a.put o.dst (.slice A' (n + 1) c')) w') : wpList P ops Q (o :: rest) a (w.alloc (.cells #[f y] t1)) := by
  obtain ⟨i, hi, hz, hs1, hby⟩ := T.info
  refine wpList_append_own_at _ hgd s x t ho base e i z 1 bytes T.sl hi hz hs1 hby (by rw [T.one]; rfl) (by omega) v n _ hs (hown.alloc _) ⟨w.heap.size, 0, none⟩ 1 1 [f y] hx (by simp) (cell_one_new _ _ _) ?_ h63 hbytes (by simp; omega) ?_
  · intro u hu
    have : u = f y := by simpa using hu
    subst this
    exact hf y
  · intro v' w' h1 h2 _ h4
    rw [show xs.map f ++ [f y] = (xs ++ [y]).map f by simp] at h1
    obtain ⟨A', c', rfl⟩ := own_slice h1
    exact h A' c' w' h1 h2 (by simpa using h4)

/-- 'make([]T, 0, n)'. -/
theorem wpList_mk0 (T : ElemTy P t e z bytes) (hgd : o.guard = none) (l c : Operand) (hop : o.op = Op.makeSlice t l c) (base : Nat) (kl kc : IntKind) (C : Int) (n : Nat)
    (hl : a.eval l = .int kl 0) (hc : a.eval c = .int kc C) (hC : C = (n : Int)) (b2 : bytes * n ≤ 281474976710656) (b3 : n ≤ maxLen) (b4 : base ≤ w.heap.size)
    (hK : ∀ w', w'.ownsRow base e 1 (.slice (some ⟨w.heap.size, 0, none⟩) 0 n) 0 (([] : List α).map f) → w.grownBy w' none → wpList P ops Q rest (a.put o.dst (.slice (some ⟨w.heap.size, 0, none⟩) 0 n)) w') :
    wpList P ops Q (o :: rest) a w := by
  obtain ⟨i, hi, hz, hs1, hby⟩ := T.info
  exact wpList_make_own w hgd l c t hop base e i z 1 T.sl hi hz hs1 kl kc C n hl hc hC (by rw [hby]; exact b2) b3 b4 fun w' h1 h2 => hK w' h1 h2

/-- 'make([]T, n)'. -/
theorem wpList_mk (T : ElemTy P t e z bytes) (hgd : o.guard = none) (l c : Operand) (hop : o.op = Op.makeSlice t l c) (base : Nat) (kl kc : IntKind) (L C : Int) (n : Nat)
    (hl : a.eval l = .int kl L) (hc : a.eval c = .int kc C) (hL : L = (n : Int)) (hC : C = (n : Int)) (b2 : bytes * n ≤ 281474976710656) (b3 : n ≤ maxLen) (b4 : base ≤ w.heap.size) (y : α) (hy : f y = z)
    (hK : ∀ w', w'.ownsRow base e 1 (.slice (some ⟨w.heap.size, 0, none⟩) n n) n ((List.replicate n y).map f) → w.grownBy w' none → wpList P ops Q rest (a.put o.dst (.slice (some ⟨w.heap.size, 0, none⟩) n n)) w') :
    wpList P ops Q (o :: rest) a w := by
  obtain ⟨i, hi, hz, hs1, hby⟩ := T.info
  refine wpList_make_full w hgd l c t hop base e i z 1 T.sl hi hz hs1 kl kc L C n hl hc hL hC (by rw [hby]; exact b2) b3 b4 fun w' h1 h2 => hK w' ?_ h2
  rw [T.one, Nat.mul_one, toList_madeCells_one] at h1
  rw [List.map_replicate, hy]
  exact h1
end

theorem own_below {w w' : World} {base e n : Nat} {v : Value} {xs : List Value} (h : w.ownsRow base e 1 v n xs) (hb : Below w.heap.size w w') : w'.ownsRow base e 1 v n xs := by
  refine h.kept (row := none) ⟨hb.os, hb.tape, hb.output, hb.size, fun i hi _ => hb.block i hi⟩ ?_
  rcases hv : v.ownBlock with _ | g
  · exact .inl rfl
  · exact .inr (by simp)
theorem own_mono {w : World} {base base' e n : Nat} {v : Value} {xs : List Value} (h : w.ownsRow base e 1 v n xs) (hb : base' ≤ base) : w.ownsRow base' e 1 v n xs := by
  refine ⟨h.1, ?_⟩
  rcases h.2 with h2 | ⟨g, cap, cur, hv, hg, r⟩
  · exact .inl h2
  · exact .inr ⟨g, cap, cur, hv, by omega, r⟩
theorem below_trans {B B' : Nat} {a b c : World} (h : Below B a b) (k : Below B' b c) (hB : B ≤ B') : Below B a c := h.trans (k.mono hB)
theorem own_some {w : World} {base e n c : Nat} {A : Option Addr} {xs : List Value} (h : w.ownsRow base e 1 (.slice A n c) n xs) (hn : 0 < n) : ∃ g, A = some ⟨g, 0, none⟩ ∧ base ≤ g ∧ g < w.heap.size := by
  have := h.lt
  rcases h.2 with ⟨h1, h2⟩ | ⟨g, cap, cur, hv, hg, r⟩
  · omega
  · have hA : A = some ⟨g, 0, none⟩ := by injection hv
    subst hA
    exact ⟨g, rfl, hg, (this g rfl).2⟩
theorem Sl.of_row {α : Type} {f : α → Value} {w : World} {base e n c : Nat} {A : Option Addr} {xs : List α} (h : w.ownsRow base e 1 (.slice A n c) n (xs.map f)) : Sl f w A n xs := by
  rcases Nat.eq_zero_or_pos n with rfl | hn
  · have : xs = [] := List.eq_nil_of_length_eq_zero (by simpa using h.1)
    subst this
    exact Sl.nil
  · obtain ⟨g, rfl, _⟩ := own_some h hn
    exact Sl.of_own h

theorem Sl.setCell {α : Type} {f : α → Value} {w : World} {A : Option Addr} {n : Nat} {xs : List α} (h : Sl f w A n xs) {p : Addr} (u : Value) (hp : ∀ ad, A = some ad → ad.block ≠ p.block) : Sl f (w.setCell p u) A n xs :=
  ⟨h.len, h.max, fun hn => by
    obtain ⟨b, off, hA, hlt, hc⟩ := h.at_ hn
    have hne := hp _ hA
    refine ⟨b, off, hA, by simpa using hlt, fun k v hv => ?_⟩
    rw [← hc k v hv]
    exact World.cell?_setCell_other w p ⟨b, off + k, none⟩ u (fun e => hne (by rw [e]))⟩
theorem own_lit {α : Type} (f : α → Value) (w : World) (base : Nat) (cs : Array Value) (e : TypeId) (n : Nat) (xs : List α) (hb : base ≤ w.heap.size) (hn : xs.length = n) (hm : n ≤ maxLen) (h : cs.toList = xs.map f) :
    (w.alloc (.cells cs e)).ownsRow base e 1 (.slice (some ⟨w.heap.size, 0, none⟩) n n) n (xs.map f) := by
  have hs : cs.size = n * 1 := by rw [← Array.length_toList, h, List.length_map, hn, Nat.mul_one]
  have := World.ownsRow_lit (base := base) (e := e) (size := 1) w cs n hb hm hs
  rwa [h] at this
theorem Sl.lit {α : Type} (f : α → Value) (w : World) (cs : Array Value) (e : TypeId) (n : Nat) (xs : List α) (hn : xs.length = n) (hm : n ≤ maxLen) (h : cs.toList = xs.map f) :
    Sl f (w.alloc (.cells cs e)) (some ⟨w.heap.size, 0, none⟩) n xs := Sl.of_own (own_lit f w 0 cs e n xs (Nat.zero_le _) hn hm h)
theorem Sl.litAt {α : Type} (f : α → Value) (w : World) (g : Nat) (cs : Array Value) (e : TypeId) (n : Nat) (xs : List α) (hg : w.heap.size = g) (hn : xs.length = n) (hm : n ≤ maxLen) (h : cs.toList = xs.map f) :
    Sl f (w.alloc (.cells cs e)) (some ⟨g, 0, none⟩) n xs := by subst hg; exact Sl.lit f w cs e n xs hn hm h
theorem Sl.alloc {α : Type} {f : α → Value} {w : World} {A : Option Addr} {n : Nat} {xs : List α} (h : Sl f w A n xs) (o : Obj) : Sl f (w.alloc o) A n xs := h.below ((Below.refl _ _).alloc (Nat.le_refl _) o)

theorem oneInt (k : IntKind) (y : Int) : (Value.int k y).oneCell' = true := rfl
theorem oneBool (y : Bool) : (Value.bool y).oneCell' = true := rfl
theorem tyInts : ElemTy Tryz.prog 78 3 (.int .i64 0) 8 := ElemTy.mk' Tryz.underlying78 (by kernel_rfl) rfl

end Go.Proofs.YtalbjjimnhldfaaGreatDoor
