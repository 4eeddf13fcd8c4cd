/- Digests and throws as values: whether two are the same; rows of elements of several cells. -/
import Derived.Test.YtalbjjimnhldfaaGreatDoorIn
import Derived.Maps.OwnSet
import Derived.DeepKeys4
set_option maxRecDepth 100000
namespace Go.Proofs.YtalbjjimnhldfaaGreatDoor
open Go.RowKit
/-- A digest's value: eight bytes. -/
def dcells (ds : List Int) : Array Value := (ds.map (Value.int .u8)).toArray
abbrev dv (ds : List Int) : Value := .agg (dcells ds)
def Dig (ds : List Int) : Prop := ds.length = 8 ∧ ∀ d ∈ ds, 0 ≤ d ∧ d ≤ 255
def digL (d : List Int) : List Value := d.map (Value.int .u8)
theorem digL_len {k : List Int} (h : Dig k) : (digL k).length = 8 := by simp [digL, h.1]
theorem belowDrewN {B : Nat} {w w' : World} (h : Below B w w') (n : Nat) : Below B w (w'.drewN n) := ⟨h.os, h.tape, h.output, h.size, h.block⟩
theorem dig8 {ds : List Int} (h : ds.length = 8) : ∃ d0 d1 d2 d3 d4 d5 d6 d7, ds = [d0, d1, d2, d3, d4, d5, d6, d7] := by
  match ds, h with
  | [d0, d1, d2, d3, d4, d5, d6, d7], _ => exact ⟨d0, d1, d2, d3, d4, d5, d6, d7, rfl⟩
theorem dig_parts {a : List Int} (h : Dig a) : ∃ a0 a1 a2 a3 a4 a5 a6 a7, a = [a0, a1, a2, a3, a4, a5, a6, a7] ∧ (0 ≤ a0 ∧ a0 ≤ 255) ∧ (0 ≤ a1 ∧ a1 ≤ 255) ∧ (0 ≤ a2 ∧ a2 ≤ 255) ∧ (0 ≤ a3 ∧ a3 ≤ 255) ∧ (0 ≤ a4 ∧ a4 ≤ 255) ∧ (0 ≤ a5 ∧ a5 ≤ 255) ∧ (0 ≤ a6 ∧ a6 ≤ 255) ∧ (0 ≤ a7 ∧ a7 ≤ 255) := by
  obtain ⟨hl, hb⟩ := h
  match a, hl with
  | [a0, a1, a2, a3, a4, a5, a6, a7], _ => exact ⟨a0, a1, a2, a3, a4, a5, a6, a7, rfl, hb _ (by simp), hb _ (by simp), hb _ (by simp), hb _ (by simp), hb _ (by simp), hb _ (by simp), hb _ (by simp), hb _ (by simp)⟩
/- Equality, by the model's keys. -/
theorem digCells : Tryz.prog.cellsOf 29 = 8 := by kernel_rfl
theorem u8Cells : Tryz.prog.cellsOf 5 = 1 := by kernel_rfl
theorem intCells : Tryz.prog.cellsOf 3 = 1 := by kernel_rfl
theorem u64Cells : Tryz.prog.cellsOf 22 = 1 := by kernel_rfl
theorem rollCells : Tryz.prog.cellsOf 35 = 5 := by kernel_rfl
theorem digRow : (29 : TypeId) < Tryz.prog.types.size := of_decide_eq_true (by kernel_rfl)
theorem rollRow : (35 : TypeId) < Tryz.prog.types.size := of_decide_eq_true (by kernel_rfl)
theorem typesN : ∃ n, Tryz.prog.types.size + 1 = n + 3 := ⟨Tryz.prog.types.size - 2, by have h : 3 ≤ Tryz.prog.types.size := of_decide_eq_true (by kernel_rfl); omega⟩
theorem digWide : (match Tryz.prog.underlying 29 with | some (.array _ _) | some (.struct _) => true | _ => false) = true := by kernel_rfl
theorem rollWide : (match Tryz.prog.underlying 35 with | some (.array _ _) | some (.struct _) => true | _ => false) = true := by kernel_rfl
theorem digLaw : WideMaps.KeyLaw Tryz.prog 29 := deep_law_laid laid_out (m := 2) (by omega) digRow (by kernel_rfl) digWide
theorem rollLaw : WideMaps.KeyLaw Tryz.prog 35 := deep_law_laid laid_out (m := 2) (by omega) rollRow (by kernel_rfl) rollWide
theorem digKey : Tryz.prog.keyType 29 = true := by kernel_rfl
theorem rollKey : Tryz.prog.keyType 35 = true := by kernel_rfl
theorem u8_wf {x : Int} (h : 0 ≤ x ∧ x ≤ 255) : (Lit.int .u8 x).wf = true := by
  simp [Lit.wf, IntKind.min, IntKind.max, IntKind.bits, IntKind.signed]; omega
theorem keyLits_u8 (n : Nat) {x : Int} (h : 0 ≤ x ∧ x ≤ 255) : Tryz.prog.keyLits (n + 1) 5 [.int .u8 x] = some [.int .u8 x] := by
  simp [Program.keyLits, Tryz.underlying5, u8_wf h]
theorem keyLits_int (n : Nat) {x : Int} (h : (Lit.int .i64 x).wf = true) : Tryz.prog.keyLits (n + 1) 3 [.int .i64 x] = some [.int .i64 x] := by
  simp [Program.keyLits, Tryz.underlying3, h]
theorem keyLits_u64 (n : Nat) {x : Int} (h : (Lit.int .u64 x).wf = true) : Tryz.prog.keyLits (n + 1) 22 [.int .u64 x] = some [.int .u64 x] := by
  simp [Program.keyLits, Tryz.underlying22, h]
theorem keyLits_dig (n : Nat) {a : List Int} (h : Dig a) : Tryz.prog.keyLits (n + 2) 29 (a.map (Value.int .u8)) = some (a.map (Lit.int .u8)) := by
  obtain ⟨a0, a1, a2, a3, a4, a5, a6, a7, rfl, h0, h1, h2, h3, h4, h5, h6, h7⟩ := dig_parts h
  unfold Program.keyLits
  simp [Tryz.underlying29, digCells, u8Cells, List.range, List.range.loop, keyLits_u8, *]
theorem dkey_lit {d : List Int} (h : Dig d) : ∃ l, keyOf Tryz.prog 29 (dv d) = some l := by
  obtain ⟨n, hn⟩ := typesN
  have h1 := keyLits_dig (n + 1) h
  have l1 := h.1
  have hc : (dcells d).toList = d.map (Value.int .u8) := by simp [dcells]
  have hs : (dcells d).size = 8 := by rw [← Array.length_toList, hc]; simp [l1]
  have hf : (dv d).formed Tryz.prog 29 = true := by simp [Value.formed, Tryz.underlying29, digCells, hs]
  refine ⟨.string (keyBytes (d.map (Lit.int .u8))), ?_⟩
  unfold keyOf
  rw [Tryz.underlying29]
  simp only [digKey, hf, Bool.and_self, if_true, Value.cells, hc, hn, h1, Option.map_some]
theorem dv_inj {a b : List Int} (h : dv a = dv b) : a = b := by
  injection h with h
  have h := congrArg Array.toList h
  have hc : ∀ x : List Int, (dcells x).toList = x.map (Value.int .u8) := fun x => by simp [dcells]
  rw [hc, hc] at h
  refine (List.map_inj_right ?_).1 h
  intro p q hpq
  injection hpq
theorem dig_eql {a b : List Int} (ha : Dig a) (hb : Dig b) (w : World) : (binOp .eql 29 (dv a) (dv b)).run Tryz.prog w = .ok (.bool (decide (a = b))) w := by
  obtain ⟨la, hla⟩ := dkey_lit ha
  obtain ⟨lb, hlb⟩ := dkey_lit hb
  obtain ⟨r, hr, hiff⟩ := run_equal_deep (P := Tryz.prog) w (m := 2) (by omega) (k := 29) (by kernel_rfl) digWide hla hlb
  have hrd : r = decide (a = b) := by
    rw [Bool.eq_iff_iff, hiff, decide_eq_true_eq]
    constructor
    · intro e
      subst e
      exact dv_inj (digLaw.inj hla hlb)
    · intro e
      subst e
      exact Option.some.inj (hla.symm.trans hlb)
  simp only [binOp]
  rw [← hrd]
  simp [hr]
theorem dig_neq {a b : List Int} (ha : Dig a) (hb : Dig b) (w : World) : (binOp .neq 29 (dv a) (dv b)).run Tryz.prog w = .ok (.bool (!decide (a = b))) w := by
  obtain ⟨la, hla⟩ := dkey_lit ha
  obtain ⟨lb, hlb⟩ := dkey_lit hb
  obtain ⟨r, hr, hiff⟩ := run_equal_deep (P := Tryz.prog) w (m := 2) (by omega) (k := 29) (by kernel_rfl) digWide hla hlb
  have hrd : r = decide (a = b) := by
    rw [Bool.eq_iff_iff, hiff, decide_eq_true_eq]
    constructor
    · intro e
      subst e
      exact dv_inj (digLaw.inj hla hlb)
    · intro e
      subst e
      exact Option.some.inj (hla.symm.trans hlb)
  simp only [binOp]
  rw [← hrd]
  simp [hr]
/-- A throw that is to be done. -/
structure Rl where
  cell : Int
  sides : Int
  mover : Int
  next : Int
  sum : Int
  deriving DecidableEq
def Rl.cells (r : Rl) : List Value := [.int .i64 r.cell, .int .i64 r.sides, .int .i64 r.mover, .int .i64 r.next, .int .u64 r.sum]
def Rl.v (r : Rl) : Value := .agg #[.int .i64 r.cell, .int .i64 r.sides, .int .i64 r.mover, .int .i64 r.next, .int .u64 r.sum]
structure Rl.Ok (r : Rl) : Prop where
  cell : (Lit.int .i64 r.cell).wf = true
  sides : (Lit.int .i64 r.sides).wf = true
  mover : (Lit.int .i64 r.mover).wf = true
  next : (Lit.int .i64 r.next).wf = true
  sum : (Lit.int .u64 r.sum).wf = true
theorem keyLits_roll (n : Nat) {r : Rl} (h : r.Ok) : Tryz.prog.keyLits (n + 2) 35 r.cells = some [.int .i64 r.cell, .int .i64 r.sides, .int .i64 r.mover, .int .i64 r.next, .int .u64 r.sum] := by
  obtain ⟨h0, h1, h2, h3, h4⟩ := h
  unfold Program.keyLits Rl.cells
  simp [Tryz.underlying35, rollCells, intCells, u64Cells, keyLits_int n h0, keyLits_int n h1, keyLits_int n h2, keyLits_int n h3, keyLits_u64 n h4]
theorem rkey_lit {r : Rl} (h : r.Ok) : ∃ l, keyOf Tryz.prog 35 r.v = some l := by
  obtain ⟨n, hn⟩ := typesN
  have h1 := keyLits_roll (n + 1) h
  have hf : r.v.formed Tryz.prog 35 = true := by simp [Rl.v, Value.formed, Tryz.underlying35, rollCells]
  refine ⟨.string (keyBytes [.int .i64 r.cell, .int .i64 r.sides, .int .i64 r.mover, .int .i64 r.next, .int .u64 r.sum]), ?_⟩
  unfold keyOf
  rw [Tryz.underlying35]
  have hc : r.v.cells.toList = r.cells := rfl
  simp only [rollKey, hf, Bool.and_self, if_true, hc, hn, h1, Option.map_some]
theorem rv_inj {a b : Rl} (h : a.v = b.v) : a = b := by
  obtain ⟨a0, a1, a2, a3, a4⟩ := a
  obtain ⟨b0, b1, b2, b3, b4⟩ := b
  simp [Rl.v] at h
  simp [h]
theorem roll_eql {a b : Rl} (ha : a.Ok) (hb : b.Ok) (w : World) : (binOp .eql 35 a.v b.v).run Tryz.prog w = .ok (.bool (decide (a = b))) w := by
  obtain ⟨la, hla⟩ := rkey_lit ha
  obtain ⟨lb, hlb⟩ := rkey_lit hb
  obtain ⟨r, hr, hiff⟩ := run_equal_deep (P := Tryz.prog) w (m := 2) (by omega) (k := 35) (by kernel_rfl) rollWide hla hlb
  have hrd : r = decide (a = b) := by
    rw [Bool.eq_iff_iff, hiff, decide_eq_true_eq]
    constructor
    · intro e
      subst e
      exact rv_inj (rollLaw.inj hla hlb)
    · intro e
      subst e
      exact Option.some.inj (hla.symm.trans hlb)
  unfold Rl.v at hr ⊢
  simp only [binOp]
  rw [← hrd]
  simp [hr]
/- Rows whose elements have several cells. -/
theorem flat_get {α : Type} {f : α → List Value} {sz : Nat} : ∀ (xs : List α), (∀ x ∈ xs, (f x).length = sz) → ∀ (i : Nat) (x : α), xs[i]? = some x → ∀ (j : Nat) (c : Value), (f x)[j]? = some c → (xs.flatMap f)[i * sz + j]? = some c := by
  intro xs
  induction xs with
  | nil => intro _ i x h; simp at h
  | cons y ys ih =>
    intro hl i x hi j c hc
    have hy := hl y (by simp)
    have hj : j < (f x).length := (List.getElem?_eq_some_iff.1 hc).1
    cases i with
    | zero =>
      simp at hi
      subst hi
      rw [List.flatMap_cons, Nat.zero_mul, Nat.zero_add, List.getElem?_append_left hj]
      exact hc
    | succ i =>
      have hx := hl x (List.mem_of_getElem? hi)
      rw [List.flatMap_cons, List.getElem?_append_right (by rw [hy, Nat.succ_mul]; omega), hy]
      have : (i + 1) * sz + j - sz = i * sz + j := by rw [Nat.succ_mul]; omega
      rw [this]
      exact ih (fun z hz => hl z (by simp [hz])) i x (by simpa using hi) j c hc
theorem blk_cellF {w : World} {g : Nat} {t : TypeId} {cs : Array Value} {fz : Nat × Nat} (h : w.heap[g]? = some (.cells cs t fz)) (i : Nat) : w.cell? ⟨g, i, none⟩ = cs[i]? := cell_of_row w g i cs t fz h
theorem Sln.of_row {α : Type} {f : α → List Value} {sz : Nat} {w : World} {base e n c : Nat} {A : Option Addr} {xs : List α} (h : w.ownsRow base e sz (.slice A n c) n (xs.flatMap f)) (hl : xs.length = n) (hf : ∀ x ∈ xs, (f x).length = sz) (hs : 0 < sz) : Sln sz f w A n xs := by
  have hlt := h.lt
  rcases h.2 with ⟨hv, hn⟩ | ⟨g, cap, cur, hv, hb, hh, hnc, hcm, hcs, htk⟩
  · subst hn
    obtain rfl : xs = [] := List.eq_nil_of_length_eq_zero hl
    exact Sln.nil
  · injection hv with h1 _ h3
    subst h1 h3
    unfold maxLen at hcm
    refine ⟨hl, by omega, hf, fun hn => ⟨g, 0, rfl, (hlt g rfl).2, fun i v hv j u hu => ?_⟩⟩
    have hfg := flat_get xs hf i v hv j u hu
    rw [← htk] at hfg
    have : cur.toList[i * sz + j]? = some u := by
      rw [List.getElem?_take] at hfg
      split at hfg
      · exact hfg
      · cases hfg
    rw [Nat.zero_add]
    exact (blk_cellF hh _).trans (by simpa using this)
theorem flat_inv {α : Type} {f : α → List Value} {sz : Nat} (hs : 0 < sz) : ∀ (xs : List α), (∀ x ∈ xs, (f x).length = sz) → ∀ (j : Nat) (c : Value), (xs.flatMap f)[j]? = some c → ∃ x, xs[j / sz]? = some x ∧ (f x)[j % sz]? = some c := by
  intro xs
  induction xs with
  | nil => intro _ j c h; simp at h
  | cons y ys ih =>
    intro hl j c hc
    have hy := hl y (by simp)
    rw [List.flatMap_cons] at hc
    by_cases hj : j < sz
    · rw [List.getElem?_append_left (by omega)] at hc
      rw [Nat.div_eq_of_lt hj, Nat.mod_eq_of_lt hj]
      exact ⟨y, rfl, hc⟩
    · rw [List.getElem?_append_right (by omega), hy] at hc
      obtain ⟨x, hx, hf⟩ := ih (fun z hz => hl z (by simp [hz])) (j - sz) c hc
      have e1 : j / sz = (j - sz) / sz + 1 := by rw [Nat.div_eq j sz, if_pos ⟨hs, by omega⟩]
      have e2 : j % sz = (j - sz) % sz := Nat.mod_eq_sub_mod (by omega)
      rw [e1, e2]
      exact ⟨x, by simpa using hx, hf⟩
theorem flat_len {α : Type} {f : α → List Value} {sz : Nat} : ∀ (xs : List α), (∀ x ∈ xs, (f x).length = sz) → (xs.flatMap f).length = xs.length * sz := by
  intro xs
  induction xs with
  | nil => intro _; simp
  | cons y ys ih => intro hl; rw [List.flatMap_cons, List.length_append, ih (fun z hz => hl z (by simp [hz])), hl y (by simp), List.length_cons, Nat.succ_mul]; omega
/-- What an append asks of a slice type whose elements have several cells. -/
structure ElemTyN (P : Program) (t e : TypeId) (z : Value) (sz bytes : Nat) : Prop where
  sl : P.underlying t = some (.slice e)
  info : ∃ i, P.info? e = some i ∧ i.zero = some z ∧ i.size = sz ∧ i.bytes = bytes
  cells : z.cells.size = sz
  pos : 0 < sz
theorem ElemTyN.mk' {P : Program} {t e : TypeId} {z : Value} {sz bytes : Nat} (h1 : P.underlying t = some (.slice e)) (h2 : (P.info? e).map (fun i => (i.zero, i.size, i.bytes)) = some (some z, sz, bytes)) (h3 : z.cells.size = sz) (h4 : 0 < sz) : ElemTyN P t e z sz bytes := by
  obtain ⟨i, a, b, c, d⟩ := info_parts h2
  exact ⟨h1, ⟨i, a, b, c, d⟩, h3, h4⟩
theorem own_sliceN {w : World} {base e sz n : Nat} {v : Value} {xs : List Value} (h : w.ownsRow base e sz v n xs) : ∃ A c, v = .slice A n c := by
  rcases h.2 with ⟨rfl, rfl⟩ | ⟨g, cap, cur, rfl, _⟩
  · exact ⟨_, _, rfl⟩
  · exact ⟨_, _, rfl⟩
section
variable {P : Program} {w : World} {ops : Array Oper} {rest : List Oper} {o : Oper} {a : Act} {Q : Exit → Act → World → Prop} {t e : TypeId} {z : Value} {sz bytes : Nat} {α : Type} {f : α → List Value}
theorem wpList_appN (T : ElemTyN P t e z sz bytes) (hgd : o.guard = none) (s x : Operand)
    (ho : o.op = .call { callee := .builtin .append, args := #[s, x], argTypes := #[t, t] })
    (base : Nat) (v : Value) (n : Nat) (xs : List α) (hs : a.eval s = v) (hown : w.ownsRow base e sz v n (xs.flatMap f))
    (ad : Addr) (m c : Nat) (ys : List α) (hf : ∀ y ∈ ys, ∀ u ∈ f y, u.oneCell' = true) (hx : a.eval x = .slice (some ad) m c) (hr : Sln sz f w (some ad) m ys)
    (h63 : n + m ≤ maxLen) (hbytes : (n + m) * bytes ≤ 140737488355328) (hbase : base ≤ w.heap.size)
    (h : ∀ A' c' w', w'.ownsRow base e sz (.slice A' (n + m) c') (n + m) ((xs ++ ys).flatMap f) → w.grownBy w' v.ownBlock → ((Value.slice A' (n + m) c').ownBlock = v.ownBlock ∨ (Value.slice A' (n + m) c').ownBlock = some w.heap.size) →
      wpList P ops Q rest (a.put o.dst (.slice A' (n + m) c')) w') : wpList P ops Q (o :: rest) a w := by
  obtain ⟨i, hi, hz, hs1, hby⟩ := T.info
  refine wpList_append_own_at w hgd s x t ho base e i z sz bytes T.sl hi hz hs1 hby T.cells T.pos v n _ hs hown ad m c (ys.flatMap f) hx (by rw [flat_len ys hr.cells, hr.len]) ?_ ?_ h63 hbytes hbase ?_
  · intro j u hu
    obtain ⟨y, hy, hfy⟩ := flat_inv T.pos ys hr.cells j u hu
    have hj : j / sz < m := by rw [← hr.len]; exact (List.getElem?_eq_some_iff.1 hy).1
    obtain ⟨b, off, hb, _, hc⟩ := hr.at_ (Nat.lt_of_le_of_lt (Nat.zero_le _) hj)
    injection hb with hb
    subst hb
    have := hc (j / sz) y hy (j % sz) u hfy
    rw [Nat.add_assoc, Nat.div_add_mod' j sz] at this
    rw [add_plain]
    exact this
  · intro u hu
    obtain ⟨y, hy, hu⟩ := List.mem_flatMap.1 hu
    exact hf y hy u hu
  · intro v' w' h1 h2 _ h4
    rw [← List.flatMap_append] at h1
    obtain ⟨A', c', rfl⟩ := own_sliceN h1
    exact h A' c' w' h1 h2 h4
end
theorem digL_one {d : List Int} : ∀ u ∈ digL d, u.oneCell' = true := fun u hu => by
  obtain ⟨x, _, rfl⟩ := List.mem_map.1 hu
  rfl
theorem tyDig : ElemTyN Tryz.prog 33 29 (.agg #[.int .u8 0, .int .u8 0, .int .u8 0, .int .u8 0, .int .u8 0, .int .u8 0, .int .u8 0, .int .u8 0]) 8 8 := ElemTyN.mk' Tryz.underlying33 (by kernel_rfl) rfl (by omega)
theorem own_belowN {w w' : World} {base e sz n : Nat} {v : Value} {xs : List Value} (h : w.ownsRow base e sz v n xs) (hb : Below w.heap.size w w') : w'.ownsRow base e sz v n xs := by
  refine h.kept (row := none) ⟨hb.os, hb.tape, hb.output, hb.size, fun i hi _ => hb.block i hi⟩ ?_
  rcases hv : v.ownBlock with _ | g
  · exact .inl rfl
  · exact .inr (by simp)
end Go.Proofs.YtalbjjimnhldfaaGreatDoor
