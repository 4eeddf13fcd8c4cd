/- Contracts: the book (notary). -/
import Derived.Test.YtpnegfocmaecbaaPay
import Derived.Test.YtpnegfocmaecbaaIn
import Derived.Maps.OwnSet
import Derived.DeepKeys4
namespace Go.Proofs.Ytpnegfocmaecbaa
open Go.RowKit

abbrev Ent := List Int × List Int
def ecells (e : Ent) : Array Value := dcells e.1 ++ dcells e.2
abbrev ev (e : Ent) : Value := .agg (ecells e)
def DigE (e : Ent) : Prop := Dig e.1 ∧ Dig e.2

theorem entRow : (116 : TypeId) < Try.prog.types.size := of_decide_eq_true (by kernel_rfl)
theorem entWide : (match Try.prog.underlying 116 with | some (.array _ _) | some (.struct _) => true | _ => false) = true := by kernel_rfl
theorem entLaw : WideMaps.KeyLaw Try.prog 116 := deep_law_laid laid_out (m := 3) (by omega) entRow (by kernel_rfl) entWide
theorem entK : Maps.Keyed Try.prog 116 := Maps.Keyed.of_law entLaw
theorem entCells : Try.prog.cellsOf 116 = 16 := by kernel_rfl
theorem digCells : Try.prog.cellsOf 30 = 8 := by kernel_rfl
theorem u8Cells : Try.prog.cellsOf 5 = 1 := by kernel_rfl
theorem entKey : Try.prog.keyType 116 = true := by kernel_rfl
theorem typesN : ∃ n, Try.prog.types.size + 1 = n + 3 := ⟨Try.prog.types.size - 2, by have h : (116 : Nat) < Try.prog.types.size := entRow; omega⟩

theorem dig_parts {a : List Int} (h : Dig a) : ∃ a0 a1 a2 a3 a4 a5 a6 a7, a = [a0, a1, a2, a3, a4, a5, a6, a7] ∧ (0 ≤ a0 ∧ a0 ≤ 255) ∧ (0 ≤ a1 ∧ a1 ≤ 255) ∧ (0 ≤ a2 ∧ a2 ≤ 255) ∧ (0 ≤ a3 ∧ a3 ≤ 255) ∧ (0 ≤ a4 ∧ a4 ≤ 255) ∧ (0 ≤ a5 ∧ a5 ≤ 255) ∧ (0 ≤ a6 ∧ a6 ≤ 255) ∧ (0 ≤ a7 ∧ a7 ≤ 255) := by
  obtain ⟨hl, hb⟩ := h
  match a, hl with
  | [a0, a1, a2, a3, a4, a5, a6, a7], _ => exact ⟨a0, a1, a2, a3, a4, a5, a6, a7, rfl, hb _ (by simp), hb _ (by simp), hb _ (by simp), hb _ (by simp), hb _ (by simp), hb _ (by simp), hb _ (by simp), hb _ (by simp)⟩
theorem u8_wf {x : Int} (h : 0 ≤ x ∧ x ≤ 255) : (Lit.int .u8 x).wf = true := by
  simp [Lit.wf, IntKind.min, IntKind.max, IntKind.bits, IntKind.signed]; omega

theorem keyLits_u8 (n : Nat) {x : Int} (h : 0 ≤ x ∧ x ≤ 255) : Try.prog.keyLits (n + 1) 5 [.int .u8 x] = some [.int .u8 x] := by
  simp [Program.keyLits, Try.underlying5, u8_wf h]
theorem keyLits_dig (n : Nat) {a : List Int} (h : Dig a) : Try.prog.keyLits (n + 2) 30 (a.map (Value.int .u8)) = some (a.map (Lit.int .u8)) := by
  obtain ⟨a0, a1, a2, a3, a4, a5, a6, a7, rfl, h0, h1, h2, h3, h4, h5, h6, h7⟩ := dig_parts h
  unfold Program.keyLits
  simp [Try.underlying30, digCells, u8Cells, List.range, List.range.loop, keyLits_u8, *]
theorem ekey_lit {e : Ent} (h : DigE e) : ∃ l, keyOf Try.prog 116 (ev e) = some l := by
  obtain ⟨n, hn⟩ := typesN
  have h1 := keyLits_dig n h.1
  have h2 := keyLits_dig n h.2
  have l1 := h.1.1
  have l2 := h.2.1
  obtain ⟨a, b⟩ := e
  dsimp only at h1 h2 l1 l2
  have hc : (ecells (a, b)).toList = a.map (Value.int .u8) ++ b.map (Value.int .u8) := by simp [ecells, dcells]
  have hs : (ecells (a, b)).size = 16 := by rw [← Array.length_toList, hc]; simp [l1, l2]
  have hf : (ev (a, b)).formed Try.prog 116 = true := by simp [Value.formed, Try.underlying116, entCells, hs]
  have hk : Try.prog.keyLits (n + 3) 116 (a.map (Value.int .u8) ++ b.map (Value.int .u8)) = some (a.map (Lit.int .u8) ++ b.map (Lit.int .u8)) := by
    unfold Program.keyLits
    have t1 : List.take 8 (a.map (Value.int .u8) ++ b.map (Value.int .u8)) = a.map (Value.int .u8) := by rw [List.take_append_of_le_length (by simp [l1])]; exact List.take_of_length_le (by simp [l1])
    have t2 : List.take 8 (List.drop 8 (a.map (Value.int .u8) ++ b.map (Value.int .u8))) = b.map (Value.int .u8) := by
      rw [List.drop_append_of_le_length (by simp [l1]), List.drop_of_length_le (by simp [l1])]; exact List.take_of_length_le (by simp [l2])
    have t3 : List.take 8 (b.map (Value.int .u8)) = b.map (Value.int .u8) := List.take_of_length_le (by simp [l2])
    simp [Try.underlying116, entCells, digCells, l1, l2, t1, t2, t3, h1, h2]
  refine ⟨.string (keyBytes (a.map (Lit.int .u8) ++ b.map (Lit.int .u8))), ?_⟩
  unfold keyOf
  rw [Try.underlying116]
  simp only [entKey, hf, Bool.and_self, if_true, Value.cells, hc, hn, hk, Option.map_some]

/-- The book in block gb: which entries stand in it, in order. -/
structure Book (w : World) (gb B : Nat) (L : List Ent) (A : Option Addr) (c mb : Nat) (D : DataW Unit) : Prop where
  blk : w.heap[gb]? = some (.cells #[.slice A L.length c, .map (some mb)] 76 (0, 0))
  row : w.ownsRow B 116 16 (.slice A L.length c) L.length (L.flatMap fun e => (ecells e).toList)
  map : w.ownsMap Try.prog 116 (plainElem Try.prog 3) mb L.length D
  gbB : B ≤ gb
  mbB : B ≤ mb
  few : L.length ≤ 65536
  idx : ∀ e, DigE e → ∀ l, keyOf Try.prog 116 (ev e) = some l → Maps.has D l = decide (e ∈ L) ∧ (e ∈ L → D.atKey l (.lit (.int .i64 0)) = .lit (.int .i64 (L.idxOf e : Int)))

theorem zeroInt (w : World) : (zeroValue 3).run Try.prog w = .ok (.int .i64 0) w := by kernel_rfl
theorem Book.look {w : World} {gb B : Nat} {L : List Ent} {A : Option Addr} {c mb : Nat} {D : DataW Unit} (h : Book w gb B L A c mb D) (e : Ent) (he : DigE e) :
    ∃ i : Int, (Instr.lookup 73 (.map (some mb)) (ev e) true).run Try.prog w = .ok (.tuple #[.int .i64 i, .bool (decide (e ∈ L))]) w ∧ (e ∈ L → i = (L.idxOf e : Int)) := by
  obtain ⟨l, hl⟩ := ekey_lit he
  obtain ⟨h1, h2⟩ := h.idx e he l hl
  obtain ⟨v, ps, hrun, hv⟩ := h.map.look_ok entK Try.underlying73 (zeroInt w) (plainElem_int Try.underlying3 (a := 0) (by decide)) hl
  obtain ⟨a, rfl, ha, _⟩ := plainElem_int_inv Try.underlying3 hv
  refine ⟨a, by rw [← h1]; exact hrun, fun hm => ?_⟩
  rw [h2 hm] at ha
  injection ha with ha _
  injection ha with ha
  injection ha with _ ha
  exact ha.symm
theorem Book.drewN {w : World} {gb B : Nat} {L : List Ent} {A : Option Addr} {c mb : Nat} {D : DataW Unit} (h : Book w gb B L A c mb D) (m : Nat) : Book (w.drewN m) gb B L A c mb D := ⟨h.blk, h.row, h.map, h.gbB, h.mbB, h.few, h.idx⟩
end Go.Proofs.Ytpnegfocmaecbaa
