/- Contracts of package hash, over the model's own words for uint64. -/
import Derived.Test.YtpnegfocmaecbaaBase
import Derived.StillTailTactics
namespace Go.Proofs.Ytpnegfocmaecbaa
open Go.RowKit

theorem run_index_arr {P : Program} (w : World) (t e : TypeId) (len : Nat) (i : TypeInfo) (ht : P.underlying t = some (.array len e)) (hi : P.info? e = some i) (hs : i.size = 1) (ha : (isAgg e).run P w = .ok false w) (cs : Array Value) (k : Nat) (hk : k < len) (v : Value) (hv : cs[k]? = some v) :
    (Instr.index t (.agg cs) (.int .i64 (k : Int))).run P w = .ok v w := by
  simp [Instr.index, asIntOf, run_underlying ht, sizeOf, typeInfo, hi, hs, hk, part, ha, hv]

theorem and63 (k : Nat) (h : k < 64) : bits .and .u64 (k : Int) 63 = k := by
  have := u64_and_nat k 63 (by omega) (by omega)
  rw [nat_mask6, Nat.mod_eq_of_lt h] at this
  exact this
def rotI (x : Int) (k : Nat) : Int := bits .or .u64 (IntKind.u64.wrap (x * 2 ^ k)) (x / 2 ^ (64 - k))
theorem rot51 (x : Int) (k : Nat) (K : Int) (hK : K = (k : Int)) (h1 : 1 ≤ k) (h2 : k ≤ 63) (w : World) : Calls Try.prog 51 #[.int .u64 x, .int .i64 K] w fun e w' => e = .returned (.int .u64 (rotI x k)) ∧ w = w' := by
  subst hK
  have ha := and63 k (by omega)
  have h3 : (0 : Int) ≤ 64 - (k : Int) := by omega
  have h4 : (64 : Int) - (k : Int) ≤ 64 := by omega
  have h5 : ((64 : Int) - (k : Int)).toNat = 64 - k := by omega
  go_enter Try.func51, Try.ntmps51
  go_wp2_with fail
  go_ret
  exact ⟨rfl, rfl⟩

theorem rot32 (x : Int) (w : World) : Calls Try.prog 51 #[.int .u64 x, .int .i64 32] w fun e w' => e = .returned (.int .u64 (rotI x 32)) ∧ w = w' := rot51 x 32 32 rfl (by omega) (by omega) w
theorem rot24 (x : Int) (w : World) : Calls Try.prog 51 #[.int .u64 x, .int .i64 24] w fun e w' => e = .returned (.int .u64 (rotI x 24)) ∧ w = w' := rot51 x 24 24 rfl (by omega) (by omega) w
theorem rot16 (x : Int) (w : World) : Calls Try.prog 51 #[.int .u64 x, .int .i64 16] w fun e w' => e = .returned (.int .u64 (rotI x 16)) ∧ w = w' := rot51 x 16 16 rfl (by omega) (by omega) w
theorem rot63 (x : Int) (w : World) : Calls Try.prog 51 #[.int .u64 x, .int .i64 63] w fun e w' => e = .returned (.int .u64 (rotI x 63)) ∧ w = w' := rot51 x 63 63 rfl (by omega) (by omega) w

/-- A digest's value: eight bytes. -/
def dcells (ds : List Int) : Array Value := (ds.map (Value.int .u8)).toArray
abbrev dv (ds : List Int) : Value := .agg (dcells ds)
def Dig (ds : List Int) : Prop := ds.length = 8 ∧ ∀ d ∈ ds, 0 ≤ d ∧ d ≤ 255

def numTo (ds : List Int) : Nat → Int
  | 0 => 0
  | k + 1 => bits .or .u64 (numTo ds k) (IntKind.u64.wrap (ds.getD k 0 * 2 ^ (8 * k)))
def numI (ds : List Int) : Int := numTo ds 8

theorem dig8 {ds : List Int} (h : ds.length = 8) : ∃ d0 d1 d2 d3 d4 d5 d6 d7, ds = [d0, d1, d2, d3, d4, d5, d6, d7] := by
  match ds, h with
  | [d0, d1, d2, d3, d4, d5, d6, d7], _ => exact ⟨d0, d1, d2, d3, d4, d5, d6, d7, rfl⟩

set_option maxRecDepth 100000 in
theorem num49 (ds : List Int) (w : World) (h : Dig ds) : Calls Try.prog 49 #[dv ds] w fun e w' => e = .returned (.int .u64 (numI ds)) ∧ Below w.heap.size w w' := by
  obtain ⟨hl, hb⟩ := h
  obtain ⟨r, hr⟩ : ∃ r, numI ds = r := ⟨_, rfl⟩
  rw [hr]
  have HR : Hid (numTo ds 8 = r) := hr
  obtain ⟨d0, d1, d2, d3, d4, d5, d6, d7, hds⟩ := dig8 hl
  obtain ⟨iu, hiu, _, hs1, _⟩ := info_parts (P := Try.prog) (e := 5) (z := .int .u8 0) (size := 1) (bytes := 1) (by kernel_rfl)
  have hidx : ∀ (k : Nat) (d : Int), k < 8 → ds[k]? = some d → ∀ W, (Instr.index 30 (.agg #[.int .u8 d0, .int .u8 d1, .int .u8 d2, .int .u8 d3, .int .u8 d4, .int .u8 d5, .int .u8 d6, .int .u8 d7]) (.int .i64 (k : Int))).run Try.prog W = .ok (.int .u8 d) W := fun k d hk hd W =>
    run_index_arr W 30 5 8 iu Try.underlying30 hiu hs1 (by kernel_rfl) _ k hk _ (by
      have : (dcells ds)[k]? = some (.int .u8 d) := by simp [dcells, hd]
      rw [hds] at this
      exact this)
  have HI := Lib.hid hidx
  have HB := Lib.hid hb
  have HL := Lib.hid hl
  have hv : dv ds = .agg #[.int .u8 d0, .int .u8 d1, .int .u8 d2, .int .u8 d3, .int .u8 d4, .int .u8 d5, .int .u8 d6, .int .u8 d7] := by rw [hds]; rfl
  rw [hv]
  clear hl hb hidx hr hds hv
  go_enter Try.func49, Try.ntmps49
  go_wp2_with fail
  go_loop [3, 7] (fun n i => ∃ k : Nat, k ≤ 8 ∧ i = .int .i64 k ∧ n = .int .u64 (numTo ds k)) (fun _ i => 8 - (intOf i).toNat)
  case atStart => exact ⟨0, by omega, rfl, rfl⟩
  case round =>
    obtain ⟨k, hk, rfl, rfl⟩ := hrel
    by_cases hlt : k < 8
    · obtain ⟨d, hd⟩ : ∃ d, ds[k]? = some d := ⟨_, List.getElem?_eq_getElem (by rw [HL.out]; exact hlt)⟩
      have hi := HI.out k d hlt hd
      obtain ⟨b1, b2⟩ := HB.out d (List.mem_of_getElem? hd)
      have HD : Hid (ds.getD k 0 = d) := by show _ = _; rw [List.getD_eq_getElem?_getD, hd]; rfl
      have HN : Hid (numTo ds (k + 1) = bits .or .u64 (numTo ds k) (IntKind.u64.wrap (d * 2 ^ (8 * k)))) := by show _ = _; rw [numTo, HD.out]
      clear hd
      go_wp2_with fail
      go_round
      case rel => exact ⟨k + 1, by omega, by go_num, by rw [HN.out]⟩
      case measure => simp [intOf]; omega
    · obtain rfl : k = 8 := by omega
      go_wp2_with fail
      go_ret
      exact ⟨by rw [← HR.out]; rfl, (Below.refl _ _).alloc (Nat.le_refl _) _⟩

def fromI (n : Int) : List Int := [n % 256, n / 256 % 256, n / 65536 % 256, n / 16777216 % 256, n / 4294967296 % 256, n / 1099511627776 % 256, n / 281474976710656 % 256, n / 72057594037927936 % 256]
theorem fromI_dig (n : Int) : Dig (fromI n) := by
  refine ⟨rfl, fun d hd => ?_⟩
  simp only [fromI, List.mem_cons, List.not_mem_nil, or_false] at hd
  omega

set_option maxRecDepth 100000 in
theorem from45 (n : Int) (w : World) : Calls Try.prog 45 #[.int .u64 n] w fun e w' => e = .returned (dv (fromI n)) ∧ Below w.heap.size w w' := by
  go_enter Try.func45, Try.ntmps45
  go_wp2_with fail
  refine wp_loop_rounds 9 ?_
  iterate 9 (rw [rounds_succ]; go_wp2_with fail)
  exact bodyPost_ret (v := dv (fromI n)) (by simp [results, Try.results45, go_sem, dv, dcells, fromI]) rfl ⟨rfl, ((Below.refl _ _).alloc (Nat.le_refl _) _).alloc (by simp) _⟩

/-- Block g holds just these cells; no other old block has turned. -/
structure Turned (w : World) (g : Nat) (t : TypeId) (cs : Array Value) (w' : World) : Prop where
  block : w'.heap[g]? = some (.cells cs t (0, 0))
  only : w.grownBy w' (some g)

theorem blk_lt {w : World} {g : Nat} {o : Obj} (h : w.heap[g]? = some o) : g < w.heap.size := by
  rcases Nat.lt_or_ge g w.heap.size with hlt | hge
  · exact hlt
  · rw [Array.getElem?_eq_none hge] at h; cases h
theorem blk_cell {w : World} {g : Nat} {t : TypeId} {cs : Array Value} (h : w.heap[g]? = some (.cells cs t (0, 0))) (i : Nat) : w.cell? ⟨g, i, none⟩ = cs[i]? := cell_of_row w g i cs t (0, 0) h
theorem blk_frozen {w : World} {g : Nat} {t : TypeId} {cs : Array Value} (h : w.heap[g]? = some (.cells cs t (0, 0))) (i : Nat) : w.frozen? ⟨g, i, none⟩ = false := frozen_of_row w g i cs t h
theorem blk_set {w : World} {g : Nat} {t : TypeId} {cs : Array Value} (h : w.heap[g]? = some (.cells cs t (0, 0))) (i : Nat) (u : Value) : (w.setCell ⟨g, i, none⟩ u).heap[g]? = some (.cells (cs.setIfInBounds i u) t (0, 0)) := heap_setCell_same w g i cs t u h
theorem only_setCell {a w : World} {g : Nat} (h : a.grownBy w (some g)) (i : Nat) (u : Value) : a.grownBy (w.setCell ⟨g, i, none⟩ u) (some g) :=
  ⟨h.os, h.tape, h.output, by simpa [World.setCell] using h.size, fun k hk hne => (Below.heap_setCell w ⟨g, i, none⟩ u k (fun e => hne (by rw [e]))).trans (h.block k hk hne)⟩
theorem only_drewN {a w : World} {row : Option Nat} (h : a.grownBy w row) (n : Nat) : a.grownBy (w.drewN n) row := ⟨h.os, h.tape, h.output, h.size, h.block⟩

abbrev St := Int × Int × Int × Int
def stirOne (i : Int) (s : St) : St :=
  let (w0, w1, w2, w3) := s
  let w0 := bits .xor .u64 (IntKind.u64.wrap (w0 + w1)) (i + 1)
  let w3 := rotI (bits .xor .u64 w3 w0) 32
  let w2 := IntKind.u64.wrap (w2 + w3)
  let w1 := rotI (bits .xor .u64 w1 w2) 24
  let w0 := IntKind.u64.wrap (w0 + w1)
  let w3 := rotI (bits .xor .u64 w3 w0) 16
  let w2 := IntKind.u64.wrap (w2 + w3)
  let w1 := rotI (bits .xor .u64 w1 w2) 63
  (w0, w1, w2, w3)
def stirTo (s : St) : Nat → St
  | 0 => s
  | k + 1 => stirOne k (stirTo s k)
def stirI (s : St) : St := stirTo s 6
def stCells (s : St) : Array Value := #[.int .u64 s.1, .int .u64 s.2.1, .int .u64 s.2.2.1, .int .u64 s.2.2.2]

set_option maxRecDepth 100000 in
theorem stir50 (s : St) (g : Nat) (w : World) (hg : w.heap[g]? = some (.cells (stCells s) 85 (0, 0))) :
    Calls Try.prog 50 #[.pointer (some ⟨g, 0, none⟩)] w fun e w' => e = .returned (.tuple #[]) ∧ Turned w g 85 (stCells (stirI s)) w' := by
  have c0 : w.cell? ⟨g, 0, none⟩ = some (.int .u64 s.1) := blk_cell hg 0
  have c1 : w.cell? ⟨g, 1, none⟩ = some (.int .u64 s.2.1) := blk_cell hg 1
  have c2 : w.cell? ⟨g, 2, none⟩ = some (.int .u64 s.2.2.1) := blk_cell hg 2
  have c3 : w.cell? ⟨g, 3, none⟩ = some (.int .u64 s.2.2.2) := blk_cell hg 3
  have HG := Lib.hid hg
  clear hg
  go_enter Try.func50, Try.ntmps50
  go_wp2_with fail
  go_quiet (fail)
  go_wp2_with fail
  go_loop [2, 3, 4, 5, 23] (fun a b c d i => ∃ k : Nat, k ≤ 6 ∧ i = .int .u64 k ∧ a = .int .u64 (stirTo s k).1 ∧ b = .int .u64 (stirTo s k).2.1 ∧ c = .int .u64 (stirTo s k).2.2.1 ∧ d = .int .u64 (stirTo s k).2.2.2) (fun _ _ _ _ i => 6 - (intOf i).toNat)
  case atStart => exact ⟨0, by omega, rfl, rfl, rfl, rfl, rfl⟩
  case round =>
    obtain ⟨k, hk, rfl, rfl, rfl, rfl, rfl⟩ := hrel
    by_cases hlt : k < 6
    · have HS : Hid (stirTo s (k + 1) = stirOne k (stirTo s k)) := rfl
      generalize stirTo s k = t at *
      obtain ⟨t0, t1, t2, t3⟩ := t
      go_wp2_with (go_at_call 51; (first | (with_reducible refine (rot32 _ _).mono ?_) | (with_reducible refine (rot24 _ _).mono ?_) | (with_reducible refine (rot16 _ _).mono ?_) | (with_reducible refine (rot63 _ _).mono ?_)); rintro e w' ⟨rfl, rfl⟩)
      go_round
      case rel => exact ⟨k + 1, by omega, by go_num, by rw [HS.out]; rfl, by rw [HS.out]; rfl, by rw [HS.out]; rfl, by rw [HS.out]; rfl⟩
      case measure => simp [intOf]; omega
    · obtain rfl : k = 6 := by omega
      have f0 : (w.drewN nq).frozen? ⟨g, 0, none⟩ = false := blk_frozen HG.out 0
      have f1 : (w.drewN nq).frozen? ⟨g, 1, none⟩ = false := blk_frozen HG.out 1
      have f2 : (w.drewN nq).frozen? ⟨g, 2, none⟩ = false := blk_frozen HG.out 2
      have f3 : (w.drewN nq).frozen? ⟨g, 3, none⟩ = false := blk_frozen HG.out 3
      have HS : Hid (stirTo s 6 = stirI s) := rfl
      generalize stirTo s 6 = t at *
      obtain ⟨t0, t1, t2, t3⟩ := t
      go_wp2_with fail
      go_end0
      refine ⟨rfl, ⟨?_, only_setCell (only_setCell (only_setCell (only_setCell (only_drewN (World.grownBy.refl w _) _) _ _) _ _) _ _) _ _⟩⟩
      rw [blk_set (blk_set (blk_set (blk_set (w := w.drewN nq) (cs := stCells s) HG.out 0 _) 1 _) 2 _) 3 _, ← HS.out]
      rfl

def takeI (s : St) (n : Int) : St := stirI (bits .xor .u64 s.1 n, s.2.1, s.2.2.1, s.2.2.2)

theorem Turned.trans {w w1 w2 : World} {g : Nat} {t : TypeId} {cs cs' : Array Value} (h : Turned w g t cs w1) (h' : Turned w1 g t cs' w2) : Turned w g t cs' w2 :=
  ⟨h'.block, h.only.trans h'.only⟩
theorem only_below {a w : World} (h : Below a.heap.size a w) (row : Option Nat) : a.grownBy w row := ⟨h.os, h.tape, h.output, h.size, fun i hi _ => h.block i hi⟩

set_option maxRecDepth 100000 in
theorem take48 (s : St) (n : Int) (g : Nat) (w : World) (hg : w.heap[g]? = some (.cells (stCells s) 85 (0, 0))) :
    Calls Try.prog 48 #[.pointer (some ⟨g, 0, none⟩), .int .u64 n] w fun e w' => e = .returned (.tuple #[]) ∧ Turned w g 85 (stCells (takeI s n)) w' := by
  have c0 : w.cell? ⟨g, 0, none⟩ = some (.int .u64 s.1) := blk_cell hg 0
  have f0 : w.frozen? ⟨g, 0, none⟩ = false := blk_frozen hg 0
  have hs : (w.setCell ⟨g, 0, none⟩ (.int .u64 (bits .xor .u64 s.1 n))).drew.heap[g]? = some (.cells (stCells (bits .xor .u64 s.1 n, s.2.1, s.2.2.1, s.2.2.2)) 85 (0, 0)) := blk_set hg 0 _
  have hc := stir50 _ g _ hs
  have HC := Lib.hid hc
  have HO : Hid (w.grownBy (w.setCell ⟨g, 0, none⟩ (.int .u64 (bits .xor .u64 s.1 n))).drew (some g)) := only_drewN (only_setCell (World.grownBy.refl w _) _ _) 1
  clear hc hs hg
  go_enter Try.func48, Try.ntmps48
  go_wp2_with fail
  go_region
  go_wp2_with (go_at_call 50; refine HC.out.mono ?_; rintro e w' ⟨rfl, ht⟩)
  go_end0
  exact ⟨rfl, ht.block, HO.out.trans ht.only⟩

theorem begin35 (k : Int) (w : World) : Calls Try.prog 35 #[.int .u64 k] w fun e w' => e = .returned (.agg (stCells (2611923443488327891, 1376283091369227076, 11820040416388919760, k))) ∧ Below w.heap.size w w' := by
  go_enter Try.func35, Try.ntmps35
  go_wp2_with fail
  exact bodyPost_ret (v := .agg (stCells (2611923443488327891, 1376283091369227076, 11820040416388919760, k))) (by simp [results, Try.results35, go_sem, stCells]) rfl ⟨rfl, (Below.refl _ _).alloc (Nat.le_refl _) _⟩

theorem dv_from (n : Int) : dv (fromI n) = .agg #[.int .u8 (n % 256), .int .u8 (n / 256 % 256), .int .u8 (n / 65536 % 256), .int .u8 (n / 16777216 % 256), .int .u8 (n / 4294967296 % 256), .int .u8 (n / 1099511627776 % 256), .int .u8 (n / 281474976710656 % 256), .int .u8 (n / 72057594037927936 % 256)] := rfl
def zero8 : Array Value := #[.int .u8 0, .int .u8 0, .int .u8 0, .int .u8 0, .int .u8 0, .int .u8 0, .int .u8 0, .int .u8 0]
theorem cells8 {w : World} {g : Nat} {t : TypeId} (h : w.heap[g]? = some (.cells zero8 t (0, 0))) :
    (w.cell? ⟨g, 0, none⟩ = some (.int .u8 0) ∧ w.cell? ⟨g, 1, none⟩ = some (.int .u8 0) ∧ w.cell? ⟨g, 2, none⟩ = some (.int .u8 0) ∧ w.cell? ⟨g, 3, none⟩ = some (.int .u8 0) ∧ w.cell? ⟨g, 4, none⟩ = some (.int .u8 0) ∧ w.cell? ⟨g, 5, none⟩ = some (.int .u8 0) ∧ w.cell? ⟨g, 6, none⟩ = some (.int .u8 0) ∧ w.cell? ⟨g, 7, none⟩ = some (.int .u8 0)) ∧
    w.frozen? ⟨g, 0, none⟩ = false ∧ w.frozen? ⟨g, 1, none⟩ = false ∧ w.frozen? ⟨g, 2, none⟩ = false ∧ w.frozen? ⟨g, 3, none⟩ = false ∧ w.frozen? ⟨g, 4, none⟩ = false ∧ w.frozen? ⟨g, 5, none⟩ = false ∧ w.frozen? ⟨g, 6, none⟩ = false ∧ w.frozen? ⟨g, 7, none⟩ = false :=
  ⟨⟨blk_cell h 0, blk_cell h 1, blk_cell h 2, blk_cell h 3, blk_cell h 4, blk_cell h 5, blk_cell h 6, blk_cell h 7⟩, blk_frozen h 0, blk_frozen h 1, blk_frozen h 2, blk_frozen h 3, blk_frozen h 4, blk_frozen h 5, blk_frozen h 6, blk_frozen h 7⟩
theorem blk_below {w w' : World} {g B : Nat} {o : Obj} (h : w.heap[g]? = some o) (hb : Below B w w') (hg : g < B) : w'.heap[g]? = some o := (hb.block g hg).trans h
theorem below_set8 {w w' : World} {B g : Nat} (h : Below B w w') (hg : B ≤ g) (v0 v1 v2 v3 v4 v5 v6 v7 : Value) :
    Below B w ((((((((w'.setCell ⟨g, 0, none⟩ v0).setCell ⟨g, 1, none⟩ v1).setCell ⟨g, 2, none⟩ v2).setCell ⟨g, 3, none⟩ v3).setCell ⟨g, 4, none⟩ v4).setCell ⟨g, 5, none⟩ v5).setCell ⟨g, 6, none⟩ v6).setCell ⟨g, 7, none⟩ v7) :=
  (((((((h.setCell hg v0).setCell hg v1).setCell hg v2).setCell hg v3).setCell hg v4).setCell hg v5).setCell hg v6).setCell hg v7

def givesI (s : St) : List Int := fromI (bits .xor .u64 s.1 s.2.2.1)
set_option maxRecDepth 100000 in
theorem gives37 (s : St) (g : Nat) (w : World) (hg : w.heap[g]? = some (.cells (stCells s) 85 (0, 0))) :
    Calls Try.prog 37 #[.pointer (some ⟨g, 0, none⟩)] w fun e w' => e = .returned (dv (givesI s)) ∧ Below w.heap.size w w' := by
  have hlt := blk_lt hg
  have c0 : w.cell? ⟨g, 0, none⟩ = some (.int .u64 s.1) := blk_cell hg 0
  have c2 : w.cell? ⟨g, 2, none⟩ = some (.int .u64 s.2.2.1) := blk_cell hg 2
  have HG := Lib.hid hg
  clear hg
  go_enter Try.func37, Try.ntmps37
  go_wp2_with fail
  have c0' : (w.alloc (.cells #[.int .u8 0, .int .u8 0, .int .u8 0, .int .u8 0, .int .u8 0, .int .u8 0, .int .u8 0, .int .u8 0] 30)).cell? ⟨g, 0, none⟩ = some (.int .u64 s.1) := (World.cell?_alloc_lt w _ ⟨g, 0, none⟩ hlt).trans c0
  have c2' : (w.alloc (.cells #[.int .u8 0, .int .u8 0, .int .u8 0, .int .u8 0, .int .u8 0, .int .u8 0, .int .u8 0, .int .u8 0] 30)).cell? ⟨g, 2, none⟩ = some (.int .u64 s.2.2.1) := (World.cell?_alloc_lt w _ ⟨g, 2, none⟩ hlt).trans c2
  clear c0 c2
  obtain ⟨W0, hW0⟩ : ∃ W0, w.alloc (.cells #[.int .u8 0, .int .u8 0, .int .u8 0, .int .u8 0, .int .u8 0, .int .u8 0, .int .u8 0, .int .u8 0] 30) = W0 := ⟨_, rfl⟩
  rw [hW0] at c0' c2' ⊢
  have HW0 := Lib.hid hW0
  clear hW0
  go_still_tail 9, (by kernel_rfl)
  change wpList _ _ _ _ _ W0.drew
  have hb0 : Below w.heap.size w W0.drew := by rw [← HW0.out]; exact ((Below.refl _ _).alloc (Nat.le_refl _) _).drew
  have hz : W0.drew.heap[w.heap.size]? = some (.cells zero8 30 (0, 0)) := by rw [← HW0.out]; exact heap_alloc_new w _
  have hzl := blk_lt hz
  have HZ := Lib.hid hz
  have HB0 := Lib.hid hb0
  clear hz hb0 c0' c2'
  go_wp2_with fail
  refine (from45 _ _).mono ?_
  rintro e w1 ⟨rfl, hb1⟩
  obtain ⟨⟨z0, z1, z2, z3, z4, z5, z6, z7⟩, f0, f1, f2, f3, f4, f5, f6, f7⟩ := cells8 (blk_below HZ.out hb1 hzl)
  have HB1 := Lib.hid hb1
  rw [dv_from]
  clear hb1
  go_wp2_with fail
  refine bodyPost_ret (v := dv (givesI s)) ?_ rfl ⟨rfl, below_set8 (below_trans HB0.out HB1.out (Nat.le_of_lt hzl)) (Nat.le_refl _) _ _ _ _ _ _ _ _⟩
  simp [results, Try.results37, go_sem, givesI, dv_from, z0, z1, z2, z3, z4, z5, z6, z7]
end Go.Proofs.Ytpnegfocmaecbaa
