/- Contracts: the closure of Forfeit, weights. -/
import Derived.Test.YtpnegfocmaecbaaB
namespace Go.Proofs.Ytpnegfocmaecbaa
open Go.RowKit

/-- Does a seat have a part: is it another one that isn't gone? -/
def ow (seat : Int) (gone : List Bool) (i : Nat) : Bool := (((i : Int) != seat) && !(gone.getD i false))

theorem has18 (i : Nat) (seat : Int) (a1 a2 : Addr) (B : Option Addr) (m d : Nat) (gone : List Bool) (w : World) (hi : i < m) (hb : Sl Value.bool w B m gone)
    (h1 : w.cell? a1 = some (.int .i64 seat)) (h2 : w.cell? a2 = some (.slice B m d)) :
    Calls Try.prog 29 #[.int .i64 i, .pointer (some a1), .pointer (some a2)] w fun e w' => e = .returned (.bool (ow seat gone i)) ∧ w = w' := by
  have hm := hb.max
  obtain ⟨b, off, v, rfl, _, hck, hv⟩ := hb.get hi
  have HV : Hid (gone.getD i false = v) := by show _ = _; rw [List.getD_eq_getElem?_getD, hv.out]; rfl
  by_cases he : (i : Int) = seat
  · subst he
    have he' : ((i : Int) != (i : Int)) = false := by simp
    have HE : Hid (ow i gone i = false) := by show _ = _; simp [ow]
    clear hb
    go_enter Try.func29, Try.ntmps29
    go_wp2_with fail
    go_ret
    exact ⟨by rw [HE.out]; rfl, rfl⟩
  · have he' : ((i : Int) != seat) = true := by simpa using he
    have HE : Hid (ow seat gone i = !v) := by show _ = _; rw [ow, HV.out, he']; simp
    clear hb
    go_enter Try.func29, Try.ntmps29
    go_wp2_with fail
    go_ret
    exact ⟨by rw [HE.out]; rfl, rfl⟩

def wts (seat : Int) (gone : List Bool) (n : Nat) : List Int := (List.range n).map fun i => if ow seat gone i = true then 1 else 0
def someOw (seat : Int) (gone : List Bool) (n : Nat) : Bool := (List.range n).any (ow seat gone)

theorem info3 : (Try.prog.info? 3).map (fun i => (i.zero, i.size, i.bytes)) = some (some (.int .i64 0), 1, 8) := by kernel_rfl

def wtsTo (seat : Int) (gone : List Bool) (n k : Nat) : List Int := (List.range n).map fun i => if i < k ∧ ow seat gone i = true then 1 else 0

theorem wtsTo_zero (seat : Int) (gone : List Bool) (n : Nat) : wtsTo seat gone n 0 = List.replicate n 0 := by
  simp [wtsTo, List.map_const']
theorem wtsTo_full (seat : Int) (gone : List Bool) (n : Nat) : wtsTo seat gone n n = wts seat gone n := by
  unfold wtsTo wts
  refine List.map_congr_left fun i hi => ?_
  have : i < n := by simpa using hi
  simp [this]
theorem wtsTo_no (seat : Int) (gone : List Bool) (n k : Nat) (h : ow seat gone k = false) : wtsTo seat gone n (k + 1) = wtsTo seat gone n k := by
  unfold wtsTo
  refine List.map_congr_left fun i _ => ?_
  by_cases hi : i = k
  · subst hi; simp [h]
  · have : i < k + 1 ↔ i < k := by omega
    simp [this]
theorem wtsTo_yes (seat : Int) (gone : List Bool) (n k : Nat) (h : ow seat gone k = true) : wtsTo seat gone n (k + 1) = (wtsTo seat gone n k).set k 1 := by
  unfold wtsTo
  apply List.ext_getElem
  · simp
  · intro i h1 h2
    simp only [List.length_map, List.length_range] at h1
    by_cases hi : i = k
    · subst hi; simp [h]
    · have : i < k + 1 ↔ i < k := by omega
      simp [List.getElem_set, this, show ¬ k = i by omega]
theorem any_range_succ (p : Nat → Bool) (k : Nat) : (List.range (k + 1)).any p = ((List.range k).any p || p k) := by
  simp [List.range_succ]

theorem weights17 (n : Nat) (seat : Int) (a1 a2 : Addr) (B : Option Addr) (d : Nat) (gone : List Bool) (w : World) (hn : n ≤ 8) (hb : Sl Value.bool w B n gone)
    (h1 : w.cell? a1 = some (.int .i64 seat)) (h2 : w.cell? a2 = some (.slice B n d)) (l1 : a1.block < w.heap.size) (l2 : a2.block < w.heap.size) :
    Calls Try.prog 28 #[.int .i64 n, .func (.func 29) #[] #[.pointer (some a1), .pointer (some a2)]] w fun e w' =>
      ∃ g, e = .returned (.tuple #[.slice (some ⟨g, 0, none⟩) n n, .bool (someOw seat gone n)]) ∧ w'.ownsRow w.heap.size 3 1 (.slice (some ⟨g, 0, none⟩) n n) n ((wts seat gone n).map (Value.int .i64)) ∧ Below w.heap.size w w' := by
  obtain ⟨i0, hi, hz0, hz1, hz2⟩ := info_parts info3
  go_enter Try.func28, Try.ntmps28
  go_wp2_with fail
  go_step3
  go_wp2_with (at_make; refine wpList_make_full _ rfl _ _ 22 rfl w.heap.size 3 i0 (.int .i64 0) 1 Try.underlying22 hi hz0 hz1 .i64 .i64 n n n rfl rfl rfl rfl (by rw [hz2]; omega) (by unfold maxLen; omega) (Nat.le_refl _) ?_; intro w1 hown hgrow)
  go_step3
  go_wp2_with fail
  have hm0 : (madeCells (Value.int .i64 0).cells (n * 1)).toList = (wtsTo seat gone n 0).map (Value.int .i64) := by
    rw [wtsTo_zero, Nat.mul_one]
    exact (toList_madeCells_one _ _).trans (by simp)
  rw [hm0] at hown
  clear hm0
  have hbel : Below w.heap.size w w1 := (Below.refl _ _).grown hgrow (Nat.le_refl _) (fun k hk => by cases hk)
  have HF : Hid (∀ wr, Below w.heap.size w wr → Sl Value.bool wr B n gone ∧ wr.cell? a1 = some (.int .i64 seat) ∧ wr.cell? a2 = some (.slice B n d)) := fun wr hb1 => ⟨hb.below hb1, (hb1.cell l1).trans h1, (hb1.cell l2).trans h2⟩
  clear hb h1 h2 hgrow
  go_loopw [7, 13] (fun s i wr => ∃ (k : Nat), k ≤ n ∧ i = .int .i64 k ∧ s = .bool ((List.range k).any (ow seat gone)) ∧ wr.ownsRow w.heap.size 3 1 (.slice (some ⟨w.heap.size, 0, none⟩) n n) n ((wtsTo seat gone n k).map (Value.int .i64)) ∧ Below w.heap.size w wr) (fun _ i _ => n - (intOf i).toNat)
  case atStart => exact ⟨0, Nat.zero_le _, rfl, rfl, hown, hbel⟩
  case round =>
    clear hown hbel
    obtain ⟨k, hk, rfl, rfl, hown, hbel⟩ := hrel
    by_cases hlt : k < n
    · obtain ⟨fb, f1, f2⟩ := HF.out wr hbel
      have hcell : wr.cell? ⟨w.heap.size, k, none⟩ = ((wtsTo seat gone n k).map (Value.int .i64))[k]? := hown.cellAt k (by omega)
      obtain ⟨v0, hv0⟩ : ∃ v0, ((wtsTo seat gone n k).map (Value.int .i64))[k]? = some v0 := ⟨_, List.getElem?_eq_getElem (by simp [wtsTo]; omega)⟩
      rw [hv0] at hcell
      have hfro := hown.frozenAt k
      clear hv0
      generalize hany : (List.range k).any (ow seat gone) = any0
      have HANY := Lib.hid hany
      clear hany
      rcases how : ow seat gone k with _ | _
      · have HO := Lib.hid how
        have HN : Hid (wtsTo seat gone n (k + 1) = wtsTo seat gone n k) := wtsTo_no _ _ _ _ how
        have HOWN := Lib.hid hown
        have HC := has18 k seat a1 a2 B n d gone wr hlt fb f1 f2
        rw [how] at HC
        have HC' := Lib.hid HC
        clear HC how hown fb f1 f2
        go_wp2_with (go_at_call 29; refine HC'.out.mono ?_; rintro e w' ⟨rfl, rfl⟩)
        go_roundw
        case rel => exact ⟨k + 1, by omega, by go_num, by rw [any_range_succ, HANY.out, HO.out]; simp, by rw [HN.out]; exact HOWN.out, hbel⟩
        case measure => simp [intOf]; omega
      · have HO := Lib.hid how
        have HN : Hid (wtsTo seat gone n (k + 1) = (wtsTo seat gone n k).set k 1) := wtsTo_yes _ _ _ _ how
        have HOWN := Lib.hid hown
        have HC := has18 k seat a1 a2 B n d gone wr hlt fb f1 f2
        rw [how] at HC
        have HC' := Lib.hid HC
        clear HC how hown fb f1 f2
        go_wp2_with (go_at_call 29; refine HC'.out.mono ?_; rintro e w' ⟨rfl, rfl⟩)
        go_roundw
        case rel => exact ⟨k + 1, by omega, by go_num, by rw [any_range_succ, HANY.out, HO.out]; simp, by rw [HN.out, List.map_set]; exact (HOWN.out.stored k _).1, hbel.setCell (Nat.le_refl _) _⟩
        case measure => simp [intOf]; omega
    · obtain rfl : k = n := by omega
      have HN : Hid (wtsTo seat gone k k = wts seat gone k) := wtsTo_full _ _ _
      have HOWN := Lib.hid hown
      clear hown
      go_wp2_with fail
      rw [Exit.noGoto_ret]
      go_ret2
      exact ⟨w.heap.size, rfl, by rw [← HN.out]; exact HOWN.out, hbel⟩
end Go.Proofs.Ytpnegfocmaecbaa
