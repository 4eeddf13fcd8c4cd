/- Contract: coin.Split, where it serves. -/
import Derived.Test.YtpnegfocmaecbaaC
namespace Go.Proofs.Ytpnegfocmaecbaa
open Go.RowKit
set_option maxRecDepth 100000

def giveOne : Int → List Int → List Int → List Int
  | left, w :: ws, p :: ps => if left = 0 then p :: ps else if w = 0 then p :: giveOne left ws ps else (p + 1) :: giveOne (left - 1) ws ps
  | _, _, ps => ps
def quos (total all : Int) (ws : List Int) : List Int := ws.map fun w => total * w / all
def splitS (total : Int) (ws : List Int) : List Int := giveOne (total - (quos total ws.sum ws).sum) ws (quos total ws.sum ws)

theorem giveOne_zero (ws ps : List Int) : giveOne 0 ws ps = ps := by
  cases ws <;> cases ps <;> simp [giveOne]
theorem quos_le (total all : Int) (ws : List Int) (ha : 0 < all) : (quos total all ws).sum * all ≤ total * ws.sum := by
  induction ws with
  | nil => simp [quos]
  | cons x l ih =>
    simp only [quos, List.map_cons, List.sum_cons] at ih ⊢
    have h1 : total * x / all * all ≤ total * x := Int.ediv_mul_le _ (by omega)
    rw [Int.add_mul, Int.mul_add]
    omega
theorem quos_nonneg (total all : Int) (ws : List Int) (ht : 0 ≤ total) (ha : 0 < all) (hw : ∀ x ∈ ws, 0 ≤ x) : 0 ≤ (quos total all ws).sum := by
  induction ws with
  | nil => simp [quos]
  | cons x l ih =>
    simp only [quos, List.map_cons, List.sum_cons] at ih ⊢
    have h1 : 0 ≤ total * x / all := Int.ediv_nonneg (Int.mul_nonneg ht (hw x (by simp))) (by omega)
    have := ih (fun y hy => hw y (by simp [hy]))
    omega
theorem sum_nonneg (ws : List Int) (hw : ∀ x ∈ ws, 0 ≤ x) : 0 ≤ ws.sum := by
  induction ws with
  | nil => simp
  | cons x l ih =>
    have := hw x (by simp)
    have := ih (fun y hy => hw y (by simp [hy]))
    simp only [List.sum_cons]; omega
theorem sum_take_le (ws : List Int) (k : Nat) (hw : ∀ x ∈ ws, 0 ≤ x) : (ws.take k).sum ≤ ws.sum := by
  have h : ws.sum = (ws.take k).sum + (ws.drop k).sum := by rw [← List.sum_append, List.take_append_drop]
  have := sum_nonneg (ws.drop k) (fun x hx => hw x (List.mem_of_mem_drop hx))
  omega
theorem quos_take (total : Int) (ws : List Int) (k : Nat) (ht : 0 ≤ total) (ha : 0 < ws.sum) (hw : ∀ x ∈ ws, 0 ≤ x) : (quos total ws.sum (ws.take k)).sum ≤ total := by
  have h1 := quos_le total ws.sum (ws.take k) ha
  have h2 : total * (ws.take k).sum ≤ total * ws.sum := Int.mul_le_mul_of_nonneg_left (sum_take_le ws k hw) ht
  exact Int.le_of_mul_le_mul_right (Int.le_trans h1 h2) ha
theorem sum_le_const (ws : List Int) (b : Int) (hw : ∀ x ∈ ws, x ≤ b) : ws.sum ≤ ws.length * b := by
  induction ws with
  | nil => simp
  | cons x l ih =>
    have h1 := hw x (by simp)
    have h2 := ih (fun y hy => hw y (by simp [hy]))
    simp only [List.sum_cons, List.length_cons]
    rw [Int.natCast_add, Int.add_mul]
    omega
theorem le_sum_of_mem (ws : List Int) (x : Int) (hx : x ∈ ws) (hw : ∀ x ∈ ws, 0 ≤ x) : x ≤ ws.sum := by
  induction ws with
  | nil => cases hx
  | cons y l ih =>
    have h0 := hw y (by simp)
    have h1 := sum_nonneg l (fun z hz => hw z (by simp [hz]))
    simp only [List.sum_cons]
    rcases List.mem_cons.1 hx with rfl | hx
    · omega
    · have := ih hx (fun z hz => hw z (by simp [hz])); omega

def quosTo (total all : Int) (ws : List Int) (n k : Nat) : List Int := quos total all (ws.take k) ++ List.replicate (n - k) 0
theorem quosTo_zero (total all : Int) (ws : List Int) (n : Nat) : quosTo total all ws n 0 = List.replicate n 0 := by simp [quosTo, quos]
theorem quosTo_length (total all : Int) (ws : List Int) (n k : Nat) (h : ws.length = n) (hk : k ≤ n) : (quosTo total all ws n k).length = n := by
  simp [quosTo, quos]; omega
theorem quosTo_full (total all : Int) (ws : List Int) (n : Nat) (h : ws.length = n) : quosTo total all ws n n = quos total all ws := by
  simp [quosTo, List.take_of_length_le (Nat.le_of_eq h)]
theorem set_snoc {α : Type} (l : List α) (n k : Nat) (z x : α) (hl : l.length = k) (hk : k < n) : (l ++ List.replicate (n - k) z).set k x = (l ++ [x]) ++ List.replicate (n - (k + 1)) z := by
  obtain ⟨m, hm⟩ : ∃ m, n - k = m + 1 := ⟨n - k - 1, by omega⟩
  have hm' : n - (k + 1) = m := by omega
  rw [hm, hm', List.replicate_succ, ← hl]
  simp
theorem quosTo_succ (total all : Int) (ws : List Int) (n k : Nat) (v : Int) (hv : ws[k]? = some v) (hl : ws.length = n) (hk : k < n) : quosTo total all ws n (k + 1) = (quosTo total all ws n k).set k (total * v / all) := by
  unfold quosTo
  rw [take_snoc hv, set_snoc _ n k 0 _ (by simp [quos]; omega) hk]
  simp [quos]

set_option maxHeartbeats 1000000 in
theorem split19 (total : Int) (A : Option Addr) (n c : Nat) (ws : List Int) (w : World) (hn1 : 1 ≤ n) (hn : n ≤ 8) (hr : rightB total = true) (h : Sl (Value.int .i64) w A n ws)
    (hw : ∀ x ∈ ws, 0 ≤ x ∧ x ≤ 1024) (hs : 0 < ws.sum) :
    Calls Try.prog 30 #[.int .i64 total, .slice A n c] w fun e w' =>
      ∃ g, e = .returned (.tuple #[.slice (some ⟨g, 0, none⟩) n n, .int .i64 0]) ∧ w'.ownsRow w.heap.size 3 1 (.slice (some ⟨g, 0, none⟩) n n) n ((splitS total ws).map (Value.int .i64)) ∧ Below w.heap.size w w' := by
  obtain ⟨i0, hi, hz0, hz1, hz2⟩ := info_parts info3
  have hr' := rightB_true.1 hr
  obtain ⟨t1, t2⟩ := hr'
  have HW := Lib.hid hw
  have hw0 : Hid (∀ x ∈ ws, 0 ≤ x) := fun x hx => (hw x hx).1
  have hsl : ws.sum ≤ 8192 := by
    have := sum_le_const ws 1024 (fun x hx => (hw x hx).2)
    rw [h.len] at this
    omega
  have hl := h.len
  have HL := Lib.hid hl
  have hn0 : ((n : Int) == 0) = false := by simp; omega
  have hs0 : (ws.sum == 0) = false := by simp; omega
  clear hw hl
  go_enter Try.func30, Try.ntmps30
  go_wp2_with fail
  go_step3
  go_wp2_with (go_at_call 26; refine (rightC _ _).mono ?_; rintro e w' ⟨rfl, rfl⟩)
  go_loop [6, 30] (fun s i => ∃ (k : Nat), k ≤ n ∧ i = .int .i64 k ∧ s = .int .i64 ((ws.take k).sum)) (fun _ i => n - (intOf i).toNat)
  case atStart => exact ⟨0, Nat.zero_le _, rfl, rfl⟩
  case round =>
    obtain ⟨k, hk, rfl, rfl⟩ := hrel
    have hb1 := sum_nonneg (ws.take k) (fun x hx => hw0.out x (List.mem_of_mem_take hx))
    have hb2 := sum_take_le ws k hw0.out
    by_cases hlt : k < n
    · obtain ⟨b, off, v, rfl, _, hck, hv⟩ := h.get hlt
      obtain ⟨v1, v2⟩ := HW.out v (List.mem_of_getElem? hv.out)
      have HR : Hid (ws.take (k + 1) = ws.take k ++ [v]) := take_snoc hv.out
      have HX := Lib.hid h
      have v1' : decide (v < 0) = false := by simpa using v1
      clear h
      go_wp2_with fail
      go_round
      case rel => exact ⟨k + 1, by omega, by go_num, by rw [HR.out]; simp⟩
      case measure => simp [intOf]; omega
    · obtain rfl : k = n := by omega
      have ht : ws.take k = ws := List.take_of_length_le (by rw [HL.out]; omega)
      rw [ht] at hb1 hb2 ⊢
      clear ht
      generalize hall : ws.sum = all at *
      have HALL := Lib.hid hall
      clear hall
      go_wp2_with (at_make; refine wpList_make_full _ rfl _ _ 22 rfl w.heap.size 3 i0 (.int .i64 0) 1 Try.underlying22 hi hz0 hz1 .i64 .i64 k k k rfl rfl rfl rfl (by rw [hz2]; omega) (by unfold maxLen; omega) (Nat.le_refl _) ?_; intro w1 hown hgrow)
      have hm0 : (madeCells (Value.int .i64 0).cells (k * 1)).toList = (quosTo total all ws k 0).map (Value.int .i64) := by
        rw [quosTo_zero, Nat.mul_one]
        exact (toList_madeCells_one _ _).trans (by simp)
      rw [hm0] at hown
      clear hm0
      have hbel : Below w.heap.size w w1 := (Below.refl _ _).grown hgrow (Nat.le_refl _) (fun k hk => by cases hk)
      clear hgrow
      go_loopw [10, 52] (fun s i wr => ∃ (j : Nat), j ≤ k ∧ i = .int .i64 j ∧ s = .int .i64 (total - (quos total all (ws.take j)).sum) ∧ wr.ownsRow w.heap.size 3 1 (.slice (some ⟨w.heap.size, 0, none⟩) k k) k ((quosTo total all ws k j).map (Value.int .i64)) ∧ Below w.heap.size w wr) (fun _ i _ => k - (intOf i).toNat)
      case atStart => exact ⟨0, Nat.zero_le _, rfl, by simp [quos], hown, hbel⟩
      case round =>
        clear hown hbel
        obtain ⟨j, hj, rfl, rfl, hown, hbel⟩ := hrel
        have q1 := quos_nonneg total all (ws.take j) t1 (by omega) (fun x hx => hw0.out x (List.mem_of_mem_take hx))
        have q2 : (quos total all (ws.take j)).sum ≤ total := by
          rw [← HALL.out]; exact quos_take total ws j t1 (by rw [HALL.out]; omega) hw0.out
        by_cases hlt : j < k
        · obtain ⟨b, off, v, rfl, hbs, hck, hv⟩ := h.get hlt
          obtain ⟨v1, v2⟩ := HW.out v (List.mem_of_getElem? hv.out)
          have HR : Hid (ws.take (j + 1) = ws.take j ++ [v]) := take_snoc hv.out
          have hck' : wr.cell? ⟨b, off + j, none⟩ = some (.int .i64 v) := (hbel.cell (p := ⟨b, off + j, none⟩) hbs).trans hck
          have hcell : wr.cell? ⟨w.heap.size, j, none⟩ = ((quosTo total all ws k j).map (Value.int .i64))[j]? := hown.cellAt j (by omega)
          obtain ⟨v0, hv0⟩ : ∃ v0, ((quosTo total all ws k j).map (Value.int .i64))[j]? = some v0 := ⟨_, List.getElem?_eq_getElem (by rw [List.length_map, quosTo_length _ _ _ _ _ HL.out (by omega)]; omega)⟩
          rw [hv0] at hcell
          have hfro := hown.frozenAt j
          have p0 : 0 ≤ total * v := Int.mul_nonneg t1 v1
          have p1 : total * v ≤ 1125899906842624 * 1024 := Int.mul_le_mul t2 v2 v1 (by omega)
          have p2 : 0 ≤ total * v / all := Int.ediv_nonneg p0 (by omega)
          have p3 : total * v / all ≤ total := by
            have : v ≤ all := by rw [← HALL.out]; exact le_sum_of_mem ws v (List.mem_of_getElem? hv.out) hw0.out
            have h2 : total * v ≤ total * all := Int.mul_le_mul_of_nonneg_left this t1
            exact Int.ediv_le_of_le_mul (by omega) h2
          have q3 : (quos total all (ws.take (j + 1))).sum = (quos total all (ws.take j)).sum + total * v / all := by rw [HR.out]; simp [quos]
          have Q3 := Lib.hid q3
          have HN : Hid (quosTo total all ws k (j + 1) = (quosTo total all ws k j).set j (total * v / all)) := quosTo_succ _ _ _ _ _ _ hv.out (by rw [HL.out]) hlt
          have HOWN := Lib.hid hown
          have HX := Lib.hid h
          generalize (quos total all (ws.take j)).sum = S at *
          clear h hck hv0 hown q3
          go_wp2_with fail
          go_roundw
          case rel => exact ⟨j + 1, by omega, by go_num, by rw [Q3.out]; go_num, by rw [HN.out, List.map_set]; exact (HOWN.out.stored j _).1, hbel.setCell (Nat.le_refl _) _⟩
          case measure => simp [intOf]; omega
        · obtain rfl : j = k := by omega
          have HT : Hid (ws.take j = ws) := List.take_of_length_le (by rw [HL.out]; omega)
          rw [HT.out] at q1 q2 ⊢
          go_wp2_with fail
          go_step3
          go_wp2_with fail
          rw [quosTo_full total all ws j HL.out] at hown
          have HG : Hid ((quos total all ws).take 0 ++ giveOne (total - (quos total all ws).sum) (ws.drop 0) ((quos total all ws).drop 0) = splitS total ws) := by
            show _ = _; simp [splitS, HALL.out]
          generalize hG : splitS total ws = G at HG
          have HGS := Lib.hid hG
          clear hG
          have hql : (quos total all ws).length = j := by simp [quos, HL.out]
          have HQ := Lib.hid hql
          clear hql
          have HB : Hid (∀ x ∈ (quos total all ws).drop 0, 0 ≤ x ∧ x ≤ total) := by
            intro x hx
            simp only [List.drop_zero, quos, List.mem_map] at hx
            obtain ⟨v, hv, rfl⟩ := hx
            have p0 : 0 ≤ total * v := Int.mul_nonneg t1 (hw0.out v hv)
            have : v ≤ all := by rw [← HALL.out]; exact le_sum_of_mem ws v hv hw0.out
            exact ⟨Int.ediv_nonneg p0 (by omega), Int.ediv_le_of_le_mul (by omega) (Int.mul_le_mul_of_nonneg_left this t1)⟩
          generalize quos total all ws = P0 at *
          have d0 : 0 ≤ total - P0.sum := by omega
          have d1 : total - P0.sum ≤ total := by omega
          clear q1 q2
          generalize total - P0.sum = L0 at *
          have HX := Lib.hid h
          clear h
          go_loopw [10, 74] (fun s i wr => ∃ (m : Nat) (l : Int) (ps : List Int), m ≤ j ∧ i = .int .i64 m ∧ s = .int .i64 l ∧ 0 ≤ l ∧ l ≤ total ∧ Hid (ps.length = j) ∧ Hid (∀ x ∈ ps.drop m, 0 ≤ x ∧ x ≤ total) ∧ Hid (ps.take m ++ giveOne l (ws.drop m) (ps.drop m) = G) ∧ wr.ownsRow w.heap.size 3 1 (.slice (some ⟨w.heap.size, 0, none⟩) j j) j (ps.map (Value.int .i64)) ∧ Below w.heap.size w wr) (fun _ i _ => j - (intOf i).toNat)
          case atStart => exact ⟨0, L0, P0, Nat.zero_le _, rfl, rfl, d0, d1, HQ, HB, HG, hown, hbel⟩
          case round =>
            clear hown hbel
            obtain ⟨m, l, ps, hm, rfl, rfl, l1, l2, hpl, hpb, hpg, hown, hbel⟩ := hrel
            by_cases hlt : m < j
            · obtain ⟨b, off, v, rfl, hbs, hck, hv⟩ := HX.out.get hlt
              obtain ⟨v1, v2⟩ := HW.out v (List.mem_of_getElem? hv.out)
              have HD : Hid (ws.drop m = v :: ws.drop (m + 1)) := drop_cons hv.out
              have hck' : wr.cell? ⟨b, off + m, none⟩ = some (.int .i64 v) := (hbel.cell (p := ⟨b, off + m, none⟩) hbs).trans hck
              obtain ⟨q, hq⟩ : ∃ q, ps[m]? = some q := ⟨_, List.getElem?_eq_getElem (by rw [hpl.out]; exact hlt)⟩
              have HE : Hid (ps.drop m = q :: ps.drop (m + 1)) := drop_cons hq
              have hcell : wr.cell? ⟨w.heap.size, m, none⟩ = some (.int .i64 q) := by
                rw [hown.cellAt m (by omega), List.getElem?_map, hq]; rfl
              have hfro := hown.frozenAt m
              obtain ⟨b1, b2⟩ := hpb.out q (by rw [HE.out]; simp)
              have HOWN := Lib.hid hown
              have HQ' := Lib.hid hq
              clear hck hown hq
              by_cases hl0 : l = 0
              · subst hl0
                have HF : Hid (ps = G) := by
                  have := hpg.out; rw [giveOne_zero, List.take_append_drop] at this; exact this
                go_wp2_with fail
                rw [Exit.noGoto_ret]
                go_ret2
                exact ⟨w.heap.size, rfl, by rw [HGS.out, ← HF.out]; exact HOWN.out, hbel⟩
              · have hl0' : (l == 0) = false := by simpa using hl0
                by_cases hv0 : v = 0
                · subst hv0
                  have HN : Hid (ps.take (m + 1) ++ giveOne l (ws.drop (m + 1)) (ps.drop (m + 1)) = G) := by
                    have := hpg.out
                    rw [HD.out, HE.out, giveOne, if_neg hl0, if_pos rfl] at this
                    rw [take_snoc HQ'.out]; simpa [Hid] using this
                  have HB' : Hid (∀ x ∈ ps.drop (m + 1), 0 ≤ x ∧ x ≤ total) := fun x hx => hpb.out x (by rw [HE.out]; simp [hx])
                  clear hl0
                  go_wp2_with fail
                  go_roundw
                  case rel => exact ⟨m + 1, l, ps, by omega, by go_num, rfl, l1, l2, hpl, HB', HN, HOWN.out, hbel⟩
                  case measure => simp [intOf]; omega
                · have hv0' : (v == 0) = false := by simpa using hv0
                  have HN : Hid ((ps.set m (q + 1)).take (m + 1) ++ giveOne (l - 1) (ws.drop (m + 1)) ((ps.set m (q + 1)).drop (m + 1)) = G) := by
                    have := hpg.out
                    rw [HD.out, HE.out, giveOne, if_neg hl0, if_neg hv0] at this
                    have e1 : (ps.set m (q + 1))[m]? = some (q + 1) := by simp [List.getElem?_set, hpl.out, hlt]
                    rw [take_snoc e1, List.drop_set_of_lt (by omega), List.take_set_of_le (by omega)]
                    simpa [Hid] using this
                  have HB' : Hid (∀ x ∈ (ps.set m (q + 1)).drop (m + 1), 0 ≤ x ∧ x ≤ total) := fun x hx => hpb.out x (by rw [List.drop_set_of_lt (by omega)] at hx; rw [HE.out]; simp [hx])
                  have HL' : Hid ((ps.set m (q + 1)).length = j) := by show _ = _; rw [List.length_set]; exact hpl.out
                  have hl3 : 1 ≤ l := by omega
                  clear hl0 hv0
                  go_wp2_with fail
                  go_roundw
                  case rel => exact ⟨m + 1, l - 1, ps.set m (q + 1), by omega, by go_num, by go_num, by omega, by omega, HL', HB', HN, by rw [List.map_set]; exact (HOWN.out.stored m _).1, hbel.setCell (Nat.le_refl _) _⟩
                  case measure => simp [intOf]; omega
            · obtain rfl : m = j := by omega
              have HF : Hid (ps = G) := by
                have := hpg.out
                rw [List.take_of_length_le (by rw [hpl.out]; omega), List.drop_of_length_le (l := ps) (by rw [hpl.out]; omega)] at this
                have e : ∀ a b, giveOne a b [] = [] := fun a b => by cases b <;> rfl
                rw [e, List.append_nil] at this
                exact this
              have HOWN := Lib.hid hown
              clear hown
              go_wp2_with fail
              rw [Exit.noGoto_ret]
              go_ret2
              exact ⟨w.heap.size, rfl, by rw [HGS.out, ← HF.out]; exact HOWN.out, hbel⟩
end Go.Proofs.Ytpnegfocmaecbaa
