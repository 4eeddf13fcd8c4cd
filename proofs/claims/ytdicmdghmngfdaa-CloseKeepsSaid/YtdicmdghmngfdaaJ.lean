/- The plain law: what Forfeit gives. -/
import Derived.Test.YtdicmdghmngfdaaI
namespace Go.Proofs.Ytdicmdghmngfdaa
open Go.RowKit

def cnt (ws : List Int) : Int := (ws.filter (· != 0)).length

theorem giveOne_sum (l : Int) (ws ps : List Int) (hl : ws.length = ps.length) (h0 : 0 ≤ l) (h1 : l ≤ cnt ws) : (giveOne l ws ps).sum = ps.sum + l := by
  induction ws generalizing l ps with
  | nil =>
    simp [cnt] at h1
    obtain rfl : l = 0 := by omega
    simp [giveOne]
  | cons w ws ih =>
    cases ps with
    | nil => simp at hl
    | cons p ps =>
      have hl' : ws.length = ps.length := by simpa using hl
      rw [giveOne]
      by_cases e : l = 0
      · rw [if_pos e]; omega
      · rw [if_neg e]
        by_cases ew : w = 0
        · rw [if_pos ew, List.sum_cons, ih l ps hl' h0 (by simpa [cnt, ew] using h1), List.sum_cons]; omega
        · rw [if_neg ew, List.sum_cons, ih (l - 1) ps hl' (by omega) (by simp [cnt, ew] at h1 ⊢; omega), List.sum_cons]; omega
theorem giveOne_at (l : Int) (ws ps : List Int) (k : Nat) (w p : Int) (hw : ws[k]? = some w) (hp : ps[k]? = some p) : ∃ r, (giveOne l ws ps)[k]? = some r ∧ (r = p ∨ (w ≠ 0 ∧ r = p + 1)) := by
  induction ws generalizing l ps k with
  | nil => simp at hw
  | cons w0 ws ih =>
    cases ps with
    | nil => simp at hp
    | cons p0 ps =>
      rw [giveOne]
      by_cases e : l = 0
      · rw [if_pos e]; exact ⟨p, hp, .inl rfl⟩
      · rw [if_neg e]
        cases k with
        | zero =>
          simp at hw hp
          subst hw hp
          by_cases ew : w0 = 0
          · rw [if_pos ew]; exact ⟨p0, by simp, .inl rfl⟩
          · rw [if_neg ew]; exact ⟨p0 + 1, by simp, .inr ⟨ew, rfl⟩⟩
        | succ k =>
          simp at hw hp
          by_cases ew : w0 = 0
          · rw [if_pos ew]; simpa using ih l ps k hw hp
          · rw [if_neg ew]; simpa using ih (l - 1) ps k hw hp
theorem cnt_01 (ws : List Int) (h : ∀ x ∈ ws, x = 0 ∨ x = 1) : cnt ws = ws.sum := by
  induction ws with
  | nil => rfl
  | cons x l ih =>
    have := ih (fun y hy => h y (by simp [hy]))
    rcases h x (by simp) with rfl | rfl
    · simp [cnt] at this ⊢; omega
    · simp [cnt] at this ⊢; omega

theorem sum_set (xs : List Int) (k : Nat) (x y : Int) (h : xs[k]? = some x) : (xs.set k y).sum = xs.sum - x + y := by
  induction xs generalizing k with
  | nil => simp at h
  | cons a l ih =>
    cases k with
    | zero => simp at h; subst h; simp; omega
    | succ k => simp at h; simp [ih k h]; omega
theorem sum_zip (L P : List Int) (h : L.length = P.length) : (List.zipWith (· + ·) L P).sum = L.sum + P.sum := by
  induction L generalizing P with
  | nil => cases P with
    | nil => rfl
    | cons _ _ => simp at h
  | cons a l ih =>
    cases P with
    | nil => simp at h
    | cons b P => simp [ih P (by simpa using h)]; omega

/-- All that the law asks of a forfeit that is done. -/
structure Forf (N : List Int) (seat bond : Int) (gone : List Bool) (X : List Int) : Prop where
  len : X.length = N.length
  glen : gone.length = N.length
  seat0 : 0 ≤ seat
  seatn : seat < N.length
  sum : sumFrom 0 X = sumFrom 0 N
  ok : sumFrom 0 N ≠ none
  nonneg : ∀ x ∈ X, 0 ≤ x ∧ x ≤ 1125899906842624
  nonneg' : ∀ x ∈ N, 0 ≤ x ∧ x ≤ 1125899906842624
  bond0 : 0 ≤ bond
  mine : ∀ x y, X[seat.toNat]? = some x → N[seat.toNat]? = some y → x ≤ y ∧ y - x ≤ bond
  other : ∃ q, 0 ≤ q ∧ ∀ (k : Nat) x y, X[k]? = some x → N[k]? = some y → (k : Int) ≠ seat → if gone.getD k false = true then x = y else x = y + q ∨ x = y + q + 1

theorem all_right_of (xs : List Int) (h : ∀ x ∈ xs, 0 ≤ x ∧ x ≤ 1125899906842624) : xs.all rightB = true := by
  rw [List.all_eq_true]; intro x hx; exact rightB_true.2 (h x hx)
theorem sumFrom_le {xs : List Int} {t : Int} (h : sumFrom 0 xs = some t) : xs.sum ≤ 1125899906842624 := by
  have := sumFrom_eq xs 0 (by omega) (all_right_of xs (sumFrom_right h))
  rw [h] at this
  by_cases c : 0 + xs.sum ≤ 1125899906842624
  · omega
  · rw [if_neg c] at this; cases this

theorem forf_holds (N : List Int) (seat bond : Int) (gone : List Bool) (h0 : forfC N seat bond gone = 0) : Forf N seat bond gone (forfY N seat bond gone) := by
  have hq := h0
  unfold forfC at hq
  by_cases c1 : N.length < 2 ∨ 8 < N.length
  · rw [if_pos c1] at hq; cases hq
  rw [if_neg c1] at hq
  by_cases c3 : gone.length ≠ N.length
  · rw [if_pos c3] at hq; cases hq
  rw [if_neg c3] at hq
  by_cases c4 : seat < 0 ∨ (N.length : Int) ≤ seat
  · rw [if_pos c4] at hq; cases hq
  rw [if_neg c4] at hq
  by_cases c6 : rightB bond = false
  · rw [if_pos c6] at hq; cases hq
  rw [if_neg c6] at hq
  rcases c7 : sumFrom 0 N with _ | t
  · rw [if_pos c7] at hq; cases hq
  clear hq
  obtain ⟨s, rfl⟩ := Int.eq_ofNat_of_zero_le (show 0 ≤ seat by omega)
  have hs : s < N.length := by omega
  have hb := rightB_true.1 (by simpa using c6 : rightB bond = true)
  have hN := sumFrom_right c7
  have hSum := sumFrom_le c7
  obtain ⟨x, hx⟩ : ∃ x, N[s]? = some x := ⟨_, List.getElem?_eq_getElem hs⟩
  have hxb := hN x (List.mem_of_getElem? hx)
  have hgl : gone.length = N.length := by omega
  rcases hso : someOw s gone N.length with _ | _
  · have hY : forfY N s bond gone = N := by unfold forfY; rw [if_neg (by rw [h0]; simp), if_pos hso]
    rw [hY]
    refine ⟨rfl, hgl, by omega, by omega, rfl, by rw [c7]; simp, hN, hN, hb.1, fun a b ha hb' => ?_, 0, by omega, fun k a b ha hb' hk => ?_⟩
    · rw [ha] at hb'; injection hb' with e; subst e; omega
    · rw [ha] at hb'; injection hb' with e; subst e
      split
      · rfl
      · omega
  · have hY : forfY N s bond gone = List.zipWith (· + ·) (N.set s (x - min bond x)) (splitS (min bond x) (wts s gone N.length)) := by
      unfold forfY lessS
      rw [if_neg (by rw [h0]; simp), if_neg (by rw [hso]; simp), Int.toNat_natCast, List.getD_eq_getElem?_getD, hx]; rfl
    rw [hY]
    have hSp := wts_sum s gone N.length hso
    obtain ⟨l, hl⟩ : ∃ l, min bond x = l := ⟨_, rfl⟩
    have l1 : 0 ≤ l := by omega
    have l2 : l ≤ x := by omega
    have l3 : l ≤ bond := by omega
    rw [hl]
    obtain ⟨q, ws, P0, Q, hq, q1, q2, q3, q4, HWL, HWA, HQL, HQA, HP, HG0⟩ := pack s gone N.length _ l rfl hSp l1
    have hws : ws = wts s gone N.length := by
      apply List.ext_getElem?
      intro i
      by_cases hi : i < N.length
      · rw [HWA.out i hi, wts_at _ _ _ _ hi]
      · rw [List.getElem?_eq_none (by rw [HWL.out]; omega), List.getElem?_eq_none (by rw [wts_length]; omega)]
    have hQ : Q = quos l (wts s gone N.length).sum (wts s gone N.length) := by
      apply List.ext_getElem?
      intro i
      by_cases hi : i < N.length
      · rw [HQA.out i hi, quos, List.getElem?_map, wts_at _ _ _ _ hi, ← hq]
        split <;> simp
      · rw [List.getElem?_eq_none (by rw [HQL.out]; omega), List.getElem?_eq_none (by rw [quos, List.length_map, wts_length]; omega)]
    have hsum : P0.sum = l := by
      rw [← HG0.out, giveOne_sum _ _ _ (by rw [HWL.out, HQL.out]) (by omega) ?_, hQ, quos_sum _ _ _ (wts_01 _ _ _), hq]
      · omega
      · rw [hws, cnt_01 _ (wts_01 _ _ _), ← hq]
        have h1 := Int.emod_lt_of_pos l hSp
        have h2 := Int.emod_add_mul_ediv l (wts s gone N.length).sum
        have h3 := Int.mul_comm (l / (wts s gone N.length).sum) (wts s gone N.length).sum
        omega
    have hPl : P0.length = N.length := by rw [← HG0.out, giveOne_length, HQL.out]
    rw [HP.out]
    have hPat : ∀ k, k < N.length → ∃ r, P0[k]? = some r ∧ (if ow s gone k = true then (r = q ∨ r = q + 1) else r = 0) := by
      intro k hk
      obtain ⟨r, hr, hrr⟩ := giveOne_at (l - q * (wts s gone N.length).sum) ws Q k _ _ (HWA.out k hk) (HQA.out k hk)
      rw [HG0.out] at hr
      refine ⟨r, hr, ?_⟩
      split
      · rename_i ho
        simp only [ho, if_true] at hrr
        rcases hrr with rfl | ⟨_, rfl⟩ <;> simp
      · rename_i ho
        simp only [ho] at hrr
        simpa using hrr
    have hXat : ∀ (k : Nat) a b, (List.zipWith (· + ·) (N.set s (x - l)) P0)[k]? = some a → N[k]? = some b → ∃ r, (if ow s gone k = true then (r = q ∨ r = q + 1) else r = 0) ∧ a = (if k = s then x - l else b) + r := by
      intro k a b ha hb'
      have hk := (List.getElem?_eq_some_iff.1 hb').1
      obtain ⟨r, hr, hrr⟩ := hPat k hk
      rw [List.getElem?_zipWith, hr, List.getElem?_set] at ha
      refine ⟨r, hrr, ?_⟩
      by_cases e : s = k
      · subst e
        simp [hs] at ha
        simp; omega
      · rw [if_neg e, hb'] at ha
        simp at ha
        rw [if_neg (by omega)]; omega
    have hXlen : (List.zipWith (· + ·) (N.set s (x - l)) P0).length = N.length := by simp [hPl]
    have hXsum : (List.zipWith (· + ·) (N.set s (x - l)) P0).sum = N.sum := by
      rw [sum_zip _ _ (by simp [hPl]), sum_set N s x _ hx, hsum]; omega
    have hX0 : ∀ a ∈ List.zipWith (· + ·) (N.set s (x - l)) P0, 0 ≤ a := by
      intro a ha
      obtain ⟨k, hk, rfl⟩ := List.getElem_of_mem ha
      have hk' : k < N.length := by omega
      obtain ⟨r, hrr, hae⟩ := hXat k _ _ (List.getElem?_eq_getElem hk) (List.getElem?_eq_getElem hk')
      have hb' := hN N[k] (List.getElem_mem hk')
      rw [hae]
      have hr0 : 0 ≤ r := by split at hrr <;> omega
      split <;> omega
    have hXb : ∀ a ∈ List.zipWith (· + ·) (N.set s (x - l)) P0, 0 ≤ a ∧ a ≤ 1125899906842624 := fun a ha => ⟨hX0 a ha, by
      have := le_sum_of_mem _ a ha hX0
      rw [hXsum] at this
      omega⟩
    refine ⟨hXlen, hgl, by omega, by omega, ?_, by rw [c7]; simp, hXb, hN, hb.1, fun a b ha hb' => ?_, q, q1, fun k a b ha hb' hk => ?_⟩
    · rw [sumFrom_eq _ 0 (by omega) (all_right_of _ hXb), sumFrom_eq N 0 (by omega) (all_right_of _ hN), hXsum]
    · rw [Int.toNat_natCast] at ha hb'
      obtain ⟨r, hrr, rfl⟩ := hXat s a b ha hb'
      rw [hx] at hb'; injection hb' with e; subst e
      have ho : ow s gone s = false := by simp [ow]
      rw [ho] at hrr
      simp at hrr
      subst hrr
      simp; omega
    · obtain ⟨r, hrr, hae⟩ := hXat k a b ha hb'
      have hks : ¬ k = s := fun e => hk (by rw [e])
      rw [if_neg hks] at hae
      have ho : ow s gone k = !(gone.getD k false) := by
        unfold ow
        rw [show ((k : Int) != (s : Int)) = true by simpa using hk]; simp
      rw [ho] at hrr
      rcases hg : gone.getD k false with _ | _
      · rw [hg] at hrr
        simp only [Bool.not_false, if_true] at hrr
        simp only [Bool.false_eq_true, if_false]
        omega
      · rw [hg] at hrr
        simp only [Bool.not_true, Bool.false_eq_true, if_false] at hrr
        simp only [if_true]
        omega
end Go.Proofs.Ytdicmdghmngfdaa
