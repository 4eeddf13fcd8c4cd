/- Positions that are written: what is read of them never ends too early; two have the same bytes just if they are the same. Plain Lean. -/
import Derived.Test.YtalbjjimnhldfaaGreatDoorYml0
set_option maxRecDepth 100000
namespace Go.Proofs.YtalbjjimnhldfaaGreatDoor
open Go.Ev
theorem rsC_enc {bs rest : List Int} {m : Int} : ∀ (ns : List Nat) (pre : List Int) {p : Int}, bs = pre ++ (ns.flatMap num ++ rest) → (∀ n ∈ ns, n < 18446744073709551616 ∧ (n : Int) ≤ m) → p = pre.length →
    (rsC bs m ns.length p 0).at_ = p + (ns.flatMap num).length ∧ (rsC bs m ns.length p 0).e = 0 := by
  intro ns
  induction ns with
  | nil => intro pre p hb _ hp; show p = p + _ ∧ (0 : Int) = 0; simp
  | cons y ys ih =>
    intro pre p hb hw hp
    have h1 : bs = pre ++ (num y ++ (ys.flatMap num ++ rest)) := by rw [hb]; simp
    have hy := hw y (by simp)
    have hd := (rdC_num (m := m) h1 hy.1 hp).1 hy.2
    have h2 := ih (pre ++ num y) (p := p + (num y).length) (by rw [h1]; simp) (fun n hn => hw n (by simp [hn])) (by rw [hp]; simp)
    rw [List.length_cons, rsC_succ, hd]
    dsimp only
    rw [h2.1, h2.2]
    refine ⟨?_, rfl⟩
    simp
    omega
theorem two_dW {bs : List Int} (h : (dvC bs).e = 2) : (dWC bs).e = 2 := by unfold dWC; rw [wsC_ne _ _ _ (by rw [h]; decide)]; exact h
theorem two_dg {bs : List Int} (h : (dWC bs).e = 2) : (dgC bs).e = 2 := by unfold dgC; rw [rdC_ne (by rw [h]; decide)]; exact h
theorem two_dG {bs : List Int} (h : (dgC bs).e = 2) : (dGC bs).e = 2 := by unfold dGC; rw [rsC_ne _ _ _ _ (by rw [h]; decide)]; exact h
theorem two_dt {bs : List Int} (h : (dGC bs).e = 2) : (dtC bs).e = 2 := by unfold dtC; rw [rdC_ne (by rw [h]; decide)]; exact h
theorem two_dT {bs : List Int} (h : (dtC bs).e = 2) : (dTC bs).e = 2 := by unfold dTC; rw [rsC_ne _ _ _ _ (by rw [h]; decide)]; exact h
theorem two_r0 {bs : List Int} (h : (dTC bs).e = 2) : (r0C bs).e = 2 := by unfold r0C; rw [rdC_ne (by rw [h]; decide)]; exact h
theorem two_r1 {bs : List Int} (h : (r0C bs).e = 2) : (r1C bs).e = 2 := by unfold r1C; rw [rdC_ne (by rw [h]; decide)]; exact h
theorem two_r2 {bs : List Int} (h : (r1C bs).e = 2) : (r2C bs).e = 2 := by unfold r2C; rw [rdC_ne (by rw [h]; decide)]; exact h
theorem two_r3 {bs : List Int} (h : (r2C bs).e = 2) : (r3C bs).e = 2 := by unfold r3C; rw [rdC_ne (by rw [h]; decide)]; exact h
theorem two_r4 {bs : List Int} (h : (r3C bs).e = 2) : (r4C bs).e = 2 := by unfold r4C; rw [rdC_ne (by rw [h]; decide)]; exact h
theorem two_end {bs : List Int} (h : (r4C bs).e = 2) : (decP bs).e ≠ 4 := by
  show endC bs (r4C bs).at_ (r4C bs).e ≠ 4
  rw [h, endC_err (by decide)]; decide
theorem two_dT' {bs : List Int} (h : (dTC bs).e = 2) : (decP bs).e ≠ 4 := two_end (two_r4 (two_r3 (two_r2 (two_r1 (two_r0 h)))))
def gnC (xs : List Bool) (k : Nat) : List Nat := (List.range k).map fun j => if xs.getD j false then 1 else 0
def tnC (xs : List Int) (k : Nat) : List Nat := (List.range k).map fun j => (dnum [xs.getD (8 * j) 0, xs.getD (8 * j + 1) 0, xs.getD (8 * j + 2) 0, xs.getD (8 * j + 3) 0, xs.getD (8 * j + 4) 0, xs.getD (8 * j + 5) 0, xs.getD (8 * j + 6) 0, xs.getD (8 * j + 7) 0]).toNat
theorem encG_fm (xs : List Bool) (k : Nat) : encG xs k = (gnC xs k).flatMap num := by unfold encG gnC; rw [List.flatMap_map]
theorem encT_fm (xs : List Int) (k : Nat) : encT xs k = (tnC xs k).flatMap num := by unfold encT tnC; rw [List.flatMap_map]
theorem gnC_in {xs : List Bool} {k n : Nat} (h : n ∈ gnC xs k) : n < 18446744073709551616 ∧ (n : Int) ≤ 1 := by
  simp only [gnC, List.mem_map] at h
  obtain ⟨j, _, rfl⟩ := h
  split <;> decide
theorem tnC_in {xs : List Int} {k n : Nat} (h : n ∈ tnC xs k) : n < 18446744073709551616 ∧ (n : Int) ≤ 18446744073709551615 := by
  simp only [tnC, List.mem_map] at h
  obtain ⟨j, _, rfl⟩ := h
  have := dnum_in [xs.getD (8 * j) 0, xs.getD (8 * j + 1) 0, xs.getD (8 * j + 2) 0, xs.getD (8 * j + 3) 0, xs.getD (8 * j + 4) 0, xs.getD (8 * j + 5) 0, xs.getD (8 * j + 6) 0, xs.getD (8 * j + 7) 0]
  omega
theorem enc_nest (a : PA) (x : PX) : enc a x = num x.vars.length ++ (encL x.vars ++ (num x.gone.length ++ (encG x.gone x.gone.length ++ (num a.s3.l ++ (encT x.tips a.s3.l ++ (num (foldI a.r0).toNat ++ (num (foldI a.r1).toNat ++ (num (foldI a.r2).toNat ++ (num (foldI a.r3).toNat ++ num a.r4.toNat))))))))) := by
  unfold enc enc3 enc2 enc1 encR
  rw [encV_all]
  simp only [List.append_assoc]
theorem enc_ne4 {a : PA} {x : PX} (w : PW a x) (l1 : x.vars.length < 18446744073709551616) (l2 : x.gone.length < 18446744073709551616) (l3 : a.s3.l < 18446744073709551616) : (decP (enc a x)).e ≠ 4 := by
  have hb := enc_nest a x
  generalize enc a x = bs at hb ⊢
  have c0 := fold_in w.r0
  have c1 := fold_in w.r1
  have c2 := fold_in w.r2
  have c3 := fold_in w.r3
  have c4 := w.r4
  -- the cells
  have b0 : bs = [] ++ (num x.vars.length ++ (encL x.vars ++ (num x.gone.length ++ (encG x.gone x.gone.length ++ (num a.s3.l ++ (encT x.tips a.s3.l ++ (num (foldI a.r0).toNat ++ (num (foldI a.r1).toNat ++ (num (foldI a.r2).toNat ++ (num (foldI a.r3).toNat ++ num a.r4.toNat)))))))))) := hb
  have q0 := rdC_num (m := 64) (p := 0) b0 l1 rfl
  by_cases h1 : (x.vars.length : Int) ≤ 64
  rotate_left
  · exact two_dT' (two_dT (two_dt (two_dG (two_dg (two_dW (by show (rdC bs 0 0 64).e = 2; rw [q0.2 (by omega)]))))))
  have e0 : dvC bs = ⟨0 + (num x.vars.length).length, 0, x.vars.length⟩ := q0.1 h1
  have b1 : bs = num x.vars.length ++ (encL x.vars ++ (num x.gone.length ++ (encG x.gone x.gone.length ++ (num a.s3.l ++ (encT x.tips a.s3.l ++ (num (foldI a.r0).toNat ++ (num (foldI a.r1).toNat ++ (num (foldI a.r2).toNat ++ (num (foldI a.r3).toNat ++ num a.r4.toNat))))))))) := hb
  have q1 := wsC_enc x.vars (num x.vars.length) (p := 0 + (num x.vars.length).length) b1 w.v (by simp)
  have e1 : dWC bs = ⟨0 + (num x.vars.length).length + (encL x.vars).length, 0, x.vars⟩ := by unfold dWC; rw [e0]; dsimp only; rw [Int.toNat_natCast]; exact q1
  generalize hp1 : num x.vars.length ++ encL x.vars = p1 at *
  have k1 : (0 + ((num x.vars.length).length : Nat) + ((encL x.vars).length : Nat) : Int) = (p1.length : Int) := by rw [← hp1]; simp
  rw [k1] at e1
  have b2 : bs = p1 ++ (num x.gone.length ++ (encG x.gone x.gone.length ++ (num a.s3.l ++ (encT x.tips a.s3.l ++ (num (foldI a.r0).toNat ++ (num (foldI a.r1).toNat ++ (num (foldI a.r2).toNat ++ (num (foldI a.r3).toNat ++ num a.r4.toNat)))))))) := by rw [b1, ← hp1]; simp
  -- the gone
  have q2 := rdC_num (m := 8) (p := p1.length) b2 l2 rfl
  by_cases h2 : (x.gone.length : Int) ≤ 8
  rotate_left
  · exact two_dT' (two_dT (two_dt (two_dG (by unfold dgC; rw [e1]; dsimp only; rw [q2.2 (by omega)]))))
  have e2 : dgC bs = ⟨p1.length + (num x.gone.length).length, 0, x.gone.length⟩ := by unfold dgC; rw [e1]; exact q2.1 h2
  have b3 : bs = (p1 ++ num x.gone.length) ++ ((gnC x.gone x.gone.length).flatMap num ++ (num a.s3.l ++ (encT x.tips a.s3.l ++ (num (foldI a.r0).toNat ++ (num (foldI a.r1).toNat ++ (num (foldI a.r2).toNat ++ (num (foldI a.r3).toNat ++ num a.r4.toNat))))))) := by rw [b2, encG_fm]; simp
  have q3 := rsC_enc (m := 1) (gnC x.gone x.gone.length) (p1 ++ num x.gone.length) (p := p1.length + (num x.gone.length).length) b3 (fun n hn => gnC_in hn) (by simp)
  rw [show (gnC x.gone x.gone.length).length = x.gone.length by simp [gnC]] at q3
  have e3 : (dGC bs).at_ = ((p1 ++ num x.gone.length) ++ (gnC x.gone x.gone.length).flatMap num).length ∧ (dGC bs).e = 0 := by
    unfold dGC; rw [e2]; dsimp only; rw [Int.toNat_natCast, q3.1, q3.2]
    exact ⟨by simp only [List.length_append]; omega, rfl⟩
  generalize hp2 : (p1 ++ num x.gone.length) ++ (gnC x.gone x.gone.length).flatMap num = p2 at *
  have b4 : bs = p2 ++ (num a.s3.l ++ (encT x.tips a.s3.l ++ (num (foldI a.r0).toNat ++ (num (foldI a.r1).toNat ++ (num (foldI a.r2).toNat ++ (num (foldI a.r3).toNat ++ num a.r4.toNat)))))) := by rw [b3, ← hp2]; simp only [List.append_assoc]
  -- the tips
  have q4 := rdC_num (m := 8) (p := p2.length) b4 l3 rfl
  by_cases h3 : (a.s3.l : Int) ≤ 8
  rotate_left
  · exact two_dT' (two_dT (by unfold dtC; rw [e3.1, e3.2, q4.2 (by omega)]))
  have e4 : dtC bs = ⟨p2.length + (num a.s3.l).length, 0, a.s3.l⟩ := by unfold dtC; rw [e3.1, e3.2]; exact q4.1 h3
  have b5 : bs = (p2 ++ num a.s3.l) ++ ((tnC x.tips a.s3.l).flatMap num ++ (num (foldI a.r0).toNat ++ (num (foldI a.r1).toNat ++ (num (foldI a.r2).toNat ++ (num (foldI a.r3).toNat ++ num a.r4.toNat))))) := by rw [b4, encT_fm]; simp only [List.append_assoc]
  have q5 := rsC_enc (m := 18446744073709551615) (tnC x.tips a.s3.l) (p2 ++ num a.s3.l) (p := p2.length + (num a.s3.l).length) b5 (fun n hn => tnC_in hn) (by simp)
  rw [show (tnC x.tips a.s3.l).length = a.s3.l by simp [tnC]] at q5
  have e5 : (dTC bs).at_ = ((p2 ++ num a.s3.l) ++ (tnC x.tips a.s3.l).flatMap num).length ∧ (dTC bs).e = 0 := by
    unfold dTC; rw [e4]; dsimp only; rw [Int.toNat_natCast, q5.1, q5.2]
    exact ⟨by simp only [List.length_append]; omega, rfl⟩
  generalize hp3 : (p2 ++ num a.s3.l) ++ (tnC x.tips a.s3.l).flatMap num = p3 at *
  have b6 : bs = p3 ++ (num (foldI a.r0).toNat ++ (num (foldI a.r1).toNat ++ (num (foldI a.r2).toNat ++ (num (foldI a.r3).toNat ++ num a.r4.toNat)))) := by rw [b5, ← hp3]; simp only [List.append_assoc]
  -- the throw
  have f0 := (rdC_num (m := 18446744073709551615) (p := p3.length) b6 (by omega) rfl).1 (by omega)
  have g0 : r0C bs = ⟨p3.length + (num (foldI a.r0).toNat).length, 0, (foldI a.r0).toNat⟩ := by unfold r0C; rw [e5.1, e5.2]; exact f0
  have b7 : bs = (p3 ++ num (foldI a.r0).toNat) ++ (num (foldI a.r1).toNat ++ (num (foldI a.r2).toNat ++ (num (foldI a.r3).toNat ++ num a.r4.toNat))) := by rw [b6]; simp only [List.append_assoc]
  have f1 := (rdC_num (m := 18446744073709551615) (p := p3.length + (num (foldI a.r0).toNat).length) b7 (by omega) (by simp)).1 (by omega)
  have g1 : r1C bs = ⟨p3.length + (num (foldI a.r0).toNat).length + (num (foldI a.r1).toNat).length, 0, (foldI a.r1).toNat⟩ := by unfold r1C; rw [g0]; exact f1
  have b8 : bs = (p3 ++ num (foldI a.r0).toNat ++ num (foldI a.r1).toNat) ++ (num (foldI a.r2).toNat ++ (num (foldI a.r3).toNat ++ num a.r4.toNat)) := by rw [b6]; simp only [List.append_assoc]
  have f2 := (rdC_num (m := 18446744073709551615) (p := p3.length + (num (foldI a.r0).toNat).length + (num (foldI a.r1).toNat).length) b8 (by omega) (by simp only [List.length_append]; omega)).1 (by omega)
  have g2 : r2C bs = ⟨p3.length + (num (foldI a.r0).toNat).length + (num (foldI a.r1).toNat).length + (num (foldI a.r2).toNat).length, 0, (foldI a.r2).toNat⟩ := by unfold r2C; rw [g1]; exact f2
  have b9 : bs = (p3 ++ num (foldI a.r0).toNat ++ num (foldI a.r1).toNat ++ num (foldI a.r2).toNat) ++ (num (foldI a.r3).toNat ++ num a.r4.toNat) := by rw [b6]; simp only [List.append_assoc]
  have f3 := (rdC_num (m := 18446744073709551615) (p := p3.length + (num (foldI a.r0).toNat).length + (num (foldI a.r1).toNat).length + (num (foldI a.r2).toNat).length) b9 (by omega) (by simp only [List.length_append]; omega)).1 (by omega)
  have g3 : r3C bs = ⟨p3.length + (num (foldI a.r0).toNat).length + (num (foldI a.r1).toNat).length + (num (foldI a.r2).toNat).length + (num (foldI a.r3).toNat).length, 0, (foldI a.r3).toNat⟩ := by unfold r3C; rw [g2]; exact f3
  have b10 : bs = (p3 ++ num (foldI a.r0).toNat ++ num (foldI a.r1).toNat ++ num (foldI a.r2).toNat ++ num (foldI a.r3).toNat) ++ (num a.r4.toNat ++ []) := by rw [b6]; simp only [List.append_assoc, List.append_nil]
  have f4 := (rdC_num (m := 18446744073709551615) (p := p3.length + (num (foldI a.r0).toNat).length + (num (foldI a.r1).toNat).length + (num (foldI a.r2).toNat).length + (num (foldI a.r3).toNat).length) b10 (by omega) (by simp only [List.length_append]; omega)).1 (by omega)
  have g4 : (r4C bs).e = 0 := by unfold r4C; rw [g3]; dsimp only; rw [f4]
  show endC bs (r4C bs).at_ (r4C bs).e ≠ 4
  rw [g4]
  unfold endC
  split <;> decide
theorem num_inj : ∀ (n m : Nat) (r s : List Int), num n ++ r = num m ++ s → n = m ∧ r = s := by
  intro n
  induction n using Nat.strongRecOn with
  | _ n ih =>
    intro m r s h
    by_cases hn : n < 128 <;> by_cases hm : m < 128
    · rw [num_small hn, num_small hm] at h
      simp only [List.singleton_append, List.cons.injEq] at h
      exact ⟨by omega, h.2⟩
    · rw [num_small hn, num_big hm] at h
      simp only [List.singleton_append, List.cons_append, List.cons.injEq] at h
      omega
    · rw [num_big hn, num_small hm] at h
      simp only [List.singleton_append, List.cons_append, List.cons.injEq] at h
      omega
    · rw [num_big hn, num_big hm] at h
      simp only [List.cons_append, List.cons.injEq] at h
      obtain ⟨h1, h2⟩ := h
      obtain ⟨h3, h4⟩ := ih (n / 128) (by omega) (m / 128) r s h2
      exact ⟨by omega, h4⟩
theorem fm_inj (f g : Nat → Nat) : ∀ (k : Nat) (r s : List Int), (List.range k).flatMap (fun j => num (f j)) ++ r = (List.range k).flatMap (fun j => num (g j)) ++ s → (∀ j, j < k → f j = g j) ∧ r = s := by
  intro k
  induction k with
  | zero => intro r s h; exact ⟨fun j hj => by omega, by simpa using h⟩
  | succ k ih =>
    intro r s h
    simp only [List.range_succ, List.flatMap_append, List.flatMap_cons, List.flatMap_nil, List.append_nil, List.append_assoc] at h
    obtain ⟨h1, h2⟩ := ih _ _ h
    obtain ⟨h3, h4⟩ := num_inj _ _ _ _ h2
    refine ⟨fun j hj => ?_, h4⟩
    by_cases hjk : j = k
    · rw [hjk]; exact h3
    · exact h1 j (by omega)
theorem fold_pos (n : Int) : 0 ≤ foldI n := by unfold foldI; split <;> omega
theorem fold_nat {a b : Int} (h : (foldI a).toNat = (foldI b).toNat) : a = b := by
  have ha := fold_pos a
  have hb := fold_pos b
  have : foldI a = foldI b := by omega
  rw [← unf_fold a, ← unf_fold b, this]
theorem byt_getD {xs : List Int} (h : Byts8 xs) (i : Nat) : byt (xs.getD i 0) := by
  by_cases hi : i < xs.length
  · rw [getD_get hi]; exact h _ (List.getElem_mem hi)
  · have : xs.getD i 0 = 0 := by simp [List.getD, hi]
    rw [this]; exact ⟨by decide, by decide⟩
def t8C (xs : List Int) (j : Nat) : D8 := ⟨xs.getD (8 * j) 0, xs.getD (8 * j + 1) 0, xs.getD (8 * j + 2) 0, xs.getD (8 * j + 3) 0, xs.getD (8 * j + 4) 0, xs.getD (8 * j + 5) 0, xs.getD (8 * j + 6) 0, xs.getD (8 * j + 7) 0⟩
theorem t8C_ok {xs : List Int} (h : Byts8 xs) (j : Nat) : (t8C xs j).Ok := ⟨byt_getD h _, byt_getD h _, byt_getD h _, byt_getD h _, byt_getD h _, byt_getD h _, byt_getD h _, byt_getD h _⟩
theorem t8C_get {xs ys : List Int} {j : Nat} (h : t8C xs j = t8C ys j) (i : Nat) (hi : i < 8) : xs.getD (8 * j + i) 0 = ys.getD (8 * j + i) 0 := by
  have h := D8.mk.inj h
  obtain ⟨h0, h1, h2, h3, h4, h5, h6, h7⟩ := h
  match i, hi with
  | 0, _ => exact h0
  | 1, _ => exact h1
  | 2, _ => exact h2
  | 3, _ => exact h3
  | 4, _ => exact h4
  | 5, _ => exact h5
  | 6, _ => exact h6
  | 7, _ => exact h7
theorem ext_getD {α : Type} (d : α) {xs ys : List α} (hl : xs.length = ys.length) (h : ∀ i, i < xs.length → xs.getD i d = ys.getD i d) : xs = ys := by
  apply List.ext_getElem hl
  intro i h1 h2
  have := h i h1
  simpa [List.getD, h1, h2] using this
theorem enc_inj {a b : PA} {x y : PX} (wa : PW a x) (wb : PW b y) (tx : Byts8 x.tips) (ty : Byts8 y.tips) (lx : x.tips.length = a.s3.l * 8) (ly : y.tips.length = b.s3.l * 8) (h : enc a x = enc b y) :
    x = y ∧ a.r0 = b.r0 ∧ a.r1 = b.r1 ∧ a.r2 = b.r2 ∧ a.r3 = b.r3 ∧ a.r4 = b.r4 := by
  rw [enc_nest, enc_nest] at h
  obtain ⟨hv, h⟩ := num_inj _ _ _ _ h
  rw [← encV_all, ← encV_all, ← hv] at h
  obtain ⟨hV, h⟩ := fm_inj (fun j => (foldI (x.vars.getD j 0)).toNat) (fun j => (foldI (y.vars.getD j 0)).toNat) _ _ _ h
  obtain ⟨hg, h⟩ := num_inj _ _ _ _ h
  rw [← hg] at h
  obtain ⟨hG, h⟩ := fm_inj (fun j => if x.gone.getD j false then 1 else 0) (fun j => if y.gone.getD j false then 1 else 0) _ _ _ h
  obtain ⟨ht, h⟩ := num_inj _ _ _ _ h
  rw [← ht] at h
  obtain ⟨hT, h⟩ := fm_inj (fun j => (dnum (t8C x.tips j).l).toNat) (fun j => (dnum (t8C y.tips j).l).toNat) _ _ _ h
  obtain ⟨h0, h⟩ := num_inj _ _ _ _ h
  obtain ⟨h1, h⟩ := num_inj _ _ _ _ h
  obtain ⟨h2, h⟩ := num_inj _ _ _ _ h
  obtain ⟨h3, h⟩ := num_inj _ _ _ _ h
  have h4 := (num_inj a.r4.toNat b.r4.toNat [] [] (by rw [List.append_nil, List.append_nil]; exact h)).1
  have c4 := wa.r4
  have d4 := wb.r4
  refine ⟨?_, fold_nat h0, fold_nat h1, fold_nat h2, fold_nat h3, by omega⟩
  have e1 : x.vars = y.vars := ext_getD 0 hv fun i hi => fold_nat (hV i hi)
  have e2 : x.gone = y.gone := ext_getD false hg fun i hi => by
    have := hG i hi
    cases hx : x.gone.getD i false <;> cases hy : y.gone.getD i false <;> rw [hx, hy] at this <;> first | rfl | exact absurd this (by decide)
  have e3 : x.tips = y.tips := ext_getD 0 (by omega) fun i hi => by
    have hj : i / 8 < a.s3.l := by omega
    have hn := hT (i / 8) hj
    have i1 := dnum_in (t8C x.tips (i / 8)).l
    have i2 := dnum_in (t8C y.tips (i / 8)).l
    have hd : t8C x.tips (i / 8) = t8C y.tips (i / 8) := by
      rw [← frm_dnum (t8C_ok tx _), ← frm_dnum (t8C_ok ty _)]
      rw [show dnum (t8C x.tips (i / 8)).l = dnum (t8C y.tips (i / 8)).l by omega]
    have := t8C_get hd (i % 8) (by omega)
    rwa [show 8 * (i / 8) + i % 8 = i by omega] at this
  obtain ⟨v1, g1, t1⟩ := x
  obtain ⟨v2, g2, t2⟩ := y
  dsimp only at e1 e2 e3
  rw [e1, e2, e3]
theorem enc_iff {a b : PA} {x y : PX} (wa : PW a x) (wb : PW b y) (tx : Byts8 x.tips) (ty : Byts8 y.tips) (lx : x.tips.length = a.s3.l * 8) (ly : y.tips.length = b.s3.l * 8) :
    enc a x = enc b y ↔ x = y ∧ a.r0 = b.r0 ∧ a.r1 = b.r1 ∧ a.r2 = b.r2 ∧ a.r3 = b.r3 ∧ a.r4 = b.r4 := by
  refine ⟨enc_inj wa wb tx ty lx ly, ?_⟩
  rintro ⟨rfl, h0, h1, h2, h3, h4⟩
  have hl : a.s3.l = b.s3.l := by omega
  rw [enc_nest, enc_nest, hl, h0, h1, h2, h3, h4]
end Go.Proofs.YtalbjjimnhldfaaGreatDoor
