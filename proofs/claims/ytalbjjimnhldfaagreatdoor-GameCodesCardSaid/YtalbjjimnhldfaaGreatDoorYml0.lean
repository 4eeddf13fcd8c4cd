/- Moves that are written are read: plain Lean. -/
import Derived.Test.YtalbjjimnhldfaaGreatDoorYmv
import Derived.Test.YtalbjjimnhldfaaGreatDoorYdcQ
import Derived.Test.YtalbjjimnhldfaaGreatDoorYenc
import Derived.Test.YtalbjjimnhldfaaGreatDoorKnownB
section
set_option maxRecDepth 100000
namespace Go.Proofs.YtalbjjimnhldfaaGreatDoor
open Go.Ev
theorem dn_step {a b : Int} (h0 : 0 ≤ a) (h1 : a < 72057594037927936) (hb : byt b) : IntKind.wrap .u64 (IntKind.wrap .u64 (a * 256) + IntKind.wrap .u64 b) = a * 256 + b := by
  obtain ⟨b0, b1⟩ := hb
  rw [wrap_u64, wrap_u64 (a * 256), wrap_u64 b]
  omega
theorem dnum_eq {d : D8} (h : d.Ok) : dnum d.l = (((((((0 * 256 + d.d7) * 256 + d.d6) * 256 + d.d5) * 256 + d.d4) * 256 + d.d3) * 256 + d.d2) * 256 + d.d1) * 256 + d.d0 := by
  obtain ⟨⟨a0, b0⟩, ⟨a1, b1⟩, ⟨a2, b2⟩, ⟨a3, b3⟩, ⟨a4, b4⟩, ⟨a5, b5⟩, ⟨a6, b6⟩, ⟨a7, b7⟩⟩ := h
  show dnum [d.d0, d.d1, d.d2, d.d3, d.d4, d.d5, d.d6, d.d7] = _
  unfold dnum
  simp only [List.foldr_cons, List.foldr_nil]
  rw [dn_step (a := 0) (b := d.d7) (by omega) (by omega) ⟨a7, b7⟩, dn_step (b := d.d6) (by omega) (by omega) ⟨a6, b6⟩, dn_step (b := d.d5) (by omega) (by omega) ⟨a5, b5⟩, dn_step (b := d.d4) (by omega) (by omega) ⟨a4, b4⟩, dn_step (b := d.d3) (by omega) (by omega) ⟨a3, b3⟩,
    dn_step (b := d.d2) (by omega) (by omega) ⟨a2, b2⟩, dn_step (b := d.d1) (by omega) (by omega) ⟨a1, b1⟩, dn_step (b := d.d0) (by omega) (by omega) ⟨a0, b0⟩]
theorem frm_dnum {d : D8} (h : d.Ok) : frm (dnum d.l) = d := by
  rw [dnum_eq h]
  obtain ⟨⟨a0, b0⟩, ⟨a1, b1⟩, ⟨a2, b2⟩, ⟨a3, b3⟩, ⟨a4, b4⟩, ⟨a5, b5⟩, ⟨a6, b6⟩, ⟨a7, b7⟩⟩ := h
  obtain ⟨e0, e1, e2, e3, e4, e5, e6, e7⟩ := d
  dsimp only at a0 b0 a1 b1 a2 b2 a3 b3 a4 b4 a5 b5 a6 b6 a7 b7 ⊢
  unfold frm
  simp only [D8.mk.injEq]
  refine ⟨by omega, by omega, by omega, by omega, by omega, by omega, by omega, by omega⟩
theorem rdC_num {bs pre rest : List Int} {n : Nat} {p m : Int} (hb : bs = pre ++ (num n ++ rest)) (hn : n < 18446744073709551616) (hp : p = pre.length) :
    ((n : Int) ≤ m → rdC bs p 0 m = ⟨p + (num n).length, 0, n⟩) ∧ (m < n → rdC bs p 0 m = ⟨p, 2, 0⟩) := by
  have hd : bs.drop p.toNat = num n ++ rest := by rw [hb, hp]; simp
  have hl := lookN_num n hn rest
  rw [← hd] at hl
  refine ⟨fun h => ?_, fun h => ?_⟩
  · rw [rdC_ok (by simp) (by rw [hl]; simp) (by rw [hl]; show ¬ m < (n : Int); omega), hl]
  · rw [rdC_big (by simp) (by rw [hl]; simp) (by rw [hl]; exact h)]
def encL (xs : List Int) : List Int := xs.flatMap fun x => num (foldI x).toNat
theorem map_getD (xs : List Int) : (List.range xs.length).map (fun j => xs.getD j 0) = xs := by
  apply List.ext_getElem
  · simp
  · intro i h1 h2
    simp [List.getD, h2]
theorem encV_all (xs : List Int) : encV xs xs.length = encL xs := by
  have := congrArg (fun l : List Int => l.flatMap fun x => num (foldI x).toNat) (map_getD xs)
  simp only [List.flatMap_map] at this
  exact this
theorem unf_fold (y : Int) : unfI (foldI y) = y := by
  unfold unfI foldI
  split <;> split <;> omega
theorem wdC_num {bs pre rest : List Int} {y p : Int} (hb : bs = pre ++ (num (foldI y).toNat ++ rest)) (hy : -2147483648 ≤ y ∧ y ≤ 2147483647) (hp : p = pre.length) : wdC bs p 0 = ⟨p + (num (foldI y).toNat).length, 0, y⟩ := by
  obtain ⟨f0, f1⟩ := fold_in (a := y) ⟨by omega, by omega⟩
  have hr := (rdC_num (m := 18446744073709551615) hb (by omega) hp).1 (by omega)
  have hu : unfI (rdC bs p 0 18446744073709551615).n = y := by
    rw [hr]
    show unfI (((foldI y).toNat : Nat) : Int) = y
    rw [Int.toNat_of_nonneg f0, unf_fold]
  rw [wdC_ok (by rw [hu]; omega), hu, hr, wrap_i32']
  show WR.mk _ _ _ = _
  rw [show (y + 2147483648) % 4294967296 - 2147483648 = y by omega]
theorem wsC_enc {bs rest : List Int} : ∀ (ys pre : List Int) {p : Int}, bs = pre ++ (encL ys ++ rest) → (∀ n ∈ ys, -2147483648 ≤ n ∧ n ≤ 2147483647) → p = pre.length → wsC bs ys.length p 0 = ⟨p + (encL ys).length, 0, ys⟩ := by
  intro ys
  induction ys with
  | nil => intro pre p hb _ hp; show LW.mk p 0 [] = _; simp [encL]
  | cons y ys ih =>
    intro pre p hb hw hp
    have h1 : bs = pre ++ (num (foldI y).toNat ++ (encL ys ++ rest)) := by rw [hb]; simp [encL]
    have hd := wdC_num h1 (hw y (by simp)) hp
    have h2 := ih (pre ++ num (foldI y).toNat) (p := p + (num (foldI y).toNat).length) (by rw [h1]; simp) (fun n hn => hw n (by simp [hn])) (by rw [hp]; simp)
    rw [List.length_cons, wsC_succ, hd]
    dsimp only
    rw [h2]
    simp [encL]
    omega
end Go.Proofs.YtalbjjimnhldfaaGreatDoor
end

/- What is read has just these bytes: plain Lean. -/
section
set_option maxRecDepth 100000
namespace Go.Proofs.YtalbjjimnhldfaaGreatDoor
open Go.Ev
theorem fold_unf {n : Int} (h : 0 ≤ n) : foldI (unfI n) = n := by
  unfold unfI foldI
  split <;> split <;> omega
theorem unf_in {n : Int} (h : 0 ≤ n) (h2 : n < 18446744073709551616) : -9223372036854775808 ≤ unfI n ∧ unfI n ≤ 9223372036854775807 := by
  unfold unfI
  split <;> omega
theorem frm_ok (n : Int) : (frm n).Ok := by
  refine ⟨⟨?_, ?_⟩, ⟨?_, ?_⟩, ⟨?_, ?_⟩, ⟨?_, ?_⟩, ⟨?_, ?_⟩, ⟨?_, ?_⟩, ⟨?_, ?_⟩, ⟨?_, ?_⟩⟩ <;> (unfold frm; dsimp only; omega)
theorem dnum_frm {n : Int} (h : 0 ≤ n) (h2 : n < 18446744073709551616) : dnum (frm n).l = n := by
  rw [dnum_eq (frm_ok n)]
  unfold frm
  dsimp only
  have e1 : n / 65536 = n / 256 / 256 := by omega
  have e2 : n / 16777216 = n / 65536 / 256 := by omega
  have e3 : n / 4294967296 = n / 16777216 / 256 := by omega
  have e4 : n / 1099511627776 = n / 4294967296 / 256 := by omega
  have e5 : n / 281474976710656 = n / 1099511627776 / 256 := by omega
  have e6 : n / 72057594037927936 = n / 281474976710656 / 256 := by omega
  have e7 : n / 72057594037927936 < 256 ∧ 0 ≤ n / 72057594037927936 := by omega
  have e0 : n = n / 256 * 256 + n % 256 := by omega
  generalize n / 72057594037927936 = q7 at *
  generalize n / 281474976710656 = q6 at *
  generalize n / 1099511627776 = q5 at *
  generalize n / 4294967296 = q4 at *
  generalize n / 16777216 = q3 at *
  generalize n / 65536 = q2 at *
  generalize n / 256 = q1 at *
  rw [show 0 * 256 + q7 % 256 = q7 by omega, show q7 * 256 + q6 % 256 = q6 by omega, show q6 * 256 + q5 % 256 = q5 by omega, show q5 * 256 + q4 % 256 = q4 by omega, show q4 * 256 + q3 % 256 = q3 by omega, show q3 * 256 + q2 % 256 = q2 by omega, show q2 * 256 + q1 % 256 = q1 by omega]
  exact e0.symm
theorem rd_take {xs : List Int} (hb : Byts8 xs) {p e m : Int} (hp : 0 ≤ p) (hp2 : p ≤ xs.length) (h : (rdC xs p e m).e = 0) :
    e = 0 ∧ (0 ≤ (rdC xs p e m).n ∧ (rdC xs p e m).n < 18446744073709551616 ∧ (rdC xs p e m).n ≤ m) ∧ xs.take (rdC xs p e m).at_.toNat = xs.take p.toNat ++ num (rdC xs p e m).n.toNat := by
  have he : e = 0 := Decidable.byContradiction fun he => by rw [rdC_ne he] at h; exact he h
  subst he
  by_cases h2 : (lookN (xs.drop p.toNat)).e ≠ 0
  · rw [rdC_bad (by simp) h2] at h; exact absurd h h2
  by_cases h3 : m < (lookN (xs.drop p.toNat)).n
  · rw [rdC_big (by simp) h2 h3] at h; exact absurd (show (2 : Int) = 0 from h) (by decide)
  rw [rdC_ok (by simp) h2 h3]
  obtain ⟨n, k1, k2, k3, k4, k5⟩ := lookN_ok (byts_drop hb p.toNat) (Decidable.not_not.1 h2)
  dsimp only
  rw [k1, k3]
  refine ⟨rfl, ⟨by omega, by omega, by omega⟩, ?_⟩
  rw [show (p + ((num n).length : Nat)).toNat = p.toNat + (num n).length by omega, List.take_add, Int.toNat_natCast]
  congr 1
  rw [k5, List.take_left']
  rfl
theorem wd_take {xs : List Int} (hb : Byts8 xs) {p e : Int} (hp : 0 ≤ p) (hp2 : p ≤ xs.length) (h : (wdC xs p e).e = 0) :
    e = 0 ∧ (-2147483648 ≤ (wdC xs p e).w ∧ (wdC xs p e).w ≤ 2147483647) ∧ xs.take (wdC xs p e).at_.toNat = xs.take p.toNat ++ num (foldI (wdC xs p e).w).toNat := by
  by_cases hc : (rdC xs p e 18446744073709551615).e = 0 ∧ (unfI (rdC xs p e 18446744073709551615).n < -2147483648 ∨ 2147483647 < unfI (rdC xs p e 18446744073709551615).n)
  · rw [wdC_bad hc] at h; exact absurd (show (2 : Int) = 0 from h) (by decide)
  rw [wdC_ok hc] at h ⊢
  dsimp only at h ⊢
  obtain ⟨k1, ⟨k2, k3, _⟩, k5⟩ := rd_take hb hp hp2 h
  have hr : -2147483648 ≤ unfI (rdC xs p e 18446744073709551615).n ∧ unfI (rdC xs p e 18446744073709551615).n ≤ 2147483647 := by omega
  have hw : IntKind.wrap .i32 (unfI (rdC xs p e 18446744073709551615).n) = unfI (rdC xs p e 18446744073709551615).n := by rw [wrap_i32']; omega
  rw [hw, fold_unf k2]
  exact ⟨k1, hr, k5⟩
theorem ws_take {xs : List Int} (hb : Byts8 xs) : ∀ (n : Nat) {p e : Int}, 0 ≤ p → p ≤ xs.length → (wsC xs n p e).e = 0 →
    e = 0 ∧ ((wsC xs n p e).ws.length = n ∧ ∀ w ∈ (wsC xs n p e).ws, -2147483648 ≤ w ∧ w ≤ 2147483647) ∧ xs.take (wsC xs n p e).at_.toNat = xs.take p.toNat ++ encL (wsC xs n p e).ws := by
  intro n
  induction n with
  | zero => intro p e _ _ h; exact ⟨h, ⟨rfl, fun w hw => (by cases hw)⟩, by simp [wsC, encL]⟩
  | succ n ih =>
    intro p e h0 h1 h
    have he : e = 0 := Decidable.byContradiction fun he => by rw [wsC_ne _ _ _ he] at h; exact he h
    subst he
    rw [wsC_succ] at h ⊢
    dsimp only at h ⊢
    obtain ⟨k0, k1⟩ := wdC_in (e := 0) hb h0 h1
    obtain ⟨g1, ⟨g2, g3⟩, g4⟩ := ih k0 k1 h
    obtain ⟨_, w1, w2⟩ := wd_take hb h0 h1 g1
    refine ⟨rfl, ⟨by simp [g2], fun w hw => ?_⟩, ?_⟩
    · rcases List.mem_cons.1 hw with e | hw
      · subst e; exact w1
      · exact g3 w hw
    · rw [g4, w2]; simp [encL]
theorem rs_take {xs : List Int} (hb : Byts8 xs) {m : Int} (hm : 0 ≤ m) : ∀ (n : Nat) {p e : Int}, 0 ≤ p → p ≤ xs.length → (rsC xs m n p e).e = 0 →
    e = 0 ∧ ((rsC xs m n p e).ns.length = n ∧ ∀ w ∈ (rsC xs m n p e).ns, 0 ≤ w ∧ w < 18446744073709551616 ∧ w ≤ m) ∧ (0 ≤ (rsC xs m n p e).at_ ∧ (rsC xs m n p e).at_ ≤ xs.length) ∧ xs.take (rsC xs m n p e).at_.toNat = xs.take p.toNat ++ (rsC xs m n p e).ns.flatMap fun k => num k.toNat := by
  intro n
  induction n with
  | zero => intro p e h0 h1 h; exact ⟨h, ⟨rfl, fun w hw => (by cases hw)⟩, ⟨h0, h1⟩, by simp [rsC]⟩
  | succ n ih =>
    intro p e h0 h1 h
    have he : e = 0 := Decidable.byContradiction fun he => by rw [rsC_ne _ _ _ _ he] at h; exact he h
    subst he
    rw [rsC_succ] at h ⊢
    dsimp only at h ⊢
    obtain ⟨_, _, k0, k1⟩ := rdC_in (e := 0) hb h0 h1 hm
    obtain ⟨g1, ⟨g2, g3⟩, g5, g4⟩ := ih k0 k1 h
    obtain ⟨_, w1, w2⟩ := rd_take hb h0 h1 g1
    refine ⟨rfl, ⟨by simp [g2], fun w hw => ?_⟩, g5, ?_⟩
    · rcases List.mem_cons.1 hw with e | hw
      · subst e; exact w1
      · exact g3 w hw
    · rw [g4, w2]; simp
theorem flatMap_eq {α β : Type} {f g : α → List β} : ∀ {l : List α}, (∀ x ∈ l, f x = g x) → l.flatMap f = l.flatMap g := by
  intro l
  induction l with
  | nil => intro _; rfl
  | cons x l ih => intro h; rw [List.flatMap_cons, List.flatMap_cons, h x (by simp), ih fun y hy => h y (by simp [hy])]
theorem map_getB (xs : List Bool) : (List.range xs.length).map (fun j => xs.getD j false) = xs := by
  apply List.ext_getElem
  · simp
  · intro i h1 h2
    simp [List.getD, h2]
theorem encG_all (ns : List Int) (h : ∀ n ∈ ns, 0 ≤ n ∧ n < 18446744073709551616 ∧ n ≤ 1) : encG (goneL ns) (goneL ns).length = ns.flatMap fun k => num k.toNat := by
  have h1 := congrArg (fun l : List Bool => l.flatMap fun b => num (if b then 1 else 0)) (map_getB (goneL ns))
  simp only [List.flatMap_map] at h1
  refine Eq.trans h1 ?_
  unfold goneL
  rw [List.flatMap_map]
  refine flatMap_eq fun n hn => ?_
  have := h n hn
  by_cases h1 : n = 1
  · subst h1; rfl
  · rw [show n = 0 by omega]; rfl
theorem frm_len (n : Int) : (frm n).l.length = 8 := rfl
theorem tips_get : ∀ (ns : List Int) (j i : Nat), i < 8 → j < ns.length → (tipsL ns).getD (8 * j + i) 0 = (frm (ns.getD j 0)).l.getD i 0 := by
  intro ns
  induction ns with
  | nil => intro j i _ hj; simp at hj
  | cons n ns ih =>
    intro j i hi hj
    have hc : tipsL (n :: ns) = (frm n).l ++ tipsL ns := by simp [tipsL]
    rw [hc]
    cases j with
    | zero =>
      rw [Nat.mul_zero, Nat.zero_add]
      simp only [List.getD_eq_getElem?_getD, List.getElem?_append_left (show i < (frm n).l.length from hi), List.getElem?_cons_zero, Option.getD_some]
    | succ j =>
      have := ih j i hi (by simpa using hj)
      simp only [List.getD_eq_getElem?_getD] at this ⊢
      rw [List.getElem?_append_right (by rw [frm_len]; omega), frm_len, show 8 * (j + 1) + i - 8 = 8 * j + i by omega, this, List.getElem?_cons_succ]
theorem frm_all (n : Int) : [(frm n).l.getD 0 0, (frm n).l.getD 1 0, (frm n).l.getD 2 0, (frm n).l.getD 3 0, (frm n).l.getD 4 0, (frm n).l.getD 5 0, (frm n).l.getD 6 0, (frm n).l.getD 7 0] = (frm n).l := rfl
theorem encT_all (ns : List Int) (h : ∀ n ∈ ns, 0 ≤ n ∧ n < 18446744073709551616) : encT (tipsL ns) ns.length = ns.flatMap fun k => num k.toNat := by
  have h1 := congrArg (fun l : List Int => l.flatMap fun k => num k.toNat) (map_getD ns)
  simp only [List.flatMap_map] at h1
  refine Eq.trans (flatMap_eq fun j hj => ?_) h1
  have hj : j < ns.length := List.mem_range.1 hj
  have e0 := tips_get ns j 0 (by decide) hj
  rw [Nat.add_zero] at e0
  rw [e0, tips_get ns j 1 (by decide) hj, tips_get ns j 2 (by decide) hj, tips_get ns j 3 (by decide) hj, tips_get ns j 4 (by decide) hj, tips_get ns j 5 (by decide) hj, tips_get ns j 6 (by decide) hj, tips_get ns j 7 (by decide) hj, frm_all, dnum_frm]
  · have hm : ns.getD j 0 ∈ ns := by rw [getD_get hj]; exact List.getElem_mem _
    exact (h _ hm).1
  · have hm : ns.getD j 0 ∈ ns := by rw [getD_get hj]; exact List.getElem_mem _
    exact (h _ hm).2
theorem endC_zero {xs : List Int} {p e : Int} (h : endC xs p e = 0) : e = 0 ∧ ¬ p < xs.length := by
  unfold endC at h
  split at h
  · cases h
  · rename_i h1; exact ⟨h, fun h2 => h1 ⟨h, h2⟩⟩
structure Can (xs : List Int) : Prop where
  v : (decP xs).v.length ≤ 64
  g : (decP xs).g.length ≤ 8
  t : ∃ k : Nat, k ≤ 8 ∧ (decP xs).t.length = k * 8
  w : ∀ n ∈ (decP xs).v, -2147483648 ≤ n ∧ n ≤ 2147483647
  b : Byts8 (decP xs).t
  r0 : -9223372036854775808 ≤ (decP xs).r0 ∧ (decP xs).r0 ≤ 9223372036854775807
  r1 : -9223372036854775808 ≤ (decP xs).r1 ∧ (decP xs).r1 ≤ 9223372036854775807
  r2 : -9223372036854775808 ≤ (decP xs).r2 ∧ (decP xs).r2 ≤ 9223372036854775807
  r3 : -9223372036854775808 ≤ (decP xs).r3 ∧ (decP xs).r3 ≤ 9223372036854775807
  r4 : 0 ≤ (decP xs).r4 ∧ (decP xs).r4 < 18446744073709551616
  enc : ∀ a : PA, a.s3.l * 8 = (decP xs).t.length → a.r0 = (decP xs).r0 → a.r1 = (decP xs).r1 → a.r2 = (decP xs).r2 → a.r3 = (decP xs).r3 → a.r4 = (decP xs).r4 → enc a ⟨(decP xs).v, (decP xs).g, (decP xs).t⟩ = xs
theorem decP_can {xs : List Int} (hb : Byts8 xs) (h : (decP xs).e = 0) : Can xs := by
  obtain ⟨e4, hend⟩ := endC_zero (show endC xs (r4C xs).at_ (r4C xs).e = 0 from h)
  have eT : (dTC xs).e = 0 := Decidable.byContradiction fun h => h ((r4_sticky rfl h).symm.trans e4)
  have eG : (dGC xs).e = 0 := Decidable.byContradiction fun h => h ((dT_sticky rfl h).symm.trans eT)
  have eW : (dWC xs).e = 0 := Decidable.byContradiction fun h => h ((dG_sticky rfl h).symm.trans eG)
  have e3 : (r3C xs).e = 0 := Decidable.byContradiction fun h => h ((rdC_e h).symm.trans e4)
  have e2 : (r2C xs).e = 0 := Decidable.byContradiction fun h => h ((rdC_e h).symm.trans e3)
  have e1 : (r1C xs).e = 0 := Decidable.byContradiction fun h => h ((rdC_e h).symm.trans e2)
  have e0 : (r0C xs).e = 0 := Decidable.byContradiction fun h => h ((rdC_e h).symm.trans e1)
  obtain ⟨_, v1, v2, v3⟩ := rdC_in (e := 0) hb (show (0 : Int) ≤ 0 by decide) (by omega) (show (0 : Int) ≤ 64 by decide)
  obtain ⟨w2, w3⟩ := wsC_in hb (dvC xs).n.toNat (e := (dvC xs).e) v2 v3
  obtain ⟨ev, ⟨wl, ww⟩, wt⟩ := ws_take hb (dvC xs).n.toNat (e := (dvC xs).e) v2 v3 eW
  obtain ⟨_, vn, vt⟩ := rd_take hb (show (0 : Int) ≤ 0 by decide) (by omega) (show (rdC xs 0 0 64).e = 0 from ev)
  obtain ⟨_, g1, g2, g3⟩ := rdC_in (e := (dWC xs).e) (m := 8) hb w2 w3 (by decide)
  obtain ⟨eg, ⟨gl, gw⟩, ⟨g4, g5⟩, gt⟩ := rs_take hb (m := 1) (by decide) (dgC xs).n.toNat (e := (dgC xs).e) g2 g3 eG
  obtain ⟨_, gn, gt0⟩ := rd_take hb w2 w3 (show (rdC xs (dWC xs).at_ (dWC xs).e 8).e = 0 from eg)
  obtain ⟨_, t1, t2, t3⟩ := rdC_in (e := (dGC xs).e) (m := 8) hb g4 g5 (by decide)
  obtain ⟨et, ⟨tl, tw⟩, ⟨t4, t5⟩, tt⟩ := rs_take hb (m := 18446744073709551615) (by decide) (dtC xs).n.toNat (e := (dtC xs).e) t2 t3 eT
  obtain ⟨_, tn, tt0⟩ := rd_take hb g4 g5 (show (rdC xs (dGC xs).at_ (dGC xs).e 8).e = 0 from et)
  obtain ⟨_, _, a2, a3⟩ := rdC_in (e := (dTC xs).e) (m := 18446744073709551615) hb t4 t5 (by decide)
  obtain ⟨_, n0, s0⟩ := rd_take hb t4 t5 (show (rdC xs (dTC xs).at_ (dTC xs).e 18446744073709551615).e = 0 from e0)
  obtain ⟨_, _, b2, b3⟩ := rdC_in (e := (r0C xs).e) (m := 18446744073709551615) hb (p := (r0C xs).at_) a2 a3 (by decide)
  obtain ⟨_, n1, s1⟩ := rd_take hb (p := (r0C xs).at_) a2 a3 (show (rdC xs (r0C xs).at_ (r0C xs).e 18446744073709551615).e = 0 from e1)
  obtain ⟨_, _, c2, c3⟩ := rdC_in (e := (r1C xs).e) (m := 18446744073709551615) hb (p := (r1C xs).at_) b2 b3 (by decide)
  obtain ⟨_, n2, s2⟩ := rd_take hb (p := (r1C xs).at_) b2 b3 (show (rdC xs (r1C xs).at_ (r1C xs).e 18446744073709551615).e = 0 from e2)
  obtain ⟨_, _, d2, d3⟩ := rdC_in (e := (r2C xs).e) (m := 18446744073709551615) hb (p := (r2C xs).at_) c2 c3 (by decide)
  obtain ⟨_, n3, s3⟩ := rd_take hb (p := (r2C xs).at_) c2 c3 (show (rdC xs (r2C xs).at_ (r2C xs).e 18446744073709551615).e = 0 from e3)
  obtain ⟨_, n4, s4⟩ := rd_take hb (p := (r3C xs).at_) d2 d3 (show (rdC xs (r3C xs).at_ (r3C xs).e 18446744073709551615).e = 0 from e4)
  have s4 : xs.take (r4C xs).at_.toNat = xs.take (r3C xs).at_.toNat ++ num (r4C xs).n.toNat := s4
  have s3 : xs.take (r3C xs).at_.toNat = xs.take (r2C xs).at_.toNat ++ num (r3C xs).n.toNat := s3
  have s2 : xs.take (r2C xs).at_.toNat = xs.take (r1C xs).at_.toNat ++ num (r2C xs).n.toNat := s2
  have s1 : xs.take (r1C xs).at_.toNat = xs.take (r0C xs).at_.toNat ++ num (r1C xs).n.toNat := s1
  have s0 : xs.take (r0C xs).at_.toNat = xs.take (dTC xs).at_.toNat ++ num (r0C xs).n.toNat := s0
  have tt : xs.take (dTC xs).at_.toNat = xs.take (dtC xs).at_.toNat ++ (dTC xs).ns.flatMap fun k => num k.toNat := tt
  have tt0 : xs.take (dtC xs).at_.toNat = xs.take (dGC xs).at_.toNat ++ num (dtC xs).n.toNat := tt0
  have gt : xs.take (dGC xs).at_.toNat = xs.take (dgC xs).at_.toNat ++ (dGC xs).ns.flatMap fun k => num k.toNat := gt
  have gt0 : xs.take (dgC xs).at_.toNat = xs.take (dWC xs).at_.toNat ++ num (dgC xs).n.toNat := gt0
  have wt : xs.take (dWC xs).at_.toNat = xs.take (dvC xs).at_.toNat ++ encL (dWC xs).ws := wt
  have vt : xs.take (dvC xs).at_.toNat = num (dvC xs).n.toNat := vt
  have wl : (dWC xs).ws.length = (dvC xs).n.toNat := wl
  have gl : (dGC xs).ns.length = (dgC xs).n.toNat := gl
  have tl : (dTC xs).ns.length = (dtC xs).n.toNat := tl
  have v1 : (dvC xs).n ≤ 64 := v1
  have g1 : (dgC xs).n ≤ 8 := g1
  have t1 : (dtC xs).n ≤ 8 := t1
  have hall : xs.take (r4C xs).at_.toNat = xs := List.take_of_length_le (by omega)
  refine ⟨by show (dWC xs).ws.length ≤ 64; omega, by show (goneL (dGC xs).ns).length ≤ 8; rw [gone_len]; omega, ⟨(dTC xs).ns.length, by omega, tips_len _⟩, ww, ?_, unf_in n0.1 n0.2.1, unf_in n1.1 n1.2.1, unf_in n2.1 n2.2.1, unf_in n3.1 n3.2.1, ⟨n4.1, n4.2.1⟩, fun a hl h0 h1 h2 h3 h4 => ?_⟩
  · intro z hz
    obtain ⟨n, _, hn⟩ := List.mem_flatMap.1 (show z ∈ tipsL (dTC xs).ns from hz)
    obtain ⟨o0, o1, o2, o3, o4, o5, o6, o7⟩ := frm_ok n
    unfold D8.l at hn
    simp only [List.mem_cons, List.not_mem_nil, or_false] at hn
    rcases hn with e | e | e | e | e | e | e | e <;> (subst e; assumption)
  · have hl : a.s3.l = (dTC xs).ns.length := by have : (decP xs).t.length = (dTC xs).ns.length * 8 := tips_len _; omega
    show enc3 ⟨(dWC xs).ws, goneL (dGC xs).ns, tipsL (dTC xs).ns⟩ a.s3.l a.s3.l ++ encR a = xs
    have f0 : foldI a.r0 = (r0C xs).n := by rw [h0]; exact fold_unf n0.1
    have f1 : foldI a.r1 = (r1C xs).n := by rw [h1]; exact fold_unf n1.1
    have f2 : foldI a.r2 = (r2C xs).n := by rw [h2]; exact fold_unf n2.1
    have f3 : foldI a.r3 = (r3C xs).n := by rw [h3]; exact fold_unf n3.1
    have f4 : a.r4 = (r4C xs).n := h4
    have k1 : encG (goneL (dGC xs).ns) (goneL (dGC xs).ns).length = (dGC xs).ns.flatMap fun k => num k.toNat := encG_all _ gw
    have k2 : encT (tipsL (dTC xs).ns) (dTC xs).ns.length = (dTC xs).ns.flatMap fun k => num k.toNat := encT_all _ fun n hn => ⟨(tw n hn).1, (tw n hn).2.1⟩
    unfold enc3 enc2 enc1 encR
    dsimp only
    rw [hl, f0, f1, f2, f3, f4, k1, k2, encV_all, gone_len, wl, gl, tl]
    conv => rhs; rw [← hall, s4, s3, s2, s1, s0, tt, tt0, gt, gt0, wt, vt]
    simp only [List.append_assoc]
end Go.Proofs.YtalbjjimnhldfaaGreatDoor
end

/- The law of moves: what is to be shown. -/
section
set_option maxRecDepth 100000
namespace Go.Proofs.YtalbjjimnhldfaaGreatDoor
open Go.Ev
-- keep num foldI dnum frm Go.Ev.Sli lookN Byts8 valN lead rdC wdC wsC decM endC unfI OwB Go.Ev.HV LC encM encMk encV MH RI q2C cells0 cells1 cells2 cells4 cells5 cells6 cells8 cells9 cells10
noncomputable section
def globR : List (Nat × PO) := [(0, .f cells0 329 .ro), (1, .f cells1 335 .ro), (2, .f cells2 359 .ro), (4, .f cells4 329 .ro), (5, .f cells5 370 .ro), (6, .f cells6 384 .ro), (8, .f cells8 388 .ro), (9, .f cells9 391 .ro), (10, .f cells10 392 .ro)]
def S_known : SpecD where
  f := 17
  α := Unit
  args _ := []
  R _ := globR
  n := 12
  pre _ := True
  outs := [⟨Unit, fun _ _ => True, fun _ _ => .bool true, fun _ _ => [], fun _ _ => 12, fun _ _ => []⟩]
  pick _ _ := 0
  find _ _ := some ((), [])
end
end Go.Proofs.YtalbjjimnhldfaaGreatDoor
end

/- The law of moves: it is so. -/
section
set_option maxRecDepth 100000
namespace Go.Proofs.YtalbjjimnhldfaaGreatDoor
open Go.Ev
theorem flat_all {c : List Value} (h : c.all ftag = true) : FlatL c := fun v hv => List.all_eq_true.1 h v hv
theorem gl : FlatL cells0 ∧ FlatL cells1 ∧ FlatL cells2 ∧ FlatL cells4 ∧ FlatL cells5 ∧ FlatL cells6 ∧ FlatL cells8 ∧ FlatL cells9 ∧ FlatL cells10 := ⟨flat_all (by kernel_rfl), flat_all (by kernel_rfl), flat_all (by kernel_rfl), flat_all (by kernel_rfl), flat_all (by kernel_rfl), flat_all (by kernel_rfl), flat_all (by kernel_rfl), flat_all (by kernel_rfl), flat_all (by kernel_rfl)⟩
theorem Sli.cut {α : Type} {f : α → Value} {sz o l k m q : Nat} {n : Bool} {c : List Value} {xs : List α} (h : Sli f sz n o l k c xs) (hm : m = q * sz) : Sli f sz n o (min l q) k c (xs.take m) :=
  ⟨h.at_.take m, by
    have := h.len
    rw [List.length_take, hm, this]
    rw [Nat.min_comm (q * sz), Nat.mul_min_mul_right], fun hn => ⟨by have := (h.nil hn).1; omega, (h.nil hn).2⟩, fun hn => Nat.le_trans (Nat.add_le_add_left (Nat.mul_le_mul_right _ (Nat.min_le_left _ _)) _) (h.fit hn), Nat.le_trans (Nat.min_le_left _ _) h.cap, h.flat⟩
theorem MH.cut {a : MA} {xs : List Int} (h : MH a xs) : MH ⟨a.t, ⟨a.s.n, a.s.o, min a.s.l 8, a.s.k, a.s.c⟩, a.d⟩ (xs.take 8) := ⟨Sli.cut (q := 8) h.sl rfl, fun n hn => h.w n (List.mem_of_mem_take hn), h.d⟩
theorem globs : mem globR 12 = ⟨putAll G0 .e, 12⟩ := by kernel_rfl
theorem known_of {hk : Caller → Caller} (hh : HookOK Tryz.prog hk) (hr : resIs (.bool true) (evCallH Tryz.prog E0 hk 300 17 [] ⟨putAll G0 .e, 12⟩) = true) : SpecOK Tryz.prog S_known.spec := fun a K _ hq => by
  cases hev : evCallH Tryz.prog E0 hk 300 17 [] ⟨putAll G0 .e, 12⟩ with
  | none => rw [hev] at hr; cases hr
  | some p =>
    obtain ⟨v1, B⟩ := p
    rw [hev] at hr
    obtain rfl := veq6_eq (show veq6 v1 (.bool true) = true from hr)
    have hsem : FnSem Tryz.prog 17 [] (mem globR 12) (.bool true) B := fun σ w args' hR ha => by
      rw [globs] at hR ⊢
      exact evCallH_ok envOK hh 300 _ [] _ _ B hev σ w args' hR ha
    exact ⟨.bool true, [], 12, hq.1 () trivial, fun _ _ _ _ h => (nomatch h), fnSem_seen rfl hsem (l := []) (cpb_iff.2 ⟨by kernel_rfl, rfl, trivial⟩)⟩
theorem s_known : SpecOK Tryz.prog S_known.spec := known_of hooksB known17_run
end Go.Proofs.YtalbjjimnhldfaaGreatDoor
end

/- Whether bytes are the same, two ways out: what is to be shown. -/
section
set_option maxRecDepth 100000
namespace Go.Proofs.YtalbjjimnhldfaaGreatDoor
open Go.Ev
-- keep Go.Ev.Sli
noncomputable section
def S_sameB : SpecD where
  f := 21
  α := S2
  args a := [a.a.v 12, a.b.v (12 + 1)]
  R a := [(12, .f a.a.c 5 .gro), (12 + 1, .f a.b.c 5 .gro)]
  n := 12 + 2
  pre a := (∃ xs ys, Sli (Value.int .u8) 1 a.a.n a.a.o a.a.l a.a.k a.a.c xs ∧ Sli (Value.int .u8) 1 a.b.n a.b.o a.b.l a.b.k a.b.c ys) ∧ (a.a.l ≤ 1000000 ∧ a.b.l ≤ 1000000)
  outs := [⟨Unit, fun a _ => ∀ xs ys, Sli (Value.int .u8) 1 a.a.n a.a.o a.a.l a.a.k a.a.c xs → Sli (Value.int .u8) 1 a.b.n a.b.o a.b.l a.b.k a.b.c ys → xs = ys, fun _ _ => .bool true, fun _ _ => [], fun _ _ => 12 + 2, fun _ _ => []⟩,
    ⟨Unit, fun a _ => ∀ xs ys, Sli (Value.int .u8) 1 a.a.n a.a.o a.a.l a.a.k a.a.c xs → Sli (Value.int .u8) 1 a.b.n a.b.o a.b.l a.b.k a.b.c ys → xs ≠ ys, fun _ _ => .bool false, fun _ _ => [], fun _ _ => 12 + 2, fun _ _ => []⟩]
  pick v _ := match v with
    | .bool true => 0
    | _ => 1
  find l A := saK A 12 (lv l 0) fun a r => saK A (12 + 1) (lv l 1) fun b q => some (⟨a, b⟩, r ++ q)
def G_sameB (a : S2) (xs ys : List Int) : Prop := fnW Tryz.prog E0 cw0 [some (la_same a xs ys)] S_sameB.f (S_sameB.args a) (mem (S_sameB.R a) S_sameB.n) (endD Tryz.prog S_sameB a)
end
end Go.Proofs.YtalbjjimnhldfaaGreatDoor
end

/- Whether bytes are the same, two ways out: it is so. -/
section
set_option maxRecDepth 100000
namespace Go.Proofs.YtalbjjimnhldfaaGreatDoor
open Go.Ev
theorem vc_sameB (a : S2) (xs ys : List Int) : G_sameB a xs ys = (∀ (x0 : Int), x0 = (↑a.1.3 : Int) → ∀ (x1 : Int), x1 = (↑a.2.3 : Int) → (x0 ≠ x1 → ∃ (x2 : Unit), (∀ (x3 x4 : List Int), SB a.1.1 a.1.2 a.1.3 a.1.4 a.1.5 x3 → SB a.2.1 a.2.2 a.2.3
a.2.4 a.2.5 x4 → x3 ≠ x4) ∧ false = false ∧ True) ∧ (¬x0 ≠ x1 → ∃ (x5 : IL), ((0 ≤ x5.1 ∧ x5.1 ≤ (↑a.1.3 : Int)) ∧ List.take (Int.toNat x5.1) xs = List.take (Int.toNat x5.1) ys) ∧
((Z4 a.1 ∧ Z4 a.2 ∧ x5.1 = 0 ∧ True) ∧ (ZF a.1.5 ∧ ZF a.2.5 ∧ True) ∧ True) ∧ ∀ (x6 : IL), (0 ≤ x6.1 ∧ x6.1 ≤ (↑a.1.3 : Int)) ∧ List.take (Int.toNat x6.1) xs = List.take (Int.toNat
x6.1) ys → ∀ (x7 : Int), x7 = (↑a.1.3 : Int) → (x6.1 < x7 → (0 ≤ x6.1 ∧ x6.1 < (↑a.1.3 : Int)) ∧ ∀ (x8 : Nat), x8 = a.1.2 + Int.toNat x6.1 * 1 → ∃ (x9 : Int), Rd a.1.5 (Nat.add x8
0) (Value.int IntKind.u8 x9) ∧ (0 ≤ x6.1 ∧ x6.1 < (↑a.2.3 : Int)) ∧ ∀ (x10 : Nat), x10 = a.2.2 + Int.toNat x6.1 * 1 → ∃ (x11 : Int), Rd a.2.5 (Nat.add x10 0) (Value.int IntKind.u8
x11) ∧ (x9 ≠ x11 → (True ∧ True ∧ True ∧ True ∧ True ∧ True ∧ True ∧ True ∧ True ∧ True) ∧ ∃ (x12 : Unit), (∀ (x13 x14 : List Int), SB a.1.1 a.1.2 a.1.3 a.1.4 a.1.5 x13 → SB a.2.1
a.2.2 a.2.3 a.2.4 a.2.5 x14 → x13 ≠ x14) ∧ false = false ∧ True) ∧ (¬x9 ≠ x11 → (True ∧ True ∧ True ∧ True ∧ True ∧ True ∧ True ∧ True ∧ True ∧ True) ∧ ∀ x15, x15 = IntKind.wrap
.i64 (x6.1 + (1 : Int)) → ∃ (x16 : IL), ((0 ≤ x16.1 ∧ x16.1 ≤ (↑a.1.3 : Int)) ∧ List.take (Int.toNat x16.1) xs = List.take (Int.toNat x16.1) ys) ∧ Int.toNat ((↑a.1.3 : Int) -
x16.1) < Int.toNat ((↑a.1.3 : Int) - x6.1) ∧ (Z4 a.1 ∧ Z4 a.2 ∧ x16.1 = x15 ∧ True) ∧ (ZF a.1.5 ∧ ZF a.2.5 ∧ True) ∧ True)) ∧ (¬x6.1 < x7 → ∃ (x17 : Unit), (∀ (x18 x19 : List Int),
SB a.1.1 a.1.2 a.1.3 a.1.4 a.1.5 x18 → SB a.2.1 a.2.2 a.2.3 a.2.4 a.2.5 x19 → x18 = x19) ∧ true = true ∧ True))) := by kernel_rfl
theorem g_sameB (a : S2) (xs ys : List Int) (hx : Sli (Value.int .u8) 1 a.a.n a.a.o a.a.l a.a.k a.a.c xs) (hy : Sli (Value.int .u8) 1 a.b.n a.b.o a.b.l a.b.k a.b.c ys) (b1 : a.a.l ≤ 1000000) (b2 : a.b.l ≤ 1000000) : G_sameB a xs ys := by
  have lx := hx.len
  have ly := hy.len
  have fx := hx.flat
  have fy := hy.flat
  rw [vc_sameB]
  intro x0 e0 x1 e1
  refine ⟨fun hne => ⟨(), fun u v hu hv h => ?_, rfl, trivial⟩, fun heq => ?_⟩
  · have := hu.len; have := hv.len; subst h; omega
  have e01 : a.a.l = a.b.l := by omega
  refine ⟨⟨0⟩, ⟨⟨by decide, by simp⟩, by simp⟩, ?_, ?_⟩
  · repeat' first
      | with_reducible apply And.intro
      | exact trivial
      | exact rfl
      | assumption
  rintro ⟨i⟩ ⟨⟨hi0, hi1⟩, ht⟩ x7 e7
  dsimp only at hi0 hi1 ht ⊢
  refine ⟨fun hlt => ?_, fun hge => ?_⟩
  · have h1 : i.toNat < xs.length := by omega
    have h2 : i.toNat < ys.length := by omega
    refine ⟨⟨hi0, by omega⟩, fun p hp => ⟨xs[i.toNat], by rw [hp, Nat.mul_one]; exact hx.at_.get h1, ⟨hi0, by omega⟩, fun q hq => ⟨ys[i.toNat], by rw [hq, Nat.mul_one]; exact hy.at_.get h2, fun hne => ⟨?_, (), fun u v hu hv h => ?_, rfl, trivial⟩, fun hee => ⟨?_, fun z hz => ?_⟩⟩⟩⟩
    · repeat' first
        | with_reducible apply And.intro
        | exact trivial
        | exact rfl
    · exfalso
      have e1 := Sli.uniqI hu hx
      have e2 := Sli.uniqI hv hy
      subst e1 e2
      apply hne
      subst h
      rfl
    · repeat' first
        | with_reducible apply And.intro
        | exact trivial
        | exact rfl
    · rw [wrap_i64] at hz
      have hz' : z.toNat = i.toNat + 1 := by omega
      refine ⟨⟨z⟩, ⟨⟨by show 0 ≤ z; omega, by show z ≤ _; omega⟩, by (show xs.take z.toNat = ys.take z.toNat); rw [hz']; exact take_succ_eq ht h1 h2 (Decidable.not_not.1 hee)⟩, by show ((a.a.l : Int) - z).toNat < ((a.a.l : Int) - i).toNat; omega, ?_⟩
      repeat' first
        | with_reducible apply And.intro
        | exact trivial
        | exact rfl
        | assumption
  · refine ⟨(), fun u v hu hv => ?_, rfl, trivial⟩
    have e1 := Sli.uniqI hu hx
    have e2 := Sli.uniqI hv hy
    subst e1 e2
    rw [List.take_of_length_le (by omega), List.take_of_length_le (by omega)] at ht
    exact ht
theorem s_sameB : SpecOK Tryz.prog S_sameB.spec := fun a K hp hq => by
  obtain ⟨⟨xs, ys, hx, hy⟩, b1, b2⟩ := hp
  exact specD_at (an := [some (la_same a xs ys)]) envOK cw0_ok (fun _ => g_sameB a xs ys hx hy b1 b2) K ⟨⟨xs, ys, hx, hy⟩, b1, b2⟩ hq
end Go.Proofs.YtalbjjimnhldfaaGreatDoor
end
