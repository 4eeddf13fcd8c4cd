/- What is read has just these bytes: plain Lean. -/
import Derived.Test.YtalbjjimnhldfaaGreatDoorYdcQ
import Derived.Test.YtalbjjimnhldfaaGreatDoorYml
set_option maxRecDepth 100000
namespace Go.Proofs.YtalbjjimnhldfaaGreatDoor
open Go.Ev
theorem fold_unf {n : Int} (h : 0 ≤ n) : foldI (unfI n) = n := by
  unfold unfI foldI
  split <;> split <;> omega
theorem unf_in {n : Int} (h : 0 ≤ n) (h2 : n < 18446744073709551616) : -9223372036854775808 ≤ unfI n ∧ unfI n ≤ 9223372036854775807 := by
  unfold unfI
  split <;> omega
theorem frm_ok (n : Int) : (frm n).Ok := by
  refine ⟨⟨?_, ?_⟩, ⟨?_, ?_⟩, ⟨?_, ?_⟩, ⟨?_, ?_⟩, ⟨?_, ?_⟩, ⟨?_, ?_⟩, ⟨?_, ?_⟩, ⟨?_, ?_⟩⟩ <;> (unfold frm; dsimp only; omega)
theorem dnum_frm {n : Int} (h : 0 ≤ n) (h2 : n < 18446744073709551616) : dnum (frm n).l = n := by
  rw [dnum_eq (frm_ok n)]
  unfold frm
  dsimp only
  have e1 : n / 65536 = n / 256 / 256 := by omega
  have e2 : n / 16777216 = n / 65536 / 256 := by omega
  have e3 : n / 4294967296 = n / 16777216 / 256 := by omega
  have e4 : n / 1099511627776 = n / 4294967296 / 256 := by omega
  have e5 : n / 281474976710656 = n / 1099511627776 / 256 := by omega
  have e6 : n / 72057594037927936 = n / 281474976710656 / 256 := by omega
  have e7 : n / 72057594037927936 < 256 ∧ 0 ≤ n / 72057594037927936 := by omega
  have e0 : n = n / 256 * 256 + n % 256 := by omega
  generalize n / 72057594037927936 = q7 at *
  generalize n / 281474976710656 = q6 at *
  generalize n / 1099511627776 = q5 at *
  generalize n / 4294967296 = q4 at *
  generalize n / 16777216 = q3 at *
  generalize n / 65536 = q2 at *
  generalize n / 256 = q1 at *
  rw [show 0 * 256 + q7 % 256 = q7 by omega, show q7 * 256 + q6 % 256 = q6 by omega, show q6 * 256 + q5 % 256 = q5 by omega, show q5 * 256 + q4 % 256 = q4 by omega, show q4 * 256 + q3 % 256 = q3 by omega, show q3 * 256 + q2 % 256 = q2 by omega, show q2 * 256 + q1 % 256 = q1 by omega]
  exact e0.symm
theorem rd_take {xs : List Int} (hb : Byts8 xs) {p e m : Int} (hp : 0 ≤ p) (hp2 : p ≤ xs.length) (h : (rdC xs p e m).e = 0) :
    e = 0 ∧ (0 ≤ (rdC xs p e m).n ∧ (rdC xs p e m).n < 18446744073709551616 ∧ (rdC xs p e m).n ≤ m) ∧ xs.take (rdC xs p e m).at_.toNat = xs.take p.toNat ++ num (rdC xs p e m).n.toNat := by
  have he : e = 0 := Decidable.byContradiction fun he => by rw [rdC_ne he] at h; exact he h
  subst he
  by_cases h2 : (lookN (xs.drop p.toNat)).e ≠ 0
  · rw [rdC_bad (by simp) h2] at h; exact absurd h h2
  by_cases h3 : m < (lookN (xs.drop p.toNat)).n
  · rw [rdC_big (by simp) h2 h3] at h; exact absurd (show (2 : Int) = 0 from h) (by decide)
  rw [rdC_ok (by simp) h2 h3]
  obtain ⟨n, k1, k2, k3, k4, k5⟩ := lookN_ok (byts_drop hb p.toNat) (Decidable.not_not.1 h2)
  dsimp only
  rw [k1, k3]
  refine ⟨rfl, ⟨by omega, by omega, by omega⟩, ?_⟩
  rw [show (p + ((num n).length : Nat)).toNat = p.toNat + (num n).length by omega, List.take_add, Int.toNat_natCast]
  congr 1
  rw [k5, List.take_left']
  rfl
theorem wd_take {xs : List Int} (hb : Byts8 xs) {p e : Int} (hp : 0 ≤ p) (hp2 : p ≤ xs.length) (h : (wdC xs p e).e = 0) :
    e = 0 ∧ (-2147483648 ≤ (wdC xs p e).w ∧ (wdC xs p e).w ≤ 2147483647) ∧ xs.take (wdC xs p e).at_.toNat = xs.take p.toNat ++ num (foldI (wdC xs p e).w).toNat := by
  by_cases hc : (rdC xs p e 18446744073709551615).e = 0 ∧ (unfI (rdC xs p e 18446744073709551615).n < -2147483648 ∨ 2147483647 < unfI (rdC xs p e 18446744073709551615).n)
  · rw [wdC_bad hc] at h; exact absurd (show (2 : Int) = 0 from h) (by decide)
  rw [wdC_ok hc] at h ⊢
  dsimp only at h ⊢
  obtain ⟨k1, ⟨k2, k3, _⟩, k5⟩ := rd_take hb hp hp2 h
  have hr : -2147483648 ≤ unfI (rdC xs p e 18446744073709551615).n ∧ unfI (rdC xs p e 18446744073709551615).n ≤ 2147483647 := by omega
  have hw : IntKind.wrap .i32 (unfI (rdC xs p e 18446744073709551615).n) = unfI (rdC xs p e 18446744073709551615).n := by rw [wrap_i32']; omega
  rw [hw, fold_unf k2]
  exact ⟨k1, hr, k5⟩
theorem ws_take {xs : List Int} (hb : Byts8 xs) : ∀ (n : Nat) {p e : Int}, 0 ≤ p → p ≤ xs.length → (wsC xs n p e).e = 0 →
    e = 0 ∧ ((wsC xs n p e).ws.length = n ∧ ∀ w ∈ (wsC xs n p e).ws, -2147483648 ≤ w ∧ w ≤ 2147483647) ∧ xs.take (wsC xs n p e).at_.toNat = xs.take p.toNat ++ encL (wsC xs n p e).ws := by
  intro n
  induction n with
  | zero => intro p e _ _ h; exact ⟨h, ⟨rfl, fun w hw => (by cases hw)⟩, by simp [wsC, encL]⟩
  | succ n ih =>
    intro p e h0 h1 h
    have he : e = 0 := Decidable.byContradiction fun he => by rw [wsC_ne _ _ _ he] at h; exact he h
    subst he
    rw [wsC_succ] at h ⊢
    dsimp only at h ⊢
    obtain ⟨k0, k1⟩ := wdC_in (e := 0) hb h0 h1
    obtain ⟨g1, ⟨g2, g3⟩, g4⟩ := ih k0 k1 h
    obtain ⟨_, w1, w2⟩ := wd_take hb h0 h1 g1
    refine ⟨rfl, ⟨by simp [g2], fun w hw => ?_⟩, ?_⟩
    · rcases List.mem_cons.1 hw with e | hw
      · subst e; exact w1
      · exact g3 w hw
    · rw [g4, w2]; simp [encL]
theorem rs_take {xs : List Int} (hb : Byts8 xs) {m : Int} (hm : 0 ≤ m) : ∀ (n : Nat) {p e : Int}, 0 ≤ p → p ≤ xs.length → (rsC xs m n p e).e = 0 →
    e = 0 ∧ ((rsC xs m n p e).ns.length = n ∧ ∀ w ∈ (rsC xs m n p e).ns, 0 ≤ w ∧ w < 18446744073709551616 ∧ w ≤ m) ∧ (0 ≤ (rsC xs m n p e).at_ ∧ (rsC xs m n p e).at_ ≤ xs.length) ∧ xs.take (rsC xs m n p e).at_.toNat = xs.take p.toNat ++ (rsC xs m n p e).ns.flatMap fun k => num k.toNat := by
  intro n
  induction n with
  | zero => intro p e h0 h1 h; exact ⟨h, ⟨rfl, fun w hw => (by cases hw)⟩, ⟨h0, h1⟩, by simp [rsC]⟩
  | succ n ih =>
    intro p e h0 h1 h
    have he : e = 0 := Decidable.byContradiction fun he => by rw [rsC_ne _ _ _ _ he] at h; exact he h
    subst he
    rw [rsC_succ] at h ⊢
    dsimp only at h ⊢
    obtain ⟨_, _, k0, k1⟩ := rdC_in (e := 0) hb h0 h1 hm
    obtain ⟨g1, ⟨g2, g3⟩, g5, g4⟩ := ih k0 k1 h
    obtain ⟨_, w1, w2⟩ := rd_take hb h0 h1 g1
    refine ⟨rfl, ⟨by simp [g2], fun w hw => ?_⟩, g5, ?_⟩
    · rcases List.mem_cons.1 hw with e | hw
      · subst e; exact w1
      · exact g3 w hw
    · rw [g4, w2]; simp
theorem flatMap_eq {α β : Type} {f g : α → List β} : ∀ {l : List α}, (∀ x ∈ l, f x = g x) → l.flatMap f = l.flatMap g := by
  intro l
  induction l with
  | nil => intro _; rfl
  | cons x l ih => intro h; rw [List.flatMap_cons, List.flatMap_cons, h x (by simp), ih fun y hy => h y (by simp [hy])]
theorem map_getB (xs : List Bool) : (List.range xs.length).map (fun j => xs.getD j false) = xs := by
  apply List.ext_getElem
  · simp
  · intro i h1 h2
    simp [List.getD, h2]
theorem encG_all (ns : List Int) (h : ∀ n ∈ ns, 0 ≤ n ∧ n < 18446744073709551616 ∧ n ≤ 1) : encG (goneL ns) (goneL ns).length = ns.flatMap fun k => num k.toNat := by
  have h1 := congrArg (fun l : List Bool => l.flatMap fun b => num (if b then 1 else 0)) (map_getB (goneL ns))
  simp only [List.flatMap_map] at h1
  refine Eq.trans h1 ?_
  unfold goneL
  rw [List.flatMap_map]
  refine flatMap_eq fun n hn => ?_
  have := h n hn
  by_cases h1 : n = 1
  · subst h1; rfl
  · rw [show n = 0 by omega]; rfl
theorem frm_len (n : Int) : (frm n).l.length = 8 := rfl
theorem tips_get : ∀ (ns : List Int) (j i : Nat), i < 8 → j < ns.length → (tipsL ns).getD (8 * j + i) 0 = (frm (ns.getD j 0)).l.getD i 0 := by
  intro ns
  induction ns with
  | nil => intro j i _ hj; simp at hj
  | cons n ns ih =>
    intro j i hi hj
    have hc : tipsL (n :: ns) = (frm n).l ++ tipsL ns := by simp [tipsL]
    rw [hc]
    cases j with
    | zero =>
      rw [Nat.mul_zero, Nat.zero_add]
      simp only [List.getD_eq_getElem?_getD, List.getElem?_append_left (show i < (frm n).l.length from hi), List.getElem?_cons_zero, Option.getD_some]
    | succ j =>
      have := ih j i hi (by simpa using hj)
      simp only [List.getD_eq_getElem?_getD] at this ⊢
      rw [List.getElem?_append_right (by rw [frm_len]; omega), frm_len, show 8 * (j + 1) + i - 8 = 8 * j + i by omega, this, List.getElem?_cons_succ]
theorem frm_all (n : Int) : [(frm n).l.getD 0 0, (frm n).l.getD 1 0, (frm n).l.getD 2 0, (frm n).l.getD 3 0, (frm n).l.getD 4 0, (frm n).l.getD 5 0, (frm n).l.getD 6 0, (frm n).l.getD 7 0] = (frm n).l := rfl
theorem encT_all (ns : List Int) (h : ∀ n ∈ ns, 0 ≤ n ∧ n < 18446744073709551616) : encT (tipsL ns) ns.length = ns.flatMap fun k => num k.toNat := by
  have h1 := congrArg (fun l : List Int => l.flatMap fun k => num k.toNat) (map_getD ns)
  simp only [List.flatMap_map] at h1
  refine Eq.trans (flatMap_eq fun j hj => ?_) h1
  have hj : j < ns.length := List.mem_range.1 hj
  have e0 := tips_get ns j 0 (by decide) hj
  rw [Nat.add_zero] at e0
  rw [e0, tips_get ns j 1 (by decide) hj, tips_get ns j 2 (by decide) hj, tips_get ns j 3 (by decide) hj, tips_get ns j 4 (by decide) hj, tips_get ns j 5 (by decide) hj, tips_get ns j 6 (by decide) hj, tips_get ns j 7 (by decide) hj, frm_all, dnum_frm]
  · have hm : ns.getD j 0 ∈ ns := by rw [getD_get hj]; exact List.getElem_mem _
    exact (h _ hm).1
  · have hm : ns.getD j 0 ∈ ns := by rw [getD_get hj]; exact List.getElem_mem _
    exact (h _ hm).2
theorem endC_zero {xs : List Int} {p e : Int} (h : endC xs p e = 0) : e = 0 ∧ ¬ p < xs.length := by
  unfold endC at h
  split at h
  · cases h
  · rename_i h1; exact ⟨h, fun h2 => h1 ⟨h, h2⟩⟩
/-- What a position that was read holds; and its bytes. -/
structure Can (xs : List Int) : Prop where
  v : (decP xs).v.length ≤ 64
  g : (decP xs).g.length ≤ 8
  t : ∃ k : Nat, k ≤ 8 ∧ (decP xs).t.length = k * 8
  w : ∀ n ∈ (decP xs).v, -2147483648 ≤ n ∧ n ≤ 2147483647
  b : Byts8 (decP xs).t
  r0 : -9223372036854775808 ≤ (decP xs).r0 ∧ (decP xs).r0 ≤ 9223372036854775807
  r1 : -9223372036854775808 ≤ (decP xs).r1 ∧ (decP xs).r1 ≤ 9223372036854775807
  r2 : -9223372036854775808 ≤ (decP xs).r2 ∧ (decP xs).r2 ≤ 9223372036854775807
  r3 : -9223372036854775808 ≤ (decP xs).r3 ∧ (decP xs).r3 ≤ 9223372036854775807
  r4 : 0 ≤ (decP xs).r4 ∧ (decP xs).r4 < 18446744073709551616
  enc : ∀ a : PA, a.s3.l * 8 = (decP xs).t.length → a.r0 = (decP xs).r0 → a.r1 = (decP xs).r1 → a.r2 = (decP xs).r2 → a.r3 = (decP xs).r3 → a.r4 = (decP xs).r4 → enc a ⟨(decP xs).v, (decP xs).g, (decP xs).t⟩ = xs
theorem decP_can {xs : List Int} (hb : Byts8 xs) (h : (decP xs).e = 0) : Can xs := by
  obtain ⟨e4, hend⟩ := endC_zero (show endC xs (r4C xs).at_ (r4C xs).e = 0 from h)
  have eT : (dTC xs).e = 0 := Decidable.byContradiction fun h => h ((r4_sticky rfl h).symm.trans e4)
  have eG : (dGC xs).e = 0 := Decidable.byContradiction fun h => h ((dT_sticky rfl h).symm.trans eT)
  have eW : (dWC xs).e = 0 := Decidable.byContradiction fun h => h ((dG_sticky rfl h).symm.trans eG)
  have e3 : (r3C xs).e = 0 := Decidable.byContradiction fun h => h ((rdC_e h).symm.trans e4)
  have e2 : (r2C xs).e = 0 := Decidable.byContradiction fun h => h ((rdC_e h).symm.trans e3)
  have e1 : (r1C xs).e = 0 := Decidable.byContradiction fun h => h ((rdC_e h).symm.trans e2)
  have e0 : (r0C xs).e = 0 := Decidable.byContradiction fun h => h ((rdC_e h).symm.trans e1)
  obtain ⟨_, v1, v2, v3⟩ := rdC_in (e := 0) hb (show (0 : Int) ≤ 0 by decide) (by omega) (show (0 : Int) ≤ 64 by decide)
  obtain ⟨w2, w3⟩ := wsC_in hb (dvC xs).n.toNat (e := (dvC xs).e) v2 v3
  obtain ⟨ev, ⟨wl, ww⟩, wt⟩ := ws_take hb (dvC xs).n.toNat (e := (dvC xs).e) v2 v3 eW
  obtain ⟨_, vn, vt⟩ := rd_take hb (show (0 : Int) ≤ 0 by decide) (by omega) (show (rdC xs 0 0 64).e = 0 from ev)
  obtain ⟨_, g1, g2, g3⟩ := rdC_in (e := (dWC xs).e) (m := 8) hb w2 w3 (by decide)
  obtain ⟨eg, ⟨gl, gw⟩, ⟨g4, g5⟩, gt⟩ := rs_take hb (m := 1) (by decide) (dgC xs).n.toNat (e := (dgC xs).e) g2 g3 eG
  obtain ⟨_, gn, gt0⟩ := rd_take hb w2 w3 (show (rdC xs (dWC xs).at_ (dWC xs).e 8).e = 0 from eg)
  obtain ⟨_, t1, t2, t3⟩ := rdC_in (e := (dGC xs).e) (m := 8) hb g4 g5 (by decide)
  obtain ⟨et, ⟨tl, tw⟩, ⟨t4, t5⟩, tt⟩ := rs_take hb (m := 18446744073709551615) (by decide) (dtC xs).n.toNat (e := (dtC xs).e) t2 t3 eT
  obtain ⟨_, tn, tt0⟩ := rd_take hb g4 g5 (show (rdC xs (dGC xs).at_ (dGC xs).e 8).e = 0 from et)
  obtain ⟨_, _, a2, a3⟩ := rdC_in (e := (dTC xs).e) (m := 18446744073709551615) hb t4 t5 (by decide)
  obtain ⟨_, n0, s0⟩ := rd_take hb t4 t5 (show (rdC xs (dTC xs).at_ (dTC xs).e 18446744073709551615).e = 0 from e0)
  obtain ⟨_, _, b2, b3⟩ := rdC_in (e := (r0C xs).e) (m := 18446744073709551615) hb (p := (r0C xs).at_) a2 a3 (by decide)
  obtain ⟨_, n1, s1⟩ := rd_take hb (p := (r0C xs).at_) a2 a3 (show (rdC xs (r0C xs).at_ (r0C xs).e 18446744073709551615).e = 0 from e1)
  obtain ⟨_, _, c2, c3⟩ := rdC_in (e := (r1C xs).e) (m := 18446744073709551615) hb (p := (r1C xs).at_) b2 b3 (by decide)
  obtain ⟨_, n2, s2⟩ := rd_take hb (p := (r1C xs).at_) b2 b3 (show (rdC xs (r1C xs).at_ (r1C xs).e 18446744073709551615).e = 0 from e2)
  obtain ⟨_, _, d2, d3⟩ := rdC_in (e := (r2C xs).e) (m := 18446744073709551615) hb (p := (r2C xs).at_) c2 c3 (by decide)
  obtain ⟨_, n3, s3⟩ := rd_take hb (p := (r2C xs).at_) c2 c3 (show (rdC xs (r2C xs).at_ (r2C xs).e 18446744073709551615).e = 0 from e3)
  obtain ⟨_, n4, s4⟩ := rd_take hb (p := (r3C xs).at_) d2 d3 (show (rdC xs (r3C xs).at_ (r3C xs).e 18446744073709551615).e = 0 from e4)
  have s4 : xs.take (r4C xs).at_.toNat = xs.take (r3C xs).at_.toNat ++ num (r4C xs).n.toNat := s4
  have s3 : xs.take (r3C xs).at_.toNat = xs.take (r2C xs).at_.toNat ++ num (r3C xs).n.toNat := s3
  have s2 : xs.take (r2C xs).at_.toNat = xs.take (r1C xs).at_.toNat ++ num (r2C xs).n.toNat := s2
  have s1 : xs.take (r1C xs).at_.toNat = xs.take (r0C xs).at_.toNat ++ num (r1C xs).n.toNat := s1
  have s0 : xs.take (r0C xs).at_.toNat = xs.take (dTC xs).at_.toNat ++ num (r0C xs).n.toNat := s0
  have tt : xs.take (dTC xs).at_.toNat = xs.take (dtC xs).at_.toNat ++ (dTC xs).ns.flatMap fun k => num k.toNat := tt
  have tt0 : xs.take (dtC xs).at_.toNat = xs.take (dGC xs).at_.toNat ++ num (dtC xs).n.toNat := tt0
  have gt : xs.take (dGC xs).at_.toNat = xs.take (dgC xs).at_.toNat ++ (dGC xs).ns.flatMap fun k => num k.toNat := gt
  have gt0 : xs.take (dgC xs).at_.toNat = xs.take (dWC xs).at_.toNat ++ num (dgC xs).n.toNat := gt0
  have wt : xs.take (dWC xs).at_.toNat = xs.take (dvC xs).at_.toNat ++ encL (dWC xs).ws := wt
  have vt : xs.take (dvC xs).at_.toNat = num (dvC xs).n.toNat := vt
  have wl : (dWC xs).ws.length = (dvC xs).n.toNat := wl
  have gl : (dGC xs).ns.length = (dgC xs).n.toNat := gl
  have tl : (dTC xs).ns.length = (dtC xs).n.toNat := tl
  have v1 : (dvC xs).n ≤ 64 := v1
  have g1 : (dgC xs).n ≤ 8 := g1
  have t1 : (dtC xs).n ≤ 8 := t1
  have hall : xs.take (r4C xs).at_.toNat = xs := List.take_of_length_le (by omega)
  refine ⟨by show (dWC xs).ws.length ≤ 64; omega, by show (goneL (dGC xs).ns).length ≤ 8; rw [gone_len]; omega, ⟨(dTC xs).ns.length, by omega, tips_len _⟩, ww, ?_, unf_in n0.1 n0.2.1, unf_in n1.1 n1.2.1, unf_in n2.1 n2.2.1, unf_in n3.1 n3.2.1, ⟨n4.1, n4.2.1⟩, fun a hl h0 h1 h2 h3 h4 => ?_⟩
  · intro z hz
    obtain ⟨n, _, hn⟩ := List.mem_flatMap.1 (show z ∈ tipsL (dTC xs).ns from hz)
    obtain ⟨o0, o1, o2, o3, o4, o5, o6, o7⟩ := frm_ok n
    unfold D8.l at hn
    simp only [List.mem_cons, List.not_mem_nil, or_false] at hn
    rcases hn with e | e | e | e | e | e | e | e <;> (subst e; assumption)
  · have hl : a.s3.l = (dTC xs).ns.length := by have : (decP xs).t.length = (dTC xs).ns.length * 8 := tips_len _; omega
    show enc3 ⟨(dWC xs).ws, goneL (dGC xs).ns, tipsL (dTC xs).ns⟩ a.s3.l a.s3.l ++ encR a = xs
    have f0 : foldI a.r0 = (r0C xs).n := by rw [h0]; exact fold_unf n0.1
    have f1 : foldI a.r1 = (r1C xs).n := by rw [h1]; exact fold_unf n1.1
    have f2 : foldI a.r2 = (r2C xs).n := by rw [h2]; exact fold_unf n2.1
    have f3 : foldI a.r3 = (r3C xs).n := by rw [h3]; exact fold_unf n3.1
    have f4 : a.r4 = (r4C xs).n := h4
    have k1 : encG (goneL (dGC xs).ns) (goneL (dGC xs).ns).length = (dGC xs).ns.flatMap fun k => num k.toNat := encG_all _ gw
    have k2 : encT (tipsL (dTC xs).ns) (dTC xs).ns.length = (dTC xs).ns.flatMap fun k => num k.toNat := encT_all _ fun n hn => ⟨(tw n hn).1, (tw n hn).2.1⟩
    unfold enc3 enc2 enc1 encR
    dsimp only
    rw [hl, f0, f1, f2, f3, f4, k1, k2, encV_all, gone_len, wl, gl, tl]
    conv => rhs; rw [← hall, s4, s3, s2, s1, s0, tt, tt0, gt, gt0, wt, vt]
    simp only [List.append_assoc]
theorem d80_ok' : d80.Ok := ⟨⟨by decide, by decide⟩, ⟨by decide, by decide⟩, ⟨by decide, by decide⟩, ⟨by decide, by decide⟩, ⟨by decide, by decide⟩, ⟨by decide, by decide⟩, ⟨by decide, by decide⟩, ⟨by decide, by decide⟩⟩
/-- What a move that was read holds; and its bytes. -/
structure CanM (xs : List Int) : Prop where
  l : (decM xs).xs.length ≤ 4
  w : ∀ n ∈ (decM xs).xs, -2147483648 ≤ n ∧ n ≤ 2147483647
  d : (decM xs).d.Ok
  enc : encM (decM xs).t (decM xs).xs (decM xs).d = xs
theorem decM_can {xs : List Int} (hb : Byts8 xs) (h : (decM xs).e = 0) : CanM xs := by
  obtain ⟨_, p1, p2, p3⟩ := rdC_in (e := 0) hb (show (0 : Int) ≤ 0 by decide) (by omega) (show (0 : Int) ≤ 1 by decide)
  by_cases hk : (rdC xs 0 0 1).n = 1
  · have hd := decM_t hk
    rw [hd] at h
    obtain ⟨e2, hend⟩ := endC_zero h
    obtain ⟨e1, n2, s2⟩ := rd_take hb p2 p3 e2
    obtain ⟨_, n1, s1⟩ := rd_take hb (show (0 : Int) ≤ 0 by decide) (by omega) e1
    have hall := List.take_of_length_le (l := xs) (i := (rdC xs (rdC xs 0 0 1).at_ (rdC xs 0 0 1).e 18446744073709551615).at_.toNat) (by omega)
    refine ⟨by rw [hd]; exact Nat.zero_le _, by (rw [hd]; intro n hn; exact absurd hn (by simp)), by rw [hd]; exact frm_ok _, ?_⟩
    rw [hd]
    dsimp only
    rw [encM_t rfl]
    show num 1 ++ num (dnum (frm (rdC xs (rdC xs 0 0 1).at_ (rdC xs 0 0 1).e 18446744073709551615).n).l).toNat = xs
    rw [dnum_frm n2.1 n2.2.1]
    conv => rhs; rw [← hall, s2, s1, hk]
    rfl
  · have hd := decM_f hk
    rw [hd] at h
    obtain ⟨e3, hend⟩ := endC_zero h
    obtain ⟨_, q1, q2, q3⟩ := rdC_in (e := (rdC xs 0 0 1).e) (m := 4) hb p2 p3 (by decide)
    obtain ⟨e2, ⟨wl, ww⟩, s3⟩ := ws_take hb (q2C xs).n.toNat (p := (q2C xs).at_) (e := (q2C xs).e) q2 q3 e3
    obtain ⟨w2, w3⟩ := wsC_in hb (q2C xs).n.toNat (p := (q2C xs).at_) (e := (q2C xs).e) q2 q3
    obtain ⟨e1, n2, s2⟩ := rd_take hb p2 p3 (show (rdC xs (rdC xs 0 0 1).at_ (rdC xs 0 0 1).e 4).e = 0 from e2)
    obtain ⟨_, n1, s1⟩ := rd_take hb (show (0 : Int) ≤ 0 by decide) (by omega) e1
    have s2 : xs.take (q2C xs).at_.toNat = xs.take (rdC xs 0 0 1).at_.toNat ++ num (q2C xs).n.toNat := s2
    have q1 : (q2C xs).n ≤ 4 := q1
    have hn0 : (rdC xs 0 0 1).n = 0 := by omega
    generalize wsC xs (q2C xs).n.toNat (q2C xs).at_ (q2C xs).e = T at *
    have hall := List.take_of_length_le (l := xs) (i := T.at_.toNat) (by omega)
    refine ⟨by rw [hd]; show T.ws.length ≤ 4; omega, by rw [hd]; exact ww, by rw [hd]; exact d80_ok', ?_⟩
    rw [hd]
    dsimp only
    rw [encM_f rfl]
    unfold encMk
    rw [encV_all, wl]
    conv => rhs; rw [← hall, s3, s2, s1, hn0]
    simp
end Go.Proofs.YtalbjjimnhldfaaGreatDoor
