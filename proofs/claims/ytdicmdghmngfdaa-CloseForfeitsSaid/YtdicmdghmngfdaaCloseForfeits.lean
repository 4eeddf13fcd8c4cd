/- CloseForfeits holds: for every input the law returns true and its arguments read afterwards as before. No condition. -/
import Derived.Test.YtdicmdghmngfdaaI
namespace Go.Proofs.Ytdicmdghmngfdaa.closeForfeits
open Go.ChangeShapes Go.WideShapes Go.ChangeAt Go.RowKit
open Go.ChangeMaps (open_string shut_string)
set_option linter.unusedVariables false

set_option maxHeartbeats 400000 in
theorem walk0 (A B : Option Addr) (n c m d : Nat) (xs : List Int) (seat bond : Int) (gone : List Bool) (w : World) (h : Sl (Value.int .i64) w A n xs) (hf : Fits xs) (hg : Sl Value.bool w B m gone) :
    Calls Try.prog 4 #[.slice A n c, .agg #[.int .i64 seat, .int .i64 bond, .slice B m d]] w fun e w' => e = .returned (.bool true) ∧ Below w.heap.size w w' := by
  have hm := h.max
  have hgm := hg.max
  have hb0 : Below w.heap.size w (w.alloc (.cells #[.int .i64 seat, .int .i64 bond, .slice B m d] 30)) := (Below.refl _ _).alloc (Nat.le_refl _) _
  have HB0 := Lib.hid hb0
  have HS := Lib.hid (h.below hb0)
  have HG := Lib.hid (hg.below hb0)
  clear h hg hb0
  by_cases hn : 10 < n
  · go_enter Try.func4, Try.ntmps4
    go_wp2_with (go_at_call 7; refine (told7 _).mono ?_; rintro e w' ⟨rfl, hb⟩)
    go_ret
    exact ⟨rfl, below_trans HB0.out hb (by simp)⟩
  have hn' : decide (10 < (n : Int)) = false := by simp; omega
  by_cases hn2 : 10 < m
  · go_enter Try.func4, Try.ntmps4
    go_wp2_with (go_at_call 7; refine (told7 _).mono ?_; rintro e w' ⟨rfl, hb⟩)
    go_ret
    exact ⟨rfl, below_trans HB0.out hb (by simp)⟩
  obtain ⟨C, hC⟩ : ∃ C, forfC xs seat bond gone = C := ⟨_, rfl⟩
  obtain ⟨Y, hY⟩ : ∃ Y, forfY xs seat bond gone = Y := ⟨_, rfl⟩
  have h1 := forfeit10 A B n c m d xs seat bond gone _ HS.out hf HG.out
  have hcc : (C == C) = true := by simp
  rw [hC, hY] at h1
  have H1 := Lib.hid h1
  have HC := Lib.hid hC
  have HY := Lib.hid hY
  clear h1 hC hY
  go_enter Try.func4, Try.ntmps4
  go_wp2_with fail
  refine H1.out.mono ?_
  rintro e w1 ⟨A1, n1, c1, rfl, ho1, hb1⟩
  have h2 := forfeit11 A B n c m d xs seat bond gone _ (HS.out.below hb1) hf (HG.out.below hb1)
  rw [HC.out, HY.out] at h2
  have H2 := Lib.hid h2
  have HO1 := Lib.hid ho1
  have HB1 := Lib.hid hb1
  have hcells : w1.cell? ⟨w.heap.size, 0, none⟩ = some (.int .i64 seat) ∧ w1.cell? ⟨w.heap.size, 1, none⟩ = some (.int .i64 bond) ∧ w1.cell? ⟨w.heap.size, 2, none⟩ = some (.slice B m d) := by
    refine ⟨(hb1.cell (by simp)).trans ?_, (hb1.cell (by simp)).trans ?_, (hb1.cell (by simp)).trans ?_⟩ <;> go_simp
  obtain ⟨k0, k1, k2⟩ := hcells
  clear h2 ho1 hb1
  go_wp2_with fail
  refine H2.out.mono ?_
  rintro e w2 ⟨A2, n2, c2, rfl, ho2, hb2⟩
  have h3 := alikeR A1 A2 n1 n2 c1 c2 Y Y w2 ((Sl.of_row HO1.out).below hb2) (Sl.of_row ho2)
  rw [show (Y == Y) = true by simp] at h3
  have H3 := Lib.hid h3
  have HB2 := Lib.hid hb2
  clear h3 ho2 hb2 k0 k1 k2
  go_wp2_with fail
  refine H3.out.mono ?_
  rintro e w3 ⟨rfl, N, rfl⟩
  go_wp2_with (go_at_call 7; refine (told7 _).mono ?_; rintro e w' ⟨rfl, hb⟩)
  go_ret
  have s1 := HB0.out.size
  have s2 := HB1.out.size
  have s3 := HB2.out.size
  exact ⟨rfl, below_trans (below_drewN (below_trans (below_trans HB0.out HB1.out (by simp)) HB2.out (by simp at s2; omega)) _) hb (by simp at s2 ⊢; omega)⟩

theorem walk {H : Type} {enc : TypeId × Value → H} {base : Nat} {d : DataW H} {p : List MemPlace} (A : Option Addr) (n c : Nat) (xs : List Int) (v : Value) (w : World) (h : Sl (Value.int .i64) w A n xs) (hf : Fits xs) (_ : A = none → c = 0)
    (hv : Value.okWide Try.prog w .any base 30 v) (k : DataW.Trod enc Try.prog w 0 (fun _ => true) true 30 v d p) :
    Calls Try.prog 4 #[.slice A n c, v] w fun e w' => e = .returned (.bool true) ∧ Below w.heap.size w w' := by
  obtain ⟨seat, bond, B, m, c', gone, rfl, hg, _, _, _⟩ := loss_in hv k
  exact walk0 A B n c m c' xs seat bond gone w h hf hg

set_option maxRecDepth 100000 in
theorem lifted (os : Os) (started : os.Started) (H : Type) (enc : TypeId × Value → H) :
    ReturnsInHanded {} Try.checked os 4 .any (Rows.closeForfeitsSpec.pre6 enc Try.prog Try.f4 Rows.closeForfeitsRow.domain false) (Rows.closeForfeitsSpec.post enc Try.prog Try.f4 false true false false) := by
  refine returnsInHanded_of_change (C := Try.checked) own_knob started (by kernel_rfl) Try.func4
    (ChangeSpec.witness6 (enc := enc) (C := Try.checked) false ⟨#[], #[.slice none 0 0, .agg #[.int .i64 0, .int .i64 0, .slice none 0 0]], []⟩ 8 (by kernel_rfl) (by kernel_rfl) (by kernel_rfl) (by kernel_rfl)) ?_
  intro W base args ds gs before hval0 hW hcnd _
  have hval : ∀ (j : Nat) t v, Try.f4.params[j]? = some t → args[j]? = some v → Value.okWide Try.prog W .any base t v := hval0
  have hW' := hW
  obtain ⟨p, q, hA0, hV, rfl, hfz, hnd⟩ := hW
  have hA : DataW.TrodAll enc Try.prog W 0 (fun _ => true) true Try.f4.params.toList args.toList ds p := hA0
  rw [Try.params4] at hA hval
  obtain ⟨v0, vs0, d0, ds0, p0, q0, hargs, rfl, rfl, h0, r0⟩ := trodAll_cons hA
  obtain ⟨v1, vs1, d1, ds1, p1, q1, rfl, rfl, rfl, h1, r1⟩ := trodAll_cons r0
  obtain ⟨rfl, rfl, rfl⟩ := trodAll_nil r1
  obtain rfl : args = #[v0, v1] := by cases args; simp_all
  obtain ⟨rfl, rfl⟩ := trodVars_none hV
  obtain ⟨a0, len0, cap0, rfl⟩ := okWide_slice Try.underlying22 (hval 0 22 v0 rfl rfl)
  have k0 := h0
  have lt0 : ∀ x ∈ p0, x.block < W.heap.size := by obtain ⟨m, hm⟩ := k0; exact DataW.trod_lt m _ _ _ hm
  obtain ⟨xs0, sl0, wf0, nl0⟩ : ∃ xs : List Int, Sl (Value.int .i64) W a0 len0 xs ∧ (∀ n ∈ xs, (Lit.int .i64 n).wf = true) ∧ (a0 = none → cap0 = 0) := by
    obtain ⟨fuel, hf⟩ := h0
    exact ints_in Try.underlying22 Try.underlying3 (by kernel_rfl) (by simpa [Value.cells] using hf)
  have k1 := h1
  have lt1 : ∀ x ∈ p1, x.block < W.heap.size := by obtain ⟨m, hm⟩ := k1; exact DataW.trod_lt m _ _ _ hm
  have ok1 := hval 1 30 v1 rfl rfl
  clear hA0 hval0
  refine (walk a0 len0 cap0 xs0 v1 W sl0 (fits_wf wf0) nl0 ok1 k1).mono fun e W' ⟨he, bel⟩ => ?_
  subst he
  exact ⟨_, rfl, _, _, _, [], _, [], hW', trodAll_mk1 (shut_bool Try.underlying4 _), (trodAll_cons_mk (Below.trod laid_out (by kernel_rfl) (of_decide_eq_true (by kernel_rfl)) k0 bel lt0) (trodAll_cons_mk (Below.trod laid_out (by kernel_rfl) (of_decide_eq_true (by kernel_rfl)) k1 bel lt1) trodAll_mk0)), rfl, bel.frame _, fun h => by cases h⟩

theorem over : Rows.closeForfeitsRow.holds Try.pinned (OpenSpec.ofChange Rows.closeForfeitsSpec) :=
  OpenClaim.holds_of_wide 4 Try.f4 rfl rfl rfl rfl rfl rfl rfl ⟨rfl, rfl, rfl, rfl, rfl⟩ rfl rfl rfl rfl rfl (by kernel_rfl) Try.func4 (by kernel_rfl)
    (of_decide_eq_true (by kernel_rfl)) (by unfold Func.isWrapper; first | (rw [if_pos (by decide +kernel)]; kernel_rfl) | (rw [if_neg (by decide +kernel)]; exact ⟨rfl, rfl⟩))
    (fun os started H enc _ => lifted os started H enc)

/-- The statement. -/
theorem proved : Rows.CloseForfeitsSaid := over
#print axioms proved
end Go.Proofs.Ytdicmdghmngfdaa.closeForfeits
