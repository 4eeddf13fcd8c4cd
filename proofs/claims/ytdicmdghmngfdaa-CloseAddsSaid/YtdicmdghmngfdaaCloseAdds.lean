/- CloseAdds holds: for every input the law returns true and its arguments read afterwards as before. No condition. -/
import Derived.Test.YtdicmdghmngfdaaG
import Derived.Test.YtdicmdghmngfdaaIn
namespace Go.Proofs.Ytdicmdghmngfdaa.closeAdds
open Go.ChangeShapes Go.WideShapes Go.ChangeAt Go.RowKit
open Go.ChangeMaps (open_string shut_string)
set_option linter.unusedVariables false

theorem walk (pot seats : Int) (A : Option Addr) (n c : Nat) (xs : List Int) (w : World) (_ : (Lit.int .i64 pot).wf = true) (_ : (Lit.int .i64 seats).wf = true) (h : Sl (Value.int .i64) w A n xs) (hf : Fits xs) (_ : A = none → c = 0) :
    Calls Try.prog 3 #[.int .i64 pot, .int .i64 seats, .slice A n c] w fun e w' => e = .returned (.bool true) ∧ Below w.heap.size w w' := by
  have hm := h.max
  by_cases hn : 20 < n
  · have HH := Lib.hid h
    clear h
    go_enter Try.func3, Try.ntmps3
    go_wp2_with (go_at_call 7; refine (told7 _).mono ?_; rintro e w' ⟨rfl, hb⟩)
    go_ret
    exact ⟨rfl, hb⟩
  · have h1 := adds8 pot seats A n c xs w h hf
    have h2 := adds9 pot seats A n c xs w h hf
    have H1 := Lib.hid h1
    have H2 := Lib.hid h2
    obtain ⟨r, hr⟩ : ∃ r, addsS pot seats xs = r := ⟨_, rfl⟩
    rw [hr] at H1 H2
    have hrr : (r == r) = true := by simp
    clear h h1 h2 hr
    go_enter Try.func3, Try.ntmps3
    go_wp2_with (first | (go_at_call 8; refine H1.out.mono ?_; rintro e w' ⟨rfl, rfl⟩) | (go_at_call 9; refine H2.out.mono ?_; rintro e w' ⟨rfl, rfl⟩) | (go_at_call 7; refine (told7 _).mono ?_; rintro e w' ⟨rfl, hb⟩))
    go_ret
    exact ⟨rfl, hb⟩

set_option maxRecDepth 100000 in
theorem lifted (os : Os) (started : os.Started) (H : Type) (enc : TypeId × Value → H) :
    ReturnsInHanded {} Try.checked os 3 .any (Rows.closeAddsSpec.pre6 enc Try.prog Try.f3 Rows.closeAddsRow.domain false) (Rows.closeAddsSpec.post enc Try.prog Try.f3 false true false false) := by
  refine returnsInHanded_of_change (C := Try.checked) own_knob started (by kernel_rfl) Try.func3
    (ChangeSpec.witness6 (enc := enc) (C := Try.checked) false ⟨#[], #[.int .i64 0, .int .i64 0, .slice none 0 0], []⟩ 8 (by kernel_rfl) (by kernel_rfl) (by kernel_rfl) (by kernel_rfl)) ?_
  intro W base args ds gs before hval0 hW hcnd _
  have hval : ∀ (j : Nat) t v, Try.f3.params[j]? = some t → args[j]? = some v → Value.okWide Try.prog W .any base t v := hval0
  have hW' := hW
  obtain ⟨p, q, hA0, hV, rfl, hfz, hnd⟩ := hW
  have hA : DataW.TrodAll enc Try.prog W 0 (fun _ => true) true Try.f3.params.toList args.toList ds p := hA0
  rw [Try.params3] at hA hval
  obtain ⟨v0, vs0, d0, ds0, p0, q0, hargs, rfl, rfl, h0, r0⟩ := trodAll_cons hA
  obtain ⟨v1, vs1, d1, ds1, p1, q1, rfl, rfl, rfl, h1, r1⟩ := trodAll_cons r0
  obtain ⟨v2, vs2, d2, ds2, p2, q2, rfl, rfl, rfl, h2, r2⟩ := trodAll_cons r1
  obtain ⟨rfl, rfl, rfl⟩ := trodAll_nil r2
  obtain rfl : args = #[v0, v1, v2] := by cases args; simp_all
  obtain ⟨rfl, rfl⟩ := trodVars_none hV
  obtain ⟨a0, rfl, rfl, rfl, w0⟩ := open_int Try.underlying3 (hval 0 3 v0 rfl rfl) h0
  obtain ⟨a1, rfl, rfl, rfl, w1⟩ := open_int Try.underlying3 (hval 1 3 v1 rfl rfl) h1
  obtain ⟨a2, len2, cap2, rfl⟩ := okWide_slice Try.underlying22 (hval 2 22 v2 rfl rfl)
  have k2 := h2
  have lt2 : ∀ x ∈ p2, x.block < W.heap.size := by obtain ⟨m, hm⟩ := k2; exact DataW.trod_lt m _ _ _ hm
  obtain ⟨xs2, sl2, wf2, nl2⟩ : ∃ xs : List Int, Sl (Value.int .i64) W a2 len2 xs ∧ (∀ n ∈ xs, (Lit.int .i64 n).wf = true) ∧ (a2 = none → cap2 = 0) := by
    obtain ⟨fuel, hf⟩ := h2
    exact ints_in Try.underlying22 Try.underlying3 (by kernel_rfl) (by simpa [Value.cells] using hf)
  clear hA0 hval0
  refine (walk a0 a1 a2 len2 cap2 xs2 W w0 w1 sl2 (fits_wf wf2) nl2).mono fun e W' ⟨he, bel⟩ => ?_
  subst he
  exact ⟨_, rfl, _, _, _, [], _, [], hW', trodAll_mk1 (shut_bool Try.underlying4 _), (trodAll_cons_mk (shut_int Try.underlying3 w0) (trodAll_cons_mk (shut_int Try.underlying3 w1) (trodAll_cons_mk (Below.trod laid_out (by kernel_rfl) (of_decide_eq_true (by kernel_rfl)) k2 bel lt2) trodAll_mk0))), rfl, bel.frame _, fun h => by cases h⟩

theorem over : Rows.closeAddsRow.holds Try.pinned (OpenSpec.ofChange Rows.closeAddsSpec) :=
  OpenClaim.holds_of_wide 3 Try.f3 rfl rfl rfl rfl rfl rfl rfl ⟨rfl, rfl, rfl, rfl, rfl⟩ rfl rfl rfl rfl rfl (by kernel_rfl) Try.func3 (by kernel_rfl)
    (of_decide_eq_true (by kernel_rfl)) (by unfold Func.isWrapper; first | (rw [if_pos (by decide +kernel)]; kernel_rfl) | (rw [if_neg (by decide +kernel)]; exact ⟨rfl, rfl⟩))
    (fun os started H enc _ => lifted os started H enc)

/-- The statement. -/
theorem proved : Rows.CloseAddsSaid := over
#print axioms proved
end Go.Proofs.Ytdicmdghmngfdaa.closeAdds
