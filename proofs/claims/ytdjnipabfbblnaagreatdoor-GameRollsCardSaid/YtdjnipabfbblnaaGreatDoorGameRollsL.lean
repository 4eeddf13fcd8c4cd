/- GameRolls holds: the walk and the frame, lifted. -/
import Derived.Test.YtdjnipabfbblnaaGreatDoorEv17
import Derived.Test.YtdjnipabfbblnaaGreatDoorMet
import Derived.Test.YtdjnipabfbblnaaGreatDoorTie
import Derived.Test.YtdjnipabfbblnaaGreatDoorCards
import Derived.LaidMore
import Derived.Stop.Joined
import Derived.SevenTiedAt
namespace Go.Proofs.YtdjnipabfbblnaaGreatDoor.gameRolls
open Go.Ev
open Go.ChangeShapes Go.WideShapes Go.ChangeAt Go.RowKit
open Go.ChangeMaps (open_string shut_string)
set_option linter.unusedVariables false
noncomputable instance noFrozen : Frozen Tryz.prog := ⟨fun _ => none⟩
set_option maxRecDepth 100000 in
theorem walk (p q r : Int) (w : World) (hp : (Lit.int .u64 p).wf = true) (hq : (Lit.int .u64 q).wf = true) (hr : (Lit.int .u8 r).wf = true) (hL : LaidIn G0 w) :
    Calls Tryz.prog 4 #[.int .u64 p, .int .u64 q, .int .u8 r] w fun e w' => e = .returned (.bool true) ∧ Below w.heap.size w w' := by
  have hng : Tryz.prog.globals.size = 13 := by kernel_rfl
  have hR0 := Rel.laid (P := Tryz.prog) (G := G0) (ng := 13) hng (by kernel_rfl) (by kernel_rfl) hL (fun _ _ h => nomatch h)
  obtain ⟨B, hsem⟩ := rolls_sem ⟨p, q, r⟩ ⟨wfU hp, wfU hq, wfB hr⟩
  have hmem : mem (S_rolls.R ⟨p, q, r⟩) S_rolls.n = ⟨putAll G0 .e, 13⟩ := globs
  rw [hmem] at hsem
  exact sem_calls envOK (fn := Tryz.f4) (by kernel_rfl) rfl rfl hsem hR0 (.cons (tgI_vr _ _) (.cons (tgI_vr _ _) (.cons (tgI_vr _ _) .nil))) glob_ro
set_option maxRecDepth 100000 in
theorem lifted (os : Os) (started : os.Started) (H : Type) (enc : TypeId × Value → H) :
    ReturnsInHanded {} Tryz.checked os 4 .any (fun w args => (Rows.gameRollsSpec.pre enc Tryz.prog Tryz.f4 [] false w args ∧ laidMetH Tryz.prog [("math/bits.deBruijn32tab", Rows.laid_math_bits_deBruijn32tab), ("math/bits.deBruijn64tab", Rows.laid_math_bits_deBruijn64tab), ("internal/strconv.uint64pow10", Rows.laid_internal_strconv_uint64pow10), ("unicode.White_Space", Rows.laid_unicode_White_Space), ("strings.asciiSpace", Rows.laid_strings_asciiSpace), ("baize/code.operations", Rows.laid_baize_code_operations), ("baize/print.operations", Rows.laid_baize_print_operations), ("baize/print.parts", Rows.laid_baize_print_parts), ("baize/sorts.stmtParts", Rows.laid_baize_sorts_stmtParts), ("baize/sorts.exprParts", Rows.laid_baize_sorts_exprParts)] w) ∧ sizedMet enc Tryz.prog Tryz.f4 (OpenSpec.ofChange Rows.gameRollsSpec) false w args) (Rows.gameRollsSpec.post enc Tryz.prog Tryz.f4 false true false false) := by
  refine returnsInHanded_of_change_and (C := Tryz.checked) (X := fun w _ => laidMetH Tryz.prog [("math/bits.deBruijn32tab", Rows.laid_math_bits_deBruijn32tab), ("math/bits.deBruijn64tab", Rows.laid_math_bits_deBruijn64tab), ("internal/strconv.uint64pow10", Rows.laid_internal_strconv_uint64pow10), ("unicode.White_Space", Rows.laid_unicode_White_Space), ("strings.asciiSpace", Rows.laid_strings_asciiSpace), ("baize/code.operations", Rows.laid_baize_code_operations), ("baize/print.operations", Rows.laid_baize_print_operations), ("baize/print.parts", Rows.laid_baize_print_parts), ("baize/sorts.stmtParts", Rows.laid_baize_sorts_stmtParts), ("baize/sorts.exprParts", Rows.laid_baize_sorts_exprParts)] w) (fun _ _ _ hh h => h.of_heap hh) own_knob started (by kernel_rfl) Tryz.func4
    (ChangeSpec.witness_shaped (enc := enc) (C := Tryz.checked) (os := os) (X := fun w _ => laidMetH Tryz.prog [("math/bits.deBruijn32tab", Rows.laid_math_bits_deBruijn32tab), ("math/bits.deBruijn64tab", Rows.laid_math_bits_deBruijn64tab), ("internal/strconv.uint64pow10", Rows.laid_internal_strconv_uint64pow10), ("unicode.White_Space", Rows.laid_unicode_White_Space), ("strings.asciiSpace", Rows.laid_strings_asciiSpace), ("baize/code.operations", Rows.laid_baize_code_operations), ("baize/print.operations", Rows.laid_baize_print_operations), ("baize/print.parts", Rows.laid_baize_print_parts), ("baize/sorts.stmtParts", Rows.laid_baize_sorts_stmtParts), ("baize/sorts.exprParts", Rows.laid_baize_sorts_exprParts)] w) false (World.doorLaid Tryz.prog 400 os) #[.int .u64 0, .int .u64 0, .int .u8 0] 8 rfl (door_shaped os _) (by kernel_rfl) (by kernel_rfl) (by kernel_rfl) (door_met os _)) ?_
  intro W base args ds gs before hval0 hW _ _ hL _
  have hval : ∀ (j : Nat) t v, Tryz.f4.params[j]? = some t → args[j]? = some v → Value.okWide Tryz.prog W .any base t v := hval0
  have hW' := hW
  obtain ⟨p, q, hA0, hV, rfl, hfz, hnd⟩ := hW
  have hA : DataW.TrodAll enc Tryz.prog W 0 (fun _ => true) true Tryz.f4.params.toList args.toList ds p := hA0
  rw [Tryz.params4] at hA hval
  obtain ⟨v0, vs0, d0, ds0, p0, q0, hargs, rfl, rfl, h0, r0⟩ := trodAll_cons hA
  obtain ⟨v1, vs1, d1, ds1, p1, q1, rfl, rfl, rfl, h1, r1⟩ := trodAll_cons r0
  obtain ⟨v2, vs2, d2, ds2, p2, q2, rfl, rfl, rfl, h2, r2⟩ := trodAll_cons r1
  obtain ⟨rfl, rfl, rfl⟩ := trodAll_nil r2
  obtain rfl : args = #[v0, v1, v2] := by cases args; simp_all
  obtain ⟨rfl, rfl⟩ := trodVars_none hV
  obtain ⟨a0, rfl, rfl, rfl, w0⟩ := open_int Tryz.underlying25 (hval 0 25 v0 rfl rfl) h0
  obtain ⟨a1, rfl, rfl, rfl, w1⟩ := open_int Tryz.underlying25 (hval 1 25 v1 rfl rfl) h1
  obtain ⟨a2, rfl, rfl, rfl, w2⟩ := open_int Tryz.underlying5 (hval 2 5 v2 rfl rfl) h2
  clear hA0 hval0
  refine (walk a0 a1 a2 W w0 w1 w2 (laidIn_of (l := [("math/bits.deBruijn32tab", Rows.laid_math_bits_deBruijn32tab), ("math/bits.deBruijn64tab", Rows.laid_math_bits_deBruijn64tab), ("internal/strconv.uint64pow10", Rows.laid_internal_strconv_uint64pow10), ("unicode.White_Space", Rows.laid_unicode_White_Space), ("strings.asciiSpace", Rows.laid_strings_asciiSpace), ("baize/code.operations", Rows.laid_baize_code_operations), ("baize/print.operations", Rows.laid_baize_print_operations), ("baize/print.parts", Rows.laid_baize_print_parts), ("baize/sorts.stmtParts", Rows.laid_baize_sorts_stmtParts), ("baize/sorts.exprParts", Rows.laid_baize_sorts_exprParts)]) hL (ns := ["baize/print.parts", "internal/strconv.uint64pow10", "strings.asciiSpace", "baize/code.operations", "baize/sorts.stmtParts", "math/bits.deBruijn32tab", "math/bits.deBruijn64tab", "baize/sorts.exprParts", "baize/print.operations"]) (by kernel_rfl))).mono fun e W' ⟨he, bel⟩ => ?_
  subst he
  exact ⟨_, rfl, _, _, _, [], _, [], hW', trodAll_mk1 (shut_bool Tryz.underlying4 _), (trodAll_cons_mk (shut_int Tryz.underlying25 w0) (trodAll_cons_mk (shut_int Tryz.underlying25 w1) (trodAll_cons_mk (shut_int Tryz.underlying5 w2) trodAll_mk0))), rfl, bel.frame _, fun h => by cases h⟩
end Go.Proofs.YtdjnipabfbblnaaGreatDoor.gameRolls
