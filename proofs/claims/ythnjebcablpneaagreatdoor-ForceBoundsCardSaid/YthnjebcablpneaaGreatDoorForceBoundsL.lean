/- ForceBounds holds: the walk and the frame, lifted. -/
import Derived.Test.YthnjebcablpneaaGreatDoorForce2
import Derived.Test.YthnjebcablpneaaGreatDoorKnownA
import Derived.Test.YthnjebcablpneaaGreatDoorMet
import Derived.Test.YthnjebcablpneaaGreatDoorTie
import Derived.Test.YthnjebcablpneaaGreatDoorCards
import Derived.LaidMore
import Derived.Stop.Joined
import Derived.SevenTiedAt
namespace Go.Proofs.YthnjebcablpneaaGreatDoor.forceBounds
open Go.Ev
open Go.ChangeShapes Go.WideShapes Go.ChangeAt Go.RowKit
open Go.ChangeMaps (open_string shut_string)
set_option linter.unusedVariables false

theorem below_alloc_le (w : World) (o : Obj) : w.heap.size ≤ (w.alloc o).heap.size := by
  have : (w.heap.push o).size = w.heap.size + 1 := Array.size_push _
  show w.heap.size ≤ (w.heap.push o).size
  omega
theorem walk_good (number height window : Int) (w : World) (HL : Hid (LaidIn G0 w)) (hc : withinC number height window = 0) :
    Calls Tryz.prog 5 #[.int .i64 number, .int .i64 height, .int .i64 window] w fun e w' => e = .returned (.bool true) ∧ Below w.heap.size w w' := by
  obtain ⟨⟨h1, h2⟩, ⟨h3, h4⟩, h5, h6⟩ := within_ok hc
  have hw : IntKind.i64.wrap (height + window) = height + window := by simp [IntKind.wrap, IntKind.bits, IntKind.signed]; omega
  have HC := Lib.hid hc
  clear hc
  go_enter Tryz.func5, Tryz.ntmps5
  go_wp2_with fail
  refine (open_good number height window w HC.out).mono ?_
  rintro e w1 ⟨rfl, hb1⟩
  have HB1 := Lib.hid hb1
  clear hb1
  go_wp2_with fail
  refine (act0 _).mono ?_
  rintro e w2 ⟨rfl, hb2⟩
  have HB2 : Hid (Below w.heap.size w w2) := (HB1.out.alloc HB1.out.size _).trans (hb2.mono (Nat.le_trans HB1.out.size (below_alloc_le w1 _)))
  clear hb2
  go_wp2_with fail
  refine (late0 _).mono ?_
  rintro e w3 ⟨rfl, hb3⟩
  have HB3 : Hid (Below w.heap.size w w3) := (HB2.out.alloc HB2.out.size _).trans (hb3.mono (Nat.le_trans HB2.out.size (below_alloc_le w2 _)))
  clear hb3
  go_wp2_with fail
  refine (idle0 _).mono ?_
  rintro e w4 ⟨rfl, hb4⟩
  have HB4 : Hid (Below w.heap.size w w4) := (HB3.out.alloc HB3.out.size _).trans (hb4.mono (Nat.le_trans HB3.out.size (below_alloc_le w3 _)))
  clear hb4
  go_wp2_with fail
  refine (known33 (HL.out.below HB4.out)).mono ?_
  rintro e w5 ⟨rfl, hb5⟩
  have HB5 : Hid (Below w.heap.size w w5) := HB4.out.trans (hb5.mono HB4.out.size)
  clear hb5
  go_wp2_with fail
  go_ret
  exact ⟨rfl, HB5.out⟩
theorem walk_bad0 (number height window : Int) (w : World) (HL : Hid (LaidIn G0 w))  (h1 : ¬ 0 ≤ number) :
    Calls Tryz.prog 5 #[.int .i64 number, .int .i64 height, .int .i64 window] w fun e w' => e = .returned (.bool true) ∧ Below w.heap.size w w' := by
  have HC : Hid (withinC number height window = 2) := by show _ = _; unfold withinC; rw [if_neg (by omega)]
  go_enter Tryz.func5, Tryz.ntmps5
  go_wp2_with fail
  refine (open_bad number height window w HC.out).mono ?_
  rintro e w1 ⟨rfl, hb1⟩
  have HB1 := Lib.hid hb1
  clear hb1
  go_wp2_with fail
  refine (act0 _).mono ?_
  rintro e w2 ⟨rfl, hb2⟩
  have HB2 : Hid (Below w.heap.size w w2) := (HB1.out.alloc HB1.out.size _).trans (hb2.mono (Nat.le_trans HB1.out.size (below_alloc_le w1 _)))
  clear hb2
  go_wp2_with fail
  refine (late0 _).mono ?_
  rintro e w3 ⟨rfl, hb3⟩
  have HB3 : Hid (Below w.heap.size w w3) := (HB2.out.alloc HB2.out.size _).trans (hb3.mono (Nat.le_trans HB2.out.size (below_alloc_le w2 _)))
  clear hb3
  go_wp2_with fail
  refine (idle0 _).mono ?_
  rintro e w4 ⟨rfl, hb4⟩
  have HB4 : Hid (Below w.heap.size w w4) := (HB3.out.alloc HB3.out.size _).trans (hb4.mono (Nat.le_trans HB3.out.size (below_alloc_le w3 _)))
  clear hb4
  go_wp2_with fail
  refine (known33 (HL.out.below HB4.out)).mono ?_
  rintro e w5 ⟨rfl, hb5⟩
  have HB5 : Hid (Below w.heap.size w w5) := HB4.out.trans (hb5.mono HB4.out.size)
  clear hb5
  go_wp2_with fail
  go_ret
  exact ⟨rfl, HB5.out⟩
theorem walk_bad1 (number height window : Int) (w : World) (HL : Hid (LaidIn G0 w)) (h1 : 0 ≤ number) (h2 : ¬ number ≤ 1099511627776) :
    Calls Tryz.prog 5 #[.int .i64 number, .int .i64 height, .int .i64 window] w fun e w' => e = .returned (.bool true) ∧ Below w.heap.size w w' := by
  have HC : Hid (withinC number height window = 2) := by show _ = _; unfold withinC; rw [if_neg (by omega)]
  go_enter Tryz.func5, Tryz.ntmps5
  go_wp2_with fail
  refine (open_bad number height window w HC.out).mono ?_
  rintro e w1 ⟨rfl, hb1⟩
  have HB1 := Lib.hid hb1
  clear hb1
  go_wp2_with fail
  refine (act0 _).mono ?_
  rintro e w2 ⟨rfl, hb2⟩
  have HB2 : Hid (Below w.heap.size w w2) := (HB1.out.alloc HB1.out.size _).trans (hb2.mono (Nat.le_trans HB1.out.size (below_alloc_le w1 _)))
  clear hb2
  go_wp2_with fail
  refine (late0 _).mono ?_
  rintro e w3 ⟨rfl, hb3⟩
  have HB3 : Hid (Below w.heap.size w w3) := (HB2.out.alloc HB2.out.size _).trans (hb3.mono (Nat.le_trans HB2.out.size (below_alloc_le w2 _)))
  clear hb3
  go_wp2_with fail
  refine (idle0 _).mono ?_
  rintro e w4 ⟨rfl, hb4⟩
  have HB4 : Hid (Below w.heap.size w w4) := (HB3.out.alloc HB3.out.size _).trans (hb4.mono (Nat.le_trans HB3.out.size (below_alloc_le w3 _)))
  clear hb4
  go_wp2_with fail
  refine (known33 (HL.out.below HB4.out)).mono ?_
  rintro e w5 ⟨rfl, hb5⟩
  have HB5 : Hid (Below w.heap.size w w5) := HB4.out.trans (hb5.mono HB4.out.size)
  clear hb5
  go_wp2_with fail
  go_ret
  exact ⟨rfl, HB5.out⟩
theorem walk_bad2 (number height window : Int) (w : World) (HL : Hid (LaidIn G0 w)) (h1 : 0 ≤ number) (h2 : number ≤ 1099511627776) (h3 : ¬ 0 ≤ height) :
    Calls Tryz.prog 5 #[.int .i64 number, .int .i64 height, .int .i64 window] w fun e w' => e = .returned (.bool true) ∧ Below w.heap.size w w' := by
  have HC : Hid (withinC number height window = 2) := by show _ = _; unfold withinC; rw [if_neg (by omega)]
  go_enter Tryz.func5, Tryz.ntmps5
  go_wp2_with fail
  refine (open_bad number height window w HC.out).mono ?_
  rintro e w1 ⟨rfl, hb1⟩
  have HB1 := Lib.hid hb1
  clear hb1
  go_wp2_with fail
  refine (act0 _).mono ?_
  rintro e w2 ⟨rfl, hb2⟩
  have HB2 : Hid (Below w.heap.size w w2) := (HB1.out.alloc HB1.out.size _).trans (hb2.mono (Nat.le_trans HB1.out.size (below_alloc_le w1 _)))
  clear hb2
  go_wp2_with fail
  refine (late0 _).mono ?_
  rintro e w3 ⟨rfl, hb3⟩
  have HB3 : Hid (Below w.heap.size w w3) := (HB2.out.alloc HB2.out.size _).trans (hb3.mono (Nat.le_trans HB2.out.size (below_alloc_le w2 _)))
  clear hb3
  go_wp2_with fail
  refine (idle0 _).mono ?_
  rintro e w4 ⟨rfl, hb4⟩
  have HB4 : Hid (Below w.heap.size w w4) := (HB3.out.alloc HB3.out.size _).trans (hb4.mono (Nat.le_trans HB3.out.size (below_alloc_le w3 _)))
  clear hb4
  go_wp2_with fail
  refine (known33 (HL.out.below HB4.out)).mono ?_
  rintro e w5 ⟨rfl, hb5⟩
  have HB5 : Hid (Below w.heap.size w w5) := HB4.out.trans (hb5.mono HB4.out.size)
  clear hb5
  go_wp2_with fail
  go_ret
  exact ⟨rfl, HB5.out⟩
theorem walk_bad3 (number height window : Int) (w : World) (HL : Hid (LaidIn G0 w)) (h1 : 0 ≤ number) (h2 : number ≤ 1099511627776) (h3 : 0 ≤ height) (h4 : ¬ height ≤ 1099511627776) :
    Calls Tryz.prog 5 #[.int .i64 number, .int .i64 height, .int .i64 window] w fun e w' => e = .returned (.bool true) ∧ Below w.heap.size w w' := by
  have HC : Hid (withinC number height window = 2) := by show _ = _; unfold withinC; rw [if_neg (by omega)]
  go_enter Tryz.func5, Tryz.ntmps5
  go_wp2_with fail
  refine (open_bad number height window w HC.out).mono ?_
  rintro e w1 ⟨rfl, hb1⟩
  have HB1 := Lib.hid hb1
  clear hb1
  go_wp2_with fail
  refine (act0 _).mono ?_
  rintro e w2 ⟨rfl, hb2⟩
  have HB2 : Hid (Below w.heap.size w w2) := (HB1.out.alloc HB1.out.size _).trans (hb2.mono (Nat.le_trans HB1.out.size (below_alloc_le w1 _)))
  clear hb2
  go_wp2_with fail
  refine (late0 _).mono ?_
  rintro e w3 ⟨rfl, hb3⟩
  have HB3 : Hid (Below w.heap.size w w3) := (HB2.out.alloc HB2.out.size _).trans (hb3.mono (Nat.le_trans HB2.out.size (below_alloc_le w2 _)))
  clear hb3
  go_wp2_with fail
  refine (idle0 _).mono ?_
  rintro e w4 ⟨rfl, hb4⟩
  have HB4 : Hid (Below w.heap.size w w4) := (HB3.out.alloc HB3.out.size _).trans (hb4.mono (Nat.le_trans HB3.out.size (below_alloc_le w3 _)))
  clear hb4
  go_wp2_with fail
  refine (known33 (HL.out.below HB4.out)).mono ?_
  rintro e w5 ⟨rfl, hb5⟩
  have HB5 : Hid (Below w.heap.size w w5) := HB4.out.trans (hb5.mono HB4.out.size)
  clear hb5
  go_wp2_with fail
  go_ret
  exact ⟨rfl, HB5.out⟩
theorem walk_bad4 (number height window : Int) (w : World) (HL : Hid (LaidIn G0 w)) (h1 : 0 ≤ number) (h2 : number ≤ 1099511627776) (h3 : 0 ≤ height) (h4 : height ≤ 1099511627776) (h5 : ¬ 1 ≤ window) :
    Calls Tryz.prog 5 #[.int .i64 number, .int .i64 height, .int .i64 window] w fun e w' => e = .returned (.bool true) ∧ Below w.heap.size w w' := by
  have HC : Hid (withinC number height window = 2) := by show _ = _; unfold withinC; rw [if_neg (by omega)]
  go_enter Tryz.func5, Tryz.ntmps5
  go_wp2_with fail
  refine (open_bad number height window w HC.out).mono ?_
  rintro e w1 ⟨rfl, hb1⟩
  have HB1 := Lib.hid hb1
  clear hb1
  go_wp2_with fail
  refine (act0 _).mono ?_
  rintro e w2 ⟨rfl, hb2⟩
  have HB2 : Hid (Below w.heap.size w w2) := (HB1.out.alloc HB1.out.size _).trans (hb2.mono (Nat.le_trans HB1.out.size (below_alloc_le w1 _)))
  clear hb2
  go_wp2_with fail
  refine (late0 _).mono ?_
  rintro e w3 ⟨rfl, hb3⟩
  have HB3 : Hid (Below w.heap.size w w3) := (HB2.out.alloc HB2.out.size _).trans (hb3.mono (Nat.le_trans HB2.out.size (below_alloc_le w2 _)))
  clear hb3
  go_wp2_with fail
  refine (idle0 _).mono ?_
  rintro e w4 ⟨rfl, hb4⟩
  have HB4 : Hid (Below w.heap.size w w4) := (HB3.out.alloc HB3.out.size _).trans (hb4.mono (Nat.le_trans HB3.out.size (below_alloc_le w3 _)))
  clear hb4
  go_wp2_with fail
  refine (known33 (HL.out.below HB4.out)).mono ?_
  rintro e w5 ⟨rfl, hb5⟩
  have HB5 : Hid (Below w.heap.size w w5) := HB4.out.trans (hb5.mono HB4.out.size)
  clear hb5
  go_wp2_with fail
  go_ret
  exact ⟨rfl, HB5.out⟩
theorem walk_bad5 (number height window : Int) (w : World) (HL : Hid (LaidIn G0 w)) (h1 : 0 ≤ number) (h2 : number ≤ 1099511627776) (h3 : 0 ≤ height) (h4 : height ≤ 1099511627776) (h5 : 1 ≤ window) (h6 : ¬ window ≤ 1048576) :
    Calls Tryz.prog 5 #[.int .i64 number, .int .i64 height, .int .i64 window] w fun e w' => e = .returned (.bool true) ∧ Below w.heap.size w w' := by
  have HC : Hid (withinC number height window = 2) := by show _ = _; unfold withinC; rw [if_neg (by omega)]
  go_enter Tryz.func5, Tryz.ntmps5
  go_wp2_with fail
  refine (open_bad number height window w HC.out).mono ?_
  rintro e w1 ⟨rfl, hb1⟩
  have HB1 := Lib.hid hb1
  clear hb1
  go_wp2_with fail
  refine (act0 _).mono ?_
  rintro e w2 ⟨rfl, hb2⟩
  have HB2 : Hid (Below w.heap.size w w2) := (HB1.out.alloc HB1.out.size _).trans (hb2.mono (Nat.le_trans HB1.out.size (below_alloc_le w1 _)))
  clear hb2
  go_wp2_with fail
  refine (late0 _).mono ?_
  rintro e w3 ⟨rfl, hb3⟩
  have HB3 : Hid (Below w.heap.size w w3) := (HB2.out.alloc HB2.out.size _).trans (hb3.mono (Nat.le_trans HB2.out.size (below_alloc_le w2 _)))
  clear hb3
  go_wp2_with fail
  refine (idle0 _).mono ?_
  rintro e w4 ⟨rfl, hb4⟩
  have HB4 : Hid (Below w.heap.size w w4) := (HB3.out.alloc HB3.out.size _).trans (hb4.mono (Nat.le_trans HB3.out.size (below_alloc_le w3 _)))
  clear hb4
  go_wp2_with fail
  refine (known33 (HL.out.below HB4.out)).mono ?_
  rintro e w5 ⟨rfl, hb5⟩
  have HB5 : Hid (Below w.heap.size w w5) := HB4.out.trans (hb5.mono HB4.out.size)
  clear hb5
  go_wp2_with fail
  go_ret
  exact ⟨rfl, HB5.out⟩
theorem walk (number height window : Int) (w : World) (_ : (Lit.int .i64 number).wf = true) (_ : (Lit.int .i64 height).wf = true) (_ : (Lit.int .i64 window).wf = true) (hL : LaidIn G0 w) :
    Calls Tryz.prog 5 #[.int .i64 number, .int .i64 height, .int .i64 window] w fun e w' => e = .returned (.bool true) ∧ Below w.heap.size w w' := by
  have HL := Lib.hid hL
  by_cases h1 : 0 ≤ number
  case neg => exact walk_bad0 number height window w HL h1
  by_cases h2 : number ≤ 1099511627776
  case neg => exact walk_bad1 number height window w HL h1 h2
  by_cases h3 : 0 ≤ height
  case neg => exact walk_bad2 number height window w HL h1 h2 h3
  by_cases h4 : height ≤ 1099511627776
  case neg => exact walk_bad3 number height window w HL h1 h2 h3 h4
  by_cases h5 : 1 ≤ window
  case neg => exact walk_bad4 number height window w HL h1 h2 h3 h4 h5
  by_cases h6 : window ≤ 1048576
  case neg => exact walk_bad5 number height window w HL h1 h2 h3 h4 h5 h6
  exact walk_good number height window w HL (by unfold withinC; rw [if_pos (by omega)])

set_option maxRecDepth 100000 in
theorem lifted (os : Os) (started : os.Started) (H : Type) (enc : TypeId × Value → H) :
    ReturnsInHanded {} Tryz.checked os 5 .any (fun w args => (Rows.forceBoundsSpec.pre enc Tryz.prog Tryz.f5 [] false w args ∧ laidMetH Tryz.prog [("math/bits.deBruijn32tab", Rows.laid_math_bits_deBruijn32tab), ("math/bits.deBruijn64tab", Rows.laid_math_bits_deBruijn64tab), ("internal/strconv.uint64pow10", Rows.laid_internal_strconv_uint64pow10), ("unicode.White_Space", Rows.laid_unicode_White_Space), ("strings.asciiSpace", Rows.laid_strings_asciiSpace), ("baize/code.operations", Rows.laid_baize_code_operations), ("baize/print.operations", Rows.laid_baize_print_operations), ("baize/print.parts", Rows.laid_baize_print_parts), ("baize/sorts.stmtParts", Rows.laid_baize_sorts_stmtParts), ("baize/sorts.exprParts", Rows.laid_baize_sorts_exprParts)] w) ∧ sizedMet enc Tryz.prog Tryz.f5 (OpenSpec.ofChange Rows.forceBoundsSpec) false w args) (Rows.forceBoundsSpec.post enc Tryz.prog Tryz.f5 false true false false) := by
  refine returnsInHanded_of_change_and (C := Tryz.checked) (X := fun w _ => laidMetH Tryz.prog [("math/bits.deBruijn32tab", Rows.laid_math_bits_deBruijn32tab), ("math/bits.deBruijn64tab", Rows.laid_math_bits_deBruijn64tab), ("internal/strconv.uint64pow10", Rows.laid_internal_strconv_uint64pow10), ("unicode.White_Space", Rows.laid_unicode_White_Space), ("strings.asciiSpace", Rows.laid_strings_asciiSpace), ("baize/code.operations", Rows.laid_baize_code_operations), ("baize/print.operations", Rows.laid_baize_print_operations), ("baize/print.parts", Rows.laid_baize_print_parts), ("baize/sorts.stmtParts", Rows.laid_baize_sorts_stmtParts), ("baize/sorts.exprParts", Rows.laid_baize_sorts_exprParts)] w) (fun _ _ _ hh h => h.of_heap hh) own_knob started (by kernel_rfl) Tryz.func5
    (ChangeSpec.witness_shaped (enc := enc) (C := Tryz.checked) (os := os) (X := fun w _ => laidMetH Tryz.prog [("math/bits.deBruijn32tab", Rows.laid_math_bits_deBruijn32tab), ("math/bits.deBruijn64tab", Rows.laid_math_bits_deBruijn64tab), ("internal/strconv.uint64pow10", Rows.laid_internal_strconv_uint64pow10), ("unicode.White_Space", Rows.laid_unicode_White_Space), ("strings.asciiSpace", Rows.laid_strings_asciiSpace), ("baize/code.operations", Rows.laid_baize_code_operations), ("baize/print.operations", Rows.laid_baize_print_operations), ("baize/print.parts", Rows.laid_baize_print_parts), ("baize/sorts.stmtParts", Rows.laid_baize_sorts_stmtParts), ("baize/sorts.exprParts", Rows.laid_baize_sorts_exprParts)] w) false (World.doorLaid Tryz.prog 400 os) #[.int .i64 0, .int .i64 0, .int .i64 0] 8 rfl (door_shaped os _) (by kernel_rfl) (by kernel_rfl) (by kernel_rfl) (door_met os _)) ?_
  intro W base args ds gs before hval0 hW _ _ hL _
  have hval : ∀ (j : Nat) t v, Tryz.f5.params[j]? = some t → args[j]? = some v → Value.okWide Tryz.prog W .any base t v := hval0
  have hW' := hW
  obtain ⟨p, q, hA0, hV, rfl, hfz, hnd⟩ := hW
  have hA : DataW.TrodAll enc Tryz.prog W 0 (fun _ => true) true Tryz.f5.params.toList args.toList ds p := hA0
  rw [Tryz.params5] at hA hval
  obtain ⟨v0, vs0, d0, ds0, p0, q0, hargs, rfl, rfl, h0, r0⟩ := trodAll_cons hA
  obtain ⟨v1, vs1, d1, ds1, p1, q1, rfl, rfl, rfl, h1, r1⟩ := trodAll_cons r0
  obtain ⟨v2, vs2, d2, ds2, p2, q2, rfl, rfl, rfl, h2, r2⟩ := trodAll_cons r1
  obtain ⟨rfl, rfl, rfl⟩ := trodAll_nil r2
  obtain rfl : args = #[v0, v1, v2] := by cases args; simp_all
  obtain ⟨rfl, rfl⟩ := trodVars_none hV
  obtain ⟨a0, rfl, rfl, rfl, w0⟩ := open_int Tryz.underlying3 (hval 0 3 v0 rfl rfl) h0
  obtain ⟨a1, rfl, rfl, rfl, w1⟩ := open_int Tryz.underlying3 (hval 1 3 v1 rfl rfl) h1
  obtain ⟨a2, rfl, rfl, rfl, w2⟩ := open_int Tryz.underlying3 (hval 2 3 v2 rfl rfl) h2
  clear hA0 hval0
  refine (walk a0 a1 a2 W w0 w1 w2 (laidIn_of (l := [("math/bits.deBruijn32tab", Rows.laid_math_bits_deBruijn32tab), ("math/bits.deBruijn64tab", Rows.laid_math_bits_deBruijn64tab), ("internal/strconv.uint64pow10", Rows.laid_internal_strconv_uint64pow10), ("unicode.White_Space", Rows.laid_unicode_White_Space), ("strings.asciiSpace", Rows.laid_strings_asciiSpace), ("baize/code.operations", Rows.laid_baize_code_operations), ("baize/print.operations", Rows.laid_baize_print_operations), ("baize/print.parts", Rows.laid_baize_print_parts), ("baize/sorts.stmtParts", Rows.laid_baize_sorts_stmtParts), ("baize/sorts.exprParts", Rows.laid_baize_sorts_exprParts)]) hL (ns := ["baize/print.parts", "baize/code.operations", "strings.asciiSpace", "baize/sorts.stmtParts", "internal/strconv.uint64pow10", "baize/sorts.exprParts", "baize/print.operations", "math/bits.deBruijn32tab", "math/bits.deBruijn64tab"]) (by kernel_rfl))).mono fun e W' ⟨he, bel⟩ => ?_
  subst he
  exact ⟨_, rfl, _, _, _, [], _, [], hW', trodAll_mk1 (shut_bool Tryz.underlying4 _), (trodAll_cons_mk (shut_int Tryz.underlying3 w0) (trodAll_cons_mk (shut_int Tryz.underlying3 w1) (trodAll_cons_mk (shut_int Tryz.underlying3 w2) trodAll_mk0))), rfl, bel.frame _, fun h => by cases h⟩

end Go.Proofs.YthnjebcablpneaaGreatDoor.forceBounds
