/- GameNil holds: the walk and the frame, lifted. -/
import Derived.Test.YthnjebcablpneaaGreatDoorCut
import Derived.Test.YthnjebcablpneaaGreatDoorPos
import Derived.Test.YthnjebcablpneaaGreatDoorKnownB
import Derived.Test.YthnjebcablpneaaGreatDoorMet
import Derived.Test.YthnjebcablpneaaGreatDoorTie
import Derived.Test.YthnjebcablpneaaGreatDoorCards
import Derived.LaidMore
import Derived.Stop.Joined
import Derived.SevenTiedAt
namespace Go.Proofs.YthnjebcablpneaaGreatDoor.gameNil
open Go.Ev
open Go.ChangeShapes Go.WideShapes Go.ChangeAt Go.RowKit
open Go.ChangeMaps (open_string shut_string)
set_option linter.unusedVariables false

set_option maxHeartbeats 4000000 in
theorem walk0 (A B C : Option Addr) (n c m d k e n' m' k' : Nat) (r0 r1 r2 r3 r4 N : Int) (w : World) (HL : Hid (LaidIn G0 w)) (hn : n ≤ c) (hm : m ≤ d) (hk : k ≤ e) (e1 : min n 70 = n') (e2 : min m 10 = m') (e3 : min k 10 = k') :
    Calls Tryz.prog 6 #[.agg #[.slice A n c, .slice B m d, .slice C k e, .int .i64 r0, .int .i64 r1, .int .i64 r2, .int .i64 r3, .int .u64 r4], .int .i64 N] w fun e w' => e = .returned (.bool true) ∧ Below w.heap.size w w' := by
  have hcut := cut8 A B C n c m d k e r0 r1 r2 r3 r4 (w.alloc (.cells #[.slice A n c, .slice B m d, .slice C k e, .int .i64 r0, .int .i64 r1, .int .i64 r2, .int .i64 r3, .int .u64 r4] 29)) hn hm hk
  rw [e1, e2, e3] at hcut
  have HCUT := Lib.hid hcut
  clear hcut e1 e2 e3 hn hm hk
  have hz : (w.alloc (.cells #[.slice A n c, .slice B m d, .slice C k e, .int .i64 r0, .int .i64 r1, .int .i64 r2, .int .i64 r3, .int .u64 r4] 29)).heap.size = w.heap.size + 1 := by simp
  have HB0 : Hid (Below w.heap.size w (w.alloc (.cells #[.slice A n c, .slice B m d, .slice C k e, .int .i64 r0, .int .i64 r1, .int .i64 r2, .int .i64 r3, .int .u64 r4] 29))) := (Below.refl _ w).alloc (Nat.le_refl _) _
  have hdz : ∀ w : World, (Op.equalIn 10000 53 (.agg #[.int .u8 0, .int .u8 0, .int .u8 0, .int .u8 0, .int .u8 0, .int .u8 0, .int .u8 0, .int .u8 0]) (.agg #[.int .u8 0, .int .u8 0, .int .u8 0, .int .u8 0, .int .u8 0, .int .u8 0, .int .u8 0, .int .u8 0])).run Tryz.prog w = .ok true w := fun w => by kernel_rfl
  go_enter Tryz.func6, Tryz.ntmps6
  go_wp2_with fail
  refine HCUT.out.mono ?_
  rintro e0 w1 ⟨rfl, hb1⟩
  have hb := last_stays rfl hb1
  have HB1 : Hid (Below w.heap.size w w1) := HB0.out.trans (hb1.mono HB0.out.size)
  clear hb1 HCUT
  have c0 := blkC hb 0
  have f0 := blkF hb 0
  have c1 := blkC hb 1
  have f1 := blkF hb 1
  have c2 := blkC hb 2
  have f2 := blkF hb 2
  have c3 := blkC hb 3
  have f3 := blkF hb 3
  have c4 := blkC hb 4
  have f4 := blkF hb 4
  have c5 := blkC hb 5
  have f5 := blkF hb 5
  have c6 := blkC hb 6
  have f6 := blkF hb 6
  have c7 := blkC hb 7
  have f7 := blkF hb 7
  have HB := Lib.hid hb
  clear hb
  go_wp2_with fail
  have hr := row8 (v0 := .slice A n' c) (v1 := .slice B m' d) (v2 := .slice C k' e) (v3 := .int .i64 r0) (v4 := .int .i64 r1) (v5 := .int .i64 r2) (v6 := .int .i64 r3) (v7 := .int .u64 r4) HB.out
  have HB2 := Lib.hid (below8 (v0 := .slice A n' c) (v1 := .slice B m' d) (v2 := .slice C k' e) (v3 := .int .i64 r0) (v4 := .int .i64 r1) (v5 := .int .i64 r2) (v6 := .int .i64 r3) (v7 := .int .u64 r4) HB1.out (Nat.le_refl w.heap.size))
  generalize ((((((((w1.setCell ⟨w.heap.size, 0, none⟩ (.slice A n' c)).setCell ⟨w.heap.size, 1, none⟩ (.slice B m' d)).setCell ⟨w.heap.size, 2, none⟩ (.slice C k' e)).setCell ⟨w.heap.size, 3, none⟩ (.int .i64 r0)).setCell ⟨w.heap.size, 4, none⟩ (.int .i64 r1)).setCell ⟨w.heap.size, 5, none⟩ (.int .i64 r2)).setCell ⟨w.heap.size, 6, none⟩ (.int .i64 r3)).setCell ⟨w.heap.size, 7, none⟩ (.int .u64 r4)) = W2 at hr HB2 ⊢
  have HT : Hid (∀ W, Below W2.heap.size W2 W → W.heap[w.heap.size]? = some (.cells #[.slice A n' c, .slice B m' d, .slice C k' e, .int .i64 r0, .int .i64 r1, .int .i64 r2, .int .i64 r3, .int .u64 r4] 29 (0, 0)) ∧ Below w.heap.size w W) := fun W hW => ⟨(hW.block _ (Array.getElem?_eq_some_iff.1 hr).1).trans hr, HB2.out.trans (hW.mono HB2.out.size)⟩
  clear hr HB HB1 c0 f0 c1 f1 c2 f2 c3 f3 c4 f4 c5 f5 c6 f6 c7 f7
  refine (nilStart _).mono ?_
  rintro e0 v0 ⟨rfl, hb0⟩
  have HQ0 : Hid (Below W2.heap.size W2 v0) := hb0
  clear hb0
  have HA0 : Hid (Below W2.heap.size W2 (v0.alloc (.cells #[.slice none 0 0, .slice none 0 0, .slice none 0 0, .int .i64 0, .int .i64 0, .int .i64 0, .int .i64 0, .int .u64 0] 29))) := HQ0.out.alloc HQ0.out.size _
  have hr0 := (HT.out _ HA0.out).1
  have c0 := blkC hr0 0
  have c1 := blkC hr0 1
  have c2 := blkC hr0 2
  have c3 := blkC hr0 3
  have c4 := blkC hr0 4
  have c5 := blkC hr0 5
  have c6 := blkC hr0 6
  have c7 := blkC hr0 7
  clear hr0
  go_wp2_with fail
  clear c0 c1 c2 c3 c4 c5 c6 c7
  refine (nilDo A B C n' c m' d k' e r0 r1 r2 r3 r4 _ N).mono ?_
  rintro e1 v1 ⟨rfl, hb1⟩
  have HQ1 : Hid (Below W2.heap.size W2 v1) := (HA0.out).trans (hb1.mono (HA0.out).size)
  clear hb1
  have HA1 : Hid (Below W2.heap.size W2 (v1.alloc (.cells #[.slice none 0 0, .slice none 0 0, .slice none 0 0, .int .i64 0, .int .i64 0, .int .i64 0, .int .i64 0, .int .u64 0] 29))) := HQ1.out.alloc HQ1.out.size _
  have hr1 := (HT.out _ HA1.out).1
  have c0 := blkC hr1 0
  have c1 := blkC hr1 1
  have c2 := blkC hr1 2
  have c3 := blkC hr1 3
  have c4 := blkC hr1 4
  have c5 := blkC hr1 5
  have c6 := blkC hr1 6
  have c7 := blkC hr1 7
  clear hr1
  go_wp2_with fail
  clear c0 c1 c2 c3 c4 c5 c6 c7
  refine (nilSilence A B C n' c m' d k' e r0 r1 r2 r3 r4 _ N).mono ?_
  rintro e2 v2 ⟨rfl, hb2⟩
  have HQ2 : Hid (Below W2.heap.size W2 v2) := (HA1.out).trans (hb2.mono (HA1.out).size)
  clear hb2
  have HA2 : Hid (Below W2.heap.size W2 (v2.alloc (.cells #[.slice none 0 0, .slice none 0 0, .slice none 0 0, .int .i64 0, .int .i64 0, .int .i64 0, .int .i64 0, .int .u64 0] 29))) := HQ2.out.alloc HQ2.out.size _
  have hr2 := (HT.out _ HA2.out).1
  have c0 := blkC hr2 0
  have c1 := blkC hr2 1
  have c2 := blkC hr2 2
  have c3 := blkC hr2 3
  have c4 := blkC hr2 4
  have c5 := blkC hr2 5
  have c6 := blkC hr2 6
  have c7 := blkC hr2 7
  clear hr2
  go_wp2_with fail
  clear c0 c1 c2 c3 c4 c5 c6 c7
  refine (nilPays A B C n' c m' d k' e r0 r1 r2 r3 r4 _ N).mono ?_
  rintro e3 v3 ⟨rfl, hb3⟩
  have HQ3 : Hid (Below W2.heap.size W2 v3) := (HA2.out).trans (hb3.mono (HA2.out).size)
  clear hb3
  go_wp2_with fail
  refine (known17 (HL.out.below (HT.out _ HQ3.out).2)).mono ?_
  rintro e4 v4 ⟨rfl, hb4⟩
  have HQ4 : Hid (Below W2.heap.size W2 v4) := (HQ3.out).trans (hb4.mono (HQ3.out).size)
  clear hb4
  have hr4 := (HT.out _ HQ4.out).1
  have c0 := blkC hr4 0
  have c1 := blkC hr4 1
  have c2 := blkC hr4 2
  have c3 := blkC hr4 3
  have c4 := blkC hr4 4
  have c5 := blkC hr4 5
  have c6 := blkC hr4 6
  have c7 := blkC hr4 7
  clear hr4
  go_wp2_with fail
  clear c0 c1 c2 c3 c4 c5 c6 c7
  refine (nilCheck A B C n' c m' d k' e r0 r1 r2 r3 r4 _).mono ?_
  rintro e5 v5 ⟨rfl, hb5⟩
  have HQ5 : Hid (Below W2.heap.size W2 v5) := (HQ4.out).trans (hb5.mono (HQ4.out).size)
  clear hb5
  have hr5 := (HT.out _ HQ5.out).1
  have c0 := blkC hr5 0
  have c1 := blkC hr5 1
  have c2 := blkC hr5 2
  have c3 := blkC hr5 3
  have c4 := blkC hr5 4
  have c5 := blkC hr5 5
  have c6 := blkC hr5 6
  have c7 := blkC hr5 7
  clear hr5
  go_wp2_with fail
  clear c0 c1 c2 c3 c4 c5 c6 c7
  refine (nilTurn A B C n' c m' d k' e r0 r1 r2 r3 r4 _).mono ?_
  rintro e6 v6 ⟨rfl, hb6⟩
  have HQ6 : Hid (Below W2.heap.size W2 v6) := (HQ5.out).trans (hb6.mono (HQ5.out).size)
  clear hb6
  have hr6 := (HT.out _ HQ6.out).1
  have c0 := blkC hr6 0
  have c1 := blkC hr6 1
  have c2 := blkC hr6 2
  have c3 := blkC hr6 3
  have c4 := blkC hr6 4
  have c5 := blkC hr6 5
  have c6 := blkC hr6 6
  have c7 := blkC hr6 7
  clear hr6
  go_wp2_with fail
  clear c0 c1 c2 c3 c4 c5 c6 c7
  refine (nilMoves A B C n' c m' d k' e r0 r1 r2 r3 r4 _).mono ?_
  rintro e7 v7 ⟨rfl, hb7⟩
  have HQ7 : Hid (Below W2.heap.size W2 v7) := (HQ6.out).trans (hb7.mono (HQ6.out).size)
  clear hb7
  go_wp2_with fail
  refine (nilName _).mono ?_
  rintro e8 v8 ⟨rfl, hb8⟩
  have HQ8 : Hid (Below W2.heap.size W2 v8) := (HQ7.out).trans (hb8.mono (HQ7.out).size)
  clear hb8
  go_wp2_with fail
  refine (nilCode _).mono ?_
  rintro e9 v9 ⟨rfl, hb9⟩
  have HQ9 : Hid (Below W2.heap.size W2 v9) := (HQ8.out).trans (hb9.mono (HQ8.out).size)
  clear hb9
  go_wp2_with fail
  refine (nilSeats _).mono ?_
  rintro e10 v10 ⟨rfl, hb10⟩
  have HQ10 : Hid (Below W2.heap.size W2 v10) := (HQ9.out).trans (hb10.mono (HQ9.out).size)
  clear hb10
  go_wp2_with fail
  refine (nilStakes _).mono ?_
  rintro e11 v11 ⟨rfl, hb11⟩
  have HQ11 : Hid (Below W2.heap.size W2 v11) := (HQ10.out).trans (hb11.mono (HQ10.out).size)
  clear hb11
  go_wp2_with fail
  refine (nilMenu _).mono ?_
  rintro e12 v12 ⟨rfl, hb12⟩
  have HQ12 : Hid (Below W2.heap.size W2 v12) := (HQ11.out).trans (hb12.mono (HQ11.out).size)
  clear hb12
  go_wp2_with fail
  refine (nilDigest _).mono ?_
  rintro e13 v13 ⟨rfl, hb13⟩
  have HQ13 : Hid (Below W2.heap.size W2 v13) := (HQ12.out).trans (hb13.mono (HQ12.out).size)
  clear hb13
  go_wp2_with fail
  go_ret
  exact ⟨rfl, (HT.out _ HQ13.out).2⟩
set_option maxRecDepth 100000 in
theorem walk {H : Type} {enc : TypeId × Value → H} {base : Nat} {d : DataW H} {p : List MemPlace} (v : Value) (N : Int) (w : World) (hv : Value.okWide Tryz.prog w .any base 29 v) (tr : DataW.Trod enc Tryz.prog w 0 (fun _ => true) true 29 v d p) (_ : (Lit.int .i64 N).wf = true) (hL : LaidIn G0 w) :
    Calls Tryz.prog 6 #[v, .int .i64 N] w fun e w' => e = .returned (.bool true) ∧ Below w.heap.size w w' := by
  obtain ⟨A, B, C, n, c, m, d, k, e, y, _, rfl, _, _, _, h1, h2, h3⟩ := pos_val hv tr
  exact walk0 A B C n c m d k e _ _ _ _ _ _ _ _ N w (Lib.hid hL) h1 h2 h3 rfl rfl rfl

set_option maxRecDepth 100000 in
theorem lifted (os : Os) (started : os.Started) (H : Type) (enc : TypeId × Value → H) :
    ReturnsInHanded {} Tryz.checked os 6 .any (fun w args => (Rows.gameNilSpec.pre enc Tryz.prog Tryz.f6 [] false w args ∧ laidMetH Tryz.prog [("math/bits.deBruijn32tab", Rows.laid_math_bits_deBruijn32tab), ("math/bits.deBruijn64tab", Rows.laid_math_bits_deBruijn64tab), ("internal/strconv.uint64pow10", Rows.laid_internal_strconv_uint64pow10), ("unicode.White_Space", Rows.laid_unicode_White_Space), ("strings.asciiSpace", Rows.laid_strings_asciiSpace), ("baize/code.operations", Rows.laid_baize_code_operations), ("baize/print.operations", Rows.laid_baize_print_operations), ("baize/print.parts", Rows.laid_baize_print_parts), ("baize/sorts.stmtParts", Rows.laid_baize_sorts_stmtParts), ("baize/sorts.exprParts", Rows.laid_baize_sorts_exprParts)] w) ∧ sizedMet enc Tryz.prog Tryz.f6 (OpenSpec.ofChange Rows.gameNilSpec) false w args) (Rows.gameNilSpec.post enc Tryz.prog Tryz.f6 false true false false) := by
  refine returnsInHanded_of_change_and (C := Tryz.checked) (X := fun w _ => laidMetH Tryz.prog [("math/bits.deBruijn32tab", Rows.laid_math_bits_deBruijn32tab), ("math/bits.deBruijn64tab", Rows.laid_math_bits_deBruijn64tab), ("internal/strconv.uint64pow10", Rows.laid_internal_strconv_uint64pow10), ("unicode.White_Space", Rows.laid_unicode_White_Space), ("strings.asciiSpace", Rows.laid_strings_asciiSpace), ("baize/code.operations", Rows.laid_baize_code_operations), ("baize/print.operations", Rows.laid_baize_print_operations), ("baize/print.parts", Rows.laid_baize_print_parts), ("baize/sorts.stmtParts", Rows.laid_baize_sorts_stmtParts), ("baize/sorts.exprParts", Rows.laid_baize_sorts_exprParts)] w) (fun _ _ _ hh h => h.of_heap hh) own_knob started (by kernel_rfl) Tryz.func6
    (ChangeSpec.witness_shaped (enc := enc) (C := Tryz.checked) (os := os) (X := fun w _ => laidMetH Tryz.prog [("math/bits.deBruijn32tab", Rows.laid_math_bits_deBruijn32tab), ("math/bits.deBruijn64tab", Rows.laid_math_bits_deBruijn64tab), ("internal/strconv.uint64pow10", Rows.laid_internal_strconv_uint64pow10), ("unicode.White_Space", Rows.laid_unicode_White_Space), ("strings.asciiSpace", Rows.laid_strings_asciiSpace), ("baize/code.operations", Rows.laid_baize_code_operations), ("baize/print.operations", Rows.laid_baize_print_operations), ("baize/print.parts", Rows.laid_baize_print_parts), ("baize/sorts.stmtParts", Rows.laid_baize_sorts_stmtParts), ("baize/sorts.exprParts", Rows.laid_baize_sorts_exprParts)] w) false (World.doorLaid Tryz.prog 400 os) #[.agg #[.slice none 0 0, .slice none 0 0, .slice none 0 0, .int .i64 0, .int .i64 0, .int .i64 0, .int .i64 0, .int .u64 0], .int .i64 0] 8 rfl (door_shaped os _) (by kernel_rfl) (by kernel_rfl) (by kernel_rfl) (door_met os _)) ?_
  intro W base args ds gs before hval0 hW _ _ hL _
  have hval : ∀ (j : Nat) t v, Tryz.f6.params[j]? = some t → args[j]? = some v → Value.okWide Tryz.prog W .any base t v := hval0
  have hW' := hW
  obtain ⟨p, q, hA0, hV, rfl, hfz, hnd⟩ := hW
  have hA : DataW.TrodAll enc Tryz.prog W 0 (fun _ => true) true Tryz.f6.params.toList args.toList ds p := hA0
  rw [Tryz.params6] at hA hval
  obtain ⟨v0, vs0, d0, ds0, p0, q0, hargs, rfl, rfl, h0, r0⟩ := trodAll_cons hA
  obtain ⟨v1, vs1, d1, ds1, p1, q1, rfl, rfl, rfl, h1, r1⟩ := trodAll_cons r0
  obtain ⟨rfl, rfl, rfl⟩ := trodAll_nil r1
  obtain rfl : args = #[v0, v1] := by cases args; simp_all
  obtain ⟨rfl, rfl⟩ := trodVars_none hV
  have k0 := h0
  have lt0 : ∀ x ∈ p0, x.block < W.heap.size := by obtain ⟨m, hm⟩ := k0; exact DataW.trod_lt m _ _ _ hm
  have ok0 := hval 0 29 v0 rfl rfl
  obtain ⟨a1, rfl, rfl, rfl, w1⟩ := open_int Tryz.underlying3 (hval 1 3 v1 rfl rfl) h1
  clear hA0 hval0
  refine (walk v0 a1 W ok0 k0 w1 (laidIn_of (l := [("math/bits.deBruijn32tab", Rows.laid_math_bits_deBruijn32tab), ("math/bits.deBruijn64tab", Rows.laid_math_bits_deBruijn64tab), ("internal/strconv.uint64pow10", Rows.laid_internal_strconv_uint64pow10), ("unicode.White_Space", Rows.laid_unicode_White_Space), ("strings.asciiSpace", Rows.laid_strings_asciiSpace), ("baize/code.operations", Rows.laid_baize_code_operations), ("baize/print.operations", Rows.laid_baize_print_operations), ("baize/print.parts", Rows.laid_baize_print_parts), ("baize/sorts.stmtParts", Rows.laid_baize_sorts_stmtParts), ("baize/sorts.exprParts", Rows.laid_baize_sorts_exprParts)]) hL (ns := ["baize/print.parts", "baize/code.operations", "strings.asciiSpace", "baize/sorts.stmtParts", "internal/strconv.uint64pow10", "baize/sorts.exprParts", "baize/print.operations", "math/bits.deBruijn32tab", "math/bits.deBruijn64tab"]) (by kernel_rfl))).mono fun e W' ⟨he, bel⟩ => ?_
  subst he
  exact ⟨_, rfl, _, _, _, [], _, [], hW', trodAll_mk1 (shut_bool Tryz.underlying4 _), (trodAll_cons_mk (Below.trod laid_out (by kernel_rfl) (of_decide_eq_true (by kernel_rfl)) k0 bel lt0) (trodAll_cons_mk (shut_int Tryz.underlying3 w1) trodAll_mk0)), rfl, bel.frame _, fun h => by cases h⟩

end Go.Proofs.YthnjebcablpneaaGreatDoor.gameNil
