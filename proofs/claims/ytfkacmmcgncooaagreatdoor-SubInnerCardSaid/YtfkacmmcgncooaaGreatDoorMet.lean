/- The laid variables are met at the door, whatever the arguments; the door's world is shaped. -/
import Derived.Test.YtfkacmmcgncooaaGreatDoorEvV
import Derived.Test.YtfkacmmcgncooaaGreatDoorRows
import Derived.Test.YtfkacmmcgncooaaGreatDoorProg
import Derived.KernelRfl
import Derived.LaidMore
import Derived.LaidHandle
import Derived.Stop.Joined
set_option maxRecDepth 100000
namespace Go.Proofs.YtfkacmmcgncooaaGreatDoor
open Go.Ev
noncomputable def nodupP : List MemPlace → T (T Unit) → Bool
  | [], _ => true
  | .map _ :: _, _ => false
  | .cell b off :: l, M => match M.get b with
    | none => nodupP l (M.set b (T.set .e off ()))
    | some t => match t.get off with
      | some _ => false
      | none => nodupP l (M.set b (t.set off ()))
theorem nodupP_ok : ∀ {l : List MemPlace} {M : T (T Unit)}, nodupP l M = true → l.Nodup ∧ ∀ b off, MemPlace.cell b off ∈ l → ∀ t, M.get b = some t → t.get off = none := by
  intro l
  induction l with
  | nil => intro M _; exact ⟨List.nodup_nil, fun _ _ h => (by cases h)⟩
  | cons p l ih =>
    intro M h
    cases p with
    | map b => cases h
    | cell b off =>
      unfold nodupP at h
      have key : ∀ t', nodupP l (M.set b (t'.set off ())) = true → (∀ t, M.get b = some t → t = t' ∧ t.get off = none) → (MemPlace.cell b off :: l).Nodup ∧ ∀ b' off', MemPlace.cell b' off' ∈ MemPlace.cell b off :: l → ∀ t, M.get b' = some t → t.get off' = none := fun t' h' ht => by
        obtain ⟨nd, hm⟩ := ih h'
        refine ⟨List.nodup_cons.2 ⟨fun hin => ?_, nd⟩, fun b' off' hin t hg => ?_⟩
        · have := hm b off hin (t'.set off ()) (by rw [get_set, if_pos rfl])
          rw [get_set, if_pos rfl] at this
          cases this
        · rcases List.mem_cons.1 hin with e | hin2
          · cases e
            exact (ht t hg).2
          · by_cases hb : b' = b
            · subst hb
              have h1 := hm b' off' hin2 (t'.set off ()) (by rw [get_set, if_pos rfl])
              rw [get_set] at h1
              split at h1
              · cases h1
              · rw [(ht t hg).1]; exact h1
            · exact hm b' off' hin2 t (by rw [get_set, if_neg hb]; exact hg)
      split at h
      · rename_i hg
        exact key .e h (fun t ht => by rw [hg] at ht; cases ht)
      · rename_i t0 hg
        split at h
        · cases h
        · rename_i h0
          exact key t0 h (fun t ht => by rw [hg] at ht; cases ht; exact ⟨rfl, h0⟩)
theorem laidMet_fast {P : Program} {w : World} {l : List (String × DataW Unit)} (fuel : Nat) (h : (DataW.laidRun P w fuel (l.map (·.1))).map (fun x => (x.1, nodupP x.2 .e && laidRowsB P w x.2)) = some (l, true)) : laidMet P l w := by
  cases hx : DataW.laidRun P w fuel (l.map (·.1)) with
  | none => rw [hx] at h; cases h
  | some x =>
    obtain ⟨l', ps⟩ := x
    rw [hx] at h
    simp only [Option.map_some, Option.some.injEq, Prod.mk.injEq, Bool.and_eq_true] at h
    obtain ⟨rfl, h1, h2⟩ := h
    exact laidMet_of_run fuel hx (decide_eq_true (nodupP_ok h1).1) h2
abbrev laidL : List (String × DataW Unit) := [("math/bits.deBruijn32tab", Rows.laid_math_bits_deBruijn32tab), ("math/bits.deBruijn64tab", Rows.laid_math_bits_deBruijn64tab), ("internal/strconv.uint64pow10", Rows.laid_internal_strconv_uint64pow10), ("unicode.White_Space", Rows.laid_unicode_White_Space), ("strings.asciiSpace", Rows.laid_strings_asciiSpace), ("baize/code.operations", Rows.laid_baize_code_operations), ("baize/print.operations", Rows.laid_baize_print_operations), ("baize/print.parts", Rows.laid_baize_print_parts), ("baize/sorts.stmtParts", Rows.laid_baize_sorts_stmtParts), ("baize/sorts.exprParts", Rows.laid_baize_sorts_exprParts)]
theorem door_met (os : Os) (args : Array Value) : laidMetH Tryz.prog laidL ((World.doorLaid Tryz.prog 400 os).forCall (fun _ _ => 0) ⟨#[], args, []⟩).memory :=
  laidMetH_of_parts3 (fuel := 8) (laidMet_fast 8 (by kernel_rfl)) (by kernel_rfl) (by kernel_rfl)
theorem door_shaped (os : Os) (args : Array Value) : ((World.doorLaid Tryz.prog 400 os).forCall (fun _ _ => 0) ⟨#[], args, []⟩).Shaped Tryz.prog := World.shaped_of_RefB (by kernel_rfl) (by kernel_rfl)
end Go.Proofs.YtfkacmmcgncooaaGreatDoor
