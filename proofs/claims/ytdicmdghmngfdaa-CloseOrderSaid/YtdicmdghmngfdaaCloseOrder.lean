/- CloseOrder holds: for every input the law returns true and its arguments read afterwards as before. No condition. -/
import Derived.Test.YtdicmdghmngfdaaG
import Derived.Test.YtdicmdghmngfdaaIn
namespace Go.Proofs.Ytdicmdghmngfdaa.closeOrder
open Go.ChangeShapes Go.WideShapes Go.ChangeAt Go.RowKit
open Go.ChangeMaps (open_string shut_string)
set_option linter.unusedVariables false

theorem all_reverse' (p : Int → Bool) (xs : List Int) : xs.reverse.all p = xs.all p := by
  induction xs with
  | nil => rfl
  | cons x l ih => simp [ih, Bool.and_comm]
theorem sum_reverse' (xs : List Int) : xs.reverse.sum = xs.sum := by
  induction xs with
  | nil => rfl
  | cons x l ih => simp [ih]; omega
theorem adds_reverse (pot seats : Int) (xs : List Int) : addsS pot seats xs.reverse = addsS pot seats xs := by
  unfold addsS
  rw [List.length_reverse, all_reverse', sum_reverse']

set_option maxHeartbeats 400000 in
theorem walk (pot : Int) (A : Option Addr) (n c : Nat) (xs : List Int) (w : World) (_ : (Lit.int .i64 pot).wf = true) (h : Sl (Value.int .i64) w A n xs) (hf : Fits xs) (_ : A = none → c = 0) :
    Calls Try.prog 6 #[.int .i64 pot, .slice A n c] w fun e w' => e = .returned (.bool true) ∧ Below w.heap.size w w' := by
  have hm := h.max
  by_cases hn : 8 < n
  · have HH := Lib.hid h
    clear h
    go_enter Try.func6, Try.ntmps6
    go_wp2_with (go_at_call 7; refine (told7 _).mono ?_; rintro e w' ⟨rfl, hb⟩)
    go_ret
    exact ⟨rfl, hb⟩
  · have hn8 : decide (8 < (n : Int)) = false := by simp; omega
    have HH := Lib.hid h
    go_enter Try.func6, Try.ntmps6
    go_wp2_with fail
    go_loopw [5, 6] (fun s i wr => ∃ (j k : Nat) (A' : Option Addr) (c' : Nat), j + k = n ∧ i = .int .i64 ((j : Int) - 1) ∧ s = .slice A' k c' ∧ wr.ownsRow w.heap.size 3 1 (.slice A' k c') k ((xs.drop j).reverse.map (Value.int .i64)) ∧ Below w.heap.size w wr) (fun _ i _ => (intOf i + 1).toNat)
    case atStart => exact ⟨n, 0, none, 0, by omega, rfl, rfl, by rw [List.drop_of_length_le (by rw [h.len]; omega)]; exact World.ownsRow_nil _ _ _ _, Below.refl _ _⟩
    case round =>
      obtain ⟨j, k, A', c', hjk, rfl, rfl, hown, hbel⟩ := hrel
      have HOWN := Lib.hid hown
      have HJ := Lib.hid hjk
      have hjk' : j + k ≤ n := by omega
      clear hown
      rcases j with _ | j
      · have hbs := hbel.size
        have hr := Sl.of_row HOWN.out
        rw [List.drop_zero] at hr
        have hkn : k = n := by omega
        subst hkn
        have h1 := adds8 pot k A k c xs wr (h.below hbel) hf
        have h2 := adds8 pot k A' k c' xs.reverse wr hr (fun x hx => hf x (by simpa using hx))
        rw [adds_reverse] at h2
        obtain ⟨r, hr⟩ : ∃ r, addsS pot k xs = r := ⟨_, rfl⟩
        rw [hr] at h1 h2
        have H1 := Lib.hid h1
        have H2 := Lib.hid h2
        have hrr : (r == r) = true := by simp
        clear h1 h2 hr h hjk hjk' HJ
        go_wp2_with fail
        refine H1.out.mono ?_
        rintro e w' ⟨rfl, rfl⟩
        go_wp2_with fail
        refine H2.out.mono ?_
        rintro e w' ⟨rfl, rfl⟩
        go_wp2_with (go_at_call 7; refine (told7 _).mono ?_; rintro e w' ⟨rfl, hb⟩)
        go_ret
        exact ⟨rfl, below_trans hbel hb hbs⟩
      · rw [show (((j + 1 : Nat) : Int) - 1) = (j : Int) by omega]
        obtain ⟨b, off, v, rfl, hbs, hck, hv⟩ := h.get (k := j) (by omega)
        have hck' : wr.cell? ⟨b, off + j, none⟩ = some (.int .i64 v) := (hbel.cell (p := ⟨b, off + j, none⟩) hbs).trans hck
        have hbz := hbel.size
        have HD : Hid (xs.drop j = v :: xs.drop (j + 1)) := drop_cons hv.out
        clear h hck hjk
        go_wp2_with (at_builtin; refine wpList_app1 tyInts rfl _ _ rfl (oneInt .i64) w.heap.size (.slice A' k c') k _ v _ rfl HOWN.out rfl (by unfold maxLen; omega) (by omega) hbz ?_; intro A2 c2 w2 hown2 hgrow2 hat2)
        go_roundw
        case rel =>
          refine ⟨j, k + 1, A2, c2, by have := HJ.out; omega, by go_num, rfl, by rw [HD.out, List.reverse_cons]; exact hown2, ?_⟩
          exact (hbel.alloc hbz _).grown hgrow2 (by simp; omega) (fun g hg => (HOWN.out.lt g hg).1)
        case measure => simp [intOf]

set_option maxRecDepth 100000 in
theorem lifted (os : Os) (started : os.Started) (H : Type) (enc : TypeId × Value → H) :
    ReturnsInHanded {} Try.checked os 6 .any (Rows.closeOrderSpec.pre6 enc Try.prog Try.f6 Rows.closeOrderRow.domain false) (Rows.closeOrderSpec.post enc Try.prog Try.f6 false true false false) := by
  refine returnsInHanded_of_change (C := Try.checked) own_knob started (by kernel_rfl) Try.func6
    (ChangeSpec.witness6 (enc := enc) (C := Try.checked) false ⟨#[], #[.int .i64 0, .slice none 0 0], []⟩ 8 (by kernel_rfl) (by kernel_rfl) (by kernel_rfl) (by kernel_rfl)) ?_
  intro W base args ds gs before hval0 hW hcnd _
  have hval : ∀ (j : Nat) t v, Try.f6.params[j]? = some t → args[j]? = some v → Value.okWide Try.prog W .any base t v := hval0
  have hW' := hW
  obtain ⟨p, q, hA0, hV, rfl, hfz, hnd⟩ := hW
  have hA : DataW.TrodAll enc Try.prog W 0 (fun _ => true) true Try.f6.params.toList args.toList ds p := hA0
  rw [Try.params6] at hA hval
  obtain ⟨v0, vs0, d0, ds0, p0, q0, hargs, rfl, rfl, h0, r0⟩ := trodAll_cons hA
  obtain ⟨v1, vs1, d1, ds1, p1, q1, rfl, rfl, rfl, h1, r1⟩ := trodAll_cons r0
  obtain ⟨rfl, rfl, rfl⟩ := trodAll_nil r1
  obtain rfl : args = #[v0, v1] := by cases args; simp_all
  obtain ⟨rfl, rfl⟩ := trodVars_none hV
  obtain ⟨a0, rfl, rfl, rfl, w0⟩ := open_int Try.underlying3 (hval 0 3 v0 rfl rfl) h0
  obtain ⟨a1, len1, cap1, rfl⟩ := okWide_slice Try.underlying22 (hval 1 22 v1 rfl rfl)
  have k1 := h1
  have lt1 : ∀ x ∈ p1, x.block < W.heap.size := by obtain ⟨m, hm⟩ := k1; exact DataW.trod_lt m _ _ _ hm
  obtain ⟨xs1, sl1, wf1, nl1⟩ : ∃ xs : List Int, Sl (Value.int .i64) W a1 len1 xs ∧ (∀ n ∈ xs, (Lit.int .i64 n).wf = true) ∧ (a1 = none → cap1 = 0) := by
    obtain ⟨fuel, hf⟩ := h1
    exact ints_in Try.underlying22 Try.underlying3 (by kernel_rfl) (by simpa [Value.cells] using hf)
  clear hA0 hval0
  refine (walk a0 a1 len1 cap1 xs1 W w0 sl1 (fits_wf wf1) nl1).mono fun e W' ⟨he, bel⟩ => ?_
  subst he
  exact ⟨_, rfl, _, _, _, [], _, [], hW', trodAll_mk1 (shut_bool Try.underlying4 _), (trodAll_cons_mk (shut_int Try.underlying3 w0) (trodAll_cons_mk (Below.trod laid_out (by kernel_rfl) (of_decide_eq_true (by kernel_rfl)) k1 bel lt1) trodAll_mk0)), rfl, bel.frame _, fun h => by cases h⟩

theorem over : Rows.closeOrderRow.holds Try.pinned (OpenSpec.ofChange Rows.closeOrderSpec) :=
  OpenClaim.holds_of_wide 6 Try.f6 rfl rfl rfl rfl rfl rfl rfl ⟨rfl, rfl, rfl, rfl, rfl⟩ rfl rfl rfl rfl rfl (by kernel_rfl) Try.func6 (by kernel_rfl)
    (of_decide_eq_true (by kernel_rfl)) (by unfold Func.isWrapper; first | (rw [if_pos (by decide +kernel)]; kernel_rfl) | (rw [if_neg (by decide +kernel)]; exact ⟨rfl, rfl⟩))
    (fun os started H enc _ => lifted os started H enc)

/-- The statement. -/
theorem proved : Rows.CloseOrderSaid := over
#print axioms proved
end Go.Proofs.Ytdicmdghmngfdaa.closeOrder
