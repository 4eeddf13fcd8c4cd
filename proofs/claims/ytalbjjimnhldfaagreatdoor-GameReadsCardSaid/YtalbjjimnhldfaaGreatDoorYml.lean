/- The law of moves: what is to be shown. -/
import Derived.Test.YtalbjjimnhldfaaGreatDoorYmvP
import Derived.Test.YtalbjjimnhldfaaGreatDoorYenc
import Derived.Test.YtalbjjimnhldfaaGreatDoorKnownB
section
set_option maxRecDepth 100000
namespace Go.Proofs.YtalbjjimnhldfaaGreatDoor
open Go.Ev
-- keep num foldI dnum frm Go.Ev.Sli lookN Byts8 valN lead rdC wdC wsC decM endC unfI OwB Go.Ev.HV LC encM encMk encV MH RI q2C cells0 cells1 cells2 cells4 cells5 cells6 cells8 cells9 cells10
noncomputable section
def globR : List (Nat × PO) := [(0, .f cells0 329 .ro), (1, .f cells1 335 .ro), (2, .f cells2 359 .ro), (4, .f cells4 329 .ro), (5, .f cells5 370 .ro), (6, .f cells6 384 .ro), (8, .f cells8 388 .ro), (9, .f cells9 391 .ro), (10, .f cells10 392 .ro)]
def S_known : SpecD where
  f := 17
  α := Unit
  args _ := []
  R _ := globR
  n := 12
  pre _ := True
  outs := [⟨Unit, fun _ _ => True, fun _ _ => .bool true, fun _ _ => [], fun _ _ => 12, fun _ _ => []⟩]
  pick _ _ := 0
  find _ _ := some ((), [])
end
end Go.Proofs.YtalbjjimnhldfaaGreatDoor
end

/- Moves that are written are read: plain Lean. -/
section
set_option maxRecDepth 100000
namespace Go.Proofs.YtalbjjimnhldfaaGreatDoor
open Go.Ev
theorem dn_step {a b : Int} (h0 : 0 ≤ a) (h1 : a < 72057594037927936) (hb : byt b) : IntKind.wrap .u64 (IntKind.wrap .u64 (a * 256) + IntKind.wrap .u64 b) = a * 256 + b := by
  obtain ⟨b0, b1⟩ := hb
  rw [wrap_u64, wrap_u64 (a * 256), wrap_u64 b]
  omega
theorem dnum_eq {d : D8} (h : d.Ok) : dnum d.l = (((((((0 * 256 + d.d7) * 256 + d.d6) * 256 + d.d5) * 256 + d.d4) * 256 + d.d3) * 256 + d.d2) * 256 + d.d1) * 256 + d.d0 := by
  obtain ⟨⟨a0, b0⟩, ⟨a1, b1⟩, ⟨a2, b2⟩, ⟨a3, b3⟩, ⟨a4, b4⟩, ⟨a5, b5⟩, ⟨a6, b6⟩, ⟨a7, b7⟩⟩ := h
  show dnum [d.d0, d.d1, d.d2, d.d3, d.d4, d.d5, d.d6, d.d7] = _
  unfold dnum
  simp only [List.foldr_cons, List.foldr_nil]
  rw [dn_step (a := 0) (b := d.d7) (by omega) (by omega) ⟨a7, b7⟩, dn_step (b := d.d6) (by omega) (by omega) ⟨a6, b6⟩, dn_step (b := d.d5) (by omega) (by omega) ⟨a5, b5⟩, dn_step (b := d.d4) (by omega) (by omega) ⟨a4, b4⟩, dn_step (b := d.d3) (by omega) (by omega) ⟨a3, b3⟩,
    dn_step (b := d.d2) (by omega) (by omega) ⟨a2, b2⟩, dn_step (b := d.d1) (by omega) (by omega) ⟨a1, b1⟩, dn_step (b := d.d0) (by omega) (by omega) ⟨a0, b0⟩]
theorem frm_dnum {d : D8} (h : d.Ok) : frm (dnum d.l) = d := by
  rw [dnum_eq h]
  obtain ⟨⟨a0, b0⟩, ⟨a1, b1⟩, ⟨a2, b2⟩, ⟨a3, b3⟩, ⟨a4, b4⟩, ⟨a5, b5⟩, ⟨a6, b6⟩, ⟨a7, b7⟩⟩ := h
  obtain ⟨e0, e1, e2, e3, e4, e5, e6, e7⟩ := d
  dsimp only at a0 b0 a1 b1 a2 b2 a3 b3 a4 b4 a5 b5 a6 b6 a7 b7 ⊢
  unfold frm
  simp only [D8.mk.injEq]
  refine ⟨by omega, by omega, by omega, by omega, by omega, by omega, by omega, by omega⟩
theorem rdC_num {bs pre rest : List Int} {n : Nat} {p m : Int} (hb : bs = pre ++ (num n ++ rest)) (hn : n < 18446744073709551616) (hp : p = pre.length) :
    ((n : Int) ≤ m → rdC bs p 0 m = ⟨p + (num n).length, 0, n⟩) ∧ (m < n → rdC bs p 0 m = ⟨p, 2, 0⟩) := by
  have hd : bs.drop p.toNat = num n ++ rest := by rw [hb, hp]; simp
  have hl := lookN_num n hn rest
  rw [← hd] at hl
  refine ⟨fun h => ?_, fun h => ?_⟩
  · rw [rdC_ok (by simp) (by rw [hl]; simp) (by rw [hl]; show ¬ m < (n : Int); omega), hl]
  · rw [rdC_big (by simp) (by rw [hl]; simp) (by rw [hl]; exact h)]
def encL (xs : List Int) : List Int := xs.flatMap fun x => num (foldI x).toNat
theorem map_getD (xs : List Int) : (List.range xs.length).map (fun j => xs.getD j 0) = xs := by
  apply List.ext_getElem
  · simp
  · intro i h1 h2
    simp [List.getD, h2]
theorem encV_all (xs : List Int) : encV xs xs.length = encL xs := by
  have := congrArg (fun l : List Int => l.flatMap fun x => num (foldI x).toNat) (map_getD xs)
  simp only [List.flatMap_map] at this
  exact this
theorem unf_fold (y : Int) : unfI (foldI y) = y := by
  unfold unfI foldI
  split <;> split <;> omega
theorem wdC_num {bs pre rest : List Int} {y p : Int} (hb : bs = pre ++ (num (foldI y).toNat ++ rest)) (hy : -2147483648 ≤ y ∧ y ≤ 2147483647) (hp : p = pre.length) : wdC bs p 0 = ⟨p + (num (foldI y).toNat).length, 0, y⟩ := by
  obtain ⟨f0, f1⟩ := fold_in (a := y) ⟨by omega, by omega⟩
  have hr := (rdC_num (m := 18446744073709551615) hb (by omega) hp).1 (by omega)
  have hu : unfI (rdC bs p 0 18446744073709551615).n = y := by
    rw [hr]
    show unfI (((foldI y).toNat : Nat) : Int) = y
    rw [Int.toNat_of_nonneg f0, unf_fold]
  rw [wdC_ok (by rw [hu]; omega), hu, hr, wrap_i32']
  show WR.mk _ _ _ = _
  rw [show (y + 2147483648) % 4294967296 - 2147483648 = y by omega]
theorem wsC_enc {bs rest : List Int} : ∀ (ys pre : List Int) {p : Int}, bs = pre ++ (encL ys ++ rest) → (∀ n ∈ ys, -2147483648 ≤ n ∧ n ≤ 2147483647) → p = pre.length → wsC bs ys.length p 0 = ⟨p + (encL ys).length, 0, ys⟩ := by
  intro ys
  induction ys with
  | nil => intro pre p hb _ hp; show LW.mk p 0 [] = _; simp [encL]
  | cons y ys ih =>
    intro pre p hb hw hp
    have h1 : bs = pre ++ (num (foldI y).toNat ++ (encL ys ++ rest)) := by rw [hb]; simp [encL]
    have hd := wdC_num h1 (hw y (by simp)) hp
    have h2 := ih (pre ++ num (foldI y).toNat) (p := p + (num (foldI y).toNat).length) (by rw [h1]; simp) (fun n hn => hw n (by simp [hn])) (by rw [hp]; simp)
    rw [List.length_cons, wsC_succ, hd]
    dsimp only
    rw [h2]
    simp [encL]
    omega
theorem dec_t {xs : List Int} {d : D8} (hd : d.Ok) : decM (encM true xs d) = ⟨0, true, [], d⟩ := by
  have hn := dnum_in d.l
  have hb : encM true xs d = [] ++ (num 1 ++ num (dnum d.l).toNat) := rfl
  generalize hbs : encM true xs d = bs at hb ⊢
  have r1 := (rdC_num (p := 0) (m := 1) hb (by decide) rfl).1 (by decide)
  have hb2 : bs = num 1 ++ (num (dnum d.l).toNat ++ []) := by rw [hb]; simp
  have r2 := (rdC_num (p := 0 + ((num 1).length : Nat)) (m := 18446744073709551615) hb2 (by omega) (by simp)).1 (by omega)
  rw [decM_t (by rw [r1]; rfl), r1]
  dsimp only
  rw [r2]
  dsimp only
  rw [endC_ok (by rw [hb]; simp), Int.toNat_of_nonneg hn.1, frm_dnum hd]
theorem dec_f {xs : List Int} {d : D8} (hw : ∀ n ∈ xs, -2147483648 ≤ n ∧ n ≤ 2147483647) (hl : xs.length ≤ 4) : decM (encM false xs d) = ⟨0, false, xs, d80⟩ := by
  have hb : encM false xs d = [] ++ (num 0 ++ (num xs.length ++ encL xs)) := by rw [← encV_all]; simp [encM]
  generalize hbs : encM false xs d = bs at hb ⊢
  have r1 := (rdC_num (p := 0) (m := 1) hb (by decide) rfl).1 (by decide)
  have hb2 : bs = num 0 ++ (num xs.length ++ encL xs) := by rw [hb]; simp
  have r2 := (rdC_num (p := 0 + ((num 0).length : Nat)) (m := 4) hb2 (by omega) (by simp)).1 (by omega)
  have hq : q2C bs = ⟨0 + ((num 0).length : Nat) + ((num xs.length).length : Nat), 0, xs.length⟩ := by unfold q2C; rw [r1]; exact r2
  have hb3 : bs = (num 0 ++ num xs.length) ++ (encL xs ++ []) := by rw [hb]; simp
  have r3 := wsC_enc xs (num 0 ++ num xs.length) (p := 0 + ((num 0).length : Nat) + ((num xs.length).length : Nat)) hb3 hw (by simp)
  rw [decM_f (by rw [r1]; show ¬ ((0 : Nat) : Int) = 1; decide), hq]
  dsimp only
  rw [Int.toNat_natCast, r3]
  dsimp only
  rw [endC_ok (by rw [hb3]; simp; omega)]
theorem dec_long {xs : List Int} {d : D8} (hl : 4 < xs.length) (hl2 : xs.length < 18446744073709551616) : (decM (encM false xs d)).e = 2 := by
  have hb : encM false xs d = [] ++ (num 0 ++ (num xs.length ++ encL xs)) := by rw [← encV_all]; simp [encM]
  generalize hbs : encM false xs d = bs at hb ⊢
  have r1 := (rdC_num (p := 0) (m := 1) hb (by decide) rfl).1 (by decide)
  have hb2 : bs = num 0 ++ (num xs.length ++ encL xs) := by rw [hb]; simp
  have r2 := (rdC_num (p := 0 + ((num 0).length : Nat)) (m := 4) hb2 (by omega) (by simp)).2 (by omega)
  have hq : q2C bs = ⟨0 + ((num 0).length : Nat), 2, 0⟩ := by unfold q2C; rw [r1]; exact r2
  rw [decM_f (by rw [r1]; show ¬ ((0 : Nat) : Int) = 1; decide), hq]
  show endC bs (0 + ((num 0).length : Nat)) 2 = 2
  exact endC_err (by decide)
end Go.Proofs.YtalbjjimnhldfaaGreatDoor
end

/- The law of moves: it is so. -/
section
set_option maxRecDepth 100000
namespace Go.Proofs.YtalbjjimnhldfaaGreatDoor
open Go.Ev
theorem flat_all {c : List Value} (h : c.all ftag = true) : FlatL c := fun v hv => List.all_eq_true.1 h v hv
theorem gl : FlatL cells0 ∧ FlatL cells1 ∧ FlatL cells2 ∧ FlatL cells4 ∧ FlatL cells5 ∧ FlatL cells6 ∧ FlatL cells8 ∧ FlatL cells9 ∧ FlatL cells10 := ⟨flat_all (by kernel_rfl), flat_all (by kernel_rfl), flat_all (by kernel_rfl), flat_all (by kernel_rfl), flat_all (by kernel_rfl), flat_all (by kernel_rfl), flat_all (by kernel_rfl), flat_all (by kernel_rfl), flat_all (by kernel_rfl)⟩
theorem Sli.cut {α : Type} {f : α → Value} {sz o l k m q : Nat} {n : Bool} {c : List Value} {xs : List α} (h : Sli f sz n o l k c xs) (hm : m = q * sz) : Sli f sz n o (min l q) k c (xs.take m) :=
  ⟨h.at_.take m, by
    have := h.len
    rw [List.length_take, hm, this]
    rw [Nat.min_comm (q * sz), Nat.mul_min_mul_right], fun hn => ⟨by have := (h.nil hn).1; omega, (h.nil hn).2⟩, fun hn => Nat.le_trans (Nat.add_le_add_left (Nat.mul_le_mul_right _ (Nat.min_le_left _ _)) _) (h.fit hn), Nat.le_trans (Nat.min_le_left _ _) h.cap, h.flat⟩
theorem LC.mh {t : Bool} {s : SN} {d : D8} {xs : List Int} (h : LC s xs) (hw : ∀ n ∈ xs, -2147483648 ≤ n ∧ n ≤ 2147483647) (hd : d.Ok) : MH ⟨t, ⟨s.n, 0, s.l, s.k, s.c⟩, d⟩ xs := ⟨h.sli, hw, hd⟩
/-- The laid variables, row by row. -/
theorem globs : mem globR 12 = ⟨putAll G0 .e, 12⟩ := by kernel_rfl
theorem known_of {hk : Caller → Caller} (hh : HookOK Tryz.prog hk) (hr : resIs (.bool true) (evCallH Tryz.prog E0 hk 300 17 [] ⟨putAll G0 .e, 12⟩) = true) : SpecOK Tryz.prog S_known.spec := fun a K _ hq => by
  cases hev : evCallH Tryz.prog E0 hk 300 17 [] ⟨putAll G0 .e, 12⟩ with
  | none => rw [hev] at hr; cases hr
  | some p =>
    obtain ⟨v1, B⟩ := p
    rw [hev] at hr
    obtain rfl := veq6_eq (show veq6 v1 (.bool true) = true from hr)
    have hsem : FnSem Tryz.prog 17 [] (mem globR 12) (.bool true) B := fun σ w args' hR ha => by
      rw [globs] at hR ⊢
      exact evCallH_ok envOK hh 300 _ [] _ _ B hev σ w args' hR ha
    exact ⟨.bool true, [], 12, hq.1 () trivial, fun _ _ _ _ h => (nomatch h), fnSem_seen rfl hsem (l := []) (cpb_iff.2 ⟨by kernel_rfl, rfl, trivial⟩)⟩
theorem s_known : SpecOK Tryz.prog S_known.spec := known_of hooksB known17_run
theorem d80_ok : d80.Ok := ⟨⟨by decide, by decide⟩, ⟨by decide, by decide⟩, ⟨by decide, by decide⟩, ⟨by decide, by decide⟩, ⟨by decide, by decide⟩, ⟨by decide, by decide⟩, ⟨by decide, by decide⟩, ⟨by decide, by decide⟩⟩
end Go.Proofs.YtalbjjimnhldfaaGreatDoor
end
