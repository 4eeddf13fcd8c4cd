/- Contracts: whether two slices of digests are the same. -/
import Derived.Test.YthnjebcablpneaaGreatDoorSame
import Derived.DeepKeys
set_option maxRecDepth 100000
namespace Go.Proofs.YthnjebcablpneaaGreatDoor
open Go.RowKit Go.Ev
theorem key1 {a : Int} (h : 0 ≤ a ∧ a ≤ 255) : Tryz.prog.keyLits 1 5 [.int .u8 a] = some [.int .u8 a] := by
  have hu : Tryz.prog.underlying 5 = some (.int .u8) := Tryz.underlying5
  unfold Program.keyLits
  rw [hu]
  have hw : (Lit.int .u8 a).wf = true := by simp [Lit.wf, IntKind.min, IntKind.max, IntKind.bits, IntKind.signed]; omega
  simp [hw]
theorem dig_key {a : List Int} (h : Dig a) : Tryz.prog.keyLits 2 53 (digL a) = some (a.map (Lit.int .u8)) := by
  obtain ⟨a0, a1, a2, a3, a4, a5, a6, a7, rfl, h0, h1, h2, h3, h4, h5, h6, h7⟩ := dig_parts h
  have e : Tryz.prog.keyLits 2 53 (digL [a0, a1, a2, a3, a4, a5, a6, a7]) = (([[.int .u8 a0], [.int .u8 a1], [.int .u8 a2], [.int .u8 a3], [.int .u8 a4], [.int .u8 a5], [.int .u8 a6], [.int .u8 a7]] : List (List Value)).mapM fun c => Tryz.prog.keyLits 1 5 c).map List.flatten := by kernel_rfl
  rw [e]
  simp [key1 h0, key1 h1, key1 h2, key1 h3, key1 h4, key1 h5, key1 h6, key1 h7]
theorem dig_eq {p q : List Int} (hp : Dig p) (hq : Dig q) (w : World) : (Op.equalIn 10000 53 (.agg (digL p).toArray) (.agg (digL q).toArray)).run Tryz.prog w = .ok (p == q) w := by
  have hk : Tryz.prog.keyTypeAt 2 53 = true := by kernel_rfl
  obtain ⟨a0, a1, a2, a3, a4, a5, a6, a7, rfl, _⟩ := dig_parts hp
  obtain ⟨b0, b1, b2, b3, b4, b5, b6, b7, rfl, _⟩ := dig_parts hq
  obtain ⟨r, hr, hi⟩ := run_equalIn_deep (P := Tryz.prog) 9998 2 53 hk w 2 2 (.agg #[.int .u8 a0, .int .u8 a1, .int .u8 a2, .int .u8 a3, .int .u8 a4, .int .u8 a5, .int .u8 a6, .int .u8 a7]) (.agg #[.int .u8 b0, .int .u8 b1, .int .u8 b2, .int .u8 b3, .int .u8 b4, .int .u8 b5, .int .u8 b6, .int .u8 b7]) _ _ (by kernel_rfl) (by kernel_rfl) (dig_key hp) (dig_key hq)
  have : r = ([a0, a1, a2, a3, a4, a5, a6, a7] == [b0, b1, b2, b3, b4, b5, b6, b7]) := by
    rw [Bool.eq_iff_iff, hi, beq_iff_eq]
    simp only [List.map, List.cons.injEq, Lit.int.injEq, true_and]
  rw [← this]
  exact hr
theorem or8 (a0 a1 a2 a3 a4 a5 a6 a7 b0 b1 b2 b3 b4 b5 b6 b7 : Int) : (!(a0 == b0) || (!(a1 == b1) || (!(a2 == b2) || (!(a3 == b3) || (!(a4 == b4) || (!(a5 == b5) || (!(a6 == b6) || (!(a7 == b7))))))))) = !([a0, a1, a2, a3, a4, a5, a6, a7] == [b0, b1, b2, b3, b4, b5, b6, b7]) := by
  rw [Bool.eq_iff_iff]
  simp only [Bool.or_eq_true, Bool.not_eq_true', beq_eq_false_iff_ne, ne_eq, List.cons.injEq, and_true]
  omega
theorem eqD (A B : Option Addr) (n m c d : Nat) (xs ys : List (List Int)) (w : World) (h : Sln 8 digL w A n xs) (h' : Sln 8 digL w B m ys) (hx : ∀ d ∈ xs, Dig d) (hy : ∀ d ∈ ys, Dig d) (hm : n ≤ 9223372036854775807) (hm' : m ≤ 9223372036854775807) :
    Calls Tryz.prog 44 #[.slice A n c, .slice B m d] w fun e w' => e = .returned (.bool (xs == ys)) ∧ ∃ N, w' = w.drewN N := by
  have HX := Lib.hid hx
  have HY := Lib.hid hy
  clear hx hy
  by_cases hn : n = m
  · subst hn
    have hn' : ((n : Int) != (n : Int)) = false := by simp
    go_enter Tryz.func44, Tryz.ntmps44
    go_wp2_with fail
    go_loopw [13] (fun i w1 => ∃ (k N : Nat), k ≤ n ∧ i = .int .i64 k ∧ Hid (xs.take k = ys.take k) ∧ w1 = w.drewN N) (fun i _ => n - (intOf i).toNat)
    case atStart => exact ⟨0, 0, Nat.zero_le _, rfl, rfl, rfl⟩
    case round =>
      obtain ⟨k, N, hk, rfl, HT, rfl⟩ := hrel
      by_cases hlt : k < n
      · obtain ⟨b, off, v, rfl, _, hck, hv⟩ := h.get hlt
        obtain ⟨b', off', v', rfl, _, hck', hv'⟩ := h'.get hlt
        obtain ⟨a0, a1, a2, a3, a4, a5, a6, a7, rfl, -⟩ := dig_parts (HX.out v (List.mem_of_getElem? hv.out))
        obtain ⟨b0, b1, b2, b3, b4, b5, b6, b7, rfl, -⟩ := dig_parts (HY.out v' (List.mem_of_getElem? hv'.out))
        have x0 : w.cell? ⟨b, off + k * 8, none⟩ = some (.int .u8 a0) := hck 0 _ rfl
        have x1 : w.cell? ⟨b, off + k * 8 + 1, none⟩ = some (.int .u8 a1) := hck 1 _ rfl
        have x2 : w.cell? ⟨b, off + k * 8 + 2, none⟩ = some (.int .u8 a2) := hck 2 _ rfl
        have x3 : w.cell? ⟨b, off + k * 8 + 3, none⟩ = some (.int .u8 a3) := hck 3 _ rfl
        have x4 : w.cell? ⟨b, off + k * 8 + 4, none⟩ = some (.int .u8 a4) := hck 4 _ rfl
        have x5 : w.cell? ⟨b, off + k * 8 + 5, none⟩ = some (.int .u8 a5) := hck 5 _ rfl
        have x6 : w.cell? ⟨b, off + k * 8 + 6, none⟩ = some (.int .u8 a6) := hck 6 _ rfl
        have x7 : w.cell? ⟨b, off + k * 8 + 7, none⟩ = some (.int .u8 a7) := hck 7 _ rfl
        have y0 : w.cell? ⟨b', off' + k * 8, none⟩ = some (.int .u8 b0) := hck' 0 _ rfl
        have y1 : w.cell? ⟨b', off' + k * 8 + 1, none⟩ = some (.int .u8 b1) := hck' 1 _ rfl
        have y2 : w.cell? ⟨b', off' + k * 8 + 2, none⟩ = some (.int .u8 b2) := hck' 2 _ rfl
        have y3 : w.cell? ⟨b', off' + k * 8 + 3, none⟩ = some (.int .u8 b3) := hck' 3 _ rfl
        have y4 : w.cell? ⟨b', off' + k * 8 + 4, none⟩ = some (.int .u8 b4) := hck' 4 _ rfl
        have y5 : w.cell? ⟨b', off' + k * 8 + 5, none⟩ = some (.int .u8 b5) := hck' 5 _ rfl
        have y6 : w.cell? ⟨b', off' + k * 8 + 6, none⟩ = some (.int .u8 b6) := hck' 6 _ rfl
        have y7 : w.cell? ⟨b', off' + k * 8 + 7, none⟩ = some (.int .u8 b7) := hck' 7 _ rfl
        have hq : ∀ W : World, (Op.equalIn 10000 53 (.agg #[.int .u8 a0, .int .u8 a1, .int .u8 a2, .int .u8 a3, .int .u8 a4, .int .u8 a5, .int .u8 a6, .int .u8 a7]) (.agg #[.int .u8 b0, .int .u8 b1, .int .u8 b2, .int .u8 b3, .int .u8 b4, .int .u8 b5, .int .u8 b6, .int .u8 b7])).run Tryz.prog W = .ok ([a0, a1, a2, a3, a4, a5, a6, a7] == [b0, b1, b2, b3, b4, b5, b6, b7]) W := fun W => dig_eq (HX.out _ (List.mem_of_getElem? hv.out)) (HY.out _ (List.mem_of_getElem? hv'.out)) W
        have HL := Lib.hid h
        have HL' := Lib.hid h'
        clear h h' hck hck'
        go_wp2_with fail
        rename_i hK0
        have hS : ∃ N', (w.drewN N).drew = w.drewN N' := ⟨N + 1, rfl⟩
        refine wp_region_sched [(0, 0), (1, 0), (2, 0), (3, 1), (4, 0), (5, 0), (6, 0), (7, 1), (8, 0)] (fun W => ∃ N', W = w.drewN N') (by kernel_rfl) (by kernel_rfl) hS ?_
        change wpSched _ _ _ _ _ _ (w.drewN N).drew
        refine sched0' rfl rfl (fun W => run_mv (ev_tmp rfl) W) (by (simp only [Act.put, List.getElem_toArray, List.getElem_cons_succ, List.getElem_cons_zero, List.setIfInBounds_toArray, List.set_cons_zero, List.set_cons_succ]; rfl)) ?_
        refine sched0' rfl rfl (fun W => run_mv (ev_tmp rfl) W) (by (simp only [Act.put, List.getElem_toArray, List.getElem_cons_succ, List.getElem_cons_zero, List.setIfInBounds_toArray, List.set_cons_zero, List.set_cons_succ]; rfl)) ?_
        refine sched0' rfl rfl (fun W => by (go_simp; try with_reducible rfl)) (by (simp only [Act.put, List.getElem_toArray, List.getElem_cons_succ, List.getElem_cons_zero, List.setIfInBounds_toArray, List.set_cons_zero, List.set_cons_succ]; rfl)) ?_
        refine sched1' rfl rfl (fun W hW => by (obtain ⟨N', rfl⟩ := hW; go_simp; try with_reducible rfl)) (by (simp only [Act.put, List.getElem_toArray, List.getElem_cons_succ, List.getElem_cons_zero, List.setIfInBounds_toArray, List.set_cons_zero, List.set_cons_succ]; rfl)) ?_
        refine sched0' rfl rfl (fun W => run_mv (ev_tmp rfl) W) (by (simp only [Act.put, List.getElem_toArray, List.getElem_cons_succ, List.getElem_cons_zero, List.setIfInBounds_toArray, List.set_cons_zero, List.set_cons_succ]; rfl)) ?_
        refine sched0' rfl rfl (fun W => run_mv (ev_tmp rfl) W) (by (simp only [Act.put, List.getElem_toArray, List.getElem_cons_succ, List.getElem_cons_zero, List.setIfInBounds_toArray, List.set_cons_zero, List.set_cons_succ]; rfl)) ?_
        refine sched0' rfl rfl (fun W => by (go_simp; try with_reducible rfl)) (by (simp only [Act.put, List.getElem_toArray, List.getElem_cons_succ, List.getElem_cons_zero, List.setIfInBounds_toArray, List.set_cons_zero, List.set_cons_succ]; rfl)) ?_
        refine sched1' rfl rfl (fun W hW => by (obtain ⟨N', rfl⟩ := hW; go_simp; try with_reducible rfl)) (by (simp only [Act.put, List.getElem_toArray, List.getElem_cons_succ, List.getElem_cons_zero, List.setIfInBounds_toArray, List.set_cons_zero, List.set_cons_succ]; rfl)) ?_
        refine sched0' rfl rfl (fun W => by (go_simp; try with_reducible rfl)) (by (simp only [Act.put, List.getElem_toArray, List.getElem_cons_succ, List.getElem_cons_zero, List.setIfInBounds_toArray, List.set_cons_zero, List.set_cons_succ]; rfl)) ?_
        refine hK0 _ _ ?_
        clear hK0 hq x0 x1 x2 x3 x4 x5 x6 x7 y0 y1 y2 y3 y4 y5 y6 y7
        simp only [or8]
        have HP : Hid (([a0, a1, a2, a3, a4, a5, a6, a7] == [b0, b1, b2, b3, b4, b5, b6, b7]) = true → xs.take (k + 1) = ys.take (k + 1)) := fun he => by
          rw [take_snoc hv.out, take_snoc hv'.out, HT.out, beq_iff_eq.1 he]
        have HM : Hid (([a0, a1, a2, a3, a4, a5, a6, a7] == [b0, b1, b2, b3, b4, b5, b6, b7]) = false → (xs == ys) = false) := fun he => by
          rw [beq_eq_false_iff_ne] at he ⊢
          rintro rfl
          exact he (by have := hv.out.symm.trans hv'.out; simpa using this)
        clear hv hv'
        generalize ([a0, a1, a2, a3, a4, a5, a6, a7] == [b0, b1, b2, b3, b4, b5, b6, b7]) = bb at HP HM ⊢
        cases bb
        · have HE := Lib.hid (HM.out rfl)
          go_wp2_with fail
          go_ret
          exact ⟨by rw [HE.out]; rfl, N + 1, rfl⟩
        · have HN := Lib.hid (HP.out rfl)
          go_wp2_with fail
          go_roundw
          case rel => exact ⟨k + 1, N + 1, by omega, by go_num, HN, rfl⟩
          case measure => simp [intOf]; omega
      · obtain rfl : k = n := by omega
        have HE : Hid ((xs == ys) = true) := by
          have := HT.out
          rw [List.take_of_length_le (by rw [h.len]; omega), List.take_of_length_le (by rw [h'.len]; omega)] at this
          show (xs == ys) = true
          rw [beq_iff_eq]; exact this
        clear h h'
        go_wp2_with fail
        go_ret
        exact ⟨by rw [HE.out]; rfl, N, rfl⟩
  · have hn' : ((n : Int) != (m : Int)) = true := by simp; omega
    have HE : Hid ((xs == ys) = false) := by
      show (xs == ys) = false
      rw [beq_eq_false_iff_ne]
      rintro rfl
      exact hn (h.len.symm.trans h'.len)
    clear h h'
    go_enter Tryz.func44, Tryz.ntmps44
    go_wp2_with fail
    go_ret
    exact ⟨by rw [HE.out]; rfl, 0, rfl⟩
end Go.Proofs.YthnjebcablpneaaGreatDoor
