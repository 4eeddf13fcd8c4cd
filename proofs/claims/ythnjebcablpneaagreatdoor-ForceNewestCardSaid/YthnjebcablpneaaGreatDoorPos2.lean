/- Contracts: clones of slices and of positions. -/
import Derived.Test.YthnjebcablpneaaGreatDoorPos
import Derived.Test.YthnjebcablpneaaGreatDoorBlk
import Derived.Test.YthnjebcablpneaaGreatDoorEvR2
import Derived.Deep.RegionHeld3
import Derived.Lib.SliceRun
set_option maxRecDepth 100000
namespace Go.Proofs.YthnjebcablpneaaGreatDoor
open Go.RowKit Go.Ev
theorem tyI32 : ElemTy Tryz.prog 22 21 (.int .i32 0) 4 := ElemTy.mk' Tryz.underlying22 (by kernel_rfl) rfl
theorem tyBool : ElemTy Tryz.prog 23 4 (.bool false) 1 := ElemTy.mk' Tryz.underlying23 (by kernel_rfl) rfl
/-- A row of the call's own, of so many elements. -/
def CRes (w : World) (ty sz n : Nat) (cs : List Value) (e : Ending) (w' : World) : Prop :=
  ∃ A c, e = .returned (.slice A n c) ∧ w'.ownsRow w.heap.size ty sz (.slice A n c) n cs ∧ Below w.heap.size w w' ∧ (A = none → c = 0)
theorem own_nil {w : World} {base e sz n c : Nat} {A : Option Addr} {cs : List Value} (h : w.ownsRow base e sz (.slice A n c) n cs) : A = none → c = 0 := fun hA => by
  subst hA
  rcases h.2 with ⟨hv, _⟩ | ⟨g, cap, cur, hv, _⟩
  · injection hv
  · injection hv with h1; cases h1
theorem sl_none {α : Type} {f : α → Value} {w : World} {n : Nat} {xs : List α} (h : Sl f w none n xs) : n = 0 ∧ xs = [] := by
  rcases Nat.eq_zero_or_pos n with h0 | h0
  · exact ⟨h0, List.eq_nil_of_length_eq_zero (by rw [h.len, h0])⟩
  · obtain ⟨_, _, hb, _⟩ := h.at_ h0; cases hb
theorem sln_none {α : Type} {sz : Nat} {f : α → List Value} {w : World} {n : Nat} {xs : List α} (h : Sln sz f w none n xs) : n = 0 ∧ xs = [] := by
  rcases Nat.eq_zero_or_pos n with h0 | h0
  · exact ⟨h0, List.eq_nil_of_length_eq_zero (by rw [h.len, h0])⟩
  · obtain ⟨_, _, hb, _⟩ := h.at_ h0; cases hb
theorem cloneI (A : Option Addr) (n c : Nat) (xs : List Int) (w : World) (h : Sl (Value.int .i32) w A n xs) (hA : A = none → c = 0) (hn : n ≤ 17592186044416) :
    Calls Tryz.prog 33 #[.slice A n c] w (CRes w 21 1 n (xs.map (Value.int .i32))) := by
  have q : ∀ (w : World) (a : Option Addr) (n c n' c' : Nat), (binOp .eql 22 (.slice a n c) (.slice none n' c')).run Tryz.prog w = .ok (.bool a.isNone) w := fun w a n c n' c' => Lib.run_eql_slice_nil w _ _ a n c n' c' Tryz.underlying22
  rcases A with _ | ad
  · obtain ⟨rfl, rfl⟩ := sl_none h
    obtain rfl := hA rfl
    clear h hA
    go_enter Tryz.func33, Tryz.ntmps33
    go_wp2_with fail
    go_ret
    exact ⟨none, 0, rfl, ⟨rfl, .inl ⟨rfl, rfl⟩⟩, Below.refl _ _, fun _ => rfl⟩
  · have HS := Lib.hid h
    clear h hA
    go_enter Tryz.func33, Tryz.ntmps33
    go_wp2_with (at_builtin; refine wpList_app tyI32 rfl _ _ rfl (oneInt .i32) w.heap.size _ 0 [] rfl (own_lit (Value.int .i32) w w.heap.size #[] 21 0 [] (Nat.le_refl _) rfl (by unfold maxLen; omega) rfl) (some ad) n c xs rfl (HS.out.alloc _) (fun h => by cases h) (by unfold maxLen; omega) (by omega) (by simp) ?_; intro A2 c2 w2 hown2 hgrow2 hat2)
    go_ret
    simp only [Nat.zero_add, List.nil_append] at hown2 ⊢
    exact ⟨A2, c2, rfl, hown2, ((Below.refl _ w).alloc (Nat.le_refl _) _).grown hgrow2 (by simp) (fun k hk => by have e : w.heap.size = k := Option.some.inj hk; omega), own_nil hown2⟩
theorem cloneB (A : Option Addr) (n c : Nat) (xs : List Bool) (w : World) (h : Sl Value.bool w A n xs) (hA : A = none → c = 0) (hn : n ≤ 17592186044416) :
    Calls Tryz.prog 34 #[.slice A n c] w (CRes w 4 1 n (xs.map Value.bool)) := by
  have q : ∀ (w : World) (a : Option Addr) (n c n' c' : Nat), (binOp .eql 23 (.slice a n c) (.slice none n' c')).run Tryz.prog w = .ok (.bool a.isNone) w := fun w a n c n' c' => Lib.run_eql_slice_nil w _ _ a n c n' c' Tryz.underlying23
  rcases A with _ | ad
  · obtain ⟨rfl, rfl⟩ := sl_none h
    obtain rfl := hA rfl
    clear h hA
    go_enter Tryz.func34, Tryz.ntmps34
    go_wp2_with fail
    go_ret
    exact ⟨none, 0, rfl, ⟨rfl, .inl ⟨rfl, rfl⟩⟩, Below.refl _ _, fun _ => rfl⟩
  · have HS := Lib.hid h
    clear h hA
    go_enter Tryz.func34, Tryz.ntmps34
    go_wp2_with (at_builtin; refine wpList_app tyBool rfl _ _ rfl oneBool w.heap.size _ 0 [] rfl (own_lit Value.bool w w.heap.size #[] 4 0 [] (Nat.le_refl _) rfl (by unfold maxLen; omega) rfl) (some ad) n c xs rfl (HS.out.alloc _) (fun h => by cases h) (by unfold maxLen; omega) (by omega) (by simp) ?_; intro A2 c2 w2 hown2 hgrow2 hat2)
    go_ret
    simp only [Nat.zero_add, List.nil_append] at hown2 ⊢
    exact ⟨A2, c2, rfl, hown2, ((Below.refl _ w).alloc (Nat.le_refl _) _).grown hgrow2 (by simp) (fun k hk => by have e : w.heap.size = k := Option.some.inj hk; omega), own_nil hown2⟩
theorem ownN_nil (w : World) (e : TypeId) : (w.alloc (.cells #[] e)).ownsRow w.heap.size e 8 (.slice (some ⟨w.heap.size, 0, none⟩) 0 0) 0 (([] : List (List Int)).flatMap digL) :=
  World.ownsRow_lit (base := w.heap.size) (e := e) (size := 8) w #[] 0 (Nat.le_refl _) (by unfold maxLen; omega) rfl
theorem cloneD (A : Option Addr) (n c : Nat) (xs : List (List Int)) (w : World) (h : Sln 8 digL w A n xs) (hd : ∀ d ∈ xs, Dig d) (hA : A = none → c = 0) (hn : n ≤ 17592186044416) :
    Calls Tryz.prog 35 #[.slice A n c] w (CRes w 53 8 n (xs.flatMap digL)) := by
  have q : ∀ (w : World) (a : Option Addr) (n c n' c' : Nat), (binOp .eql 24 (.slice a n c) (.slice none n' c')).run Tryz.prog w = .ok (.bool a.isNone) w := fun w a n c n' c' => Lib.run_eql_slice_nil w _ _ a n c n' c' Tryz.underlying24
  rcases A with _ | ad
  · obtain ⟨rfl, rfl⟩ := sln_none h
    obtain rfl := hA rfl
    clear h hA
    go_enter Tryz.func35, Tryz.ntmps35
    go_wp2_with fail
    go_ret
    exact ⟨none, 0, rfl, ⟨rfl, .inl ⟨rfl, rfl⟩⟩, Below.refl _ _, fun _ => rfl⟩
  · have HS := Lib.hid h
    clear h hA
    go_enter Tryz.func35, Tryz.ntmps35
    go_wp2_with (at_builtin; refine wpList_appN tyDig rfl _ _ rfl w.heap.size _ 0 ([] : List (List Int)) rfl (ownN_nil w 53) ad n c xs (fun _ _ => digL_one) rfl (HS.out.below ((Below.refl _ w).alloc (Nat.le_refl _) _)) (by unfold maxLen; omega) (by omega) (by simp) ?_; intro A2 c2 w2 hown2 hgrow2 hat2)
    go_ret
    simp only [Nat.zero_add, List.nil_append] at hown2 ⊢
    exact ⟨A2, c2, rfl, hown2, ((Below.refl _ w).alloc (Nat.le_refl _) _).grown hgrow2 (by simp) (fun k hk => by have e : w.heap.size = k := Option.some.inj hk; omega), own_nil hown2⟩
/-- A position of the call's own. -/
structure PosOwn (base : Nat) (w : World) (A B C : Option Addr) (n c m d k e : Nat) (x : PosD) : Prop where
  vars : w.ownsRow base 21 1 (.slice A n c) n (x.vars.map (Value.int .i32))
  gone : w.ownsRow base 4 1 (.slice B m d) m (x.gone.map Value.bool)
  tips : w.ownsRow base 53 8 (.slice C k e) k (x.tips.flatMap digL)
  nA : A = none → c = 0
  nB : B = none → d = 0
  nC : C = none → e = 0
theorem PosOwn.at_ {base : Nat} {w : World} {A B C : Option Addr} {n c m d k e : Nat} {x : PosD} (h : PosOwn base w A B C n c m d k e x) (hw : W32 x.vars) (hd : ∀ d ∈ x.tips, Dig d) (hr : x.roll.Ok) (hk : x.tips.length = k) : PosAt w A B C n m k x :=
  ⟨Sl.of_row h.vars, Sl.of_row h.gone, Sln.of_row h.tips hk (fun d hx => digL_len (hd d hx)) (by omega), hw, hd, hr⟩
theorem PosOwn.below {base : Nat} {w w' : World} {A B C : Option Addr} {n c m d k e : Nat} {x : PosD} (h : PosOwn base w A B C n c m d k e x) (hb : Below w.heap.size w w') : PosOwn base w' A B C n c m d k e x :=
  ⟨own_below h.vars hb, own_below h.gone hb, own_belowN h.tips hb, h.nA, h.nB, h.nC⟩
theorem own8 {w : World} {base e sz n g : Nat} {v v0 v1 v2 v3 v4 v5 v6 v7 : Value} {xs : List Value} (h : w.ownsRow base e sz v n xs) (hg : g < base) :
    ((((((((w.setCell ⟨g, 0, none⟩ v0).setCell ⟨g, 1, none⟩ v1).setCell ⟨g, 2, none⟩ v2).setCell ⟨g, 3, none⟩ v3).setCell ⟨g, 4, none⟩ v4).setCell ⟨g, 5, none⟩ v5).setCell ⟨g, 6, none⟩ v6).setCell ⟨g, 7, none⟩ v7).ownsRow base e sz v n xs := by
  have s : ∀ {W : World} (_ : W.ownsRow base e sz v n xs) (j : Nat) (u : Value), (W.setCell ⟨g, j, none⟩ u).ownsRow base e sz v n xs := fun h j u => ownsRow_setCell_below h (a := ⟨g, j, none⟩) hg u
  exact s (s (s (s (s (s (s (s h 0 _) 1 _) 2 _) 3 _) 4 _) 5 _) 6 _) 7 _
theorem own_monoN {w : World} {base base' e sz n : Nat} {v : Value} {xs : List Value} (h : w.ownsRow base e sz v n xs) (hb : base' ≤ base) : w.ownsRow base' e sz v n xs := by
  refine ⟨h.1, ?_⟩
  rcases h.2 with h2 | ⟨g, cap, cur, hv, hg, r⟩
  · exact .inl h2
  · exact .inr ⟨g, cap, cur, hv, by omega, r⟩
set_option maxHeartbeats 4000000 in
theorem clone7 (A B C : Option Addr) (n c m d k e : Nat) (x : PosD) (w : World) (h : PosAt w A B C n m k x) (hA : A = none → c = 0) (hB : B = none → d = 0) (hC : C = none → e = 0) (hn : n ≤ 17592186044416) (hm : m ≤ 17592186044416) (hk : k ≤ 17592186044416) :
    Calls Tryz.prog 7 #[.agg #[.slice A n c, .slice B m d, .slice C k e, .int .i64 x.roll.cell, .int .i64 x.roll.sides, .int .i64 x.roll.mover, .int .i64 x.roll.next, .int .u64 x.roll.sum]] w fun e w' =>
      ∃ A' B' C' c' d' e', e = .returned (.agg #[.slice A' n c', .slice B' m d', .slice C' k e', .int .i64 x.roll.cell, .int .i64 x.roll.sides, .int .i64 x.roll.mover, .int .i64 x.roll.next, .int .u64 x.roll.sum]) ∧ PosOwn w.heap.size w' A' B' C' n c' m d' k e' x ∧ Below w.heap.size w w' := by
  obtain ⟨vs, gs, ts, r0, r1, r2, r3, r4⟩ := x
  obtain ⟨h0, h1, h2, hw32, hdig, _⟩ := h
  dsimp only at h0 h1 h2 hw32 hdig ⊢
  have HB0 := Lib.hid (al_below w (.cells #[.slice A n c, .slice B m d, .slice C k e, .int .i64 r0, .int .i64 r1, .int .i64 r2, .int .i64 r3, .int .u64 r4] 29) (.cells #[.slice none 0 0, .slice none 0 0, .slice none 0 0, .int .i64 0, .int .i64 0, .int .i64 0, .int .i64 0, .int .u64 0] 29))
  have HG0 := Lib.hid (al_fst w (.cells #[.slice A n c, .slice B m d, .slice C k e, .int .i64 r0, .int .i64 r1, .int .i64 r2, .int .i64 r3, .int .u64 r4] 29) (.cells #[.slice none 0 0, .slice none 0 0, .slice none 0 0, .int .i64 0, .int .i64 0, .int .i64 0, .int .i64 0, .int .u64 0] 29))
  have HG1 := Lib.hid (al_snd w (.cells #[.slice A n c, .slice B m d, .slice C k e, .int .i64 r0, .int .i64 r1, .int .i64 r2, .int .i64 r3, .int .u64 r4] 29) (.cells #[.slice none 0 0, .slice none 0 0, .slice none 0 0, .int .i64 0, .int .i64 0, .int .i64 0, .int .i64 0, .int .u64 0] 29))
  have HZ0 := Lib.hid (al_size w (.cells #[.slice A n c, .slice B m d, .slice C k e, .int .i64 r0, .int .i64 r1, .int .i64 r2, .int .i64 r3, .int .u64 r4] 29) (.cells #[.slice none 0 0, .slice none 0 0, .slice none 0 0, .int .i64 0, .int .i64 0, .int .i64 0, .int .i64 0, .int .u64 0] 29))
  have H0 := Lib.hid h0
  have H1 := Lib.hid h1
  have H2 := Lib.hid h2
  have HD := Lib.hid hdig
  have HA := Lib.hid hA
  have HB := Lib.hid hB
  have HC := Lib.hid hC
  clear h0 h1 h2 hw32 hdig hA hB hC
  go_enter Tryz.func7, Tryz.ntmps7
  go_wp2_with fail
  rename_i hK0
  generalize (w.alloc (.cells #[.slice A n c, .slice B m d, .slice C k e, .int .i64 r0, .int .i64 r1, .int .i64 r2, .int .i64 r3, .int .u64 r4] 29)).alloc (.cells #[.slice none 0 0, .slice none 0 0, .slice none 0 0, .int .i64 0, .int .i64 0, .int .i64 0, .int .i64 0, .int .u64 0] 29) = W0 at HB0 HG0 HG1 HZ0 ⊢
  have HM : Hid (Mono (fun W : World => (W.heap[w.heap.size]? = some (.cells #[.slice A n c, .slice B m d, .slice C k e, .int .i64 r0, .int .i64 r1, .int .i64 r2, .int .i64 r3, .int .u64 r4] 29 (0, 0)) ∧ W.heap[w.heap.size + 1]? = some (.cells #[.slice none 0 0, .slice none 0 0, .slice none 0 0, .int .i64 0, .int .i64 0, .int .i64 0, .int .i64 0, .int .u64 0] 29 (0, 0))) ∧ Below w.heap.size w W)) := ((Mono.blk _ _).and (Mono.blk _ _)).and (Mono.below w)
  have hS : (fun W : World => (W.heap[w.heap.size]? = some (.cells #[.slice A n c, .slice B m d, .slice C k e, .int .i64 r0, .int .i64 r1, .int .i64 r2, .int .i64 r3, .int .u64 r4] 29 (0, 0)) ∧ W.heap[w.heap.size + 1]? = some (.cells #[.slice none 0 0, .slice none 0 0, .slice none 0 0, .int .i64 0, .int .i64 0, .int .i64 0, .int .i64 0, .int .u64 0] 29 (0, 0))) ∧ Below w.heap.size w W) W0.drew := ⟨⟨HG0.out, HG1.out⟩, HB0.out.drew⟩
  refine wp_region_sched [(0, 0), (1, 1), (3, 0), (4, 1), (6, 0), (7, 1), (9, 0), (10, 1), (2, 2), (5, 2), (8, 2), (11, 0), (12, 3)] (fun W : World => (W.heap[w.heap.size]? = some (.cells #[.slice A n c, .slice B m d, .slice C k e, .int .i64 r0, .int .i64 r1, .int .i64 r2, .int .i64 r3, .int .u64 r4] 29 (0, 0)) ∧ W.heap[w.heap.size + 1]? = some (.cells #[.slice none 0 0, .slice none 0 0, .slice none 0 0, .int .i64 0, .int .i64 0, .int .i64 0, .int .i64 0, .int .u64 0] 29 (0, 0))) ∧ Below w.heap.size w W) (by kernel_rfl) (by kernel_rfl) hS ?_
  change wpSched _ _ _ _ _ _ W0.drew
  have hz : W0.drew.heap.size = w.heap.size + 2 := HZ0.out
  generalize W0.drew = W1 at hS hz ⊢
  refine sched0' rfl rfl (fun W => run_fa (o' := 0) (ev_tmp rfl) (by kernel_rfl) W) (by (simp only [Act.put, List.getElem_toArray, List.getElem_cons_succ, List.getElem_cons_zero, List.setIfInBounds_toArray, List.set_cons_zero, List.set_cons_succ]; rfl)) ?_
  refine sched1' rfl rfl (fun W hW => run_ld1 (ev_tmp rfl) (blkC hW.1.1 0) (by kernel_rfl)) (by (simp only [Act.put, List.getElem_toArray, List.getElem_cons_succ, List.getElem_cons_zero, List.setIfInBounds_toArray, List.set_cons_zero, List.set_cons_succ]; rfl)) ?_
  refine sched0' rfl rfl (fun W => run_fa (o' := 1) (ev_tmp rfl) (by kernel_rfl) W) (by (simp only [Act.put, List.getElem_toArray, List.getElem_cons_succ, List.getElem_cons_zero, List.setIfInBounds_toArray, List.set_cons_zero, List.set_cons_succ]; rfl)) ?_
  refine sched1' rfl rfl (fun W hW => run_ld1 (ev_tmp rfl) (blkC hW.1.1 1) (by kernel_rfl)) (by (simp only [Act.put, List.getElem_toArray, List.getElem_cons_succ, List.getElem_cons_zero, List.setIfInBounds_toArray, List.set_cons_zero, List.set_cons_succ]; rfl)) ?_
  refine sched0' rfl rfl (fun W => run_fa (o' := 2) (ev_tmp rfl) (by kernel_rfl) W) (by (simp only [Act.put, List.getElem_toArray, List.getElem_cons_succ, List.getElem_cons_zero, List.setIfInBounds_toArray, List.set_cons_zero, List.set_cons_succ]; rfl)) ?_
  refine sched1' rfl rfl (fun W hW => run_ld1 (ev_tmp rfl) (blkC hW.1.1 2) (by kernel_rfl)) (by (simp only [Act.put, List.getElem_toArray, List.getElem_cons_succ, List.getElem_cons_zero, List.setIfInBounds_toArray, List.set_cons_zero, List.set_cons_succ]; rfl)) ?_
  refine sched0' rfl rfl (fun W => run_fa (o' := 3) (ev_tmp rfl) (by kernel_rfl) W) (by (simp only [Act.put, List.getElem_toArray, List.getElem_cons_succ, List.getElem_cons_zero, List.setIfInBounds_toArray, List.set_cons_zero, List.set_cons_succ]; rfl)) ?_
  refine sched1' rfl rfl (fun W hW => by (have c3 := blkC hW.1.1 3; have c4 := blkC hW.1.1 4; have c5 := blkC hW.1.1 5; have c6 := blkC hW.1.1 6; have c7 := blkC hW.1.1 7; clear hW; go_simp; try with_reducible rfl)) (by (simp only [Act.put, List.getElem_toArray, List.getElem_cons_succ, List.getElem_cons_zero, List.setIfInBounds_toArray, List.set_cons_zero, List.set_cons_succ]; rfl)) ?_
  refine sched2 rfl rfl (fun K hK => ?_)
  go_simp
  refine (cloneI A n c vs _ (H0.out.below hS.2) HA.out hn).mono ?_
  rintro e w1 ⟨A1, c1, rfl, ho1, hb1, hn1⟩
  have hS := HM.out _ _ hS hb1
  refine hK _ _ hS ?_
  clear hK K
  refine schedA (by ((try simp only [Act.put, List.getElem_toArray, List.getElem_cons_succ, List.getElem_cons_zero, List.setIfInBounds_toArray, List.set_cons_zero, List.set_cons_succ]); rfl)) ?_
  refine sched2 rfl rfl (fun K hK => ?_)
  go_simp
  refine (cloneB B m d gs _ (H1.out.below hS.2) HB.out hm).mono ?_
  rintro e w2 ⟨A2, c2, rfl, ho2, hb2, hn2⟩
  have hS := HM.out _ _ hS hb2
  refine hK _ _ hS ?_
  clear hK K
  refine schedA (by ((try simp only [Act.put, List.getElem_toArray, List.getElem_cons_succ, List.getElem_cons_zero, List.setIfInBounds_toArray, List.set_cons_zero, List.set_cons_succ]); rfl)) ?_
  refine sched2 rfl rfl (fun K hK => ?_)
  go_simp
  refine (cloneD C k e ts _ (H2.out.below hS.2) HD.out HC.out hk).mono ?_
  rintro e w3 ⟨A3, c3, rfl, ho3, hb3, hn3⟩
  have hS := HM.out _ _ hS hb3
  refine hK _ _ hS ?_
  clear hK K
  refine schedA (by ((try simp only [Act.put, List.getElem_toArray, List.getElem_cons_succ, List.getElem_cons_zero, List.setIfInBounds_toArray, List.set_cons_zero, List.set_cons_succ]); rfl)) ?_
  refine sched0' rfl rfl (fun W => by (go_simp; try with_reducible rfl)) (by (simp only [Act.put, List.getElem_toArray, List.getElem_cons_succ, List.getElem_cons_zero, List.setIfInBounds_toArray, List.set_cons_zero, List.set_cons_succ]; rfl)) ?_
  have HBB := Lib.hid hS.2
  have k0 := blkC hS.1.2 0
  have f0 := blkF hS.1.2 0
  have k1 := blkC hS.1.2 1
  have f1 := blkF hS.1.2 1
  have k2 := blkC hS.1.2 2
  have f2 := blkF hS.1.2 2
  have k3 := blkC hS.1.2 3
  have f3 := blkF hS.1.2 3
  have k4 := blkC hS.1.2 4
  have f4 := blkF hS.1.2 4
  have k5 := blkC hS.1.2 5
  have f5 := blkF hS.1.2 5
  have k6 := blkC hS.1.2 6
  have f6 := blkF hS.1.2 6
  have k7 := blkC hS.1.2 7
  have f7 := blkF hS.1.2 7
  clear hS
  refine sched3 rfl rfl (fun K hK => ?_)
  go_simp
  refine hK (fun _ => True) _ _ trivial ?_
  clear hK K
  refine schedA (by ((try simp only [Act.put, List.getElem_toArray, List.getElem_cons_succ, List.getElem_cons_zero, List.setIfInBounds_toArray, List.set_cons_zero, List.set_cons_succ]); rfl)) ?_
  refine hK0 _ _ ?_
  clear hK0
  go_wp2_with fail
  have hg : w.heap.size ≤ w.heap.size + 1 := Nat.le_succ _
  have z1 := hb1.size
  have z2 := hb2.size
  have z3 := hb3.size
  refine bodyPost_ret (v := .agg #[.slice A1 n c1, .slice A2 m c2, .slice A3 k c3, .int .i64 r0, .int .i64 r1, .int .i64 r2, .int .i64 r3, .int .u64 r4]) (by simp [results, Tryz.results7, go_sem, k0, f0, k1, f1, k2, f2, k3, f3, k4, f4, k5, f5, k6, f6, k7, f7]) rfl ⟨A1, A2, A3, c1, c2, c3, rfl, ?_, below8 HBB.out hg⟩
  have q1 : w.heap.size + 1 < W1.heap.size := by omega
  refine ⟨own_mono (own8 (own_below (own_below ho1 hb2) hb3) q1) (by omega), own_mono (own8 (own_below ho2 hb3) (by omega)) (by omega), own_monoN (own8 ho3 (by omega)) (by omega), hn1, hn2, hn3⟩
end Go.Proofs.YthnjebcablpneaaGreatDoor
