/- Tables within tables: what is paid as they stand, for each depth, is as is told. -/
import Derived.Test.YtfkacmmcgncooaaGreatDoorYq2
import Derived.Test.YtfkacmmcgncooaaGreatDoorYd11P
import Derived.Test.YtfkacmmcgncooaaGreatDoorHkK1
import Derived.Test.YtfkacmmcgncooaaGreatDoorYn1
import Derived.Test.YtfkacmmcgncooaaGreatDoorYx0
section
set_option maxRecDepth 100000
namespace Go.Proofs.YtfkacmmcgncooaaGreatDoor
open Go.Ev
open Go.RowKit (Below)
set_option linter.unusedSectionVars false
variable [Go.Ev.Frozen Tryz.prog]
theorem vc_py0 (q : PyX) : G_py0 q = ((0 = 0 /\ 2 = 2 /\ 2 = 2) /\ (True /\ Z1 q.2.1 /\ Z1 q.2.2 /\ True) /\ True) := by kernel_rfl
theorem g_py0 (q : PyX) : G_py0 q := by
 rw [vc_py0]
 (and_intros<;>first|trivial|rfl)
theorem py_st1 (a : PyA) : celI (mem (pyR 1 a) (popN 1)).heap 12 0 = some (.slice (some ⟨12 + 1, 0, none⟩) (0 + 1) 1) := by kernel_rfl
theorem py_l10 (a : PyA) : celI (mem (pyR 1 a) (popN 1)).heap (12 + 1) (0 * 10 + 9) = some (.slice (some ⟨12 + 17, 0, none⟩) 2 2) /\ (mem (pyR 1 a) (popN 1)).heap.get (12 + 17) = some (.row [tgI .i64 (pyFa a 0), tgI .i64 (pyFb a 0)] 3 .gro) := ⟨by kernel_rfl, by kernel_rfl⟩
theorem s_pays0 : SpecOK Tryz.prog (S_pays 0).spec := fun a K hp hq => by
 have hp := allOK1 hp
 obtain ⟨u0, v0, hch⟩ := chL_ex hp (0 + 1) (Nat.le_refl _)
 have hs := g_py0 ⟨a, ⟨u0, v0⟩⟩
 unfold G_py0 at hs
 have hw := hs
 unfold seenW at hw
 refine ⟨_, _, _, hq.1 ⟨u0, v0⟩ ⟨hch⟩, flatR_rows (cpb_iff.1 hw).2.2, fnSem_seen (A := mem (pyR 1 a) (popN 1)) rfl (fun σ w args' hR ha => ?_) hs⟩
 cases ha with
 | cons a1 t1 =>
 cases t1
 obtain ⟨bs, d1, s1, rfl⟩ := a1.ptr_inv
 have hcell : ∀ {i k : Nat} {u : Value} {b d : Nat}, σ i = some (b, d) -> celI (mem (pyR 1 a) (popN 1)).heap i k = some u -> ∃ u', w.cell? ⟨b, k, none⟩ = some u' /\ VR σ u u' := fun {i k u b d} hs hu => by
  obtain ⟨c0, e0, m0, hg, hk⟩ := celI_some hu
  obtain ⟨cs, es, fz, hw0, hr, _⟩ := hR.rowA hs hg
  obtain ⟨u', hu', hv'⟩ := hr.get hk
  exact ⟨u', by simp [World.cell?, hw0, hu'], hv'⟩
 obtain ⟨u1, hu1, vu1⟩ := hcell s1 (py_st1 a)
 obtain ⟨bl, dl, sl, rfl⟩ := vu1.slice_inv
 have hcl : ∀ {i s : Nat}, celI (mem (pyR 1 a) (popN 1)).heap (12 + 1) (i * 10 + 9) = some (.slice (some ⟨s, 0, none⟩) 2 2) -> (mem (pyR 1 a) (popN 1)).heap.get s = some (.row [tgI .i64 (pyFa a i), tgI .i64 (pyFb a i)] 3 .gro) ->
   ∃ b c, w.cell? ⟨bl, i * 10 + 9, none⟩ = some (.slice (some ⟨b, 0, none⟩) 2 c) /\ ∀ W, Below w.heap.size w W -> Calls Tryz.prog 61 #[.slice (some ⟨b, 0, none⟩) 2 c] W fun e W' => ∃ nb c', e = .returned (.slice (some ⟨nb, 0, none⟩) 2 c') /\ 2 <= c' /\ W.heap.size <= nb /\ Two W' nb (pyFa a i) (pyFb a i) /\ Below W.heap.size W W' := fun {i s} q1 q2 => by
  obtain ⟨u2, hu2, vu2⟩ := hcell sl q1
  obtain ⟨b, d, sb, rfl⟩ := vu2.slice_inv
  obtain ⟨cs, es, fz, hw0, hr, -⟩ := hR.rowA sb q2
  obtain ⟨us, zs, t1, t2, -⟩ := hr.cells
  cases t2 with
  | cons z1 t2 =>
   cases t2 with
   | cons z2 t2 =>
    cases t2
    obtain rfl := sym_int z1
    obtain rfl := sym_int z2
    exact ⟨b, 2 + d, hu2, fun W hB => clone_run (hR.below hB).1 ((hB.block b (Array.getElem?_eq_some_iff.1 hw0).1).trans hw0) t1 (by omega)⟩
 have hrun := callsIn_wide.1 (pays_in Fence.wide 3 trivial trivial trivial trivial trivial rfl (fun h _ => callsIn_wide.2 h) (by decide) bs bl (1 + dl) 0 (pyFa a) (pyFb a) (pyGv a) w (by decide) hu1
  (fun i hi => by obtain ⟨-, h2, h3⟩ := hp i (by omega); exact ⟨h2, h3⟩) (fun i x y u v h hx hy => giv_ok h hx hy)
  (fun i hi => by
   match i, hi with
   | 0, _ => exact hcl (py_l10 a).1 (py_l10 a).2
   | (n + 1), hi => exact absurd hi (by omega))
  (fun i hi W nb c x y hB hnb hc hT hx hy => by
   match i, hi with
   | 0, _ => exact gives_run10 a (hp 0 (by decide)).1 hR sl hB hnb hc hT hx hy
   | (n + 1), hi => exact absurd hi (by omega)))
 refine .inr ⟨20, #[.pointer (some ⟨bs, 0, none⟩)], entered (envOK.name 20 Tryz.f20 (by kernel_rfl)) (by kernel_rfl) rfl _ w, Calls.mono hrun fun en w' he => ?_⟩
 obtain ⟨nb, c, u, v, rfl, hc, hge, hT, hch', hB⟩ := he
 obtain ⟨rfl, rfl⟩ := chL_fun hch' hch
 obtain ⟨cs, fz, zs, h1, h2, -⟩ := hT
 have k := hR.newAt (o := .row [tgI .i64 u, tgI .i64 v] 3 .gro) (d := c - 2) hB hge h1 (or_two h2)
 exact ⟨_, sl_two hc (ext_self _ _), k.1, k.2⟩
theorem vc_py1 (q : PyX) : G_py1 q = ((0 = 0 /\ 2 = 2 /\ 2 = 2) /\ (True /\ Z1 q.2.1 /\ Z1 q.2.2 /\ True) /\ True) := by kernel_rfl
theorem g_py1 (q : PyX) : G_py1 q := by
 rw [vc_py1]
 (and_intros<;>first|trivial|rfl)
theorem py_st2 (a : PyA) : celI (mem (pyR 2 a) (popN 2)).heap 12 0 = some (.slice (some ⟨12 + 1, 0, none⟩) (1 + 1) 2) := by kernel_rfl
theorem py_l20 (a : PyA) : celI (mem (pyR 2 a) (popN 2)).heap (12 + 1) (0 * 10 + 9) = some (.slice (some ⟨12 + 17, 0, none⟩) 2 2) /\ (mem (pyR 2 a) (popN 2)).heap.get (12 + 17) = some (.row [tgI .i64 (pyFa a 0), tgI .i64 (pyFb a 0)] 3 .gro) := ⟨by kernel_rfl, by kernel_rfl⟩
theorem py_l21 (a : PyA) : celI (mem (pyR 2 a) (popN 2)).heap (12 + 1) (1 * 10 + 9) = some (.slice (some ⟨12 + 33, 0, none⟩) 2 2) /\ (mem (pyR 2 a) (popN 2)).heap.get (12 + 33) = some (.row [tgI .i64 (pyFa a 1), tgI .i64 (pyFb a 1)] 3 .gro) := ⟨by kernel_rfl, by kernel_rfl⟩
theorem s_pays1 : SpecOK Tryz.prog (S_pays 1).spec := fun a K hp hq => by
 have hp := allOK2 hp
 obtain ⟨u0, v0, hch⟩ := chL_ex hp (1 + 1) (Nat.le_refl _)
 have hs := g_py1 ⟨a, ⟨u0, v0⟩⟩
 unfold G_py1 at hs
 have hw := hs
 unfold seenW at hw
 refine ⟨_, _, _, hq.1 ⟨u0, v0⟩ ⟨hch⟩, flatR_rows (cpb_iff.1 hw).2.2, fnSem_seen (A := mem (pyR 2 a) (popN 2)) rfl (fun σ w args' hR ha => ?_) hs⟩
 cases ha with
 | cons a1 t1 =>
 cases t1
 obtain ⟨bs, d1, s1, rfl⟩ := a1.ptr_inv
 have hcell : ∀ {i k : Nat} {u : Value} {b d : Nat}, σ i = some (b, d) -> celI (mem (pyR 2 a) (popN 2)).heap i k = some u -> ∃ u', w.cell? ⟨b, k, none⟩ = some u' /\ VR σ u u' := fun {i k u b d} hs hu => by
  obtain ⟨c0, e0, m0, hg, hk⟩ := celI_some hu
  obtain ⟨cs, es, fz, hw0, hr, _⟩ := hR.rowA hs hg
  obtain ⟨u', hu', hv'⟩ := hr.get hk
  exact ⟨u', by simp [World.cell?, hw0, hu'], hv'⟩
 obtain ⟨u1, hu1, vu1⟩ := hcell s1 (py_st2 a)
 obtain ⟨bl, dl, sl, rfl⟩ := vu1.slice_inv
 have hcl : ∀ {i s : Nat}, celI (mem (pyR 2 a) (popN 2)).heap (12 + 1) (i * 10 + 9) = some (.slice (some ⟨s, 0, none⟩) 2 2) -> (mem (pyR 2 a) (popN 2)).heap.get s = some (.row [tgI .i64 (pyFa a i), tgI .i64 (pyFb a i)] 3 .gro) ->
   ∃ b c, w.cell? ⟨bl, i * 10 + 9, none⟩ = some (.slice (some ⟨b, 0, none⟩) 2 c) /\ ∀ W, Below w.heap.size w W -> Calls Tryz.prog 61 #[.slice (some ⟨b, 0, none⟩) 2 c] W fun e W' => ∃ nb c', e = .returned (.slice (some ⟨nb, 0, none⟩) 2 c') /\ 2 <= c' /\ W.heap.size <= nb /\ Two W' nb (pyFa a i) (pyFb a i) /\ Below W.heap.size W W' := fun {i s} q1 q2 => by
  obtain ⟨u2, hu2, vu2⟩ := hcell sl q1
  obtain ⟨b, d, sb, rfl⟩ := vu2.slice_inv
  obtain ⟨cs, es, fz, hw0, hr, -⟩ := hR.rowA sb q2
  obtain ⟨us, zs, t1, t2, -⟩ := hr.cells
  cases t2 with
  | cons z1 t2 =>
   cases t2 with
   | cons z2 t2 =>
    cases t2
    obtain rfl := sym_int z1
    obtain rfl := sym_int z2
    exact ⟨b, 2 + d, hu2, fun W hB => clone_run (hR.below hB).1 ((hB.block b (Array.getElem?_eq_some_iff.1 hw0).1).trans hw0) t1 (by omega)⟩
 have hrun := callsIn_wide.1 (pays_in Fence.wide 3 trivial trivial trivial trivial trivial rfl (fun h _ => callsIn_wide.2 h) (by decide) bs bl (2 + dl) 1 (pyFa a) (pyFb a) (pyGv a) w (by decide) hu1
  (fun i hi => by obtain ⟨-, h2, h3⟩ := hp i (by omega); exact ⟨h2, h3⟩) (fun i x y u v h hx hy => giv_ok h hx hy)
  (fun i hi => by
   match i, hi with
   | 0, _ => exact hcl (py_l20 a).1 (py_l20 a).2
   | 1, _ => exact hcl (py_l21 a).1 (py_l21 a).2
   | (n + 2), hi => exact absurd hi (by omega))
  (fun i hi W nb c x y hB hnb hc hT hx hy => by
   match i, hi with
   | 0, _ => exact gives_run20 a (hp 0 (by decide)).1 hR sl hB hnb hc hT hx hy
   | 1, _ => exact gives_run21 a (hp 1 (by decide)).1 hR sl hB hnb hc hT hx hy
   | (n + 2), hi => exact absurd hi (by omega)))
 refine .inr ⟨20, #[.pointer (some ⟨bs, 0, none⟩)], entered (envOK.name 20 Tryz.f20 (by kernel_rfl)) (by kernel_rfl) rfl _ w, Calls.mono hrun fun en w' he => ?_⟩
 obtain ⟨nb, c, u, v, rfl, hc, hge, hT, hch', hB⟩ := he
 obtain ⟨rfl, rfl⟩ := chL_fun hch' hch
 obtain ⟨cs, fz, zs, h1, h2, -⟩ := hT
 have k := hR.newAt (o := .row [tgI .i64 u, tgI .i64 v] 3 .gro) (d := c - 2) hB hge h1 (or_two h2)
 exact ⟨_, sl_two hc (ext_self _ _), k.1, k.2⟩
theorem vc_py2 (q : PyX) : G_py2 q = ((0 = 0 /\ 2 = 2 /\ 2 = 2) /\ (True /\ Z1 q.2.1 /\ Z1 q.2.2 /\ True) /\ True) := by kernel_rfl
theorem g_py2 (q : PyX) : G_py2 q := by
 rw [vc_py2]
 (and_intros<;>first|trivial|rfl)
theorem py_st3 (a : PyA) : celI (mem (pyR 3 a) (popN 3)).heap 12 0 = some (.slice (some ⟨12 + 1, 0, none⟩) (2 + 1) 3) := by kernel_rfl
theorem py_l30 (a : PyA) : celI (mem (pyR 3 a) (popN 3)).heap (12 + 1) (0 * 10 + 9) = some (.slice (some ⟨12 + 17, 0, none⟩) 2 2) /\ (mem (pyR 3 a) (popN 3)).heap.get (12 + 17) = some (.row [tgI .i64 (pyFa a 0), tgI .i64 (pyFb a 0)] 3 .gro) := ⟨by kernel_rfl, by kernel_rfl⟩
theorem py_l31 (a : PyA) : celI (mem (pyR 3 a) (popN 3)).heap (12 + 1) (1 * 10 + 9) = some (.slice (some ⟨12 + 33, 0, none⟩) 2 2) /\ (mem (pyR 3 a) (popN 3)).heap.get (12 + 33) = some (.row [tgI .i64 (pyFa a 1), tgI .i64 (pyFb a 1)] 3 .gro) := ⟨by kernel_rfl, by kernel_rfl⟩
theorem py_l32 (a : PyA) : celI (mem (pyR 3 a) (popN 3)).heap (12 + 1) (2 * 10 + 9) = some (.slice (some ⟨12 + 49, 0, none⟩) 2 2) /\ (mem (pyR 3 a) (popN 3)).heap.get (12 + 49) = some (.row [tgI .i64 (pyFa a 2), tgI .i64 (pyFb a 2)] 3 .gro) := ⟨by kernel_rfl, by kernel_rfl⟩
theorem s_pays2 : SpecOK Tryz.prog (S_pays 2).spec := fun a K hp hq => by
 have hp := allOK3 hp
 obtain ⟨u0, v0, hch⟩ := chL_ex hp (2 + 1) (Nat.le_refl _)
 have hs := g_py2 ⟨a, ⟨u0, v0⟩⟩
 unfold G_py2 at hs
 have hw := hs
 unfold seenW at hw
 refine ⟨_, _, _, hq.1 ⟨u0, v0⟩ ⟨hch⟩, flatR_rows (cpb_iff.1 hw).2.2, fnSem_seen (A := mem (pyR 3 a) (popN 3)) rfl (fun σ w args' hR ha => ?_) hs⟩
 cases ha with
 | cons a1 t1 =>
 cases t1
 obtain ⟨bs, d1, s1, rfl⟩ := a1.ptr_inv
 have hcell : ∀ {i k : Nat} {u : Value} {b d : Nat}, σ i = some (b, d) -> celI (mem (pyR 3 a) (popN 3)).heap i k = some u -> ∃ u', w.cell? ⟨b, k, none⟩ = some u' /\ VR σ u u' := fun {i k u b d} hs hu => by
  obtain ⟨c0, e0, m0, hg, hk⟩ := celI_some hu
  obtain ⟨cs, es, fz, hw0, hr, _⟩ := hR.rowA hs hg
  obtain ⟨u', hu', hv'⟩ := hr.get hk
  exact ⟨u', by simp [World.cell?, hw0, hu'], hv'⟩
 obtain ⟨u1, hu1, vu1⟩ := hcell s1 (py_st3 a)
 obtain ⟨bl, dl, sl, rfl⟩ := vu1.slice_inv
 have hcl : ∀ {i s : Nat}, celI (mem (pyR 3 a) (popN 3)).heap (12 + 1) (i * 10 + 9) = some (.slice (some ⟨s, 0, none⟩) 2 2) -> (mem (pyR 3 a) (popN 3)).heap.get s = some (.row [tgI .i64 (pyFa a i), tgI .i64 (pyFb a i)] 3 .gro) ->
   ∃ b c, w.cell? ⟨bl, i * 10 + 9, none⟩ = some (.slice (some ⟨b, 0, none⟩) 2 c) /\ ∀ W, Below w.heap.size w W -> Calls Tryz.prog 61 #[.slice (some ⟨b, 0, none⟩) 2 c] W fun e W' => ∃ nb c', e = .returned (.slice (some ⟨nb, 0, none⟩) 2 c') /\ 2 <= c' /\ W.heap.size <= nb /\ Two W' nb (pyFa a i) (pyFb a i) /\ Below W.heap.size W W' := fun {i s} q1 q2 => by
  obtain ⟨u2, hu2, vu2⟩ := hcell sl q1
  obtain ⟨b, d, sb, rfl⟩ := vu2.slice_inv
  obtain ⟨cs, es, fz, hw0, hr, -⟩ := hR.rowA sb q2
  obtain ⟨us, zs, t1, t2, -⟩ := hr.cells
  cases t2 with
  | cons z1 t2 =>
   cases t2 with
   | cons z2 t2 =>
    cases t2
    obtain rfl := sym_int z1
    obtain rfl := sym_int z2
    exact ⟨b, 2 + d, hu2, fun W hB => clone_run (hR.below hB).1 ((hB.block b (Array.getElem?_eq_some_iff.1 hw0).1).trans hw0) t1 (by omega)⟩
 have hrun := callsIn_wide.1 (pays_in Fence.wide 3 trivial trivial trivial trivial trivial rfl (fun h _ => callsIn_wide.2 h) (by decide) bs bl (3 + dl) 2 (pyFa a) (pyFb a) (pyGv a) w (by decide) hu1
  (fun i hi => by obtain ⟨-, h2, h3⟩ := hp i (by omega); exact ⟨h2, h3⟩) (fun i x y u v h hx hy => giv_ok h hx hy)
  (fun i hi => by
   match i, hi with
   | 0, _ => exact hcl (py_l30 a).1 (py_l30 a).2
   | 1, _ => exact hcl (py_l31 a).1 (py_l31 a).2
   | 2, _ => exact hcl (py_l32 a).1 (py_l32 a).2
   | (n + 3), hi => exact absurd hi (by omega))
  (fun i hi W nb c x y hB hnb hc hT hx hy => by
   match i, hi with
   | 0, _ => exact gives_run30 a (hp 0 (by decide)).1 hR sl hB hnb hc hT hx hy
   | 1, _ => exact gives_run31 a (hp 1 (by decide)).1 hR sl hB hnb hc hT hx hy
   | 2, _ => exact gives_run32 a (hp 2 (by decide)).1 hR sl hB hnb hc hT hx hy
   | (n + 3), hi => exact absurd hi (by omega)))
 refine .inr ⟨20, #[.pointer (some ⟨bs, 0, none⟩)], entered (envOK.name 20 Tryz.f20 (by kernel_rfl)) (by kernel_rfl) rfl _ w, Calls.mono hrun fun en w' he => ?_⟩
 obtain ⟨nb, c, u, v, rfl, hc, hge, hT, hch', hB⟩ := he
 obtain ⟨rfl, rfl⟩ := chL_fun hch' hch
 obtain ⟨cs, fz, zs, h1, h2, -⟩ := hT
 have k := hR.newAt (o := .row [tgI .i64 u, tgI .i64 v] 3 .gro) (d := c - 2) hB hge h1 (or_two h2)
 exact ⟨_, sl_two hc (ext_self _ _), k.1, k.2⟩
theorem vc_py3 (q : PyX) : G_py3 q = ((0 = 0 /\ 2 = 2 /\ 2 = 2) /\ (True /\ Z1 q.2.1 /\ Z1 q.2.2 /\ True) /\ True) := by kernel_rfl
theorem g_py3 (q : PyX) : G_py3 q := by
 rw [vc_py3]
 (and_intros<;>first|trivial|rfl)
theorem py_st4 (a : PyA) : celI (mem (pyR 4 a) (popN 4)).heap 12 0 = some (.slice (some ⟨12 + 1, 0, none⟩) (3 + 1) 4) := by kernel_rfl
theorem py_l40 (a : PyA) : celI (mem (pyR 4 a) (popN 4)).heap (12 + 1) (0 * 10 + 9) = some (.slice (some ⟨12 + 17, 0, none⟩) 2 2) /\ (mem (pyR 4 a) (popN 4)).heap.get (12 + 17) = some (.row [tgI .i64 (pyFa a 0), tgI .i64 (pyFb a 0)] 3 .gro) := ⟨by kernel_rfl, by kernel_rfl⟩
theorem py_l41 (a : PyA) : celI (mem (pyR 4 a) (popN 4)).heap (12 + 1) (1 * 10 + 9) = some (.slice (some ⟨12 + 33, 0, none⟩) 2 2) /\ (mem (pyR 4 a) (popN 4)).heap.get (12 + 33) = some (.row [tgI .i64 (pyFa a 1), tgI .i64 (pyFb a 1)] 3 .gro) := ⟨by kernel_rfl, by kernel_rfl⟩
theorem py_l42 (a : PyA) : celI (mem (pyR 4 a) (popN 4)).heap (12 + 1) (2 * 10 + 9) = some (.slice (some ⟨12 + 49, 0, none⟩) 2 2) /\ (mem (pyR 4 a) (popN 4)).heap.get (12 + 49) = some (.row [tgI .i64 (pyFa a 2), tgI .i64 (pyFb a 2)] 3 .gro) := ⟨by kernel_rfl, by kernel_rfl⟩
theorem py_l43 (a : PyA) : celI (mem (pyR 4 a) (popN 4)).heap (12 + 1) (3 * 10 + 9) = some (.slice (some ⟨12 + 65, 0, none⟩) 2 2) /\ (mem (pyR 4 a) (popN 4)).heap.get (12 + 65) = some (.row [tgI .i64 (pyFa a 3), tgI .i64 (pyFb a 3)] 3 .gro) := ⟨by kernel_rfl, by kernel_rfl⟩
theorem s_pays3 : SpecOK Tryz.prog (S_pays 3).spec := fun a K hp hq => by
 have hp := allOK4 hp
 obtain ⟨u0, v0, hch⟩ := chL_ex hp (3 + 1) (Nat.le_refl _)
 have hs := g_py3 ⟨a, ⟨u0, v0⟩⟩
 unfold G_py3 at hs
 have hw := hs
 unfold seenW at hw
 refine ⟨_, _, _, hq.1 ⟨u0, v0⟩ ⟨hch⟩, flatR_rows (cpb_iff.1 hw).2.2, fnSem_seen (A := mem (pyR 4 a) (popN 4)) rfl (fun σ w args' hR ha => ?_) hs⟩
 cases ha with
 | cons a1 t1 =>
 cases t1
 obtain ⟨bs, d1, s1, rfl⟩ := a1.ptr_inv
 have hcell : ∀ {i k : Nat} {u : Value} {b d : Nat}, σ i = some (b, d) -> celI (mem (pyR 4 a) (popN 4)).heap i k = some u -> ∃ u', w.cell? ⟨b, k, none⟩ = some u' /\ VR σ u u' := fun {i k u b d} hs hu => by
  obtain ⟨c0, e0, m0, hg, hk⟩ := celI_some hu
  obtain ⟨cs, es, fz, hw0, hr, _⟩ := hR.rowA hs hg
  obtain ⟨u', hu', hv'⟩ := hr.get hk
  exact ⟨u', by simp [World.cell?, hw0, hu'], hv'⟩
 obtain ⟨u1, hu1, vu1⟩ := hcell s1 (py_st4 a)
 obtain ⟨bl, dl, sl, rfl⟩ := vu1.slice_inv
 have hcl : ∀ {i s : Nat}, celI (mem (pyR 4 a) (popN 4)).heap (12 + 1) (i * 10 + 9) = some (.slice (some ⟨s, 0, none⟩) 2 2) -> (mem (pyR 4 a) (popN 4)).heap.get s = some (.row [tgI .i64 (pyFa a i), tgI .i64 (pyFb a i)] 3 .gro) ->
   ∃ b c, w.cell? ⟨bl, i * 10 + 9, none⟩ = some (.slice (some ⟨b, 0, none⟩) 2 c) /\ ∀ W, Below w.heap.size w W -> Calls Tryz.prog 61 #[.slice (some ⟨b, 0, none⟩) 2 c] W fun e W' => ∃ nb c', e = .returned (.slice (some ⟨nb, 0, none⟩) 2 c') /\ 2 <= c' /\ W.heap.size <= nb /\ Two W' nb (pyFa a i) (pyFb a i) /\ Below W.heap.size W W' := fun {i s} q1 q2 => by
  obtain ⟨u2, hu2, vu2⟩ := hcell sl q1
  obtain ⟨b, d, sb, rfl⟩ := vu2.slice_inv
  obtain ⟨cs, es, fz, hw0, hr, -⟩ := hR.rowA sb q2
  obtain ⟨us, zs, t1, t2, -⟩ := hr.cells
  cases t2 with
  | cons z1 t2 =>
   cases t2 with
   | cons z2 t2 =>
    cases t2
    obtain rfl := sym_int z1
    obtain rfl := sym_int z2
    exact ⟨b, 2 + d, hu2, fun W hB => clone_run (hR.below hB).1 ((hB.block b (Array.getElem?_eq_some_iff.1 hw0).1).trans hw0) t1 (by omega)⟩
 have hrun := callsIn_wide.1 (pays_in Fence.wide 3 trivial trivial trivial trivial trivial rfl (fun h _ => callsIn_wide.2 h) (by decide) bs bl (4 + dl) 3 (pyFa a) (pyFb a) (pyGv a) w (by decide) hu1
  (fun i hi => by obtain ⟨-, h2, h3⟩ := hp i (by omega); exact ⟨h2, h3⟩) (fun i x y u v h hx hy => giv_ok h hx hy)
  (fun i hi => by
   match i, hi with
   | 0, _ => exact hcl (py_l40 a).1 (py_l40 a).2
   | 1, _ => exact hcl (py_l41 a).1 (py_l41 a).2
   | 2, _ => exact hcl (py_l42 a).1 (py_l42 a).2
   | 3, _ => exact hcl (py_l43 a).1 (py_l43 a).2
   | (n + 4), hi => exact absurd hi (by omega))
  (fun i hi W nb c x y hB hnb hc hT hx hy => by
   match i, hi with
   | 0, _ => exact gives_run40 a (hp 0 (by decide)).1 hR sl hB hnb hc hT hx hy
   | 1, _ => exact gives_run41 a (hp 1 (by decide)).1 hR sl hB hnb hc hT hx hy
   | 2, _ => exact gives_run42 a (hp 2 (by decide)).1 hR sl hB hnb hc hT hx hy
   | 3, _ => exact gives_run43 a (hp 3 (by decide)).1 hR sl hB hnb hc hT hx hy
   | (n + 4), hi => exact absurd hi (by omega)))
 refine .inr ⟨20, #[.pointer (some ⟨bs, 0, none⟩)], entered (envOK.name 20 Tryz.f20 (by kernel_rfl)) (by kernel_rfl) rfl _ w, Calls.mono hrun fun en w' he => ?_⟩
 obtain ⟨nb, c, u, v, rfl, hc, hge, hT, hch', hB⟩ := he
 obtain ⟨rfl, rfl⟩ := chL_fun hch' hch
 obtain ⟨cs, fz, zs, h1, h2, -⟩ := hT
 have k := hR.newAt (o := .row [tgI .i64 u, tgI .i64 v] 3 .gro) (d := c - 2) hB hge h1 (or_two h2)
 exact ⟨_, sl_two hc (ext_self _ _), k.1, k.2⟩
end Go.Proofs.YtfkacmmcgncooaaGreatDoor
end

/- What is paid is all that there is (plain). -/
section
set_option maxRecDepth 100000
namespace Go.Proofs.YtfkacmmcgncooaaGreatDoor
open Go.Ev
set_option linter.unusedSectionVars false
variable [Go.Ev.Frozen Tryz.prog]
noncomputable section
def totL (d : Nat) (t : PyA) : Int := nth4 d (t.a.x + t.a.y) (t.a.x + t.a.y + (t.b.x + t.b.y)) (t.a.x + t.a.y + (t.b.x + t.b.y) + (t.c.x + t.c.y)) (t.a.x + t.a.y + (t.b.x + t.b.y) + (t.c.x + t.c.y) + (t.e.x + t.e.y))
end
end Go.Proofs.YtfkacmmcgncooaaGreatDoor
end

/- The example is known; are acts few? (what is to be shown) -/
section
set_option maxRecDepth 100000
set_option linter.constructorNameAsVariable false
namespace Go.Proofs.YtfkacmmcgncooaaGreatDoor
open Go.RowKit Go.Ev
-- keep Go.Proofs.Tryz.prog Go.Ev.FX twoX actX1 actsX cells0 cells1 cells2 cells4 cells5 cells6 cells8 cells9 cells10
variable [Frozen Tryz.prog]
def actX1 (b p : Nat) : Prop := ∃ (w t z h : Int) (v : Option Addr) (l c : Nat), (FX Tryz.prog b p (.int .u8 w) /\ FX Tryz.prog b (p + 1) (.int .i64 t) /\ FX Tryz.prog b (p + 2) (.int .i32 z) /\ FX Tryz.prog b (p + 3) (.int .u8 h) /\ FX Tryz.prog b (p + 4) (.slice v l c)) /\
 ((0 <= w /\ w < 256) /\ inR z /\ 0 <= h /\ h < 256) /\ twoX v l c
def actsX (v : Option Addr) (l : Nat) : Prop := l <= 9223372036854775807 /\ ∀ i, i < l -> ∃ b o, v = some ⟨b, o, none⟩ /\ actX1 b (o + i * 5)
structure FwA where
 v : Option Addr
 l : Nat
 c : Nat
structure NmB where
 n : Int
noncomputable section
def S_known : SpecD where
 f := 7
 α := Unit
 args _ := []
 R _ := [(0, .f cells0 327 .ro), (1, .f cells1 333 .ro), (2, .f cells2 356 .ro), (4, .f cells4 327 .ro), (5, .f cells5 368 .ro), (6, .f cells6 381 .ro), (8, .f cells8 385 .ro), (9, .f cells9 388 .ro), (10, .f cells10 389 .ro)]
 n := 12
 pre _ := True
 outs := [⟨Unit, fun _ _ => True, fun _ _ => .bool true, fun _ _ => [], fun _ _ => 12, fun _ _ => []⟩]
 pick _ _ := 0
 find _ _ := some ((), [])
def S_few : SpecD where
 f := 8
 α := FwA
 args a := [.iface EXT (.slice a.v a.l a.c)]
 R _ := []
 n := 12
 pre a := actsX a.v a.l
 outs := [⟨Unit, fun _ _ => True, fun _ _ => .bool false, fun _ _ => [], fun _ _ => 12, fun _ _ => []⟩,
  ⟨Unit, fun a _ => a.l <= 40, fun _ _ => .bool true, fun _ _ => [], fun _ _ => 12, fun _ _ => []⟩]
 pick v _ := match v with
  | .bool b => Bool.rec 0 1 b
  | _ => 0
 find l _ := xsK (lv l 0) fun v l c => some (⟨v, l, c⟩, [])
def la_few (a : FwA) : LA where
 α := NmB
 at_ e := ⟨[(0, .iface EXT (.slice a.v a.l a.c)), (5, .iface EXT (.slice a.v a.l a.c)), (6, tgI .i64 a.l), (7, tgI .i64 e.n)], [], 12⟩
 J e := 0 <= e.n /\ e.n <= a.l
 μ e := (a.l - e.n).toNat
 ren _ := []
def G_few (a : FwA) : Prop := fnW Tryz.prog E0 (cwX (fun c => c) 2) [some (la_few a)] S_few.f (S_few.args a) (mem (S_few.R a) S_few.n) (endD Tryz.prog S_few a)
end
end Go.Proofs.YtfkacmmcgncooaaGreatDoor
end

/- The example is known; are acts few? -/
section
set_option maxRecDepth 100000
set_option linter.constructorNameAsVariable false
namespace Go.Proofs.YtfkacmmcgncooaaGreatDoor
open Go.RowKit Go.Ev
set_option linter.unusedSectionVars false
variable [Go.Ev.Frozen Tryz.prog]
noncomputable section
def W_G_few_0 : FwA -> Option Addr := fun (a : FwA) => a.1
def W_G_few_1 : Nat -> Nat -> Option Addr := fun (a b : Nat) => some (Addr.mk a b none)
end
theorem vc_few (a : FwA) : G_few a = (∀ (i : Int), i = (↑a.2 : Int) -> ∃ (f : NmB), (0 <= f.1 /\ f.1 <= (↑a.2 : Int)) /\ ((Value.slice a.1 a.2 a.3 = Value.slice a.1 a.2 a.3 /\ Value.slice a.1 a.2 a.3 = Value.slice a.1
a.2 a.3 /\ (↑a.2 : Int) = i /\ f.1 = 0 /\ True) /\ True /\ True) /\ ∀ (b : NmB), 0 <= b.1 /\ b.1 <= (↑a.2 : Int) -> (b.1 < (↑a.2 : Int) -> (0 <= b.1 /\ b.1 < (↑a.2 : Int)) /\ (∃ (c j :
Nat), W_G_few_0 a = W_G_few_1 c j /\ ∀ (d : Nat), d = j + Int.toNat b.1 * 5 -> ∃ (m : Int), FX Proofs.Tryz.prog c (Nat.add d 0) (Value.int .u8 m) /\ ∃ (n : Int), FX
Proofs.Tryz.prog c (Nat.add d 1) (Value.int .i64 n) /\ ∃ (o : Int), FX Proofs.Tryz.prog c (Nat.add d 2) (Value.int .i32 o) /\ ∃ (p : Int), FX Proofs.Tryz.prog c (Nat.add d
3) (Value.int .u8 p) /\ ∃ (q : Option Addr) (k r : Nat), FX Proofs.Tryz.prog c (Nat.add d 4) (Value.slice q k r) /\ ∀ (g : Int), g = (↑k : Int) -> ((10 : Int) <
g -> (∃ (_ : Unit), True /\ false = false /\ True)) /\ (¬((10 : Int) < g) -> ∀ (l : Int), l = IntKind.wrap .i64 (b.1 + (1 : Int)) -> ∃ (e : NmB), (0 <= e.1 /\ e.1 <= (↑a.2 :
Int)) /\ Int.toNat ((↑a.2 : Int) - e.1) < Int.toNat ((↑a.2 : Int) - b.1) /\ (Value.slice a.1 a.2 a.3 = Value.slice a.1 a.2 a.3 /\ Value.slice a.1 a.2 a.3 = Value.slice a.1 a.2 a.3
/\ (↑a.2 : Int) = (↑a.2 : Int) /\ e.1 = l /\ True) /\ True /\ True))) /\ (¬(b.1 < (↑a.2 : Int)) -> ∀ (h : Int), h = (↑a.2 : Int) -> (h <= (40 : Int) -> (∃ (_ : Unit), Nat.le a.2
40 /\ true = true /\ True)) /\ (¬(h <= (40 : Int)) -> ∃ (_ : Unit), True /\ false = false /\ True))) := by kernel_rfl
theorem known38_run : resIs (.bool true) (evCallH Tryz.prog E0 (allC [relocCall hkK17, heldH]) 300 7 [] ⟨putAll G0 .e, 12⟩) = true := by kernel_rfl
noncomputable section
abbrev globR : List (Nat × PO) := [(0, .f cells0 327 .ro), (1, .f cells1 333 .ro), (2, .f cells2 356 .ro), (4, .f cells4 327 .ro), (5, .f cells5 368 .ro), (6, .f cells6 381 .ro), (8, .f cells8 385 .ro), (9, .f cells9 388 .ro), (10, .f cells10 389 .ro)]
end
theorem globs : mem globR 12 = ⟨putAll G0 .e, 12⟩ := by kernel_rfl
theorem wv_true (r : Nat -> Option Nat) : wv r 5 (.bool true) (.bool true) := by
 first
  | exact (rfl : true = true)
  | exact trivial
  | (show wvS r (.bool true) (usym (.bool true)); exact (rfl : true = true))
  | (show wvS r (.bool true) (.bool true); unfold wvS; exact rfl)
  | simp [wv, wvS]
theorem known_of {hk : Caller -> Caller} (hh : HookOK Tryz.prog hk) (hr : resIs (.bool true) (evCallH Tryz.prog E0 hk 300 7 [] ⟨putAll G0 .e, 12⟩) = true) : SpecOK Tryz.prog S_known.spec := fun a K _ hq => by
 cases hev : evCallH Tryz.prog E0 hk 300 7 [] ⟨putAll G0 .e, 12⟩ with
 | none => rw [hev] at hr; cases hr
 | some p =>
  obtain ⟨v1, B⟩ := p
  rw [hev] at hr
  obtain rfl := veq6_eq (show veq6 v1 (.bool true) = true from hr)
  have hsem : FnSem Tryz.prog 7 [] (mem globR 12) (.bool true) B := fun σ w args' hR ha => by
   rw [globs] at hR ⊢
   exact evCallH_ok envOK hh 300 _ [] _ _ B hev σ w args' hR ha
  exact ⟨.bool true, [], 12, hq.1 () trivial, fun _ _ _ _ h => (nomatch h), fnSem_seen rfl hsem (l := []) (cpb_iff.2 ⟨by kernel_rfl, wv_true _, trivial⟩)⟩
theorem s_known : SpecOK Tryz.prog S_known.spec := known_of (allC_cons hkK17_ok (allC_cons heldH_ok allC_nil)) known38_run
theorem g_few (a : FwA) (hp : actsX a.v a.l) : GW (G_few a) := by
 obtain ⟨hl, ha⟩ := hp
 refine ⟨?_⟩
 rw [vc_few]
 intro x0 e0
 refine ⟨⟨0⟩, ⟨Int.le_refl _, by show (0 : Int) <= a.l; omega⟩, ?_, fun e he => ?_⟩
 ·have e0 := e0.symm
  (and_intros<;>first|trivial|rfl)
 ·obtain ⟨n⟩ := e
  obtain ⟨h1, h2⟩ := he
  have h1 : 0 <= n := h1
  have h2 : n <= a.l := h2
  refine ⟨fun h3 => ?_, fun h3 => ?_⟩
  ·have h3 : n < a.l := h3
   refine ⟨⟨h1, h3⟩, ?_⟩
   obtain ⟨b, o, hv, w, t, z, h, v, l, c, ⟨q1, q2, q3, q4, q5⟩, -, -⟩ := ha n.toNat (by omega)
   refine ⟨b, o, hv, fun p ep => ⟨w, by rw [ep]; exact q1, t, by rw [ep]; exact q2, z, by rw [ep]; exact q3, h, by rw [ep]; exact q4, v, l, c, by rw [ep]; exact q5, fun x13 _ => ⟨fun _ => ?_, fun _ => ?_⟩⟩⟩
   ·(repeat(apply And.intro;focus(and_intros<;>first|trivial|rfl)))
    refine ⟨(), ?_⟩
    (and_intros<;>first|trivial|rfl)
   ·(repeat(apply And.intro;focus(and_intros<;>first|trivial|rfl)))
    intro x e
    rw [wr64 (by show _ <= n + 1 /\ n + 1 <= _; omega)] at e
    refine ⟨⟨n + 1⟩, ⟨by show 0 <= n + 1; omega, by show n + 1 <= (a.l : Int); omega⟩, by show ((a.l : Int) - (n + 1)).toNat < ((a.l : Int) - n).toNat; omega, ?_⟩
    have e := e.symm
    (and_intros<;>first|trivial|rfl)
  ·(repeat(apply And.intro;focus(and_intros<;>first|trivial|rfl)))
   intro x e
   refine ⟨fun h => ?_, fun h => ?_⟩
   ·(repeat(apply And.intro;focus(and_intros<;>first|trivial|rfl)))
    refine ⟨(), by show a.l <= 40; omega, ?_⟩
    (and_intros<;>first|trivial|rfl)
   ·(repeat(apply And.intro;focus(and_intros<;>first|trivial|rfl)))
    refine ⟨(), ?_⟩
    (and_intros<;>first|trivial|rfl)
theorem s_few : SpecOK Tryz.prog S_few.spec := fun a => specG_at (an := [some (la_few a)]) envOK (cwX_ok (fun _ h => h) 2) fun hp => g_few a hp
end Go.Proofs.YtfkacmmcgncooaaGreatDoor
end

/- The law of money (what is to be shown). -/
section
set_option maxRecDepth 100000
namespace Go.Proofs.YtfkacmmcgncooaaGreatDoor
open Go.Ev
-- keep Go.Proofs.Tryz.prog Go.Ev.FX twoX actX1 actsX isG isGx smQ turnG payR doP doQ allS sumX sumY actG monJ errQ movQ begQ endQ begM endM cells0 cells1 cells2 cells4 cells5 cells6 cells8 cells9 cells10
variable [Frozen Tryz.prog]
structure BgM where
 g : RuA
 p : PoA
 b : XyB
 u : Int
 v : Int
structure EnM where
 b : XyB
 u : Int
 v : Int
noncomputable section
def OuA.st (o : OuA) (u v : Int) : OuA := ⟨o.r0, o.r1, o.r2, o.r3, o.r4, u, v⟩
def popM (d : Nat) (a : StA) (u v : Int) : List LvV := nth4 d ([]) ([loV (12 + 2) (a.a.st u v)]) ([loV (12 + 2) a.a, loV (12 + 18) (a.b.st u v)]) ([loV (12 + 2) a.a, loV (12 + 18) a.b, loV (12 + 34) (a.c.st u v)])
def begM (a : DoA) (b : BgM) : Prop := begQ a ⟨b.g, b.p, b.b⟩ /\ b.u = a.s.x - b.b.x /\ b.v = a.s.y - b.b.y
def endM (d : Nat) (a : DoA) (b : EnM) : Prop := endQ a b.b /\ b.u = (aroO d a.s).x + b.b.x /\ b.v = (aroO d a.s).y + b.b.y
def outBM (d : Nat) : Out DoA := ⟨BgM, begM, fun _ _ => .int .i64 0, fun a b => stR 12 (popN d + 16) (d + 1) (ouL d a.s ++ [loV (inB d) (a.s.inn.st b.u b.v), ⟨popN d, popN d + 12, popN d + 15, b.p.ou b.b.x b.b.y⟩]) ++ (ruT b.g (popN d) ++ (poR b.p (popN d + 12) ++ [(12 + 1, .p .dead)])), fun _ _ => popN d + 17, fun _ A => begN d (popN d) A⟩
def outPM (d : Nat) : Out DoA := ⟨EnM, endM d, fun _ _ => .int .i64 0, fun a b => stR 12 (popN d) (d - 1) (popM d a.s b.u b.v) ++ deadR d, fun _ _ => popN d + 1, fun _ A => endN d (popN d) A⟩
def S_doM (d : Nat) (o : List (Out DoA)) : SpecD := { S_do d [] with outs := outM d :: outE d :: o }
abbrev S_doM1 : SpecD := S_doM 1 [outBM 1]
abbrev S_doM2 : SpecD := S_doM 2 [outBM 2, outPM 2]
abbrev S_doM3 : SpecD := S_doM 3 [outBM 3, outPM 3]
abbrev S_doM4 : SpecD := S_doM 4 [outPM 4]
def pvK {β : Type} (A : AW) (c : List Value) (o b : Nat) (k : GvA -> List (Nat × Nat) -> Option β) : Option β := inK A c o b fun g p x y q => k ⟨g, p, x, y⟩ q
def pyK {β : Type} (d : Nat) (A : AW) (v : Value) (k : PyA -> List (Nat × Nat) -> Option β) : Option β := ptK v fun i => rowK A i fun h => match lv h 0 with
 | .slice (some ⟨j, _, _⟩) l _ => Bool.rec none (rowK A j fun c => nth4 d
   (pvK A c 0 (12 + 2) fun x q => k ⟨x, x, x, x⟩ ((12, i) :: (12 + 1, j) :: q))
   (pvK A c 0 (12 + 2) fun x q => pvK A c 10 (12 + 18) fun y r => k ⟨x, y, x, x⟩ ((12, i) :: (12 + 1, j) :: (q ++ r)))
   (pvK A c 0 (12 + 2) fun x q => pvK A c 10 (12 + 18) fun y r => pvK A c 20 (12 + 34) fun z s => k ⟨x, y, z, x⟩ ((12, i) :: (12 + 1, j) :: (q ++ (r ++ s))))
   (pvK A c 0 (12 + 2) fun x q => pvK A c 10 (12 + 18) fun y r => pvK A c 20 (12 + 34) fun z s => pvK A c 30 (12 + 50) fun u t => k ⟨x, y, z, u⟩ ((12, i) :: (12 + 1, j) :: (q ++ (r ++ (s ++ t)))))) (Nat.beq l d)
 | _ => none
def S_paysE (M : Nat) : SpecD := { S_pays M with find := fun l A => pyK (M + 1) A (lv l 0) fun a q => some (a, q) }
structure MnA where
 w : Int
 x : Int
 y : Int
 v : Option Addr
 l : Nat
 c : Nat
structure MnB where
 t : PyA
 i : Int
def monJ (d : Nat) (a : MnA) (e : MnB) : Prop := (0 <= e.i /\ e.i <= a.l) /\ allOK d e.t /\ totL d e.t = a.x + a.y
def lawR (d : Nat) (t : PyA) : List (Nat × PO) := stR 12 (12 + 1) d (plL d t) ++ (pyG d t ++ [(0, .f cells0 327 .ro), (1, .f cells1 333 .ro), (2, .f cells2 356 .ro), (4, .f cells4 327 .ro), (5, .f cells5 368 .ro), (6, .f cells6 381 .ro), (8, .f cells8 385 .ro), (9, .f cells9 388 .ro), (10, .f cells10 389 .ro)])
def pvN (d : Nat) (A : AW) (v : Value) : List (Nat × Nat) := Option.rec [] (fun q => q) (pyK d A v fun _ q => some q)
def deepI (A : AW) (v : Value) : Nat := match lv (rowO A (ptI v)) 0 with
 | .slice _ l _ => l
 | _ => 0
def cwLw (c : CW) : CW := cwD Tryz.prog S_known (cwD Tryz.prog S_few (cwD Tryz.prog S_begin (cwE Tryz.prog S_doM1 (cwE Tryz.prog S_doM2 (cwE Tryz.prog S_doM3 (cwE Tryz.prog S_doM4
 (cwE Tryz.prog (S_held 1) (cwE Tryz.prog (S_held 2) (cwE Tryz.prog (S_held 3) (cwE Tryz.prog (S_held 4) (cwE Tryz.prog (S_paysE 0) (cwE Tryz.prog (S_paysE 1) (cwE Tryz.prog (S_paysE 2) (cwE Tryz.prog (S_paysE 3) c))))))))))))))
end
end Go.Proofs.YtfkacmmcgncooaaGreatDoor
end

/- The two games: a position is the same as itself. -/
section
set_option maxRecDepth 100000
namespace Go.Proofs.YtfkacmmcgncooaaGreatDoor
open Go.Ev
set_option linter.unusedSectionVars false
variable [Go.Ev.Frozen Tryz.prog]
noncomputable section
def S_gsame : SpecD where
 f := 17
 α := PoA
 args p := [poV p 12, poV p (12 + 3)]
 R p := poR p 12 ++ poR p (12 + 3)
 n := 12 + 6
 pre p := ∃ k j, (k, j) ∈ allG /\ p = posG k j
 outs := [⟨Unit, fun _ _ => True, fun _ _ => .bool true, fun _ _ => [], fun _ _ => 12 + 6, fun _ _ => []⟩]
 pick _ _ := 0
 find l A := poK A 12 (agv (lv l 0)) fun p q => poK A (12 + 3) (agv (lv l 1)) fun _ r => some (p, q ++ r)
def runSame (q : Nat × Nat) : Bool := ranB (evCallH Tryz.prog E0 (fun c => c) 300 S_gsame.f (S_gsame.args (posG q.1 q.2)) (mem (S_gsame.R (posG q.1 q.2)) S_gsame.n)) (fun v B => seenB Tryz.prog.globals.size S_gsame.n [] v B (.bool true) [] (12 + 6))
end
theorem ran_same : (allG.all runSame) = true := by kernel_rfl
theorem s_gsame : SpecOK Tryz.prog S_gsame.spec := fun a K hp hq => by
 obtain ⟨k, j, hm, hj⟩ := id hp
 have hj : a = posG k j := hj
 subst hj
 have h := List.all_eq_true.1 ran_same (k, j) hm
 unfold runSame at h
 exact spec_run envOK hook_id 300 (S := S_gsame) (a := posG k j) List.mem_cons_self () trivial h K hp hq
end Go.Proofs.YtfkacmmcgncooaaGreatDoor
end

/- What an inner table pays goes into the one around it: the law (what is to be shown). -/
section
set_option maxRecDepth 100000
namespace Go.Proofs.YtfkacmmcgncooaaGreatDoor
open Go.Ev
-- keep Go.Proofs.Tryz.prog Go.Ev.FX twoX actX1 actsX isG isGx smQ turnG payR doP doQ allS sumX sumY actG monJ errQ movQ begQ endQ begM endM popE posG rulG allG cells0 cells1 cells2 cells4 cells5 cells6 cells8 cells9 cells10
structure S4A where
 x : Int
 y : Int
 u : Int
 v : Int
def popE (d : Nat) (a : StA) (b : EnM) : Prop := popQ a b.b /\ b.u = (aroO d a).x + b.b.x /\ b.v = (aroO d a).y + b.b.y
variable [Frozen Tryz.prog]
noncomputable section
def S_lsame : SpecD where
 f := 18
 α := S4A
 args _ := [sc 12 2, sc (12 + 1) 2]
 R a := [(12, .p (.row [tgI .i64 a.x, tgI .i64 a.y] 3 .gro)), (12 + 1, .p (.row [tgI .i64 a.u, tgI .i64 a.v] 3 .gro))]
 n := 12 + 2
 pre a := a.x = a.u /\ a.y = a.v
 outs := [⟨Unit, fun _ _ => True, fun _ _ => .bool true, fun _ _ => [], fun _ _ => 12 + 2, fun _ _ => []⟩]
 pick _ _ := 0
 find l A := blK (lv l 0) fun b => rowK A b fun t => wI (lv t 0) fun x => wI (lv t 1) fun y => blK (lv l 1) fun c => rowK A c fun r => wI (lv r 0) fun u => wI (lv r 1) fun v => some (⟨x, y, u, v⟩, [(12, b), (12 + 1, c)])
def G_lsame (a : S4A) : Prop := fnW Tryz.prog E0 (cwX (fun c => c) 2) [] S_lsame.f (S_lsame.args a) (mem (S_lsame.R a) S_lsame.n) (endD Tryz.prog S_lsame a)
def S_popM (d : Nat) : SpecD := { S_pop d with outs := [⟨EnM, popE d, fun _ _ => .int .i64 0, fun a b => stR 12 (popN d) (d - 1) (popM d a b.u b.v) ++ deadR d, fun _ _ => popN d + 1, fun _ _ => []⟩,
  ⟨Unit, fun a _ => ∃ k j, isG a.g a.p k j /\ 0 <= turnG k j, fun _ _ => .int .i64 10, fun a _ => stR 12 (12 + 1) d (stL d a), fun _ _ => popN d, fun _ _ => []⟩] }
def lcP (d : Nat) (a : MnA) : LC where
 β := MnB
 at_ e := ⟨[(7, .pointer (some ⟨12, 0, none⟩)), (33, .iface EXT (.slice a.v a.l a.c)), (34, tgI .i64 a.l), (35, tgI .i64 e.i)], lawR d e.t, popN d⟩
 J e := monJ d a e
 μ e := (a.l - e.i).toNat
 ren s := pvN d s.A (tv s 7)
def la_pops (a : MnA) : LA := { α := Unit, at_ := fun _ => ⟨[], [], 0⟩, J := fun _ => True, μ := fun _ => 0, ren := fun _ => [], mc := some ([lcP 1 a, lcP 2 a, lcP 3 a, lcP 4 a], fun s => Nat.pred (deepI s.A (tv s 7))) }
def S_pops : SpecD where
 f := 6
 α := MnA
 args a := [tgI .u8 a.w, .agg ⟨[tgI .u16 a.x, tgI .u16 a.y]⟩, .iface EXT (.slice a.v a.l a.c)]
 R _ := [(0, .f cells0 327 .ro), (1, .f cells1 333 .ro), (2, .f cells2 356 .ro), (4, .f cells4 327 .ro), (5, .f cells5 368 .ro), (6, .f cells6 381 .ro), (8, .f cells8 385 .ro), (9, .f cells9 388 .ro), (10, .f cells10 389 .ro)]
 n := 12
 pre a := ((0 <= a.w /\ a.w < 256) /\ (0 <= a.x /\ a.x < 65536) /\ 0 <= a.y /\ a.y < 65536) /\ actsX a.v a.l
 outs := [⟨Unit, fun _ _ => True, fun _ _ => .bool true, fun _ _ => [], fun _ _ => 12, fun _ _ => []⟩]
 pick _ _ := 0
 find _ _ := none
def cwPq (c : CW) : CW := cwE Tryz.prog (S_popM 2) (cwE Tryz.prog (S_popM 3) (cwE Tryz.prog (S_popM 4) (cwE Tryz.prog S_pop1 (cwD Tryz.prog S_gturn (cwD Tryz.prog S_gclone (cwE Tryz.prog S_cl2 (cwD Tryz.prog S_gsame (cwD Tryz.prog S_lsame c))))))))
def cwPp (c : CW) : CW := cwLw (cwPq c)
def G_pops (a : MnA) : Prop := fnW Tryz.prog E0 (cwX cwPp 5) [some (la_pops a), none] S_pops.f (S_pops.args a) (mem (S_pops.R a) S_pops.n) (endD Tryz.prog S_pops a)
end
end Go.Proofs.YtfkacmmcgncooaaGreatDoor
end

/- What is paid as tables stand, step by step (plain). -/
section
set_option maxRecDepth 100000
namespace Go.Proofs.YtfkacmmcgncooaaGreatDoor
open Go.Ev
def ChF {M : Nat} (fa fb : Nat -> Int) (gv : Nat -> Int -> Int -> Int -> Int -> Prop) : List (Fin (M + 1)) -> Int -> Int -> Int -> Int -> Prop
 | [], x, y, u, v => x = u /\ y = v
 | t :: l, x, y, u, v => ∃ p q, gv t.1 (fa t.1 + x) (fb t.1 + y) p q /\ ChF fa fb gv l p q u v
set_option linter.unusedSectionVars false
variable [Go.Ev.Frozen Tryz.prog]
theorem chF_snoc {M : Nat} {fa fb : Nat -> Int} {gv : Nat -> Int -> Int -> Int -> Int -> Prop} {t : Fin (M + 1)} : ∀ {l : List (Fin (M + 1))} {x y u v p q : Int}, ChF fa fb gv l x y u v -> gv t.1 (fa t.1 + u) (fb t.1 + v) p q -> ChF fa fb gv (l ++ [t]) x y p q
 | [], _, _, _, _, _, _, h, g => by obtain ⟨rfl, rfl⟩ := h; exact ⟨_, _, g, rfl, rfl⟩
 | _ :: _, _, _, _, _, _, _, h, g => by obtain ⟨a, b, h1, h2⟩ := h; exact ⟨a, b, h1, chF_snoc h2 g⟩
theorem chL_F {M : Nat} {fa fb : Nat -> Int} {gv : Nat -> Int -> Int -> Int -> Int -> Prop} {l : List (Fin (M + 1))} {x y : Int} (h : ChL fa fb gv l x y) : ChF fa fb gv l 0 0 x y := by
 induction h with
 | nil => exact ⟨rfl, rfl⟩
 | snoc _ h2 ih => exact chF_snoc ih h2
abbrev gvT (t : GvA) (x y u v : Int) : Prop := givR t.g t.p (t.x + x) (t.y + y) u v
theorem payE0 {a : PyA} {b : XyB} (h : PayD 0 a b) : gvT a.a 0 0 b.x b.y := by
 have h : ∃ p q, gvT a.a 0 0 p q /\ p = b.x /\ q = b.y := chL_F h.h
 obtain ⟨p, q, h1, rfl, rfl⟩ := h
 exact h1
theorem payE1 {a : PyA} {b : XyB} (h : PayD 1 a b) : ∃ p q, gvT a.b 0 0 p q /\ gvT a.a p q b.x b.y := by
 have h : ∃ p q, gvT a.b 0 0 p q /\ ∃ u v, gvT a.a p q u v /\ u = b.x /\ v = b.y := chL_F h.h
 obtain ⟨p, q, h1, u, v, h2, rfl, rfl⟩ := h
 exact ⟨p, q, h1, h2⟩
theorem payE2 {a : PyA} {b : XyB} (h : PayD 2 a b) : ∃ p q, gvT a.c 0 0 p q /\ ∃ r s, gvT a.b p q r s /\ gvT a.a r s b.x b.y := by
 have h : ∃ p q, gvT a.c 0 0 p q /\ ∃ r s, gvT a.b p q r s /\ ∃ u v, gvT a.a r s u v /\ u = b.x /\ v = b.y := chL_F h.h
 obtain ⟨p, q, h1, r, s, h2, u, v, h3, rfl, rfl⟩ := h
 exact ⟨p, q, h1, r, s, h2, h3⟩
theorem payE3 {a : PyA} {b : XyB} (h : PayD 3 a b) : ∃ p q, gvT a.e 0 0 p q /\ ∃ r s, gvT a.c p q r s /\ ∃ m n, gvT a.b r s m n /\ gvT a.a m n b.x b.y := by
 have h : ∃ p q, gvT a.e 0 0 p q /\ ∃ r s, gvT a.c p q r s /\ ∃ m n, gvT a.b r s m n /\ ∃ u v, gvT a.a m n u v /\ u = b.x /\ v = b.y := chL_F h.h
 obtain ⟨p, q, h1, r, s, h2, m, n, h3, u, v, h4, rfl, rfl⟩ := h
 exact ⟨p, q, h1, r, s, h2, m, n, h3, h4⟩
theorem gvT_fun {t s : GvA} {x y x' y' u v u' v' : Int} (hg : s.g = t.g) (hp : s.p = t.p) (hx : t.x + x = s.x + x') (hy : t.y + y = s.y + y') (h : gvT t x y u v) (h' : gvT s x' y' u' v') : u = u' /\ v = v' := by
 unfold gvT at h h'
 rw [hg, hp, ← hx, ← hy] at h'
 exact giv_fun h h'
theorem gvT_over {t : GvA} {k j : Nat} {p q u v : Int} (hi : isG t.g t.p k j) (ho : turnG k j < 0) (hz : payR k j (t.x + t.y) u v) (h : gvT t 0 0 p q) : p = u /\ q = v := by
 obtain ⟨k', j', hi', c⟩ := h
 obtain ⟨rfl, rfl⟩ := isG_inj hi hi'
 rcases c with ⟨h0, -⟩ | ⟨-, c⟩
 ·omega
 ·rw [Int.add_zero, Int.add_zero] at c
  exact payR_fun c hz
theorem gvT_on {t : GvA} {k j : Nat} {p q : Int} (hi : isG t.g t.p k j) (ho : ¬ turnG k j < 0) (h : gvT t 0 0 p q) : p = t.x /\ q = t.y := by
 obtain ⟨k', j', hi', c⟩ := h
 obtain ⟨rfl, rfl⟩ := isG_inj hi hi'
 rcases c with ⟨-, h1, h2⟩ | ⟨h0, -⟩
 ·omega
 ·exact absurd h0 ho
theorem turn_low : (allG.all fun q => decide (-1 <= turnG q.1 q.2)) = true := by kernel_rfl
theorem turn_neg {g : RuA} {p : PoA} {k j : Nat} (h : isG g p k j) : turnG k j < 0 ↔ turnG k j = -1 := by
 have := List.all_eq_true.1 turn_low (k, j) h.1
 have := of_decide_eq_true this
 have h0 : (-1 : Int) <= turnG k j := this
 omega
theorem pops2 {t s : PyA} {b c z : XyB} {k j : Nat} (hi : isG t.b.g t.b.p k j) (ho : turnG k j < 0) (hz : payR k j (t.b.x + t.b.y) z.x z.y) (eg : s.a.g = t.a.g) (ep : s.a.p = t.a.p) (ex : s.a.x = t.a.x + z.x) (ey : s.a.y = t.a.y + z.y) (h : PayD 1 t b) (h' : PayD 0 s c) : c.x = b.x /\ c.y = b.y := by
 obtain ⟨p, q, h1, h2⟩ := payE1 h
 obtain ⟨rfl, rfl⟩ := gvT_over hi ho hz h1
 exact gvT_fun eg.symm ep.symm (by omega) (by omega) (payE0 h') h2
theorem pops3 {t s : PyA} {b c z : XyB} {k j : Nat} (hi : isG t.c.g t.c.p k j) (ho : turnG k j < 0) (hz : payR k j (t.c.x + t.c.y) z.x z.y) (e : s.a = t.a) (eg : s.b.g = t.b.g) (ep : s.b.p = t.b.p) (ex : s.b.x = t.b.x + z.x) (ey : s.b.y = t.b.y + z.y) (h : PayD 2 t b) (h' : PayD 1 s c) : c.x = b.x /\ c.y = b.y := by
 obtain ⟨p, q, h1, r, w, h2, h3⟩ := payE2 h
 obtain ⟨rfl, rfl⟩ := gvT_over hi ho hz h1
 obtain ⟨r', w', h4, h5⟩ := payE1 h'
 obtain ⟨rfl, rfl⟩ := gvT_fun eg.symm ep.symm (by omega) (by omega) h4 h2
 rw [e] at h5
 exact gvT_fun rfl rfl rfl rfl h5 h3
theorem pops4 {t s : PyA} {b c z : XyB} {k j : Nat} (hi : isG t.e.g t.e.p k j) (ho : turnG k j < 0) (hz : payR k j (t.e.x + t.e.y) z.x z.y) (e : s.a = t.a) (f : s.b = t.b) (eg : s.c.g = t.c.g) (ep : s.c.p = t.c.p) (ex : s.c.x = t.c.x + z.x) (ey : s.c.y = t.c.y + z.y) (h : PayD 3 t b) (h' : PayD 2 s c) : c.x = b.x /\ c.y = b.y := by
 obtain ⟨p, q, h1, r, w, h2, m, n, h3, h0⟩ := payE3 h
 obtain ⟨rfl, rfl⟩ := gvT_over hi ho hz h1
 obtain ⟨r', w', h4, m', n', h5, h6⟩ := payE2 h'
 obtain ⟨rfl, rfl⟩ := gvT_fun eg.symm ep.symm (by omega) (by omega) h4 h2
 rw [f] at h5
 obtain ⟨rfl, rfl⟩ := gvT_fun rfl rfl rfl rfl h5 h3
 rw [e] at h6
 exact gvT_fun rfl rfl rfl rfl h6 h0
theorem pops1 {t : PyA} {b : XyB} {k j : Nat} (hi : isG t.a.g t.a.p k j) (ho : turnG k j ≠ -1) (h : PayD 0 t b) : b.x = t.a.x /\ b.y = t.a.y := gvT_on hi (fun h0 => ho ((turn_neg hi).1 h0)) (payE0 h)
end Go.Proofs.YtfkacmmcgncooaaGreatDoor
end
