/- Tables within tables: what all have of each seat is as is told. -/
import Derived.Test.YtfkacmmcgncooaaGreatDoorYn1
section
set_option maxRecDepth 100000
namespace Go.Proofs.YtfkacmmcgncooaaGreatDoor
open Go.Ev
set_option linter.unusedSectionVars false
variable [Go.Ev.Frozen Tryz.prog]
theorem sym_int {σ : Sg} {k : IntKind} {x : Int} {u : Value} (h : VR σ (tgI k x) u) : u = .int k x := by
 cases h with
 | flat f => cases f
 | iface e _ => exact absurd e noSYM
 | sym s b => exact b.of_flat rfl
theorem held_sem {A : AW} {is il c M : Nat} {fa fb : Nat -> Int} (hM : M <= 1000) (hs : celI A.heap is 0 = some (.slice (some ⟨il, 0, none⟩) (M + 1) c))
  (hl : ∀ i, i <= M -> ∃ s k, celI A.heap il (i * 10 + 9) = some (.slice (some ⟨s, 0, none⟩) 2 k) /\ celI A.heap s 0 = some (tgI .i64 (fa i)) /\ celI A.heap s 1 = some (tgI .i64 (fb i))) :
  FnSem Tryz.prog 19 [.pointer (some ⟨is, 0, none⟩)] A (sc A.next 2) (A.add (.row [.int .i64 (wsum ((dn M (M + 1)).map fun i => fa i.1)), .int .i64 (wsum ((dn M (M + 1)).map fun i => fb i.1))] 3 .own)) := by
 intro σ w args' hR ha
 cases ha with
 | cons a1 t1 =>
 cases t1
 obtain ⟨bs, d1, s1, rfl⟩ := a1.ptr_inv
 have hcell : ∀ {i k : Nat} {u : Value} {b d : Nat}, σ i = some (b, d) -> celI A.heap i k = some u -> ∃ u', w.cell? ⟨b, k, none⟩ = some u' /\ VR σ u u' := fun {i k u b d} hs hu => by
  obtain ⟨c0, e0, m0, hg, hk⟩ := celI_some hu
  obtain ⟨cs, es, fz, hw0, hr, _⟩ := hR.rowA hs hg
  obtain ⟨u', hu', hv'⟩ := hr.get hk
  exact ⟨u', by simp [World.cell?, hw0, hu'], hv'⟩
 obtain ⟨u0, hu0, vu0⟩ := hcell s1 hs
 obtain ⟨bl, dl, sl, rfl⟩ := vu0.slice_inv
 refine serves_row envOK (fn := Tryz.f19) (by kernel_rfl) rfl hR (vrl_refl_flats rfl) ?_
 refine callsIn_wide.1 (held_in Fence.wide 3 trivial trivial trivial rfl (by decide) bs bl (c + dl) M fa fb w hM hu0 fun i hi => ?_)
 obtain ⟨s, k, q1, q2, q3⟩ := hl i hi
 obtain ⟨u1, hu1, vu1⟩ := hcell sl q1
 obtain ⟨b, d, sb, rfl⟩ := vu1.slice_inv
 obtain ⟨u2, hu2, vu2⟩ := hcell sb q2
 obtain ⟨u3, hu3, vu3⟩ := hcell sb q3
 obtain rfl := sym_int vu2
 obtain rfl := sym_int vu3
 exact ⟨b, k + d, hu1, hu2, hu3⟩
theorem wrap64_sm {x : Int} (h : -9223372036854775808 <= x /\ x <= 9223372036854775807) : Go.RowKit.wrap64 x = x := by unfold Go.RowKit.wrap64; omega
def stX (d : Nat) (a : StA) (i : Nat) : Int := nth4 d a.x (nth4 (i + 1) a.a.x a.x 0 0) (nth4 (i + 1) a.a.x a.b.x a.x 0) (nth4 (i + 1) a.a.x a.b.x a.c.x a.x)
def stY (d : Nat) (a : StA) (i : Nat) : Int := nth4 d a.y (nth4 (i + 1) a.a.y a.y 0 0) (nth4 (i + 1) a.a.y a.b.y a.y 0) (nth4 (i + 1) a.a.y a.b.y a.c.y a.y)
theorem wsum1 {x : Int} (h : smQ x) : wsum [x] = x := by
 obtain ⟨h1, h2⟩ := h
 show Go.RowKit.wrap64 (0 + x) = x
 rw [wrap64_sm (by omega)]; omega
theorem wsum2 {x y : Int} (h : smQ x) (h' : smQ y) : wsum [y, x] = x + y := by
 obtain ⟨h1, h2⟩ := h
 obtain ⟨h3, h4⟩ := h'
 show Go.RowKit.wrap64 (Go.RowKit.wrap64 (0 + y) + x) = x + y
 rw [wrap64_sm (x := 0 + y) (by omega), wrap64_sm (by omega)]; omega
theorem wsum3 {x y z : Int} (h : smQ x) (h' : smQ y) (h'' : smQ z) : wsum [z, y, x] = x + y + z := by
 obtain ⟨h1, h2⟩ := h
 obtain ⟨h3, h4⟩ := h'
 obtain ⟨h5, h6⟩ := h''
 show Go.RowKit.wrap64 (Go.RowKit.wrap64 (Go.RowKit.wrap64 (0 + z) + y) + x) = x + y + z
 rw [wrap64_sm (x := 0 + z) (by omega), wrap64_sm (x := 0 + z + y) (by omega), wrap64_sm (by omega)]; omega
theorem wsum4 {x y z t : Int} (h : smQ x) (h' : smQ y) (h'' : smQ z) (h3 : smQ t) : wsum [t, z, y, x] = x + y + z + t := by
 obtain ⟨h1, h2⟩ := h
 obtain ⟨h4, h5⟩ := h'
 obtain ⟨h6, h7⟩ := h''
 obtain ⟨h8, h9⟩ := h3
 show Go.RowKit.wrap64 (Go.RowKit.wrap64 (Go.RowKit.wrap64 (Go.RowKit.wrap64 (0 + t) + z) + y) + x) = x + y + z + t
 rw [wrap64_sm (x := 0 + t) (by omega), wrap64_sm (x := 0 + t + z) (by omega), wrap64_sm (x := 0 + t + z + y) (by omega), wrap64_sm (by omega)]; omega
theorem sums1 (a : StA) (h : allS 1 a) : wsum ((dn 0 1).map fun i => stX 1 a i.1) = sumX 1 a /\ wsum ((dn 0 1).map fun i => stY 1 a i.1) = sumY 1 a := ⟨wsum1 h.1.1, wsum1 h.1.2⟩
theorem sums2 (a : StA) (h : allS 2 a) : wsum ((dn 1 2).map fun i => stX 2 a i.1) = sumX 2 a /\ wsum ((dn 1 2).map fun i => stY 2 a i.1) = sumY 2 a := ⟨wsum2 h.2.1 h.1.1, wsum2 h.2.2 h.1.2⟩
theorem sums3 (a : StA) (h : allS 3 a) : wsum ((dn 2 3).map fun i => stX 3 a i.1) = sumX 3 a /\ wsum ((dn 2 3).map fun i => stY 3 a i.1) = sumY 3 a := ⟨wsum3 h.2.1.1 h.2.2.1 h.1.1, wsum3 h.2.1.2 h.2.2.2 h.1.2⟩
theorem sums4 (a : StA) (h : allS 4 a) : wsum ((dn 3 4).map fun i => stX 4 a i.1) = sumX 4 a /\ wsum ((dn 3 4).map fun i => stY 4 a i.1) = sumY 4 a := ⟨wsum4 h.2.1.1 h.2.2.1.1 h.2.2.2.1 h.1.1, wsum4 h.2.1.2 h.2.2.1.2 h.2.2.2.2 h.1.2⟩
abbrev QYh1P_2 (a0 : PoA) : Prop := 0 = 0 /\ Z2 /\ Z2 /\ Z2 /\ Z1 a0.4 /\ Z1 a0.5 /\ Z1 a0.6 /\ Z1 a0.7 /\ Z1 a0.8 /\ (0 = 0 /\
 2 = 2 /\ 2 = 2) /\ True
abbrev QYh1P_1 (a0 : Int) (a1 : Int) (a2 : Int) (a3 : Int) (a4 : Int) (a5 : PoA) : Prop := 0 = 0 /\ Z2 /\ Z2 /\ Z2 /\ Z1
 a0 /\ Z1 a1 /\ Z1 a2 /\ Z1 a3 /\ Z1 a4 /\ Z2 /\ QYh1P_2 a5
theorem vc_he1 (a : StA) : G_he1 a = (Z2 /\ (True /\ (0 = 0 /\ 1 = 1 /\ 1 = 1) /\ True) /\ (1 = 1 /\ QYh1P_2 a.5) /\ (2 = 2 /\ Z1 a.6 /\ Z1 a.7 /\ True) /\ (True /\ Z1 a.6 /\ Z1 a.7 /\ True) /\ True) := by kernel_rfl
theorem g_he1 (a : StA) : G_he1 a := by
 rw [vc_he1]
 (and_intros<;>first|trivial|rfl)
theorem he_st1 (a : StA) : celI (mem ((S_held 1).R a) (popN 1)).heap 12 0 = some (.slice (some ⟨12 + 1, 0, none⟩) (0 + 1) 1) := by kernel_rfl
theorem he_l10 (a : StA) : celI (mem ((S_held 1).R a) (popN 1)).heap (12 + 1) (0 * 10 + 9) = some (.slice (some ⟨12 + 17, 0, none⟩) 2 2) /\ celI (mem ((S_held 1).R a) (popN 1)).heap (12 + 17) 0 = some (tgI .i64 (stX 1 a 0)) /\ celI (mem ((S_held 1).R a) (popN 1)).heap (12 + 17) 1 = some (tgI .i64 (stY 1 a 0)) := ⟨by kernel_rfl, by kernel_rfl, by kernel_rfl⟩
theorem s_held1 : SpecOK Tryz.prog (S_held 1).spec := fun a K hp hq => by
 have h := held_sem (A := mem ((S_held 1).R a) (popN 1)) (is := 12) (il := 12 + 1) (M := 0) (fa := stX 1 a) (fb := stY 1 a) (by decide) (he_st1 a) (fun i hi => by
  match i, hi with
  | 0, _ => exact ⟨_, _, he_l10 a⟩
  | (n + 1), hi => exact absurd hi (by omega))
 rw [(sums1 a hp).1, (sums1 a hp).2] at h
 have hs := g_he1 a
 unfold G_he1 at hs
 have hw := hs
 unfold seenW at hw
 exact ⟨_, _, _, hq.1 () trivial, flatR_rows (cpb_iff.1 hw).2.2, fnSem_seen (A := mem ((S_held 1).R a) (popN 1)) rfl h hs⟩
theorem vc_he2 (a : StA) : G_he2 a = (Z2 /\ (True /\ Z2 /\ True) /\ (2 = 2 /\ QYh1P_1 a.1.1 a.1.2 a.1.3 a.1.4 a.1.5 a.5) /\ (2 = 2 /\ Z1 a.1.6 /\ Z1 a.1.7 /\ True) /\ (2 = 2 /\ Z1 a.6 /\
Z1 a.7 /\ True) /\ (True /\ a.1.6 + a.6 = a.1.6 + a.6 /\ a.1.7 + a.7 = a.1.7 + a.7 /\ True) /\ True) := by kernel_rfl
theorem g_he2 (a : StA) : G_he2 a := by
 rw [vc_he2]
 (and_intros<;>first|trivial|rfl)
theorem he_st2 (a : StA) : celI (mem ((S_held 2).R a) (popN 2)).heap 12 0 = some (.slice (some ⟨12 + 1, 0, none⟩) (1 + 1) 2) := by kernel_rfl
theorem he_l20 (a : StA) : celI (mem ((S_held 2).R a) (popN 2)).heap (12 + 1) (0 * 10 + 9) = some (.slice (some ⟨12 + 17, 0, none⟩) 2 2) /\ celI (mem ((S_held 2).R a) (popN 2)).heap (12 + 17) 0 = some (tgI .i64 (stX 2 a 0)) /\ celI (mem ((S_held 2).R a) (popN 2)).heap (12 + 17) 1 = some (tgI .i64 (stY 2 a 0)) := ⟨by kernel_rfl, by kernel_rfl, by kernel_rfl⟩
theorem he_l21 (a : StA) : celI (mem ((S_held 2).R a) (popN 2)).heap (12 + 1) (1 * 10 + 9) = some (.slice (some ⟨12 + 33, 0, none⟩) 2 2) /\ celI (mem ((S_held 2).R a) (popN 2)).heap (12 + 33) 0 = some (tgI .i64 (stX 2 a 1)) /\ celI (mem ((S_held 2).R a) (popN 2)).heap (12 + 33) 1 = some (tgI .i64 (stY 2 a 1)) := ⟨by kernel_rfl, by kernel_rfl, by kernel_rfl⟩
theorem s_held2 : SpecOK Tryz.prog (S_held 2).spec := fun a K hp hq => by
 have h := held_sem (A := mem ((S_held 2).R a) (popN 2)) (is := 12) (il := 12 + 1) (M := 1) (fa := stX 2 a) (fb := stY 2 a) (by decide) (he_st2 a) (fun i hi => by
  match i, hi with
  | 0, _ => exact ⟨_, _, he_l20 a⟩
  | 1, _ => exact ⟨_, _, he_l21 a⟩
  | (n + 2), hi => exact absurd hi (by omega))
 rw [(sums2 a hp).1, (sums2 a hp).2] at h
 have hs := g_he2 a
 unfold G_he2 at hs
 have hw := hs
 unfold seenW at hw
 exact ⟨_, _, _, hq.1 () trivial, flatR_rows (cpb_iff.1 hw).2.2, fnSem_seen (A := mem ((S_held 2).R a) (popN 2)) rfl h hs⟩
theorem vc_he3 (a : StA) : G_he3 a = (Z2 /\ (True /\ (0 = 0 /\ 3 = 3 /\ 3 = 3) /\ True) /\ (3 = 3 /\ 0 = 0 /\ Z2 /\ Z2 /\ Z2 /\ Z1 a.1.1 /\ Z1
a.1.2 /\ Z1 a.1.3 /\ Z1 a.1.4 /\ Z1 a.1.5 /\ Z2 /\ QYh1P_1 a.2.1 a.2.2 a.2.3 a.2.4 a.2.5 a.5) /\ (2 = 2 /\ Z1 a.1.6 /\ Z1 a.1.7 /\ True) /\ (2 = 2 /\ Z1 a.2.6 /\ Z1 a.2.7
/\ True) /\ (2 = 2 /\ Z1 a.6 /\ Z1 a.7 /\ True) /\ (True /\ a.1.6 + a.2.6 + a.6 = a.1.6 + a.2.6 + a.6 /\ a.1.7 + a.2.7 + a.7 = a.1.7 + a.2.7 + a.7 /\ True) /\ True) := by kernel_rfl
theorem g_he3 (a : StA) : G_he3 a := by
 rw [vc_he3]
 (and_intros<;>first|trivial|rfl)
theorem he_st3 (a : StA) : celI (mem ((S_held 3).R a) (popN 3)).heap 12 0 = some (.slice (some ⟨12 + 1, 0, none⟩) (2 + 1) 3) := by kernel_rfl
theorem he_l30 (a : StA) : celI (mem ((S_held 3).R a) (popN 3)).heap (12 + 1) (0 * 10 + 9) = some (.slice (some ⟨12 + 17, 0, none⟩) 2 2) /\ celI (mem ((S_held 3).R a) (popN 3)).heap (12 + 17) 0 = some (tgI .i64 (stX 3 a 0)) /\ celI (mem ((S_held 3).R a) (popN 3)).heap (12 + 17) 1 = some (tgI .i64 (stY 3 a 0)) := ⟨by kernel_rfl, by kernel_rfl, by kernel_rfl⟩
theorem he_l31 (a : StA) : celI (mem ((S_held 3).R a) (popN 3)).heap (12 + 1) (1 * 10 + 9) = some (.slice (some ⟨12 + 33, 0, none⟩) 2 2) /\ celI (mem ((S_held 3).R a) (popN 3)).heap (12 + 33) 0 = some (tgI .i64 (stX 3 a 1)) /\ celI (mem ((S_held 3).R a) (popN 3)).heap (12 + 33) 1 = some (tgI .i64 (stY 3 a 1)) := ⟨by kernel_rfl, by kernel_rfl, by kernel_rfl⟩
theorem he_l32 (a : StA) : celI (mem ((S_held 3).R a) (popN 3)).heap (12 + 1) (2 * 10 + 9) = some (.slice (some ⟨12 + 49, 0, none⟩) 2 2) /\ celI (mem ((S_held 3).R a) (popN 3)).heap (12 + 49) 0 = some (tgI .i64 (stX 3 a 2)) /\ celI (mem ((S_held 3).R a) (popN 3)).heap (12 + 49) 1 = some (tgI .i64 (stY 3 a 2)) := ⟨by kernel_rfl, by kernel_rfl, by kernel_rfl⟩
theorem s_held3 : SpecOK Tryz.prog (S_held 3).spec := fun a K hp hq => by
 have h := held_sem (A := mem ((S_held 3).R a) (popN 3)) (is := 12) (il := 12 + 1) (M := 2) (fa := stX 3 a) (fb := stY 3 a) (by decide) (he_st3 a) (fun i hi => by
  match i, hi with
  | 0, _ => exact ⟨_, _, he_l30 a⟩
  | 1, _ => exact ⟨_, _, he_l31 a⟩
  | 2, _ => exact ⟨_, _, he_l32 a⟩
  | (n + 3), hi => exact absurd hi (by omega))
 rw [(sums3 a hp).1, (sums3 a hp).2] at h
 have hs := g_he3 a
 unfold G_he3 at hs
 have hw := hs
 unfold seenW at hw
 exact ⟨_, _, _, hq.1 () trivial, flatR_rows (cpb_iff.1 hw).2.2, fnSem_seen (A := mem ((S_held 3).R a) (popN 3)) rfl h hs⟩
theorem vc_he4 (a : StA) : G_he4 a = (Z2 /\ (True /\ (0 = 0 /\ 4 = 4 /\ 4 = 4) /\ True) /\ (4 = 4 /\ 0 = 0 /\ Z2 /\ Z2 /\ Z2 /\ Z1 a.1.1 /\ Z1
a.1.2 /\ Z1 a.1.3 /\ Z1 a.1.4 /\ Z1 a.1.5 /\ Z2 /\ 0 = 0 /\ Z2 /\ Z2 /\ Z2 /\ Z1 a.2.1 /\ Z1 a.2.2 /\ Z1
a.2.3 /\ Z1 a.2.4 /\ Z1 a.2.5 /\ Z2 /\ QYh1P_1 a.3.1 a.3.2 a.3.3 a.3.4 a.3.5 a.5) /\ (2 = 2 /\ Z1 a.1.6 /\ Z1 a.1.7 /\ True) /\ (2 = 2 /\ Z1 a.2.6 /\ Z1 a.2.7 /\ True) /\
(2 = 2 /\ Z1 a.3.6 /\ Z1 a.3.7 /\ True) /\ (2 = 2 /\ Z1 a.6 /\ Z1 a.7 /\ True) /\ (True /\ a.1.6 + a.2.6 + a.3.6 + a.6 = a.1.6 + a.2.6 + a.3.6 + a.6 /\ a.1.7 + a.2.7 + a.3.7 + a.7 = a.1.7 +
a.2.7 + a.3.7 + a.7 /\ True) /\ True) := by kernel_rfl
theorem g_he4 (a : StA) : G_he4 a := by
 rw [vc_he4]
 (and_intros<;>first|trivial|rfl)
theorem he_st4 (a : StA) : celI (mem ((S_held 4).R a) (popN 4)).heap 12 0 = some (.slice (some ⟨12 + 1, 0, none⟩) (3 + 1) 4) := by kernel_rfl
theorem he_l40 (a : StA) : celI (mem ((S_held 4).R a) (popN 4)).heap (12 + 1) (0 * 10 + 9) = some (.slice (some ⟨12 + 17, 0, none⟩) 2 2) /\ celI (mem ((S_held 4).R a) (popN 4)).heap (12 + 17) 0 = some (tgI .i64 (stX 4 a 0)) /\ celI (mem ((S_held 4).R a) (popN 4)).heap (12 + 17) 1 = some (tgI .i64 (stY 4 a 0)) := ⟨by kernel_rfl, by kernel_rfl, by kernel_rfl⟩
theorem he_l41 (a : StA) : celI (mem ((S_held 4).R a) (popN 4)).heap (12 + 1) (1 * 10 + 9) = some (.slice (some ⟨12 + 33, 0, none⟩) 2 2) /\ celI (mem ((S_held 4).R a) (popN 4)).heap (12 + 33) 0 = some (tgI .i64 (stX 4 a 1)) /\ celI (mem ((S_held 4).R a) (popN 4)).heap (12 + 33) 1 = some (tgI .i64 (stY 4 a 1)) := ⟨by kernel_rfl, by kernel_rfl, by kernel_rfl⟩
theorem he_l42 (a : StA) : celI (mem ((S_held 4).R a) (popN 4)).heap (12 + 1) (2 * 10 + 9) = some (.slice (some ⟨12 + 49, 0, none⟩) 2 2) /\ celI (mem ((S_held 4).R a) (popN 4)).heap (12 + 49) 0 = some (tgI .i64 (stX 4 a 2)) /\ celI (mem ((S_held 4).R a) (popN 4)).heap (12 + 49) 1 = some (tgI .i64 (stY 4 a 2)) := ⟨by kernel_rfl, by kernel_rfl, by kernel_rfl⟩
theorem he_l43 (a : StA) : celI (mem ((S_held 4).R a) (popN 4)).heap (12 + 1) (3 * 10 + 9) = some (.slice (some ⟨12 + 65, 0, none⟩) 2 2) /\ celI (mem ((S_held 4).R a) (popN 4)).heap (12 + 65) 0 = some (tgI .i64 (stX 4 a 3)) /\ celI (mem ((S_held 4).R a) (popN 4)).heap (12 + 65) 1 = some (tgI .i64 (stY 4 a 3)) := ⟨by kernel_rfl, by kernel_rfl, by kernel_rfl⟩
theorem s_held4 : SpecOK Tryz.prog (S_held 4).spec := fun a K hp hq => by
 have h := held_sem (A := mem ((S_held 4).R a) (popN 4)) (is := 12) (il := 12 + 1) (M := 3) (fa := stX 4 a) (fb := stY 4 a) (by decide) (he_st4 a) (fun i hi => by
  match i, hi with
  | 0, _ => exact ⟨_, _, he_l40 a⟩
  | 1, _ => exact ⟨_, _, he_l41 a⟩
  | 2, _ => exact ⟨_, _, he_l42 a⟩
  | 3, _ => exact ⟨_, _, he_l43 a⟩
  | (n + 4), hi => exact absurd hi (by omega))
 rw [(sums4 a hp).1, (sums4 a hp).2] at h
 have hs := g_he4 a
 unfold G_he4 at hs
 have hw := hs
 unfold seenW at hw
 exact ⟨_, _, _, hq.1 () trivial, flatR_rows (cpb_iff.1 hw).2.2, fnSem_seen (A := mem ((S_held 4).R a) (popN 4)) rfl h hs⟩
end Go.Proofs.YtfkacmmcgncooaaGreatDoor
end

/- Tables within tables: what one table gives (what is to be shown). -/
section
set_option maxRecDepth 100000
namespace Go.Proofs.YtfkacmmcgncooaaGreatDoor
open Go.Ev
-- keep Go.Proofs.Tryz.prog turnG isG isGx smQ payR rightQ cells2
structure GvA where
 g : RuA
 p : PoA
 x : Int
 y : Int
def bigQ (n : Int) : Prop := 0 <= n /\ n <= 100000000
def givR (g : RuA) (p : PoA) (x y u v : Int) : Prop := ∃ k j, isG g p k j /\ ((0 <= turnG k j /\ u = x /\ v = y) ∨ (turnG k j < 0 /\ payR k j (x + y) u v))
set_option linter.unusedSectionVars false
variable [Go.Ev.Frozen Tryz.prog]
noncomputable section
def ukN (n : Nat) : List Value := Nat.rec [] (fun _ ih => unk :: ih) n
def gvC (p : PoA) : List Value := [.pointer (some ⟨12 + 1, 0, none⟩), sc (12 + 13) 2, sc (12 + 14) 2, sc (12 + 15) 2, tgI .i64 p.r0, tgI .i64 p.r1, tgI .i64 p.r2, tgI .i64 p.r3, tgI .u64 p.r4, unk]
def S_gives (i : Nat) : SpecD where
 f := 62
 α := GvA
 args _ := [.pointer (some ⟨12, 10 * i, none⟩), sc (12 + 16) 2]
 R a := (12, .p (.row (ukN (10 * i) ++ gvC a.p) 83 .gro)) :: (12 + 16, .p (.row [tgI .i64 a.x, tgI .i64 a.y] 3 .gro)) :: (ruR a.g (12 + 1) ++ (poR a.p (12 + 13) ++ [(2, .f cells2 356 .ro)]))
 n := 12 + 17
 pre a := isGx a.g a.p /\ bigQ a.x /\ bigQ a.y
 outs := [⟨Unit, fun a _ => ∃ k j, isG a.g a.p k j /\ 0 <= turnG k j, fun _ _ => sc (12 + 16) 2, fun _ _ => [], fun _ _ => 12 + 17, fun _ _ => []⟩,
  ⟨XyB, fun a b => ∃ k j, isG a.g a.p k j /\ turnG k j < 0 /\ payR k j (a.x + a.y) b.x b.y, fun _ _ => sc (12 + 17) 2, fun _ b => [(12 + 17, .p (.row [tgI .i64 b.x, tgI .i64 b.y] 3 (.grown 2)))], fun _ _ => 12 + 18, fun v _ => renS (12 + 17) v⟩]
 pick v _ := Bool.rec 1 0 (Nat.beq (blI v) (12 + 16))
 find l A := match lv l 0 with
  | .pointer (some ⟨j, o, _⟩) => rowK A j fun c => ruK A (12 + 1) (lv c o) fun g q => poK A (12 + 13) (c.drop (Nat.add o 1)) fun p r => blK (lv l 1) fun b => rowK A b fun t => wI (lv t 0) fun x => wI (lv t 1) fun y => some (⟨g, p, x, y⟩, (12, j) :: (12 + 16, b) :: (q ++ r))
  | _ => none
def cwGv : CW := cwX (fun c => cwD Tryz.prog S_gturn (cwD Tryz.prog S_gpays c)) 3
def G_gv0 (a : GvA) : Prop := fnW Tryz.prog E0 cwGv [] (S_gives 0).f ((S_gives 0).args a) (mem ((S_gives 0).R a) (S_gives 0).n) (endD Tryz.prog (S_gives 0) a)
def G_gv1 (a : GvA) : Prop := fnW Tryz.prog E0 cwGv [] (S_gives 1).f ((S_gives 1).args a) (mem ((S_gives 1).R a) (S_gives 1).n) (endD Tryz.prog (S_gives 1) a)
def G_gv2 (a : GvA) : Prop := fnW Tryz.prog E0 cwGv [] (S_gives 2).f ((S_gives 2).args a) (mem ((S_gives 2).R a) (S_gives 2).n) (endD Tryz.prog (S_gives 2) a)
def G_gv3 (a : GvA) : Prop := fnW Tryz.prog E0 cwGv [] (S_gives 3).f ((S_gives 3).args a) (mem ((S_gives 3).R a) (S_gives 3).n) (endD Tryz.prog (S_gives 3) a)
structure PyA where
 a : GvA
 b : GvA
 c : GvA
 e : GvA
structure PgA where
 t : PyA
 x : Int
 y : Int
def pvL (b : Nat) (v : GvA) : LvV := loV b (v.p.ou v.x v.y)
def plL (d : Nat) (a : PyA) : List LvV := nth4 d [pvL (12 + 2) a.a] [pvL (12 + 2) a.a, pvL (12 + 18) a.b] [pvL (12 + 2) a.a, pvL (12 + 18) a.b, pvL (12 + 34) a.c] [pvL (12 + 2) a.a, pvL (12 + 18) a.b, pvL (12 + 34) a.c, pvL (12 + 50) a.e]
def grS (l : List LvV) : List (Nat × PO) := List.rec [] (fun v _ ih => (v.s, .p (.row [tgI .i64 v.o.x, tgI .i64 v.o.y] 3 .gro)) :: ih) l
def rpR (b : Nat) (v : GvA) : List (Nat × PO) := ruR v.g b ++ poR v.p (b + 12)
def pyG (d : Nat) (a : PyA) : List (Nat × PO) := nth4 d (rpR (12 + 2) a.a) (rpR (12 + 2) a.a ++ rpR (12 + 18) a.b) (rpR (12 + 2) a.a ++ (rpR (12 + 18) a.b ++ rpR (12 + 34) a.c)) (rpR (12 + 2) a.a ++ (rpR (12 + 18) a.b ++ (rpR (12 + 34) a.c ++ rpR (12 + 50) a.e)))
def pyR (d : Nat) (a : PyA) : List (Nat × PO) := (12, .p (.row [sc (12 + 1) d] 81 .gro)) :: (12 + 1, .p (.row (lvsC (plL d a)) 83 .gro)) :: (grS (plL d a) ++ (pyG d a ++ [(2, .f cells2 356 .ro)]))
def pyI (i : Nat) (a : PyA) : GvA := nth4 (i + 1) a.a a.b a.c a.e
def S_pgv (d i : Nat) : SpecD where
 f := 62
 α := PgA
 args _ := [.pointer (some ⟨12 + 1, 10 * i, none⟩), sc (popN d) 2]
 R a := (popN d, .p (.row [tgI .i64 a.x, tgI .i64 a.y] 3 .gro)) :: pyR d a.t
 n := popN d + 1
 pre a := isGx (pyI i a.t).g (pyI i a.t).p /\ bigQ a.x /\ bigQ a.y
 outs := [⟨Unit, fun a _ => ∃ k j, isG (pyI i a.t).g (pyI i a.t).p k j /\ 0 <= turnG k j, fun _ _ => sc (popN d) 2, fun _ _ => [], fun _ _ => popN d + 1, fun _ _ => []⟩,
  ⟨XyB, fun a b => ∃ k j, isG (pyI i a.t).g (pyI i a.t).p k j /\ turnG k j < 0 /\ payR k j (a.x + a.y) b.x b.y, fun _ _ => sc (popN d + 1) 2, fun _ b => [(popN d + 1, .p (.row [tgI .i64 b.x, tgI .i64 b.y] 3 (.grown 2)))], fun _ _ => popN d + 2, fun v _ => renS (popN d + 1) v⟩]
 pick v _ := Bool.rec 1 0 (Nat.beq (blI v) (popN d))
 find _ _ := none
def G_pg10 (a : PgA) : Prop := callD Tryz.prog (S_gives 0) (fun _ => True) ((S_pgv 1 0).args a) (mem ((S_pgv 1 0).R a) (S_pgv 1 0).n) (endD Tryz.prog (S_pgv 1 0) a)
def G_pg20 (a : PgA) : Prop := callD Tryz.prog (S_gives 0) (fun _ => True) ((S_pgv 2 0).args a) (mem ((S_pgv 2 0).R a) (S_pgv 2 0).n) (endD Tryz.prog (S_pgv 2 0) a)
def G_pg21 (a : PgA) : Prop := callD Tryz.prog (S_gives 1) (fun _ => True) ((S_pgv 2 1).args a) (mem ((S_pgv 2 1).R a) (S_pgv 2 1).n) (endD Tryz.prog (S_pgv 2 1) a)
def G_pg30 (a : PgA) : Prop := callD Tryz.prog (S_gives 0) (fun _ => True) ((S_pgv 3 0).args a) (mem ((S_pgv 3 0).R a) (S_pgv 3 0).n) (endD Tryz.prog (S_pgv 3 0) a)
def G_pg31 (a : PgA) : Prop := callD Tryz.prog (S_gives 1) (fun _ => True) ((S_pgv 3 1).args a) (mem ((S_pgv 3 1).R a) (S_pgv 3 1).n) (endD Tryz.prog (S_pgv 3 1) a)
def G_pg32 (a : PgA) : Prop := callD Tryz.prog (S_gives 2) (fun _ => True) ((S_pgv 3 2).args a) (mem ((S_pgv 3 2).R a) (S_pgv 3 2).n) (endD Tryz.prog (S_pgv 3 2) a)
def G_pg40 (a : PgA) : Prop := callD Tryz.prog (S_gives 0) (fun _ => True) ((S_pgv 4 0).args a) (mem ((S_pgv 4 0).R a) (S_pgv 4 0).n) (endD Tryz.prog (S_pgv 4 0) a)
def G_pg41 (a : PgA) : Prop := callD Tryz.prog (S_gives 1) (fun _ => True) ((S_pgv 4 1).args a) (mem ((S_pgv 4 1).R a) (S_pgv 4 1).n) (endD Tryz.prog (S_pgv 4 1) a)
def G_pg42 (a : PgA) : Prop := callD Tryz.prog (S_gives 2) (fun _ => True) ((S_pgv 4 2).args a) (mem ((S_pgv 4 2).R a) (S_pgv 4 2).n) (endD Tryz.prog (S_pgv 4 2) a)
def G_pg43 (a : PgA) : Prop := callD Tryz.prog (S_gives 3) (fun _ => True) ((S_pgv 4 3).args a) (mem ((S_pgv 4 3).R a) (S_pgv 4 3).n) (endD Tryz.prog (S_pgv 4 3) a)
end
end Go.Proofs.YtfkacmmcgncooaaGreatDoor
end

/- Tables within tables: what one table gives is as is told. -/
section
set_option maxRecDepth 100000
namespace Go.Proofs.YtfkacmmcgncooaaGreatDoor
open Go.Ev
set_option linter.unusedSectionVars false
variable [Go.Ev.Frozen Tryz.prog]
noncomputable section
def W_G_gv0_0 : GvA -> Option AO := fun (a : GvA) => some (AO.row ([] ++ [Zp 13 0, sc 25 2, sc 26 2, sc 27 2, tgI .i64 a.2.4, tgI .i64 a.2.5, tgI .i64 a.2.6, tgI .i64 a.2.7, tgI
 .u64 a.2.8, unk]) 83 Md.gro)
def W_G_gv1_0 : GvA -> Option AO := fun (a : GvA) => some (AO.row ([unk, unk, unk, unk, unk, unk, unk, unk, unk, unk] ++ [Zp 13 0, sc 25 2, sc 26 2, sc 27 2, tgI .i64 a.2.4, tgI
 .i64 a.2.5, tgI .i64 a.2.6, tgI .i64 a.2.7, tgI .u64 a.2.8, unk]) 83 Md.gro)
def W_G_gv2_0 : GvA -> Option AO := fun (a : GvA) => some (AO.row ([unk, unk, unk, unk, unk, unk, unk, unk, unk, unk, unk, unk, unk, unk, unk, unk, unk, unk, unk, unk] ++ [Zp 13 0,
 sc 25 2, sc 26 2, sc 27 2, tgI .i64 a.2.4, tgI .i64 a.2.5, tgI .i64 a.2.6, tgI .i64 a.2.7, tgI .u64 a.2.8, unk]) 83 Md.gro)
def W_G_gv3_0 : GvA -> Option AO := fun (a : GvA) => some (AO.row ([unk, unk, unk, unk, unk, unk, unk, unk, unk, unk, unk, unk, unk, unk, unk, unk, unk, unk, unk, unk, unk, unk,
 unk, unk, unk, unk, unk, unk, unk, unk] ++ [Zp 13 0, sc 25 2, sc 26 2, sc 27 2, tgI .i64 a.2.4, tgI .i64 a.2.5, tgI .i64 a.2.6, tgI .i64 a.2.7, tgI .u64 a.2.8, unk]) 83 Md.gro)
end
theorem cwGv_ok : CwOK Tryz.prog cwGv := cwX_ok (fun _ h => cwD_ok s_gturn (cwD_ok s_gpays h)) 3
set_option maxHeartbeats 3200000 in
abbrev QYq1P_1 (a0 : GvA) : Prop := (True /\ True /\ Z2 /\ Z1 a0.1.19.1 /\ Z1 a0.1.19.2 /\ Z1 a0.1.19.3 /\ Z1 a0.1.19.4 /\ Z1 a0.1.19.5 /\ Z1 a0.1.19.6 /\ Z1 a0.1.19.7
 /\ Z1 a0.1.19.8 /\ 0 = 0 /\ (0 = 0 /\ 1 = 1 /\ 1 = 1) /\ Z2 /\ True) /\ (True /\ FlatL [Value.int .i64 1, Value.int .i64 1] /\ [Value.int .i64 1, Value.int .i64 1] =
 [Value.int .i64 1, Value.int .i64 1]) /\ (True /\ (2 : Int) = 2 /\ (2 : Int) = 2 /\ Z2 /\ (0 = 0 /\ 1 = 1 /\ 1 = 1) /\ (0 = 0 /\ Z1 a0.1.1 /\ Z1 a0.1.1) /\ (0 = 0 /\ Z1
 a0.1.2 /\ Z1 a0.1.2) /\ (0 = 0 /\ Z1 a0.1.3 /\ Z1 a0.1.3) /\ (0 = 0 /\ Z1 a0.1.4 /\ Z1 a0.1.4) /\ (0 = 0 /\ Z1 a0.1.5 /\ Z1 a0.1.5) /\ Z1 a0.1.6 /\ Z1 a0.1.7 /\ Z1 a0.1.8 /\ Z1 a0.1.9 /\ Z1
 a0.1.10 /\ True) /\ (True /\ FlatL [Value.int .i32 0, Value.int .i32 0] /\ [Value.int .i32 0, Value.int .i32 0] = [Value.int .i32 0, Value.int .i32 0]) /\ ZF a0.1.11 /\ ZF a0.1.12 /\ ZF
 a0.1.13 /\ ZF a0.1.14 /\ ZF a0.1.15 /\ ZF a0.1.16 /\ ZF a0.1.17 /\ ZF a0.1.18 /\ ZF a0.2.1 /\ ZF a0.2.2 /\ ZF a0.2.3 /\ ZF cells2 /\ True
abbrev QYq1P_2 (a0 : RuA) (a1 : PoA) (a2 : Int) (a3 : Int) : Prop := (∀ (_ : Unit), (∃ (b1 b2 : Nat), isG a0 a1 b1 b2 /\ (0 : Int) <= turnG b1 b2) -> ∃ (_ : Unit), (∃ (b2 b3 : Nat),
 isG a0 a1 b2 b3 /\ (0 : Int) <= turnG b2 b3) /\ Z2 /\ True) /\ (∀ (b0 : XyB), (∃ (b1 b2 : Nat), isG a0 a1 b1 b2 /\ turnG b1 b2 < (0 : Int) /\ payR b1 b2 (a2 + a3)
 b0.1 b0.2) -> ∃ (b1 : XyB), (∃ (b2 b3 : Nat), isG a0 a1 b2 b3 /\ turnG b2 b3 < (0 : Int) /\ payR b2 b3 (a2 + a3) b1.1 b1.2) /\ Z2 /\ (2 = 2 /\ b1.1 = b0.1 /\ b1.2 =
 b0.2 /\ True) /\ True) /\ True
abbrev QYq1P_3 (a0 : PoA) : Prop := True /\ 0 = 0 /\ Z2 /\ Z2 /\ Z2 /\ Z1 a0.4 /\ Z1 a0.5 /\ Z1 a0.6 /\ Z1 a0.7 /\ Z1 a0.8 /\
 True /\ True
abbrev QYq1P_4 (a0 : PoA) : Prop := Z2 /\ Z2 /\ Z2 /\ Z1 a0.4 /\ Z1 a0.5 /\ Z1 a0.6 /\ Z1 a0.7 /\ Z1 a0.8 /\ True
theorem vc_gv0 (a : GvA) : G_gv0 a = ((True /\ (∃ (q r : Nat), isG a.1 a.2 q r)) /\ ((0 = 0 /\ QYq1P_4 a.2 /\ True) /\ QYq1P_1 a) /\ (∀ (e : TnB), (∃ (h i : Nat), isG a.1 a.2 h i /\ e.1 = turnG h i) -> (e.1 < 0 ->
(True /\ True /\ True /\ True /\ True /\ True /\ True /\ True /\ True /\ True /\ True /\ True) /\ (∀ (j : Int), j = IntKind.wrap .i64 ((0 : Int) + a.3) -> ∀ (b : Int), b = IntKind.wrap .i64
(j + a.4) -> (True /\ (∃ (k l : Nat), isG a.1 a.2 k l /\ turnG k l < (0 : Int)) /\ rightQ b) /\ ((0 = 0 /\ QYq1P_4 a.2 /\ b = b /\ True) /\ QYq1P_1 a) /\ (∀ (c : XyB), (∃ (m n
: Nat), isG a.1 a.2 m n /\ payR m n b c.1 c.2) -> ((True /\ True) /\ (True /\ True) /\ (True /\ True) /\ (W_G_gv0_0 a = W_G_gv0_0 a /\ True) /\ (True /\ True) /\ (True /\ True) /\
(True /\ True) /\ (W_G_gv0_0 a = W_G_gv0_0 a /\ True) /\ True /\ True /\ True /\ True /\ True /\ True /\ True /\ True /\ True) /\ ∃ (d : XyB), (∃ (f g : Nat), isG a.1 a.2 f g /\ turnG
f g < (0 : Int) /\ payR f g (a.3 + a.4) d.1 d.2) /\ Z2 /\ (2 = 2 /\ d.1 = c.1 /\ d.2 = c.2 /\ True) /\ True) /\ True)) /\ (¬(e.1 < 0) -> (True /\ True
/\ True /\ True /\ True /\ True /\ True /\ True /\ True /\ True /\ True /\ True) /\ ∃ (_ : Unit), (∃ (o p : Nat), isG a.1 a.2 o p /\ (0 : Int) <= turnG o p) /\ (0 = 0 /\ 2 = 2 /\ 2 =
2) /\ True)) /\ True) := by kernel_rfl
theorem g_gv0 (a : GvA) (hp : isGx a.g a.p) (hx : bigQ a.x) (hy : bigQ a.y) : GW (G_gv0 a) := by
 obtain ⟨k, j, hi⟩ := hp
 obtain ⟨x1, x2⟩ := hx
 obtain ⟨y1, y2⟩ := hy
 obtain ⟨f1, f2, f3, f4, f5, f6, f7, f8, f9, f10, f11⟩ := flG_of hi
 have f12 := fl11
 have f13 := fl00
 have f14 := glO
 refine ⟨?_⟩
 rw [vc_gv0]
 (repeat(apply And.intro;focus(and_intros<;>first|trivial|rfl)))
 refine ⟨⟨trivial, k, j, hi⟩, by (and_intros<;>first|trivial|rfl), fun t ht => ?_, trivial⟩
 obtain ⟨k', j', hi', ht⟩ := ht
 obtain ⟨rfl, rfl⟩ := isG_inj hi hi'
 refine ⟨fun h0 => ?_, fun h0 => ?_⟩
 ·(repeat(apply And.intro;focus(and_intros<;>first|trivial|rfl)))
  intro x5 e5 x6 e6
  rw [wr64 (by omega)] at e5 e6
  (repeat(apply And.intro;focus(and_intros<;>first|trivial|rfl)))
  refine ⟨⟨trivial, ⟨k, j, hi, by omega⟩, by unfold rightQ; omega⟩, by (and_intros<;>first|trivial|rfl), fun b hb => ?_, trivial⟩
  obtain ⟨k', j', hi', hb⟩ := hb
  obtain ⟨rfl, rfl⟩ := isG_inj hi hi'
  have e6' : x6 = a.x + a.y := by omega
  rw [e6'] at hb
  (repeat(apply And.intro;focus(and_intros<;>first|trivial|rfl)))
  refine ⟨b, ⟨k, j, hi, by omega, hb⟩, ?_⟩
  (and_intros<;>first|trivial|rfl)
 ·(repeat(apply And.intro;focus(and_intros<;>first|trivial|rfl)))
  refine ⟨(), ⟨k, j, hi, by omega⟩, ?_⟩
  (and_intros<;>first|trivial|rfl)
theorem s_gives0 : SpecOK Tryz.prog (S_gives 0).spec := fun a => specG_at (S := S_gives 0) (an := []) envOK cwGv_ok fun hp => g_gv0 a hp.1 hp.2.1 hp.2.2
set_option maxHeartbeats 3200000 in
theorem vc_gv1 (a : GvA) : G_gv1 a = ((True /\ (∃ (q r : Nat), isG a.1 a.2 q r)) /\ ((0 = 0 /\ QYq1P_4 a.2 /\ True) /\ QYq1P_1 a) /\ (∀ (e : TnB), (∃ (h i : Nat), isG a.1 a.2 h i /\ e.1 = turnG h i) -> (e.1 < 0 ->
(True /\ True /\ True /\ True /\ True /\ True /\ True /\ True /\ True /\ True /\ True /\ True) /\ (∀ (j : Int), j = IntKind.wrap .i64 ((0 : Int) + a.3) -> ∀ (b : Int), b = IntKind.wrap .i64
(j + a.4) -> (True /\ (∃ (k l : Nat), isG a.1 a.2 k l /\ turnG k l < (0 : Int)) /\ rightQ b) /\ ((0 = 0 /\ QYq1P_4 a.2 /\ b = b /\ True) /\ QYq1P_1 a) /\ (∀ (c : XyB), (∃ (m n
: Nat), isG a.1 a.2 m n /\ payR m n b c.1 c.2) -> ((True /\ True) /\ (True /\ True) /\ (True /\ True) /\ (W_G_gv1_0 a = W_G_gv1_0 a /\ True) /\ (True /\ True) /\ (True /\ True) /\
(True /\ True) /\ (W_G_gv1_0 a = W_G_gv1_0 a /\ True) /\ True /\ True /\ True /\ True /\ True /\ True /\ True /\ True /\ True) /\ ∃ (d : XyB), (∃ (f g : Nat), isG a.1 a.2 f g /\ turnG
f g < (0 : Int) /\ payR f g (a.3 + a.4) d.1 d.2) /\ Z2 /\ (2 = 2 /\ d.1 = c.1 /\ d.2 = c.2 /\ True) /\ True) /\ True)) /\ (¬(e.1 < 0) -> (True /\ True
/\ True /\ True /\ True /\ True /\ True /\ True /\ True /\ True /\ True /\ True) /\ ∃ (_ : Unit), (∃ (o p : Nat), isG a.1 a.2 o p /\ (0 : Int) <= turnG o p) /\ (0 = 0 /\ 2 = 2 /\ 2 =
2) /\ True)) /\ True) := by kernel_rfl
theorem g_gv1 (a : GvA) (hp : isGx a.g a.p) (hx : bigQ a.x) (hy : bigQ a.y) : GW (G_gv1 a) := by
 obtain ⟨k, j, hi⟩ := hp
 obtain ⟨x1, x2⟩ := hx
 obtain ⟨y1, y2⟩ := hy
 obtain ⟨f1, f2, f3, f4, f5, f6, f7, f8, f9, f10, f11⟩ := flG_of hi
 have f12 := fl11
 have f13 := fl00
 have f14 := glO
 refine ⟨?_⟩
 rw [vc_gv1]
 (repeat(apply And.intro;focus(and_intros<;>first|trivial|rfl)))
 refine ⟨⟨trivial, k, j, hi⟩, by (and_intros<;>first|trivial|rfl), fun t ht => ?_, trivial⟩
 obtain ⟨k', j', hi', ht⟩ := ht
 obtain ⟨rfl, rfl⟩ := isG_inj hi hi'
 refine ⟨fun h0 => ?_, fun h0 => ?_⟩
 ·(repeat(apply And.intro;focus(and_intros<;>first|trivial|rfl)))
  intro x5 e5 x6 e6
  rw [wr64 (by omega)] at e5 e6
  (repeat(apply And.intro;focus(and_intros<;>first|trivial|rfl)))
  refine ⟨⟨trivial, ⟨k, j, hi, by omega⟩, by unfold rightQ; omega⟩, by (and_intros<;>first|trivial|rfl), fun b hb => ?_, trivial⟩
  obtain ⟨k', j', hi', hb⟩ := hb
  obtain ⟨rfl, rfl⟩ := isG_inj hi hi'
  have e6' : x6 = a.x + a.y := by omega
  rw [e6'] at hb
  (repeat(apply And.intro;focus(and_intros<;>first|trivial|rfl)))
  refine ⟨b, ⟨k, j, hi, by omega, hb⟩, ?_⟩
  (and_intros<;>first|trivial|rfl)
 ·(repeat(apply And.intro;focus(and_intros<;>first|trivial|rfl)))
  refine ⟨(), ⟨k, j, hi, by omega⟩, ?_⟩
  (and_intros<;>first|trivial|rfl)
theorem s_gives1 : SpecOK Tryz.prog (S_gives 1).spec := fun a => specG_at (S := S_gives 1) (an := []) envOK cwGv_ok fun hp => g_gv1 a hp.1 hp.2.1 hp.2.2
set_option maxHeartbeats 3200000 in
theorem vc_gv2 (a : GvA) : G_gv2 a = ((True /\ (∃ (q r : Nat), isG a.1 a.2 q r)) /\ ((0 = 0 /\ QYq1P_4 a.2 /\ True) /\ QYq1P_1 a) /\ (∀ (e : TnB), (∃ (h i : Nat), isG a.1 a.2 h i /\ e.1 = turnG h i) -> (e.1 < 0 ->
(True /\ True /\ True /\ True /\ True /\ True /\ True /\ True /\ True /\ True /\ True /\ True) /\ (∀ (j : Int), j = IntKind.wrap .i64 ((0 : Int) + a.3) -> ∀ (b : Int), b = IntKind.wrap .i64
(j + a.4) -> (True /\ (∃ (k l : Nat), isG a.1 a.2 k l /\ turnG k l < (0 : Int)) /\ rightQ b) /\ ((0 = 0 /\ QYq1P_4 a.2 /\ b = b /\ True) /\ QYq1P_1 a) /\ (∀ (c : XyB), (∃ (m n
: Nat), isG a.1 a.2 m n /\ payR m n b c.1 c.2) -> ((True /\ True) /\ (True /\ True) /\ (True /\ True) /\ (W_G_gv2_0 a = W_G_gv2_0 a /\ True) /\ (True /\ True) /\ (True /\ True) /\
(True /\ True) /\ (W_G_gv2_0 a = W_G_gv2_0 a /\ True) /\ True /\ True /\ True /\ True /\ True /\ True /\ True /\ True /\ True) /\ ∃ (d : XyB), (∃ (f g : Nat), isG a.1 a.2 f g /\ turnG
f g < (0 : Int) /\ payR f g (a.3 + a.4) d.1 d.2) /\ Z2 /\ (2 = 2 /\ d.1 = c.1 /\ d.2 = c.2 /\ True) /\ True) /\ True)) /\ (¬(e.1 < 0) -> (True /\ True
/\ True /\ True /\ True /\ True /\ True /\ True /\ True /\ True /\ True /\ True) /\ ∃ (_ : Unit), (∃ (o p : Nat), isG a.1 a.2 o p /\ (0 : Int) <= turnG o p) /\ (0 = 0 /\ 2 = 2 /\ 2 =
2) /\ True)) /\ True) := by kernel_rfl
theorem g_gv2 (a : GvA) (hp : isGx a.g a.p) (hx : bigQ a.x) (hy : bigQ a.y) : GW (G_gv2 a) := by
 obtain ⟨k, j, hi⟩ := hp
 obtain ⟨x1, x2⟩ := hx
 obtain ⟨y1, y2⟩ := hy
 obtain ⟨f1, f2, f3, f4, f5, f6, f7, f8, f9, f10, f11⟩ := flG_of hi
 have f12 := fl11
 have f13 := fl00
 have f14 := glO
 refine ⟨?_⟩
 rw [vc_gv2]
 (repeat(apply And.intro;focus(and_intros<;>first|trivial|rfl)))
 refine ⟨⟨trivial, k, j, hi⟩, by (and_intros<;>first|trivial|rfl), fun t ht => ?_, trivial⟩
 obtain ⟨k', j', hi', ht⟩ := ht
 obtain ⟨rfl, rfl⟩ := isG_inj hi hi'
 refine ⟨fun h0 => ?_, fun h0 => ?_⟩
 ·(repeat(apply And.intro;focus(and_intros<;>first|trivial|rfl)))
  intro x5 e5 x6 e6
  rw [wr64 (by omega)] at e5 e6
  (repeat(apply And.intro;focus(and_intros<;>first|trivial|rfl)))
  refine ⟨⟨trivial, ⟨k, j, hi, by omega⟩, by unfold rightQ; omega⟩, by (and_intros<;>first|trivial|rfl), fun b hb => ?_, trivial⟩
  obtain ⟨k', j', hi', hb⟩ := hb
  obtain ⟨rfl, rfl⟩ := isG_inj hi hi'
  have e6' : x6 = a.x + a.y := by omega
  rw [e6'] at hb
  (repeat(apply And.intro;focus(and_intros<;>first|trivial|rfl)))
  refine ⟨b, ⟨k, j, hi, by omega, hb⟩, ?_⟩
  (and_intros<;>first|trivial|rfl)
 ·(repeat(apply And.intro;focus(and_intros<;>first|trivial|rfl)))
  refine ⟨(), ⟨k, j, hi, by omega⟩, ?_⟩
  (and_intros<;>first|trivial|rfl)
theorem s_gives2 : SpecOK Tryz.prog (S_gives 2).spec := fun a => specG_at (S := S_gives 2) (an := []) envOK cwGv_ok fun hp => g_gv2 a hp.1 hp.2.1 hp.2.2
set_option maxHeartbeats 3200000 in
theorem vc_gv3 (a : GvA) : G_gv3 a = ((True /\ (∃ (q r : Nat), isG a.1 a.2 q r)) /\ ((0 = 0 /\ QYq1P_4 a.2 /\ True) /\ QYq1P_1 a) /\ (∀ (e : TnB), (∃ (h i : Nat), isG a.1 a.2 h i /\ e.1 = turnG h i) -> (e.1 < 0 ->
(True /\ True /\ True /\ True /\ True /\ True /\ True /\ True /\ True /\ True /\ True /\ True) /\ (∀ (j : Int), j = IntKind.wrap .i64 ((0 : Int) + a.3) -> ∀ (b : Int), b = IntKind.wrap .i64
(j + a.4) -> (True /\ (∃ (k l : Nat), isG a.1 a.2 k l /\ turnG k l < (0 : Int)) /\ rightQ b) /\ ((0 = 0 /\ QYq1P_4 a.2 /\ b = b /\ True) /\ QYq1P_1 a) /\ (∀ (c : XyB), (∃ (m n
: Nat), isG a.1 a.2 m n /\ payR m n b c.1 c.2) -> ((True /\ True) /\ (True /\ True) /\ (True /\ True) /\ (W_G_gv3_0 a = W_G_gv3_0 a /\ True) /\ (True /\ True) /\ (True /\ True) /\
(True /\ True) /\ (W_G_gv3_0 a = W_G_gv3_0 a /\ True) /\ True /\ True /\ True /\ True /\ True /\ True /\ True /\ True /\ True) /\ ∃ (d : XyB), (∃ (f g : Nat), isG a.1 a.2 f g /\ turnG
f g < (0 : Int) /\ payR f g (a.3 + a.4) d.1 d.2) /\ Z2 /\ (2 = 2 /\ d.1 = c.1 /\ d.2 = c.2 /\ True) /\ True) /\ True)) /\ (¬(e.1 < 0) -> (True /\ True
/\ True /\ True /\ True /\ True /\ True /\ True /\ True /\ True /\ True /\ True) /\ ∃ (_ : Unit), (∃ (o p : Nat), isG a.1 a.2 o p /\ (0 : Int) <= turnG o p) /\ (0 = 0 /\ 2 = 2 /\ 2 =
2) /\ True)) /\ True) := by kernel_rfl
theorem g_gv3 (a : GvA) (hp : isGx a.g a.p) (hx : bigQ a.x) (hy : bigQ a.y) : GW (G_gv3 a) := by
 obtain ⟨k, j, hi⟩ := hp
 obtain ⟨x1, x2⟩ := hx
 obtain ⟨y1, y2⟩ := hy
 obtain ⟨f1, f2, f3, f4, f5, f6, f7, f8, f9, f10, f11⟩ := flG_of hi
 have f12 := fl11
 have f13 := fl00
 have f14 := glO
 refine ⟨?_⟩
 rw [vc_gv3]
 (repeat(apply And.intro;focus(and_intros<;>first|trivial|rfl)))
 refine ⟨⟨trivial, k, j, hi⟩, by (and_intros<;>first|trivial|rfl), fun t ht => ?_, trivial⟩
 obtain ⟨k', j', hi', ht⟩ := ht
 obtain ⟨rfl, rfl⟩ := isG_inj hi hi'
 refine ⟨fun h0 => ?_, fun h0 => ?_⟩
 ·(repeat(apply And.intro;focus(and_intros<;>first|trivial|rfl)))
  intro x5 e5 x6 e6
  rw [wr64 (by omega)] at e5 e6
  (repeat(apply And.intro;focus(and_intros<;>first|trivial|rfl)))
  refine ⟨⟨trivial, ⟨k, j, hi, by omega⟩, by unfold rightQ; omega⟩, by (and_intros<;>first|trivial|rfl), fun b hb => ?_, trivial⟩
  obtain ⟨k', j', hi', hb⟩ := hb
  obtain ⟨rfl, rfl⟩ := isG_inj hi hi'
  have e6' : x6 = a.x + a.y := by omega
  rw [e6'] at hb
  (repeat(apply And.intro;focus(and_intros<;>first|trivial|rfl)))
  refine ⟨b, ⟨k, j, hi, by omega, hb⟩, ?_⟩
  (and_intros<;>first|trivial|rfl)
 ·(repeat(apply And.intro;focus(and_intros<;>first|trivial|rfl)))
  refine ⟨(), ⟨k, j, hi, by omega⟩, ?_⟩
  (and_intros<;>first|trivial|rfl)
theorem s_gives3 : SpecOK Tryz.prog (S_gives 3).spec := fun a => specG_at (S := S_gives 3) (an := []) envOK cwGv_ok fun hp => g_gv3 a hp.1 hp.2.1 hp.2.2
theorem vc_pg10 (a : PgA) : G_pg10 a = ((True /\ isGx a.1.1.1 a.1.1.2 /\ (0 <= a.2 /\ a.2 <= 100000000) /\ 0 <= a.3 /\ a.3 <= 100000000) /\ ((0 = 0 /\ Z2 /\ True) /\ QYq1P_3 a.1.1.2 /\ (True /\ Z1 a.2 /\ Z1 a.3 /\
True) /\ QYq1P_1 a.1.1) /\ QYq1P_2 a.1.1.1 a.1.1.2 a.2 a.3) := by kernel_rfl
theorem g_pg10 (a : PgA) (hp : isGx (pyI 0 a.t).g (pyI 0 a.t).p) (hx : bigQ a.x) (hy : bigQ a.y) : GW (G_pg10 a) := by
 have hp0 := hp
 obtain ⟨k, j, hi⟩ := hp
 have hi : isG a.t.a.g a.t.a.p k j := hi
 obtain ⟨f1, f2, f3, f4, f5, f6, f7, f8, f9, f10, f11⟩ := flG_of hi
 have f12 := fl11
 have f13 := fl00
 have f14 := glO
 refine ⟨?_⟩
 rw [vc_pg10]
 (repeat(apply And.intro;focus(and_intros<;>first|trivial|rfl)))
 refine ⟨⟨trivial, hp0, hx, hy⟩, by (and_intros<;>first|trivial|rfl), fun u hu => ?_, fun b hb => ?_, trivial⟩
 ·(repeat(apply And.intro;focus(and_intros<;>first|trivial|rfl)))
  refine ⟨(), hu, ?_⟩
  (and_intros<;>first|trivial|rfl)
 ·(repeat(apply And.intro;focus(and_intros<;>first|trivial|rfl)))
  refine ⟨b, hb, ?_⟩
  (and_intros<;>first|trivial|rfl)
theorem s_pgv10 : SpecOK Tryz.prog (S_pgv 1 0).spec := fun a K hp hq => spec_call (S := S_gives 0) (T := S_pgv 1 0) (b := a) rfl s_gives0 (g_pg10 a hp.1 hp.2.1 hp.2.2).h K hp hq
theorem vc_pg20 (a : PgA) : G_pg20 a = ((True /\ isGx a.1.1.1 a.1.1.2 /\ (0 <= a.2 /\ a.2 <= 100000000) /\ 0 <= a.3 /\ a.3 <= 100000000) /\ ((0 = 0 /\ Z2 /\ True) /\ QYq1P_3 a.1.1.2 /\ (True /\ Z1 a.2 /\ Z1 a.3 /\
True) /\ QYq1P_1 a.1.1) /\ QYq1P_2 a.1.1.1 a.1.1.2 a.2 a.3) := by kernel_rfl
theorem g_pg20 (a : PgA) (hp : isGx (pyI 0 a.t).g (pyI 0 a.t).p) (hx : bigQ a.x) (hy : bigQ a.y) : GW (G_pg20 a) := by
 have hp0 := hp
 obtain ⟨k, j, hi⟩ := hp
 have hi : isG a.t.a.g a.t.a.p k j := hi
 obtain ⟨f1, f2, f3, f4, f5, f6, f7, f8, f9, f10, f11⟩ := flG_of hi
 have f12 := fl11
 have f13 := fl00
 have f14 := glO
 refine ⟨?_⟩
 rw [vc_pg20]
 (repeat(apply And.intro;focus(and_intros<;>first|trivial|rfl)))
 refine ⟨⟨trivial, hp0, hx, hy⟩, by (and_intros<;>first|trivial|rfl), fun u hu => ?_, fun b hb => ?_, trivial⟩
 ·(repeat(apply And.intro;focus(and_intros<;>first|trivial|rfl)))
  refine ⟨(), hu, ?_⟩
  (and_intros<;>first|trivial|rfl)
 ·(repeat(apply And.intro;focus(and_intros<;>first|trivial|rfl)))
  refine ⟨b, hb, ?_⟩
  (and_intros<;>first|trivial|rfl)
theorem s_pgv20 : SpecOK Tryz.prog (S_pgv 2 0).spec := fun a K hp hq => spec_call (S := S_gives 0) (T := S_pgv 2 0) (b := a) rfl s_gives0 (g_pg20 a hp.1 hp.2.1 hp.2.2).h K hp hq
theorem vc_pg21 (a : PgA) : G_pg21 a = ((True /\ isGx a.1.2.1 a.1.2.2 /\ (0 <= a.2 /\ a.2 <= 100000000) /\ 0 <= a.3 /\ a.3 <= 100000000) /\ ((10 = 10 /\ Z2 /\ True) /\ (True /\ True /\ True /\ True /\ True /\ True /\
True /\ True /\ True /\ True /\ QYq1P_3 a.1.2.2) /\ (True /\ Z1 a.2 /\ Z1 a.3 /\ True) /\ QYq1P_1 a.1.2) /\ QYq1P_2 a.1.2.1 a.1.2.2 a.2 a.3) := by kernel_rfl
theorem g_pg21 (a : PgA) (hp : isGx (pyI 1 a.t).g (pyI 1 a.t).p) (hx : bigQ a.x) (hy : bigQ a.y) : GW (G_pg21 a) := by
 have hp0 := hp
 obtain ⟨k, j, hi⟩ := hp
 have hi : isG a.t.b.g a.t.b.p k j := hi
 obtain ⟨f1, f2, f3, f4, f5, f6, f7, f8, f9, f10, f11⟩ := flG_of hi
 have f12 := fl11
 have f13 := fl00
 have f14 := glO
 refine ⟨?_⟩
 rw [vc_pg21]
 (repeat(apply And.intro;focus(and_intros<;>first|trivial|rfl)))
 refine ⟨⟨trivial, hp0, hx, hy⟩, by (and_intros<;>first|trivial|rfl), fun u hu => ?_, fun b hb => ?_, trivial⟩
 ·(repeat(apply And.intro;focus(and_intros<;>first|trivial|rfl)))
  refine ⟨(), hu, ?_⟩
  (and_intros<;>first|trivial|rfl)
 ·(repeat(apply And.intro;focus(and_intros<;>first|trivial|rfl)))
  refine ⟨b, hb, ?_⟩
  (and_intros<;>first|trivial|rfl)
theorem s_pgv21 : SpecOK Tryz.prog (S_pgv 2 1).spec := fun a K hp hq => spec_call (S := S_gives 1) (T := S_pgv 2 1) (b := a) rfl s_gives1 (g_pg21 a hp.1 hp.2.1 hp.2.2).h K hp hq
theorem vc_pg30 (a : PgA) : G_pg30 a = ((True /\ isGx a.1.1.1 a.1.1.2 /\ (0 <= a.2 /\ a.2 <= 100000000) /\ 0 <= a.3 /\ a.3 <= 100000000) /\ ((0 = 0 /\ Z2 /\ True) /\ QYq1P_3 a.1.1.2 /\ (True /\ Z1 a.2 /\ Z1 a.3 /\
True) /\ QYq1P_1 a.1.1) /\ QYq1P_2 a.1.1.1 a.1.1.2 a.2 a.3) := by kernel_rfl
theorem g_pg30 (a : PgA) (hp : isGx (pyI 0 a.t).g (pyI 0 a.t).p) (hx : bigQ a.x) (hy : bigQ a.y) : GW (G_pg30 a) := by
 have hp0 := hp
 obtain ⟨k, j, hi⟩ := hp
 have hi : isG a.t.a.g a.t.a.p k j := hi
 obtain ⟨f1, f2, f3, f4, f5, f6, f7, f8, f9, f10, f11⟩ := flG_of hi
 have f12 := fl11
 have f13 := fl00
 have f14 := glO
 refine ⟨?_⟩
 rw [vc_pg30]
 (repeat(apply And.intro;focus(and_intros<;>first|trivial|rfl)))
 refine ⟨⟨trivial, hp0, hx, hy⟩, by (and_intros<;>first|trivial|rfl), fun u hu => ?_, fun b hb => ?_, trivial⟩
 ·(repeat(apply And.intro;focus(and_intros<;>first|trivial|rfl)))
  refine ⟨(), hu, ?_⟩
  (and_intros<;>first|trivial|rfl)
 ·(repeat(apply And.intro;focus(and_intros<;>first|trivial|rfl)))
  refine ⟨b, hb, ?_⟩
  (and_intros<;>first|trivial|rfl)
theorem s_pgv30 : SpecOK Tryz.prog (S_pgv 3 0).spec := fun a K hp hq => spec_call (S := S_gives 0) (T := S_pgv 3 0) (b := a) rfl s_gives0 (g_pg30 a hp.1 hp.2.1 hp.2.2).h K hp hq
theorem vc_pg31 (a : PgA) : G_pg31 a = ((True /\ isGx a.1.2.1 a.1.2.2 /\ (0 <= a.2 /\ a.2 <= 100000000) /\ 0 <= a.3 /\ a.3 <= 100000000) /\ ((10 = 10 /\ Z2 /\ True) /\ (True /\ True /\ True /\ True /\ True /\ True /\
True /\ True /\ True /\ True /\ QYq1P_3 a.1.2.2) /\ (True /\ Z1 a.2 /\ Z1 a.3 /\ True) /\ QYq1P_1 a.1.2) /\ QYq1P_2 a.1.2.1 a.1.2.2 a.2 a.3) := by kernel_rfl
theorem g_pg31 (a : PgA) (hp : isGx (pyI 1 a.t).g (pyI 1 a.t).p) (hx : bigQ a.x) (hy : bigQ a.y) : GW (G_pg31 a) := by
 have hp0 := hp
 obtain ⟨k, j, hi⟩ := hp
 have hi : isG a.t.b.g a.t.b.p k j := hi
 obtain ⟨f1, f2, f3, f4, f5, f6, f7, f8, f9, f10, f11⟩ := flG_of hi
 have f12 := fl11
 have f13 := fl00
 have f14 := glO
 refine ⟨?_⟩
 rw [vc_pg31]
 (repeat(apply And.intro;focus(and_intros<;>first|trivial|rfl)))
 refine ⟨⟨trivial, hp0, hx, hy⟩, by (and_intros<;>first|trivial|rfl), fun u hu => ?_, fun b hb => ?_, trivial⟩
 ·(repeat(apply And.intro;focus(and_intros<;>first|trivial|rfl)))
  refine ⟨(), hu, ?_⟩
  (and_intros<;>first|trivial|rfl)
 ·(repeat(apply And.intro;focus(and_intros<;>first|trivial|rfl)))
  refine ⟨b, hb, ?_⟩
  (and_intros<;>first|trivial|rfl)
theorem s_pgv31 : SpecOK Tryz.prog (S_pgv 3 1).spec := fun a K hp hq => spec_call (S := S_gives 1) (T := S_pgv 3 1) (b := a) rfl s_gives1 (g_pg31 a hp.1 hp.2.1 hp.2.2).h K hp hq
theorem vc_pg32 (a : PgA) : G_pg32 a = ((True /\ isGx a.1.3.1 a.1.3.2 /\ (0 <= a.2 /\ a.2 <= 100000000) /\ 0 <= a.3 /\ a.3 <= 100000000) /\ ((20 = 20 /\ Z2 /\ True) /\ (True /\ True /\ True /\ True /\ True /\ True /\
True /\ True /\ True /\ True /\ True /\ True /\ True /\ True /\ True /\ True /\ True /\ True /\ True /\ True /\ QYq1P_3 a.1.3.2) /\ (True /\ Z1 a.2 /\ Z1 a.3 /\ True) /\ QYq1P_1 a.1.3) /\ QYq1P_2
a.1.3.1 a.1.3.2 a.2 a.3) := by kernel_rfl
theorem g_pg32 (a : PgA) (hp : isGx (pyI 2 a.t).g (pyI 2 a.t).p) (hx : bigQ a.x) (hy : bigQ a.y) : GW (G_pg32 a) := by
 have hp0 := hp
 obtain ⟨k, j, hi⟩ := hp
 have hi : isG a.t.c.g a.t.c.p k j := hi
 obtain ⟨f1, f2, f3, f4, f5, f6, f7, f8, f9, f10, f11⟩ := flG_of hi
 have f12 := fl11
 have f13 := fl00
 have f14 := glO
 refine ⟨?_⟩
 rw [vc_pg32]
 (repeat(apply And.intro;focus(and_intros<;>first|trivial|rfl)))
 refine ⟨⟨trivial, hp0, hx, hy⟩, by (and_intros<;>first|trivial|rfl), fun u hu => ?_, fun b hb => ?_, trivial⟩
 ·(repeat(apply And.intro;focus(and_intros<;>first|trivial|rfl)))
  refine ⟨(), hu, ?_⟩
  (and_intros<;>first|trivial|rfl)
 ·(repeat(apply And.intro;focus(and_intros<;>first|trivial|rfl)))
  refine ⟨b, hb, ?_⟩
  (and_intros<;>first|trivial|rfl)
theorem s_pgv32 : SpecOK Tryz.prog (S_pgv 3 2).spec := fun a K hp hq => spec_call (S := S_gives 2) (T := S_pgv 3 2) (b := a) rfl s_gives2 (g_pg32 a hp.1 hp.2.1 hp.2.2).h K hp hq
theorem vc_pg40 (a : PgA) : G_pg40 a = ((True /\ isGx a.1.1.1 a.1.1.2 /\ (0 <= a.2 /\ a.2 <= 100000000) /\ 0 <= a.3 /\ a.3 <= 100000000) /\ ((0 = 0 /\ Z2 /\ True) /\ QYq1P_3 a.1.1.2 /\ (True /\ Z1 a.2 /\ Z1 a.3 /\
True) /\ QYq1P_1 a.1.1) /\ QYq1P_2 a.1.1.1 a.1.1.2 a.2 a.3) := by kernel_rfl
theorem g_pg40 (a : PgA) (hp : isGx (pyI 0 a.t).g (pyI 0 a.t).p) (hx : bigQ a.x) (hy : bigQ a.y) : GW (G_pg40 a) := by
 have hp0 := hp
 obtain ⟨k, j, hi⟩ := hp
 have hi : isG a.t.a.g a.t.a.p k j := hi
 obtain ⟨f1, f2, f3, f4, f5, f6, f7, f8, f9, f10, f11⟩ := flG_of hi
 have f12 := fl11
 have f13 := fl00
 have f14 := glO
 refine ⟨?_⟩
 rw [vc_pg40]
 (repeat(apply And.intro;focus(and_intros<;>first|trivial|rfl)))
 refine ⟨⟨trivial, hp0, hx, hy⟩, by (and_intros<;>first|trivial|rfl), fun u hu => ?_, fun b hb => ?_, trivial⟩
 ·(repeat(apply And.intro;focus(and_intros<;>first|trivial|rfl)))
  refine ⟨(), hu, ?_⟩
  (and_intros<;>first|trivial|rfl)
 ·(repeat(apply And.intro;focus(and_intros<;>first|trivial|rfl)))
  refine ⟨b, hb, ?_⟩
  (and_intros<;>first|trivial|rfl)
theorem s_pgv40 : SpecOK Tryz.prog (S_pgv 4 0).spec := fun a K hp hq => spec_call (S := S_gives 0) (T := S_pgv 4 0) (b := a) rfl s_gives0 (g_pg40 a hp.1 hp.2.1 hp.2.2).h K hp hq
theorem vc_pg41 (a : PgA) : G_pg41 a = ((True /\ isGx a.1.2.1 a.1.2.2 /\ (0 <= a.2 /\ a.2 <= 100000000) /\ 0 <= a.3 /\ a.3 <= 100000000) /\ ((10 = 10 /\ Z2 /\ True) /\ (True /\ True /\ True /\ True /\ True /\ True /\
True /\ True /\ True /\ True /\ QYq1P_3 a.1.2.2) /\ (True /\ Z1 a.2 /\ Z1 a.3 /\ True) /\ QYq1P_1 a.1.2) /\ QYq1P_2 a.1.2.1 a.1.2.2 a.2 a.3) := by kernel_rfl
theorem g_pg41 (a : PgA) (hp : isGx (pyI 1 a.t).g (pyI 1 a.t).p) (hx : bigQ a.x) (hy : bigQ a.y) : GW (G_pg41 a) := by
 have hp0 := hp
 obtain ⟨k, j, hi⟩ := hp
 have hi : isG a.t.b.g a.t.b.p k j := hi
 obtain ⟨f1, f2, f3, f4, f5, f6, f7, f8, f9, f10, f11⟩ := flG_of hi
 have f12 := fl11
 have f13 := fl00
 have f14 := glO
 refine ⟨?_⟩
 rw [vc_pg41]
 (repeat(apply And.intro;focus(and_intros<;>first|trivial|rfl)))
 refine ⟨⟨trivial, hp0, hx, hy⟩, by (and_intros<;>first|trivial|rfl), fun u hu => ?_, fun b hb => ?_, trivial⟩
 ·(repeat(apply And.intro;focus(and_intros<;>first|trivial|rfl)))
  refine ⟨(), hu, ?_⟩
  (and_intros<;>first|trivial|rfl)
 ·(repeat(apply And.intro;focus(and_intros<;>first|trivial|rfl)))
  refine ⟨b, hb, ?_⟩
  (and_intros<;>first|trivial|rfl)
theorem s_pgv41 : SpecOK Tryz.prog (S_pgv 4 1).spec := fun a K hp hq => spec_call (S := S_gives 1) (T := S_pgv 4 1) (b := a) rfl s_gives1 (g_pg41 a hp.1 hp.2.1 hp.2.2).h K hp hq
theorem vc_pg42 (a : PgA) : G_pg42 a = ((True /\ isGx a.1.3.1 a.1.3.2 /\ (0 <= a.2 /\ a.2 <= 100000000) /\ 0 <= a.3 /\ a.3 <= 100000000) /\ ((20 = 20 /\ Z2 /\ True) /\ (True /\ True /\ True /\ True /\ True /\ True /\
True /\ True /\ True /\ True /\ True /\ True /\ True /\ True /\ True /\ True /\ True /\ True /\ True /\ True /\ QYq1P_3 a.1.3.2) /\ (True /\ Z1 a.2 /\ Z1 a.3 /\ True) /\ QYq1P_1 a.1.3) /\ QYq1P_2
a.1.3.1 a.1.3.2 a.2 a.3) := by kernel_rfl
theorem g_pg42 (a : PgA) (hp : isGx (pyI 2 a.t).g (pyI 2 a.t).p) (hx : bigQ a.x) (hy : bigQ a.y) : GW (G_pg42 a) := by
 have hp0 := hp
 obtain ⟨k, j, hi⟩ := hp
 have hi : isG a.t.c.g a.t.c.p k j := hi
 obtain ⟨f1, f2, f3, f4, f5, f6, f7, f8, f9, f10, f11⟩ := flG_of hi
 have f12 := fl11
 have f13 := fl00
 have f14 := glO
 refine ⟨?_⟩
 rw [vc_pg42]
 (repeat(apply And.intro;focus(and_intros<;>first|trivial|rfl)))
 refine ⟨⟨trivial, hp0, hx, hy⟩, by (and_intros<;>first|trivial|rfl), fun u hu => ?_, fun b hb => ?_, trivial⟩
 ·(repeat(apply And.intro;focus(and_intros<;>first|trivial|rfl)))
  refine ⟨(), hu, ?_⟩
  (and_intros<;>first|trivial|rfl)
 ·(repeat(apply And.intro;focus(and_intros<;>first|trivial|rfl)))
  refine ⟨b, hb, ?_⟩
  (and_intros<;>first|trivial|rfl)
theorem s_pgv42 : SpecOK Tryz.prog (S_pgv 4 2).spec := fun a K hp hq => spec_call (S := S_gives 2) (T := S_pgv 4 2) (b := a) rfl s_gives2 (g_pg42 a hp.1 hp.2.1 hp.2.2).h K hp hq
theorem vc_pg43 (a : PgA) : G_pg43 a = ((True /\ isGx a.1.4.1 a.1.4.2 /\ (0 <= a.2 /\ a.2 <= 100000000) /\ 0 <= a.3 /\ a.3 <= 100000000) /\ ((30 = 30 /\ Z2 /\ True) /\ (True /\ True /\ True /\ True /\ True /\ True /\
True /\ True /\ True /\ True /\ True /\ True /\ True /\ True /\ True /\ True /\ True /\ True /\ True /\ True /\ True /\ True /\ True /\ True /\ True /\ True /\ True /\ True /\ True /\ True /\ QYq1P_3
a.1.4.2) /\ (True /\ Z1 a.2 /\ Z1 a.3 /\ True) /\ QYq1P_1 a.1.4) /\ QYq1P_2 a.1.4.1 a.1.4.2 a.2 a.3) := by kernel_rfl
theorem g_pg43 (a : PgA) (hp : isGx (pyI 3 a.t).g (pyI 3 a.t).p) (hx : bigQ a.x) (hy : bigQ a.y) : GW (G_pg43 a) := by
 have hp0 := hp
 obtain ⟨k, j, hi⟩ := hp
 have hi : isG a.t.e.g a.t.e.p k j := hi
 obtain ⟨f1, f2, f3, f4, f5, f6, f7, f8, f9, f10, f11⟩ := flG_of hi
 have f12 := fl11
 have f13 := fl00
 have f14 := glO
 refine ⟨?_⟩
 rw [vc_pg43]
 (repeat(apply And.intro;focus(and_intros<;>first|trivial|rfl)))
 refine ⟨⟨trivial, hp0, hx, hy⟩, by (and_intros<;>first|trivial|rfl), fun u hu => ?_, fun b hb => ?_, trivial⟩
 ·(repeat(apply And.intro;focus(and_intros<;>first|trivial|rfl)))
  refine ⟨(), hu, ?_⟩
  (and_intros<;>first|trivial|rfl)
 ·(repeat(apply And.intro;focus(and_intros<;>first|trivial|rfl)))
  refine ⟨b, hb, ?_⟩
  (and_intros<;>first|trivial|rfl)
theorem s_pgv43 : SpecOK Tryz.prog (S_pgv 4 3).spec := fun a K hp hq => spec_call (S := S_gives 3) (T := S_pgv 4 3) (b := a) rfl s_gives3 (g_pg43 a hp.1 hp.2.1 hp.2.2).h K hp hq
end Go.Proofs.YtfkacmmcgncooaaGreatDoor
end
