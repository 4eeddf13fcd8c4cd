/- CloseAgrees holds: for every input the law returns true and its arguments read afterwards as before. No condition. -/
import Derived.Test.YtpnegfocmaecbaaAgr2
namespace Go.Proofs.Ytpnegfocmaecbaa.closeAgrees
open Go.ChangeShapes Go.WideShapes Go.ChangeAt Go.RowKit
open Go.ChangeMaps (open_string shut_string)
set_option linter.unusedVariables false

set_option maxRecDepth 100000 in
set_option maxHeartbeats 4000000 in
theorem walk0 (pot : Int) (PA OA S1 S2 S3 : Option Addr) (n c m d n1 c1 n2 c2 n3 c3 : Nat) (pays others : List Int) (sg ot gn : List Bool) (w : World) (hp : Sl (Value.int .i64) w PA n pays) (hpf : Fits pays) (hpn : PA = none → c = 0) (ho : Sl (Value.int .i64) w OA m others) (hof : Fits others) (hon : OA = none → d = 0)
    (h1 : Sl Value.bool w S1 n1 sg) (h2 : Sl Value.bool w S2 n2 ot) (h3 : Sl Value.bool w S3 n3 gn) :
    Calls Try.prog 3 #[.int .i64 pot, .agg #[.slice PA n c, .slice OA m d], .agg #[.slice S1 n1 c1, .slice S2 n2 c2, .slice S3 n3 c3]] w fun e w' => e = .returned (.bool true) ∧ Below w.heap.size w w' := by
  have hpm := hp.max
  have hom := ho.max
  have hb0 : Below w.heap.size w ((w.alloc (.cells #[.slice PA n c, .slice OA m d] 24)).alloc (.cells #[.slice S1 n1 c1, .slice S2 n2 c2, .slice S3 n3 c3] 27)) := ((Below.refl _ _).alloc (Nat.le_refl _) _).alloc (by simp) _
  have hg1 : ((w.alloc (.cells #[.slice PA n c, .slice OA m d] 24)).alloc (.cells #[.slice S1 n1 c1, .slice S2 n2 c2, .slice S3 n3 c3] 27)).heap[w.heap.size + 1]? = some (.cells #[.slice S1 n1 c1, .slice S2 n2 c2, .slice S3 n3 c3] 27 (0, 0)) := by have := heap_alloc_new (w.alloc (.cells #[.slice PA n c, .slice OA m d] 24)) (.cells #[.slice S1 n1 c1, .slice S2 n2 c2, .slice S3 n3 c3] 27); simpa using this
  have HB0 := Lib.hid hb0
  have HG1 := Lib.hid hg1
  have HP := Lib.hid hp
  have HO := Lib.hid ho
  have HPF := Lib.hid hpf
  have HOF := Lib.hid hof
  have HPN := Lib.hid hpn
  have HON := Lib.hid hon
  have H1 := Lib.hid h1
  have H2 := Lib.hid h2
  have H3 := Lib.hid h3
  clear hb0 hg1 hp ho hpf hof hpn hon h1 h2 h3
  by_cases hn : 10 < n
  · as_aux_lemma =>
    go_enter Try.func3, Try.ntmps3
    go_wp2_with fail
    go_quiet (fail)
    go_wp2_with (go_at_call 5; refine (told7 _).mono ?_; rintro e w' ⟨rfl, hb⟩)
    go_ret
    exact ⟨rfl, below_trans (below_drewN HB0.out _) hb (by simp; omega)⟩
  have hn' : decide (10 < (n : Int)) = false := by simp; omega
  by_cases hm : 10 < m
  · as_aux_lemma =>
    go_enter Try.func3, Try.ntmps3
    go_wp2_with fail
    go_quiet (fail)
    go_wp2_with (go_at_call 5; refine (told7 _).mono ?_; rintro e w' ⟨rfl, hb⟩)
    go_ret
    exact ⟨rfl, below_trans (below_drewN HB0.out _) hb (by simp; omega)⟩
  have hm' : decide (10 < (m : Int)) = false := by simp; omega
  go_enter Try.func3, Try.ntmps3
  go_wp2_with fail
  go_quiet (fail)
  have HB1 : Hid (Below w.heap.size w (((w.alloc (.cells #[.slice PA n c, .slice OA m d] 24)).alloc (.cells #[.slice S1 n1 c1, .slice S2 n2 c2, .slice S3 n3 c3] 27)).drewN nq)) := below_drewN HB0.out _
  have HG1' : Hid ((((w.alloc (.cells #[.slice PA n c, .slice OA m d] 24)).alloc (.cells #[.slice S1 n1 c1, .slice S2 n2 c2, .slice S3 n3 c3] 27)).drewN nq).heap[w.heap.size + 1]? = some (.cells #[.slice S1 n1 c1, .slice S2 n2 c2, .slice S3 n3 c3] 27 (0, 0))) := HG1.out
  clear HB0 HG1
  generalize ((w.alloc (.cells #[.slice PA n c, .slice OA m d] 24)).alloc (.cells #[.slice S1 n1 c1, .slice S2 n2 c2, .slice S3 n3 c3] 27)).drewN nq = Wa at HB1 HG1' ⊢
  have hza := HB1.out.size
  have HOA : Hid ((Wa.alloc (.cells #[] 3)).ownsRow w.heap.size 3 1 (.slice (some ⟨Wa.heap.size, 0, none⟩) 0 0) 0 (([] : List Int).map (Value.int .i64))) := own_lit (Value.int .i64) Wa w.heap.size #[] 3 0 [] hza rfl (by unfold maxLen; omega) rfl
  have HBa : Hid (Below w.heap.size w (Wa.alloc (.cells #[] 3))) := HB1.out.alloc hza _
  have hza1 : w.heap.size ≤ (Wa.alloc (.cells #[] 3)).heap.size := HBa.out.size
  go_upto_region 5 with (at_builtin; refine wpList_app tyInts rfl _ _ rfl (oneInt .i64) w.heap.size _ 0 [] rfl HOA.out PA n c pays rfl (HP.out.below HBa.out) HPN.out (by unfold maxLen; omega) (by omega) hza1 ?_; intro Ab cb Wb hob hgb hatb)
  have HPb : Hid (Wb.ownsRow w.heap.size 3 1 (.slice Ab n cb) n (pays.map (Value.int .i64))) := by
    have := hob
    rw [Nat.zero_add, List.nil_append] at this
    exact this
  have hxb : Kx (isTy 3) (Wa.alloc (.cells #[] 3)) Wb := Kx.of_grown hgb (fun g hg => own_row HOA.out g hg)
  have HVb : Hid (Wb.heap[w.heap.size + 1]? = some (.cells #[.slice S1 n1 c1, .slice S2 n2 c2, .slice S3 n3 c3] 27 (0, 0))) := hxb.block _ _ ((allocOld _ _ _ (blk_lt HG1'.out)).trans HG1'.out) (isTy_ne (by decide) _ _)
  have HBb : Hid (Below w.heap.size w Wb) := HBa.out.grown hgb hza1 (fun k hk => (HOA.out.lt k hk).1)
  have hzb := HBb.out.size
  have HPc : Hid ((Wb.alloc (.cells #[.int .u8 7, .int .u8 0, .int .u8 0, .int .u8 0, .int .u8 0, .int .u8 0, .int .u8 0, .int .u8 0, .slice Ab n cb] 32)).ownsRow w.heap.size 3 1 (.slice Ab n cb) n (pays.map (Value.int .i64))) := HPb.out.alloc _
  have HVc : Hid ((Wb.alloc (.cells #[.int .u8 7, .int .u8 0, .int .u8 0, .int .u8 0, .int .u8 0, .int .u8 0, .int .u8 0, .int .u8 0, .slice Ab n cb] 32)).heap[w.heap.size + 1]? = some (.cells #[.slice S1 n1 c1, .slice S2 n2 c2, .slice S3 n3 c3] 27 (0, 0))) := (allocOld _ _ _ (blk_lt HVb.out)).trans HVb.out
  have HBc : Hid (Below w.heap.size w (Wb.alloc (.cells #[.int .u8 7, .int .u8 0, .int .u8 0, .int .u8 0, .int .u8 0, .int .u8 0, .int .u8 0, .int .u8 0, .slice Ab n cb] 32))) := HBb.out.alloc hzb _
  have HGc : Hid ((Wb.alloc (.cells #[.int .u8 7, .int .u8 0, .int .u8 0, .int .u8 0, .int .u8 0, .int .u8 0, .int .u8 0, .int .u8 0, .slice Ab n cb] 32)).heap[Wb.heap.size]? = some (.cells #[.int .u8 7, .int .u8 0, .int .u8 0, .int .u8 0, .int .u8 0, .int .u8 0, .int .u8 0, .int .u8 0, .slice Ab n cb] 32 (0, 0))) := heap_alloc_new Wb _
  clear hob hgb hatb hxb HPb HVb HOA HBa hza1 HG1'
  generalize hpb : Wb.heap.size = pb
  rw [hpb] at HGc hzb
  generalize Wb.alloc (.cells #[.int .u8 7, .int .u8 0, .int .u8 0, .int .u8 0, .int .u8 0, .int .u8 0, .int .u8 0, .int .u8 0, .slice Ab n cb] 32) = Wc at HPc HVc HBc HGc ⊢
  clear HBb HB1 hza hpb
  have hzc := HBc.out.size
  have HOC : Hid ((Wc.alloc (.cells #[] 3)).ownsRow w.heap.size 3 1 (.slice (some ⟨Wc.heap.size, 0, none⟩) 0 0) 0 (([] : List Int).map (Value.int .i64))) := own_lit (Value.int .i64) Wc w.heap.size #[] 3 0 [] hzc rfl (by unfold maxLen; omega) rfl
  have HBc1 : Hid (Below w.heap.size w (Wc.alloc (.cells #[] 3))) := HBc.out.alloc hzc _
  have hzc1 : w.heap.size ≤ (Wc.alloc (.cells #[] 3)).heap.size := HBc1.out.size
  go_upto_region 7 with (at_builtin; refine wpList_app tyInts rfl _ _ rfl (oneInt .i64) w.heap.size _ 0 [] rfl HOC.out OA m d others rfl (HO.out.below HBc1.out) HON.out (by unfold maxLen; omega) (by omega) hzc1 ?_; intro Ad cd Wd hod hgd hatd)
  have HOd : Hid (Wd.ownsRow w.heap.size 3 1 (.slice Ad m cd) m (others.map (Value.int .i64))) := by
    have := hod
    rw [Nat.zero_add, List.nil_append] at this
    exact this
  have hgd' : (Wc.alloc (.cells #[] 3)).grownBy Wd (some Wc.heap.size) := hgd
  have HPd : Hid (Wd.ownsRow w.heap.size 3 1 (.slice Ab n cb) n (pays.map (Value.int .i64))) := (HPc.out.alloc _).kept hgd' (by
    rcases hv : (Value.slice Ab n cb).ownBlock with _ | g
    · exact .inl rfl
    · exact .inr (fun e => by injection e with e; have := (HPc.out.lt g hv).2; omega))
  have hxd : Kx (isTy 3) (Wc.alloc (.cells #[] 3)) Wd := Kx.of_grown hgd (fun g hg => own_row HOC.out g hg)
  have HVd : Hid (Wd.heap[w.heap.size + 1]? = some (.cells #[.slice S1 n1 c1, .slice S2 n2 c2, .slice S3 n3 c3] 27 (0, 0))) := hxd.block _ _ ((allocOld _ _ _ (blk_lt HVc.out)).trans HVc.out) (isTy_ne (by decide) _ _)
  have HGd : Hid (Wd.heap[pb]? = some (.cells #[.int .u8 7, .int .u8 0, .int .u8 0, .int .u8 0, .int .u8 0, .int .u8 0, .int .u8 0, .int .u8 0, .slice Ab n cb] 32 (0, 0))) := hxd.block _ _ ((allocOld _ _ _ (blk_lt HGc.out)).trans HGc.out) (isTy_ne (by decide) _ _)
  have HBd : Hid (Below w.heap.size w Wd) := HBc1.out.grown hgd hzc1 (fun k hk => (HOC.out.lt k hk).1)
  have hzd := HBd.out.size
  have HPe := Lib.hid (HPd.out.alloc (.cells #[.int .u8 7, .int .u8 0, .int .u8 0, .int .u8 0, .int .u8 0, .int .u8 0, .int .u8 0, .int .u8 0, .slice Ad m cd] 32))
  have HOe := Lib.hid (HOd.out.alloc (.cells #[.int .u8 7, .int .u8 0, .int .u8 0, .int .u8 0, .int .u8 0, .int .u8 0, .int .u8 0, .int .u8 0, .slice Ad m cd] 32))
  have HVe : Hid ((Wd.alloc (.cells #[.int .u8 7, .int .u8 0, .int .u8 0, .int .u8 0, .int .u8 0, .int .u8 0, .int .u8 0, .int .u8 0, .slice Ad m cd] 32)).heap[w.heap.size + 1]? = some (.cells #[.slice S1 n1 c1, .slice S2 n2 c2, .slice S3 n3 c3] 27 (0, 0))) := (allocOld _ _ _ (blk_lt HVd.out)).trans HVd.out
  have HGe : Hid ((Wd.alloc (.cells #[.int .u8 7, .int .u8 0, .int .u8 0, .int .u8 0, .int .u8 0, .int .u8 0, .int .u8 0, .int .u8 0, .slice Ad m cd] 32)).heap[pb]? = some (.cells #[.int .u8 7, .int .u8 0, .int .u8 0, .int .u8 0, .int .u8 0, .int .u8 0, .int .u8 0, .int .u8 0, .slice Ab n cb] 32 (0, 0))) := (allocOld _ _ _ (blk_lt HGd.out)).trans HGd.out
  have HHe : Hid ((Wd.alloc (.cells #[.int .u8 7, .int .u8 0, .int .u8 0, .int .u8 0, .int .u8 0, .int .u8 0, .int .u8 0, .int .u8 0, .slice Ad m cd] 32)).heap[Wd.heap.size]? = some (.cells #[.int .u8 7, .int .u8 0, .int .u8 0, .int .u8 0, .int .u8 0, .int .u8 0, .int .u8 0, .int .u8 0, .slice Ad m cd] 32 (0, 0))) := heap_alloc_new Wd _
  have HBe : Hid (Below w.heap.size w (Wd.alloc (.cells #[.int .u8 7, .int .u8 0, .int .u8 0, .int .u8 0, .int .u8 0, .int .u8 0, .int .u8 0, .int .u8 0, .slice Ad m cd] 32))) := HBd.out.alloc hzd _
  clear hod hgd hgd' hatd hxd HOd HPd HVd HGd HOC HBc1 hzc1 HPc HVc HBc HGc
  generalize hob : Wd.heap.size = ob
  rw [hob] at HHe hzd
  generalize Wd.alloc (.cells #[.int .u8 7, .int .u8 0, .int .u8 0, .int .u8 0, .int .u8 0, .int .u8 0, .int .u8 0, .int .u8 0, .slice Ad m cd] 32) = We at HPe HOe HVe HGe HHe HBe ⊢
  clear HBd hob hzc
  have p0 : We.cell? ⟨pb, 0, none⟩ = some (.int .u8 7) := blk_cell HGe.out 0
  have p1 : We.cell? ⟨pb, 1, none⟩ = some (.int .u8 0) := blk_cell HGe.out 1
  have p2 : We.cell? ⟨pb, 2, none⟩ = some (.int .u8 0) := blk_cell HGe.out 2
  have p3 : We.cell? ⟨pb, 3, none⟩ = some (.int .u8 0) := blk_cell HGe.out 3
  have p4 : We.cell? ⟨pb, 4, none⟩ = some (.int .u8 0) := blk_cell HGe.out 4
  have p5 : We.cell? ⟨pb, 5, none⟩ = some (.int .u8 0) := blk_cell HGe.out 5
  have p6 : We.cell? ⟨pb, 6, none⟩ = some (.int .u8 0) := blk_cell HGe.out 6
  have p7 : We.cell? ⟨pb, 7, none⟩ = some (.int .u8 0) := blk_cell HGe.out 7
  have p8 : We.cell? ⟨pb, 8, none⟩ = some (.slice Ab n cb) := blk_cell HGe.out 8
  have o0 : We.cell? ⟨ob, 0, none⟩ = some (.int .u8 7) := blk_cell HHe.out 0
  have o1 : We.cell? ⟨ob, 1, none⟩ = some (.int .u8 0) := blk_cell HHe.out 1
  have o2 : We.cell? ⟨ob, 2, none⟩ = some (.int .u8 0) := blk_cell HHe.out 2
  have o3 : We.cell? ⟨ob, 3, none⟩ = some (.int .u8 0) := blk_cell HHe.out 3
  have o4 : We.cell? ⟨ob, 4, none⟩ = some (.int .u8 0) := blk_cell HHe.out 4
  have o5 : We.cell? ⟨ob, 5, none⟩ = some (.int .u8 0) := blk_cell HHe.out 5
  have o6 : We.cell? ⟨ob, 6, none⟩ = some (.int .u8 0) := blk_cell HHe.out 6
  have o7 : We.cell? ⟨ob, 7, none⟩ = some (.int .u8 0) := blk_cell HHe.out 7
  have o8 : We.cell? ⟨ob, 8, none⟩ = some (.slice Ad m cd) := blk_cell HHe.out 8
  have v0 : We.cell? ⟨w.heap.size + 1, 0, none⟩ = some (.slice S1 n1 c1) := blk_cell HVe.out 0
  have v1 : We.cell? ⟨w.heap.size + 1, 1, none⟩ = some (.slice S2 n2 c2) := blk_cell HVe.out 1
  have v2 : We.cell? ⟨w.heap.size + 1, 2, none⟩ = some (.slice S3 n3 c3) := blk_cell HVe.out 2
  have HD7 : Hid (Dig [7, 0, 0, 0, 0, 0, 0, 0]) := ⟨rfl, fun b hb => by simp at hb; omega⟩
  have HC := Lib.hid (vote6 [7, 0, 0, 0, 0, 0, 0, 0] [7, 0, 0, 0, 0, 0, 0, 0] Ab Ad S1 S2 S3 n cb m cd n n1 c1 n2 c2 n3 c3 pays others sg ot gn We HD7.out HD7.out (Sl.of_row HPe.out) HPF.out (by omega) (Sl.of_row HOe.out) HOF.out (by omega) (H1.out.below HBe.out) (H2.out.below HBe.out) (by omega))
  go_wp2_with fail
  refine HC.out.mono ?_
  rintro e Wv ⟨W0v, gb, mb, s12, s13, rfl, hb0v, A, cA, D, KA, SA, kc, sc, sigs, -, rfl, rfl, hB, hK, hS, hSI, hSB, hBl⟩
  have hbv : Below We.heap.size We Wv := hb0v.trans (hBl.mono (by omega))
  generalize hpd : payD [7, 0, 0, 0, 0, 0, 0, 0] pays = pd at hB hSB
  generalize hod : payD [7, 0, 0, 0, 0, 0, 0, 0] others = od at hB hSB
  have HPD := Lib.hid hpd
  have HOD := Lib.hid hod
  have HAG : Hid (AG w (We.heap.size + 3) gb mb (entsTo sg ot pd od n) KA SA Ab Ad kc sc cb cd n m pb ob (w.heap.size + 1) ((List.range n).map keyD) sigs pays others #[.int .u8 7, .int .u8 0, .int .u8 0, .int .u8 0, .int .u8 0, .int .u8 0, .int .u8 0, .int .u8 0, .slice Ab n cb] #[.int .u8 7, .int .u8 0, .int .u8 0, .int .u8 0, .int .u8 0, .int .u8 0, .int .u8 0, .int .u8 0, .slice Ad m cd] #[.slice S1 n1 c1, .slice S2 n2 c2, .slice S3 n3 c3] Wv) := ⟨HBe.out.trans (hbv.mono HBe.out.size), ⟨A, cA, D, hB⟩, hK, hS, hSI, own_belowN HPe.out hbv, own_belowN HOe.out hbv, (hbv.block _ (blk_lt HGe.out)).trans HGe.out, (hbv.block _ (blk_lt HHe.out)).trans HHe.out, (hbv.block _ (blk_lt HVe.out)).trans HVe.out⟩
  have HSB := Lib.hid hSB
  clear hB hK hS hSI hSB hBl hb0v hbv HC HPe HOe HVe HGe HHe HBe p0 p1 p2 p3 p4 p5 p6 p7 p8 o0 o1 o2 o3 o4 o5 o6 o7 o8 v0 v1 v2 hpd hod hzb hzd
  generalize We.heap.size + 3 = B at HAG
  have hzv : w.heap.size ≤ Wv.heap.size := HAG.out.bel.size
  go_wp2_with (at_make; refine wpList_mk (f := Value.bool) tyBools rfl _ _ rfl w.heap.size .i64 .i64 n n n rfl rfl rfl rfl (by omega) (by unfold maxLen; omega) hzv false rfl ?_; intro Wm hom hgm)
  have HGM : Hid (Wm.ownsRow w.heap.size 4 1 (.slice (some ⟨Wv.heap.size, 0, none⟩) n n) n ((goneTo gn n 0).map Value.bool)) := by
    show World.ownsRow _ _ _ _ _ _ _
    rw [goneTo_zero]
    exact hom
  have HAM := Lib.hid (HAG.out.kx (Kx.of_grown hgm (fun g hg => by cases hg)) ((Below.refl _ _).grown hgm hzv (fun k hk => by cases hk)))
  clear hom hgm hzv HAG
  generalize Wv.heap.size = gg at HGM ⊢
  go_loopw [16, 17, 18] (fun s16 s17 s18 wr => ∃ k : Nat, k ≤ n ∧ s18 = .int .i64 k ∧ s16 = .bool (allTo gn k) ∧ s17 = .bool (sgnTo sg ot gn pd od k) ∧ Hid (wr.ownsRow w.heap.size 4 1 (.slice (some ⟨gg, 0, none⟩) n n) n ((goneTo gn n k).map Value.bool)) ∧ Hid (AG w B gb mb (entsTo sg ot pd od n) KA SA Ab Ad kc sc cb cd n m pb ob (w.heap.size + 1) ((List.range n).map keyD) sigs pays others #[.int .u8 7, .int .u8 0, .int .u8 0, .int .u8 0, .int .u8 0, .int .u8 0, .int .u8 0, .int .u8 0, .slice Ab n cb] #[.int .u8 7, .int .u8 0, .int .u8 0, .int .u8 0, .int .u8 0, .int .u8 0, .int .u8 0, .int .u8 0, .slice Ad m cd] #[.slice S1 n1 c1, .slice S2 n2 c2, .slice S3 n3 c3] wr)) (fun _ _ s18 _ => n - (intOf s18).toNat)
  case atStart => exact ⟨0, Nat.zero_le _, rfl, rfl, rfl, HGM, HAM⟩
  case round =>
    clear HGM HAM
    obtain ⟨k, hk, rfl, rfl, rfl, HGR, HAR⟩ := hrel
    by_cases hlt : k < n
    · have v0 : wr.cell? ⟨w.heap.size + 1, 0, none⟩ = some (.slice S1 n1 c1) := blk_cell HAR.out.vbox 0
      have v1 : wr.cell? ⟨w.heap.size + 1, 1, none⟩ = some (.slice S2 n2 c2) := blk_cell HAR.out.vbox 1
      have v2 : wr.cell? ⟨w.heap.size + 1, 2, none⟩ = some (.slice S3 n3 c3) := blk_cell HAR.out.vbox 2
      have hgc : wr.cell? ⟨gg, k, none⟩ = some (.bool false) := (HGR.out.cellAt k (by omega)).trans (by rw [List.getElem?_map, goneTo_at gn n k hlt]; rfl)
      have hgf := HGR.out.frozenAt k
      have HA3 := Lib.hid (at7 S3 n3 c3 k gn wr (H3.out.below HAR.out.bel) (by omega))
      have HGS : Hid ((wr.setCell ⟨gg, k, none⟩ (.bool (atB gn k))).ownsRow w.heap.size 4 1 (.slice (some ⟨gg, 0, none⟩) n n) n ((goneTo gn n (k + 1)).map Value.bool)) := by
        show World.ownsRow _ _ _ _ _ _ _
        rw [goneTo_succ, List.map_set]
        exact (HGR.out.stored k _).1
      have HAS := Lib.hid (HAR.out.stored HGR.out k (.bool (atB gn k)))
      have HGK : Hid ((goneTo gn n (k + 1))[k]? = some (atB gn k)) := goneTo_at' gn n k hlt
      generalize hvg : atB gn k = vg at HGS HAS HA3 HGK
      generalize hva : allTo gn k = va
      generalize hvn : sgnTo sg ot gn pd od k = vn
      generalize hvs : atB sg k = vs
      generalize hvo : atB ot k = vo
      have HVG := Lib.hid hvg
      have HVA := Lib.hid hva
      have HVN := Lib.hid hvn
      have HVS := Lib.hid hvs
      have HVO := Lib.hid hvo
      clear hvg hva hvn hvs hvo
      go_upto_region 16 with (go_at_call 7; refine HA3.out.mono ?_; rintro e w' ⟨rfl, rfl⟩)
      clear v0 v1 v2 hgc hgf HA3 HGR HAR
      generalize wr.setCell ⟨gg, k, none⟩ (.bool vg) = ws at HGS HAS ⊢
      have v0 : ws.cell? ⟨w.heap.size + 1, 0, none⟩ = some (.slice S1 n1 c1) := blk_cell HAS.out.vbox 0
      have v1 : ws.cell? ⟨w.heap.size + 1, 1, none⟩ = some (.slice S2 n2 c2) := blk_cell HAS.out.vbox 1
      have hgc : ws.cell? ⟨gg, k, none⟩ = some (.bool vg) := (HGS.out.cellAt k (by omega)).trans (by rw [List.getElem?_map, HGK.out]; rfl)
      have hki : (k : Int) < (n : Int) := by omega
      have hk0 : (0 : Int) ≤ (k : Int) := by omega
      have HQ1 : Hid (∀ q, Calls Try.prog 7 #[.slice S1 n1 c1, .int .i64 k] (ws.drewN q) fun e w' => e = .returned (.bool vs) ∧ w' = ws.drewN q) := fun q => by rw [← HVS.out]; exact at7q S1 n1 c1 k q sg ws (H1.out.below HAS.out.bel) (by omega)
      have HQ2 : Hid (∀ q, Calls Try.prog 7 #[.slice S2 n2 c2, .int .i64 k] (ws.drewN q) fun e w' => e = .returned (.bool vo) ∧ w' = ws.drewN q) := fun q => by rw [← HVO.out]; exact at7q S2 n2 c2 k q ot ws (H2.out.below HAS.out.bel) (by omega)
      cases vn
      · cases va <;> cases vg
        all_goals as_aux_lemma => (
          go_wp2_with fail
          go_quiet (fail)
          go_wp2_with fail
          go_roundw
          case rel => exact ⟨k + 1, by omega, by go_num, by rw [allTo_succ, HVA.out, HVG.out]; rfl, by rw [sgnTo_succ, HVN.out]; rfl, HGS, Lib.hid (HAS.out.drewN _)⟩
          case measure => simp [intOf]; omega)
      cases vg
      rotate_left
      · cases va
        all_goals as_aux_lemma => (
          go_wp2_with fail
          go_quiet (fail)
          go_wp2_with fail
          go_roundw
          case rel => exact ⟨k + 1, by omega, by go_num, by rw [allTo_succ, HVA.out, HVG.out]; rfl, by rw [sgnTo_succ, HVN.out]; simp [sgnB, HVG.out], HGS, Lib.hid (HAS.out.drewN _)⟩
          case measure => simp [intOf]; omega)
      cases vs
      rotate_left
      · cases va
        all_goals as_aux_lemma => (
          go_wp2_with fail
          go_quiet ((go_at_call 7; exact Calls.quiet_of_same (HQ1.out _)))
          go_wp2_with fail
          go_roundw
          case rel => exact ⟨k + 1, by omega, by go_num, by rw [allTo_succ, HVA.out, HVG.out]; rfl, by rw [sgnTo_succ, HVN.out]; simp [sgnB, HVS.out], HGS, Lib.hid (HAS.out.drewN _)⟩
          case measure => simp [intOf]; omega)
      cases vo
      · cases va
        all_goals as_aux_lemma => (
          go_wp2_with fail
          go_quiet (first | (go_at_call_of 7 (Value.slice S1 n1 c1); exact Calls.quiet_of_same (HQ1.out _)) | (go_at_call_of 7 (Value.slice S2 n2 c2); exact Calls.quiet_of_same (HQ2.out _)))
          go_wp2_with fail
          go_roundw
          case rel => exact ⟨k + 1, by omega, by go_num, by rw [allTo_succ, HVA.out, HVG.out]; rfl, by rw [sgnTo_succ, HVN.out]; simp [sgnB, HVS.out, HVO.out, HVG.out], HGS, Lib.hid (HAS.out.drewN _)⟩
          case measure => simp [intOf]; omega)
      have HT : Hid (∀ W, Below ws.heap.size ws W → W.cell? ⟨pb, 0, none⟩ = some (.int .u8 7) ∧ W.cell? ⟨pb, 1, none⟩ = some (.int .u8 0) ∧ W.cell? ⟨pb, 2, none⟩ = some (.int .u8 0) ∧ W.cell? ⟨pb, 3, none⟩ = some (.int .u8 0) ∧ W.cell? ⟨pb, 4, none⟩ = some (.int .u8 0) ∧ W.cell? ⟨pb, 5, none⟩ = some (.int .u8 0) ∧ W.cell? ⟨pb, 6, none⟩ = some (.int .u8 0) ∧ W.cell? ⟨pb, 7, none⟩ = some (.int .u8 0) ∧ W.cell? ⟨pb, 8, none⟩ = some (.slice Ab n cb) ∧ W.cell? ⟨ob, 0, none⟩ = some (.int .u8 7) ∧ W.cell? ⟨ob, 1, none⟩ = some (.int .u8 0) ∧ W.cell? ⟨ob, 2, none⟩ = some (.int .u8 0) ∧ W.cell? ⟨ob, 3, none⟩ = some (.int .u8 0) ∧ W.cell? ⟨ob, 4, none⟩ = some (.int .u8 0) ∧ W.cell? ⟨ob, 5, none⟩ = some (.int .u8 0) ∧ W.cell? ⟨ob, 6, none⟩ = some (.int .u8 0) ∧ W.cell? ⟨ob, 7, none⟩ = some (.int .u8 0) ∧ W.cell? ⟨ob, 8, none⟩ = some (.slice Ad m cd) ∧ W.cell? ⟨w.heap.size + 1, 0, none⟩ = some (.slice S1 n1 c1) ∧ W.cell? ⟨w.heap.size + 1, 1, none⟩ = some (.slice S2 n2 c2) ∧ W.cell? ⟨gg, k, none⟩ = some (.bool false)) := fun W hW => by
        have ha := HAS.out.later hW
        have hp := ha.pbox
        have ho := ha.obox
        exact ⟨blk_cell hp 0, blk_cell hp 1, blk_cell hp 2, blk_cell hp 3, blk_cell hp 4, blk_cell hp 5, blk_cell hp 6, blk_cell hp 7, blk_cell hp 8, blk_cell ho 0, blk_cell ho 1, blk_cell ho 2, blk_cell ho 3, blk_cell ho 4, blk_cell ho 5, blk_cell ho 6, blk_cell ho 7, blk_cell ho 8, blk_cell ha.vbox 0, blk_cell ha.vbox 1, (hW.cell (p := ⟨gg, k, none⟩) (World.block_lt_of_cell? ws ⟨gg, k, none⟩ hgc)).trans hgc⟩
      have hs0 := HT.out ws (Below.refl _ _)
      have HC1 : Hid (∀ W, Below ws.heap.size ws W → Calls Try.prog 7 #[.slice S1 n1 c1, .int .i64 k] W fun e w' => e = .returned (.bool false) ∧ W = w') := fun W hW => by rw [← HVS.out]; exact at7 S1 n1 c1 k sg W (H1.out.below (HAS.out.later hW).bel) (by omega)
      have HC2 : Hid (∀ W, Below ws.heap.size ws W → Calls Try.prog 7 #[.slice S2 n2 c2, .int .i64 k] W fun e w' => e = .returned (.bool true) ∧ W = w') := fun W hW => by rw [← HVO.out]; exact at7 S2 n2 c2 k ot W (H2.out.below (HAS.out.later hW).bel) (by omega)
      have HC3 : Hid (∀ W, Below ws.heap.size ws W → Calls Try.prog 8 #[.agg #[.int .u8 7, .int .u8 0, .int .u8 0, .int .u8 0, .int .u8 0, .int .u8 0, .int .u8 0, .int .u8 0, .slice Ab n cb]] W fun e w' => e = .returned (dv pd) ∧ Below W.heap.size W w') := fun W hW => by rw [← HPD.out]; exact payDigest8 [7, 0, 0, 0, 0, 0, 0, 0] Ab n cb pays W HD7.out (Sl.of_row (HAS.out.later hW).prow) HPF.out (by omega)
      have HC4 : Hid (∀ W, Below ws.heap.size ws W → Calls Try.prog 8 #[.agg #[.int .u8 7, .int .u8 0, .int .u8 0, .int .u8 0, .int .u8 0, .int .u8 0, .int .u8 0, .int .u8 0, .slice Ad m cd]] W fun e w' => e = .returned (dv od) ∧ Below W.heap.size W w') := fun W hW => by rw [← HOD.out]; exact payDigest8 [7, 0, 0, 0, 0, 0, 0, 0] Ad m cd others W HD7.out (Sl.of_row (HAS.out.later hW).orow) HOF.out (by omega)
      have de : ∀ W, (binOp .eql 30 (dv pd) (dv od)).run Try.prog W = .ok (.bool (decide (pd = od))) W := fun W => dig_eql (by rw [← HPD.out]; exact ofI_dig _) (by rw [← HOD.out]; exact ofI_dig _) W
      have hdw : Below ws.heap.size ws ws.drew := ⟨rfl, rfl, rfl, Nat.le_refl _, fun _ _ => rfl⟩
      have HDW := Lib.hid hdw
      clear hdw HQ1 HQ2 v0 v1
      cases va
      all_goals as_aux_lemma => (
        go_wp2_with fail
        go_region_held3 (fun W => W.cell? ⟨pb, 0, none⟩ = some (.int .u8 7) ∧ W.cell? ⟨pb, 1, none⟩ = some (.int .u8 0) ∧ W.cell? ⟨pb, 2, none⟩ = some (.int .u8 0) ∧ W.cell? ⟨pb, 3, none⟩ = some (.int .u8 0) ∧ W.cell? ⟨pb, 4, none⟩ = some (.int .u8 0) ∧ W.cell? ⟨pb, 5, none⟩ = some (.int .u8 0) ∧ W.cell? ⟨pb, 6, none⟩ = some (.int .u8 0) ∧ W.cell? ⟨pb, 7, none⟩ = some (.int .u8 0) ∧ W.cell? ⟨pb, 8, none⟩ = some (.slice Ab n cb) ∧ W.cell? ⟨ob, 0, none⟩ = some (.int .u8 7) ∧ W.cell? ⟨ob, 1, none⟩ = some (.int .u8 0) ∧ W.cell? ⟨ob, 2, none⟩ = some (.int .u8 0) ∧ W.cell? ⟨ob, 3, none⟩ = some (.int .u8 0) ∧ W.cell? ⟨ob, 4, none⟩ = some (.int .u8 0) ∧ W.cell? ⟨ob, 5, none⟩ = some (.int .u8 0) ∧ W.cell? ⟨ob, 6, none⟩ = some (.int .u8 0) ∧ W.cell? ⟨ob, 7, none⟩ = some (.int .u8 0) ∧ W.cell? ⟨ob, 8, none⟩ = some (.slice Ad m cd) ∧ W.cell? ⟨w.heap.size + 1, 0, none⟩ = some (.slice S1 n1 c1) ∧ W.cell? ⟨w.heap.size + 1, 1, none⟩ = some (.slice S2 n2 c2) ∧ W.cell? ⟨gg, k, none⟩ = some (.bool false)) (first | exact hs0 | exact HT.out _ hq2 | exact HT.out _ hq1) (first | (go_at_call_of 7 (Value.slice S1 n1 c1); refine (HC1.out _ HDW.out).mono ?_; rintro e w' ⟨rfl, rfl⟩) | (go_at_call_of 7 (Value.slice S2 n2 c2); refine (HC2.out _ HDW.out).mono ?_; rintro e w' ⟨rfl, rfl⟩) | (go_at_call_of 8 (Value.slice Ab n cb); refine (HC3.out _ HDW.out).mono ?_; rintro e w1 ⟨rfl, hb1⟩; have hq1 : Below ws.heap.size ws w1 := below_of_drew hb1) | (go_at_call_of 8 (Value.slice Ad m cd); refine (HC4.out _ hq1).mono ?_; rintro e w2 ⟨rfl, hb2⟩; have hq2 : Below ws.heap.size ws w2 := below_trans hq1 hb2 hq1.size))
        all_goals (
          have HA2 := Lib.hid (HAS.out.later hq2)
          have HG2 := Lib.hid (own_belowN HGS.out hq2)
          clear hq1 hq2 hb1 hb2 hs0 HT HC1 HC2 HC3 HC4
          go_wp2_with fail
          go_roundw
          case rel => exact ⟨k + 1, by omega, by go_num, by rw [allTo_succ, HVA.out, HVG.out]; rfl, by rw [sgnTo_succ, HVN.out]; simp [sgnB, HVS.out, HVO.out, HVG.out], HG2, HA2⟩
          case measure => simp [intOf]; omega))
    · obtain rfl : k = n := by omega
      have HC9 := Lib.hid (adds9 pot k PA k c pays wr (HP.out.below HAR.out.bel) HPF.out)
      have HCA : Hid (∀ W, Below wr.heap.size wr W → Calls Try.prog 10 #[.iface 33 (.pointer (some ⟨gb, 0, none⟩)), .agg #[.int .u8 7, .int .u8 0, .int .u8 0, .int .u8 0, .int .u8 0, .int .u8 0, .int .u8 0, .int .u8 0, .slice Ab k cb], .int .i64 pot, .slice KA k kc, .slice SA k sc, .slice (some ⟨gg, 0, none⟩) k k] W fun e w' => e = .returned (.int .i64 (wantV (addsS pot k pays) (allTo gn k) (sgnTo sg ot gn pd od k))) ∧ Below W.heap.size W w') := fun W hW => by
        have ha := HAR.out.later hW
        obtain ⟨bA, bc, bD, hbk⟩ := ha.book
        by_cases h0 : addsS pot k pays = 0
        · have hk2 : 1 ≤ k := by
            rcases Nat.eq_zero_or_pos k with hk0 | hk0
            · subst hk0; simp [addsS] at h0
            · exact hk0
          have h := agree_all gb B mb bc bA bD (entsTo sg ot pd od k) ((List.range k).map keyD) sigs (goneTo gn k k) [7, 0, 0, 0, 0, 0, 0, 0] Ab KA SA (some ⟨gg, 0, none⟩) k cb k kc sc k pot pays W HD7.out (Sl.of_row ha.prow) HPF.out (by omega) hk2 (by omega) h0 hbk (Sln.of_row ha.keys (by simp) (fun x hx => by simp only [List.mem_map, List.mem_range] at hx; obtain ⟨i, hi, rfl⟩ := hx; exact digL_len (keyD_dig (by omega))) (by omega)) (fun x hx => by simp only [List.mem_map, List.mem_range] at hx; obtain ⟨i, hi, rfl⟩ := hx; exact keyD_dig (by omega)) (Sl.of_row ha.sgs) (fun p hp => (ha.sin p hp).ok) (Sl.of_row (own_belowN HGR.out hW))
          rw [HPD.out, agreeC_vote (by omega) HSB.out] at h
          rw [wantV, if_neg (by simpa using h0)]
          exact h
        · rw [wantV, if_pos h0]
          exact agree_adds _ [7, 0, 0, 0, 0, 0, 0, 0] Ab KA SA (some ⟨gg, 0, none⟩) k cb k kc k sc k k pot pays W HD7.out (Sl.of_row ha.prow) HPF.out (by omega) h0
      obtain ⟨V2, HV2, hV2⟩ : ∃ V2 : Int, Hid (∀ W A' c', W.ownsRow w.heap.size 3 1 (.slice Ab k cb) k (pays.map (Value.int .i64)) → Calls Try.prog 10 #[.iface 33 (.pointer (some ⟨gb, 0, none⟩)), .agg #[.int .u8 7, .int .u8 0, .int .u8 0, .int .u8 0, .int .u8 0, .int .u8 0, .int .u8 0, .int .u8 0, .slice Ab k cb], .int .i64 pot, .slice KA k kc, .slice SA k sc, .slice A' (k + 1) c'] W fun e w' => e = .returned (.int .i64 V2) ∧ Below W.heap.size W w') ∧ (V2 != 0) = true := by
        by_cases h0 : addsS pot k pays = 0
        · exact ⟨3, fun W A' c' hr => agree_form _ [7, 0, 0, 0, 0, 0, 0, 0] Ab KA SA A' k cb k kc k sc (k + 1) c' pot pays W HD7.out (Sl.of_row hr) HPF.out (by omega) h0 (by omega) (by omega), by decide⟩
        · exact ⟨_, fun W A' c' hr => agree_adds _ [7, 0, 0, 0, 0, 0, 0, 0] Ab KA SA A' k cb k kc k sc (k + 1) c' pot pays W HD7.out (Sl.of_row hr) HPF.out (by omega) h0, by simpa using h0⟩
      generalize allTo gn k = va at HCA ⊢
      generalize sgnTo sg ot gn pd od k = vn at HCA ⊢
      generalize addsS pot k pays = a at HCA HC9 ⊢
      have HTP : Hid (∀ W : World, W.heap[pb]? = some (.cells #[.int .u8 7, .int .u8 0, .int .u8 0, .int .u8 0, .int .u8 0, .int .u8 0, .int .u8 0, .int .u8 0, .slice Ab k cb] 32 (0, 0)) → W.cell? ⟨pb, 0, none⟩ = some (.int .u8 7) ∧ W.cell? ⟨pb, 1, none⟩ = some (.int .u8 0) ∧ W.cell? ⟨pb, 2, none⟩ = some (.int .u8 0) ∧ W.cell? ⟨pb, 3, none⟩ = some (.int .u8 0) ∧ W.cell? ⟨pb, 4, none⟩ = some (.int .u8 0) ∧ W.cell? ⟨pb, 5, none⟩ = some (.int .u8 0) ∧ W.cell? ⟨pb, 6, none⟩ = some (.int .u8 0) ∧ W.cell? ⟨pb, 7, none⟩ = some (.int .u8 0) ∧ W.cell? ⟨pb, 8, none⟩ = some (.slice Ab k cb)) := fun W hp => ⟨blk_cell hp 0, blk_cell hp 1, blk_cell hp 2, blk_cell hp 3, blk_cell hp 4, blk_cell hp 5, blk_cell hp 6, blk_cell hp 7, blk_cell hp 8⟩
      have hs0 := HTP.out wr HAR.out.pbox
      obtain ⟨i0, hi0, hz0, hs0', hb0⟩ := info_parts boolInfo
      have HDW : Hid (Below wr.heap.size wr wr.drew) := ⟨rfl, rfl, rfl, Nat.le_refl _, fun _ _ => rfl⟩
      by_cases h0 : a = 0
      · subst h0
        cases va
        · cases vn
          · rw [show wantV 0 false false = 16 from rfl] at HCA
            as_aux_lemma => (
            go_upto_region 24 with (go_at_call 9; refine HC9.out.mono ?_; rintro e w' ⟨rfl, rfl⟩)
            go_region_held3 (fun W => W.cell? ⟨pb, 0, none⟩ = some (.int .u8 7) ∧ W.cell? ⟨pb, 1, none⟩ = some (.int .u8 0) ∧ W.cell? ⟨pb, 2, none⟩ = some (.int .u8 0) ∧ W.cell? ⟨pb, 3, none⟩ = some (.int .u8 0) ∧ W.cell? ⟨pb, 4, none⟩ = some (.int .u8 0) ∧ W.cell? ⟨pb, 5, none⟩ = some (.int .u8 0) ∧ W.cell? ⟨pb, 6, none⟩ = some (.int .u8 0) ∧ W.cell? ⟨pb, 7, none⟩ = some (.int .u8 0) ∧ W.cell? ⟨pb, 8, none⟩ = some (.slice Ab k cb)) (first | exact hs0 | exact HTP.out _ hp4 | exact HTP.out _ hp3 | exact HTP.out _ hp2 | exact HTP.out _ ((allocOld _ _ _ (blk_lt hp1)).trans hp1) | exact HTP.out _ hp1) (first | (go_at_call_of 10 (Value.slice (some ⟨gg, 0, none⟩) k k); refine (HCA.out _ HDW.out).mono ?_; rintro e w1 ⟨rfl, hb1⟩; have hq1 : Below wr.heap.size wr w1 := below_of_drew hb1; have hp1 : w1.heap[pb]? = some (.cells #[.int .u8 7, .int .u8 0, .int .u8 0, .int .u8 0, .int .u8 0, .int .u8 0, .int .u8 0, .int .u8 0, .slice Ab k cb] 32 (0, 0)) := (HAR.out.later hq1).pbox; have HG1 := Lib.hid (own_belowN HGR.out hq1); have hz1 : w.heap.size ≤ w1.heap.size := Nat.le_trans HAR.out.bel.size hq1.size; have HA1 := Lib.hid (HAR.out.later hq1)) | (refine step_append_ownG (by rfl) (.tmp 131) (.tmp 132) 25 rfl w.heap.size 4 i0 _ 1 1 Try.underlying25 hi0 hz0 hs0' hb0 (by rfl) (by decide) (.slice (some ⟨gg, 0, none⟩) k k) k _ (by simp [Act.eval, Act.put]) (HG1.out.alloc _) ⟨w1.heap.size, 0, none⟩ 1 1 [.bool false] (by simp [Act.eval, Act.put]) rfl (newCells rfl) (by simp [Value.oneCell']) (by unfold maxLen; omega) (by omega) (by simp; omega) ?_; intro A2 c2 w2 ho2 hg2; have hx2 : Kx (isTy 4) (w1.alloc (.cells #[.bool false] 4)) w2 := Kx.of_grown hg2 (fun g hg => own_row (HG1.out.alloc _) g hg); have HA2 := Lib.hid ((HA1.out.later ((Below.refl _ _).alloc (Nat.le_refl _) _)).kx hx2 ((Below.refl _ _).grown hg2 (by simp; omega) (fun q hq => (HG1.out.lt q hq).1))); have hp2 : w2.heap[pb]? = some (.cells #[.int .u8 7, .int .u8 0, .int .u8 0, .int .u8 0, .int .u8 0, .int .u8 0, .int .u8 0, .int .u8 0, .slice Ab k cb] 32 (0, 0)) := HA2.out.pbox; clear ho2 hg2 hx2) | (go_at_call 10; refine (HV2.out _ A2 c2 HA2.out.prow).mono ?_; rintro e w3 ⟨rfl, hb3⟩; have HA3 := Lib.hid (HA2.out.later hb3); have hp3 : w3.heap[pb]? = some (.cells #[.int .u8 7, .int .u8 0, .int .u8 0, .int .u8 0, .int .u8 0, .int .u8 0, .int .u8 0, .int .u8 0, .slice Ab k cb] 32 (0, 0)) := HA3.out.pbox) | (go_at_call 5; refine (told7 _).mono ?_; rintro e w4 ⟨rfl, hb4⟩; have HA4 := Lib.hid (HA3.out.later hb4); have hp4 : w4.heap[pb]? = some (.cells #[.int .u8 7, .int .u8 0, .int .u8 0, .int .u8 0, .int .u8 0, .int .u8 0, .int .u8 0, .int .u8 0, .slice Ab k cb] 32 (0, 0)) := HA4.out.pbox))
            all_goals (
              go_wp2_with fail
              go_ret
              exact ⟨rfl, HA4.out.bel⟩))
          · rw [show wantV 0 false true = 0 from rfl] at HCA
            as_aux_lemma => (
            go_upto_region 24 with (go_at_call 9; refine HC9.out.mono ?_; rintro e w' ⟨rfl, rfl⟩)
            go_region_held3 (fun W => W.cell? ⟨pb, 0, none⟩ = some (.int .u8 7) ∧ W.cell? ⟨pb, 1, none⟩ = some (.int .u8 0) ∧ W.cell? ⟨pb, 2, none⟩ = some (.int .u8 0) ∧ W.cell? ⟨pb, 3, none⟩ = some (.int .u8 0) ∧ W.cell? ⟨pb, 4, none⟩ = some (.int .u8 0) ∧ W.cell? ⟨pb, 5, none⟩ = some (.int .u8 0) ∧ W.cell? ⟨pb, 6, none⟩ = some (.int .u8 0) ∧ W.cell? ⟨pb, 7, none⟩ = some (.int .u8 0) ∧ W.cell? ⟨pb, 8, none⟩ = some (.slice Ab k cb)) (first | exact hs0 | exact HTP.out _ hp4 | exact HTP.out _ hp3 | exact HTP.out _ hp2 | exact HTP.out _ ((allocOld _ _ _ (blk_lt hp1)).trans hp1) | exact HTP.out _ hp1) (first | (go_at_call_of 10 (Value.slice (some ⟨gg, 0, none⟩) k k); refine (HCA.out _ HDW.out).mono ?_; rintro e w1 ⟨rfl, hb1⟩; have hq1 : Below wr.heap.size wr w1 := below_of_drew hb1; have hp1 : w1.heap[pb]? = some (.cells #[.int .u8 7, .int .u8 0, .int .u8 0, .int .u8 0, .int .u8 0, .int .u8 0, .int .u8 0, .int .u8 0, .slice Ab k cb] 32 (0, 0)) := (HAR.out.later hq1).pbox; have HG1 := Lib.hid (own_belowN HGR.out hq1); have hz1 : w.heap.size ≤ w1.heap.size := Nat.le_trans HAR.out.bel.size hq1.size; have HA1 := Lib.hid (HAR.out.later hq1)) | (refine step_append_ownG (by rfl) (.tmp 131) (.tmp 132) 25 rfl w.heap.size 4 i0 _ 1 1 Try.underlying25 hi0 hz0 hs0' hb0 (by rfl) (by decide) (.slice (some ⟨gg, 0, none⟩) k k) k _ (by simp [Act.eval, Act.put]) (HG1.out.alloc _) ⟨w1.heap.size, 0, none⟩ 1 1 [.bool false] (by simp [Act.eval, Act.put]) rfl (newCells rfl) (by simp [Value.oneCell']) (by unfold maxLen; omega) (by omega) (by simp; omega) ?_; intro A2 c2 w2 ho2 hg2; have hx2 : Kx (isTy 4) (w1.alloc (.cells #[.bool false] 4)) w2 := Kx.of_grown hg2 (fun g hg => own_row (HG1.out.alloc _) g hg); have HA2 := Lib.hid ((HA1.out.later ((Below.refl _ _).alloc (Nat.le_refl _) _)).kx hx2 ((Below.refl _ _).grown hg2 (by simp; omega) (fun q hq => (HG1.out.lt q hq).1))); have hp2 : w2.heap[pb]? = some (.cells #[.int .u8 7, .int .u8 0, .int .u8 0, .int .u8 0, .int .u8 0, .int .u8 0, .int .u8 0, .int .u8 0, .slice Ab k cb] 32 (0, 0)) := HA2.out.pbox; clear ho2 hg2 hx2) | (go_at_call 10; refine (HV2.out _ A2 c2 HA2.out.prow).mono ?_; rintro e w3 ⟨rfl, hb3⟩; have HA3 := Lib.hid (HA2.out.later hb3); have hp3 : w3.heap[pb]? = some (.cells #[.int .u8 7, .int .u8 0, .int .u8 0, .int .u8 0, .int .u8 0, .int .u8 0, .int .u8 0, .int .u8 0, .slice Ab k cb] 32 (0, 0)) := HA3.out.pbox) | (go_at_call 5; refine (told7 _).mono ?_; rintro e w4 ⟨rfl, hb4⟩; have HA4 := Lib.hid (HA3.out.later hb4); have hp4 : w4.heap[pb]? = some (.cells #[.int .u8 7, .int .u8 0, .int .u8 0, .int .u8 0, .int .u8 0, .int .u8 0, .int .u8 0, .int .u8 0, .slice Ab k cb] 32 (0, 0)) := HA4.out.pbox))
            all_goals (
              go_wp2_with fail
              go_ret
              exact ⟨rfl, HA4.out.bel⟩))
        · rw [show wantV 0 true vn = 28 from rfl] at HCA
          as_aux_lemma => (
          go_upto_region 24 with (go_at_call 9; refine HC9.out.mono ?_; rintro e w' ⟨rfl, rfl⟩)
          go_region_held3 (fun W => W.cell? ⟨pb, 0, none⟩ = some (.int .u8 7) ∧ W.cell? ⟨pb, 1, none⟩ = some (.int .u8 0) ∧ W.cell? ⟨pb, 2, none⟩ = some (.int .u8 0) ∧ W.cell? ⟨pb, 3, none⟩ = some (.int .u8 0) ∧ W.cell? ⟨pb, 4, none⟩ = some (.int .u8 0) ∧ W.cell? ⟨pb, 5, none⟩ = some (.int .u8 0) ∧ W.cell? ⟨pb, 6, none⟩ = some (.int .u8 0) ∧ W.cell? ⟨pb, 7, none⟩ = some (.int .u8 0) ∧ W.cell? ⟨pb, 8, none⟩ = some (.slice Ab k cb)) (first | exact hs0 | exact HTP.out _ hp4 | exact HTP.out _ hp3 | exact HTP.out _ hp2 | exact HTP.out _ ((allocOld _ _ _ (blk_lt hp1)).trans hp1) | exact HTP.out _ hp1) (first | (go_at_call_of 10 (Value.slice (some ⟨gg, 0, none⟩) k k); refine (HCA.out _ HDW.out).mono ?_; rintro e w1 ⟨rfl, hb1⟩; have hq1 : Below wr.heap.size wr w1 := below_of_drew hb1; have hp1 : w1.heap[pb]? = some (.cells #[.int .u8 7, .int .u8 0, .int .u8 0, .int .u8 0, .int .u8 0, .int .u8 0, .int .u8 0, .int .u8 0, .slice Ab k cb] 32 (0, 0)) := (HAR.out.later hq1).pbox; have HG1 := Lib.hid (own_belowN HGR.out hq1); have hz1 : w.heap.size ≤ w1.heap.size := Nat.le_trans HAR.out.bel.size hq1.size; have HA1 := Lib.hid (HAR.out.later hq1)) | (refine step_append_ownG (by rfl) (.tmp 131) (.tmp 132) 25 rfl w.heap.size 4 i0 _ 1 1 Try.underlying25 hi0 hz0 hs0' hb0 (by rfl) (by decide) (.slice (some ⟨gg, 0, none⟩) k k) k _ (by simp [Act.eval, Act.put]) (HG1.out.alloc _) ⟨w1.heap.size, 0, none⟩ 1 1 [.bool false] (by simp [Act.eval, Act.put]) rfl (newCells rfl) (by simp [Value.oneCell']) (by unfold maxLen; omega) (by omega) (by simp; omega) ?_; intro A2 c2 w2 ho2 hg2; have hx2 : Kx (isTy 4) (w1.alloc (.cells #[.bool false] 4)) w2 := Kx.of_grown hg2 (fun g hg => own_row (HG1.out.alloc _) g hg); have HA2 := Lib.hid ((HA1.out.later ((Below.refl _ _).alloc (Nat.le_refl _) _)).kx hx2 ((Below.refl _ _).grown hg2 (by simp; omega) (fun q hq => (HG1.out.lt q hq).1))); have hp2 : w2.heap[pb]? = some (.cells #[.int .u8 7, .int .u8 0, .int .u8 0, .int .u8 0, .int .u8 0, .int .u8 0, .int .u8 0, .int .u8 0, .slice Ab k cb] 32 (0, 0)) := HA2.out.pbox; clear ho2 hg2 hx2) | (go_at_call 10; refine (HV2.out _ A2 c2 HA2.out.prow).mono ?_; rintro e w3 ⟨rfl, hb3⟩; have HA3 := Lib.hid (HA2.out.later hb3); have hp3 : w3.heap[pb]? = some (.cells #[.int .u8 7, .int .u8 0, .int .u8 0, .int .u8 0, .int .u8 0, .int .u8 0, .int .u8 0, .int .u8 0, .slice Ab k cb] 32 (0, 0)) := HA3.out.pbox) | (go_at_call 5; refine (told7 _).mono ?_; rintro e w4 ⟨rfl, hb4⟩; have HA4 := Lib.hid (HA3.out.later hb4); have hp4 : w4.heap[pb]? = some (.cells #[.int .u8 7, .int .u8 0, .int .u8 0, .int .u8 0, .int .u8 0, .int .u8 0, .int .u8 0, .int .u8 0, .slice Ab k cb] 32 (0, 0)) := HA4.out.pbox))
          all_goals (
            go_wp2_with fail
            go_ret
            exact ⟨rfl, HA4.out.bel⟩))
      · rw [show wantV a va vn = a from if_pos h0] at HCA
        have h1 : (a == 0) = false := by simpa using h0
        have h2 : (a == a) = true := by simp
        as_aux_lemma => (
        go_upto_region 24 with (go_at_call 9; refine HC9.out.mono ?_; rintro e w' ⟨rfl, rfl⟩)
        go_region_held3 (fun W => W.cell? ⟨pb, 0, none⟩ = some (.int .u8 7) ∧ W.cell? ⟨pb, 1, none⟩ = some (.int .u8 0) ∧ W.cell? ⟨pb, 2, none⟩ = some (.int .u8 0) ∧ W.cell? ⟨pb, 3, none⟩ = some (.int .u8 0) ∧ W.cell? ⟨pb, 4, none⟩ = some (.int .u8 0) ∧ W.cell? ⟨pb, 5, none⟩ = some (.int .u8 0) ∧ W.cell? ⟨pb, 6, none⟩ = some (.int .u8 0) ∧ W.cell? ⟨pb, 7, none⟩ = some (.int .u8 0) ∧ W.cell? ⟨pb, 8, none⟩ = some (.slice Ab k cb)) (first | exact hs0 | exact HTP.out _ hp4 | exact HTP.out _ hp3 | exact HTP.out _ hp2 | exact HTP.out _ ((allocOld _ _ _ (blk_lt hp1)).trans hp1) | exact HTP.out _ hp1) (first | (go_at_call_of 10 (Value.slice (some ⟨gg, 0, none⟩) k k); refine (HCA.out _ HDW.out).mono ?_; rintro e w1 ⟨rfl, hb1⟩; have hq1 : Below wr.heap.size wr w1 := below_of_drew hb1; have hp1 : w1.heap[pb]? = some (.cells #[.int .u8 7, .int .u8 0, .int .u8 0, .int .u8 0, .int .u8 0, .int .u8 0, .int .u8 0, .int .u8 0, .slice Ab k cb] 32 (0, 0)) := (HAR.out.later hq1).pbox; have HG1 := Lib.hid (own_belowN HGR.out hq1); have hz1 : w.heap.size ≤ w1.heap.size := Nat.le_trans HAR.out.bel.size hq1.size; have HA1 := Lib.hid (HAR.out.later hq1)) | (refine step_append_ownG (by rfl) (.tmp 131) (.tmp 132) 25 rfl w.heap.size 4 i0 _ 1 1 Try.underlying25 hi0 hz0 hs0' hb0 (by rfl) (by decide) (.slice (some ⟨gg, 0, none⟩) k k) k _ (by simp [Act.eval, Act.put]) (HG1.out.alloc _) ⟨w1.heap.size, 0, none⟩ 1 1 [.bool false] (by simp [Act.eval, Act.put]) rfl (newCells rfl) (by simp [Value.oneCell']) (by unfold maxLen; omega) (by omega) (by simp; omega) ?_; intro A2 c2 w2 ho2 hg2; have hx2 : Kx (isTy 4) (w1.alloc (.cells #[.bool false] 4)) w2 := Kx.of_grown hg2 (fun g hg => own_row (HG1.out.alloc _) g hg); have HA2 := Lib.hid ((HA1.out.later ((Below.refl _ _).alloc (Nat.le_refl _) _)).kx hx2 ((Below.refl _ _).grown hg2 (by simp; omega) (fun q hq => (HG1.out.lt q hq).1))); have hp2 : w2.heap[pb]? = some (.cells #[.int .u8 7, .int .u8 0, .int .u8 0, .int .u8 0, .int .u8 0, .int .u8 0, .int .u8 0, .int .u8 0, .slice Ab k cb] 32 (0, 0)) := HA2.out.pbox; clear ho2 hg2 hx2) | (go_at_call 10; refine (HV2.out _ A2 c2 HA2.out.prow).mono ?_; rintro e w3 ⟨rfl, hb3⟩; have HA3 := Lib.hid (HA2.out.later hb3); have hp3 : w3.heap[pb]? = some (.cells #[.int .u8 7, .int .u8 0, .int .u8 0, .int .u8 0, .int .u8 0, .int .u8 0, .int .u8 0, .int .u8 0, .slice Ab k cb] 32 (0, 0)) := HA3.out.pbox) | (go_at_call 5; refine (told7 _).mono ?_; rintro e w4 ⟨rfl, hb4⟩; have HA4 := Lib.hid (HA3.out.later hb4); have hp4 : w4.heap[pb]? = some (.cells #[.int .u8 7, .int .u8 0, .int .u8 0, .int .u8 0, .int .u8 0, .int .u8 0, .int .u8 0, .int .u8 0, .slice Ab k cb] 32 (0, 0)) := HA4.out.pbox))
        all_goals (
          go_wp2_with fail
          go_ret
          exact ⟨rfl, HA4.out.bel⟩))

theorem walk {H : Type} {enc : TypeId × Value → H} {base : Nat} {d1 d2 : DataW H} {p1 p2 : List MemPlace} (pot : Int) (v1 v2 : Value) (w : World) (_ : (Lit.int .i64 pot).wf = true)
    (hv1 : Value.okWide Try.prog w .any base 24 v1) (k1 : DataW.Trod enc Try.prog w 0 (fun _ => true) true 24 v1 d1 p1)
    (hv2 : Value.okWide Try.prog w .any base 27 v2) (k2 : DataW.Trod enc Try.prog w 0 (fun _ => true) true 27 v2 d2 p2) :
    Calls Try.prog 3 #[.int .i64 pot, v1, v2] w fun e w' => e = .returned (.bool true) ∧ Below w.heap.size w w' := by
  obtain ⟨A, B, n, c, m, e, xs, ys, rfl, h1, h2, h3, j1, j2, j3⟩ := both_in hv1 k1
  obtain ⟨S1, S2, S3, n1, c1, n2, c2, n3, c3, x, y, z, rfl, q1, q2, q3⟩ := votes_in hv2 k2
  exact walk0 pot A B S1 S2 S3 n c m e n1 c1 n2 c2 n3 c3 xs ys x y z w h1 h2 h3 j1 j2 j3 q1 q2 q3

set_option maxRecDepth 100000 in
theorem lifted (os : Os) (started : os.Started) (H : Type) (enc : TypeId × Value → H) :
    ReturnsInHanded {} Try.checked os 3 .any (Rows.closeAgreesSpec.pre6 enc Try.prog Try.f3 Rows.closeAgreesRow.domain false) (Rows.closeAgreesSpec.post enc Try.prog Try.f3 false true false false) := by
  refine returnsInHanded_of_change (C := Try.checked) own_knob started (by kernel_rfl) Try.func3
    (ChangeSpec.witness6 (enc := enc) (C := Try.checked) false ⟨#[], #[.int .i64 0, .agg #[.slice none 0 0, .slice none 0 0], .agg #[.slice none 0 0, .slice none 0 0, .slice none 0 0]], []⟩ 8 (by kernel_rfl) (by kernel_rfl) (by kernel_rfl) (by kernel_rfl)) ?_
  intro W base args ds gs before hval0 hW hcnd _
  have hval : ∀ (j : Nat) t v, Try.f3.params[j]? = some t → args[j]? = some v → Value.okWide Try.prog W .any base t v := hval0
  have hW' := hW
  obtain ⟨p, q, hA0, hV, rfl, hfz, hnd⟩ := hW
  have hA : DataW.TrodAll enc Try.prog W 0 (fun _ => true) true Try.f3.params.toList args.toList ds p := hA0
  rw [Try.params3] at hA hval
  obtain ⟨v0, vs0, d0, ds0, p0, q0, hargs, rfl, rfl, h0, r0⟩ := trodAll_cons hA
  obtain ⟨v1, vs1, d1, ds1, p1, q1, rfl, rfl, rfl, h1, r1⟩ := trodAll_cons r0
  obtain ⟨v2, vs2, d2, ds2, p2, q2, rfl, rfl, rfl, h2, r2⟩ := trodAll_cons r1
  obtain ⟨rfl, rfl, rfl⟩ := trodAll_nil r2
  obtain rfl : args = #[v0, v1, v2] := by cases args; simp_all
  obtain ⟨rfl, rfl⟩ := trodVars_none hV
  obtain ⟨a0, rfl, rfl, rfl, w0⟩ := open_int Try.underlying3 (hval 0 3 v0 rfl rfl) h0
  have k1 := h1
  have lt1 : ∀ x ∈ p1, x.block < W.heap.size := by obtain ⟨m, hm⟩ := k1; exact DataW.trod_lt m _ _ _ hm
  have ok1 := hval 1 24 v1 rfl rfl
  have k2 := h2
  have lt2 : ∀ x ∈ p2, x.block < W.heap.size := by obtain ⟨m, hm⟩ := k2; exact DataW.trod_lt m _ _ _ hm
  have ok2 := hval 2 27 v2 rfl rfl
  clear hA0 hval0
  refine (walk a0 v1 v2 W w0 ok1 k1 ok2 k2).mono fun e W' ⟨he, bel⟩ => ?_
  subst he
  exact ⟨_, rfl, _, _, _, [], _, [], hW', trodAll_mk1 (shut_bool Try.underlying4 _), (trodAll_cons_mk (shut_int Try.underlying3 w0) (trodAll_cons_mk (Below.trod laid_out (by kernel_rfl) (of_decide_eq_true (by kernel_rfl)) k1 bel lt1) (trodAll_cons_mk (Below.trod laid_out (by kernel_rfl) (of_decide_eq_true (by kernel_rfl)) k2 bel lt2) trodAll_mk0))), rfl, bel.frame _, fun h => by cases h⟩

theorem over : Rows.closeAgreesRow.holds Try.pinned (OpenSpec.ofChange Rows.closeAgreesSpec) :=
  OpenClaim.holds_of_wide 3 Try.f3 rfl rfl rfl rfl rfl rfl rfl ⟨rfl, rfl, rfl, rfl, rfl⟩ rfl rfl rfl rfl rfl (by kernel_rfl) Try.func3 (by kernel_rfl)
    (of_decide_eq_true (by kernel_rfl)) (by unfold Func.isWrapper; first | (rw [if_pos (by decide +kernel)]; kernel_rfl) | (rw [if_neg (by decide +kernel)]; exact ⟨rfl, rfl⟩))
    (fun os started H enc _ => lifted os started H enc)

/-- The statement. -/
theorem proved : Rows.CloseAgreesSaid := over
#print axioms proved
end Go.Proofs.Ytpnegfocmaecbaa.closeAgrees
