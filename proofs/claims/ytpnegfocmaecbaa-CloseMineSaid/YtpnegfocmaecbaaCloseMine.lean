/- CloseMine holds: for every input the law returns true and its arguments read afterwards as before. No condition. -/
import Derived.Test.YtpnegfocmaecbaaMine
import Derived.Deep.RegionLaw
import Derived.Deep.DeepCutAuto
import Derived.Deep.RegionHeld3
import Derived.RegionTactic
import Derived.ChangeAlike
namespace Go.Proofs.Ytpnegfocmaecbaa.closeMine
open Go.ChangeShapes Go.WideShapes Go.ChangeAt Go.RowKit
open Go.ChangeMaps (open_string shut_string)
set_option linter.unusedVariables false

def MV (w : World) (n m : Nat) (A1 A2 : Option Addr) (c1 c2 pb ob vb g1 g2 g3 : Nat) (ps os : List Int) (pcs ocs : Array Value) (l1 l2 l3 : List Bool) (wx : World) : Prop :=
  Below w.heap.size w wx ∧ wx.ownsRow w.heap.size 3 1 (.slice A1 n c1) n (ps.map (Value.int .i64)) ∧ wx.ownsRow w.heap.size 3 1 (.slice A2 m c2) m (os.map (Value.int .i64)) ∧ wx.heap[pb]? = some (.cells pcs 32 (0, 0)) ∧ wx.heap[ob]? = some (.cells ocs 32 (0, 0)) ∧
  wx.heap[vb]? = some (.cells #[.slice (some ⟨g1, 0, none⟩) n n, .slice (some ⟨g2, 0, none⟩) n n, .slice (some ⟨g3, 0, none⟩) n n] 27 (0, 0)) ∧ wx.heap[g1]? = some (.cells (bcells l1) 4 (0, 0)) ∧ wx.heap[g2]? = some (.cells (bcells l2) 4 (0, 0)) ∧ wx.heap[g3]? = some (.cells (bcells l3) 4 (0, 0)) ∧ (w.heap.size ≤ g1 ∧ w.heap.size ≤ g2 ∧ w.heap.size ≤ g3 ∧ g1 ≠ g2 ∧ g1 ≠ g3 ∧ g2 ≠ g3)
theorem MV.later {w : World} {n m : Nat} {A1 A2 : Option Addr} {c1 c2 pb ob vb g1 g2 g3 : Nat} {ps os : List Int} {pcs ocs : Array Value} {l1 l2 l3 : List Bool} {wx wy : World} (h : MV w n m A1 A2 c1 c2 pb ob vb g1 g2 g3 ps os pcs ocs l1 l2 l3 wx) (hb : Below wx.heap.size wx wy) : MV w n m A1 A2 c1 c2 pb ob vb g1 g2 g3 ps os pcs ocs l1 l2 l3 wy := by
  obtain ⟨r1, r2, r3, r4, r5, r6, r7, r8, r9, r⟩ := h
  exact ⟨r1.trans (hb.mono r1.size), own_belowN r2 hb, own_belowN r3 hb, (hb.block _ (blk_lt r4)).trans r4, (hb.block _ (blk_lt r5)).trans r5, (hb.block _ (blk_lt r6)).trans r6, (hb.block _ (blk_lt r7)).trans r7, (hb.block _ (blk_lt r8)).trans r8, (hb.block _ (blk_lt r9)).trans r9, r⟩
set_option maxRecDepth 100000 in
set_option maxHeartbeats 4000000 in
theorem walk0 (PA OA : Option Addr) (n c m d q : Nat) (pays others : List Int) (w : World) (hq : q ≤ 255) (hp : Sl (Value.int .i64) w PA n pays) (hpf : Fits pays) (hpn : PA = none → c = 0) (ho : Sl (Value.int .i64) w OA m others) (hof : Fits others) (hon : OA = none → d = 0) :
    Calls Try.prog 4 #[.slice PA n c, .slice OA m d, .int .u8 q] w fun e w' => e = .returned (.bool true) ∧ Below w.heap.size w w' := by
  have hpm := hp.max
  have hom := ho.max
  have HP := Lib.hid hp
  have HO := Lib.hid ho
  have HPF := Lib.hid hpf
  have HOF := Lib.hid hof
  have HPN := Lib.hid hpn
  have HON := Lib.hid hon
  clear hp ho hpf hof hpn hon
  by_cases hn1 : n < 2
  · as_aux_lemma =>
    have hn1' : decide ((n : Int) < 2) = true := by simp; omega
    go_enter Try.func4, Try.ntmps4
    go_wp2_with (go_at_call 5; refine (told7 _).mono ?_; rintro e w' ⟨rfl, hb⟩)
    go_ret
    exact ⟨rfl, hb⟩
  have hn1' : decide ((n : Int) < 2) = false := by simp; omega
  by_cases hn : 8 < n
  · as_aux_lemma =>
    go_enter Try.func4, Try.ntmps4
    go_wp2_with (go_at_call 5; refine (told7 _).mono ?_; rintro e w' ⟨rfl, hb⟩)
    go_ret
    exact ⟨rfl, hb⟩
  have hn' : decide (8 < (n : Int)) = false := by simp; omega
  by_cases hm : 8 < m
  · as_aux_lemma =>
    go_enter Try.func4, Try.ntmps4
    go_wp2_with (go_at_call 5; refine (told7 _).mono ?_; rintro e w' ⟨rfl, hb⟩)
    go_ret
    exact ⟨rfl, hb⟩
  have hm' : decide (8 < (m : Int)) = false := by simp; omega
  go_enter Try.func4, Try.ntmps4
  have hza : w.heap.size ≤ w.heap.size := Nat.le_refl _
  have HOA : Hid ((w.alloc (.cells #[] 3)).ownsRow w.heap.size 3 1 (.slice (some ⟨w.heap.size, 0, none⟩) 0 0) 0 (([] : List Int).map (Value.int .i64))) := own_lit (Value.int .i64) w w.heap.size #[] 3 0 [] hza rfl (by unfold maxLen; omega) rfl
  have HBa : Hid (Below w.heap.size w (w.alloc (.cells #[] 3))) := (Below.refl _ _).alloc hza _
  have hza1 : w.heap.size ≤ (w.alloc (.cells #[] 3)).heap.size := HBa.out.size
  go_upto_region 5 with (at_builtin; refine wpList_app tyInts rfl _ _ rfl (oneInt .i64) w.heap.size _ 0 [] rfl HOA.out PA n c pays rfl (HP.out.below HBa.out) HPN.out (by unfold maxLen; omega) (by omega) hza1 ?_; intro Ab cb Wb hob hgb hatb)
  have HPb : Hid (Wb.ownsRow w.heap.size 3 1 (.slice Ab n cb) n (pays.map (Value.int .i64))) := by
    have := hob
    rw [Nat.zero_add, List.nil_append] at this
    exact this
  have hxb : Kx (isTy 3) (w.alloc (.cells #[] 3)) Wb := Kx.of_grown hgb (fun g hg => own_row HOA.out g hg)
  have HBb : Hid (Below w.heap.size w Wb) := HBa.out.grown hgb hza1 (fun k hk => (HOA.out.lt k hk).1)
  have hzb := HBb.out.size
  have HPc : Hid ((Wb.alloc (.cells #[.int .u8 7, .int .u8 0, .int .u8 0, .int .u8 0, .int .u8 0, .int .u8 0, .int .u8 0, .int .u8 0, .slice Ab n cb] 32)).ownsRow w.heap.size 3 1 (.slice Ab n cb) n (pays.map (Value.int .i64))) := HPb.out.alloc _
  have HBc : Hid (Below w.heap.size w (Wb.alloc (.cells #[.int .u8 7, .int .u8 0, .int .u8 0, .int .u8 0, .int .u8 0, .int .u8 0, .int .u8 0, .int .u8 0, .slice Ab n cb] 32))) := HBb.out.alloc hzb _
  have HGc : Hid ((Wb.alloc (.cells #[.int .u8 7, .int .u8 0, .int .u8 0, .int .u8 0, .int .u8 0, .int .u8 0, .int .u8 0, .int .u8 0, .slice Ab n cb] 32)).heap[Wb.heap.size]? = some (.cells #[.int .u8 7, .int .u8 0, .int .u8 0, .int .u8 0, .int .u8 0, .int .u8 0, .int .u8 0, .int .u8 0, .slice Ab n cb] 32 (0, 0))) := heap_alloc_new Wb _
  clear hob hgb hatb hxb HPb HOA HBa hza1
  generalize hpb : Wb.heap.size = pb
  rw [hpb] at HGc hzb
  generalize Wb.alloc (.cells #[.int .u8 7, .int .u8 0, .int .u8 0, .int .u8 0, .int .u8 0, .int .u8 0, .int .u8 0, .int .u8 0, .slice Ab n cb] 32) = Wc at HPc HBc HGc ⊢
  clear HBb hza hpb
  have hzc := HBc.out.size
  have HOC : Hid ((Wc.alloc (.cells #[] 3)).ownsRow w.heap.size 3 1 (.slice (some ⟨Wc.heap.size, 0, none⟩) 0 0) 0 (([] : List Int).map (Value.int .i64))) := own_lit (Value.int .i64) Wc w.heap.size #[] 3 0 [] hzc rfl (by unfold maxLen; omega) rfl
  have HBc1 : Hid (Below w.heap.size w (Wc.alloc (.cells #[] 3))) := HBc.out.alloc hzc _
  have hzc1 : w.heap.size ≤ (Wc.alloc (.cells #[] 3)).heap.size := HBc1.out.size
  go_upto_region 6 with (at_builtin; refine wpList_app tyInts rfl _ _ rfl (oneInt .i64) w.heap.size _ 0 [] rfl HOC.out OA m d others rfl (HO.out.below HBc1.out) HON.out (by unfold maxLen; omega) (by omega) hzc1 ?_; intro Ad cd Wd hod hgd hatd)
  have HOd : Hid (Wd.ownsRow w.heap.size 3 1 (.slice Ad m cd) m (others.map (Value.int .i64))) := by
    have := hod
    rw [Nat.zero_add, List.nil_append] at this
    exact this
  have hgd' : (Wc.alloc (.cells #[] 3)).grownBy Wd (some Wc.heap.size) := hgd
  have HPd : Hid (Wd.ownsRow w.heap.size 3 1 (.slice Ab n cb) n (pays.map (Value.int .i64))) := (HPc.out.alloc _).kept hgd' (by
    rcases hv : (Value.slice Ab n cb).ownBlock with _ | g
    · exact .inl rfl
    · exact .inr (fun e => by injection e with e; have := (HPc.out.lt g hv).2; omega))
  have hxd : Kx (isTy 3) (Wc.alloc (.cells #[] 3)) Wd := Kx.of_grown hgd (fun g hg => own_row HOC.out g hg)
  have HGd : Hid (Wd.heap[pb]? = some (.cells #[.int .u8 7, .int .u8 0, .int .u8 0, .int .u8 0, .int .u8 0, .int .u8 0, .int .u8 0, .int .u8 0, .slice Ab n cb] 32 (0, 0))) := hxd.block _ _ ((allocOld _ _ _ (blk_lt HGc.out)).trans HGc.out) (isTy_ne (by decide) _ _)
  have HBd : Hid (Below w.heap.size w Wd) := HBc1.out.grown hgd hzc1 (fun k hk => (HOC.out.lt k hk).1)
  have hzd := HBd.out.size
  have HPe := Lib.hid (HPd.out.alloc (.cells #[.int .u8 8, .int .u8 0, .int .u8 0, .int .u8 0, .int .u8 0, .int .u8 0, .int .u8 0, .int .u8 0, .slice Ad m cd] 32))
  have HOe := Lib.hid (HOd.out.alloc (.cells #[.int .u8 8, .int .u8 0, .int .u8 0, .int .u8 0, .int .u8 0, .int .u8 0, .int .u8 0, .int .u8 0, .slice Ad m cd] 32))
  have HGe : Hid ((Wd.alloc (.cells #[.int .u8 8, .int .u8 0, .int .u8 0, .int .u8 0, .int .u8 0, .int .u8 0, .int .u8 0, .int .u8 0, .slice Ad m cd] 32)).heap[pb]? = some (.cells #[.int .u8 7, .int .u8 0, .int .u8 0, .int .u8 0, .int .u8 0, .int .u8 0, .int .u8 0, .int .u8 0, .slice Ab n cb] 32 (0, 0))) := (allocOld _ _ _ (blk_lt HGd.out)).trans HGd.out
  have HHe : Hid ((Wd.alloc (.cells #[.int .u8 8, .int .u8 0, .int .u8 0, .int .u8 0, .int .u8 0, .int .u8 0, .int .u8 0, .int .u8 0, .slice Ad m cd] 32)).heap[Wd.heap.size]? = some (.cells #[.int .u8 8, .int .u8 0, .int .u8 0, .int .u8 0, .int .u8 0, .int .u8 0, .int .u8 0, .int .u8 0, .slice Ad m cd] 32 (0, 0))) := heap_alloc_new Wd _
  have HBe : Hid (Below w.heap.size w (Wd.alloc (.cells #[.int .u8 8, .int .u8 0, .int .u8 0, .int .u8 0, .int .u8 0, .int .u8 0, .int .u8 0, .int .u8 0, .slice Ad m cd] 32))) := HBd.out.alloc hzd _
  clear hod hgd hgd' hatd hxd HOd HPd HGd HOC HBc1 hzc1 HPc HBc HGc
  generalize hob : Wd.heap.size = ob
  rw [hob] at HHe hzd
  generalize Wd.alloc (.cells #[.int .u8 8, .int .u8 0, .int .u8 0, .int .u8 0, .int .u8 0, .int .u8 0, .int .u8 0, .int .u8 0, .slice Ad m cd] 32) = We at HPe HOe HGe HHe HBe ⊢
  clear HBd hob hzc
  have hme0 : (q : Int) % (n : Int) = ((q % n : Nat) : Int) := by simp
  have hme1 : q % n < n := Nat.mod_lt _ (by omega)
  rw [hme0]
  clear hme0
  generalize q % n = me at hme1 ⊢
  go_cut [10] (fun s10 wx => ∃ vb g1 g2 g3, s10 = .pointer (some ⟨vb, 0, none⟩) ∧ MV w n m Ab Ad cb cd pb ob vb g1 g2 g3 pays others #[.int .u8 7, .int .u8 0, .int .u8 0, .int .u8 0, .int .u8 0, .int .u8 0, .int .u8 0, .int .u8 0, .slice Ab n cb] #[.int .u8 8, .int .u8 0, .int .u8 0, .int .u8 0, .int .u8 0, .int .u8 0, .int .u8 0, .int .u8 0, .slice Ad m cd] (List.replicate n false) (List.replicate n false) (List.replicate n false) wx)
  case first =>
    have hmk := run_mkb n (by omega)
    generalize hbz : bcells (List.replicate n false) = bz at hmk
    have HBZ := Lib.hid hbz
    clear hbz
    have HZE : Hid (w.heap.size ≤ We.heap.size) := HBe.out.size
    go_region
    all_goals as_aux_lemma => (
      go_wp2_with fail
      go_meet
      apply Exists.intro
      apply Exists.intro
      apply Exists.intro
      apply Exists.intro
      refine ⟨rfl, ?_⟩
      have hze := HZE.out
      have hb4 : ∀ (a b c d : Obj), Below We.heap.size We (((((We.alloc a).alloc b).alloc c).alloc d)).drew := fun a b c d => ((((Below.refl We.heap.size We).alloc (Nat.le_refl _) a).alloc (by simp) b).alloc (by simp; omega) c).alloc (by simp; omega) d |> fun h => ⟨h.os, h.tape, h.output, h.size, h.block⟩
      refine ⟨HBe.out.trans ((hb4 _ _ _ _).mono hze), own_belowN HPe.out (hb4 _ _ _ _), own_belowN HOe.out (hb4 _ _ _ _), ((hb4 _ _ _ _).block _ (blk_lt HGe.out)).trans HGe.out, ((hb4 _ _ _ _).block _ (blk_lt HHe.out)).trans HHe.out, ?_, ?_, ?_, ?_, ?_⟩
      · repeat' (first | exact alloc_at rfl | (refine alloc_at ?_; simp; done) | refine (allocOld _ _ _ (by simp; try omega)).trans ?_)
      · rw [HBZ.out]; repeat' (first | exact alloc_at rfl | (refine alloc_at ?_; simp; done) | refine (allocOld _ _ _ (by simp; try omega)).trans ?_)
      · rw [HBZ.out]; repeat' (first | exact alloc_at rfl | (refine alloc_at ?_; simp; done) | refine (allocOld _ _ _ (by simp; try omega)).trans ?_)
      · rw [HBZ.out]; repeat' (first | exact alloc_at rfl | (refine alloc_at ?_; simp; done) | refine (allocOld _ _ _ (by simp; try omega)).trans ?_)
      · omega)
  case rest =>
    obtain ⟨vb, g1, g2, g3, rfl, hmv⟩ := hcut
    have HMV := Lib.hid hmv
    clear hmv HPe HOe HGe HHe HBe
    rename_i wc _
    go_wp2_with fail
    go_loopw [11] (fun s11 wr => ∃ k : Nat, k ≤ n ∧ s11 = .int .i64 k ∧ Hid (MV w n m Ab Ad cb cd pb ob vb g1 g2 g3 pays others #[.int .u8 7, .int .u8 0, .int .u8 0, .int .u8 0, .int .u8 0, .int .u8 0, .int .u8 0, .int .u8 0, .slice Ab n cb] #[.int .u8 8, .int .u8 0, .int .u8 0, .int .u8 0, .int .u8 0, .int .u8 0, .int .u8 0, .int .u8 0, .slice Ad m cd] (sgM n me k) (List.replicate n false) (List.replicate n false) wr)) (fun s11 _ => n - (intOf s11).toNat)
    case atStart => exact ⟨0, Nat.zero_le _, rfl, (by show MV _ _ _ _ _ _ _ _ _ _ _ _ _ _ _ _ _ _ _ _ _; rw [sgM_zero]; exact HMV.out)⟩
    case round =>
      clear HMV
      obtain ⟨k, hk, rfl, HR⟩ := hrel
      obtain ⟨r1, r2, r3, r4, r5, r6, r7, r8, r9, r10, r11, r12, r13, r14, r15⟩ := HR.out
      by_cases hlt : k < n
      · have v0 : wr.cell? ⟨vb, 0, none⟩ = some (.slice (some ⟨g1, 0, none⟩) n n) := blk_cell r6 0
        have hc : wr.cell? ⟨g1, k, none⟩ = some (.bool false) := (blk_cell r7 k).trans (bcells_at (sgM_at n me k hlt))
        have hfz := blk_frozen r7 k
        have HN : Hid (MV w n m Ab Ad cb cd pb ob vb g1 g2 g3 pays others #[.int .u8 7, .int .u8 0, .int .u8 0, .int .u8 0, .int .u8 0, .int .u8 0, .int .u8 0, .int .u8 0, .slice Ab n cb] #[.int .u8 8, .int .u8 0, .int .u8 0, .int .u8 0, .int .u8 0, .int .u8 0, .int .u8 0, .int .u8 0, .slice Ad m cd] (sgM n me (k + 1)) (List.replicate n false) (List.replicate n false) (wr.setCell ⟨g1, k, none⟩ (.bool (decide (k ≠ me))))) := ⟨r1.setCell r10 _, own_setOther r2 r7 (by decide) _ _, own_setOther r3 r7 (by decide) _ _, (Below.heap_setCell _ _ _ _ (blk_ne r4 r7 (by decide))).trans r4, (Below.heap_setCell _ _ _ _ (blk_ne r5 r7 (by decide))).trans r5, (Below.heap_setCell _ _ _ _ (blk_ne r6 r7 (by decide))).trans r6, by rw [sgM_succ, ← bcells_set]; exact blk_set r7 k _, (Below.heap_setCell _ _ _ _ (Ne.symm r13)).trans r8, (Below.heap_setCell _ _ _ _ (Ne.symm r14)).trans r9, r10, r11, r12, r13, r14, r15⟩
        have hb1 : ((k : Int) != (me : Int)) = decide (k ≠ me) := by rw [Bool.eq_iff_iff]; simp; omega
        have hb2 : (k != me) = decide (k ≠ me) := by rw [Bool.eq_iff_iff]; simp
        generalize hvv : decide (k ≠ me) = vv at HN hb1 hb2
        clear r1 r2 r3 r4 r5 r6 r7 r8 r9 r10 r11 r12 r13 r14 r15 hvv
        go_wp2_with fail
        go_roundw
        case rel => exact ⟨k + 1, by omega, by go_num, HN⟩
        case measure => simp [intOf]; omega
      · obtain rfl : k = n := by omega
        have v1 : wr.cell? ⟨vb, 1, none⟩ = some (.slice (some ⟨g2, 0, none⟩) k k) := blk_cell r6 1
        have hc : wr.cell? ⟨g2, me, none⟩ = some (.bool false) := (blk_cell r8 me).trans (bcells_at (by simp [hme1]))
        have hfz := blk_frozen r8 me
        have hmi : (me : Int) < (k : Int) := by omega
        have hm0 : (0 : Int) ≤ (me : Int) := by omega
        have HN : Hid (MV w k m Ab Ad cb cd pb ob vb g1 g2 g3 pays others #[.int .u8 7, .int .u8 0, .int .u8 0, .int .u8 0, .int .u8 0, .int .u8 0, .int .u8 0, .int .u8 0, .slice Ab k cb] #[.int .u8 8, .int .u8 0, .int .u8 0, .int .u8 0, .int .u8 0, .int .u8 0, .int .u8 0, .int .u8 0, .slice Ad m cd] (sgM k me k) (otM k me) (List.replicate k false) (wr.setCell ⟨g2, me, none⟩ (.bool true))) := ⟨r1.setCell r11 _, own_setOther r2 r8 (by decide) _ _, own_setOther r3 r8 (by decide) _ _, (Below.heap_setCell _ _ _ _ (blk_ne r4 r8 (by decide))).trans r4, (Below.heap_setCell _ _ _ _ (blk_ne r5 r8 (by decide))).trans r5, (Below.heap_setCell _ _ _ _ (blk_ne r6 r8 (by decide))).trans r6, (Below.heap_setCell _ _ _ _ r13).trans r7, by unfold otM; rw [← bcells_set]; exact blk_set r8 me _, (Below.heap_setCell _ _ _ _ (Ne.symm r15)).trans r9, r10, r11, r12, r13, r14, r15⟩
        clear r1 r2 r3 r4 r5 r6 r7 r8 r9 r10 r11 r12 r13 r14 r15
        go_upto_region 12 with fail
        clear v1 hc hfz HR
        generalize wr.setCell ⟨g2, me, none⟩ (.bool true) = ws at HN ⊢
        obtain ⟨r1, r2, r3, r4, r5, r6, r7, r8, r9, r10, r11, r12, r13, r14, r15⟩ := HN.out
        have HT : Hid (∀ W, Below ws.heap.size ws W → W.cell? ⟨pb, 0, none⟩ = some (.int .u8 7) ∧ W.cell? ⟨pb, 1, none⟩ = some (.int .u8 0) ∧ W.cell? ⟨pb, 2, none⟩ = some (.int .u8 0) ∧ W.cell? ⟨pb, 3, none⟩ = some (.int .u8 0) ∧ W.cell? ⟨pb, 4, none⟩ = some (.int .u8 0) ∧ W.cell? ⟨pb, 5, none⟩ = some (.int .u8 0) ∧ W.cell? ⟨pb, 6, none⟩ = some (.int .u8 0) ∧ W.cell? ⟨pb, 7, none⟩ = some (.int .u8 0) ∧ W.cell? ⟨pb, 8, none⟩ = some (.slice Ab k cb) ∧ W.cell? ⟨ob, 0, none⟩ = some (.int .u8 8) ∧ W.cell? ⟨ob, 1, none⟩ = some (.int .u8 0) ∧ W.cell? ⟨ob, 2, none⟩ = some (.int .u8 0) ∧ W.cell? ⟨ob, 3, none⟩ = some (.int .u8 0) ∧ W.cell? ⟨ob, 4, none⟩ = some (.int .u8 0) ∧ W.cell? ⟨ob, 5, none⟩ = some (.int .u8 0) ∧ W.cell? ⟨ob, 6, none⟩ = some (.int .u8 0) ∧ W.cell? ⟨ob, 7, none⟩ = some (.int .u8 0) ∧ W.cell? ⟨ob, 8, none⟩ = some (.slice Ad m cd)) := fun W hW => by
          have hp := (hW.block _ (blk_lt r4)).trans r4
          have ho := (hW.block _ (blk_lt r5)).trans r5
          exact ⟨blk_cell hp 0, blk_cell hp 1, blk_cell hp 2, blk_cell hp 3, blk_cell hp 4, blk_cell hp 5, blk_cell hp 6, blk_cell hp 7, blk_cell hp 8, blk_cell ho 0, blk_cell ho 1, blk_cell ho 2, blk_cell ho 3, blk_cell ho 4, blk_cell ho 5, blk_cell ho 6, blk_cell ho 7, blk_cell ho 8⟩
        have hs0 := HT.out ws (Below.refl _ _)
        have HD7 : Hid (Dig [7, 0, 0, 0, 0, 0, 0, 0]) := ⟨rfl, fun b hb => by simp at hb; omega⟩
        have HD8 : Hid (Dig [8, 0, 0, 0, 0, 0, 0, 0]) := ⟨rfl, fun b hb => by simp at hb; omega⟩
        obtain ⟨pd, hpd⟩ : ∃ pd, payD [7, 0, 0, 0, 0, 0, 0, 0] pays = pd := ⟨_, rfl⟩
        obtain ⟨od, hod⟩ : ∃ od, payD [8, 0, 0, 0, 0, 0, 0, 0] others = od := ⟨_, rfl⟩
        have HPD := Lib.hid hpd
        have HOD := Lib.hid hod
        clear hpd hod
        have HC3 : Hid (∀ W, Below ws.heap.size ws W → Calls Try.prog 8 #[.agg #[.int .u8 7, .int .u8 0, .int .u8 0, .int .u8 0, .int .u8 0, .int .u8 0, .int .u8 0, .int .u8 0, .slice Ab k cb]] W fun e w' => e = .returned (dv pd) ∧ Below W.heap.size W w') := fun W hW => by rw [← HPD.out]; exact payDigest8 [7, 0, 0, 0, 0, 0, 0, 0] Ab k cb pays W HD7.out (Sl.of_row (own_belowN r2 hW)) HPF.out (by omega)
        have HC4 : Hid (∀ W, Below ws.heap.size ws W → Calls Try.prog 8 #[.agg #[.int .u8 8, .int .u8 0, .int .u8 0, .int .u8 0, .int .u8 0, .int .u8 0, .int .u8 0, .int .u8 0, .slice Ad m cd]] W fun e w' => e = .returned (dv od) ∧ Below W.heap.size W w') := fun W hW => by rw [← HOD.out]; exact payDigest8 [8, 0, 0, 0, 0, 0, 0, 0] Ad m cd others W HD8.out (Sl.of_row (own_belowN r3 hW)) HOF.out (by omega)
        have de : ∀ W, (binOp .eql 30 (dv pd) (dv od)).run Try.prog W = .ok (.bool (decide (pd = od))) W := fun W => dig_eql (by rw [← HPD.out]; exact ofI_dig _) (by rw [← HOD.out]; exact ofI_dig _) W
        have HDW : Hid (Below ws.heap.size ws ws.drew) := ⟨rfl, rfl, rfl, Nat.le_refl _, fun _ _ => rfl⟩
        clear r1 r2 r3 r4 r5 r6 r7 r8 r9 r10 r11 r12 r13 r14 r15
        go_region_held3 (fun W => W.cell? ⟨pb, 0, none⟩ = some (.int .u8 7) ∧ W.cell? ⟨pb, 1, none⟩ = some (.int .u8 0) ∧ W.cell? ⟨pb, 2, none⟩ = some (.int .u8 0) ∧ W.cell? ⟨pb, 3, none⟩ = some (.int .u8 0) ∧ W.cell? ⟨pb, 4, none⟩ = some (.int .u8 0) ∧ W.cell? ⟨pb, 5, none⟩ = some (.int .u8 0) ∧ W.cell? ⟨pb, 6, none⟩ = some (.int .u8 0) ∧ W.cell? ⟨pb, 7, none⟩ = some (.int .u8 0) ∧ W.cell? ⟨pb, 8, none⟩ = some (.slice Ab k cb) ∧ W.cell? ⟨ob, 0, none⟩ = some (.int .u8 8) ∧ W.cell? ⟨ob, 1, none⟩ = some (.int .u8 0) ∧ W.cell? ⟨ob, 2, none⟩ = some (.int .u8 0) ∧ W.cell? ⟨ob, 3, none⟩ = some (.int .u8 0) ∧ W.cell? ⟨ob, 4, none⟩ = some (.int .u8 0) ∧ W.cell? ⟨ob, 5, none⟩ = some (.int .u8 0) ∧ W.cell? ⟨ob, 6, none⟩ = some (.int .u8 0) ∧ W.cell? ⟨ob, 7, none⟩ = some (.int .u8 0) ∧ W.cell? ⟨ob, 8, none⟩ = some (.slice Ad m cd)) (first | exact hs0 | exact HT.out _ hq2 | exact HT.out _ hq1) (first | (go_at_call_of 8 (Value.slice Ab k cb); refine (HC3.out _ HDW.out).mono ?_; rintro e w1 ⟨rfl, hb1⟩; have hq1 : Below ws.heap.size ws w1 := below_of_drew hb1) | (go_at_call_of 8 (Value.slice Ad m cd); refine (HC4.out _ hq1).mono ?_; rintro e w2 ⟨rfl, hb2⟩; have hq2 : Below ws.heap.size ws w2 := below_trans hq1 hb2 hq1.size))
        have HQ2 := Lib.hid hq2
        clear hq1 hq2 hb1 hb2 hs0 HT HC3 HC4 HDW de
        generalize hde : decide (pd = od) = dd
        cases dd
        rotate_left
        · as_aux_lemma => (
          have HW2 : Hid (Below w.heap.size w w2) := HN.out.1.trans (HQ2.out.mono HN.out.1.size)
          clear hde
          go_wp2_with (go_at_call 5; refine (told7 _).mono ?_; rintro e w' ⟨rfl, hb⟩)
          go_ret
          exact ⟨rfl, HW2.out.trans (hb.mono HW2.out.size)⟩)
        have HNE : Hid (pd ≠ od) := of_decide_eq_false hde
        clear hde
        have HM2 := Lib.hid (MV.later HN.out HQ2.out)
        obtain ⟨r1, r2, r3, r4, r5, r6, r7, r8, r9, r10, r11, r12, r13, r14, r15⟩ := HM2.out
        have p0 : w2.cell? ⟨pb, 0, none⟩ = some (.int .u8 7) := blk_cell r4 0
        have p1 : w2.cell? ⟨pb, 1, none⟩ = some (.int .u8 0) := blk_cell r4 1
        have p2 : w2.cell? ⟨pb, 2, none⟩ = some (.int .u8 0) := blk_cell r4 2
        have p3 : w2.cell? ⟨pb, 3, none⟩ = some (.int .u8 0) := blk_cell r4 3
        have p4 : w2.cell? ⟨pb, 4, none⟩ = some (.int .u8 0) := blk_cell r4 4
        have p5 : w2.cell? ⟨pb, 5, none⟩ = some (.int .u8 0) := blk_cell r4 5
        have p6 : w2.cell? ⟨pb, 6, none⟩ = some (.int .u8 0) := blk_cell r4 6
        have p7 : w2.cell? ⟨pb, 7, none⟩ = some (.int .u8 0) := blk_cell r4 7
        have p8 : w2.cell? ⟨pb, 8, none⟩ = some (.slice Ab k cb) := blk_cell r4 8
        have o0 : w2.cell? ⟨ob, 0, none⟩ = some (.int .u8 8) := blk_cell r5 0
        have o1 : w2.cell? ⟨ob, 1, none⟩ = some (.int .u8 0) := blk_cell r5 1
        have o2 : w2.cell? ⟨ob, 2, none⟩ = some (.int .u8 0) := blk_cell r5 2
        have o3 : w2.cell? ⟨ob, 3, none⟩ = some (.int .u8 0) := blk_cell r5 3
        have o4 : w2.cell? ⟨ob, 4, none⟩ = some (.int .u8 0) := blk_cell r5 4
        have o5 : w2.cell? ⟨ob, 5, none⟩ = some (.int .u8 0) := blk_cell r5 5
        have o6 : w2.cell? ⟨ob, 6, none⟩ = some (.int .u8 0) := blk_cell r5 6
        have o7 : w2.cell? ⟨ob, 7, none⟩ = some (.int .u8 0) := blk_cell r5 7
        have o8 : w2.cell? ⟨ob, 8, none⟩ = some (.slice Ad m cd) := blk_cell r5 8
        have v0 : w2.cell? ⟨vb, 0, none⟩ = some (.slice (some ⟨g1, 0, none⟩) k k) := blk_cell r6 0
        have v1 : w2.cell? ⟨vb, 1, none⟩ = some (.slice (some ⟨g2, 0, none⟩) k k) := blk_cell r6 1
        have v2 : w2.cell? ⟨vb, 2, none⟩ = some (.slice (some ⟨g3, 0, none⟩) k k) := blk_cell r6 2
        have HC := Lib.hid (vote6 [7, 0, 0, 0, 0, 0, 0, 0] [8, 0, 0, 0, 0, 0, 0, 0] Ab Ad (some ⟨g1, 0, none⟩) (some ⟨g2, 0, none⟩) (some ⟨g3, 0, none⟩) k cb m cd k k k k k k k pays others (sgM k me k) (otM k me) (List.replicate k false) w2 HD7.out HD8.out (Sl.of_row r2) HPF.out (by omega) (Sl.of_row r3) HOF.out (by omega) (Sl.of_bools r7 (sgM_len _ _ _) (by omega)) (Sl.of_bools r8 (otM_len _ _) (by omega)) (by omega))
        clear r1 r2 r3 r4 r5 r6 r7 r8 r9 r10 r11 r12 r13 r14 r15 HN HQ2
        go_wp2_with fail
        refine HC.out.mono ?_
        rintro e Wv ⟨W0v, gb, mb, s12, s13, rfl, hb0v, A, cA, D, KA, SA, kc, sc, sigs, -, rfl, rfl, hB, hK, hS, hSI, hSB, hBl⟩
        have hbv : Below w2.heap.size w2 Wv := hb0v.trans (hBl.mono (by omega))
        rw [HPD.out, HOD.out] at hB hSB
        have HMv := Lib.hid (MV.later HM2.out hbv)
        obtain ⟨r1, r2, r3, r4, r5, r6, r7, r8, r9, r10, r11, r12, r13, r14, r15⟩ := HMv.out
        have HAG : Hid (AG w (w2.heap.size + 3) gb mb (entsTo (sgM k me k) (otM k me) pd od k) KA SA Ab Ad kc sc cb cd k m pb ob vb ((List.range k).map keyD) sigs pays others #[.int .u8 7, .int .u8 0, .int .u8 0, .int .u8 0, .int .u8 0, .int .u8 0, .int .u8 0, .int .u8 0, .slice Ab k cb] #[.int .u8 8, .int .u8 0, .int .u8 0, .int .u8 0, .int .u8 0, .int .u8 0, .int .u8 0, .int .u8 0, .slice Ad m cd] #[.slice (some ⟨g1, 0, none⟩) k k, .slice (some ⟨g2, 0, none⟩) k k, .slice (some ⟨g3, 0, none⟩) k k] Wv) := ⟨r1, ⟨A, cA, D, hB⟩, hK, hS, hSI, r2, r3, r4, r5, r6⟩
        have HR9 := Lib.hid r9
        have HR12 := Lib.hid r12
        have HSB := Lib.hid hSB
        clear hB hK hS hSI hSB hBl hb0v hbv HC HM2 HMv r1 r2 r3 r4 r5 r6 r7 r8 r9 r10 r11 r12 r13 r14 r15 p0 p1 p2 p3 p4 p5 p6 p7 p8 o0 o1 o2 o3 o4 o5 o6 o7 o8 v0 v1 v2
        generalize w2.heap.size + 3 = B at HAG
        have HPL := Lib.hid HP.out.len
        have HSU := Lib.hid (sumR PA k c pays Wv (HP.out.below HAG.out.bel) HPF.out)
        go_wp2_with fail
        refine HSU.out.mono ?_
        rintro e w' ⟨rfl, rfl⟩
        clear HSU
        have p0 : Wv.cell? ⟨pb, 0, none⟩ = some (.int .u8 7) := blk_cell HAG.out.pbox 0
        have p1 : Wv.cell? ⟨pb, 1, none⟩ = some (.int .u8 0) := blk_cell HAG.out.pbox 1
        have p2 : Wv.cell? ⟨pb, 2, none⟩ = some (.int .u8 0) := blk_cell HAG.out.pbox 2
        have p3 : Wv.cell? ⟨pb, 3, none⟩ = some (.int .u8 0) := blk_cell HAG.out.pbox 3
        have p4 : Wv.cell? ⟨pb, 4, none⟩ = some (.int .u8 0) := blk_cell HAG.out.pbox 4
        have p5 : Wv.cell? ⟨pb, 5, none⟩ = some (.int .u8 0) := blk_cell HAG.out.pbox 5
        have p6 : Wv.cell? ⟨pb, 6, none⟩ = some (.int .u8 0) := blk_cell HAG.out.pbox 6
        have p7 : Wv.cell? ⟨pb, 7, none⟩ = some (.int .u8 0) := blk_cell HAG.out.pbox 7
        have p8 : Wv.cell? ⟨pb, 8, none⟩ = some (.slice Ab k cb) := blk_cell HAG.out.pbox 8
        have v2 : Wv.cell? ⟨vb, 2, none⟩ = some (.slice (some ⟨g3, 0, none⟩) k k) := blk_cell HAG.out.vbox 2
        cases hsu : sumFrom 0 pays with
        | none =>
          have h0 := sum_none k hsu (by omega) HPL.out
          have HCN := Lib.hid (agree_adds (.iface 33 (.pointer (some ⟨gb, 0, none⟩))) [7, 0, 0, 0, 0, 0, 0, 0] Ab KA SA (some ⟨g3, 0, none⟩) k cb k kc k sc k k 0 pays Wv HD7.out (Sl.of_row HAG.out.prow) HPF.out (by omega) h0)
          have hne : (addsS 0 k pays != 0) = true := by simpa using h0
          generalize addsS 0 k pays = a at HCN hne
          clear hsu h0
          as_aux_lemma => (
          simp only [sumRes]
          go_wp2_with fail
          refine HCN.out.mono ?_
          rintro e w3 ⟨rfl, hb3⟩
          have HA3 := Lib.hid (HAG.out.later hb3)
          clear hb3 HCN v2 p0 p1 p2 p3 p4 p5 p6 p7 p8
          go_wp2_with (go_at_call 5; refine (told7 _).mono ?_; rintro e w' ⟨rfl, hb⟩)
          go_ret
          exact ⟨rfl, HA3.out.bel.trans (hb.mono HA3.out.bel.size)⟩)
        | some t =>
          have h0 := sum_some k hsu (by omega) HPL.out
          obtain ⟨bA, bc, bD, hbk⟩ := HAG.out.book
          have h := agree_all gb B mb bc bA bD (entsTo (sgM k me k) (otM k me) pd od k) ((List.range k).map keyD) sigs (List.replicate k false) [7, 0, 0, 0, 0, 0, 0, 0] Ab KA SA (some ⟨g3, 0, none⟩) k cb k kc sc k t pays Wv HD7.out (Sl.of_row HAG.out.prow) HPF.out (by omega) (by omega) (by omega) h0 hbk (Sln.of_row HAG.out.keys (by simp) (fun x hx => by simp only [List.mem_map, List.mem_range] at hx; obtain ⟨i, hi, rfl⟩ := hx; exact digL_len (keyD_dig (by omega))) (by omega)) (fun x hx => by simp only [List.mem_map, List.mem_range] at hx; obtain ⟨i, hi, rfl⟩ := hx; exact keyD_dig (by omega)) (Sl.of_row HAG.out.sgs) (fun p hp => (HAG.out.sin p hp).ok) (Sl.of_bools HR9.out (by simp) (by omega))
          have e16 : agreeC (entsTo (sgM k me k) (otM k me) pd od k) pd ((List.range k).map keyD) sigs (List.replicate k false) k = 16 := by
            rw [show List.replicate k false = goneTo (List.replicate k false) k k from (goneTo_self (by simp)).symm, agreeC_vote (by omega) HSB.out, all_mine (by omega), sgn_mine hme1 HNE.out]
            rfl
          rw [HPD.out, e16] at h
          have HCS := Lib.hid h
          clear h e16 hbk hsu
          have HH0 := Lib.hid h0
          clear h0
          simp only [sumRes]
          go_wp2_with fail
          refine HCS.out.mono ?_
          rintro e w3 ⟨rfl, hb3⟩
          have HA3 := Lib.hid (HAG.out.later hb3)
          have HR3 : Hid (w3.heap[g3]? = some (.cells (bcells (List.replicate k false)) 4 (0, 0))) := (hb3.block _ (blk_lt HR9.out)).trans HR9.out
          clear hb3 HCS v2 p0 p1 p2 p3 p4 p5 p6 p7 p8
          have v2 : w3.cell? ⟨vb, 2, none⟩ = some (.slice (some ⟨g3, 0, none⟩) k k) := blk_cell HA3.out.vbox 2
          have hc : w3.cell? ⟨g3, me, none⟩ = some (.bool false) := (blk_cell HR3.out me).trans (bcells_at (by simp [hme1]))
          have hfz := blk_frozen HR3.out me
          have HAS : Hid (AG w B gb mb (entsTo (sgM k me k) (otM k me) pd od k) KA SA Ab Ad kc sc cb cd k m pb ob vb ((List.range k).map keyD) sigs pays others #[.int .u8 7, .int .u8 0, .int .u8 0, .int .u8 0, .int .u8 0, .int .u8 0, .int .u8 0, .int .u8 0, .slice Ab k cb] #[.int .u8 8, .int .u8 0, .int .u8 0, .int .u8 0, .int .u8 0, .int .u8 0, .int .u8 0, .int .u8 0, .slice Ad m cd] #[.slice (some ⟨g1, 0, none⟩) k k, .slice (some ⟨g2, 0, none⟩) k k, .slice (some ⟨g3, 0, none⟩) k k] (w3.setCell ⟨g3, me, none⟩ (.bool true))) := HA3.out.kx (Kx.refl.setCell HR3.out (by simp [isTy]) _) ((Below.refl _ _).setCell HR12.out _)
          have HRS : Hid ((w3.setCell ⟨g3, me, none⟩ (.bool true)).heap[g3]? = some (.cells (bcells (otM k me)) 4 (0, 0))) := by
            show _ = _
            unfold otM
            rw [← bcells_set]
            exact blk_set HR3.out me _
          clear HA3 HR3 HAG HR9
          go_upto_region 23 with fail
          clear v2 hc hfz
          generalize w3.setCell ⟨g3, me, none⟩ (.bool true) = ws at HAS HRS ⊢
          have h0 := HH0.out
          obtain ⟨bA, bc, bD, hbk⟩ := HAS.out.book
          have h := agree_all gb B mb bc bA bD (entsTo (sgM k me k) (otM k me) pd od k) ((List.range k).map keyD) sigs (otM k me) [7, 0, 0, 0, 0, 0, 0, 0] Ab KA SA (some ⟨g3, 0, none⟩) k cb k kc sc k t pays ws HD7.out (Sl.of_row HAS.out.prow) HPF.out (by omega) (by omega) (by omega) h0 hbk (Sln.of_row HAS.out.keys (by simp) (fun x hx => by simp only [List.mem_map, List.mem_range] at hx; obtain ⟨i, hi, rfl⟩ := hx; exact digL_len (keyD_dig (by omega))) (by omega)) (fun x hx => by simp only [List.mem_map, List.mem_range] at hx; obtain ⟨i, hi, rfl⟩ := hx; exact keyD_dig (by omega)) (Sl.of_row HAS.out.sgs) (fun p hp => (HAS.out.sin p hp).ok) (Sl.of_bools HRS.out (otM_len _ _) (by omega))
          have e0 : agreeC (entsTo (sgM k me k) (otM k me) pd od k) pd ((List.range k).map keyD) sigs (otM k me) k = 0 := by
            rw [show agreeC (entsTo (sgM k me k) (otM k me) pd od k) pd ((List.range k).map keyD) sigs (otM k me) k = agreeC (entsTo (sgM k me k) (otM k me) pd od k) pd ((List.range k).map keyD) sigs (goneTo (otM k me) k k) k by rw [goneTo_self (otM_len _ _)], agreeC_vote (by omega) HSB.out, all_gone (by omega), sgn_gone]
            rfl
          rw [HPD.out, e0] at h
          have HCS := Lib.hid h
          clear h e0 hbk h0
          have p0 : ws.cell? ⟨pb, 0, none⟩ = some (.int .u8 7) := blk_cell HAS.out.pbox 0
          have p1 : ws.cell? ⟨pb, 1, none⟩ = some (.int .u8 0) := blk_cell HAS.out.pbox 1
          have p2 : ws.cell? ⟨pb, 2, none⟩ = some (.int .u8 0) := blk_cell HAS.out.pbox 2
          have p3 : ws.cell? ⟨pb, 3, none⟩ = some (.int .u8 0) := blk_cell HAS.out.pbox 3
          have p4 : ws.cell? ⟨pb, 4, none⟩ = some (.int .u8 0) := blk_cell HAS.out.pbox 4
          have p5 : ws.cell? ⟨pb, 5, none⟩ = some (.int .u8 0) := blk_cell HAS.out.pbox 5
          have p6 : ws.cell? ⟨pb, 6, none⟩ = some (.int .u8 0) := blk_cell HAS.out.pbox 6
          have p7 : ws.cell? ⟨pb, 7, none⟩ = some (.int .u8 0) := blk_cell HAS.out.pbox 7
          have p8 : ws.cell? ⟨pb, 8, none⟩ = some (.slice Ab k cb) := blk_cell HAS.out.pbox 8
          have v2 : ws.cell? ⟨vb, 2, none⟩ = some (.slice (some ⟨g3, 0, none⟩) k k) := blk_cell HAS.out.vbox 2
          as_aux_lemma => (
          go_wp2_with fail
          refine HCS.out.mono ?_
          rintro e w4 ⟨rfl, hb4⟩
          have HA4 := Lib.hid (HAS.out.later hb4)
          clear hb4 HCS v2 p0 p1 p2 p3 p4 p5 p6 p7 p8
          go_wp2_with (go_at_call 5; refine (told7 _).mono ?_; rintro e w' ⟨rfl, hb⟩)
          go_ret
          exact ⟨rfl, HA4.out.bel.trans (hb.mono HA4.out.bel.size)⟩)

theorem walk (PA : Option Addr) (n c : Nat) (pays : List Int) (OA : Option Addr) (m d : Nat) (others : List Int) (who : Int) (w : World) (h1 : Sl (Value.int .i64) w PA n pays) (h2 : Fits pays) (h3 : PA = none → c = 0) (k1 : Sl (Value.int .i64) w OA m others) (k2 : Fits others) (k3 : OA = none → d = 0) (hw : (Lit.int .u8 who).wf = true) :
    Calls Try.prog 4 #[.slice PA n c, .slice OA m d, .int .u8 who] w fun e w' => e = .returned (.bool true) ∧ Below w.heap.size w w' := by
  have hb : 0 ≤ who ∧ who ≤ 255 := by
    simp [Lit.wf, IntKind.min, IntKind.max, IntKind.bits, IntKind.signed] at hw
    omega
  obtain ⟨q, rfl⟩ := Int.eq_ofNat_of_zero_le hb.1
  exact walk0 PA OA n c m d q pays others w (by omega) h1 h2 h3 k1 k2 k3

set_option maxRecDepth 100000 in
theorem lifted (os : Os) (started : os.Started) (H : Type) (enc : TypeId × Value → H) :
    ReturnsInHanded {} Try.checked os 4 .any (Rows.closeMineSpec.pre6 enc Try.prog Try.f4 Rows.closeMineRow.domain false) (Rows.closeMineSpec.post enc Try.prog Try.f4 false true false false) := by
  refine returnsInHanded_of_change (C := Try.checked) own_knob started (by kernel_rfl) Try.func4
    (ChangeSpec.witness6 (enc := enc) (C := Try.checked) false ⟨#[], #[.slice none 0 0, .slice none 0 0, .int .u8 0], []⟩ 8 (by kernel_rfl) (by kernel_rfl) (by kernel_rfl) (by kernel_rfl)) ?_
  intro W base args ds gs before hval0 hW hcnd _
  have hval : ∀ (j : Nat) t v, Try.f4.params[j]? = some t → args[j]? = some v → Value.okWide Try.prog W .any base t v := hval0
  have hW' := hW
  obtain ⟨p, q, hA0, hV, rfl, hfz, hnd⟩ := hW
  have hA : DataW.TrodAll enc Try.prog W 0 (fun _ => true) true Try.f4.params.toList args.toList ds p := hA0
  rw [Try.params4] at hA hval
  obtain ⟨v0, vs0, d0, ds0, p0, q0, hargs, rfl, rfl, h0, r0⟩ := trodAll_cons hA
  obtain ⟨v1, vs1, d1, ds1, p1, q1, rfl, rfl, rfl, h1, r1⟩ := trodAll_cons r0
  obtain ⟨v2, vs2, d2, ds2, p2, q2, rfl, rfl, rfl, h2, r2⟩ := trodAll_cons r1
  obtain ⟨rfl, rfl, rfl⟩ := trodAll_nil r2
  obtain rfl : args = #[v0, v1, v2] := by cases args; simp_all
  obtain ⟨rfl, rfl⟩ := trodVars_none hV
  obtain ⟨a0, len0, cap0, rfl⟩ := okWide_slice Try.underlying22 (hval 0 22 v0 rfl rfl)
  have k0 := h0
  have lt0 : ∀ x ∈ p0, x.block < W.heap.size := by obtain ⟨m, hm⟩ := k0; exact DataW.trod_lt m _ _ _ hm
  obtain ⟨xs0, sl0, wf0, nl0⟩ : ∃ xs : List Int, Sl (Value.int .i64) W a0 len0 xs ∧ (∀ n ∈ xs, (Lit.int .i64 n).wf = true) ∧ (a0 = none → cap0 = 0) := by
    obtain ⟨fuel, hf⟩ := h0
    exact ints_in Try.underlying22 Try.underlying3 (by kernel_rfl) (by simpa [Value.cells] using hf)
  obtain ⟨a1, len1, cap1, rfl⟩ := okWide_slice Try.underlying22 (hval 1 22 v1 rfl rfl)
  have k1 := h1
  have lt1 : ∀ x ∈ p1, x.block < W.heap.size := by obtain ⟨m, hm⟩ := k1; exact DataW.trod_lt m _ _ _ hm
  obtain ⟨xs1, sl1, wf1, nl1⟩ : ∃ xs : List Int, Sl (Value.int .i64) W a1 len1 xs ∧ (∀ n ∈ xs, (Lit.int .i64 n).wf = true) ∧ (a1 = none → cap1 = 0) := by
    obtain ⟨fuel, hf⟩ := h1
    exact ints_in Try.underlying22 Try.underlying3 (by kernel_rfl) (by simpa [Value.cells] using hf)
  obtain ⟨a2, rfl, rfl, rfl, w2⟩ := open_int Try.underlying5 (hval 2 5 v2 rfl rfl) h2
  clear hA0 hval0
  refine (walk a0 len0 cap0 xs0 a1 len1 cap1 xs1 a2 W sl0 (fits_wf wf0) nl0 sl1 (fits_wf wf1) nl1 w2).mono fun e W' ⟨he, bel⟩ => ?_
  subst he
  exact ⟨_, rfl, _, _, _, [], _, [], hW', trodAll_mk1 (shut_bool Try.underlying4 _), (trodAll_cons_mk (Below.trod laid_out (by kernel_rfl) (of_decide_eq_true (by kernel_rfl)) k0 bel lt0) (trodAll_cons_mk (Below.trod laid_out (by kernel_rfl) (of_decide_eq_true (by kernel_rfl)) k1 bel lt1) (trodAll_cons_mk (shut_int Try.underlying5 w2) trodAll_mk0))), rfl, bel.frame _, fun h => by cases h⟩

theorem over : Rows.closeMineRow.holds Try.pinned (OpenSpec.ofChange Rows.closeMineSpec) :=
  OpenClaim.holds_of_wide 4 Try.f4 rfl rfl rfl rfl rfl rfl rfl ⟨rfl, rfl, rfl, rfl, rfl⟩ rfl rfl rfl rfl rfl (by kernel_rfl) Try.func4 (by kernel_rfl)
    (of_decide_eq_true (by kernel_rfl)) (by unfold Func.isWrapper; first | (rw [if_pos (by decide +kernel)]; kernel_rfl) | (rw [if_neg (by decide +kernel)]; exact ⟨rfl, rfl⟩))
    (fun os started H enc _ => lifted os started H enc)

/-- The statement. -/
theorem proved : Rows.CloseMineSaid := over
#print axioms proved
end Go.Proofs.Ytpnegfocmaecbaa.closeMine
