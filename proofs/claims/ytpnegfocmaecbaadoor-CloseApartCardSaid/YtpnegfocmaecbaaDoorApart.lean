/- Contracts: who agrees without a verifier; what nil rules pay. -/
import Derived.Test.YtpnegfocmaecbaaDoorLoss
import Derived.Test.YtpnegfocmaecbaaDoorG
import Derived.Test.YtpnegfocmaecbaaDoorPay
namespace Go.Proofs.YtpnegfocmaecbaaDoor
open Go.RowKit
theorem dig_parts {a : List Int} (h : Dig a) : ∃ a0 a1 a2 a3 a4 a5 a6 a7, a = [a0, a1, a2, a3, a4, a5, a6, a7] := dig8 h.1
theorem belowDrewN {B : Nat} {w w' : World} (h : Below B w w') (n : Nat) : Below B w (w'.drewN n) := ⟨h.os, h.tape, h.output, h.size, h.block⟩
def digL (d : List Int) : List Value := d.map (Value.int .u8)
def lackN (fr : List Bool) (k : Nat) : List Int := ((List.range k).filter fun i => !(fr[i]?.getD false)).map fun (i : Nat) => (i : Int)
theorem lackN_succ (fr : List Bool) (k : Nat) (v : Bool) (h : fr[k]? = some v) : lackN fr (k + 1) = lackN fr k ++ if v = true then [] else [(k : Int)] := by
  unfold lackN
  rw [List.range_succ, List.filter_append, List.map_append]
  cases v <;> simp [List.filter_cons, h]
set_option maxRecDepth 100000 in
set_option maxHeartbeats 1000000 in
theorem missingN (n kc sn sc fc : Nat) (KA SA FA : Option Addr) (m : List Int) (keys : List (List Int)) (fr : List Bool) (w : World) (hm : Dig m)
    (hk : Sln 8 digL w KA n keys) (hkd : ∀ k ∈ keys, Dig k) (hf : Sl Value.bool w FA n fr) (hn : n ≤ 100) :
    Calls Tryd.prog 26 #[.nilIface, .slice KA n kc, dv m, .slice SA sn sc, .slice FA n fc] w fun e w' => ∃ A' c', e = .returned (.slice A' (lackN fr n).length c') ∧ Below w.heap.size w w' := by
  obtain ⟨m0, m1, m2, m3, m4, m5, m6, m7, rfl⟩ := dig_parts hm
  have hb0 : Below w.heap.size w (w.alloc (.cells #[.int .u8 m0, .int .u8 m1, .int .u8 m2, .int .u8 m3, .int .u8 m4, .int .u8 m5, .int .u8 m6, .int .u8 m7] 41)) := (Below.refl _ _).alloc (Nat.le_refl _) _
  have hz0 : (w.alloc (.cells #[.int .u8 m0, .int .u8 m1, .int .u8 m2, .int .u8 m3, .int .u8 m4, .int .u8 m5, .int .u8 m6, .int .u8 m7] 41)).heap.size = w.heap.size + 1 := by simp
  have HB0 := Lib.hid hb0
  have HZ0 := Lib.hid hz0
  have HKS := Lib.hid (hk.below hb0)
  have HKD := Lib.hid hkd
  have HFR := Lib.hid (hf.below hb0)
  clear hb0 hz0 hm hk hkd hf
  show Calls Tryd.prog _ #[_, _, .agg #[.int .u8 m0, .int .u8 m1, .int .u8 m2, .int .u8 m3, .int .u8 m4, .int .u8 m5, .int .u8 m6, .int .u8 m7], _, _] w _
  have ne : ∀ (w : World), (binOp .eql 57 .nilIface .nilIface).run Tryd.prog w = .ok (.bool true) w := fun w => by kernel_rfl
  go_enter Tryd.func26, Tryd.ntmps26
  go_wp2_with fail
  generalize w.alloc (.cells #[.int .u8 m0, .int .u8 m1, .int .u8 m2, .int .u8 m3, .int .u8 m4, .int .u8 m5, .int .u8 m6, .int .u8 m7] 41) = W0 at HB0 HZ0 HKS HFR ⊢
  go_loopw [11, 12, 13, 16] (fun s11 _ _ s16 wr => ∃ (k : Nat) (A1 : Option Addr) (c1 l1 : Nat), k ≤ n ∧ s16 = .int .i64 k ∧ s11 = .slice A1 l1 c1 ∧ l1 ≤ k ∧ Hid (wr.ownsRow (w.heap.size + 1) 3 1 (.slice A1 l1 c1) l1 ((lackN fr k).map (Value.int .i64))) ∧ Hid (Below (w.heap.size + 1) W0 wr)) (fun _ _ _ s16 _ => n - (intOf s16).toNat)
  case atStart => exact ⟨0, none, 0, 0, Nat.zero_le _, rfl, rfl, Nat.le_refl _, World.ownsRow_nil .., Below.refl _ _⟩
  case round =>
    obtain ⟨k, A1, c1, l1, hkn, rfl, rfl, hl1, HO1, HB1⟩ := hrel
    by_cases hlt : k < n
    · have hbw : Below W0.heap.size W0 wr := by rw [HZ0.out]; exact HB1.out
      obtain ⟨b, off, key, hKA, hbk, hkc, hkey⟩ := (HKS.out.below hbw).get hlt
      have hkd := HKD.out key (List.mem_of_getElem? hkey.out)
      obtain ⟨k0, k1, k2, k3, k4, k5, k6, k7, rfl⟩ := dig_parts hkd
      have q0 : wr.cell? ⟨b, off + k * 8, none⟩ = some (.int .u8 k0) := hkc 0 _ rfl
      have q1 : wr.cell? ⟨b, off + k * 8 + 1, none⟩ = some (.int .u8 k1) := hkc 1 _ rfl
      have q2 : wr.cell? ⟨b, off + k * 8 + 2, none⟩ = some (.int .u8 k2) := hkc 2 _ rfl
      have q3 : wr.cell? ⟨b, off + k * 8 + 3, none⟩ = some (.int .u8 k3) := hkc 3 _ rfl
      have q4 : wr.cell? ⟨b, off + k * 8 + 4, none⟩ = some (.int .u8 k4) := hkc 4 _ rfl
      have q5 : wr.cell? ⟨b, off + k * 8 + 5, none⟩ = some (.int .u8 k5) := hkc 5 _ rfl
      have q6 : wr.cell? ⟨b, off + k * 8 + 6, none⟩ = some (.int .u8 k6) := hkc 6 _ rfl
      have q7 : wr.cell? ⟨b, off + k * 8 + 7, none⟩ = some (.int .u8 k7) := hkc 7 _ rfl
      obtain ⟨fb, fo, fv, hFA, hfb, qf, hfv⟩ := (HFR.out.below hbw).get hlt
      have HLS := Lib.hid (lackN_succ fr k fv hfv.out)
      have HX : Hid (w.heap.size + 1 ≤ wr.heap.size) := by have := hbw.size; rw [HZ0.out] at this; exact this
      have HB2 : Hid (Below (w.heap.size + 1) W0 (wr.alloc (.cells #[.int .u8 k0, .int .u8 k1, .int .u8 k2, .int .u8 k3, .int .u8 k4, .int .u8 k5, .int .u8 k6, .int .u8 k7] 41))) := HB1.out.alloc HX.out _
      have HO2 := Lib.hid (own_below HO1.out ((Below.refl wr.heap.size wr).alloc (Nat.le_refl _) (.cells #[.int .u8 k0, .int .u8 k1, .int .u8 k2, .int .u8 k3, .int .u8 k4, .int .u8 k5, .int .u8 k6, .int .u8 k7] 41)))
      have hni : (n : Int) ≤ 100 := by omega
      subst hKA hFA
      clear hkc hbw hkd
      cases fv
      · go_wp2_with fail
        go_quiet (fail)
        have HO3 : Hid (((wr.alloc (.cells #[.int .u8 k0, .int .u8 k1, .int .u8 k2, .int .u8 k3, .int .u8 k4, .int .u8 k5, .int .u8 k6, .int .u8 k7] 41)).drewN nq).ownsRow (w.heap.size + 1) 3 1 (.slice A1 l1 c1) l1 ((lackN fr k).map (Value.int .i64))) := HO2.out
        have HB3 : Hid (Below (w.heap.size + 1) W0 ((wr.alloc (.cells #[.int .u8 k0, .int .u8 k1, .int .u8 k2, .int .u8 k3, .int .u8 k4, .int .u8 k5, .int .u8 k6, .int .u8 k7] 41)).drewN nq)) := belowDrewN HB2.out nq
        have hz3 : w.heap.size + 1 ≤ ((wr.alloc (.cells #[.int .u8 k0, .int .u8 k1, .int .u8 k2, .int .u8 k3, .int .u8 k4, .int .u8 k5, .int .u8 k6, .int .u8 k7] 41)).drewN nq).heap.size := by have := HX.out; simp; omega
        clear q0 q1 q2 q3 q4 q5 q6 q7 qf hbk hfb
        generalize (wr.alloc (.cells #[.int .u8 k0, .int .u8 k1, .int .u8 k2, .int .u8 k3, .int .u8 k4, .int .u8 k5, .int .u8 k6, .int .u8 k7] 41)).drewN nq = w2 at HO3 HB3 hz3 ⊢
        go_wp2_with (at_builtin; refine wpList_app1 tyInts rfl _ _ rfl (oneInt .i64) (w.heap.size + 1) (.slice A1 l1 c1) l1 (lackN fr k) (k : Int) _ rfl HO3.out rfl (by unfold maxLen; omega) (by omega) hz3 ?_; intro A4 c4 w4 hown4 hgrow4 hat4)
        go_roundw
        case rel => exact ⟨k + 1, A4, c4, l1 + 1, by omega, by go_num, rfl, by omega, (by show World.ownsRow _ _ _ _ _ _ _; rw [HLS.out]; simpa using hown4), (HB3.out.alloc hz3 _).grown hgrow4 (by simp; omega) (fun q hq => (HO3.out.lt q hq).1)⟩
        case measure => simp [intOf]; omega
      · go_wp2_with fail
        go_roundw
        case rel => exact ⟨k + 1, A1, c1, l1, by omega, by go_num, rfl, by omega, (by show World.ownsRow _ _ _ _ _ _ _; rw [HLS.out]; simpa using HO2.out), HB2.out⟩
        case measure => simp [intOf]; omega
    · go_wp2_with fail
      go_ret
      obtain rfl : k = n := by omega
      refine ⟨A1, c1, ?_, HB0.out.trans (HB1.out.mono (by omega))⟩
      have := HO1.out.1
      simp only [List.length_map, Nat.mul_one] at this
      rw [this]
      rfl
end Go.Proofs.YtpnegfocmaecbaaDoor
