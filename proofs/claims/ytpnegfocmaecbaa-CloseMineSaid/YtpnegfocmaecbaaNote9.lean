/- Contracts: did all sign: All; did all agree: Agree. -/
import Derived.Test.YtpnegfocmaecbaaNote8
import Derived.Test.YtpnegfocmaecbaaG
namespace Go.Proofs.Ytpnegfocmaecbaa
open Go.RowKit
def allC (L : List Ent) (m : List Int) (keys : List (List Int)) (sigs : List Pc) (fr : List Bool) (n : Nat) : Int := if lackL L m keys sigs fr n = [] then 0 else 16
def agreeC (L : List Ent) (m : List Int) (keys : List (List Int)) (sigs : List Pc) (fr : List Bool) (n : Nat) : Int := if fr.all id = true then 28 else allC L m keys sigs fr n
set_option maxRecDepth 100000 in
set_option maxHeartbeats 1000000 in
theorem all24 (gb B mb c n kc sc fc : Nat) (A KA SA FA : Option Addr) (D : DataW Unit) (L : List Ent) (m : List Int) (keys : List (List Int)) (sigs : List Pc) (fr : List Bool) (w : World) (hm : Dig m) (hb : Book w gb B L A c mb D)
    (hk : Sln 8 digL w KA n keys) (hkd : ∀ k ∈ keys, Dig k) (hs : Sl Pc.val w SA n sigs) (hso : ∀ p ∈ sigs, SigOk w p) (hf : Sl Value.bool w FA n fr) (hn : n ≤ 100) (hn1 : 1 ≤ n) :
    Calls Try.prog 24 #[.iface 33 (.pointer (some ⟨gb, 0, none⟩)), .slice KA n kc, dv m, .slice SA n sc, .slice FA n fc] w fun e w' => e = .returned (.int .i64 (allC L m keys sigs fr n)) ∧ Below w.heap.size w w' := by
  obtain ⟨m0, m1, m2, m3, m4, m5, m6, m7, rfl, -⟩ := dig_parts hm
  have hb0 : Below w.heap.size w (w.alloc (.cells #[.int .u8 m0, .int .u8 m1, .int .u8 m2, .int .u8 m3, .int .u8 m4, .int .u8 m5, .int .u8 m6, .int .u8 m7] 30)) := (Below.refl _ _).alloc (Nat.le_refl _) _
  have HC := Lib.hid (missing39 gb B mb c n kc sc fc A KA SA FA D L [m0, m1, m2, m3, m4, m5, m6, m7] keys sigs fr _ hm (hb.below hb0) (hk.below hb0) hkd (hs.below hb0) (fun p hp => (hso p hp).below hb0) (hf.below hb0) hn)
  have HB0 := Lib.hid hb0
  have n0 : ((n : Int) == 0) = false := by simp; omega
  have n1 : ((n : Int) != (n : Int)) = false := by simp
  have n2 : (n != n) = false := by simp
  clear hb0 hm hb hk hkd hs hso hf
  show Calls Try.prog _ #[_, _, .agg #[.int .u8 m0, .int .u8 m1, .int .u8 m2, .int .u8 m3, .int .u8 m4, .int .u8 m5, .int .u8 m6, .int .u8 m7], _, _] w _
  go_enter Try.func24, Try.ntmps24
  go_wp2_with fail
  refine HC.out.mono ?_
  rintro e w1 ⟨A1, c1, rfl, hb1⟩
  have HB1 : Hid (Below w.heap.size w w1) := HB0.out.trans (hb1.mono HB0.out.size)
  have HQ : Hid (∀ q : Nat, (lackL L [m0, m1, m2, m3, m4, m5, m6, m7] keys sigs fr n).length = q → allC L [m0, m1, m2, m3, m4, m5, m6, m7] keys sigs fr n = if q = 0 then 0 else 16) := fun q hq => by
    unfold allC
    by_cases h : lackL L [m0, m1, m2, m3, m4, m5, m6, m7] keys sigs fr n = []
    · rw [if_pos h, if_pos (by rw [← hq, h]; rfl)]
    · rw [if_neg h, if_neg (by rw [← hq]; simpa using h)]
  clear HC hb1 HB0
  generalize hq : (lackL L [m0, m1, m2, m3, m4, m5, m6, m7] keys sigs fr n).length = q
  have HQ' : Hid (allC L [m0, m1, m2, m3, m4, m5, m6, m7] keys sigs fr n = if q = 0 then 0 else 16) := HQ.out q hq
  clear hq HQ
  by_cases h0 : q = 0
  · subst h0
    go_wp2_with fail
    go_ret
    exact ⟨by rw [HQ'.out]; rfl, HB1.out⟩
  · have h1 : 0 < q := by omega
    have h2 : decide (0 < (q : Int)) = true := by simp; omega
    go_wp2_with fail
    go_ret
    exact ⟨by rw [HQ'.out, if_neg h0]; rfl, HB1.out⟩
abbrev pv (ds : List Int) (A : Option Addr) (m c : Nat) : Value := .agg (dcells ds ++ #[.slice A m c])
/-- What it comes to ahead of the signatures: 0: nothing is wrong yet. -/
def agreeS (pot : Int) (n : Nat) (pays : List Int) (gone : List Bool) : Int :=
  if addsS pot n pays ≠ 0 then addsS pot n pays else if gone.length ≠ n then 3 else if gone.all id = true then 28 else 0
theorem any_take {gone : List Bool} {k : Nat} {v : Bool} (h : gone[k]? = some v) : (gone.take (k + 1)).all id = ((gone.take k).all id && v) := by
  rw [take_snoc h]; simp [List.all_append]
set_option maxRecDepth 100000 in
set_option maxHeartbeats 1000000 in
theorem agree_adds (V : Value) (ds : List Int) (A KA SA FA : Option Addr) (m c n kc sn sc fn fc : Nat) (pot : Int) (pays : List Int) (w : World) (hd : Dig ds) (hp : Sl (Value.int .i64) w A m pays) (hf : Fits pays) (hn : n ≤ 100) (h0 : addsS pot n pays ≠ 0) :
    Calls Try.prog 10 #[V, pv ds A m c, .int .i64 pot, .slice KA n kc, .slice SA sn sc, .slice FA fn fc] w fun e w' => e = .returned (.int .i64 (addsS pot n pays)) ∧ Below w.heap.size w w' := by
  obtain ⟨d0, d1, d2, d3, d4, d5, d6, d7, rfl, -⟩ := dig_parts hd
  have hb0 : Below w.heap.size w (w.alloc (.cells #[.int .u8 d0, .int .u8 d1, .int .u8 d2, .int .u8 d3, .int .u8 d4, .int .u8 d5, .int .u8 d6, .int .u8 d7, .slice A m c] 32)) := (Below.refl _ _).alloc (Nat.le_refl _) _
  have HC := Lib.hid (adds8 pot n A m c pays _ (hp.below hb0) hf)
  have HB0 := Lib.hid hb0
  have hne : (addsS pot n pays != 0) = true := by simpa using h0
  clear hb0 hd hp h0
  show Calls Try.prog _ #[_, .agg #[.int .u8 d0, .int .u8 d1, .int .u8 d2, .int .u8 d3, .int .u8 d4, .int .u8 d5, .int .u8 d6, .int .u8 d7, .slice A m c], _, _, _, _] w _
  go_enter Try.func10, Try.ntmps10
  go_wp2_with fail
  refine HC.out.mono ?_
  rintro e w1 ⟨rfl, rfl⟩
  go_wp2_with fail
  go_ret
  exact ⟨rfl, HB0.out⟩
set_option maxRecDepth 100000 in
set_option maxHeartbeats 1000000 in
theorem agree_form (V : Value) (ds : List Int) (A KA SA FA : Option Addr) (m c n kc sn sc fn fc : Nat) (pot : Int) (pays : List Int) (w : World) (hd : Dig ds) (hp : Sl (Value.int .i64) w A m pays) (hf : Fits pays) (hn : n ≤ 100) (h0 : addsS pot n pays = 0) (hfn : fn ≠ n) (hfm : fn ≤ 100) :
    Calls Try.prog 10 #[V, pv ds A m c, .int .i64 pot, .slice KA n kc, .slice SA sn sc, .slice FA fn fc] w fun e w' => e = .returned (.int .i64 3) ∧ Below w.heap.size w w' := by
  obtain ⟨d0, d1, d2, d3, d4, d5, d6, d7, rfl, -⟩ := dig_parts hd
  have hb0 : Below w.heap.size w (w.alloc (.cells #[.int .u8 d0, .int .u8 d1, .int .u8 d2, .int .u8 d3, .int .u8 d4, .int .u8 d5, .int .u8 d6, .int .u8 d7, .slice A m c] 32)) := (Below.refl _ _).alloc (Nat.le_refl _) _
  have hc := adds8 pot n A m c pays _ (hp.below hb0) hf
  rw [h0] at hc
  have HC := Lib.hid hc
  have HB0 := Lib.hid hb0
  have hne : (fn != n) = true := by simpa using hfn
  have hne' : ((fn : Int) != (n : Int)) = true := by simp; omega
  clear hb0 hd hp h0 hc hfn
  show Calls Try.prog _ #[_, .agg #[.int .u8 d0, .int .u8 d1, .int .u8 d2, .int .u8 d3, .int .u8 d4, .int .u8 d5, .int .u8 d6, .int .u8 d7, .slice A m c], _, _, _, _] w _
  go_enter Try.func10, Try.ntmps10
  go_wp2_with fail
  refine HC.out.mono ?_
  rintro e w1 ⟨rfl, rfl⟩
  go_wp2_with fail
  go_ret
  exact ⟨rfl, HB0.out⟩
set_option maxRecDepth 100000 in
set_option maxHeartbeats 1000000 in
theorem agree_all (gb B mb bc : Nat) (BA : Option Addr) (D : DataW Unit) (L : List Ent) (keys : List (List Int)) (sigs : List Pc) (gone : List Bool) (ds : List Int) (A KA SA FA : Option Addr) (m c n kc sc fc : Nat) (pot : Int) (pays : List Int) (w : World) (hd : Dig ds) (hp : Sl (Value.int .i64) w A m pays) (hf : Fits pays) (hn : n ≤ 100) (hn1 : 1 ≤ n) (hmm : m ≤ 100) (h0 : addsS pot n pays = 0)
    (hb : Book w gb B L BA bc mb D) (hk : Sln 8 digL w KA n keys) (hkd : ∀ k ∈ keys, Dig k) (hs : Sl Pc.val w SA n sigs) (hso : ∀ p ∈ sigs, SigOk w p) (hg : Sl Value.bool w FA n gone) :
    Calls Try.prog 10 #[.iface 33 (.pointer (some ⟨gb, 0, none⟩)), pv ds A m c, .int .i64 pot, .slice KA n kc, .slice SA n sc, .slice FA n fc] w fun e w' => e = .returned (.int .i64 (agreeC L (payD ds pays) keys sigs gone n)) ∧ Below w.heap.size w w' := by
  have hd' := hd
  obtain ⟨d0, d1, d2, d3, d4, d5, d6, d7, rfl, -⟩ := dig_parts hd
  have hb0 : Below w.heap.size w (w.alloc (.cells #[.int .u8 d0, .int .u8 d1, .int .u8 d2, .int .u8 d3, .int .u8 d4, .int .u8 d5, .int .u8 d6, .int .u8 d7, .slice A m c] 32)) := (Below.refl _ _).alloc (Nat.le_refl _) _
  have hc := adds8 pot n A m c pays _ (hp.below hb0) hf
  rw [h0] at hc
  have HC := Lib.hid hc
  have HB0 := Lib.hid hb0
  have HD := Lib.hid hd'
  have HP := Lib.hid (hp.below hb0)
  have HF := Lib.hid hf
  have HBK := Lib.hid (hb.below hb0)
  have HK := Lib.hid (hk.below hb0)
  have HKD := Lib.hid hkd
  have HS := Lib.hid (hs.below hb0)
  have HSO : Hid (∀ p ∈ sigs, SigOk (w.alloc (.cells #[.int .u8 d0, .int .u8 d1, .int .u8 d2, .int .u8 d3, .int .u8 d4, .int .u8 d5, .int .u8 d6, .int .u8 d7, .slice A m c] 32)) p) := fun p hp => (hso p hp).below hb0
  have HG := Lib.hid (hg.below hb0)
  have HGL := Lib.hid hg.len
  have n2 : (n != n) = false := by simp
  have hni : (n : Int) ≤ 100 := by omega
  clear hb0 hd' hp h0 hc hb hk hkd hs hso hg hf
  show Calls Try.prog _ #[_, .agg #[.int .u8 d0, .int .u8 d1, .int .u8 d2, .int .u8 d3, .int .u8 d4, .int .u8 d5, .int .u8 d6, .int .u8 d7, .slice A m c], _, _, _, _] w _
  go_enter Try.func10, Try.ntmps10
  go_wp2_with fail
  refine HC.out.mono ?_
  rintro e w1 ⟨rfl, rfl⟩
  go_wp2_with fail
  go_loop [14, 16, 33] (fun s14 _ s33 => ∃ k : Nat, k ≤ n ∧ s33 = .int .i64 k ∧ s14 = .bool (!((gone.take k).all id))) (fun _ _ s33 => n - (intOf s33).toNat)
  case atStart => exact ⟨0, Nat.zero_le _, rfl, rfl⟩
  case round =>
    obtain ⟨k, hk, rfl, rfl⟩ := hrel
    by_cases hlt : k < n
    · obtain ⟨gbb, go, gv, rfl, hgb, qg, hgv⟩ := HG.out.get hlt
      have HA := Lib.hid (any_take hgv.out)
      generalize (gone.take k).all id = ga at HA ⊢
      cases ga <;> cases gv
      all_goals
        go_wp2_with fail
        go_round
        case rel => exact ⟨k + 1, by omega, by go_num, by rw [HA.out]; rfl⟩
        case measure => simp [intOf]; omega
    · obtain rfl : k = n := by omega
      have HA : Hid (gone.take k = gone) := List.take_of_length_le (by rw [HGL.out]; omega)
      rw [HA.out]
      have HGA : Hid (∀ ga, gone.all id = ga → agreeC L (payD [d0, d1, d2, d3, d4, d5, d6, d7] pays) keys sigs gone k = if ga = true then 28 else allC L (payD [d0, d1, d2, d3, d4, d5, d6, d7] pays) keys sigs gone k) := fun ga h => by unfold agreeC; rw [h]
      generalize hga : gone.all id = ga
      have HGB : Hid (agreeC L (payD [d0, d1, d2, d3, d4, d5, d6, d7] pays) keys sigs gone k = if ga = true then 28 else allC L (payD [d0, d1, d2, d3, d4, d5, d6, d7] pays) keys sigs gone k) := HGA.out ga hga
      cases ga
      · go_wp2_with fail
        refine (payDigest8 [d0, d1, d2, d3, d4, d5, d6, d7] A m c pays _ HD.out HP.out HF.out (by omega)).mono ?_
        rintro e w1 ⟨rfl, hb1⟩
        have hb1' := hb1
        have HC2 := Lib.hid (all24 gb B mb bc k kc sc fc BA KA SA FA D L (payD [d0, d1, d2, d3, d4, d5, d6, d7] pays) keys sigs gone w1 (ofI_dig _) (HBK.out.below hb1) (HK.out.below hb1) HKD.out (HS.out.below hb1) (fun p hp => (HSO.out p hp).below hb1) (HG.out.below hb1) hn hn1)
        have HB1 : Hid (Below w.heap.size w w1) := HB0.out.trans (hb1.mono HB0.out.size)
        clear hb1 hb1' hga
        go_wp2_with fail
        refine HC2.out.mono ?_
        rintro e w2 ⟨rfl, hb2⟩
        have HB2 : Hid (Below w.heap.size w w2) := HB1.out.trans (hb2.mono HB1.out.size)
        clear hb2 HC2 HB1
        go_wp2_with fail
        go_ret
        exact ⟨by rw [HGB.out]; rfl, HB2.out⟩
      · clear hga
        go_wp2_with fail
        go_ret
        exact ⟨by rw [HGB.out]; rfl, HB0.out⟩
end Go.Proofs.Ytpnegfocmaecbaa
