/- Contracts: bytes.Clone; whether it was signed. -/
import Derived.Test.YtpnegfocmaecbaaNote5
namespace Go.Proofs.Ytpnegfocmaecbaa
open Go.RowKit
theorem bclone_nil (w : World) : Calls Try.prog 47 #[.slice none 0 0] w fun e w' => e = .returned (.slice none 0 0) ∧ w = w' := by
  have h1 := @Lib.run_eql_slice_nil Try.prog
  go_enter Try.func47, Try.ntmps47
  go_wp2
  go_ret
  exact ⟨rfl, rfl⟩
theorem bclone (ad : Addr) (n c : Nat) (bs : List Int) (w : World) (h : Sl (Value.int .u8) w (some ad) n bs) (hn : n ≤ 17592186044416) :
    Calls Try.prog 47 #[.slice (some ad) n c] w fun e w' => ∃ A' c', e = .returned (.slice A' n c') ∧ Sl (Value.int .u8) w' A' n bs ∧ (A' = none → c' = 0) ∧ Below w.heap.size w w' := by
  have h1 := @Lib.run_eql_slice_nil Try.prog
  have h0 : (w.alloc (.cells #[] 5)).ownsRow w.heap.size 5 1 (.slice (some ⟨w.heap.size, 0, none⟩) 0 0) 0 (([] : List Int).map (Value.int .u8)) := own_lit (Value.int .u8) w w.heap.size #[] 5 0 [] (Nat.le_refl _) rfl (by unfold maxLen; omega) rfl
  have HO := Lib.hid h0
  have HS := Lib.hid h
  clear h0 h
  go_enter Try.func47, Try.ntmps47
  go_wp2_with (at_builtin; refine wpList_app tyBytes rfl _ _ rfl (oneInt .u8) w.heap.size _ 0 [] rfl HO.out (some ad) n c bs rfl (HS.out.alloc _) (fun h => by cases h) (by unfold maxLen; omega) (by omega) (by simp) ?_; intro A3 c3 w3 hown3 hgrow3 hat3)
  go_ret
  rw [Nat.zero_add] at hown3
  exact ⟨A3, c3, rfl, Sl.of_row hown3, (own_caps hown3).2.2.1, ((Below.refl _ _).alloc (Nat.le_refl _) _).grown hgrow3 (by simp) (fun k hk => (HO.out.lt k hk).1)⟩

theorem join8 (x y : Int) (hx : 0 ≤ x ∧ x ≤ 255) (hy : 0 ≤ y ∧ y ≤ 255) : bits .or .i64 x (y * 256) = x + 256 * y := by
  obtain ⟨a, rfl⟩ := Int.eq_ofNat_of_zero_le hx.1
  obtain ⟨b, rfl⟩ := Int.eq_ofNat_of_zero_le hy.1
  have h1 : b * 256 ||| a = b * 256 + a := nat_join8 (b * 256) a (by omega) (by omega)
  show IntKind.i64.wrap ((BitVec.ofInt 64 (a : Int) ||| BitVec.ofInt 64 ((b : Int) * 256)).toNat : Int) = _
  have e1 : (BitVec.ofInt 64 ((b : Int) * 256)).toNat = b * 256 := by rw [BitVec.toNat_ofInt]; omega
  have e2 : (BitVec.ofInt 64 (a : Int)).toNat = a := by rw [BitVec.toNat_ofInt]; omega
  rw [BitVec.toNat_or, e1, e2, Nat.or_comm, h1, IntKind.wrap_i64]
  omega
theorem verify0 (gb : Nat) (k m : List Int) (A : Option Addr) (n c : Nat) (w : World) (hk : Dig k) (hm : Dig m) (hn : n ≤ 1) : Calls Try.prog 68 #[.pointer (some ⟨gb, 0, none⟩), dv k, dv m, .slice A n c] w fun e w' => e = .returned (.bool false) ∧ Below w.heap.size w w' := by
  obtain ⟨k0, k1, k2, k3, k4, k5, k6, k7, rfl, -⟩ := dig_parts hk
  obtain ⟨m0, m1, m2, m3, m4, m5, m6, m7, rfl, -⟩ := dig_parts hm
  have h2 : ((n : Int) != 2) = true := by simp; omega
  clear hk hm
  show Calls Try.prog _ #[_, .agg #[.int .u8 k0, .int .u8 k1, .int .u8 k2, .int .u8 k3, .int .u8 k4, .int .u8 k5, .int .u8 k6, .int .u8 k7], .agg #[.int .u8 m0, .int .u8 m1, .int .u8 m2, .int .u8 m3, .int .u8 m4, .int .u8 m5, .int .u8 m6, .int .u8 m7], _] w _
  go_enter Try.func68, Try.ntmps68
  go_wp2
  go_ret
  exact ⟨rfl, ((Below.refl _ _).alloc (Nat.le_refl _) _).alloc (by simp) _⟩
set_option maxRecDepth 100000 in
theorem verify2' (gb mb b off c : Nat) (k0 k1 k2 k3 k4 k5 k6 k7 m0 m1 m2 m3 m4 m5 m6 m7 x y i : Int) (ok : Bool) (w : World) (c1 : w.cell? ⟨gb, 1, none⟩ = some (.map (some mb))) (hgb : gb < w.heap.size) (hx : 0 ≤ x ∧ x ≤ 255) (hy : 0 ≤ y ∧ y ≤ 255) (s0 : w.cell? ⟨b, off, none⟩ = some (.int .u8 x)) (s1 : w.cell? ⟨b, off + 1, none⟩ = some (.int .u8 y)) (hb : b < w.heap.size)
    (hrun : ∀ m, (Instr.lookup 73 (.map (some mb)) (.agg #[.int .u8 k0, .int .u8 k1, .int .u8 k2, .int .u8 k3, .int .u8 k4, .int .u8 k5, .int .u8 k6, .int .u8 k7, .int .u8 m0, .int .u8 m1, .int .u8 m2, .int .u8 m3, .int .u8 m4, .int .u8 m5, .int .u8 m6, .int .u8 m7]) true).run Try.prog (((w.alloc (.cells #[.int .u8 k0, .int .u8 k1, .int .u8 k2, .int .u8 k3, .int .u8 k4, .int .u8 k5, .int .u8 k6, .int .u8 k7] 30)).alloc (.cells #[.int .u8 m0, .int .u8 m1, .int .u8 m2, .int .u8 m3, .int .u8 m4, .int .u8 m5, .int .u8 m6, .int .u8 m7] 30)).drewN m) = .ok (.tuple #[.int .i64 i, .bool ok]) (((w.alloc (.cells #[.int .u8 k0, .int .u8 k1, .int .u8 k2, .int .u8 k3, .int .u8 k4, .int .u8 k5, .int .u8 k6, .int .u8 k7] 30)).alloc (.cells #[.int .u8 m0, .int .u8 m1, .int .u8 m2, .int .u8 m3, .int .u8 m4, .int .u8 m5, .int .u8 m6, .int .u8 m7] 30)).drewN m)) :
    Calls Try.prog 68 #[.pointer (some ⟨gb, 0, none⟩), .agg #[.int .u8 k0, .int .u8 k1, .int .u8 k2, .int .u8 k3, .int .u8 k4, .int .u8 k5, .int .u8 k6, .int .u8 k7], .agg #[.int .u8 m0, .int .u8 m1, .int .u8 m2, .int .u8 m3, .int .u8 m4, .int .u8 m5, .int .u8 m6, .int .u8 m7], .slice (some ⟨b, off, none⟩) 2 c] w fun e w' => e = .returned (.bool (ok && decide (i = x + 256 * y))) ∧ Below w.heap.size w w' := by
  obtain ⟨hx0, hx1⟩ := hx
  obtain ⟨hy0, hy1⟩ := hy
  cases ok
  · go_enter Try.func68, Try.ntmps68
    go_wp2_with fail
    go_quiet (fail)
    go_wp2_with fail
    go_quiet (fail)
    go_wp2_with fail
    go_ret
    exact ⟨rfl, belowDrewN (belowDrewN (((Below.refl _ _).alloc (Nat.le_refl _) _).alloc (by simp) _) _) _⟩
  · go_enter Try.func68, Try.ntmps68
    go_wp2_with fail
    go_quiet (fail)
    go_wp2_with fail
    go_quiet (fail)
    go_wp2_with fail
    go_ret
    refine ⟨?_, belowDrewN (belowDrewN (((Below.refl _ _).alloc (Nat.le_refl _) _).alloc (by simp) _) _) _⟩
    show Ending.returned (.bool (i == bits .or .i64 x (y * 256))) = _
    rw [join8 x y ⟨hx0, hx1⟩ ⟨hy0, hy1⟩]
    congr 2
theorem verifyC (gb B mb c c' : Nat) (A S : Option Addr) (D : DataW Unit) (L : List Ent) (k m : List Int) (x y : Int) (w : World) (hk : Dig k) (hm : Dig m) (hb : Book w gb B L A c mb D) (hs : Sl (Value.int .u8) w S 2 [x, y]) (hx : 0 ≤ x ∧ x ≤ 255) (hy : 0 ≤ y ∧ y ≤ 255) :
    Calls Try.prog 68 #[.pointer (some ⟨gb, 0, none⟩), dv k, dv m, .slice S 2 c'] w fun e w' => e = .returned (.bool (decide ((k, m) ∈ L ∧ (L.idxOf (k, m) : Int) = x + 256 * y))) ∧ Below w.heap.size w w' := by
  obtain ⟨b, off, rfl, hlt, hc⟩ := hs.at_ (by omega)
  have s0 := hc 0 x rfl
  have s1 := hc 1 y rfl
  have he : DigE (k, m) := ⟨hk, hm⟩
  obtain ⟨l, hl⟩ := ekey_lit he
  have hb0 : Below w.heap.size w ((w.alloc (.cells (dcells k) 30)).alloc (.cells (dcells m) 30)) := ((Below.refl _ _).alloc (Nat.le_refl _) _).alloc (by simp) _
  obtain ⟨i, h1, h2⟩ := (hb.below hb0).look2 (k, m) he l hl
  have hi : ∀ q, (Instr.lookup 73 (.map (some mb)) (ev (k, m)) true).run Try.prog (((w.alloc (.cells (dcells k) 30)).alloc (.cells (dcells m) 30)).drewN q) = .ok (.tuple #[.int .i64 i, .bool (decide ((k, m) ∈ L))]) (((w.alloc (.cells (dcells k) 30)).alloc (.cells (dcells m) 30)).drewN q) := fun q => by
    obtain ⟨i', h1', h2'⟩ := ((hb.below hb0).drewN q).look2 (k, m) he l hl
    have h3 : i' = i := congrArg litI (h2'.symm.trans h2)
    rw [h1', h3]
  have hidx : (k, m) ∈ L → i = (L.idxOf (k, m) : Int) := fun hmem => congrArg litI (h2.symm.trans ((hb.idx _ he l hl).2 hmem))
  have hfin : (decide ((k, m) ∈ L) && decide (i = x + 256 * y)) = decide ((k, m) ∈ L ∧ (L.idxOf (k, m) : Int) = x + 256 * y) := by
    by_cases hmem : (k, m) ∈ L
    · rw [← hidx hmem]; simp [hmem]
    · simp [hmem]
  rw [← hfin]
  obtain ⟨k0, k1, k2, k3, k4, k5, k6, k7, rfl, -⟩ := dig_parts hk
  obtain ⟨m0, m1, m2, m3, m4, m5, m6, m7, rfl, -⟩ := dig_parts hm
  exact verify2' gb mb b off c' k0 k1 k2 k3 k4 k5 k6 k7 m0 m1 m2 m3 m4 m5 m6 m7 x y i _ w (blk_cell hb.blk 1) (blk_lt hb.blk) hx hy s0 s1 hlt hi
end Go.Proofs.Ytpnegfocmaecbaa
