/- Contracts of package octet: what is put. -/
import Derived.Test.YtpnegfocmaecbaaHash2
namespace Go.Proofs.Ytpnegfocmaecbaa
open Go.RowKit

theorem tyBytes : ElemTy Try.prog 55 5 (.int .u8 0) 1 := ElemTy.mk' Try.underlying55 (by kernel_rfl) rfl

/-- Bytes in new memory. -/
def BRes (w : World) (ty : TypeId) (bs : List Int) (e : Ending) (w' : World) : Prop :=
  ∃ A n c, e = .returned (.slice A n c) ∧ w'.ownsRow w.heap.size ty 1 (.slice A n c) n (bs.map (Value.int .u8)) ∧ Below w.heap.size w w'

theorem fresh42 (A : Option Addr) (n c more : Nat) (M : Int) (hM : M = (more : Int)) (bs : List Int) (w : World) (h : Sl (Value.int .u8) w A n bs) (hA : A = none → c = 0) (hb : n + more ≤ 70368744177664) :
    Calls Try.prog 42 #[.slice A n c, .int .i64 M] w (BRes w 5 bs) := by
  subst hM
  have hm := h.max
  have HS := Lib.hid h
  have HA := Lib.hid hA
  clear h hA
  go_enter Try.func42, Try.ntmps42
  go_wp2_with (first | (at_make; refine wpList_mk0 (f := Value.int .u8) tyBytes rfl _ _ rfl w.heap.size .i64 .i64 _ (n + more) rfl rfl (by omega) (by omega) (by unfold maxLen; omega) (Nat.le_refl _) ?_; intro w1 hown1 hgrow1) | (at_builtin; refine wpList_app tyBytes rfl _ _ rfl (oneInt .u8) w.heap.size _ 0 [] rfl hown1 A n c bs rfl (HS.out.below ((Below.refl _ _).grown hgrow1 (Nat.le_refl _) (fun k hk => by cases hk))) HA.out (by unfold maxLen; omega) (by omega) hgrow1.size ?_; intro A2 c2 w2 hown2 hgrow2 hat2))
  have hb1 : Below w.heap.size w w1 := (Below.refl _ _).grown hgrow1 (Nat.le_refl _) (fun k hk => by cases hk)
  go_ret
  simp only [Nat.zero_add, List.nil_append] at hown2 ⊢
  exact ⟨A2, n, c2, rfl, hown2, hb1.grown hgrow2 hb1.size (fun k hk => (hown1.lt k hk).1)⟩

/-- The bytes of a number. -/
def numB : Nat → Int → List Int
  | 0, n => [n]
  | k + 1, n => if 128 ≤ n then bits .or .u8 (n % 256) 128 :: numB k (n / 128) else [n]

theorem numB_len (k : Nat) (n : Int) : 1 ≤ (numB k n).length ∧ (numB k n).length ≤ k + 1 := by
  induction k generalizing n with
  | zero => simp [numB]
  | succ k ih =>
    rw [numB]
    split
    · have := ih (n / 128); simp; omega
    · simp

theorem or128 (n : Int) : 0 ≤ bits .or .u8 (n % 256) 128 ∧ bits .or .u8 (n % 256) 128 ≤ 255 := by
  rw [u8_or _ _ (by omega) (by omega) (by omega) (by omega)]
  have : (n % 256).toNat ||| (128 : Int).toNat < 2 ^ 8 := Nat.or_lt_two_pow (by omega) (by decide)
  omega
theorem pow7 (j : Nat) : (2 : Int) ^ (7 * (j + 1)) = 2 ^ (7 * j) * 128 := by
  rw [show 7 * (j + 1) = 7 * j + 7 by omega, Int.pow_add]; rfl
theorem numB_bytes' (k : Nat) (n : Int) (h0 : 0 ≤ n) (h : n < 2 ^ (7 * k) * 2) : Bytes (numB k n) := by
  induction k generalizing n with
  | zero => intro b hb; simp [numB] at hb; simp at h; omega
  | succ k ih =>
    intro b hb
    rw [numB] at hb
    split at hb
    · rcases List.mem_cons.1 hb with rfl | hb
      · exact or128 n
      · refine ih _ (by omega) ?_ b hb
        rw [pow7] at h; omega
    · simp at hb; omega
theorem numB_bytes (n : Int) (h0 : 0 ≤ n) (h : n < 18446744073709551616) : Bytes (numB 9 n) := numB_bytes' 9 n h0 (by omega)

/-- number, onto a row of the call's own. -/
theorem number41 (base : Nat) (A : Option Addr) (n c : Nat) (bs : List Int) (x : Int) (w : World) (hown : w.ownsRow base 5 1 (.slice A n c) n (bs.map (Value.int .u8))) (hbase : base ≤ w.heap.size) (h0 : 0 ≤ x) (h1 : x < 18446744073709551616) (hn : n ≤ 70368744177664) :
    Calls Try.prog 41 #[.slice A n c, .int .u64 x] w fun e w' =>
      ∃ A' n' c', e = .returned (.slice A' n' c') ∧ w'.ownsRow base 5 1 (.slice A' n' c') n' ((bs ++ numB 9 x).map (Value.int .u8)) ∧ Below base w w' := by
  have HO := Lib.hid hown
  have HX : Hid (bs ++ numB 9 x = bs ++ numB 9 x) := rfl
  generalize hG : bs ++ numB 9 x = G at HX ⊢
  have HG := Lib.hid hG
  clear hown hG HX
  go_enter Try.func41, Try.ntmps41
  go_wp2_with fail
  go_loopw [0, 1] (fun s i wr => ∃ (j m : Nat) (A1 : Option Addr) (c1 : Nat) (cs : List Int) (y : Int), s = .slice A1 m c1 ∧ i = .int .u64 y ∧ 0 ≤ y ∧ y < 18446744073709551616 ∧ j ≤ 9 ∧ Hid (y < 2 ^ (7 * j) * 2) ∧ m ≤ 70368744177674 - j ∧ Hid (cs ++ numB j y = G) ∧ wr.ownsRow base 5 1 (.slice A1 m c1) m (cs.map (Value.int .u8)) ∧ Below base w wr) (fun _ i _ => (intOf i).toNat)
  case atStart => exact ⟨9, n, A, c, bs, x, rfl, rfl, h0, h1, by omega, by show _ < _; omega, by omega, HG, HO.out, Below.refl _ _⟩
  case round =>
    obtain ⟨j, m, A1, c1, cs, y, rfl, rfl, y0, y1, hj, hp, hm, hg, hown, hbel⟩ := hrel
    have HO1 := Lib.hid hown
    have hz := hbel.size
    have hz' : base ≤ wr.heap.size := by omega
    clear hown HO
    by_cases hy : 128 ≤ y
    · rcases j with _ | j
      · exfalso
        have := hp.out
        simp at this
        omega
      · have HN : Hid ((cs ++ [bits .or .u8 (y % 256) 128]) ++ numB j (y / 128) = G) := by
          have := hg.out
          rw [numB, if_pos hy] at this
          rw [List.append_assoc]; exact this
        have HP : Hid (y / 128 < 2 ^ (7 * j) * 2) := by
          have := hp.out
          show _ < _
          rw [pow7] at this
          omega
        go_wp2_with (at_builtin; refine wpList_app1 tyBytes rfl _ _ rfl (oneInt .u8) base (.slice A1 m c1) m cs _ _ rfl HO1.out rfl (by unfold maxLen; omega) (by omega) hz' ?_; intro A2 c2 w2 hown2 hgrow2 hat2)
        go_roundw
        case rel => exact ⟨j, m + 1, A2, c2, _, _, rfl, rfl, by omega, by omega, by omega, HP, by omega, HN, hown2, (hbel.alloc hz' _).grown hgrow2 (by simp; omega) (fun g hg => (HO1.out.lt g hg).1)⟩
        case measure => simp [intOf]; omega
    · have HN : Hid (cs ++ [y] = G) := by
        have := hg.out
        cases j with
        | zero => exact this
        | succ j => rw [numB, if_neg hy] at this; exact this
      go_wp2_with (at_builtin; refine wpList_app1 tyBytes rfl _ _ rfl (oneInt .u8) base (.slice A1 m c1) m cs _ _ rfl HO1.out rfl (by unfold maxLen; omega) (by omega) hz' ?_; intro A2 c2 w2 hown2 hgrow2 hat2)
      go_ret
      exact ⟨A2, m + 1, c2, rfl, by rw [← HN.out]; exact hown2, (hbel.alloc hz' _).grown hgrow2 (by simp; omega) (fun g hg => (HO1.out.lt g hg).1)⟩

theorem Bytes.append {a b : List Int} (ha : Bytes a) (hb : Bytes b) : Bytes (a ++ b) := fun x hx => by
  rcases List.mem_append.1 hx with h | h
  · exact ha x h
  · exact hb x h

theorem putNum33 (A : Option Addr) (n c : Nat) (bs : List Int) (x : Int) (w : World) (h : Sl (Value.int .u8) w A n bs) (hA : A = none → c = 0) (hn : n ≤ 35184372088832) (h0 : 0 ≤ x) (h1 : x < 18446744073709551616) :
    Calls Try.prog 33 #[.slice A n c, .int .u64 x] w (BRes w 5 (bs ++ numB 9 x)) := by
  have hf := fresh42 A n c 10 10 rfl bs w h hA (by omega)
  have HF := Lib.hid hf
  have HL := Lib.hid h.len
  clear hf h hA
  go_enter Try.func33, Try.ntmps33
  go_wp2_with fail
  refine HF.out.mono ?_
  rintro e w1 ⟨A1, n1, c1, rfl, hown, hbel⟩
  have hn1 : n1 = n := by have := hown.1; simp at this; rw [← this, HL.out]
  have hc := number41 w.heap.size A1 n1 c1 bs x w1 hown hbel.size h0 h1 (by omega)
  have HC := Lib.hid hc
  have HB := Lib.hid hbel
  clear hc hown hbel hn1
  go_wp2_with fail
  refine HC.out.mono ?_
  rintro e w2 ⟨A2, n2, c2, rfl, hown2, hbel2⟩
  go_wp2_with fail
  go_ret
  exact ⟨A2, n2, c2, rfl, hown2, HB.out.trans hbel2⟩

/-- A number with a sign, as one without. -/
def zig (x : Int) : Int := if x < 0 then -2 * x - 1 else 2 * x
theorem zig_neg (x : Int) (h : x < 0) (hl : -9223372036854775808 ≤ x) : bits .or .u64 (IntKind.u64.wrap ((-x - 1) * 2)) 1 = -2 * x - 1 := by
  obtain ⟨m, hm⟩ : ∃ m : Nat, -x - 1 = (m : Int) := ⟨(-x - 1).toNat, by omega⟩
  have hw : IntKind.u64.wrap ((-x - 1) * 2) = ((2 * m : Nat) : Int) := by
    rw [hm]
    have : IntKind.u64.wrap ((m : Int) * 2) = (m : Int) * 2 % 18446744073709551616 := by simp [IntKind.wrap, IntKind.bits, IntKind.signed]
    rw [this]; omega
  rw [hw]
  have := u64_or_nat (2 * m) 1 (by omega) (by omega)
  have h2 : 2 * m ||| 1 = 2 * m + 1 := nat_join 1 (2 * m) 1 (by simp) (by simp)
  rw [h2] at this
  rw [show ((1 : Nat) : Int) = 1 from rfl] at this
  rw [this]
  omega

theorem xor_neg (x : Int) (h : x < 0) (hl : -9223372036854775808 ≤ x) : bits .xor .i64 (-1) x = -x - 1 := by
  have h1 : BitVec.ofInt 64 (-1) = BitVec.allOnes 64 := by decide
  show IntKind.i64.wrap ((BitVec.ofInt 64 (-1) ^^^ BitVec.ofInt 64 x).toNat : Int) = _
  rw [h1, BitVec.allOnes_xor, BitVec.toNat_not, BitVec.toNat_ofInt, IntKind.wrap_i64]
  omega
set_option maxRecDepth 100000 in
theorem putInt34 (A : Option Addr) (n c : Nat) (bs : List Int) (x : Int) (w : World) (h : Sl (Value.int .u8) w A n bs) (hA : A = none → c = 0) (hn : n ≤ 35184372088832) (h0 : -9223372036854775808 ≤ x) (h1 : x ≤ 9223372036854775807) :
    Calls Try.prog 34 #[.slice A n c, .int .i64 x] w (BRes w 5 (bs ++ numB 9 (zig x))) := by
  have hc := putNum33 A n c bs (zig x) w h hA hn (by unfold zig; split <;> omega) (by unfold zig; split <;> omega)
  have HC := Lib.hid hc
  clear hc h hA
  by_cases hx : x < 0
  · have HZ : Hid (zig x = -2 * x - 1) := by show _ = _; unfold zig; rw [if_pos hx]
    have hz := zig_neg x hx h0
    have hxn := xor_neg x hx h0
    have hwn : IntKind.u64.wrap (-x - 1) = -x - 1 := by
      have : IntKind.u64.wrap (-x - 1) = (-x - 1) % 18446744073709551616 := by simp [IntKind.wrap, IntKind.bits, IntKind.signed]
      rw [this]; omega
    obtain ⟨y, hy⟩ : ∃ y, -2 * x - 1 = y := ⟨_, rfl⟩
    have HC' := HC.out
    rw [HZ.out, hy] at HC'
    rw [hy] at hz
    have HCC := Lib.hid HC'
    rw [HZ.out, hy]
    clear HC' HC hy
    go_enter Try.func34, Try.ntmps34
    go_wp2_with fail
    refine HCC.out.mono ?_
    rintro e w1 ⟨A1, n1, c1, rfl, hown, hbel⟩
    go_wp2_with fail
    go_ret
    exact ⟨A1, n1, c1, rfl, hown, hbel⟩
  · have HZ : Hid (zig x = 2 * x) := by show _ = _; unfold zig; rw [if_neg hx]
    have HC' := HC.out
    rw [HZ.out, Int.mul_comm] at HC'
    have HCC := Lib.hid HC'
    clear HC' HC
    rw [HZ.out, Int.mul_comm]
    go_enter Try.func34, Try.ntmps34
    go_wp2_with fail
    refine HCC.out.mono ?_
    rintro e w1 ⟨A1, n1, c1, rfl, hown, hbel⟩
    go_wp2_with fail
    go_ret
    exact ⟨A1, n1, c1, rfl, hown, hbel⟩

theorem putBytes32 (A X : Option Addr) (n c m d : Nat) (bs xs : List Int) (w : World) (h : Sl (Value.int .u8) w A n bs) (hA : A = none → c = 0) (hx : Sl (Value.int .u8) w X m xs) (hX : X = none → d = 0) (hn : n ≤ 17592186044416) (hm : m ≤ 17592186044416) :
    Calls Try.prog 32 #[.slice A n c, .slice X m d] w (BRes w 5 (bs ++ numB 9 m ++ xs)) := by
  have hf := fresh42 A n c (10 + m) (10 + m) (by simp) bs w h hA (by omega)
  have HF := Lib.hid hf
  have HL := Lib.hid h.len
  have HX := Lib.hid hx
  have HXX := Lib.hid hX
  clear hf h hA hx hX
  go_enter Try.func32, Try.ntmps32
  go_wp2_with fail
  refine HF.out.mono ?_
  rintro e w1 ⟨A1, n1, c1, rfl, hown, hbel⟩
  have hn1 : n1 = n := by have := hown.1; simp at this; rw [← this, HL.out]
  have hc := number41 w.heap.size A1 n1 c1 bs m w1 hown hbel.size (by omega) (by omega) (by omega)
  have HC := Lib.hid hc
  have HB := Lib.hid hbel
  have hnb : n1 ≤ 17592186044416 := by omega
  clear hc hbel hn1
  have HN1 : Hid (bs.length = n1) := by have := hown.1; show _ = _; simpa using this
  clear hown
  go_wp2_with fail
  refine HC.out.mono ?_
  rintro e w2 ⟨A2, n2, c2, rfl, hown2, hbel2⟩
  have hn2 : n2 ≤ n1 + 10 := by
    have := hown2.1; simp at this; have h2 := (numB_len 9 m).2; have := HN1.out; omega
  have HB2 : Hid (Below w.heap.size w w2) := HB.out.trans hbel2
  have hz2 := HB2.out.size
  clear hbel2
  go_wp2_with (at_builtin; refine wpList_app tyBytes rfl _ _ rfl (oneInt .u8) w.heap.size _ n2 _ rfl hown2 X m d xs rfl (HX.out.below HB2.out) HXX.out (by unfold maxLen; omega) (by omega) hz2 ?_; intro A3 c3 w3 hown3 hgrow3 hat3)
  go_ret
  exact ⟨A3, n2 + m, c3, rfl, hown3, HB2.out.grown hgrow3 hz2 (fun k hk => (hown2.lt k hk).1)⟩
end Go.Proofs.Ytpnegfocmaecbaa
