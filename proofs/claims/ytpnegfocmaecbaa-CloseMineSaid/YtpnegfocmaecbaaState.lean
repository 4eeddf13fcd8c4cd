/- Contracts: octet.PutText, slices.Grow of nil, slices.Concat of bytes, package state's pieces. -/
import Derived.Test.YtpnegfocmaecbaaOct
import Derived.Lib.AppendStr
namespace Go.Proofs.Ytpnegfocmaecbaa
open Go.RowKit

/-- A string's bytes. -/
def strB (s : ByteArray) : List Int := s.data.toList.map fun b => (b.toNat : Int)
theorem strB_cells (s : ByteArray) : Lib.strCells s = (strB s).map (Value.int .u8) := by
  simp [Lib.strCells, strB]
theorem strB_bytes (s : ByteArray) : Bytes (strB s) := fun b hb => by
  simp only [strB, List.mem_map] at hb
  obtain ⟨c, _, rfl⟩ := hb
  have := c.toNat_lt
  omega
theorem strB_len (s : ByteArray) : (strB s).length = s.size := by simp [strB]

theorem putText31 (A : Option Addr) (n c : Nat) (bs : List Int) (s : ByteArray) (w : World) (h : Sl (Value.int .u8) w A n bs) (hA : A = none → c = 0) (hn : n ≤ 17592186044416) (hm : s.size ≤ 17592186044416) :
    Calls Try.prog 31 #[.slice A n c, .string s] w (BRes w 5 (bs ++ numB 9 s.size ++ strB s)) := by
  have hf := fresh42 A n c (10 + s.size) (10 + s.size) (by simp) bs w h hA (by omega)
  have HF := Lib.hid hf
  have HL := Lib.hid h.len
  obtain ⟨iu, hiu, hz0, hs1, hby⟩ := info_parts (P := Try.prog) (e := 5) (z := .int .u8 0) (size := 1) (bytes := 1) (by kernel_rfl)
  have HSC := Lib.hid (strB_cells s)
  clear hf h hA
  go_enter Try.func31, Try.ntmps31
  go_wp2_with fail
  refine HF.out.mono ?_
  rintro e w1 ⟨A1, n1, c1, rfl, hown, hbel⟩
  have hn1 : n1 = n := by have := hown.1; simp at this; rw [← this, HL.out]
  have hc := number41 w.heap.size A1 n1 c1 bs s.size w1 hown hbel.size (by omega) (by omega) (by omega)
  have HC := Lib.hid hc
  have HB := Lib.hid hbel
  have hnb : n1 ≤ 17592186044416 := by omega
  clear hc hbel hn1
  have HN1 : Hid (bs.length = n1) := by have := hown.1; show _ = _; simpa using this
  clear hown
  go_wp2_with fail
  refine HC.out.mono ?_
  rintro e w2 ⟨A2, n2, c2, rfl, hown2, hbel2⟩
  have hn2 : n2 ≤ n1 + 10 := by
    have := hown2.1; simp at this; have h2 := (numB_len 9 s.size).2; have := HN1.out; omega
  have HB2 : Hid (Below w.heap.size w w2) := HB.out.trans hbel2
  have hz2 := HB2.out.size
  clear hbel2
  go_wp2_with (at_builtin; refine Lib.wpList_append_own_string _ rfl _ _ _ _ rfl w.heap.size 5 iu Try.underlying55 Try.underlying9 hiu hz0 hs1 hby _ n2 _ rfl hown2 s rfl (by unfold maxLen; omega) (by omega) hz2 ?_; intro v3 w3 hown3 hgrow3 hnil3)
  go_ret
  rw [HSC.out, ← List.map_append] at hown3
  obtain ⟨A3, c3, rfl⟩ := own_slice hown3
  exact ⟨A3, _, c3, rfl, hown3, HB2.out.grown hgrow3 hz2 (fun k hk => (hown2.lt k hk).1)⟩

/-- 'append' of so many zeros onto nil. -/
theorem run_append_zeros {P : Program} (w : World) (t u ty e : TypeId) (i : TypeInfo) (z : Value) (ht : P.underlying t = some (.slice e)) (hu : P.underlying u = some (.int .i64)) (hi : P.info? e = some i) (hz : i.zero = some z)
    (n : Nat) (h0 : 0 < n) (hs : 0 < i.size) (h63 : (n : Int) ≤ 9223372036854775807) (h48 : n * i.bytes ≤ 281474976710656) :
    (Builtin.append_ #[t, u] ty #[.slice none 0 0, .int .i64 n]).run P w =
      .ok (.slice (some ⟨w.heap.size, 0, none⟩) n (grownCap w n 0 e)) (w.drew.alloc (.cells (Builtin.zeroCells z.cells n ++ Builtin.zeroCells z.cells (grownCap w n 0 e - n)) e)) := by
  have hn : n ≠ 0 := by omega
  have hs' : i.size ≠ 0 := by omega
  have h63' : ¬ (9223372036854775807 < (n : Int)) := by omega
  have h48' : ¬ (281474976710656 < Builtin.nextslicecap n 0 * i.bytes) := by rw [nextslicecap_zero h0]; omega
  have hw : IntKind.i64.wrap (n : Int) = n := IntWalk.i64_in _ (by omega)
  have hneg : ¬ ((n : Int) < 0) := by omega
  have h48'' : ¬ (281474976710656 < (n : Int) * (i.bytes : Int)) := by
    have : ((n * i.bytes : Nat) : Int) ≤ 281474976710656 := by omega
    rw [Int.natCast_mul] at this; omega
  simp [Builtin.append_, run_underlying ht, run_underlying hu, sizeOf, typeInfo, zeroValue, hi, hz, asInt, asIntOf, hw, hneg, h48'', hn, hs', h63', h48', Question.forced, run_firstCells_none, newRow, grownCap]
  intro h; exact absurd h (Nat.mul_ne_zero hn hs')

theorem wpList_append_zeros {P : Program} {w : World} {ops : Array Oper} {rest : List Oper} {o : Oper} {a : Act} {Q : Exit → Act → World → Prop} (hgd : o.guard = none) (s x : Operand) (t u : TypeId)
    (ho : o.op = .call { callee := .builtin .append, args := #[s, x], argTypes := #[t, u] }) (e : TypeId) (i : TypeInfo) (z : Value) (ht : P.underlying t = some (.slice e)) (hu : P.underlying u = some (.int .i64)) (hi : P.info? e = some i) (hz : i.zero = some z)
    (n : Nat) (hs : a.eval s = .slice none 0 0) (hx : a.eval x = .int .i64 n) (h0 : 0 < n) (hs1 : i.size = 1) (hz1 : z.cells.size = 1) (h63 : n ≤ maxLen) (h48 : n * i.bytes ≤ 281474976710656) (base : Nat) (hbase : base ≤ w.heap.size)
    (h : ∀ C w', n ≤ C → C ≤ maxLen → w'.ownsRow base e 1 (.slice (some ⟨w.heap.size, 0, none⟩) 0 C) 0 [] → Below w.heap.size w w' → wpList P ops Q rest (a.put o.dst (.slice (some ⟨w.heap.size, 0, none⟩) n C)) w') : wpList P ops Q (o :: rest) a w := by
  refine wpList_plain hgd fun K hK => ?_
  have h63' := h63
  unfold maxLen at h63'
  have hr := run_append_zeros (P := P) w t u o.type e i z ht hu hi hz n h0 (by omega) (by omega) h48
  unfold Oper.wp execOp
  simp only [ho, resolve, invoke, builtin, Sem.run_bind, Sem.run_pure, Result.andThen_ok, List.map_toArray, List.map_cons, List.map_nil, hs, hx, hr]
  have hge := grownCap_ge w n 0 e
  have hle := grownCap_le_maxLen w n 0 e h63
  refine hK _ _ (h _ _ hge hle ?_ ?_)
  · exact World.ownsRow_made w.drew _ _ hbase hle (by simp only [Array.size_append, size_zeroCells, hz1]; omega)
  · exact (Below.refl _ _).drew.alloc (Nat.le_refl _) _

set_option maxRecDepth 100000 in
theorem grow46 (n : Nat) (w : World) (hn : n ≤ 70368744177664) :
    Calls Try.prog 46 #[.slice none 0 0, .int .i64 n] w (BRes w 5 []) := by
  obtain ⟨iu, hiu, hz0, hs1, hby⟩ := info_parts (P := Try.prog) (e := 5) (z := .int .u8 0) (size := 1) (bytes := 1) (by kernel_rfl)
  by_cases h0 : 0 < n
  · have hd : decide ((n : Int) < 0) = false := by simp
    go_enter Try.func46, Try.ntmps46
    go_wp2_with (at_builtin; refine wpList_append_zeros rfl _ _ _ _ rfl 5 iu (.int .u8 0) Try.underlying55 Try.underlying3 hiu hz0 n rfl rfl h0 hs1 rfl (by unfold maxLen; omega) (by rw [hby]; omega) w.heap.size (Nat.le_refl _) ?_; intro C w1 hC hC2 hown1 hbel1; unfold maxLen at hC2)
    go_ret
    exact ⟨_, 0, _, rfl, hown1, hbel1⟩
  · obtain rfl : n = 0 := by omega
    go_enter Try.func46, Try.ntmps46
    go_wp2_with fail
    go_ret
    exact ⟨none, 0, 0, rfl, World.ownsRow_nil _ _ _ _, Below.refl _ _⟩

/-- A piece: bytes that lie somewhere. -/
structure Pc where
  A : Option Addr
  n : Nat
  c : Nat
  bs : List Int
abbrev Pc.val (p : Pc) : Value := .slice p.A p.n p.c
def Pc.ok (w : World) (p : Pc) : Prop := Sl (Value.int .u8) w p.A p.n p.bs ∧ (p.A = none → p.c = 0)
def catB (ps : List Pc) : List Int := ps.flatMap Pc.bs
theorem catB_snoc (ps : List Pc) (p : Pc) : catB (ps ++ [p]) = catB ps ++ p.bs := by simp [catB]
theorem catB_take_le (ps : List Pc) (k : Nat) : (catB (ps.take k)).length ≤ (catB ps).length := by
  have : catB ps = catB (ps.take k) ++ catB (ps.drop k) := by
    unfold catB
    rw [← List.flatMap_append, List.take_append_drop]
  rw [this, List.length_append]; omega
theorem Pc.ok_below {w w' : World} {p : Pc} (h : p.ok w) (hb : Below w.heap.size w w') : p.ok w' := ⟨h.1.below hb, h.2⟩

set_option maxRecDepth 100000 in
theorem concat38 (A : Option Addr) (m c : Nat) (ps : List Pc) (w : World) (h : Sl Pc.val w A m ps) (hp : ∀ p ∈ ps, p.ok w) (hb : (catB ps).length ≤ 17592186044416) :
    Calls Try.prog 38 #[.slice A m c] w (BRes w 5 (catB ps)) := by
  have hm := h.max
  have HS := Lib.hid h
  have HP := Lib.hid hp
  clear h hp
  go_enter Try.func38, Try.ntmps38
  go_wp2_with fail
  go_loop [3, 11] (fun s i => ∃ k : Nat, k ≤ m ∧ i = .int .i64 k ∧ s = .int .i64 ((catB (ps.take k)).length : Int)) (fun _ i => m - (intOf i).toNat)
  case atStart => exact ⟨0, Nat.zero_le _, rfl, rfl⟩
  case round =>
    obtain ⟨k, hk, rfl, rfl⟩ := hrel
    have hle := catB_take_le ps k
    by_cases hlt : k < m
    · obtain ⟨b, off, p, rfl, _, hck, hv⟩ := HS.out.get hlt
      obtain ⟨⟨hpl, hpm, _⟩, _⟩ := HP.out p (List.mem_of_getElem? hv.out)
      have hle2 := catB_take_le ps (k + 1)
      have HR : Hid (catB (ps.take (k + 1)) = catB (ps.take k) ++ p.bs) := by show _ = _; rw [take_snoc hv.out, catB_snoc]
      rw [HR.out, List.length_append, hpl] at hle2
      have HPL := Lib.hid hpl
      obtain ⟨pa, pn, pc, pb⟩ := p
      dsimp only [Pc.val] at hck hle2 hpm HPL HR
      have hnn : decide (((catB (ps.take k)).length : Int) + (pn : Int) < 0) = false := by simp; omega
      obtain ⟨L, hL⟩ : ∃ L, (catB (ps.take k)).length = L := ⟨_, rfl⟩
      rw [hL] at hle hle2 hnn ⊢
      have HL := Lib.hid hL
      clear hL hpl
      go_wp2_with fail
      go_round
      case rel => exact ⟨k + 1, by omega, by go_num, by rw [HR.out, List.length_append, HPL.out, HL.out]; go_num⟩
      case measure => simp [intOf]; omega
    · obtain rfl : k = m := by omega
      rw [List.take_of_length_le (by rw [HS.out.len]; omega)] at hle ⊢
      have hg := grow46 (catB ps).length w (by omega)
      have HG := Lib.hid hg
      clear hg
      go_wp2_with fail
      refine HG.out.mono ?_
      rintro e w1 ⟨A1, n1, c1, rfl, hown, hbel⟩
      obtain rfl : n1 = 0 := by have := hown.1; simpa using this.symm
      have HO := Lib.hid hown
      have HB := Lib.hid hbel
      clear hown hbel
      go_wp2_with fail
      go_loopw [6, 27] (fun s i wr => ∃ (j n2 : Nat) (A2 : Option Addr) (c2 : Nat), j ≤ k ∧ i = .int .i64 j ∧ s = .slice A2 n2 c2 ∧ wr.ownsRow w.heap.size 5 1 (.slice A2 n2 c2) n2 ((catB (ps.take j)).map (Value.int .u8)) ∧ Below w.heap.size w wr) (fun _ i _ => k - (intOf i).toNat)
      case atStart => exact ⟨0, 0, A1, c1, Nat.zero_le _, rfl, rfl, HO.out, HB.out⟩
      case round =>
        obtain ⟨j, n2, A2, c2, hj, rfl, rfl, hown2, hbel2⟩ := hrel
        have HO2 := Lib.hid hown2
        have hz2 := hbel2.size
        have hn2 : n2 = (catB (ps.take j)).length := by have := hown2.1; simpa using this.symm
        have hlej := catB_take_le ps j
        clear hown2 HO
        by_cases hltj : j < k
        · obtain ⟨b, off, p, rfl, hbs, hck, hv⟩ := HS.out.get hltj
          have hpok := HP.out p (List.mem_of_getElem? hv.out)
          have hpok2 := Pc.ok_below hpok hbel2
          obtain ⟨pa, pn, pc, pb⟩ := p
          dsimp only [Pc.val] at hck
          have hck2 : wr.cell? ⟨b, off + j, none⟩ = some (.slice pa pn pc) := (hbel2.cell (p := ⟨b, off + j, none⟩) hbs).trans hck
          have HR : Hid (catB (ps.take (j + 1)) = catB (ps.take j) ++ pb) := by show _ = _; rw [take_snoc hv.out, catB_snoc]
          have hle2 := catB_take_le ps (j + 1)
          have hpl : pb.length = pn := hpok.1.len
          rw [HR.out, List.length_append, hpl] at hle2
          have hbn : n2 + pn ≤ 17592186044416 := by omega
          have HOK := Lib.hid hpok2
          clear hck hpok hpok2 hpl hn2
          go_wp2_with (at_builtin; refine wpList_app tyBytes rfl _ _ rfl (oneInt .u8) w.heap.size _ n2 _ rfl HO2.out pa pn pc pb rfl HOK.out.1 HOK.out.2 (by unfold maxLen; omega) (by omega) hz2 ?_; intro A3 c3 w3 hown3 hgrow3 hat3)
          go_roundw
          case rel => exact ⟨j + 1, n2 + pn, A3, c3, by omega, by go_num, rfl, by rw [HR.out]; exact hown3, hbel2.grown hgrow3 hz2 (fun g hg => (HO2.out.lt g hg).1)⟩
          case measure => simp [intOf]; omega
        · obtain rfl : j = k := by omega
          have HR : Hid (catB (ps.take j) = catB ps) := by show _ = _; rw [List.take_of_length_le (by rw [HS.out.len]; omega)]
          clear hn2
          go_wp2_with fail
          go_ret
          exact ⟨A2, n2, c2, rfl, by rw [← HR.out]; exact HO2.out, hbel2⟩

theorem text17 (s : ByteArray) (w : World) (hm : s.size ≤ 17592186044416) : Calls Try.prog 17 #[.string s] w (BRes w 5 (numB 9 s.size ++ strB s)) := by
  have h := putText31 none 0 0 [] s w Sl.nil (fun _ => rfl) (by omega) hm
  have H := Lib.hid h
  clear h
  go_enter Try.func17, Try.ntmps17
  go_wp2_with fail
  refine H.out.mono ?_
  rintro e w1 ⟨A1, n1, c1, rfl, hown, hbel⟩
  go_wp2_with fail
  go_ret
  exact ⟨A1, n1, c1, rfl, hown, hbel⟩
theorem stnum20 (x : Int) (w : World) (h0 : -9223372036854775808 ≤ x) (h1 : x ≤ 9223372036854775807) : Calls Try.prog 20 #[.int .i64 x] w (BRes w 5 (numB 9 (zig x))) := by
  have h := putInt34 none 0 0 [] x w Sl.nil (fun _ => rfl) (by omega) h0 h1
  have H := Lib.hid h
  clear h
  go_enter Try.func20, Try.ntmps20
  go_wp2_with fail
  refine H.out.mono ?_
  rintro e w1 ⟨A1, n1, c1, rfl, hown, hbel⟩
  go_wp2_with fail
  go_ret
  exact ⟨A1, n1, c1, rfl, hown, hbel⟩
theorem count19 (x : Int) (w : World) (h0 : 0 ≤ x) (h1 : x ≤ 9223372036854775807) : Calls Try.prog 19 #[.int .i64 x] w (BRes w 5 (numB 9 x)) := by
  have h := putNum33 none 0 0 [] x w Sl.nil (fun _ => rfl) (by omega) h0 (by omega)
  have H := Lib.hid h
  clear h
  go_enter Try.func19, Try.ntmps19
  go_wp2_with fail
  refine H.out.mono ?_
  rintro e w1 ⟨A1, n1, c1, rfl, hown, hbel⟩
  go_wp2_with fail
  go_ret
  exact ⟨A1, n1, c1, rfl, hown, hbel⟩
theorem list18 (X : Option Addr) (m d : Nat) (xs : List Int) (w : World) (hx : Sl (Value.int .u8) w X m xs) (hX : X = none → d = 0) (hm : m ≤ 17592186044416) : Calls Try.prog 18 #[.slice X m d] w (BRes w 5 (numB 9 m ++ xs)) := by
  have h := putBytes32 none X 0 0 m d [] xs w Sl.nil (fun _ => rfl) hx hX (by omega) hm
  have H := Lib.hid h
  clear h hx hX
  go_enter Try.func18, Try.ntmps18
  go_wp2_with fail
  refine H.out.mono ?_
  rintro e w1 ⟨A1, n1, c1, rfl, hown, hbel⟩
  go_wp2_with fail
  go_ret
  exact ⟨A1, n1, c1, rfl, hown, hbel⟩
theorem join22 (A : Option Addr) (m c : Nat) (ps : List Pc) (w : World) (h : Sl Pc.val w A m ps) (hp : ∀ p ∈ ps, p.ok w) (hb : (catB ps).length ≤ 17592186044416) :
    Calls Try.prog 22 #[.slice A m c] w (BRes w 5 (catB ps)) := by
  have h := concat38 A m c ps w h hp hb
  have H := Lib.hid h
  clear h hp
  go_enter Try.func22, Try.ntmps22
  go_wp2_with fail
  refine H.out.mono ?_
  rintro e w1 ⟨A1, n1, c1, rfl, hown, hbel⟩
  go_wp2_with fail
  go_ret
  exact ⟨A1, n1, c1, rfl, hown, hbel⟩
end Go.Proofs.Ytpnegfocmaecbaa
