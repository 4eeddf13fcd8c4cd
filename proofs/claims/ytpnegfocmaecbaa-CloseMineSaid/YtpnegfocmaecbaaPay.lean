/- Contract: state.Payout.Digest. -/
import Derived.Test.YtpnegfocmaecbaaState
import Derived.Deep.RegionHeld3
namespace Go.Proofs.Ytpnegfocmaecbaa
open Go.RowKit

theorem own_ne {w : World} {b b' e e' n n' : Nat} {v v' : Value} {xs xs' : List Value} (h : w.ownsRow b e 1 v n xs) (h' : w.ownsRow b' e' 1 v' n' xs') (hne : e ≠ e') : v.ownBlock = none ∨ v.ownBlock ≠ v'.ownBlock := by
  rcases h.2 with ⟨rfl, _⟩ | ⟨g, cap, cur, rfl, _, hh, _⟩
  · exact .inl rfl
  · right
    rcases h'.2 with ⟨rfl, _⟩ | ⟨g', cap', cur', rfl, _, hh', _⟩
    · simp [Value.ownBlock]
    · intro he
      have : g = g' := by simpa [Value.ownBlock] using he
      subst this
      rw [hh] at hh'
      injection hh' with hh'
      injection hh' with _ ht
      exact hne ht

theorem below_of_drew {B : Nat} {w w' : World} (h : Below B w.drew w') : Below B w w' := ⟨h.os, h.tape, h.output, h.size, h.block⟩
theorem text_pay (W : World) : Calls Try.prog 17 #[.string ⟨#[112, 97, 121]⟩] W (BRes W 5 (numB 9 3 ++ [112, 97, 121])) := text17 ⟨#[112, 97, 121]⟩ W (by decide)
theorem tyPieces : ElemTy Try.prog 35 55 (.slice none 0 0) 24 := ElemTy.mk' Try.underlying35 (by kernel_rfl) rfl
theorem onePc (p : Pc) : p.val.oneCell' = true := rfl
def Pc.own (w : World) (B : Nat) (ty : TypeId) (p : Pc) : Prop := w.ownsRow B ty 1 p.val p.n (p.bs.map (Value.int .u8))
theorem Pc.own_ok {w : World} {B ty : Nat} {p : Pc} (h : p.own w B ty) : p.ok w := by
  refine ⟨Sl.of_row (c := p.c) h, fun hA => ?_⟩
  rcases h.2 with ⟨hv, _⟩ | ⟨g, cap, cur, hv, _⟩
  · injection hv
  · injection hv with h1; rw [hA] at h1; cases h1

def payTail (pays : List Int) : List Int := pays.flatMap fun n => numB 9 (zig n)
def payHead (ds : List Int) (m : Nat) : List Int := (numB 9 3 ++ [112, 97, 121]) ++ (numB 9 8 ++ ds) ++ numB 9 m
def payB (ds : List Int) (pays : List Int) : List Int := payHead ds pays.length ++ payTail pays
def payD (ds : List Int) (pays : List Int) : List Int := ofI (payB ds pays)

theorem payTail_len (pays : List Int) : (payTail pays).length ≤ 10 * pays.length := by
  induction pays with
  | nil => simp [payTail]
  | cons x l ih =>
    have h2 := (numB_len 9 (zig x)).2
    simp only [payTail, List.flatMap_cons, List.length_append, List.length_cons] at ih ⊢
    omega
theorem payB_len (ds pays : List Int) (hd : Dig ds) (hm : pays.length ≤ 1048576) : (payB ds pays).length ≤ 17592186044416 := by
  have h1 := payTail_len pays
  have h2 := (numB_len 9 3).2
  have h3 := (numB_len 9 8).2
  have h4 := (numB_len 9 pays.length).2
  simp only [payB, payHead, List.length_append, hd.1, List.length_cons, List.length_nil]
  omega
theorem payTail_bytes (pays : List Int) (hf : Fits pays) : Bytes (payTail pays) := by
  intro b hb
  simp only [payTail, List.mem_flatMap] at hb
  obtain ⟨n, hn, hb⟩ := hb
  have := hf n hn
  exact numB_bytes (zig n) (by unfold zig; split <;> omega) (by unfold zig; split <;> omega) b hb
theorem payB_bytes (ds pays : List Int) (hd : Dig ds) (hf : Fits pays) (hm : pays.length ≤ 1048576) : Bytes (payB ds pays) := by
  unfold payB payHead
  refine Bytes.append (Bytes.append (Bytes.append (Bytes.append (numB_bytes 3 (by omega) (by omega)) ?_) (Bytes.append (numB_bytes 8 (by omega) (by omega)) hd.2)) (numB_bytes _ (by omega) (by omega))) (payTail_bytes pays hf)
  intro b hb
  simp at hb
  omega
theorem own_caps {w : World} {base e n c : Nat} {A : Option Addr} {xs : List Value} (h : w.ownsRow base e 1 (.slice A n c) n xs) : n ≤ c ∧ c ≤ 9223372036854775807 ∧ (A = none → c = 0) ∧ ∀ ad, A = some ad → ad.block < w.heap.size := by
  have hlt := h.lt
  rcases h.2 with ⟨hv, hn⟩ | ⟨g, cap, cur, hv, _, _, hnc, hcm, _⟩
  · injection hv with h1 h2 h3
    subst h1 h2 h3
    exact ⟨by omega, by omega, fun _ => rfl, fun ad had => by cases had⟩
  · injection hv with h1 _ h3
    subst h1 h3
    unfold maxLen at hcm
    refine ⟨hnc, by omega, fun h => (by cases h), fun ad had => ?_⟩
    injection had with had
    subst had
    exact (hlt g rfl).2

set_option maxRecDepth 100000 in
set_option maxHeartbeats 1000000 in
theorem payDigest8 (ds : List Int) (A : Option Addr) (m c : Nat) (pays : List Int) (w : World) (hd : Dig ds) (h : Sl (Value.int .i64) w A m pays) (hf : Fits pays) (hm : m ≤ 1048576) :
    Calls Try.prog 8 #[.agg (dcells ds ++ #[.slice A m c])] w fun e w' => e = .returned (dv (payD ds pays)) ∧ Below w.heap.size w w' := by
  obtain ⟨cs, hcs⟩ : ∃ cs, dcells ds ++ #[Value.slice A m c] = cs := ⟨_, rfl⟩
  rw [hcs]
  have hb0 : Below w.heap.size w ((w.alloc (.cells cs 32)).alloc (.cells zero8 30)) := ((Below.refl _ _).alloc (Nat.le_refl _) _).alloc (by simp) _
  have hw0 : ((w.alloc (.cells cs 32)).alloc (.cells zero8 30)).heap.size = w.heap.size + 2 := by simp
  have hg1 : ((w.alloc (.cells cs 32)).alloc (.cells zero8 30)).heap[w.heap.size]? = some (.cells cs 32 (0, 0)) := (Below.heap_alloc _ _ _ (by simp)).trans (heap_alloc_new w _)
  have hg2 : ((w.alloc (.cells cs 32)).alloc (.cells zero8 30)).heap[w.heap.size + 1]? = some (.cells zero8 30 (0, 0)) := by
    have := heap_alloc_new (w.alloc (.cells cs 32)) (.cells zero8 30)
    simpa using this
  have h0 := h.below hb0
  unfold zero8 at hb0 hw0 hg1 hg2 h0
  have HB0 := Lib.hid hb0
  have HW0 := Lib.hid hw0
  have HG1 := Lib.hid hg1
  have HG2 := Lib.hid hg2
  have H0 := Lib.hid h0
  have HD := Lib.hid hd
  have HCS := Lib.hid hcs
  clear hb0 hw0 hg1 hg2 h0 h hd hcs
  go_enter Try.func8, Try.ntmps8
  go_wp2_with fail
  generalize (w.alloc (.cells cs 32)).alloc (.cells #[.int .u8 0, .int .u8 0, .int .u8 0, .int .u8 0, .int .u8 0, .int .u8 0, .int .u8 0, .int .u8 0] 30) = W0 at HB0 HW0 HG1 HG2 H0 ⊢
  have HT : Hid (∀ W, Below (w.heap.size + 2) W0 W → Sl (Value.int .u8) W (some ⟨w.heap.size, 0, none⟩) 8 ds ∧ W.cell? ⟨w.heap.size, 8, none⟩ = some (.slice A m c)) := fun W hW => by
    have hblk : W.heap[w.heap.size]? = some (.cells cs 32 (0, 0)) := (hW.block _ (by omega)).trans HG1.out
    refine ⟨⟨HD.out.1, by omega, fun _ => ⟨w.heap.size, 0, rfl, blk_lt hblk, fun k v hv => ?_⟩⟩, ?_⟩
    · have hk : k < 8 := by rw [← HD.out.1]; exact (List.getElem?_eq_some_iff.1 hv).1
      rw [blk_cell hblk, ← HCS.out, Nat.zero_add, Array.getElem?_append_left (by simp [dcells, HD.out.1]; omega)]
      simp [dcells, hv]
    · rw [blk_cell hblk, ← HCS.out, Array.getElem?_append_right (by simp [dcells, HD.out.1])]
      simp [dcells, HD.out.1]
  have c8 : W0.cell? ⟨w.heap.size, 8, none⟩ = some (.slice A m c) := (HT.out W0 (Below.refl _ _)).2
  have hmi : (m : Int) ≤ 9223372036854775807 := by omega
  go_region_held3 (fun W => W.cell? ⟨w.heap.size, 8, none⟩ = some (.slice A m c)) (first | exact c8 | exact (HT.out _ (hq3.alloc (Nat.le_trans (Nat.le_of_eq HW0.out.symm) hq3.size) _)).2 | exact (HT.out _ hq3).2 | exact (HT.out _ hq2).2 | exact (HT.out _ hq1).2) (first | (go_at_call 17; refine (text_pay _).mono ?_; rintro e w1 ⟨A1, n1, c1, rfl, ho1, hb1⟩; have hq1 : Below (w.heap.size + 2) W0 w1 := (below_of_drew hb1).mono (Nat.le_of_eq HW0.out.symm)) | (go_at_call 18; refine (list18 _ 8 8 ds _ (HT.out _ hq1).1 (fun h => by cases h) (by omega)).mono ?_; rintro e w2 ⟨A2, n2, c2, rfl, ho2, hb2⟩; have hq2 : Below (w.heap.size + 2) W0 w2 := below_trans hq1 hb2 (by rw [← HW0.out]; exact hq1.size)) | (go_at_call 19; refine (count19 _ _ (by omega) hmi).mono ?_; rintro e w3 ⟨A3, n3, c3, rfl, ho3, hb3⟩; have hq3 : Below (w.heap.size + 2) W0 w3 := below_trans hq2 hb3 (by rw [← HW0.out]; exact hq2.size)))
  have hz3 : w.heap.size + 2 ≤ w3.heap.size := Nat.le_trans (Nat.le_of_eq HW0.out.symm) hq3.size
  have hz2 : w.heap.size + 2 ≤ w2.heap.size := Nat.le_trans (Nat.le_of_eq HW0.out.symm) hq2.size
  have hz1 : w.heap.size + 2 ≤ w1.heap.size := Nat.le_trans (Nat.le_of_eq HW0.out.symm) hq1.size
  have hz0 : w.heap.size + 2 ≤ W0.drew.heap.size := Nat.le_of_eq HW0.out.symm
  have o1 : Pc.own (w3.alloc (.cells #[.slice A1 n1 c1, .slice A2 n2 c2, .slice A3 n3 c3] 55)) (w.heap.size + 2) 5 ⟨A1, n1, c1, numB 9 3 ++ [112, 97, 121]⟩ := own_mono ((own_below (own_below ho1 hb2) hb3).alloc _) hz0
  have o2 : Pc.own (w3.alloc (.cells #[.slice A1 n1 c1, .slice A2 n2 c2, .slice A3 n3 c3] 55)) (w.heap.size + 2) 5 ⟨A2, n2, c2, numB 9 8 ++ ds⟩ := own_mono ((own_below ho2 hb3).alloc _) hz1
  have o3 : Pc.own (w3.alloc (.cells #[.slice A1 n1 c1, .slice A2 n2 c2, .slice A3 n3 c3] 55)) (w.heap.size + 2) 5 ⟨A3, n3, c3, numB 9 m⟩ := own_mono (ho3.alloc _) hz2
  have op := own_lit Pc.val w3 (w.heap.size + 2) #[.slice A1 n1 c1, .slice A2 n2 c2, .slice A3 n3 c3] 55 3 [⟨A1, n1, c1, numB 9 3 ++ [112, 97, 121]⟩, ⟨A2, n2, c2, numB 9 8 ++ ds⟩, ⟨A3, n3, c3, numB 9 m⟩] hz3 rfl (by decide) rfl
  have hq4 : Below (w.heap.size + 2) W0 (w3.alloc (.cells #[.slice A1 n1 c1, .slice A2 n2 c2, .slice A3 n3 c3] 55)) := hq3.alloc hz3 _
  have HO1 := Lib.hid o1
  have HO2 := Lib.hid o2
  have HO3 := Lib.hid o3
  have HOP := Lib.hid op
  have HQ4 := Lib.hid hq4
  clear o1 o2 o3 op hq4 ho1 ho2 ho3 hb1 hb2 hb3 hq1 hq2 hq3
  generalize w3.alloc (.cells #[.slice A1 n1 c1, .slice A2 n2 c2, .slice A3 n3 c3] 55) = W4 at HO1 HO2 HO3 HOP HQ4 ⊢
  have c84 := (HT.out W4 HQ4.out).2
  clear c8
  go_wp2_with fail
  have HCH : Hid (catB [⟨A1, n1, c1, numB 9 3 ++ [112, 97, 121]⟩, ⟨A2, n2, c2, numB 9 8 ++ ds⟩, ⟨A3, n3, c3, numB 9 m⟩] = payHead ds m) := by show _ = _; simp [catB, payHead]
  go_loopw [3, 18] (fun s i wr => ∃ (k : Nat) (A5 : Option Addr) (c5 : Nat) (ps : List Pc), k ≤ m ∧ i = .int .i64 k ∧ s = .slice A5 (k + 3) c5 ∧ Hid (wr.ownsRow (w.heap.size + 2) 55 1 (.slice A5 (k + 3) c5) (k + 3) (ps.map Pc.val)) ∧ Hid (∀ p ∈ ps, p.own wr (w.heap.size + 2) 5) ∧ Hid (catB ps = payHead ds m ++ payTail (pays.take k)) ∧ Below (w.heap.size + 2) W0 wr) (fun _ i _ => m - (intOf i).toNat)
  case atStart => exact ⟨0, _, _, _, Nat.zero_le _, rfl, rfl, HOP, fun p hp => by
      simp only [List.mem_cons, List.not_mem_nil, or_false] at hp
      rcases hp with rfl | rfl | rfl
      · exact HO1.out
      · exact HO2.out
      · exact HO3.out, by show _ = _; rw [HCH.out]; simp [payTail], HQ4.out⟩
  case round =>
    obtain ⟨k, A5, c5, ps, hk, rfl, rfl, HP, HPS, HCT, hq⟩ := hrel
    have hzr : w.heap.size + 2 ≤ wr.heap.size := Nat.le_trans (Nat.le_of_eq HW0.out.symm) hq.size
    clear HOP HO1 HO2 HO3 c84
    by_cases hlt : k < m
    · obtain ⟨b, off, v, rfl, hbs, hck, hv⟩ := H0.out.get hlt
      obtain ⟨v1, v2⟩ := hf.at_ hv
      have hbs' : b < w.heap.size + 2 := by rw [HW0.out] at hbs; exact hbs
      have hckr : wr.cell? ⟨b, off + k, none⟩ = some (.int .i64 v) := (hq.cell (p := ⟨b, off + k, none⟩) hbs').trans hck
      have HTS : Hid (pays.take (k + 1) = pays.take k ++ [v]) := take_snoc hv.out
      clear hck hbs
      go_wp2_with fail
      refine (stnum20 v _ v1 v2).mono ?_
      rintro e w5 ⟨A6, n6, c6, rfl, ho6, hb6⟩
      have hq6 := below_trans hq hb6 hzr
      have hz6 := Nat.le_trans hzr hb6.size
      have HP6 := own_below HP.out hb6
      have HN6 : Hid (Pc.own w5 (w.heap.size + 2) 5 ⟨A6, n6, c6, numB 9 (zig v)⟩) := own_mono ho6 hzr
      have HPS6 : Hid (∀ p ∈ ps, p.own w5 (w.heap.size + 2) 5) := fun p hp => own_below (HPS.out p hp) hb6
      have HPP := Lib.hid HP6
      clear ho6 hb6 HP6 hckr
      go_wp2_with (at_builtin; refine wpList_app1 tyPieces rfl _ _ rfl onePc (w.heap.size + 2) (.slice A5 (k + 3) c5) (k + 3) ps ⟨A6, n6, c6, numB 9 (zig v)⟩ _ rfl HPP.out rfl (by unfold maxLen; omega) (by omega) hz6 ?_; intro A7 c7 w7 hown7 hgrow7 hat7)
      go_roundw
      case rel =>
        have hk3 : k + 3 + 1 = k + 1 + 3 := by omega
        rw [hk3] at hown7 ⊢
        have hgal : (w5.alloc (.cells #[Value.slice A6 n6 c6] 55)).grownBy w7 (Value.slice A5 (k + 3) c5).ownBlock := hgrow7
        refine ⟨k + 1, A7, c7, ps ++ [⟨A6, n6, c6, numB 9 (zig v)⟩], by omega, by go_num, rfl, Lib.hid hown7, ?_, ?_, (hq6.alloc hz6 _).grown hgal (by simp; omega) (fun g hg => (HPP.out.lt g hg).1)⟩
        · intro p hp
          have hpo : p.own w5 (w.heap.size + 2) 5 := by
            rcases List.mem_append.1 hp with hp | hp
            · exact HPS6.out p hp
            · simp at hp; subst hp; exact HN6.out
          have hpa : (w5.alloc (.cells #[Value.slice A6 n6 c6] 55)).ownsRow (w.heap.size + 2) 5 1 p.val p.n (p.bs.map (Value.int .u8)) := World.ownsRow.alloc hpo _
          exact hpa.kept hgal (own_ne hpa (HPP.out.alloc _) (by decide))
        · show _ = _
          rw [catB_snoc, HCT.out, HTS.out]
          simp [payTail]
      case measure => simp [intOf]; omega
    · obtain rfl : k = m := by omega
      have HTS : Hid (pays.take k = pays) := List.take_of_length_le (by rw [H0.out.len]; omega)
      have hcat : catB ps = payB ds pays := by rw [HCT.out, HTS.out, payB, H0.out.len]
      have hbd : (catB ps).length ≤ 17592186044416 := by
        rw [hcat]; exact payB_len ds pays HD.out (by rw [H0.out.len]; exact hm)
      have hj := join22 A5 (k + 3) c5 ps wr (Sl.of_row HP.out) (fun p hp => Pc.own_ok (HPS.out p hp)) hbd
      rw [hcat] at hj
      have HJ := Lib.hid hj
      clear hj hcat hbd
      go_wp2_with fail
      refine HJ.out.mono ?_
      rintro e w8 ⟨A8, n8, c8, rfl, ho8, hb8⟩
      have hq8 := below_trans hq hb8 hzr
      obtain ⟨k1, k2, k3, k4⟩ := own_caps ho8
      have hof := of21 A8 n8 c8 (payB ds pays) w8 (Sl.of_row ho8) (payB_bytes ds pays HD.out hf (by rw [H0.out.len]; exact hm)) k1 k2 k3 k4
      have HOF := Lib.hid hof
      have HQ8 := Lib.hid hq8
      have hz8 := Nat.le_trans hzr hb8.size
      clear hof ho8 hb8 hq8 k3 k4
      go_wp2_with fail
      refine HOF.out.mono ?_
      rintro e w9 ⟨rfl, hb9⟩
      have HQ9 : Hid (Below (w.heap.size + 2) W0 w9) := below_trans HQ8.out hb9 hz8
      have HZ9 : Hid (w9.heap[w.heap.size + 1]? = some (.cells zero8 30 (0, 0))) := (HQ9.out.block _ (by omega)).trans HG2.out
      have hpd : ofI (payB ds pays) = payD ds pays := rfl
      rw [hpd]
      have HDD : Hid (Dig (payD ds pays)) := ofI_dig _
      have HSZ : Hid ((Try.prog.info? 30).map (·.size) = some (dcells (payD ds pays)).size) := by
        rw [show (dcells (payD ds pays)).size = 8 by simp [dcells, HDD.out.1]]; show _ = _; kernel_rfl
      have HO : Hid (zero8.size = (dcells (payD ds pays)).size) := by show _ = _; rw [show (dcells (payD ds pays)).size = 8 by simp [dcells, HDD.out.1]]; rfl
      have HA1 : Hid ((dcells (payD ds pays)).all (·.oneCell') = true) := by show _ = _; simp [dcells, Value.oneCell']
      clear hb9 hpd
      go_wp2_with (refine wpList_store_row rfl 30 _ _ rfl (w.heap.size + 1) (dcells (payD ds pays)) rfl rfl 30 zero8 HZ9.out HSZ.out HO.out HA1.out ?_)
      refine bodyPost_ret (v := dv (payD ds pays)) (results_cell_row Try.results8 _ _ (w.heap.size + 1) 30 _ (0, 0) _ rfl (setRow_heap w9 (w.heap.size + 1) zero8 _ 30 _ HZ9.out) Try.underlying30 rfl HSZ.out) rfl ⟨rfl, below_setRow (HB0.out.trans (HQ9.out.mono (by omega))) (by omega) _⟩
end Go.Proofs.Ytpnegfocmaecbaa
