/- Contracts of package hash: bytes. -/
import Derived.Test.YtpnegfocmaecbaaHash
import Derived.WalkLawsBesides
import Derived.Laws.CopyOwn
namespace Go.Proofs.Ytpnegfocmaecbaa
open Go.RowKit

def Bytes (bs : List Int) : Prop := ∀ b ∈ bs, 0 ≤ b ∧ b ≤ 255
def chunk (bs : List Int) (k : Nat) : List Int := (bs.drop (8 * k)).take 8
def wholeTo (s : St) (bs : List Int) : Nat → St
  | 0 => s
  | k + 1 => takeI (wholeTo s bs k) (numI (chunk bs k))

theorem chunk_dig {bs : List Int} {k : Nat} (hb : Bytes bs) (h : 8 * k + 8 ≤ bs.length) : Dig (chunk bs k) :=
  ⟨by simp [chunk]; omega, fun d hd => hb d (List.mem_of_mem_drop (List.mem_of_mem_take hd))⟩

theorem run_arrayAt8 (W : World) (ad : Addr) (c : Nat) : (Instr.arrayAt 30 (.slice (some ad) 8 c)).run Try.prog W = .ok (.pointer (some ad)) W := by
  simp [Instr.arrayAt, run_underlying Try.underlying30]

set_option maxRecDepth 100000 in
theorem whole43 (s : St) (A : Option Addr) (n c : Nat) (bs : List Int) (g : Nat) (w : World) (hg : w.heap[g]? = some (.cells (stCells s) 85 (0, 0))) (h : Sl (Value.int .u8) w A n bs) (hb : Bytes bs) (hnc : n ≤ c) (hc : c ≤ 9223372036854775807) (hA : ∀ ad, A = some ad → ad.block ≠ g) :
    Calls Try.prog 43 #[.pointer (some ⟨g, 0, none⟩), .slice A n c] w fun e w' => e = .returned (.tuple #[]) ∧ Turned w g 85 (stCells (wholeTo s bs (n / 8))) w' := by
  have hm := h.max
  have HG := Lib.hid hg
  have HS := Lib.hid h
  have HA := Lib.hid hA
  clear hg h hA
  go_enter Try.func43, Try.ntmps43
  go_wp2_with fail
  go_loopw [8] (fun i wr => ∃ k : Nat, k ≤ n / 8 ∧ i = .int .i64 k ∧ Turned w g 85 (stCells (wholeTo s bs k)) wr) (fun i _ => n / 8 - (intOf i).toNat)
  case atStart => exact ⟨0, by omega, rfl, HG.out, World.grownBy.refl _ _⟩
  case round =>
    obtain ⟨k, hk, rfl, ht⟩ := hrel
    by_cases hlt : k < n / 8
    · have hk8 : 8 * k + 8 ≤ n := by omega
      have hdig : Dig (chunk bs k) := chunk_dig hb (by rw [HS.out.len]; exact hk8)
      obtain ⟨d0, d1, d2, d3, d4, d5, d6, d7, hds⟩ := dig8 hdig.1
      obtain ⟨b, off, rfl, hbs, hc'⟩ := HS.out.at_ (by omega)
      have hne : b ≠ g := HA.out _ rfl
      have hcell : ∀ j d, (chunk bs k)[j]? = some d → wr.cell? ⟨b, off + k * 8 + j, none⟩ = some (.int .u8 d) := fun j d hj => by
        have hj8 : j < 8 := by have := (List.getElem?_eq_some_iff.1 hj).1; rw [hdig.1] at this; exact this
        have : bs[8 * k + j]? = some d := by
          rw [chunk, List.getElem?_take, if_pos hj8, List.getElem?_drop] at hj; exact hj
        have hcc := hc' _ _ this
        rw [World.cell?_of_block (w := w) (w' := wr) (ht.only.block b hbs (by simpa using hne)), show off + k * 8 + j = off + (8 * k + j) by omega]
        exact hcc
      rw [hds] at hcell
      have e0 := hcell 0 d0 rfl
      have e1 := hcell 1 d1 rfl
      have e2 := hcell 2 d2 rfl
      have e3 := hcell 3 d3 rfl
      have e4 := hcell 4 d4 rfl
      have e5 := hcell 5 d5 rfl
      have e6 := hcell 6 d6 rfl
      have e7 := hcell 7 d7 rfl
      rw [Nat.add_zero] at e0
      have HDS := Lib.hid hds
      have HDG := Lib.hid hdig
      have HT := Lib.hid ht
      have hdec : decide ((k : Int) < (n : Int) / 8) = true := by simp; omega
      have hat := run_arrayAt8
      clear hcell hc' hds hdig ht
      have hn := num49 (chunk bs k) wr HDG.out
      have hn' : Calls Try.prog 49 #[.agg #[.int .u8 d0, .int .u8 d1, .int .u8 d2, .int .u8 d3, .int .u8 d4, .int .u8 d5, .int .u8 d6, .int .u8 d7]] wr fun e w' => e = .returned (.int .u64 (numI (chunk bs k))) ∧ Below wr.heap.size wr w' := by
        rw [HDS.out] at hn ⊢; exact hn
      have HN := Lib.hid hn'
      clear hn hn'
      go_wp2_with fail
      refine HN.out.mono ?_
      rintro e w1 ⟨rfl, hb1⟩
      have hc2 := take48 (wholeTo s bs k) (numI (chunk bs k)) g w1 (blk_below HT.out.block hb1 (blk_lt HT.out.block))
      have HC2 := Lib.hid hc2
      have HB1 := Lib.hid hb1
      clear hc2 hb1 e0 e1 e2 e3 e4 e5 e6 e7
      go_wp2_with (go_at_call 48; refine HC2.out.mono ?_; rintro e w2 ⟨rfl, ht2⟩)
      go_roundw
      case rel => exact ⟨k + 1, by omega, by go_num, ht2.block, (HT.out.only.trans (only_below HB1.out _)).trans ht2.only⟩
      case measure => simp [intOf]; omega
    · obtain rfl : k = n / 8 := by omega
      have hdec : decide (((n / 8 : Nat) : Int) < (n : Int) / 8) = false := by simp
      go_wp2_with fail
      go_end0
      exact ⟨rfl, ht⟩

def tailB (bs : List Int) : List Int := bs.drop (bs.length / 8 * 8)
def lastD (bs : List Int) : List Int := ((tailB bs) ++ [1] ++ List.replicate 8 0).take 8
def endI (s : St) (bs : List Int) : St := takeI (takeI s (numI (lastD bs))) bs.length

theorem lastD_dig {bs : List Int} (h : Bytes bs) : Dig (lastD bs) := by
  refine ⟨by simp [lastD], fun d hd => ?_⟩
  have := List.mem_of_mem_take hd
  simp only [List.mem_append, List.mem_singleton, List.mem_replicate] at this
  rcases this with (h1 | rfl) | ⟨_, rfl⟩
  · exact h d (List.mem_of_mem_drop h1)
  · omega
  · omega

theorem splice_zero (bs : List Int) (m : Nat) (hm : (tailB bs).length = m) (h8 : m < 8) : (splice zero8.toList 0 ((tailB bs).map (Value.int .u8))).toArray = dcells (tailB bs ++ List.replicate (8 - m) 0) := by
  have h : zero8.toList.drop m = (List.replicate (8 - m) (0 : Int)).map (Value.int .u8) := by
    have : zero8.toList = List.replicate 8 (Value.int .u8 0) := rfl
    rw [this, List.drop_replicate, List.map_replicate]
  simp only [splice, List.take_zero, List.nil_append, Nat.zero_add, List.length_map, hm, h, dcells, List.map_append]
theorem set_last (bs : List Int) (m : Nat) (hm : (tailB bs).length = m) (h8 : m < 8) : (dcells (tailB bs ++ List.replicate (8 - m) 0)).setIfInBounds m (.int .u8 1) = dcells (lastD bs) := by
  unfold dcells lastD
  obtain ⟨k, hk⟩ : ∃ k, 8 - m = k + 1 := ⟨7 - m, by omega⟩
  have h1 : ((tailB bs ++ [1] ++ List.replicate 8 0).take 8) = tailB bs ++ [1] ++ List.replicate k 0 := by
    have hr : List.replicate 8 (0 : Int) = List.replicate k 0 ++ List.replicate (8 - k) 0 := by
      rw [List.replicate_append_replicate]; congr 1; omega
    rw [hr, ← List.append_assoc, List.take_left' (by simp; omega)]
  rw [h1, hk]
  apply Array.ext'
  simp only [Array.toList_setIfInBounds, List.map_append, List.map_replicate, List.replicate_succ, List.map_cons, List.map_nil]
  rw [List.set_append_right _ _ (by simp; omega)]
  simp [hm]

theorem block_of_add (a : Addr) (n : Nat) : (a.add n).block = a.block := by unfold Addr.add; split <;> rfl
theorem Sl.only {α : Type} {f : α → Value} {w w' : World} {A : Option Addr} {n g : Nat} {xs : List α} (h : Sl f w A n xs) (hb : w.grownBy w' (some g)) (hA : 0 < n → ∀ ad, A = some ad → ad.block ≠ g) : Sl f w' A n xs :=
  ⟨h.len, h.max, fun hn => by
    obtain ⟨b, off, hA', hlt, hc⟩ := h.at_ hn
    refine ⟨b, off, hA', Nat.lt_of_lt_of_le hlt hb.size, fun k v hv => ?_⟩
    have hne := hA hn _ hA'
    exact (World.cell?_of_block (hb.block b hlt (by simpa using hne))).trans (hc k v hv)⟩

set_option maxRecDepth 100000 in
set_option maxHeartbeats 1000000 in
theorem end44 (s : St) (A : Option Addr) (n c : Nat) (bs : List Int) (g : Nat) (w : World) (hg : w.heap[g]? = some (.cells (stCells s) 85 (0, 0))) (h : Sl (Value.int .u8) w A n bs) (hb : Bytes bs) (hnc : n ≤ c) (hc : c ≤ 9223372036854775807) (hA : A = none → c = 0) :
    Calls Try.prog 44 #[.pointer (some ⟨g, 0, none⟩), .slice A n c] w fun e w' => e = .returned (.tuple #[]) ∧ Turned w g 85 (stCells (endI s bs)) w' := by
  have hm := h.max
  have hgl := blk_lt hg
  have HG := Lib.hid hg
  have HS := Lib.hid h
  obtain ⟨m, hm8⟩ : ∃ m, n - n / 8 * 8 = m := ⟨_, rfl⟩
  have m8 : m < 8 := by omega
  have HML : Hid ((tailB bs).length = m) := by show _ = _; simp [tailB, h.len]; omega
  obtain ⟨cs, hcs⟩ : ∃ cs, (tailB bs).map (Value.int .u8) = cs := ⟨_, rfl⟩
  have hl : cs.length = m := by rw [← hcs, List.length_map]; exact HML.out
  have HCL := Lib.hid hl
  have HCS := Lib.hid hcs
  have h1c : Hid (∀ v ∈ cs, v.oneCell' = true) := fun v hv => by rw [← hcs] at hv; obtain ⟨d, _, rfl⟩ := List.mem_map.1 hv; rfl
  have hsrc : Hid (∀ b off, A = some ⟨b, off, none⟩ → 0 < n → ∀ j v, cs[j]? = some v → w.cell? ((⟨b, off + n / 8 * 8, none⟩ : Addr).add j) = some v) := fun b off hAe hn0 j v hj => by
    rw [← hcs, List.getElem?_map] at hj
    obtain ⟨d, hd, rfl⟩ := Option.map_eq_some_iff.1 hj
    rw [tailB, List.getElem?_drop, h.len] at hd
    obtain ⟨b', off', hA', hbs, hcc⟩ := h.at_ hn0
    rw [hAe] at hA'
    injection hA' with hA'
    injection hA' with e1 e2
    subst e1 e2
    have h2 := hcc _ _ hd
    have h3 : (⟨b, off + n / 8 * 8, none⟩ : Addr).add j = ⟨b, off + (n / 8 * 8 + j), none⟩ := by
      unfold Addr.add
      split
      · subst_vars; simp
      · simp; omega
    rw [h3]
    exact h2
  have H0 := Lib.hid hA
  have hdig := lastD_dig hb
  obtain ⟨d0, d1, d2, d3, d4, d5, d6, d7, hds⟩ := dig8 hdig.1
  have HDS := Lib.hid hds
  have HDG := Lib.hid hdig
  clear hg h hl hcs hA hds hdig
  have key : (∃ b off, A = some ⟨b, off, none⟩ ∧ 0 < m ∧ ¬ c = n / 8 * 8 ∧ b < w.heap.size) ∨ (m ≤ 0 ∧ ∃ ad, A = some ad ∧ ¬ c = n / 8 * 8) ∨ (m ≤ 0 ∧ ∃ ad, A = some ad ∧ c = n / 8 * 8) ∨ (A = none ∧ c = 0 ∧ n = 0 ∧ m ≤ 0) := by
    rcases hAA : A with _ | ad
    · right; right; right
      have := H0.out hAA
      exact ⟨rfl, this, by omega, by omega⟩
    · by_cases hm0 : 0 < m
      · obtain ⟨b, off, hA', hbs, _⟩ := HS.out.at_ (by omega)
        left
        rw [hAA] at hA'
        exact ⟨b, off, hA', hm0, by omega, hbs⟩
      · by_cases hcc : c = n / 8 * 8
        · exact .inr (.inr (.inl ⟨by omega, ad, rfl, hcc⟩))
        · exact .inr (.inl ⟨by omega, ad, rfl, hcc⟩)
  have q1 : IntKind.i64.wrap ((n : Int) / 8) = (n : Int) / 8 := IntWalk.i64_in _ (by omega)
  have q2 : IntKind.i64.wrap ((n : Int) / 8 * 8) = (n : Int) / 8 * 8 := IntWalk.i64_in _ (by omega)
  have q3 : 0 ≤ (n : Int) / 8 * 8 := by omega
  have q4 : (n : Int) / 8 * 8 ≤ n := by omega
  have q5 : ((n : Int) / 8 * 8).toNat = n / 8 * 8 := by omega
  have q6 : IntKind.i64.wrap 0 = 0 := rfl
  have HM8 := Lib.hid hm8
  clear hm8
  rcases key with ⟨b, off, rfl, k1, k2, k3⟩ | ⟨k1, ad, rfl, k2⟩ | ⟨k1, ad, rfl, k2⟩ | ⟨rfl, rfl, rfl, k1⟩
  all_goals
    go_enter Try.func44, Try.ntmps44
    go_wp2_with fail
    have hb0 : Below w.heap.size w (w.alloc (.cells #[.int .u8 0, .int .u8 0, .int .u8 0, .int .u8 0, .int .u8 0, .int .u8 0, .int .u8 0, .int .u8 0] 30)).drew := ((Below.refl _ _).alloc (Nat.le_refl _) _).drew
    have hz : (w.alloc (.cells #[.int .u8 0, .int .u8 0, .int .u8 0, .int .u8 0, .int .u8 0, .int .u8 0, .int .u8 0, .int .u8 0] 30)).drew.heap[w.heap.size]? = some (.cells zero8 30 (0, 0)) := heap_alloc_new w _
    have HB0 := Lib.hid hb0
    have HZ := Lib.hid hz
    clear hb0 hz
    generalize w.alloc (.cells #[.int .u8 0, .int .u8 0, .int .u8 0, .int .u8 0, .int .u8 0, .int .u8 0, .int .u8 0, .int .u8 0] 30) = W0 at HB0 HZ ⊢
    go_still_tail 7, (by kernel_rfl)
    change wpList _ _ _ _ _ W0.drew
    refine wpList_copy_splice rfl _ _ _ _ rfl 5 Try.underlying55 (by kernel_rfl) _ _ 8 8 _ _ rfl rfl w.heap.size 0 zero8.toList 30 HZ.out cs (by rw [HCL.out, ← HM8.out]; exact (Nat.min_eq_left (by omega)).symm) ?hp (by rw [HCL.out]; simp [zero8]; omega) h1c.out w.heap.size w HB0.out (Nat.le_refl _) ?_
    case hp =>
      intro hp
      rw [HCL.out] at hp
      first
        | (exfalso; omega)
        | exact ⟨rfl, _, rfl, fun j v hj => (HB0.out.cell (by rw [block_of_add]; exact k3)).trans (hsrc.out b off rfl (by have := HM8.out; omega) j v hj)⟩
    intro w1 hz1 hb1
    rw [HCL.out]
    have hz2 : w1.heap[w.heap.size]? = some (.cells (dcells (tailB bs ++ List.replicate (8 - m) 0)) 30 (0, 0)) := by
      rw [hz1.out, ← HCS.out, splice_zero bs m HML.out m8]
    have hz3 : (w1.setCell ⟨w.heap.size, m, none⟩ (.int .u8 1)).heap[w.heap.size]? = some (.cells (dcells (lastD bs)) 30 (0, 0)) := by
      rw [blk_set hz2 m _, set_last bs m HML.out m8]
    have hcm : ∃ v, w1.cell? ⟨w.heap.size, m, none⟩ = some v := by
      rw [blk_cell hz2 m]; exact ⟨_, Array.getElem?_eq_getElem (by simp [dcells, HML.out]; omega)⟩
    obtain ⟨vm, hvm⟩ := hcm
    have hfm := blk_frozen hz2 m
    have hb2 : Below w.heap.size w (w1.setCell ⟨w.heap.size, m, none⟩ (.int .u8 1)) := hb1.setCell (Nat.le_refl _) _
    have HZ3 := Lib.hid hz3
    have HB2 := Lib.hid hb2
    clear hz1 hz2 hz3 hb1 hb2 HZ HB0
    have hsz : (Try.prog.info? 30).map (·.size) = some (dcells (lastD bs)).size := by
      rw [show (dcells (lastD bs)).size = 8 by simp [dcells, HDG.out.1]]; kernel_rfl
    have HSZ := Lib.hid hsz
    clear hsz
    go_wp2_with (refine wpList_load_row rfl 30 _ rfl w.heap.size rfl 30 (dcells (lastD bs)) (0, 0) _ HZ3.out Try.underlying30 rfl HSZ.out ?_)
    with_reducible refine (num49 (lastD bs) _ HDG.out).mono ?_
    rintro e w2 ⟨rfl, hb3⟩
    have hgb : g < w.heap.size := hgl
    have hB3 : Below w.heap.size w w2 := below_trans HB2.out hb3 HB2.out.size
    have hg2 := blk_below HG.out hB3 hgb
    have hc2 := take48 s (numI (lastD bs)) g w2 hg2
    have HC2 := Lib.hid hc2
    have HB3 := Lib.hid hB3
    clear hb3 hc2 hg2 hB3 hvm hfm
    go_wp2_with fail
    refine HC2.out.mono ?_
    rintro e w3 ⟨rfl, ht3⟩
    have hc3 := take48 (takeI s (numI (lastD bs))) bs.length g w3 ht3.block
    rw [HS.out.len] at hc3
    have HC3 := Lib.hid hc3
    have HT3 := Lib.hid ht3
    clear hc3 ht3
    go_wp2_with fail
    refine HC3.out.mono ?_
    rintro e w4 ⟨rfl, ht4⟩
    go_wp2_with fail
    go_end0
    refine ⟨rfl, ?_, ((only_below HB3.out _).trans HT3.out.only).trans ht4.only⟩
    rw [ht4.block, endI, HS.out.len]

def bytesI (s : St) (bs : List Int) : St := endI (wholeTo s bs (bs.length / 8)) bs
theorem bytes36 (s : St) (A : Option Addr) (n c : Nat) (bs : List Int) (g : Nat) (w : World) (hg : w.heap[g]? = some (.cells (stCells s) 85 (0, 0))) (h : Sl (Value.int .u8) w A n bs) (hb : Bytes bs) (hnc : n ≤ c) (hc : c ≤ 9223372036854775807) (hA : A = none → c = 0) (hne : ∀ ad, A = some ad → ad.block ≠ g) :
    Calls Try.prog 36 #[.pointer (some ⟨g, 0, none⟩), .slice A n c] w fun e w' => e = .returned (.tuple #[]) ∧ Turned w g 85 (stCells (bytesI s bs)) w' := by
  have h1 := whole43 s A n c bs g w hg h hb hnc hc hne
  have H1 := Lib.hid h1
  have HS := Lib.hid h
  have HA := Lib.hid hA
  have HNE := Lib.hid hne
  clear h1 h hA hne hg
  go_enter Try.func36, Try.ntmps36
  go_wp2_with fail
  refine H1.out.mono ?_
  rintro e w1 ⟨rfl, ht⟩
  have h2 := end44 _ A n c bs g w1 ht.block (HS.out.only ht.only (fun _ => HNE.out)) hb hnc hc HA.out
  have H2 := Lib.hid h2
  have HT := Lib.hid ht
  clear h2 ht
  go_wp2_with fail
  refine H2.out.mono ?_
  rintro e w2 ⟨rfl, ht2⟩
  go_wp2_with fail
  go_end0
  refine ⟨rfl, ?_, HT.out.only.trans ht2.only⟩
  rw [ht2.block, bytesI, HS.out.len]

def beginI (k : Int) : St := (2611923443488327891, 1376283091369227076, 11820040416388919760, k)
def ofI (bs : List Int) : List Int := givesI (bytesI (beginI 1) bs)
theorem ofI_dig (bs : List Int) : Dig (ofI bs) := fromI_dig _

set_option maxRecDepth 100000 in
theorem of21 (A : Option Addr) (n c : Nat) (bs : List Int) (w : World) (h : Sl (Value.int .u8) w A n bs) (hb : Bytes bs) (hnc : n ≤ c) (hc : c ≤ 9223372036854775807) (hA : A = none → c = 0) (hal : ∀ ad, A = some ad → ad.block < w.heap.size) :
    Calls Try.prog 21 #[.slice A n c] w fun e w' => e = .returned (dv (ofI bs)) ∧ Below w.heap.size w w' := by
  have HS := Lib.hid h
  have HA := Lib.hid hA
  have HL := Lib.hid hal
  have hb0 : Below w.heap.size w (w.alloc (.cells #[.int .u8 0, .int .u8 0, .int .u8 0, .int .u8 0, .int .u8 0, .int .u8 0, .int .u8 0, .int .u8 0] 30)) := (Below.refl _ _).alloc (Nat.le_refl _) _
  have hz : (w.alloc (.cells #[.int .u8 0, .int .u8 0, .int .u8 0, .int .u8 0, .int .u8 0, .int .u8 0, .int .u8 0, .int .u8 0] 30)).heap[w.heap.size]? = some (.cells zero8 30 (0, 0)) := heap_alloc_new w _
  have HB0 := Lib.hid hb0
  have HZ := Lib.hid hz
  clear h hA hal hb0 hz
  go_enter Try.func21, Try.ntmps21
  go_wp2_with fail
  refine (begin35 1 _).mono ?_
  rintro e w1 ⟨rfl, hb1⟩
  have hB1 : Below w.heap.size w w1 := below_trans HB0.out hb1 HB0.out.size
  have hZ1 : w1.heap[w.heap.size]? = some (.cells zero8 30 (0, 0)) := blk_below HZ.out hb1 (by simp)
  have hl1 := blk_lt hZ1
  have HB1 := Lib.hid hB1
  have HZ1 := Lib.hid hZ1
  rw [show stCells (2611923443488327891, 1376283091369227076, 11820040416388919760, 1) = #[.int .u64 2611923443488327891, .int .u64 1376283091369227076, .int .u64 11820040416388919760, .int .u64 1] from rfl]
  clear hb1 hB1 hZ1
  have hst : (w1.alloc (.cells #[.int .u64 2611923443488327891, .int .u64 1376283091369227076, .int .u64 11820040416388919760, .int .u64 1] 85)).heap[w1.heap.size]? = some (.cells (stCells (beginI 1)) 85 (0, 0)) := heap_alloc_new w1 _
  have hB2 : Below w.heap.size w (w1.alloc (.cells #[.int .u64 2611923443488327891, .int .u64 1376283091369227076, .int .u64 11820040416388919760, .int .u64 1] 85)) := HB1.out.alloc HB1.out.size _
  have hZ2 : (w1.alloc (.cells #[.int .u64 2611923443488327891, .int .u64 1376283091369227076, .int .u64 11820040416388919760, .int .u64 1] 85)).heap[w.heap.size]? = some (.cells zero8 30 (0, 0)) := (Below.heap_alloc w1 _ _ hl1).trans HZ1.out
  have hc1 := bytes36 (beginI 1) A n c bs w1.heap.size _ hst (HS.out.below hB2) hb hnc hc HA.out (fun ad had => by have := HL.out ad had; have := HB1.out.size; omega)
  have HC1 := Lib.hid hc1
  have HB2 := Lib.hid hB2
  have HZ2 := Lib.hid hZ2
  clear hst hB2 hZ2 hc1
  go_wp2_with fail
  refine HC1.out.mono ?_
  rintro e w2 ⟨rfl, ht2⟩
  have hs2 : (w1.alloc (.cells #[.int .u64 2611923443488327891, .int .u64 1376283091369227076, .int .u64 11820040416388919760, .int .u64 1] 85)).heap.size = w1.heap.size + 1 := by simp
  have hB3 : Below w.heap.size w w2 := HB2.out.grown ht2.only (by rw [hs2]; have := HB1.out.size; omega) (fun k hk => by injection hk with hk; have := HB1.out.size; omega)
  have hZ3 : w2.heap[w.heap.size]? = some (.cells zero8 30 (0, 0)) := (ht2.only.block _ (by rw [hs2]; omega) (by simp; omega)).trans HZ2.out
  have hl3 := blk_lt hZ3
  have hc3 := gives37 _ _ w2 ht2.block
  have HC3 := Lib.hid hc3
  have HB3 := Lib.hid hB3
  have HZ3 := Lib.hid hZ3
  clear hs2 hB3 hZ3 hc3 ht2
  go_wp2_with fail
  refine HC3.out.mono ?_
  rintro e w3 ⟨rfl, hb4⟩
  have hZ4 : w3.heap[w.heap.size]? = some (.cells zero8 30 (0, 0)) := blk_below HZ3.out hb4 hl3
  have HZ4 := Lib.hid hZ4
  have HB4 : Hid (Below w.heap.size w w3) := below_trans HB3.out hb4 HB3.out.size
  have HD : Hid (Dig (givesI (bytesI (beginI 1) bs))) := ofI_dig bs
  have hO : givesI (bytesI (beginI 1) bs) = ofI bs := rfl
  rw [hO] at HD ⊢
  have HSZ : Hid ((Try.prog.info? 30).map (·.size) = some (dcells (ofI bs)).size) := by
    rw [show (dcells (ofI bs)).size = 8 by simp [dcells, HD.out.1]]; show _ = _; kernel_rfl
  have HO : Hid (zero8.size = (dcells (ofI bs)).size) := by show _ = _; rw [show (dcells (ofI bs)).size = 8 by simp [dcells, HD.out.1]]; rfl
  have HA1 : Hid ((dcells (ofI bs)).all (·.oneCell') = true) := by show _ = _; simp [dcells, Value.oneCell']
  clear hb4 hZ4 hO
  go_wp2_with (refine wpList_store_row rfl 30 _ _ rfl w.heap.size (dcells (ofI bs)) rfl rfl 30 zero8 HZ4.out HSZ.out HO.out HA1.out ?_)
  refine bodyPost_ret (v := dv (ofI bs)) (results_cell_row Try.results21 _ _ w.heap.size 30 _ (0, 0) _ rfl (setRow_heap w3 w.heap.size zero8 _ 30 _ HZ4.out) Try.underlying30 rfl HSZ.out) rfl ⟨rfl, below_setRow HB4.out (Nat.le_refl _) _⟩
end Go.Proofs.Ytpnegfocmaecbaa
