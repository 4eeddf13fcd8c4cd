/- A list's truth; rows of digests; what stays while a book turns; the plain law of votes. -/
import Derived.Test.YtpnegfocmaecbaaNote9
namespace Go.Proofs.Ytpnegfocmaecbaa
open Go.RowKit

def atB (l : List Bool) (i : Nat) : Bool := l[i]?.getD false
theorem at7 (A : Option Addr) (n c i : Nat) (l : List Bool) (w : World) (h : Sl Value.bool w A n l) (hi : i ≤ 100) : Calls Try.prog 7 #[.slice A n c, .int .i64 i] w fun e w' => e = .returned (.bool (atB l i)) ∧ w = w' := by
  have hm := h.max
  by_cases hlt : i < n
  · obtain ⟨b, off, v, rfl, hb, hc, hv⟩ := h.get hlt
    have HV : Hid (atB l i = v) := by show _ = _; simp [atB, hv.out]
    clear h
    go_enter Try.func7, Try.ntmps7
    go_wp2
    go_ret
    exact ⟨by rw [HV.out]; rfl, rfl⟩
  · have HV : Hid (atB l i = false) := by
      show _ = _
      have : l[i]? = none := List.getElem?_eq_none (by rw [h.len]; omega)
      simp [atB, this]
    have h1 : decide ((i : Int) < (n : Int)) = false := by simp; omega
    have h2 : decide (i < n) = false := by simp; omega
    clear h
    go_enter Try.func7, Try.ntmps7
    go_wp2
    go_ret
    exact ⟨by rw [HV.out]; rfl, rfl⟩

theorem dInfo : (Try.prog.info? 30).map (fun i => (i.zero, i.size, i.bytes)) = some (some (.agg #[.int .u8 0, .int .u8 0, .int .u8 0, .int .u8 0, .int .u8 0, .int .u8 0, .int .u8 0, .int .u8 0]), 8, 8) := by kernel_rfl
theorem digL_len {k : List Int} (h : Dig k) : (digL k).length = 8 := by simp [digL, h.1]
theorem flat_get {α : Type} {f : α → List Value} {sz : Nat} : ∀ (xs : List α), (∀ x ∈ xs, (f x).length = sz) → ∀ (i : Nat) (x : α), xs[i]? = some x → ∀ (j : Nat) (c : Value), (f x)[j]? = some c → (xs.flatMap f)[i * sz + j]? = some c := by
  intro xs
  induction xs with
  | nil => intro _ i x h; simp at h
  | cons y ys ih =>
    intro hl i x hi j c hc
    have hy := hl y (by simp)
    have hj : j < (f x).length := (List.getElem?_eq_some_iff.1 hc).1
    cases i with
    | zero =>
      simp at hi
      subst hi
      rw [List.flatMap_cons, Nat.zero_mul, Nat.zero_add, List.getElem?_append_left hj]
      exact hc
    | succ i =>
      have hx := hl x (List.mem_of_getElem? hi)
      rw [List.flatMap_cons, List.getElem?_append_right (by rw [hy, Nat.succ_mul]; omega), hy]
      have : (i + 1) * sz + j - sz = i * sz + j := by rw [Nat.succ_mul]; omega
      rw [this]
      exact ih (fun z hz => hl z (by simp [hz])) i x (by simpa using hi) j c hc
theorem Sln.of_row {α : Type} {f : α → List Value} {sz : Nat} {w : World} {base e n c : Nat} {A : Option Addr} {xs : List α} (h : w.ownsRow base e sz (.slice A n c) n (xs.flatMap f)) (hl : xs.length = n) (hf : ∀ x ∈ xs, (f x).length = sz) (hs : 0 < sz) : Sln sz f w A n xs := by
  have hlt := h.lt
  rcases h.2 with ⟨hv, hn⟩ | ⟨g, cap, cur, hv, hb, hh, hnc, hcm, hcs, htk⟩
  · subst hn
    obtain rfl : xs = [] := List.eq_nil_of_length_eq_zero hl
    exact Sln.nil
  · injection hv with h1 _ h3
    subst h1 h3
    unfold maxLen at hcm
    refine ⟨hl, by omega, hf, fun hn => ⟨g, 0, rfl, (hlt g rfl).2, fun i v hv j u hu => ?_⟩⟩
    have hfg := flat_get xs hf i v hv j u hu
    rw [← htk] at hfg
    have : cur.toList[i * sz + j]? = some u := by
      rw [List.getElem?_take] at hfg
      split at hfg
      · exact hfg
      · cases hfg
    rw [Nat.zero_add]
    exact (blk_cell hh _).trans (by simpa using this)
theorem own_kp {w w' : World} {base e sz n : Nat} {v : Value} {xs : List Value} (h : w.ownsRow base e sz v n xs) (hk : Kp w w') (he : (e == 76 || e == 116) = false) : w'.ownsRow base e sz v n xs := by
  refine ⟨h.1, ?_⟩
  rcases h.2 with h2 | ⟨g, cap, cur, hv, hb, hh, r⟩
  · exact .inl h2
  · exact .inr ⟨g, cap, cur, hv, hb, hk.block g _ hh he, r⟩
theorem own_belowN {w w' : World} {base e sz n : Nat} {v : Value} {xs : List Value} (h : w.ownsRow base e sz v n xs) (hb : Below w.heap.size w w') : w'.ownsRow base e sz v n xs := by
  refine h.kept (row := none) ⟨hb.os, hb.tape, hb.output, hb.size, fun i hi _ => hb.block i hi⟩ ?_
  rcases hv : v.ownBlock with _ | g
  · exact .inl rfl
  · exact .inr (by simp)
/-- A signature that was made: none, or a row of two bytes. -/
def SigIn (w : World) (p : Pc) : Prop :=
  p = ⟨none, 0, 0, []⟩ ∨ ∃ g x y, p = ⟨some ⟨g, 0, none⟩, 2, 2, [x, y]⟩ ∧ w.heap[g]? = some (.cells #[.int .u8 x, .int .u8 y] 5 (0, 0)) ∧ (0 ≤ x ∧ x ≤ 255) ∧ (0 ≤ y ∧ y ≤ 255)
theorem SigIn.ok {w : World} {p : Pc} (h : SigIn w p) : SigOk w p := by
  rcases h with rfl | ⟨g, x, y, rfl, hg, hx, hy⟩
  · exact ⟨⟨Sl.nil, fun _ => rfl⟩, .inl ⟨rfl, rfl⟩⟩
  · refine ⟨⟨⟨rfl, (by decide : (2 : Nat) ≤ 9223372036854775807), fun _ => ⟨g, 0, rfl, blk_lt hg, fun k v hv => ?_⟩⟩, fun h => by cases h⟩, .inr ⟨x, y, rfl, rfl, hx, hy⟩⟩
    rw [Nat.zero_add, blk_cell hg]
    match k, hv with
    | 0, hv => simp at hv; subst hv; rfl
    | 1, hv => simp at hv; subst hv; rfl
theorem SigIn.kp {w w' : World} {p : Pc} (h : SigIn w p) (hk : Kp w w') : SigIn w' p := by
  rcases h with rfl | ⟨g, x, y, rfl, hg, hx, hy⟩
  · exact .inl rfl
  · exact .inr ⟨g, x, y, rfl, hk.block g _ hg (by simp [bookish]), hx, hy⟩
theorem SigIn.grown {w w' : World} {p : Pc} {row : Option Nat} (h : SigIn w p) (hg : w.grownBy w' row) (hr : ∀ g, some g = row → ∃ cs t fz, w.heap[g]? = some (.cells cs t fz) ∧ t ≠ 5) : SigIn w' p := by
  rcases h with rfl | ⟨g, x, y, rfl, hh, hx, hy⟩
  · exact .inl rfl
  · refine .inr ⟨g, x, y, rfl, (hg.block g (blk_lt hh) (fun e => ?_)).trans hh, hx, hy⟩
    obtain ⟨cs, t, fz, h1, h2⟩ := hr g e
    rw [hh] at h1
    injection h1 with h1
    injection h1 with _ ht
    exact h2 ht.symm
theorem own_row {w : World} {base e sz n : Nat} {v : Value} {xs : List Value} (h : w.ownsRow base e sz v n xs) : ∀ g, some g = v.ownBlock → ∃ cs t fz, w.heap[g]? = some (.cells cs t fz) ∧ t = e := fun g hg => by
  rcases h.2 with ⟨rfl, _⟩ | ⟨g', cap, cur, rfl, _, hh, _⟩
  · simp [Value.ownBlock] at hg
  · have : g = g' := by simpa [Value.ownBlock] using hg
    subst this
    exact ⟨_, _, _, hh, rfl⟩

/-! the plain law -/
def keyD (i : Nat) : List Int := [(i : Int) + 1, 0, 0, 0, 0, 0, 0, 0]
theorem keyD_dig {i : Nat} (h : i ≤ 100) : Dig (keyD i) := ⟨rfl, fun b hb => by simp [keyD] at hb; omega⟩
theorem keyD_inj {i j : Nat} (h : keyD i = keyD j) : i = j := by simp [keyD] at h; omega
def voteE (sg ot : List Bool) (pd od : List Int) (i : Nat) : Option Ent := if atB sg i = true then some (keyD i, pd) else if atB ot i = true then some (keyD i, od) else none
def entsTo (sg ot : List Bool) (pd od : List Int) (k : Nat) : List Ent := (List.range k).filterMap (voteE sg ot pd od)
def sigB (sg ot : List Bool) (pd od : List Int) (k : Nat) : List Int := if (voteE sg ot pd od k).isSome = true then [((entsTo sg ot pd od k).length : Int) % 256, ((entsTo sg ot pd od k).length : Int) / 256] else []
section
variable {sg ot : List Bool} {pd od : List Int}
theorem entsTo_succ (k : Nat) : entsTo sg ot pd od (k + 1) = entsTo sg ot pd od k ++ (voteE sg ot pd od k).toList := by
  unfold entsTo
  rw [List.range_succ, List.filterMap_append]
  cases h : voteE sg ot pd od k <;> simp [h]
theorem entsTo_len (k : Nat) : (entsTo sg ot pd od k).length ≤ k := by
  unfold entsTo
  exact Nat.le_trans (List.length_filterMap_le _ _) (by simp)
theorem voteE_key {i : Nat} {e : Ent} (h : voteE sg ot pd od i = some e) : e.1 = keyD i := by
  unfold voteE at h
  split at h
  · injection h with h; subst h; rfl
  · split at h
    · injection h with h; subst h; rfl
    · cases h
theorem entsTo_key {k : Nat} {e : Ent} (h : e ∈ entsTo sg ot pd od k) : ∃ i, i < k ∧ e.1 = keyD i ∧ voteE sg ot pd od i = some e := by
  unfold entsTo at h
  rw [List.mem_filterMap] at h
  obtain ⟨i, hi, hv⟩ := h
  exact ⟨i, by simpa using hi, voteE_key hv, hv⟩
theorem entsTo_new {k : Nat} {d : List Int} : (keyD k, d) ∉ entsTo sg ot pd od k := fun h => by
  obtain ⟨i, hi, hk, _⟩ := entsTo_key h
  have := keyD_inj hk
  omega
theorem entsTo_putE {k : Nat} {e : Ent} (h : voteE sg ot pd od k = some e) : putE (entsTo sg ot pd od k) e = entsTo sg ot pd od (k + 1) := by
  have hk := voteE_key h
  obtain ⟨e1, e2⟩ := e
  dsimp only at hk
  subst hk
  rw [putE, if_neg entsTo_new, entsTo_succ, h]; rfl
theorem entsTo_mono {k n : Nat} (h : k ≤ n) : ∃ r, entsTo sg ot pd od n = entsTo sg ot pd od k ++ r := by
  induction n with
  | zero => obtain rfl : k = 0 := by omega
            exact ⟨[], by simp⟩
  | succ n ih =>
    by_cases hk : k ≤ n
    · obtain ⟨r, hr⟩ := ih hk
      exact ⟨r ++ (voteE sg ot pd od n).toList, by rw [entsTo_succ, hr, List.append_assoc]⟩
    · obtain rfl : k = n + 1 := by omega
      exact ⟨[], by simp⟩
theorem entsTo_idx {k n : Nat} {e : Ent} (h : k < n) (hv : voteE sg ot pd od k = some e) : e ∈ entsTo sg ot pd od n ∧ (entsTo sg ot pd od n).idxOf e = (entsTo sg ot pd od k).length := by
  obtain ⟨r, hr⟩ := entsTo_mono (sg := sg) (ot := ot) (pd := pd) (od := od) (show k + 1 ≤ n by omega)
  have hk := voteE_key hv
  rw [hr, entsTo_succ, hv]
  obtain ⟨e1, e2⟩ := e
  dsimp only at hk
  subst hk
  refine ⟨by simp, ?_⟩
  rw [List.append_assoc, List.idxOf_append, if_neg entsTo_new]
  simp
/-- Is the signature that seat i shows one of the payout? -/
theorem ver_vote {i n : Nat} (hi : i < n) (hn : n ≤ 100) : verB (entsTo sg ot pd od n) (keyD i, pd) (sigB sg ot pd od i) = (atB sg i || (atB ot i && decide (pd = od))) := by
  have hl := entsTo_len (sg := sg) (ot := ot) (pd := pd) (od := od) i
  by_cases h1 : atB sg i = true
  · have hv : voteE sg ot pd od i = some (keyD i, pd) := by simp [voteE, h1]
    obtain ⟨hm, hx⟩ := entsTo_idx hi hv
    rw [h1, Bool.true_or, sigB, hv, if_pos (by rfl)]
    simp only [verB, hm, hx, true_and, decide_eq_true_eq]
    omega
  · by_cases h2 : atB ot i = true
    · have hv : voteE sg ot pd od i = some (keyD i, od) := by simp [voteE, h1, h2]
      obtain ⟨hm, hx⟩ := entsTo_idx hi hv
      rw [h2, sigB, hv, if_pos (by rfl)]
      have h1' : atB sg i = false := by simpa using h1
      rw [h1', Bool.false_or, Bool.true_and]
      simp only [verB]
      by_cases hpd : pd = od
      · subst hpd
        simp only [hm, hx, true_and, decide_true, decide_eq_true_eq]
        omega
      · have hnm : (keyD i, pd) ∉ entsTo sg ot pd od n := fun hmem => by
          obtain ⟨j, hj, hk, hvj⟩ := entsTo_key hmem
          have := keyD_inj hk
          subst this
          rw [hv] at hvj
          injection hvj with hvj
          injection hvj with _ hvj
          exact hpd hvj.symm
        simp [hnm, hpd]
    · have hv : voteE sg ot pd od i = none := by simp [voteE, h1, h2]
      have h1' : atB sg i = false := by simpa using h1
      have h2' : atB ot i = false := by simpa using h2
      rw [sigB, hv, h1', h2']
      rfl
end
end Go.Proofs.Ytpnegfocmaecbaa
