/- What CloseMine needs: makes in an open order; lists of bools in memory; the plain law. -/
import Derived.Test.YtpnegfocmaecbaaAgr2
import Derived.Deep.OwnRows
namespace Go.Proofs.Ytpnegfocmaecbaa
open Go.RowKit

theorem step_mk {P : Program} {ops : Array Oper} {o : Oper} {a : Act} {w : World} {K : Act → World → Prop} {Q : Exit → Act → World → Prop} {X : Prop} {t e : TypeId} {z : Value} {bytes : Nat} {α : Type} {f : α → Value} (T : ElemTy P t e z bytes) (hgd : o.guard = none) (l c : Operand) (hop : o.op = Op.makeSlice t l c) (base : Nat) (kl kc : IntKind) (L C : Int) (n : Nat)
    (hl : a.eval l = .int kl L) (hc : a.eval c = .int kc C) (hL : L = (n : Int)) (hC : C = (n : Int)) (b2 : bytes * n ≤ 281474976710656) (b3 : n ≤ maxLen) (b4 : base ≤ w.heap.size) (y : α) (hy : f y = z)
    (hK : ∀ w', w'.heap[w.heap.size]? = some (.cells ((List.replicate n y).map f).toArray e (0, 0)) → w.grownBy w' none → K (a.put o.dst (.slice (some ⟨w.heap.size, 0, none⟩) n n)) w') :
    if Region.wanted o (yielded ops a.tmps) = true then Oper.wp P o a w K Q else X := by
  have hw : Region.wanted o (yielded ops a.tmps) = true := by simp [Region.wanted, hgd]
  rw [if_pos hw]
  obtain ⟨i, hi, hz, hs1, hby⟩ := T.info
  obtain ⟨w', hrun, r1, r2⟩ := run_make_full (P := P) w base t e i z 1 T.sl hi hz hs1 kl kc n (by rw [hby]; exact b2) b3 b4
  subst hL hC
  unfold Oper.wp
  simp [execOp, hop, hl, hc, hrun, Result.andThen]
  refine hK w' ?_ r2
  rw [T.one, Nat.mul_one, toList_madeCells_one] at r1
  rcases r1.2 with ⟨h, _⟩ | ⟨g, cap, cur, hv, _, hh, _, _, hcs, htk⟩
  · cases h
  · injection hv with h1 h2 h3
    injection h1 with h1
    injection h1 with h1 _
    subst h1 h3
    rw [hh]
    have : cur = ((List.replicate n y).map f).toArray := by
      rw [List.map_replicate, hy]
      apply Array.toList_inj.1
      rw [← htk, List.take_of_length_le (by rw [Array.length_toList, hcs]; omega)]
    rw [this]

def bcells (l : List Bool) : Array Value := (l.map Value.bool).toArray
theorem bcells_set (l : List Bool) (k : Nat) (v : Bool) : (bcells l).setIfInBounds k (.bool v) = bcells (l.set k v) := by
  unfold bcells
  rw [List.map_set]
  apply Array.toList_inj.1
  simp
theorem bcells_at {l : List Bool} {k : Nat} {v : Bool} (h : l[k]? = some v) : (bcells l)[k]? = some (.bool v) := by simp [bcells, h]
theorem Sl.of_block {α : Type} {f : α → Value} {w : World} {g n : Nat} {t : TypeId} {cs : Array Value} {xs : List α} (h : w.heap[g]? = some (.cells cs t (0, 0))) (hl : xs.length = n) (hm : n ≤ 9223372036854775807) (hc : cs.toList = xs.map f) : Sl f w (some ⟨g, 0, none⟩) n xs :=
  ⟨hl, hm, fun _ => ⟨g, 0, rfl, blk_lt h, fun k v hv => by rw [Nat.zero_add, blk_cell h, ← Array.getElem?_toList, hc, List.getElem?_map, hv]; rfl⟩⟩
theorem Sl.of_bools {w : World} {g n : Nat} {l : List Bool} (h : w.heap[g]? = some (.cells (bcells l) 4 (0, 0))) (hl : l.length = n) (hn : n ≤ 100) : Sl Value.bool w (some ⟨g, 0, none⟩) n l := Sl.of_block h hl (by omega) (by simp [bcells])

def sgM (n me k : Nat) : List Bool := (List.range n).map fun i => decide (i < k) && decide (i ≠ me)
def otM (n me : Nat) : List Bool := (List.replicate n false).set me true
theorem sgM_len (n me k : Nat) : (sgM n me k).length = n := by simp [sgM]
theorem otM_len (n me : Nat) : (otM n me).length = n := by simp [otM]
theorem sgM_zero (n me : Nat) : sgM n me 0 = List.replicate n false := by
  apply List.ext_getElem <;> simp [sgM]
theorem sgM_at (n me k : Nat) (h : k < n) : (sgM n me k)[k]? = some false := by simp [sgM, h]
theorem sgM_succ (n me k : Nat) : sgM n me (k + 1) = (sgM n me k).set k (decide (k ≠ me)) := by
  apply List.ext_getElem
  · simp [sgM]
  · intro i h1 h2
    simp only [sgM, List.getElem_map, List.getElem_range, List.getElem_set]
    by_cases h : k = i
    · subst h; simp
    · rw [if_neg h]
      have : decide (i < k + 1) = decide (i < k) := by rw [decide_eq_decide]; omega
      rw [this]
theorem atB_sgM {n me i : Nat} (h : i < n) : atB (sgM n me n) i = decide (i ≠ me) := by simp [atB, sgM, h]
theorem atB_otM {n me i : Nat} (h : i < n) : atB (otM n me) i = decide (i = me) := by
  unfold atB otM
  rw [List.getElem?_set]
  by_cases e : me = i
  · subst e; simp [h]
  · have : ¬ i = me := fun e' => e e'.symm
    rw [if_neg e]
    simp [h, this]
theorem atB_rep (n i : Nat) : atB (List.replicate n false) i = false := by
  unfold atB
  by_cases h : i < n
  · simp [h]
  · simp [h]
theorem goneTo_self {gl : List Bool} {n : Nat} (h : gl.length = n) : goneTo gl n n = gl := by
  apply List.ext_getElem
  · simp [goneTo, h]
  · intro i h1 h2
    have hi : i < n := by simpa [goneTo] using h1
    simp [goneTo, hi, atB, List.getElem?_eq_getElem h2]
theorem sgn_mine {n me : Nat} {pd od : List Int} (hme : me < n) (hne : pd ≠ od) : sgnTo (sgM n me n) (otM n me) (List.replicate n false) pd od n = false := by
  unfold sgnTo
  rw [List.all_eq_false]
  refine ⟨me, by simpa using hme, ?_⟩
  simp [sgnB, atB_rep, atB_sgM hme, hne]
theorem all_mine {n : Nat} (h : 1 ≤ n) : allTo (List.replicate n false) n = false := by
  unfold allTo
  rw [List.all_eq_false]
  exact ⟨0, by simp; omega, by simp [atB_rep]⟩
theorem sgn_gone {n me : Nat} {pd od : List Int} : sgnTo (sgM n me n) (otM n me) (otM n me) pd od n = true := by
  unfold sgnTo
  rw [List.all_eq_true]
  intro i hi
  have hi' : i < n := by simpa using hi
  unfold sgnB
  rw [atB_otM hi', atB_sgM hi']
  by_cases e : i = me <;> simp [e]
theorem all_gone {n me : Nat} (h : 2 ≤ n) : allTo (otM n me) n = false := by
  unfold allTo
  rw [List.all_eq_false]
  by_cases e : me = 0
  · refine ⟨1, by simp; omega, ?_⟩
    rw [atB_otM (by omega)]; simp; omega
  · refine ⟨0, by simp; omega, ?_⟩
    rw [atB_otM (by omega)]; simp; omega
theorem sum_none {xs : List Int} (n : Nat) (h : sumFrom 0 xs = none) (hn : 2 ≤ n ∧ n ≤ 8) (hl : xs.length = n) : addsS 0 n xs ≠ 0 := by
  unfold addsS
  rw [if_neg (by omega), if_neg (by decide), if_neg (by simp [hl])]
  by_cases hr : xs.all rightB = true
  · rw [if_neg (by simp [hr])]
    rw [sumFrom_eq xs 0 (by omega) hr] at h
    split at h
    · cases h
    · rw [if_pos (by omega)]; decide
  · rw [if_pos (by simpa using hr)]; decide
theorem sumFrom_all {xs : List Int} {s t : Int} (h : sumFrom s xs = some t) : xs.all rightB = true ∧ t = s + xs.sum ∧ (xs ≠ [] → rightB t = true) := by
  induction xs generalizing s with
  | nil => simp [sumFrom] at h; simp [h]
  | cons x l ih =>
    unfold sumFrom at h
    split at h
    · rename_i ho
      obtain ⟨h1, h2, h3⟩ := ih h
      have hh := addOk_true.1 ho
      refine ⟨by simp only [List.all_cons, h1, Bool.and_true]; exact rightB_true.2 hh.2.1, by simp only [List.sum_cons]; omega, fun _ => ?_⟩
      by_cases hl : l = []
      · subst hl
        simp [sumFrom] at h
        subst h
        exact rightB_true.2 hh.2.2
      · exact h3 hl
    · cases h
theorem sum_some {xs : List Int} {t : Int} (n : Nat) (h : sumFrom 0 xs = some t) (hn : 2 ≤ n ∧ n ≤ 8) (hl : xs.length = n) : addsS t n xs = 0 := by
  obtain ⟨h1, h2, h3⟩ := sumFrom_all h
  have ht := h3 (fun e => by subst e; simp at hl; omega)
  unfold addsS
  rw [if_neg (by omega), if_neg (by simp [ht]), if_neg (by simp [hl]), if_neg (by simp [h1]), if_neg (by simp; omega)]
theorem run_mkb (n : Nat) (hn : n ≤ 100) (W : World) : (Instr.makeSlice 25 (.int .i64 (n : Int)) (.int .i64 (n : Int))).run Try.prog W = .ok (.slice (some ⟨W.heap.size, 0, none⟩) n n) (W.alloc (.cells (bcells (List.replicate n false)) 4)) := by
  obtain ⟨i, hi, hz, hs1, hby⟩ := tyBools.info
  have h := Go.run_make_row (P := Try.prog) 25 4 i (.bool false) tyBools.sl hi hz hs1 rfl .i64 .i64 n (by rw [hby]; omega) (by omega) W
  rw [h]
  have e : madeCells #[Value.bool false] n = bcells (List.replicate n false) := Array.toList_inj.1 ((toList_madeCells_one _ _).trans (by simp [bcells]))
  rw [e]
theorem alloc_at {W : World} {o : Obj} {g : Nat} (hg : W.heap.size = g) : (W.alloc o).heap[g]? = some o := by subst hg; exact heap_alloc_new W o
theorem blk_ne {w : World} {a b : Nat} {cs cs' : Array Value} {t t' : TypeId} {fz fz' : Nat × Nat} (ha : w.heap[a]? = some (.cells cs t fz)) (hb : w.heap[b]? = some (.cells cs' t' fz')) (h : t ≠ t') : a ≠ b := by
  rintro rfl
  rw [ha] at hb
  injection hb with hb
  injection hb with _ hb
  exact h hb
end Go.Proofs.Ytpnegfocmaecbaa
