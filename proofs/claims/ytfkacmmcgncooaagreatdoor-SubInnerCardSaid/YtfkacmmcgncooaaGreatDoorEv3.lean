/- The evaluator with variables: what it tells of a quiet operation is so. -/
import Derived.Test.YtfkacmmcgncooaaGreatDoorEv2
import Derived.ChangeKeysEq
set_option linter.unusedSectionVars false
namespace Go.Ev
variable {P : Program} {σ : Sg} {w : World} [Frozen P]
theorem rd1_some {sk : SK} {c : List Value} {o : Nat} {K : Value → Prop} (h : rd1 sk c o K) : ∃ v, isScal v = true ∧ Rd c o v ∧ K (tg v) := by
  cases sk with
  | i k => obtain ⟨z, h1, h2⟩ := h; exact ⟨_, rfl, h1, h2⟩
  | b => obtain ⟨z, h1, h2⟩ := h; exact ⟨_, rfl, h1, h2⟩
  | s => obtain ⟨z, h1, h2⟩ := h; exact ⟨_, rfl, h1, h2⟩
  | x => exact False.elim h
inductive TgL : List Value → List Value → Prop
  | nil : TgL [] []
  | cons {v u : Value} {l m : List Value} : isScal v = true → (u = v ∨ u = tg v) → TgL l m → TgL (tg v :: l) (u :: m)
theorem TgL.vr {l m m' : List Value} (h : TgL l m) (k : VRL σ m m') : VRL σ l m' := by
  induction h generalizing m' with
  | nil => exact k
  | cons e f _ ih =>
    cases k with
    | cons a b =>
      refine .cons ?_ (ih b)
      rcases f with rfl | rfl
      · exact .sym e a
      · exact a
theorem TgL.length {l m : List Value} (h : TgL l m) : l.length = m.length := by induction h <;> simp_all
theorem rdAll_some : ∀ {ks : List SK} {c : List Value} {o j : Nat} {K : List Value → Prop}, rdAll ks c o j K → ∃ vs us, TgL vs us ∧ us.length = ks.length ∧ (∀ i u, us[i]? = some u → c[o + (j + i)]? = some u) ∧ K vs := by
  intro ks
  induction ks with
  | nil => intro c o j K h; exact ⟨[], [], .nil, rfl, fun i u h => by simp at h, h⟩
  | cons k ks ih =>
    intro c o j K h
    have h : rd1 k c (Nat.add o j) (fun v => rdAll ks c o (Nat.succ j) fun vs => K (v :: vs)) := h
    obtain ⟨v, hs, hr, h⟩ := rd1_some h
    obtain ⟨vs, us, h1, h2, h3, h4⟩ := ih h
    have hr : c[o + j]? = some v ∨ c[o + j]? = some (tg v) := hr
    rcases hr with hr | hr
    · refine ⟨_, v :: us, .cons hs (.inl rfl) h1, by simp [h2], fun i u hu => ?_, h4⟩
      cases i with
      | zero => simp at hu; subst hu; exact hr
      | succ i => have := h3 i u (by simpa using hu); rw [show o + (j + (i + 1)) = o + (Nat.succ j + i) by omega]; exact this
    · refine ⟨_, tg v :: us, .cons hs (.inr rfl) h1, by simp [h2], fun i u hu => ?_, h4⟩
      cases i with
      | zero => simp at hu; subst hu; exact hr
      | succ i => have := h3 i u (by simpa using hu); rw [show o + (j + (i + 1)) = o + (Nat.succ j + i) by omega]; exact this
theorem lsub_of {α : Type} {l : List α} {off n : Nat} (h : off + n ≤ l.length) : lsub l off n = some ((l.drop off).take n) := by
  have hd : ∀ (off : Nat) (l : List α), off ≤ l.length → ldrop off l = some (l.drop off) := by
    intro off
    induction off with
    | zero => intro l _; rfl
    | succ k ih => intro l h; cases l with
      | nil => simp at h
      | cons x l => exact ih l (by simpa using h)
  have ht : ∀ (n : Nat) (l : List α), n ≤ l.length → ltake n l = some (l.take n) := by
    intro n
    induction n with
    | zero => intro l _; rfl
    | succ k ih => intro l h; cases l with
      | nil => simp at h
      | cons x l =>
        show ocons x (ltake k l) = _
        rw [ih l (by simpa using h)]; rfl
  unfold lsub
  rw [hd off l (by omega)]
  exact ht n _ (by simp; omega)
theorem take_drop_of {c us : List Value} {o n : Nat} (hn : us.length = n) (h : ∀ i u, us[i]? = some u → c[o + i]? = some u) : o + n ≤ c.length ∨ n = 0 := by
  rcases Nat.eq_zero_or_pos n with e | e
  · exact .inr e
  · refine .inl ?_
    have hl : n - 1 < us.length := by omega
    have := h (n - 1) _ (List.getElem?_eq_getElem hl)
    have := (List.getElem?_eq_some_iff.1 this).1
    omega
theorem take_drop_eq {c us : List Value} {o n : Nat} (hn : us.length = n) (hle : o + n ≤ c.length) (h : ∀ i u, us[i]? = some u → c[o + i]? = some u) : (c.drop o).take n = us := by
  apply List.ext_getElem?
  intro i
  rw [List.getElem?_take]
  by_cases hi : i < n
  · rw [if_pos hi, List.getElem?_drop]
    have := List.getElem?_eq_getElem (l := us) (i := i) (by omega)
    rw [this]; exact h i _ this
  · rw [if_neg hi, List.getElem?_eq_none (by omega)]
theorem symLoad_sound {A : AW} {t : TypeId} {v : Value} {K : Value → Prop} (h : symLoad P t A.heap v K) :
    ∃ u, K u ∧ ∀ σ w v', Rel P σ A w → VR σ v v' → ∃ u', VR σ u u' ∧ (Instr.loadAt t v').run P w = .ok u' w := by
  unfold symLoad at h
  simp only [cpo_iff, ptrV_some] at h
  obtain ⟨a, rfl, h⟩ := h
  split at h
  · rename_i b o
    simp only [cpo_iff, rowAt_some, Option.some.injEq] at h
    obtain ⟨c, ⟨c', e, m, hg, rfl⟩, ks, hks, ag, hag, h⟩ := h
    cases ag with
    | false =>
      have h : rdAll ks c' o 0 (fun vs => oneOf vs K) := h
      obtain ⟨vs, us, h1, h2, h3, h4⟩ := rdAll_some h
      cases h1 with
      | nil => exact h4.elim
      | @cons x u l m' hsc hu htl =>
        cases htl with
        | cons => exact h4.elim
        | nil =>
          refine ⟨tg x, h4, fun σ w v' hR hv => ?_⟩
          have hc : c'[o]? = some u := by simpa using h3 0 u rfl
          have hl : loadA P t A.heap (.pointer (some ⟨b, o, none⟩)) = some u := by
            simp only [loadA, ob_some, ptrV_some, plainAt_some, rowAt_some]
            refine ⟨_, rfl, rfl, c', e, m, hg, ?_⟩
            simp only [partA, ob_some]
            exact ⟨false, hag, by show lget c' o = _; rw [lget_eq]; exact hc⟩
          obtain ⟨u', k1, k2, _⟩ := run_loadA hR hl hv
          refine ⟨u', ?_, k2⟩
          rcases hu with rfl | rfl
          · exact .sym hsc k1
          · exact k1
    | true =>
      have h : ∃ n, sizeA P t = some n ∧ cpb (lenB ks n) (rdAll ks c' o 0 fun vs => K (Value.agg ⟨vs⟩)) := h
      obtain ⟨n, hn, h⟩ := h
      rw [cpb_iff, lenB_iff] at h
      obtain ⟨hln, h⟩ := h
      obtain ⟨vs, us, h1, h2, h3, h4⟩ := rdAll_some h
      refine ⟨_, h4, fun σ w v' hR hv => ?_⟩
      have h3 : ∀ i u, us[i]? = some u → c'[o + i]? = some u := fun i u hi => by simpa using h3 i u hi
      by_cases hle : o + n ≤ c'.length
      · have hl : loadA P t A.heap (.pointer (some ⟨b, o, none⟩)) = some (.agg ⟨us⟩) := by
          simp only [loadA, ob_some, ptrV_some, plainAt_some, rowAt_some]
          refine ⟨_, rfl, rfl, c', e, m, hg, ?_⟩
          simp only [partA, ob_some]
          refine ⟨true, hag, ?_⟩
          show ob (sizeA P t) (fun n => ob (lsub c' o n) fun l => some (Value.agg ⟨l⟩)) = _
          rw [ob_some]
          exact ⟨n, hn, by rw [lsub_of hle, take_drop_eq (by omega) hle h3]; rfl⟩
        obtain ⟨u', k1, k2, _⟩ := run_loadA hR hl hv
        obtain ⟨cs, hcs, rfl⟩ := k1.agg_inv
        exact ⟨_, .agg (h1.vr hcs), k2⟩
      · rcases take_drop_of (n := n) (by omega) h3 with e1 | e1
        · exact absurd e1 hle
        · subst e1
          obtain ⟨b', d, hs, rfl⟩ := hv.ptr_inv
          have hus : us = [] := List.eq_nil_of_length_eq_zero (by omega)
          subst hus
          cases h1
          have hload := run_loadCells_list (P := P) (w := w) ⟨b', o, none⟩ [] (fun j v hj => by simp at hj)
          refine ⟨.agg #[], .agg .nil, ?_⟩
          simp only [List.length_nil] at hload
          simp [Instr.loadAt, Instr.sureAddr, loadVar, run_agg hag, run_size hn, hload]
  · exact h.elim
theorem symUn_sound {op : UnOp} {v : Value} {K : Value → Prop} (h : symUn op v K) : ∃ u, K u ∧ ((∃ k n, v = .int k n) ∨ ∃ b, v = .bool b) ∧ ∃ x, (∀ σ, VR σ u x) ∧ ∀ w, (Op.unary op v).run P w = .ok x w := by
  cases op with
  | neg => cases v with
    | int k n => exact ⟨_, h _ rfl, .inl ⟨_, _, rfl⟩, _, fun σ => tgI_vr _ _, fun w => rfl⟩
    | _ => exact False.elim h
  | xor => cases v with
    | int k n => exact ⟨_, h _ rfl, .inl ⟨_, _, rfl⟩, _, fun σ => tgI_vr _ _, fun w => rfl⟩
    | _ => exact False.elim h
  | not => cases v with
    | bool b =>
      cases b with
      | true => exact ⟨_, h.1 rfl, .inr ⟨_, rfl⟩, .bool false, fun σ => .flat rfl, fun w => rfl⟩
      | false => exact ⟨_, h.2 rfl, .inr ⟨_, rfl⟩, .bool true, fun σ => .flat rfl, fun w => rfl⟩
    | _ => exact False.elim h
  | _ => exact False.elim h
theorem symIdx_some {e : TypeId} {a : Option Addr} {len : Nat} {i : Value} {K : Value → Prop} (h : symIdx P e a len i K) :
    ∃ b o k z n, a = some ⟨b, o, none⟩ ∧ sizeA P e = some n ∧ i = .int k z ∧ 0 ≤ z ∧ z < len ∧ K (tg (.pointer (some ⟨b, o + z.toNat * n, none⟩))) ∧
      ∀ (a' : Addr), a' = ⟨b, o, none⟩ → idxAt P a' e (.int k z) len = some (.pointer (some ⟨b, o + z.toNat * n, none⟩)) := by
  unfold symIdx at h
  rw [cpo_iff] at h
  obtain ⟨a, rfl, h⟩ := h
  split at h
  · rename_i b o
    rw [cpo_iff] at h
    obtain ⟨n, hn, h⟩ := h
    split at h
    · rename_i k z
      obtain ⟨⟨h0, h1⟩, h2⟩ := h
      refine ⟨b, o, k, z, n, rfl, hn, rfl, h0, h1, h2 _ rfl, ?_⟩
      rintro _ rfl
      simp only [idxAt, plainAt_some, ob_some, bt_some, numV_some, true_and]
      refine ⟨z.toNat, ⟨k, ?_⟩, ?_, n, hn, ptrTo_eq _ _⟩
      · congr 1; show z = ((z.toNat : Nat) : Int); omega
      · simp [Nat.blt_eq]; omega
    · exact h.elim
  · exact h.elim
theorem uval_intR {v v' : Value} {k : IntKind} {n : Int} (h : VR σ v v') (e : uval v = .int k n) : VR σ (.int k n) v' := by rw [uval_int h e]; exact .flat rfl
theorem uval_strR {v v' : Value} {s : ByteArray} (h : VR σ v v') (e : uval v = .string s) : VR σ (.string s) v' := by rw [uval_str h e]; exact .flat rfl
theorem symIndexAddr_sound {t : TypeId} {x i : Value} {K : Value → Prop} (h : symIndexAddr P t (uval x) (uval i) K) :
    ∃ u, K u ∧ ∀ σ w x' i', VR σ x x' → VR σ i i' → ∃ u', VR σ u u' ∧ (Instr.indexAt t x' i').run P w = .ok u' w := by
  unfold symIndexAddr at h
  rw [cpo_iff] at h
  obtain ⟨d, hd, h⟩ := h
  split at h
  · split at h
    · rename_i len e _ a hx
      obtain ⟨b, o, k, z, n, rfl, hn, hi, h0, h1, h2, h3⟩ := symIdx_some h
      refine ⟨_, h2, fun σ w x' i' hx' hi' => ?_⟩
      obtain ⟨u', k1, k2⟩ := indexAddr_run (P := P) (t := t) (x := .pointer (some ⟨b, o, none⟩)) (i := .int k z) (u := .pointer (some ⟨b, o + z.toNat * n, none⟩)) (by
        simp only [indexAddrA, ob_some]
        exact ⟨_, hd, by simp only [ob_some, ptrV_some]; exact ⟨_, rfl, h3 _ rfl⟩⟩) (uval_ptr hx' hx) (uval_intR hi' hi) w
      exact ⟨u', .sym rfl k1, k2⟩
    · exact h.elim
  · split at h
    · rename_i e _ a len cp hx
      obtain ⟨b, o, k, z, n, rfl, hn, hi, h0, h1, h2, h3⟩ := symIdx_some h
      refine ⟨_, h2, fun σ w x' i' hx' hi' => ?_⟩
      rcases uval_slice hx' hx with hs | ⟨_, e1, _⟩
      · obtain ⟨u', k1, k2⟩ := indexAddr_run (P := P) (t := t) (x := .slice (some ⟨b, o, none⟩) len cp) (i := .int k z) (u := .pointer (some ⟨b, o + z.toNat * n, none⟩)) (by
          simp only [indexAddrA, ob_some]
          exact ⟨_, hd, by simp only [ob_some]; exact ⟨_, rfl, h3 _ rfl⟩⟩) hs (uval_intR hi' hi) w
        exact ⟨u', .sym rfl k1, k2⟩
      · omega
    · exact h.elim
  · exact h.elim
theorem arrW_some {e : TypeId} {c : List Value} {n : Nat} {z : Int} {K : Value → Prop} {j : Nat} (hz : z = (j : Int)) : ∀ {is : List Nat}, arrW P e c n z K is → j ∈ is → ∃ v, partA P e c (Nat.mul j n) = some v ∧ K v := by
  intro is
  induction is with
  | nil => intro _ h; cases h
  | cons i is ih =>
    intro h hj
    obtain ⟨h1, h2⟩ := (show (z = (i : Int) → cpo (partA P e c (Nat.mul i n)) K) ∧ arrW P e c n z K is from h)
    rcases List.mem_cons.1 hj with rfl | hj
    · exact cpo_iff.1 (h1 hz)
    · exact ih h2 hj
theorem symIndex_sound {t : TypeId} {x i : Value} {K : Value → Prop} (h : symIndex P t (uval x) (uval i) K) :
    ∃ u, K u ∧ ∀ σ w x' i', VR σ x x' → VR σ i i' → ∃ u', VR σ u u' ∧ (Instr.index t x' i').run P w = .ok u' w := by
  unfold symIndex at h
  rw [cpo_iff] at h
  obtain ⟨d, hd, h⟩ := h
  split at h
  · rename_i len e
    split at h
    · rename_i _ c hx
      split at h
      · rename_i _ k z hi
        rw [cpo_iff] at h
        obtain ⟨n, hn, ⟨h0, h1⟩, h⟩ := h
        have hz : z = ((z.toNat : Nat) : Int) := by omega
        obtain ⟨v, hv, hK⟩ := arrW_some hz h (List.mem_range.2 (by omega))
        refine ⟨v, hK, fun σ w x' i' hx' hi' => ?_⟩
        exact index_run (P := P) (t := t) (x := .agg c) (i := .int k z) (u := v) (by
          simp only [indexA, ob_some]
          refine ⟨_, hd, ?_⟩
          simp only [aggV, ob_some, numV_some, bt_some, Option.some.injEq]
          exact ⟨_, rfl, z.toNat, ⟨k, by congr 1⟩, by simp [Nat.blt_eq]; omega, n, hn, hv⟩) (uval_agg hx' hx) (uval_intR hi' hi) w
      · exact h.elim
    · exact h.elim
  · split at h
    · rename_i s hx
      split at h
      · rename_i k z hi
        obtain ⟨⟨h0, h1⟩, h2⟩ := h
        have hlt : z.toNat < s.data.toList.length := by omega
        refine ⟨_, h2 _ (List.getElem?_eq_getElem hlt), fun σ w x' i' hx' hi' => ?_⟩
        obtain ⟨u', k1, k2⟩ := index_run (P := P) (t := t) (x := .string s) (i := .int k z) (u := .int .u8 (.ofNat (s.data.toList[z.toNat]).toNat)) (by
          simp only [indexA, ob_some]
          refine ⟨_, hd, ?_⟩
          simp only [strV, ob_some, numV_some, lget_eq, Option.some.injEq]
          refine ⟨_, rfl, z.toNat, ⟨k, ?_⟩, _, List.getElem?_eq_getElem hlt, natV_eq _ _⟩
          congr 1; show z = ((z.toNat : Nat) : Int); omega) (uval_strR hx' hx) (uval_intR hi' hi) w
        exact ⟨u', .sym rfl k1, k2⟩
      · exact h.elim
    · exact h.elim
  · exact h.elim
theorem symLen_sound {t : TypeId} {x : Value} {K : Value → Prop} (h : symLen P t (uval x) K) :
    ∃ u, K u ∧ ∀ σ w x', VR σ x x' → ∃ u', VR σ u u' ∧ ∀ ts ty as_, (Builtin.len_ ⟨t :: ts⟩ ty ⟨x' :: as_⟩).run P w = .ok u' w := by
  unfold symLen at h
  rw [cpo_iff] at h
  obtain ⟨d, hd, h⟩ := h
  split at h
  · split at h
    · rename_i s hx
      refine ⟨_, h _ rfl, fun σ w x' hx' => ⟨_, tgI_vr _ _, fun ts ty as_ => ?_⟩⟩
      rw [uval_str hx' hx]
      simp [Builtin.len_, run_under hd]; rfl
    · exact h.elim
  · split at h
    · rename_i e _ a n c hx
      refine ⟨_, h _ rfl, fun σ w x' hx' => ⟨_, tgI_vr _ _, fun ts ty as_ => ?_⟩⟩
      rcases uval_slice hx' hx with hs | ⟨rfl, rfl, _⟩
      · have hx2 : ∃ a' c', x' = .slice a' n c' := by
          cases hs with
          | slice => exact ⟨_, _, rfl⟩
          | flat => exact ⟨_, _, rfl⟩
        obtain ⟨a', c', rfl⟩ := hx2
        simp [Builtin.len_, run_under hd]; rfl
      · simp [Builtin.len_, run_under hd]; rfl
    · exact h.elim
  · exact h.elim
theorem conj_append : ∀ {l m : List (Value × Value)}, conj (l ++ m) ↔ conj l ∧ conj m := by
  intro l m
  induction l with
  | nil => exact ⟨fun h => ⟨trivial, h⟩, fun h => h.2⟩
  | cons p l ih =>
    show (eqv p.1 p.2 ∧ conj (l ++ m)) ↔ (eqv p.1 p.2 ∧ conj l) ∧ conj m
    rw [ih, and_assoc]
theorem catP_some {x y : Prs} {l : List (Value × Value)} (h : catP x y = some l) : ∃ a b, x = some a ∧ y = some b ∧ l = a ++ b := by
  simp only [catP, ob_some, Option.some.injEq] at h
  obtain ⟨a, ha, b, hb, e⟩ := h
  exact ⟨a, b, ha, hb, e.symm⟩
theorem aggV_some' {v : Value} {l : List Value} (h : aggV v = some l) : v = .agg ⟨l⟩ := by
  unfold aggV at h
  split at h
  · cases h; rfl
  · cases h
theorem VR.agg_inv' {c : List Value} {v' : Value} (h : VR σ (.agg ⟨c⟩) v') : ∃ c', v' = .agg ⟨c'⟩ ∧ VRL σ c c' := by
  cases h with
  | agg a => exact ⟨_, rfl, a⟩
  | flat e => cases e
theorem eqC_run {N : Nat} {t : TypeId} {d : TypeDesc} {x y x' y' : Value} {l : List (Value × Value)} (hd : P.underlying t = some d) (h : eqC d x y = some l) (hx : VR σ x x') (hy : VR σ y y') (w : World) :
    ∃ r : Bool, (Op.equalIn (N + 1) t x' y').run P w = .ok r w ∧ (r = true ↔ conj l) := by
  unfold eqC at h
  split at h
  · split at h
    · split at h
      · rename_i j m e1 _ k n e2
        rw [bt_some] at h
        obtain ⟨hk, h⟩ := h; cases h
        obtain rfl := sameK_eq hk
        rw [uval_int hx e1, uval_int hy e2]
        refine ⟨_, run_equalIn_int w N t _ _ m n hd, ?_⟩
        show (m == n) = true ↔ eqv x y ∧ True
        unfold eqv
        rw [e1, e2]
        show (m == n) = true ↔ m = n ∧ True
        simp
      · cases h
    · cases h
  · split at h
    · split at h
      · rename_i p e1 _ q e2
        cases h
        rw [uval_bool hx e1, uval_bool hy e2]
        refine ⟨_, run_equalIn_bool w N t p q hd, ?_⟩
        show (p == q) = true ↔ eqv x y ∧ True
        unfold eqv
        rw [e1, e2]
        show (p == q) = true ↔ p = q ∧ True
        simp
      · cases h
    · cases h
  · split at h
    · split at h
      · rename_i s e1 _ u e2
        cases h
        rw [uval_str hx e1, uval_str hy e2]
        refine ⟨_, run_equalIn_string w N t s u hd, ?_⟩
        show (s.toList == u.toList) = true ↔ eqv x y ∧ True
        unfold eqv
        rw [e1, e2]
        show (s.toList == u.toList) = true ↔ s.data.toList = u.data.toList ∧ True
        rw [ByteArray.toList_eq, ByteArray.toList_eq]
        simp
      · cases h
    · cases h
  · cases h
def EqRun (P : Program) [Frozen P] (σ : Sg) (D : Nat) (f : TypeId → Value → Value → Prs) : Prop := ∀ (t : TypeId) (x y x' y' : Value) (l : List (Value × Value)), f t x y = some l → VR σ x x' → VR σ y y' → ∀ w : World, ∃ r : Bool, (Op.equalIn D t x' y').run P w = .ok r w ∧ (r = true ↔ conj l)
theorem eqF_run {D : Nat} {f : TypeId → Value → Value → Prs} (hf : EqRun P σ D f) {c d c' d' : List Value} (hc : VRL σ c c') (hd : VRL σ d d') : ∀ (fs : List Field) (l : List (Value × Value)), eqPF P f c d fs = some l → ∀ w : World,
    ∃ r : Bool, (Op.eqFields D ⟨c'⟩ ⟨d'⟩ fs).run P w = .ok r w ∧ (r = true ↔ conj l) := by
  intro fs
  induction fs with
  | nil => intro l h w; cases h; exact ⟨true, by simp [Op.eqFields], by simp [conj]⟩
  | cons fd fs ih =>
    intro l h w
    have h : (Bool.rec (ob (partA P fd.type c fd.offset) fun a => ob (partA P fd.type d fd.offset) fun b => catP (f fd.type a b) (eqPF P f c d fs)) none (decide (fd.name = "_")) : Prs) = some l := h
    by_cases hn : fd.name = "_"
    · rw [decide_eq_true hn] at h; cases h
    · rw [decide_eq_false hn] at h
      have h : (ob (partA P fd.type c fd.offset) fun a => ob (partA P fd.type d fd.offset) fun b => catP (f fd.type a b) (eqPF P f c d fs)) = some l := h
      simp only [ob_some] at h
      obtain ⟨a, ha, b, hb, h⟩ := h
      obtain ⟨l1, l2, h1, h2, rfl⟩ := catP_some h
      obtain ⟨a', va, ra⟩ := run_part ha hc [] w
      obtain ⟨b', vb, rb⟩ := run_part hb hd [] w
      rw [List.append_nil] at ra rb
      obtain ⟨r1, hr1, e1⟩ := hf _ _ _ _ _ _ h1 va vb w
      obtain ⟨r2, hr2, e2⟩ := ih _ h2 w
      rw [conj_append]
      simp only [Op.eqFields, hn, ne_eq, not_false_eq_true, if_true, Sem.run_bind, ra, rb, Result.andThen_ok, hr1]
      cases r1 with
      | true => exact ⟨r2, by simpa using hr2, by rw [e2]; simp [← e1]⟩
      | false => exact ⟨false, by simp, by simp [← e1]⟩
theorem eqR_run {D : Nat} {f : Value → Value → Prs} {e : TypeId} {n : Nat} (hn : P.cellsOf e = n) (hf : ∀ (x y x' y' : Value) (l : List (Value × Value)), f x y = some l → VR σ x x' → VR σ y y' → ∀ w : World, ∃ r : Bool, (Op.equalIn D e x' y').run P w = .ok r w ∧ (r = true ↔ conj l))
    {c d c' d' : List Value} (hc : VRL σ c c') (hd : VRL σ d d') : ∀ (is : List Nat) (l : List (Value × Value)), eqPR P f e n c d is = some l → ∀ w : World,
    ∃ r : Bool, (Op.eqItems D e (P.cellsOf e) ⟨c'⟩ ⟨d'⟩ is).run P w = .ok r w ∧ (r = true ↔ conj l) := by
  intro is
  rw [hn]
  induction is with
  | nil => intro l h w; cases h; exact ⟨true, by simp [Op.eqItems], by simp [conj]⟩
  | cons i is ih =>
    intro l h w
    have h : (ob (partA P e c (Nat.mul i n)) fun a => ob (partA P e d (Nat.mul i n)) fun b => catP (f a b) (eqPR P f e n c d is)) = some l := h
    simp only [ob_some] at h
    obtain ⟨a, ha, b, hb, h⟩ := h
    obtain ⟨l1, l2, h1, h2, rfl⟩ := catP_some h
    obtain ⟨a', va, ra⟩ := run_part ha hc [] w
    obtain ⟨b', vb, rb⟩ := run_part hb hd [] w
    rw [List.append_nil] at ra rb
    have ra : (part e ⟨c'⟩ (i * n)).run P w = .ok a' w := ra
    have rb : (part e ⟨d'⟩ (i * n)).run P w = .ok b' w := rb
    obtain ⟨r1, hr1, e1⟩ := hf _ _ _ _ _ h1 va vb w
    obtain ⟨r2, hr2, e2⟩ := ih _ h2 w
    rw [conj_append]
    simp only [Op.eqItems, Sem.run_bind, ra, rb, Result.andThen_ok, hr1]
    cases r1 with
    | true => exact ⟨r2, by simpa using hr2, by rw [e2]; simp [← e1]⟩
    | false => exact ⟨false, by simp, by simp [← e1]⟩
theorem eqP_run (N : Nat) : ∀ n : Nat, EqRun P σ (N + n) (eqP P n) := by
  intro n
  induction n with
  | zero => intro t x y x' y' l h; cases h
  | succ n ih =>
    intro t x y x' y' l h hx hy w
    replace h : (ob (P.underlying t) fun d => eqPD P (eqP P n) t d x y) = some l := h
    rw [ob_some] at h
    obtain ⟨d, hd, h⟩ := h
    unfold eqPD at h
    split at h
    · rename_i fs
      rw [bt_some] at h
      obtain ⟨hs, h⟩ := h
      rw [bnot_eq] at hs
      simp only [ob_some] at h
      obtain ⟨c, hc, e, he, h⟩ := h
      obtain rfl := aggV_some' hc
      obtain rfl := aggV_some' he
      obtain ⟨c', rfl, vc⟩ := hx.agg_inv'
      obtain ⟨e', rfl, ve⟩ := hy.agg_inv'
      have hfs : P.fieldsOf t = fs := by unfold Program.fieldsOf; rw [hd]
      obtain ⟨r, hr, e1⟩ := eqF_run ih vc ve fs.toList l h w
      refine ⟨r, ?_, e1⟩
      rw [show N + (n + 1) = (N + n) + 1 from rfl, run_equalIn_struct w (N + n) t _ _ (by rw [hfs]; exact hd) (by simpa using hs), hfs]
      exact hr
    · rename_i len e
      simp only [ob_some] at h
      obtain ⟨c, hc, g, hg, sz, hsz, h⟩ := h
      obtain rfl := aggV_some' hc
      obtain rfl := aggV_some' hg
      obtain ⟨c', rfl, vc⟩ := hx.agg_inv'
      obtain ⟨g', rfl, vg⟩ := hy.agg_inv'
      obtain ⟨i, hi, hz⟩ := sizeA_some.1 hsz
      obtain ⟨r, hr, e1⟩ := eqR_run (n := sz) (by unfold Program.cellsOf; rw [hi]; exact hz) (ih e) vc vg (List.range len) l h w
      refine ⟨r, ?_, e1⟩
      rw [show N + (n + 1) = (N + n) + 1 from rfl, run_equalIn_array w (N + n) _ _ hd hi]
      exact hr
    · exact eqC_run hd h hx hy w
theorem neV_not {x y : Value} (h : neV x y = true) : ¬ eqv x y := by
  unfold neV at h
  split at h
  · rename_i j m
    split at h
    · rename_i k n
      rw [bnot_eq] at h
      intro e
      have e : m = n := e
      rw [decide_eq_true e] at h; cases h
    · cases h
  · rename_i p
    split at h
    · rename_i q
      intro e
      have e : p = q := e
      subst e
      cases p <;> cases h
    · cases h
  · cases h
theorem neB_not : ∀ {l : List (Value × Value)}, neB l = true → ¬ conj l := by
  intro l
  induction l with
  | nil => intro h; cases h
  | cons p l ih =>
    intro h
    have h : (Bool.rec (neB l) true (neV p.1 p.2) : Bool) = true := h
    rintro ⟨h1, h2⟩
    cases hn : neV p.1 p.2 with
    | true => exact neV_not hn h1
    | false => rw [hn] at h; exact ih h h2
theorem symAgg_sound {op : BinOp} {t : TypeId} {xo yo : Operand} {a b : Value} {K : Value → Prop} (h : symAgg P op t a b K) : ∃ r : Bool, K (.bool r) ∧ ∀ (σ : Sg) (w : World) (x y : Value), VR σ a x → VR σ b y → (do eqGuard op t xo yo x y; binOp op t x y).run P w = .ok (.bool r) w := by
  unfold symAgg at h
  simp only [cpo_iff, cpb_iff] at h
  obtain ⟨hg, c, hc, d, hd, l, hl, h⟩ := h
  rw [bnot_eq] at hg
  obtain rfl := aggV_some' hc
  obtain rfl := aggV_some' hd
  obtain ⟨N, hN⟩ : ∃ N, ∀ (t : TypeId) (x y : Value), Op.equal t x y = Op.equalIn (N + 8) t x y := ⟨9992, fun _ _ _ => rfl⟩
  have key : ∀ (σ : Sg) (w : World) (x y : Value), VR σ (.agg ⟨c⟩) x → VR σ (.agg ⟨d⟩) y → ∃ c' d', x = .agg ⟨c'⟩ ∧ y = .agg ⟨d'⟩ ∧ ∃ r : Bool, (Op.equal t x y).run P w = .ok r w ∧ (r = true ↔ conj l) := fun σ w x y hx hy => by
    obtain ⟨r, h1, h2⟩ := eqP_run (P := P) N 8 t _ _ _ _ l hl hx hy w
    obtain ⟨c', rfl, _⟩ := hx.agg_inv'
    obtain ⟨d', rfl, _⟩ := hy.agg_inv'
    exact ⟨c', d', rfl, rfl, r, by rw [hN]; exact h1, h2⟩
  have fin : ∀ r : Bool, K (.bool r) → (op = .eql ∧ (r = true ↔ conj l) ∨ op = .neq ∧ (r = true ↔ ¬ conj l)) → ∃ r : Bool, K (.bool r) ∧ ∀ (σ : Sg) (w : World) (x y : Value), VR σ (.agg ⟨c⟩) x → VR σ (.agg ⟨d⟩) y → (do eqGuard op t xo yo x y; binOp op t x y).run P w = .ok (.bool r) w := fun r hK hr => by
    refine ⟨r, hK, fun σ w x y hx hy => ?_⟩
    obtain ⟨c', d', rfl, rfl, r', h1, h2⟩ := key σ w x y hx hy
    have h3 := binOp_eql (P := P) (t := t) (x := .agg ⟨c'⟩) (y := .agg ⟨d'⟩) rfl r' w h1
    have h4 := run_eqGuard_agg (P := P) w op t xo yo ⟨c'⟩ ⟨d'⟩ (by simpa using hg)
    simp only [Sem.run_bind, h4, Result.andThen_ok]
    rcases hr with ⟨rfl, hr⟩ | ⟨rfl, hr⟩
    · rw [h3.1]
      have : r' = r := by rw [Bool.eq_iff_iff, h2, hr]
      rw [this]
    · rw [h3.2]
      have : (!r') = r := by rw [Bool.eq_iff_iff, hr, ← h2]; simp
      rw [this]
  cases op with
  | eql =>
    have h : (Bool.rec ((conj l → K (.bool true)) ∧ (¬ conj l → K (.bool false))) (K (.bool false)) (neB l) : Prop) := h
    have h : (conj l → K (.bool true)) ∧ (¬ conj l → K (.bool false)) := by
      cases hn : neB l with
      | true => rw [hn] at h; exact ⟨fun e => absurd e (neB_not hn), fun _ => h⟩
      | false => rw [hn] at h; exact h
    by_cases hp : conj l
    · exact fin true (h.1 hp) (.inl ⟨rfl, by simp [hp]⟩)
    · exact fin false (h.2 hp) (.inl ⟨rfl, by simp [hp]⟩)
  | neq =>
    have h : (Bool.rec ((¬ conj l → K (.bool true)) ∧ (conj l → K (.bool false))) (K (.bool true)) (neB l) : Prop) := h
    have h : (¬ conj l → K (.bool true)) ∧ (conj l → K (.bool false)) := by
      cases hn : neB l with
      | true => rw [hn] at h; exact ⟨fun _ => h, fun e => absurd e (neB_not hn)⟩
      | false => rw [hn] at h; exact h
    by_cases hp : conj l
    · exact fin false (h.2 hp) (.inr ⟨rfl, by simp [hp]⟩)
    · exact fin true (h.1 hp) (.inr ⟨rfl, by simp [hp]⟩)
  | _ => exact h.elim
end Go.Ev
