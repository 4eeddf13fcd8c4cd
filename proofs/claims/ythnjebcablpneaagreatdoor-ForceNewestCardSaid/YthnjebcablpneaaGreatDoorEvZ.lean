/- A region that draws its order, walked in one order: what only looks is taken as early as may be, what changes the world when nothing else may come. -/
import Derived.Test.YthnjebcablpneaaGreatDoorEvQ
import Derived.OrdersHeld
import Derived.Tactics
set_option maxRecDepth 10000
namespace Go.Ev
section
variable {P : Program} {ops : Array Oper} {Q : Exit → Act → World → Prop}
/-- What is asked at a region's end; nothing panics. -/
def strictQ (Q : Exit → Act → World → Prop) : Exit → Act → World → Prop
  | .normal, a, w => Q .normal a w
  | _, _, _ => False
theorem wpOp_weaken {i : Nat} {K : Act → World → Prop} {a : Act} {w : World} (h : wpOp P ops (strictQ Q) i K a w) : wpOp P ops Q i K a w := by
  unfold wpOp at *
  split
  · rename_i ho; simp only [ho] at h; exact h
  · rename_i o ho
    simp only [ho] at h
    split
    · rename_i hw
      simp only [hw, if_true] at h
      rcases h with h | ⟨_, _, _, h⟩
      case inr => exact h.elim
      refine .inl ?_
      unfold Oper.wp at *
      generalize (execOp a.eval o).run P w = r at *
      cases r with
      | ok n w' =>
        cases n <;> simp only [Oper.upon] at h ⊢ <;> try exact h
        refine Calls.mono h fun e w'' he => ?_
        cases e with
        | returned u => exact he
        | panicked c => exact he.elim
        | outgrown => obtain ⟨_, _, he⟩ := he; exact he.elim
      | halt x w' =>
        cases x <;> simp only [Oper.upon] at h ⊢ <;> try exact h
        exact h.elim
    · rename_i hw
      simp only [hw] at h
      exact h
/-- Operations in one order, each with its kind: 0 looks at nothing; 1 looks at what S tells; 2 leaves S as it is; 3 behind it another S may hold. -/
def wpSched (P : Program) (ops : Array Oper) (Q : Exit → Act → World → Prop) : List (Nat × Nat) → (World → Prop) → Act → World → Prop
  | [], _, a, w => Q .normal a w
  | (i, 0) :: r, S, a, w => ∃ o v, ops[i]? = some o ∧ Yields P ops o v a ∧ wpSched P ops Q r S (a.put o.dst v) w
  | (i, 1) :: r, S, a, w => ∃ o v, ops[i]? = some o ∧ YieldsIf P ops S o v a ∧ wpSched P ops Q r S (a.put o.dst v) w
  | (i, 2) :: r, S, a, w => wpOp P ops (strictQ Q) i (fun a' w' => S w' ∧ wpSched P ops Q r S a' w') a w
  | (i, _ + 3) :: r, _, a, w => wpOp P ops (strictQ Q) i (fun a' w' => ∃ S' : World → Prop, S' w' ∧ wpSched P ops Q r S' a' w') a w

/-- x stands ahead of y: y is behind x in any order, or they are apart. -/
def pairS (all : List Oper) (M : List Nat) (x y : Nat × Nat) : Bool :=
  !Nat.beq x.1 y.1 && (((M[y.1]?).map (tbit · x.1)).getD false || (Nat.blt x.2 2 && (((all[x.1]?).bind fun ox => (all[y.1]?).map fun oy => ox.apart all.toArray oy).getD false && (Nat.beq x.2 0 || Nat.ble y.2 2))))
def pairsS (all : List Oper) (M : List Nat) : List (Nat × Nat) → Bool
  | [] => true
  | x :: r => r.all (pairS all M x) && pairsS all M r
noncomputable def schedB (all : List Oper) (L : List (Nat × Nat)) : Bool :=
  (all.zipIdx.all fun p => edgesOk p.2 p.1.after.toList) && (Nat.beq L.length all.length && (L.all (fun x => Nat.blt x.1 all.length) && (pairsS all (masks all []) L && (Region.noSelect all.toArray && (List.range all.length).all fun i => L.any fun x => Nat.beq x.1 i))))

theorem bubble (hsel : ∀ (j : Nat) (o : Oper) cs b, ops[j]? = some o → o.op ≠ .select cs b) {y k : Nat} {oy : Oper} (hy : ops[y]? = some oy) (post : List (Nat × Nat)) : ∀ (pre : List (Nat × Nat)) (S : World → Prop) (a : Act) (w : World),
    (∀ x ∈ pre, x.2 < 2 ∧ (∀ ox, ops[x.1]? = some ox → ox.apart ops oy = true) ∧ (x.2 = 0 ∨ k ≤ 2)) → S w → wpSched P ops Q (pre ++ (y, k) :: post) S a w →
      wpOp P ops (strictQ Q) y (fun a' w' => ∃ S' : World → Prop, (k ≤ 2 → S' = S) ∧ S' w' ∧ wpSched P ops Q (pre ++ post) S' a' w') a w := by
  have hQ : ∀ (d : Option Tmp) (v : Value) c a w, strictQ Q (.panic c) (a.put d v) w → strictQ Q (.panic c) a w := fun _ _ _ _ _ h => h.elim
  intro pre
  induction pre with
  | nil =>
    intro S a w _ hS h
    rw [List.nil_append] at h
    match k, h with
    | 0, h =>
      obtain ⟨o, v, ho, hv, h⟩ := h
      exact hv.wpOp ho ⟨S, fun _ => rfl, hS, h⟩
    | 1, h =>
      obtain ⟨o, v, ho, hv, h⟩ := h
      exact hv.wpOp ho hS ⟨S, fun _ => rfl, hS, h⟩
    | 2, h => exact wpOp_mono (fun a' w' ⟨h1, h2⟩ => ⟨S, fun _ => rfl, h1, h2⟩) h
    | k + 3, h => exact wpOp_mono (fun a' w' ⟨S', h1, h2⟩ => ⟨S', fun hk => by omega, h1, h2⟩) h
  | cons x pre ih =>
    intro S a w hp hS h
    obtain ⟨i, q⟩ := x
    obtain ⟨hq, hap, hk⟩ := hp (i, q) (by simp)
    have hp' := fun x hx => hp x (List.mem_cons_of_mem _ hx)
    match q, hq, hk, h with
    | 0, _, _, h =>
      obtain ⟨o, v, ho, hv, h⟩ := h
      have h1 := ih S _ w hp' hS h
      refine wpOp_mono ?_ (wpOp_put hy (hap o ho) (fun cs b => hsel i o cs b ho) (fun cs b => hsel y oy cs b hy) (hQ _ _) hv h1)
      rintro a' w' ⟨hv', S', h2, h3, h4⟩
      exact ⟨S', h2, h3, o, v, ho, hv', h4⟩
    | 1, _, hk, h =>
      obtain ⟨o, v, ho, hv, h⟩ := h
      have h1 := ih S _ w hp' hS h
      refine wpOp_mono ?_ (wpOp_putIf hy (hap o ho) (fun cs b => hsel i o cs b ho) (fun cs b => hsel y oy cs b hy) (hQ _ _) hv h1)
      rintro a' w' ⟨hv', S', h2, h3, h4⟩
      have hkk : k ≤ 2 := hk.resolve_left Nat.one_ne_zero
      obtain rfl := h2 hkk
      exact ⟨S', h2, h3, o, v, ho, hv', h4⟩
end
section
variable {P : Program} {Q : Exit → Act → World → Prop}
theorem pairS_spec {all : List Oper} {M : List Nat} {x y : Nat × Nat} (h : pairS all M x y = true) : x.1 ≠ y.1 ∧ ((∃ q, M[y.1]? = some q ∧ tbit q x.1 = true) ∨ (x.2 < 2 ∧ (∀ ox oy, all[x.1]? = some ox → all[y.1]? = some oy → ox.apart all.toArray oy = true) ∧ (x.2 = 0 ∨ y.2 ≤ 2))) := by
  unfold pairS at h
  simp only [Bool.and_eq_true, Bool.or_eq_true, Bool.not_eq_true'] at h
  obtain ⟨h1, h2⟩ := h
  refine ⟨fun e => absurd h1 (by rw [beqIff.2 e]; simp), ?_⟩
  rcases h2 with h2 | ⟨h2, h3, h4⟩
  · left
    cases hm : M[y.1]? with
    | none => rw [hm] at h2; cases h2
    | some q => rw [hm] at h2; exact ⟨q, rfl, h2⟩
  · right
    refine ⟨blt_iff.1 h2, fun ox oy e1 e2 => by rw [e1, e2] at h3; exact h3, ?_⟩
    rcases h4 with h4 | h4
    · exact .inl (beqIff.1 h4)
    · exact .inr (bleIff.1 h4)
theorem pairsS_spec {all : List Oper} {M : List Nat} : ∀ {L : List (Nat × Nat)}, pairsS all M L = true → L.Pairwise fun x y => pairS all M x y = true
  | [], _ => .nil
  | x :: r, h => by
    simp only [pairsS, Bool.and_eq_true] at h
    exact .cons (fun y hy => List.all_eq_true.1 h.1 y hy) (pairsS_spec h.2)
structure SchedOK (all : List Oper) : Prop where
  lt : ∀ (j : Nat) (o : Oper), all[j]? = some o → ∀ e ∈ o.after.toList, Region.binds .any e = true → e.on < j
  sel : ∀ (j : Nat) (o : Oper) cs b, all.toArray[j]? = some o → o.op ≠ .select cs b
theorem sched_any {all : List Oper} (hall : SchedOK all) : ∀ (fuel : Nat) (listed : Array Bool) (L : List (Nat × Nat)) (S : World → Prop) (a : Act) (w : World),
    listed.size = all.length → (∀ x ∈ L, x.1 < all.length ∧ listed.getD x.1 false = false) → (∀ i, i < all.length → listed.getD i false = false → ∃ k, (i, k) ∈ L) → (L.Pairwise fun x y => pairS all (masks all []) x y = true) →
    (∀ j, listed.getD j false = true → ∀ o : Oper, all[j]? = some o → ∀ e ∈ o.after.toList, Region.binds .any e = true → listed.getD e.on false = true) → S w → wpSched P all.toArray Q L S a w → L.length ≤ fuel →
      wpAny P .any all.toArray Q fuel listed a w := by
  have hM := masks_ok all
  -- where nothing is ready all are listed
  have hready : ∀ (listed : Array Bool), listed.size = all.length → Region.ready .any all.toArray listed = [] → ∀ x, x < all.length → listed.getD x false = true := by
    intro listed hz he x
    induction x using Nat.strongRecOn with
    | _ x ih =>
      intro hx
      cases hlx : listed.getD x false with
      | true => rfl
      | false =>
        have : x ∈ Region.ready .any all.toArray listed := by
          refine mem_ready.2 ⟨?_, all[x], by simp [hx], fun e he hb => ?_⟩
          · have hs : x < listed.size := by rw [hz]; exact hx
            simp [hs] at hlx ⊢; exact hlx
          · have hlt := hall.lt x all[x] (List.getElem?_eq_getElem hx) e (by simpa using he) hb
            exact ih e.on hlt (by omega)
        rw [he] at this; cases this
  have hend : ∀ (listed : Array Bool) (L : List (Nat × Nat)) (S : World → Prop) (a : Act) (w : World), listed.size = all.length → (∀ x ∈ L, x.1 < all.length ∧ listed.getD x.1 false = false) → wpSched P all.toArray Q L S a w → Region.ready .any all.toArray listed = [] → Q .normal a w := by
    intro listed L S a w hz h1 h he
    cases L with
    | nil => exact h
    | cons x L =>
      obtain ⟨e1, e2⟩ := h1 x (by simp)
      rw [hready listed hz he x.1 e1] at e2; cases e2
  intro fuel
  induction fuel with
  | zero =>
    intro listed L S a w hz h1 h2 _ _ _ h hf
    have : L = [] := List.eq_nil_of_length_eq_zero (by omega)
    subst this
    refine ⟨List.eq_nil_iff_forall_not_mem.2 fun y hy => ?_, h⟩
    obtain ⟨h0, o, ho, _⟩ := mem_ready.1 hy
    obtain ⟨e1, e2⟩ := getD_parts h0
    obtain ⟨k, hk⟩ := h2 y (by rw [← hz]; exact e1) e2
    cases hk
  | succ fuel ih =>
    intro listed L S a w hz h1 h2 hpw hcl hS h hf
    refine ⟨fun he => hend listed L S a w hz h1 h he, fun y hy => ?_⟩
    obtain ⟨h0, oy, hoy, hedges⟩ := mem_ready.1 hy
    obtain ⟨e1, e2⟩ := getD_parts h0
    have hyl : y < all.length := by rw [← hz]; exact e1
    have hoy' : all[y]? = some oy := by simpa using hoy
    obtain ⟨k, hk⟩ := h2 y hyl e2
    obtain ⟨pre, post, rfl⟩ := List.append_of_mem hk
    obtain ⟨q, hq⟩ : ∃ q, (masks all [])[y]? = some q := ⟨_, List.getElem?_eq_getElem (by rw [hM.1]; exact hyl)⟩
    have hbits : ∀ i, tbit q i = true → listed.getD i false = true := closed_bit hM hall.lt hcl y oy q hoy' hq fun e he hb => hedges e (by simpa using he) hb
    rw [List.pairwise_append] at hpw
    obtain ⟨hp1, hp2, hp3⟩ := hpw
    have hpre : ∀ x ∈ pre, x.1 ≠ y ∧ x.2 < 2 ∧ (∀ ox, all.toArray[x.1]? = some ox → ox.apart all.toArray oy = true) ∧ (x.2 = 0 ∨ k ≤ 2) := fun x hx => by
      obtain ⟨n1, n2⟩ := pairS_spec (hp3 x hx (y, k) (by simp))
      refine ⟨n1, ?_⟩
      rcases n2 with ⟨q', hq', hb⟩ | ⟨n2, n3, n4⟩
      · rw [hq] at hq'; cases hq'
        have := hbits _ hb
        rw [(h1 x (by simp [hx])).2] at this; cases this
      · exact ⟨n2, fun ox hox => n3 ox oy (by simpa using hox) hoy', n4⟩
    have hpost : ∀ x ∈ post, x.1 ≠ y := fun x hx => by
      have := (List.pairwise_cons.1 hp2).1 x hx
      exact fun e => (pairS_spec this).1 e.symm
    refine wpOp_weaken (wpOp_mono ?_ (bubble hall.sel hoy post pre S a w (fun x hx => (hpre x hx).2) hS h))
    rintro a' w' ⟨S', _, hS', h'⟩
    have hne : ∀ x ∈ pre ++ post, x.1 ≠ y := fun x hx => by
      rcases List.mem_append.1 hx with hx | hx
      · exact (hpre x hx).1
      · exact hpost x hx
    refine ih (listed.setIfInBounds y true) (pre ++ post) S' a' w' (by simpa using hz) ?_ ?_ ?_ ?_ hS' h' (by simp at hf ⊢; omega)
    · intro x hx
      have hx' : x ∈ pre ++ (y, k) :: post := by
        rcases List.mem_append.1 hx with hx | hx
        · exact List.mem_append_left _ hx
        · exact List.mem_append_right _ (List.mem_cons_of_mem _ hx)
      refine ⟨(h1 x hx').1, ?_⟩
      rw [getD_set_ne false (Ne.symm (hne x hx))]
      exact (h1 x hx').2
    · intro i hi hli
      have hiy : i ≠ y := fun e => by
        subst e
        have : (listed.setIfInBounds i true).getD i false = true := by simp [e1]
        rw [this] at hli; cases hli
      rw [getD_set_ne false (Ne.symm hiy)] at hli
      obtain ⟨k', hk'⟩ := h2 i hi hli
      refine ⟨k', ?_⟩
      rcases List.mem_append.1 hk' with hk' | hk'
      · exact List.mem_append_left _ hk'
      · rcases List.mem_cons.1 hk' with e | hk'
        · cases e; exact absurd rfl hiy
        · exact List.mem_append_right _ hk'
    · rw [List.pairwise_append]
      exact ⟨hp1, (List.pairwise_cons.1 hp2).2, fun x hx z hz => hp3 x hx z (by simp [hz])⟩
    · intro j hj o ho e he hb
      by_cases hjy : j = y
      · subst hjy
        rw [hoy'] at ho; cases ho
        exact getD_set_true (hedges e (by simpa using he) hb)
      · rw [getD_set_ne false (Ne.symm hjy)] at hj
        exact getD_set_true (hcl j hj o ho e he hb)
/-- A region whose order is drawn, walked in the order L. -/
theorem wp_region_sched {id : Nat} {all : List Oper} (L : List (Nat × Nat)) (S : World → Prop) {a : Act} {w : World} (hmix : P.follows .mixedOrders = true) (hc : schedB all L = true) (hS : S w.drew) (h : wpSched P all.toArray Q L S a w.drew) : (Code.region id all.toArray true).wp P Q a w := by
  simp only [schedB, Bool.and_eq_true] at hc
  obtain ⟨c1, c2, c3, c4, c5, c6⟩ := hc
  have hpw := pairsS_spec c4
  have hlen := beqIff.1 c2
  have hbd : ∀ x ∈ L, x.1 < all.length := fun x hx => blt_iff.1 (List.all_eq_true.1 c3 x hx)
  have hin : ∀ i, i < all.length → ∃ k, (i, k) ∈ L := fun i hi => by
    have := List.all_eq_true.1 c6 i (List.mem_range.2 hi)
    obtain ⟨⟨j, k⟩, hx, e⟩ := List.any_eq_true.1 this
    obtain rfl := beqIff.1 e
    exact ⟨k, hx⟩
  have hok : SchedOK all := by
    refine ⟨fun j o ho e he hb => ?_, fun j o cs b ho => Region.noSelect_spec c5 j o cs b ho⟩
    have hm : (o, j) ∈ all.zipIdx := by
      rw [List.mk_mem_zipIdx_iff_getElem?]; exact ho
    have := List.all_eq_true.1 c1 (o, j) hm
    have := lall_iff.1 this e he
    simp only [impTrue, blt_iff] at this
    exact this hb
  refine wp_region_any hmix ?_
  have hnl : ∀ x, (Array.replicate all.toArray.size false).getD x false = false := fun x => by
    rcases Nat.lt_or_ge x all.length with h | h <;> simp [h]
  refine sched_any hok all.toArray.size _ L S a w.drew (by simp) (fun x hx => ⟨hbd x hx, hnl _⟩) (fun i hi _ => hin i hi) hpw (fun j hj => by rw [hnl] at hj; cases hj) hS h (by simp [hlen])
end
/- The steps. -/
theorem lget_ops {ops : Array Oper} {i : Nat} {o : Oper} (h : lget ops.toList i = some o) : ops[i]? = some o := by
  rw [lget_eq] at h; simpa using h
section
variable {P : Program} {ops : Array Oper} {Q : Exit → Act → World → Prop} {i : Nat} {o : Oper} {v : Value} {r : List (Nat × Nat)} {S : World → Prop} {a : Act} {w : World}
theorem sched0 (ho : ops[i]? = some o) (hw : Region.wanted o (yielded ops a.tmps) = true) (hv : ∀ W : World, (execOp a.eval o).run P W = .ok (.value v) W) (h : wpSched P ops Q r S (a.put o.dst v) w) : wpSched P ops Q ((i, 0) :: r) S a w := ⟨o, v, ho, .inl ⟨hw, hv⟩, h⟩
theorem sched0n (ho : ops[i]? = some o) (hw : Region.wanted o (yielded ops a.tmps) = false) (h : wpSched P ops Q r S (a.put o.dst undef) w) : wpSched P ops Q ((i, 0) :: r) S a w := ⟨o, undef, ho, .inr ⟨hw, rfl⟩, h⟩
theorem sched1 (ho : ops[i]? = some o) (hw : Region.wanted o (yielded ops a.tmps) = true) (hv : ∀ W : World, S W → (execOp a.eval o).run P W = .ok (.value v) W) (h : wpSched P ops Q r S (a.put o.dst v) w) : wpSched P ops Q ((i, 1) :: r) S a w := ⟨o, v, ho, .inl ⟨hw, hv⟩, h⟩
theorem sched1n (ho : ops[i]? = some o) (hw : Region.wanted o (yielded ops a.tmps) = false) (h : wpSched P ops Q r S (a.put o.dst undef) w) : wpSched P ops Q ((i, 1) :: r) S a w := ⟨o, undef, ho, .inr ⟨hw, rfl⟩, h⟩
theorem wpOp_plain {K : Act → World → Prop} (ho : ops[i]? = some o) (hw : Region.wanted o (yielded ops a.tmps) = true) (h : o.wp P a w K Q) : wpOp P ops Q i K a w := by
  unfold wpOp; simp only [ho, hw, if_true]; exact .inl h
theorem wpOp_not {K : Act → World → Prop} (ho : ops[i]? = some o) (hw : Region.wanted o (yielded ops a.tmps) = false) (h : K (a.put o.dst undef) w) : wpOp P ops Q i K a w := by
  unfold wpOp; simp only [ho, hw]; exact h
theorem sched2 (ho : lget ops.toList i = some o) (hw : Region.wanted o (yielded ops a.tmps) = true) (h : ∀ K : Act → World → Prop, (∀ a w, S w → wpSched P ops Q r S a w → K a w) → o.wp P a w K (strictQ Q)) : wpSched P ops Q ((i, 2) :: r) S a w :=
  wpOp_plain (lget_ops ho) hw (h _ fun _ _ h1 h2 => ⟨h1, h2⟩)
theorem sched2n (ho : lget ops.toList i = some o) (hw : Region.wanted o (yielded ops a.tmps) = false) (hS : S w) (h : wpSched P ops Q r S (a.put o.dst undef) w) : wpSched P ops Q ((i, 2) :: r) S a w :=
  wpOp_not (lget_ops ho) hw ⟨hS, h⟩
theorem sched3 (ho : lget ops.toList i = some o) (hw : Region.wanted o (yielded ops a.tmps) = true) (h : ∀ K : Act → World → Prop, (∀ (S' : World → Prop) a w, S' w → wpSched P ops Q r S' a w → K a w) → o.wp P a w K (strictQ Q)) : wpSched P ops Q ((i, 3) :: r) S a w :=
  wpOp_plain (lget_ops ho) hw (h _ fun S' _ _ h1 h2 => ⟨S', h1, h2⟩)
theorem sched3n (ho : lget ops.toList i = some o) (hw : Region.wanted o (yielded ops a.tmps) = false) (hS : S w) (h : wpSched P ops Q r S (a.put o.dst undef) w) : wpSched P ops Q ((i, 3) :: r) S a w :=
  wpOp_not (lget_ops ho) hw ⟨S, hS, h⟩
/-- The kit's laws of single operations, in a region walked in one order. -/
def onlyK (K : Act → World → Prop) : Exit → Act → World → Prop
  | .normal, a, w => K a w
  | _, _, _ => False
theorem wp_of_list {K : Act → World → Prop} (hw : Region.wanted o (yielded ops a.tmps) = true) (h : wpList P ops (onlyK K) [o] a w) : o.wp P a w K (strictQ Q) := by
  unfold wpList at h
  rw [if_pos hw] at h
  rcases h with h | ⟨_, _, _, h⟩
  rotate_left
  · exact h.elim
  unfold Oper.wp at *
  generalize (execOp a.eval o).run P w = r at *
  cases r with
  | ok n w' =>
    cases n <;> simp only [Oper.upon] at h ⊢ <;> try exact h
  | halt x w' =>
    cases x <;> simp only [Oper.upon] at h ⊢ <;> try exact h
variable {a' : Act}
theorem schedA (ha : a = a') (h : wpSched P ops Q r S a' w) : wpSched P ops Q r S a w := ha ▸ h
theorem sched0' (ho : lget ops.toList i = some o) (hw : Region.wanted o (yielded ops a.tmps) = true) (hv : ∀ W : World, (execOp a.eval o).run P W = .ok (.value v) W) (ha : a.put o.dst v = a') (h : wpSched P ops Q r S a' w) : wpSched P ops Q ((i, 0) :: r) S a w := sched0 (lget_ops ho) hw hv (ha ▸ h)
theorem sched0n' (ho : lget ops.toList i = some o) (hw : Region.wanted o (yielded ops a.tmps) = false) (ha : a.put o.dst undef = a') (h : wpSched P ops Q r S a' w) : wpSched P ops Q ((i, 0) :: r) S a w := sched0n (lget_ops ho) hw (ha ▸ h)
theorem sched1' (ho : lget ops.toList i = some o) (hw : Region.wanted o (yielded ops a.tmps) = true) (hv : ∀ W : World, S W → (execOp a.eval o).run P W = .ok (.value v) W) (ha : a.put o.dst v = a') (h : wpSched P ops Q r S a' w) : wpSched P ops Q ((i, 1) :: r) S a w := sched1 (lget_ops ho) hw hv (ha ▸ h)
theorem sched1n' (ho : lget ops.toList i = some o) (hw : Region.wanted o (yielded ops a.tmps) = false) (ha : a.put o.dst undef = a') (h : wpSched P ops Q r S a' w) : wpSched P ops Q ((i, 1) :: r) S a w := sched1n (lget_ops ho) hw (ha ▸ h)
end
end Go.Ev
