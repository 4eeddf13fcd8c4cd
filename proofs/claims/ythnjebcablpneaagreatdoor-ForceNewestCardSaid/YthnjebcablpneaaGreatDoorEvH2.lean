/- A region that draws its order, in which variables are laid too: told by assertions that new memory leaves as they are. -/
import Derived.Test.YthnjebcablpneaaGreatDoorEvZ
import Derived.Below
set_option maxRecDepth 10000
namespace Go.Ev
open Go.RowKit (Below)
/-- What new memory leaves as it is. -/
def Mono (S : World → Prop) : Prop := ∀ W W' : World, S W → Below W.heap.size W W' → S W'
theorem Mono.and {S E : World → Prop} (h : Mono S) (k : Mono E) : Mono fun W => S W ∧ E W := fun W W' h1 h2 => ⟨h W W' h1.1 h2, k W W' h1.2 h2⟩
theorem Mono.blk (g : Nat) (o : Obj) : Mono fun W => W.heap[g]? = some o := fun W W' h hb => (hb.block g (Array.getElem?_eq_some_iff.1 h).1).trans h
theorem heap_alloc_last (w : World) (o : Obj) : (w.alloc o).heap[w.heap.size]? = some o := by
  have : (w.heap.push o)[w.heap.size]? = some o := by simp
  exact this
theorem Mono.below (w : World) : Mono fun W => Below w.heap.size w W := fun W W' h hb => h.trans (hb.mono h.size)
theorem Mono.true_ : Mono fun _ => True := fun _ _ _ _ => trivial
theorem Mono.const (p : Prop) : Mono fun _ => p := fun _ _ h _ => h
theorem Mono.lt (g : Nat) : Mono fun W => g < W.heap.size := fun W W' (h : g < W.heap.size) hb => Nat.lt_of_lt_of_le h hb.size
section
variable {P : Program} {ops : Array Oper} {Q : Exit → Act → World → Prop}
/-- An operation that lays a variable: what it gives, what lies there. -/
structure Mk where
  i : Nat
  val : Nat → Value
  obj : Obj
def Makes (P : Program) (ops : Array Oper) (m : Mk) : Prop := ∃ o, ops[m.i]? = some o ∧ o.guard = none ∧ ∀ (a : Act) (W : World), (execOp a.eval o).run P W = .ok (.value (m.val W.heap.size)) (W.alloc m.obj)
def wpHs (P : Program) (ops : Array Oper) (Q : Exit → Act → World → Prop) (A : List Mk) (T : List (Nat × Nat)) : List (Nat × Nat) → (Nat → Prop) → (World → Prop) → Act → Prop
  | [], _, S, a => ∀ W, S W → wpSched P ops Q T S a W
  | (i, 0) :: r, U, S, a => ∃ o v, ops[i]? = some o ∧ Yields P ops o v a ∧ wpHs P ops Q A T r U S (a.put o.dst v)
  | (i, 1) :: r, U, S, a => ∃ o v, ops[i]? = some o ∧ YieldsIf P ops S o v a ∧ wpHs P ops Q A T r U S (a.put o.dst v)
  | (i, k + 4) :: r, U, S, a => ∀ o m, ops[i]? = some o → A[k]? = some m → ∀ g, ¬ U g → wpHs P ops Q A T r (fun n => n = g ∨ U n) (fun W => S W ∧ W.heap[g]? = some m.obj) (a.put o.dst (m.val g))
  | (i, _) :: r, U, S, a => ∀ W, S W → wpOp P ops (strictQ Q) i (fun a' w' => Below W.heap.size W w' ∧ ∃ E, Mono E ∧ E w' ∧ wpHs P ops Q A T r U (fun W => S W ∧ E W) a') a W

theorem wpOp_unput {j : Nat} {oj : Oper} {d : Option Tmp} {v : Value} (hj : ops[j]? = some oj) (h1 : ∀ t, d = some t → t ∉ oj.looksAt ops) (h2 : ∀ t, d = some t → oj.dst ≠ some t)
    (hsj : ∀ cs b, oj.op ≠ .select cs b) {K K' : Act → World → Prop} (hK : ∀ a w, K a w → K' (a.put d v) w) {a : Act} {w : World} (h : wpOp P ops (strictQ Q) j K a w) :
    wpOp P ops (strictQ Q) j K' (a.put d v) w := by
  unfold wpOp at *
  simp only [hj] at *
  rw [wanted_put oj a d v h1]
  split
  · rename_i hw
    simp only [hw, if_true] at h
    rcases h with h | ⟨_, _, _, h⟩
    case inr => exact h.elim
    refine .inl ?_
    unfold Oper.wp at *
    rw [execOp_put oj hsj a d v h1]
    generalize (execOp a.eval oj).run P w = r at *
    cases r with
    | ok n w' =>
      cases n <;> simp only [Oper.upon] at h ⊢
      case value u => rw [Act.put_comm a v u h2]; exact hK _ _ h
      case skip => rw [Act.put_comm a v undef h2]; exact hK _ _ h
      case defer x => rw [Act.put_defers, Act.put_comm _ v undef h2]; exact hK _ _ h
      case enter f args =>
        refine Calls.mono h fun e w'' he => ?_
        cases e with
        | returned u => have he : K (a.put oj.dst u) w'' := he; show K' ((a.put d v).put oj.dst u) w''; rw [Act.put_comm a v u h2]; exact hK _ _ he
        | panicked c => exact he.elim
        | outgrown => exact he
      case row row args => exact Rows.mono h fun u w'' he => by rw [Act.put_comm a v u h2]; exact hK _ _ he
    | halt x w' =>
      cases x <;> simp only [Oper.upon] at h ⊢
      case panic u => exact h.elim
  · rename_i hw
    simp only [hw] at h
    have h : K (a.put oj.dst undef) w := h
    show K' ((a.put d v).put oj.dst undef) w
    rw [Act.put_comm a v undef h2]; exact hK _ _ h

variable {A : List Mk} {T : List (Nat × Nat)}
theorem and_swap (S E F : World → Prop) : (fun W => (S W ∧ E W) ∧ F W) = fun W => (S W ∧ F W) ∧ E W := by
  funext W; exact propext and_right_comm
theorem or_swap (U : Nat → Prop) (g g' : Nat) : (fun n => n = g ∨ (n = g' ∨ U n)) = fun n => n = g' ∨ (n = g ∨ U n) := by
  funext n; exact propext or_left_comm
/-- A variable may be laid earlier. -/
theorem bubbleA (hsel : ∀ (j : Nat) (o : Oper) cs b, ops[j]? = some o → o.op ≠ .select cs b) {y k : Nat} {oy : Oper} {m : Mk} (hy : ops[y]? = some oy) (hm : A[k]? = some m) (g : Nat) (post : List (Nat × Nat)) : ∀ (pre : List (Nat × Nat)) (U : Nat → Prop) (S : World → Prop) (a : Act), ¬ U g →
    (∀ x ∈ pre, ∀ ox, ops[x.1]? = some ox → ox.apart ops oy = true) → (∀ x ∈ pre, ∃ ox, ops[x.1]? = some ox) → wpHs P ops Q A T (pre ++ (y, k + 4) :: post) U S a →
      wpHs P ops Q A T (pre ++ post) (fun n => n = g ∨ U n) (fun W => S W ∧ W.heap[g]? = some m.obj) (a.put oy.dst (m.val g)) := by
  intro pre
  induction pre with
  | nil => intro U S a hU _ _ h; exact h oy m hy hm g hU
  | cons x pre ih =>
    intro U S a hU hp hx h
    obtain ⟨i, q⟩ := x
    obtain ⟨ox, hox⟩ := hx (i, q) (by simp)
    have hap := hp (i, q) (by simp) ox hox
    have hp' := fun x hx => hp x (List.mem_cons_of_mem _ hx)
    have hx' := fun x hh => hx x (List.mem_cons_of_mem _ hh)
    have hox : ops[i]? = some ox := hox
    obtain ⟨h1, h2, h3⟩ := Oper.apart_spec hap
    have hc : ∀ (a : Act) u v, (a.put ox.dst u).put oy.dst v = (a.put oy.dst v).put ox.dst u := fun a u v => Act.put_comm a u v h2
    have loud : (∀ W, S W → wpOp P ops (strictQ Q) i (fun a' w' => Below W.heap.size W w' ∧ ∃ E, Mono E ∧ E w' ∧ wpHs P ops Q A T (pre ++ (y, k + 4) :: post) U (fun W => S W ∧ E W) a') a W) →
        ∀ W, (S W ∧ W.heap[g]? = some m.obj) → wpOp P ops (strictQ Q) i (fun a' w' => Below W.heap.size W w' ∧ ∃ E, Mono E ∧ E w' ∧ wpHs P ops Q A T (pre ++ post) (fun n => n = g ∨ U n) (fun W => (S W ∧ W.heap[g]? = some m.obj) ∧ E W) a') (a.put oy.dst (m.val g)) W := fun h W hW => by
      refine wpOp_unput hox h3 (fun t ht hh => h2 t hh ht) (fun cs b => hsel i ox cs b hox) ?_ (h W hW.1)
      rintro a' w' ⟨hb, E, hE, hEw, h'⟩
      refine ⟨hb, E, hE, hEw, ?_⟩
      have := ih U _ _ hU hp' hx' h'
      rw [and_swap S E] at this
      exact this
    match q, h with
    | 0, h =>
      obtain ⟨o, v, ho, hv, h⟩ := h
      rw [hox] at ho; cases ho
      have := ih U S _ hU hp' hx' h
      rw [hc] at this
      exact ⟨ox, v, hox, hv.of_same (execOp_put ox (fun cs b => hsel i ox cs b hox) a oy.dst _ h3) (wanted_put ox a oy.dst _ h3), this⟩
    | 1, h =>
      obtain ⟨o, v, ho, hv, h⟩ := h
      rw [hox] at ho; cases ho
      have := ih U S _ hU hp' hx' h
      rw [hc] at this
      have hv' : YieldsIf P ops (fun W => S W ∧ W.heap[g]? = some m.obj) ox v a := by
        rcases hv with ⟨e1, e2⟩ | e
        · exact .inl ⟨e1, fun W hW => e2 W hW.1⟩
        · exact .inr e
      exact ⟨ox, v, hox, hv'.of_same (execOp_put ox (fun cs b => hsel i ox cs b hox) a oy.dst _ h3) (wanted_put ox a oy.dst _ h3), this⟩
    | 2, h => exact loud h
    | 3, h => exact loud h
    | j + 4, h =>
      intro o m' ho hm' g' hg'
      have ho : ops[i]? = some o := ho
      rw [hox] at ho; cases ho
      have := ih _ _ _ (fun hh => hh.elim (fun e => hg' (.inl e.symm)) hU) hp' hx' (h ox m' hox hm' g' fun hh => hg' (.inr hh))
      rw [hc, and_swap S, or_swap] at this
      exact this
/-- What looks, and a call, may come earlier. -/
theorem bubbleH (hsel : ∀ (j : Nat) (o : Oper) cs b, ops[j]? = some o → o.op ≠ .select cs b) {y k : Nat} {oy : Oper} (hy : ops[y]? = some oy) (hk : k ≤ 2) (post : List (Nat × Nat)) (U : Nat → Prop) : ∀ (pre : List (Nat × Nat)) (S : World → Prop) (a : Act),
    (∀ x ∈ pre, x.2 < 2 ∧ ∀ ox, ops[x.1]? = some ox → ox.apart ops oy = true) → wpHs P ops Q A T (pre ++ (y, k) :: post) U S a → ∀ W, S W →
      wpOp P ops (strictQ Q) y (fun a' w' => Below W.heap.size W w' ∧ ∃ E, Mono E ∧ E w' ∧ wpHs P ops Q A T (pre ++ post) U (fun W => S W ∧ E W) a') a W := by
  have hQ : ∀ (d : Option Tmp) (v : Value) c a w, strictQ Q (.panic c) (a.put d v) w → strictQ Q (.panic c) a w := fun _ _ _ _ _ h => h.elim
  have htrue : ∀ S : World → Prop, (fun W => S W ∧ True) = S := fun S => by funext W; exact propext (iff_of_eq (and_true _))
  intro pre
  induction pre with
  | nil =>
    intro S a _ h W hW
    match k, hk, h with
    | 0, _, h =>
      obtain ⟨o, v, ho, hv, h⟩ := h
      refine hv.wpOp ho ⟨Below.refl _ _, fun _ => True, Mono.true_, trivial, ?_⟩
      rw [htrue]; exact h
    | 1, _, h =>
      obtain ⟨o, v, ho, hv, h⟩ := h
      refine hv.wpOp ho hW ⟨Below.refl _ _, fun _ => True, Mono.true_, trivial, ?_⟩
      rw [htrue]; exact h
    | 2, _, h => exact h W hW
  | cons x pre ih =>
    intro S a hp h W hW
    obtain ⟨i, q⟩ := x
    obtain ⟨hq, hap⟩ := hp (i, q) (by simp)
    have hp' := fun x hx => hp x (List.mem_cons_of_mem _ hx)
    match q, hq, h with
    | 0, _, h =>
      obtain ⟨o, v, ho, hv, h⟩ := h
      refine wpOp_mono ?_ (wpOp_put hy (hap o ho) (fun cs b => hsel i o cs b ho) (fun cs b => hsel y oy cs b hy) (hQ _ _) hv (ih S _ hp' h W hW))
      rintro a' w' ⟨hv', hb, E, hE, hEw, h'⟩
      exact ⟨hb, E, hE, hEw, o, v, ho, hv', h'⟩
    | 1, _, h =>
      obtain ⟨o, v, ho, hv, h⟩ := h
      refine wpOp_mono ?_ (wpOp_putIf hy (hap o ho) (fun cs b => hsel i o cs b ho) (fun cs b => hsel y oy cs b hy) (hQ _ _) hv (ih S _ hp' h W hW))
      rintro a' w' ⟨hv', hb, E, hE, hEw, h'⟩
      refine ⟨hb, E, hE, hEw, o, v, ho, ?_, h'⟩
      rcases hv' with ⟨e1, e2⟩ | e
      · exact .inl ⟨e1, fun W hW => e2 W hW.1⟩
      · exact .inr e
end
section
variable {P : Program} {Q : Exit → Act → World → Prop}
def pairH (all : List Oper) (M : List Nat) (x y : Nat × Nat) : Bool :=
  !Nat.beq x.1 y.1 && (((M[y.1]?).map (tbit · x.1)).getD false || ((((all[x.1]?).bind fun ox => (all[y.1]?).map fun oy => ox.apart all.toArray oy).getD false) && (Nat.blt x.2 2 || Nat.ble 4 y.2)))
def pairsH (all : List Oper) (M : List Nat) : List (Nat × Nat) → Bool
  | [] => true
  | x :: r => r.all (pairH all M x) && pairsH all M r
theorem pairH_spec {all : List Oper} {M : List Nat} {x y : Nat × Nat} (h : pairH all M x y = true) : x.1 ≠ y.1 ∧ ((∃ q, M[y.1]? = some q ∧ tbit q x.1 = true) ∨ ((∀ ox oy, all[x.1]? = some ox → all[y.1]? = some oy → ox.apart all.toArray oy = true) ∧ (x.2 < 2 ∨ 4 ≤ y.2))) := by
  unfold pairH at h
  simp only [Bool.and_eq_true, Bool.or_eq_true, Bool.not_eq_true'] at h
  obtain ⟨h1, h2⟩ := h
  refine ⟨fun e => absurd h1 (by rw [beqIff.2 e]; simp), ?_⟩
  rcases h2 with h2 | ⟨h3, h4⟩
  · left
    cases hm : M[y.1]? with
    | none => rw [hm] at h2; cases h2
    | some q => rw [hm] at h2; exact ⟨q, rfl, h2⟩
  · right
    refine ⟨fun ox oy e1 e2 => by rw [e1, e2] at h3; exact h3, ?_⟩
    rcases h4 with h4 | h4
    · exact .inl (blt_iff.1 h4)
    · exact .inr (bleIff.1 h4)
theorem pairsH_spec {all : List Oper} {M : List Nat} : ∀ {L : List (Nat × Nat)}, pairsH all M L = true → L.Pairwise fun x y => pairH all M x y = true
  | [], _ => .nil
  | x :: r, h => by
    simp only [pairsH, Bool.and_eq_true] at h
    exact .cons (fun y hy => List.all_eq_true.1 h.1 y hy) (pairsH_spec h.2)
def kindB (A : List Mk) (x : Nat × Nat) : Bool := match x.2 with
  | 0 | 1 | 2 => true
  | 3 => false
  | k + 4 => ((A[k]?).map fun m => Nat.beq m.i x.1).getD false
noncomputable def hsB (all : List Oper) (A : List Mk) (L T : List (Nat × Nat)) : Bool :=
  (all.zipIdx.all fun p => edgesOk p.2 p.1.after.toList) && (Nat.beq (L.length + T.length) all.length && (L.all (fun x => Nat.blt x.1 all.length && kindB A x) && (T.all (fun x => Nat.blt x.1 all.length) &&
    (pairsH all (masks all []) L && (pairsS all (masks all []) T && (L.all (fun x => T.all fun y => ((masks all [])[y.1]?).map (tbit · x.1) == some true) && (Region.noSelect all.toArray && (List.range all.length).all fun i => L.any (fun x => Nat.beq x.1 i) || T.any fun x => Nat.beq x.1 i)))))))
theorem hs_any {all : List Oper} {A : List Mk} {T : List (Nat × Nat)} (hall : SchedOK all) (hA : ∀ m ∈ A, Makes P all.toArray m) (hT : T.Pairwise fun x y => pairS all (masks all []) x y = true) (hTb : ∀ x ∈ T, x.1 < all.length) : ∀ (fuel : Nat) (listed : Array Bool) (L : List (Nat × Nat)) (U : Nat → Prop) (S : World → Prop) (a : Act) (w : World), (∀ n, U n → n < w.heap.size) →
    listed.size = all.length → (∀ x ∈ L, x.1 < all.length ∧ listed.getD x.1 false = false ∧ kindB A x = true) → (∀ x ∈ T, listed.getD x.1 false = false) → (∀ i, i < all.length → listed.getD i false = false → (∃ k, (i, k) ∈ L) ∨ ∃ k, (i, k) ∈ T) →
    (L.Pairwise fun x y => pairH all (masks all []) x y = true) → (∀ x ∈ L, ∀ y ∈ T, ∃ q, (masks all [])[y.1]? = some q ∧ tbit q x.1 = true) →
    (∀ j, listed.getD j false = true → ∀ o : Oper, all[j]? = some o → ∀ e ∈ o.after.toList, Region.binds .any e = true → listed.getD e.on false = true) → Mono S → S w → wpHs P all.toArray Q A T L U S a → L.length + T.length ≤ fuel →
      wpAny P .any all.toArray Q fuel listed a w := by
  have hM := masks_ok all
  intro fuel
  induction fuel with
  | zero =>
    intro listed L U S a w hU hz h1 h1t h2 hpw hLT hcl hS hw h hf
    have : L = [] := List.eq_nil_of_length_eq_zero (by omega)
    subst this
    exact sched_any hall 0 listed T S a w hz (fun x hx => ⟨hTb x hx, h1t x hx⟩) (fun i hi hl => (h2 i hi hl).resolve_left (by simp)) hT hcl hw (h w hw) (by simpa using hf)
  | succ fuel ih =>
    intro listed L U S a w hU hz h1 h1t h2 hpw hLT hcl hS hw h hf
    by_cases hLe : L = []
    · subst hLe
      exact sched_any hall (fuel + 1) listed T S a w hz (fun x hx => ⟨hTb x hx, h1t x hx⟩) (fun i hi hl => (h2 i hi hl).resolve_left (by simp)) hT hcl hw (h w hw) (by simpa using hf)
    obtain ⟨x0, hx0⟩ := List.exists_mem_of_ne_nil L hLe
    have step : ∀ (y : Nat), y ∈ Region.ready .any all.toArray listed → wpOp P all.toArray Q y (wpAny P .any all.toArray Q fuel (listed.setIfInBounds y true)) a w := by
      intro y hy
      obtain ⟨h0, oy, hoy, hedges⟩ := mem_ready.1 hy
      obtain ⟨e1, e2⟩ := getD_parts h0
      have hyl : y < all.length := by rw [← hz]; exact e1
      have hoy' : all[y]? = some oy := by simpa using hoy
      obtain ⟨q, hq⟩ : ∃ q, (masks all [])[y]? = some q := ⟨_, List.getElem?_eq_getElem (by rw [hM.1]; exact hyl)⟩
      have hbits : ∀ i, tbit q i = true → listed.getD i false = true := closed_bit hM hall.lt hcl y oy q hoy' hq fun e he hb => hedges e (by simpa using he) hb
      have hyL : ∃ k, (y, k) ∈ L := by
        rcases h2 y hyl e2 with hk | ⟨k, hk⟩
        · exact hk
        · obtain ⟨q', hq', hb⟩ := hLT x0 hx0 (y, k) hk
          rw [hq] at hq'; cases hq'
          have := hbits _ hb
          rw [(h1 x0 hx0).2.1] at this; cases this
      obtain ⟨k, hk⟩ := hyL
      obtain ⟨pre, post, rfl⟩ := List.append_of_mem hk
      obtain ⟨_, _, hkind⟩ := h1 (y, k) (by simp)
      rw [List.pairwise_append] at hpw
      obtain ⟨hp1, hp2, hp3⟩ := hpw
      have hpre : ∀ x ∈ pre, x.1 ≠ y ∧ (∀ ox, all.toArray[x.1]? = some ox → ox.apart all.toArray oy = true) ∧ (x.2 < 2 ∨ 4 ≤ k) := fun x hx => by
        obtain ⟨n1, n2⟩ := pairH_spec (hp3 x hx (y, k) (by simp))
        refine ⟨n1, ?_⟩
        rcases n2 with ⟨q', hq', hb⟩ | ⟨n3, n4⟩
        · rw [hq] at hq'; cases hq'
          have := hbits _ hb
          rw [(h1 x (by simp [hx])).2.1] at this; cases this
        · exact ⟨fun ox hox => n3 ox oy (by simpa using hox) hoy', n4⟩
      have hpost : ∀ x ∈ post, x.1 ≠ y := fun x hx => fun e => (pairH_spec ((List.pairwise_cons.1 hp2).1 x hx)).1 e.symm
      have hne : ∀ x ∈ pre ++ post, x.1 ≠ y := fun x hx => by
        rcases List.mem_append.1 hx with hx | hx
        · exact (hpre x hx).1
        · exact hpost x hx
      have hin : ∀ x ∈ pre ++ post, x ∈ pre ++ (y, k) :: post := fun x hx => by
        rcases List.mem_append.1 hx with hx | hx
        · exact List.mem_append_left _ hx
        · exact List.mem_append_right _ (List.mem_cons_of_mem _ hx)
      have hneT : ∀ x ∈ T, x.1 ≠ y := fun x hx e => by
        obtain ⟨q', hq', hb⟩ := hLT (y, k) (by simp) x hx
        have hq2 : (masks all [])[y]? = some q' := by rw [← e]; exact hq'
        rw [hq] at hq2; cases hq2
        have hb : tbit q y = true := hb
        have := hbits _ hb
        rw [e2] at this; cases this
      have next : ∀ (U' : Nat → Prop) (S' : World → Prop) (a' : Act) (w' : World), (∀ n, U' n → n < w'.heap.size) → Mono S' → S' w' → wpHs P all.toArray Q A T (pre ++ post) U' S' a' → wpAny P .any all.toArray Q fuel (listed.setIfInBounds y true) a' w' := fun U' S' a' w' hU' hS' hw' h' => by
        refine ih (listed.setIfInBounds y true) (pre ++ post) U' S' a' w' hU' (by simpa using hz) ?_ ?_ ?_ ?_ ?_ ?_ hS' hw' h' (by simp at hf ⊢; omega)
        · intro x hx
          obtain ⟨b1, b2, b3⟩ := h1 x (hin x hx)
          exact ⟨b1, by rw [getD_set_ne false (Ne.symm (hne x hx))]; exact b2, b3⟩
        · intro x hx
          rw [getD_set_ne false (Ne.symm (hneT x hx))]; exact h1t x hx
        · intro i hi hli
          have hiy : i ≠ y := fun e => by
            subst e
            have : (listed.setIfInBounds i true).getD i false = true := by simp [e1]
            rw [this] at hli; cases hli
          rw [getD_set_ne false (Ne.symm hiy)] at hli
          rcases h2 i hi hli with ⟨k', hk'⟩ | hk'
          · left
            refine ⟨k', ?_⟩
            rcases List.mem_append.1 hk' with hk' | hk'
            · exact List.mem_append_left _ hk'
            · rcases List.mem_cons.1 hk' with e | hk'
              · cases e; exact absurd rfl hiy
              · exact List.mem_append_right _ hk'
          · exact .inr hk'
        · rw [List.pairwise_append]
          exact ⟨hp1, (List.pairwise_cons.1 hp2).2, fun x hx z hz => hp3 x hx z (by simp [hz])⟩
        · exact fun x hx z hz => hLT x (hin x hx) z hz
        · intro j hj o ho e he hb
          by_cases hjy : j = y
          · subst hjy
            rw [hoy'] at ho; cases ho
            exact getD_set_true (hedges e (by simpa using he) hb)
          · rw [getD_set_ne false (Ne.symm hjy)] at hj
            exact getD_set_true (hcl j hj o ho e he hb)
      have quiet : k ≤ 2 → wpOp P all.toArray Q y (wpAny P .any all.toArray Q fuel (listed.setIfInBounds y true)) a w := fun hk2 => by
        refine wpOp_weaken (wpOp_mono ?_ (bubbleH hall.sel hoy hk2 post U pre S a (fun x hx => ⟨(hpre x hx).2.2.resolve_right (by omega), (hpre x hx).2.1⟩) h w hw))
        rintro a' w' ⟨hb, E, hE, hEw, h'⟩
        exact next U _ a' w' (fun n hn => Nat.lt_of_lt_of_le (hU n hn) hb.size) (hS.and hE) ⟨hS _ _ hw hb, hEw⟩ h'
      match k, hkind, quiet with
      | 0, _, quiet => exact quiet (by omega)
      | 1, _, quiet => exact quiet (by omega)
      | 2, _, quiet => exact quiet (by omega)
      | j + 4, hkind, _ =>
        have hkind : (((A[j]?).map fun m => Nat.beq m.i y).getD false) = true := hkind
        cases hm : A[j]? with
        | none => rw [hm] at hkind; cases hkind
        | some m =>
          rw [hm] at hkind
          have hmi : m.i = y := beqIff.1 hkind
          obtain ⟨o, ho, hg, hrun⟩ := hA m (List.mem_of_getElem? hm)
          rw [hmi, hoy] at ho; cases ho
          have h' := bubbleA hall.sel hoy hm w.heap.size post pre U S a (fun hh => Nat.lt_irrefl _ (hU _ hh)) (fun x hx => (hpre x hx).2.1) (fun x hx => by
            obtain ⟨b1, _⟩ := h1 x (by simp [hx])
            exact ⟨all[x.1], by simp [b1]⟩) h
          unfold wpOp
          simp only [hoy, Region.wanted, hg, if_true]
          refine .inl ?_
          unfold Oper.wp
          rw [hrun a w, Oper.upon_value]
          have hba : Below w.heap.size w (w.alloc m.obj) := (Below.refl _ _).alloc (Nat.le_refl _) _
          exact next _ _ _ _ (fun n hn => by
            have hsz : (w.alloc m.obj).heap.size = w.heap.size + 1 := Array.size_push _
            rcases hn with rfl | hn
            · omega
            · have := hU n hn; omega) (hS.and (Mono.blk _ _)) ⟨hS _ _ hw hba, heap_alloc_last w m.obj⟩ h'
    refine ⟨fun he => ?_, step⟩
    -- something is ready
    exfalso
    have hall2 : ∀ x, x < all.length → listed.getD x false = true := by
      intro x
      induction x using Nat.strongRecOn with
      | _ x ihx =>
        intro hx
        cases hlx : listed.getD x false with
        | true => rfl
        | false =>
          have : x ∈ Region.ready .any all.toArray listed := by
            refine mem_ready.2 ⟨?_, all[x], by simp [hx], fun e he hb => ?_⟩
            · have hs : x < listed.size := by rw [hz]; exact hx
              simp [hs] at hlx ⊢; exact hlx
            · have hlt := hall.lt x all[x] (List.getElem?_eq_getElem hx) e (by simpa using he) hb
              exact ihx e.on hlt (by omega)
          rw [he] at this; cases this
    obtain ⟨b1, b2, _⟩ := h1 x0 hx0
    rw [hall2 _ b1] at b2; cases b2
/-- A region whose order is drawn: L by assertions, T behind all that. -/
theorem wp_region_hs {id : Nat} {all : List Oper} (A : List Mk) (L T : List (Nat × Nat)) (S : World → Prop) {a : Act} {w : World} (hmix : P.follows .mixedOrders = true) (hc : hsB all A L T = true) (hA : ∀ m ∈ A, Makes P all.toArray m) (hS : Mono S) (hw : S w.drew) (h : wpHs P all.toArray Q A T L (fun n => n < w.heap.size) S a) : (Code.region id all.toArray true).wp P Q a w := by
  simp only [hsB, Bool.and_eq_true] at hc
  obtain ⟨c1, c2, c3, c4, c5, c6, c7, c8, c9⟩ := hc
  have hlen := beqIff.1 c2
  have hok : SchedOK all := by
    refine ⟨fun j o ho e he hb => ?_, fun j o cs b ho => Region.noSelect_spec c8 j o cs b ho⟩
    have hm : (o, j) ∈ all.zipIdx := by
      rw [List.mk_mem_zipIdx_iff_getElem?]; exact ho
    have := List.all_eq_true.1 c1 (o, j) hm
    have := lall_iff.1 this e he
    simp only [impTrue, blt_iff] at this
    exact this hb
  refine wp_region_any hmix ?_
  have hnl : ∀ x, (Array.replicate all.toArray.size false).getD x false = false := fun x => by
    rcases Nat.lt_or_ge x all.length with h | h <;> simp [h]
  refine hs_any hok hA (pairsS_spec c6) (fun x hx => blt_iff.1 (List.all_eq_true.1 c4 x hx)) all.toArray.size _ L (fun n => n < w.heap.size) S a w.drew (fun n hn => hn) (by simp) (fun x hx => ?_) (fun x hx => hnl _) (fun i hi _ => ?_) (pairsH_spec c5) (fun x hx y hy => ?_) (fun j hj => by rw [hnl] at hj; cases hj) hS hw h (by simp [hlen])
  · have := List.all_eq_true.1 c3 x hx
    simp only [Bool.and_eq_true] at this
    exact ⟨blt_iff.1 this.1, hnl _, this.2⟩
  · have := List.all_eq_true.1 c9 i (List.mem_range.2 hi)
    rw [Bool.or_eq_true] at this
    rcases this with this | this
    · obtain ⟨⟨j, k⟩, hx, e⟩ := List.any_eq_true.1 this
      obtain rfl := beqIff.1 e
      exact .inl ⟨k, hx⟩
    · obtain ⟨⟨j, k⟩, hx, e⟩ := List.any_eq_true.1 this
      obtain rfl := beqIff.1 e
      exact .inr ⟨k, hx⟩
  · have := List.all_eq_true.1 (List.all_eq_true.1 c7 x hx) y hy
    cases hm : (masks all [])[y.1]? with
    | none => rw [hm] at this; cases this
    | some q =>
      rw [hm] at this
      exact ⟨q, rfl, by simpa using this⟩
end
/- The steps. -/
section
variable {P : Program} {ops : Array Oper} {Q : Exit → Act → World → Prop} {A : List Mk} {T : List (Nat × Nat)} {i k : Nat} {o : Oper} {v : Value} {r : List (Nat × Nat)} {U : Nat → Prop} {S : World → Prop} {a : Act}
theorem hs0 (ho : ops[i]? = some o) (hw : Region.wanted o (yielded ops a.tmps) = true) (hv : ∀ W : World, (execOp a.eval o).run P W = .ok (.value v) W) (h : wpHs P ops Q A T r U S (a.put o.dst v)) : wpHs P ops Q A T ((i, 0) :: r) U S a := ⟨o, v, ho, .inl ⟨hw, hv⟩, h⟩
theorem hs0n (ho : ops[i]? = some o) (hw : Region.wanted o (yielded ops a.tmps) = false) (h : wpHs P ops Q A T r U S (a.put o.dst undef)) : wpHs P ops Q A T ((i, 0) :: r) U S a := ⟨o, undef, ho, .inr ⟨hw, rfl⟩, h⟩
theorem hs1 (ho : ops[i]? = some o) (hw : Region.wanted o (yielded ops a.tmps) = true) (hv : ∀ W : World, S W → (execOp a.eval o).run P W = .ok (.value v) W) (h : wpHs P ops Q A T r U S (a.put o.dst v)) : wpHs P ops Q A T ((i, 1) :: r) U S a := ⟨o, v, ho, .inl ⟨hw, hv⟩, h⟩
theorem hs1n (ho : ops[i]? = some o) (hw : Region.wanted o (yielded ops a.tmps) = false) (h : wpHs P ops Q A T r U S (a.put o.dst undef)) : wpHs P ops Q A T ((i, 1) :: r) U S a := ⟨o, undef, ho, .inr ⟨hw, rfl⟩, h⟩
theorem hs2 (ho : lget ops.toList i = some o) (hw : Region.wanted o (yielded ops a.tmps) = true) (h : ∀ W, S W → ∀ K : Act → World → Prop, (∀ (E : World → Prop) a w, Below W.heap.size W w → Mono E → E w → wpHs P ops Q A T r U (fun W => S W ∧ E W) a → K a w) → o.wp P a W K (strictQ Q)) : wpHs P ops Q A T ((i, 2) :: r) U S a :=
  fun W hW => wpOp_plain (lget_ops ho) hw (h W hW _ fun E _ _ h1 h2 h3 h4 => ⟨h1, E, h2, h3, h4⟩)
theorem hs4 {m : Mk} (ho : lget ops.toList i = some o) (hm : A[k]? = some m) (h : ∀ g, ¬ U g → wpHs P ops Q A T r (fun n => n = g ∨ U n) (fun W => S W ∧ W.heap[g]? = some m.obj) (a.put o.dst (m.val g))) : wpHs P ops Q A T ((i, k + 4) :: r) U S a := by
  intro o' m' ho' hm' g hg
  rw [lget_ops ho] at ho'; cases ho'
  rw [hm] at hm'; cases hm'
  exact h g hg
theorem hsT (h : ∀ W, S W → wpSched P ops Q T S a W) : wpHs P ops Q A T [] U S a := h
variable {a' : Act}
theorem hsA (ha : a = a') (h : wpHs P ops Q A T r U S a') : wpHs P ops Q A T r U S a := ha ▸ h
theorem hs0' (ho : lget ops.toList i = some o) (hw : Region.wanted o (yielded ops a.tmps) = true) (hv : ∀ W : World, (execOp a.eval o).run P W = .ok (.value v) W) (ha : a.put o.dst v = a') (h : wpHs P ops Q A T r U S a') : wpHs P ops Q A T ((i, 0) :: r) U S a := hs0 (lget_ops ho) hw hv (ha ▸ h)
theorem hs1' (ho : lget ops.toList i = some o) (hw : Region.wanted o (yielded ops a.tmps) = true) (hv : ∀ W : World, S W → (execOp a.eval o).run P W = .ok (.value v) W) (ha : a.put o.dst v = a') (h : wpHs P ops Q A T r U S a') : wpHs P ops Q A T ((i, 1) :: r) U S a := hs1 (lget_ops ho) hw hv (ha ▸ h)
end
end Go.Ev
