/- (*game.Rules).walk's closure where the menu is empty: a range over a function that makes no round. -/
import Derived.Test.YthokbbichifohaaGreatDoorEnv
import Derived.Test.YthokbbichifohaaGreatDoorEvS
import Derived.Test.YthokbbichifohaaGreatDoorYnum
import Derived.WalkKit
import Derived.WalkSpells
import Derived.Lib.Hide
import Derived.Below
import Derived.RangeFuncIn
import Derived.RangeFuncRecord
import Derived.RangeFuncLeaves
import Derived.Scope
import Derived.Shelf.Abstract
import Derived.Lib.SmallJoins
import Derived.Laws.Rows
import Derived.WalkMore
set_option maxRecDepth 100000
namespace Go.Proofs.YthokbbichifohaaGreatDoor
open Go.RowKit
theorem wp_range0 {P : Program} {g : Operand} {ps : Array Tmp} {assign body : Code} {Q : Exit → Act → World → Prop} {a : Act} {w : World} {gf : Nat} {lb : Array Value} (hg : a.eval g = .func (.func gf) #[] lb) (eg : Enters P gf)
    (hc : ∀ (l : Nat) (W : World), Below w.heap.size w W → Calls P gf (#[.func (.yield l) #[] #[]] ++ lb) W fun e W' => (∃ v, e = .returned v) ∧ W = W')
    (hd : ∀ (D : Nat) (W : World), W.heap[D]? = some (.deferred (some [])) → Below w.heap.size w W → w.heap.size ≤ D → Q .normal { a with defers := { target := .collected D, args := #[] } :: a.defers } W) :
    (Code.rangeFunc g ps assign body).wp P Q a w := by
  refine (wpIn_wide (n := 0)).1 (wpIn_rangeFunc fun fn _ => ?_)
  obtain ⟨rec, hrec⟩ : ∃ rec : Loop, rec = { state := .ready, pending := none, fn, tmps := a.tmps, params := ps, assign, body, defers := w.heap.size } := ⟨_, rfl⟩
  obtain ⟨W1, hW1⟩ : ∃ W1, (w.alloc (.deferred (some []))).alloc (.loop rec) = W1 := ⟨_, rfl⟩
  have hL1 : W1.heap[w.heap.size + 1]? = some (.loop rec) := by
    rw [← hW1]; have := World.alloc_heap_new (w.alloc (.deferred (some []))) (.loop rec); rwa [World.size_alloc] at this
  have hK1 : W1.heap[w.heap.size]? = some (.deferred (some [])) := by
    rw [← hW1]; exact (Below.heap_alloc _ _ _ (by simp)).trans (World.alloc_heap_new w _)
  have hb1 : Below w.heap.size w W1 := by
    rw [← hW1]; exact ((Below.refl _ w).alloc (Nat.le_refl _) _).alloc (by simp) _
  refine ⟨w.heap.size + 1, [{ target := .collected w.heap.size, args := #[] }], W1, { target := .fn (.func gf) lb, args := #[.func (.yield (w.heap.size + 1)) #[] #[]] }, W1, gf,
    #[.func (.yield (w.heap.size + 1)) #[] #[]] ++ lb, W1, ?_, ?_, fun _ _ => trivial, ?_, (fun h => nomatch h), callsIn_wide.2 ((hc _ W1 hb1).mono ?_)⟩
  · rw [← hW1, hrec]; exact run_enterLoop_outer _ _ _ _ _
  · simp only [resolve, hg]
    simp [go_sem]
  · simp [invoke, go_sem, eg _ _]
  · rintro e W' ⟨⟨v, rfl⟩, rfl⟩
    refine ⟨_, _, run_endLoop hL1 (by rw [hrec]; exact fun h => nomatch h), ?_⟩
    have hp : rec.pending = none := by rw [hrec]
    rw [hp]
    exact hd w.heap.size _ ((World.putObj_heap_other (by omega)).trans hK1) ⟨hb1.os, hb1.tape, hb1.output, by simp only [World.putObj, Array.size_setIfInBounds]; exact hb1.size, fun k hk => (World.putObj_heap_other (by omega)).trans (hb1.block k hk)⟩ (Nat.le_refl _)
theorem backward0 (w : World) : Calls Tryz.prog 67 #[.slice none 0 0] w fun e w' => e = .returned (.func (.func 107) #[] #[.pointer (some ⟨w.heap.size, 0, none⟩)]) ∧ w' = w.alloc (.cells #[.slice none 0 0] 83) := by
  go_enter Tryz.func67, Tryz.ntmps67
  go_wp2
  go_ret
  exact ⟨rfl, rfl⟩
theorem yield0 (y : Value) (b : Nat) (w : World) (h : w.cell? ⟨b, 0, none⟩ = some (.slice none 0 0)) : Calls Tryz.prog 107 #[y, .pointer (some ⟨b, 0, none⟩)] w fun e w' => e = .returned (.tuple #[]) ∧ w' = w := by
  go_enter Tryz.func107, Tryz.ntmps107
  go_wp2_with fail
  refine wp_loop_once ?_
  go_wp2_with fail
  exact ⟨rfl, _, results_none rfl _ _ _, rfl, rfl⟩
theorem clone0 (w : World) : Calls Tryz.prog 59 #[.slice none 0 0] w fun e w' => e = .returned (.slice none 0 0) ∧ w = w' := by
  go_enter Tryz.func59, Tryz.ntmps59
  have hev : ∀ w : World, (binOp .eql 22 (.slice none 0 0) (.slice none 0 0)).run Tryz.prog w = .ok (.bool true) w := fun w => by kernel_rfl
  go_wp2
  go_ret
  exact ⟨rfl, rfl⟩
theorem walk0 (w : World) (bo ba br bR : Nat) (ho : w.cell? ⟨bo, 0, none⟩ = some (.bool false)) (fo : w.frozen? ⟨bo, 0, none⟩ = false) (ha : w.cell? ⟨ba, 0, none⟩ = some (.slice none 0 0)) (hr : w.cell? ⟨br, 0, none⟩ = some (.pointer (some ⟨bR, 0, none⟩)))
    (hm : w.cell? ⟨bR, 11, none⟩ = some (.slice none 0 0)) (n1 : br ≠ bo) (n2 : bR ≠ bo) (n3 : ba ≠ bo) :
    Calls Tryz.prog 66 #[.pointer (some ⟨bo, 0, none⟩), .pointer (some ⟨ba, 0, none⟩), .pointer (some ⟨br, 0, none⟩)] w fun e w' => e = .returned (.tuple #[.slice none 0 0, .bool true]) ∧ Below w.heap.size (w.setCell ⟨bo, 0, none⟩ (.bool true)) w' := by
  have hr1 : (w.setCell ⟨bo, 0, none⟩ (.bool true)).cell? ⟨br, 0, none⟩ = some (.pointer (some ⟨bR, 0, none⟩)) := by rw [World.cell?_setCell_other _ _ _ _ (by simp [n1])]; first | exact hr | done
  have hm1 : (w.setCell ⟨bo, 0, none⟩ (.bool true)).cell? ⟨bR, 11, none⟩ = some (.slice none 0 0) := by rw [World.cell?_setCell_other _ _ _ _ (by simp [n2])]; first | exact hm | done
  refine (callsIn_wide (n := 3)).1 ?_
  refine callsIn_of_wp_marks Tryz.func66 rfl trivial ?_
  rw [wpIn_wide]
  simp only [Tryz.ntmps66, List.size_toArray, List.length_cons, List.length_nil, Nat.reduceAdd, Nat.reduceSub, Array.replicate_succ, Array.replicate_zero, List.push_toArray, List.append_toArray, List.nil_append, List.cons_append]
  go_wp2_with fail
  refine wp_scope_straight ?_
  go_wp2_with (first | (go_at_call 59; refine (clone0 _).mono ?_; rintro e w' ⟨rfl, rfl⟩) | (go_at_call 67; refine (backward0 _).mono ?_; rintro e w' ⟨rfl, rfl⟩))
  go_step3
  go_wp2_with (go_at_call 67; refine (backward0 _).mono ?_; rintro e w' ⟨rfl, rfl⟩)
  refine wp_range0 rfl (enters_of Tryz.func107 (by kernel_rfl) rfl) (fun l W hb => Calls.mono (yield0 _ w.heap.size W ?_) ?_) fun D W hD hb hl => ?_
  · have hx : ((w.setCell ⟨bo, 0, none⟩ (.bool true)).alloc (.cells #[.slice none 0 0] 83)).heap[w.heap.size]? = some (.cells #[.slice none 0 0] 83) := by
      have h := World.alloc_heap_new (w.setCell ⟨bo, 0, none⟩ (.bool true)) (.cells #[.slice none 0 0] 83)
      rwa [World.size_setCell] at h
    have hy := (hb.block w.heap.size (by simp)).trans hx
    simp [World.cell?, hy]
  · rintro e W' ⟨rfl, rfl⟩
    exact ⟨⟨_, rfl⟩, rfl⟩
  go_wp2_with fail
  rw [Exit.noGoto_ret]
  refine ⟨by simp, .inl ⟨_, _, rfl, run_takeDeferred hD, ?_⟩⟩
  have h1 : Below w.heap.size (w.setCell ⟨bo, 0, none⟩ (.bool true)) W := ((Below.refl _ _).alloc (by simp) _).trans (hb.mono (by simp))
  refine ⟨_, results_tmp2 rfl _ _ _, rfl, h1.os, h1.tape, h1.output, by simp only [World.putObj, Array.size_setIfInBounds]; exact h1.size, fun k hk => (World.putObj_heap_other (by simp at hl; omega)).trans (h1.block k hk)⟩
open Go.Ev
noncomputable section
def ptrId (v : Value) : Option Nat := match v with
  | .pointer (some ⟨b, 0, none⟩) => some b
  | _ => none
def rowIs (H : T AO) (i : Nat) (c : List Value) : Bool := Option.rec false (fun o => AO.rec (fun c' _ _ => leq veq6 c' c) (fun _ _ => false) false o) (H.get i)
def ownOf (H : T AO) (i : Nat) : Option TypeId := match H.get i with
  | some (.row _ e .own) => some e
  | _ => none
def cell0 (H : T AO) (i k : Nat) : Option Value := Option.rec none (fun o => AO.rec (fun c _ _ => lget c k) (fun _ _ => none) none o) (H.get i)
def walkV (a b c : Value) (A : AW) : Option (Value × AW) := ob (ptrId a) fun io => ob (ptrId b) fun ia => ob (ptrId c) fun ir => ob (ownOf A.heap io) fun e => bt (rowIs A.heap io [.bool false]) (bt (rowIs A.heap ia [.slice none 0 0])
  (ob (cell0 A.heap ir 0) fun vR => ob (ptrId vR) fun iR => ob (cell0 A.heap iR 11) fun m => bt (veq6 m (.slice none 0 0)) (bt (bnot (Nat.beq ir io)) (bt (bnot (Nat.beq iR io)) (bt (bnot (Nat.beq ia io))
    (some (.tuple ⟨[.slice none 0 0, .bool true]⟩, A.put io (.row [.bool true] e .own))))))))
def walkA (c : Caller) (args : List Value) (A : AW) : Option (Value × AW) := match args with
  | [x, y, z] => Option.rec (c 66 args A) some (walkV x y z A)
  | _ => c 66 args A
def walkH (c : Caller) : Caller := fun f args A => Bool.rec (c f args A) (walkA c args A) (Nat.beq f 66)
end
set_option linter.unusedSectionVars false
variable [Frozen Tryz.prog]
theorem ptrId_some {v : Value} {b : Nat} (h : ptrId v = some b) : v = .pointer (some ⟨b, 0, none⟩) := by
  unfold ptrId at h
  split at h
  · cases h; rfl
  · cases h
theorem rowIs_some {H : T AO} {i : Nat} {c : List Value} (h : rowIs H i c = true) : ∃ e m, H.get i = some (.row c e m) := by
  unfold rowIs at h
  cases hg : H.get i with
  | none => rw [hg] at h; cases h
  | some o =>
    rw [hg] at h
    cases o with
    | row c' e m => exact ⟨e, m, by rw [leq_eq (fun _ _ => veq6_eq) (show leq veq6 c' c = true from h)]⟩
    | map es k => cases h
    | dead => cases h
theorem ownOf_some {H : T AO} {i : Nat} {e : TypeId} (h : ownOf H i = some e) : ∃ c, H.get i = some (.row c e .own) := by
  unfold ownOf at h
  split at h
  · rename_i c e' hg; cases h; exact ⟨c, hg⟩
  · cases h
theorem cell0_some {H : T AO} {i k : Nat} {v : Value} (h : cell0 H i k = some v) : ∃ c e m, H.get i = some (.row c e m) ∧ c[k]? = some v := by
  unfold cell0 at h
  cases hg : H.get i with
  | none => rw [hg] at h; cases h
  | some o =>
    rw [hg] at h
    cases o with
    | row c e m => exact ⟨c, e, m, rfl, by rw [← lget_eq]; exact h⟩
    | map es k => cases h
    | dead => cases h
theorem walkH_ok : HookOK Tryz.prog walkH := fun c hc f args A v A' h σ w args' hR ha => by
  unfold walkH at h
  cases hb : Nat.beq f 66 with
  | false => rw [hb] at h; exact hc f args A v A' h σ w args' hR ha
  | true =>
    rw [hb] at h
    obtain rfl := beqIff.1 hb
    have hw2 : walkA c args A = some (v, A') := h
    clear h
    unfold walkA at hw2
    split at hw2
    · rename_i x y z
      cases hv : walkV x y z A with
      | none => rw [hv] at hw2; exact hc _ _ _ _ _ hw2 σ w args' hR ha
      | some p =>
        rw [hv] at hw2
        have hw2 : some p = some (v, A') := hw2
        cases hw2
        simp only [walkV, ob_some, bt_some, Option.some.injEq, Prod.mk.injEq] at hv
        obtain ⟨io, h1, ia, h2, ir, h3, e, h4, h5, h6, vR, h7, iR, h8, m, h9, h10, n1, n2, n3, rfl, rfl⟩ := hv
        obtain rfl := ptrId_some h1
        obtain rfl := ptrId_some h2
        obtain rfl := ptrId_some h3
        obtain rfl := ptrId_some h8
        obtain rfl := veq6_eq h10
        obtain ⟨co, hgo⟩ := ownOf_some h4
        obtain ⟨e2, m2, hgo2⟩ := rowIs_some h5
        rw [hgo] at hgo2; cases hgo2
        obtain ⟨ea, ma, hga⟩ := rowIs_some h6
        obtain ⟨cr, er, mr, hgr, hr0⟩ := cell0_some h7
        obtain ⟨cR, eR, mR, hgR, hR11⟩ := cell0_some h9
        cases ha with
        | cons a1 t1 =>
        cases t1 with
        | cons a2 t2 =>
        cases t2 with
        | cons a3 t3 =>
        cases t3
        obtain ⟨bo, d1, so, rfl⟩ := a1.ptr_inv
        obtain ⟨ba, d2, sa, rfl⟩ := a2.ptr_inv
        obtain ⟨br, d3, sr, rfl⟩ := a3.ptr_inv
        obtain ⟨cc, fz, hwo, hro⟩ := hR.row so hgo rfl
        obtain ⟨ca', ea', fa, hwa, hra, _⟩ := hR.rowA sa hga
        obtain ⟨cr', er', fr, hwr, hrr, _⟩ := hR.rowA sr hgr
        obtain ⟨v0, hv0, vr0⟩ := hrr.get hr0
        obtain ⟨bR, dR, sR, rfl⟩ := vr0.ptr_inv
        obtain ⟨cR', eR', fR, hwR, hrR, _⟩ := hR.rowA sR hgR
        obtain ⟨v1, hv1, vr1⟩ := hrR.get hR11
        obtain rfl := vr1.of_flat rfl
        obtain ⟨u0, hu0, vu0⟩ := hro.get (k := 0) rfl
        obtain rfl := vu0.of_flat rfl
        obtain ⟨u1, hu1, vu1⟩ := hra.get (k := 0) rfl
        obtain rfl := vu1.of_flat rfl
        have hcell : ∀ {b k : Nat} {c : Array Value} {e : TypeId} {fz : Nat × Nat} {v : Value}, w.heap[b]? = some (.cells c e fz) → c[k]? = some v → w.cell? ⟨b, k, none⟩ = some v := fun h1 h2 => by simp [World.cell?, h1, h2]
        have inj : ∀ {i b d : Nat} {o : AO}, σ i = some (b, d) → A.heap.get i = some o → live o = true → b = bo → i = io := fun {i b d o} h1 h2 h3 h4 => by
          subst h4
          exact hR.inj i io b d d1 o _ h1 so h2 hgo h3 rfl (by rw [show mayW (AO.row [.bool false] e .own) = true from rfl, Bool.or_true])
        have ne : ∀ {i : Nat}, bnot (Nat.beq i io) = true → i ≠ io := fun h he => by subst he; rw [show Nat.beq _ _ = true from beqIff.2 rfl] at h; cases h
        have q1 : br ≠ bo := fun h => ne n1 (inj sr hgr rfl h)
        have q2 : bR ≠ bo := fun h => ne n2 (inj sR hgR rfl h)
        have q3 : ba ≠ bo := fun h => ne n3 (inj sa hga rfl h)
        have hcc : cc = #[.bool false] := by
          obtain ⟨cs, x, e1, e2, e3⟩ := hro.cells
          have hx := e3 rfl
          subst hx
          cases e2 with
          | cons p1 p2 =>
            cases p2
            rw [p1.of_flat rfl] at e1
            exact Array.toList_inj.1 (by rw [e1]; rfl)
        subst hcc
        have fo : w.frozen? ⟨bo, 0, none⟩ = false := by
          have := hro.free rfl 0 (by decide)
          simp only [World.frozen?, hwo]
          simp only [decide_eq_false_iff_not, Bool.and_eq_false_iff, decide_eq_true_eq] at this ⊢
          omega
        refine serves_upd envOK (fn := Tryz.f66) (by kernel_rfl) rfl (w1 := w.setCell ⟨bo, 0, none⟩ (.bool true)) (hR.upd (o2 := .row [.bool true] e .own) so hgo rfl (Go.Joins.block_setCell hwo _) ⟨.inr rfl, ⟨⟨[.bool true], [], rfl, .cons (.flat rfl) .nil, fun _ => rfl⟩, hro.exact_, fun _ h => (nomatch h), fun h => hro.free h⟩⟩ (fun k hk => heap_setCell_other w _ k _ hk) (World.size_setCell _ _ _) rfl rfl rfl)
          (.tuple (.cons (.flat rfl) (.cons (.flat rfl) .nil))) (Calls.mono (walk0 w bo ba br bR (hcell hwo hu0) fo (hcell hwa hu1) (hcell hwr hv0) (hcell hwR hv1) q1 q2 q3) ?_)
        rintro e' w' ⟨he, hb⟩
        exact ⟨he, by rw [World.size_setCell]; exact hb⟩
    · exact hc _ _ _ _ _ hw2 σ w args' hR ha
end Go.Proofs.YthokbbichifohaaGreatDoor
