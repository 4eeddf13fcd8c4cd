/- Contracts: signing into the book, any entry. -/
import Derived.Test.YtpnegfocmaecbaaNote3
namespace Go.Proofs.Ytpnegfocmaecbaa
open Go.RowKit

def putE (L : List Ent) (e : Ent) : List Ent := if e ∈ L then L else L ++ [e]
def bookish : Obj → Bool
  | .map .. => true
  | .cells _ t _ => t == 76 || t == 116
  | _ => false
/-- Nothing has turned but books. -/
structure Kp (w w' : World) : Prop where
  os : w'.os = w.os
  tape : w'.tape = w.tape
  output : w'.output = w.output
  size : w.heap.size ≤ w'.heap.size
  block : ∀ (k : Nat) (o : Obj), w.heap[k]? = some o → bookish o = false → w'.heap[k]? = some o
section
variable {w w' w'' : World}
theorem Kp.refl : Kp w w := ⟨rfl, rfl, rfl, Nat.le_refl _, fun _ _ h _ => h⟩
theorem Kp.trans (h : Kp w w') (k : Kp w' w'') : Kp w w'' := ⟨k.os.trans h.os, k.tape.trans h.tape, k.output.trans h.output, Nat.le_trans h.size k.size, fun i o hi hb => k.block i o (h.block i o hi hb) hb⟩
theorem Kp.of_below (h : Below w.heap.size w w') : Kp w w' := ⟨h.os, h.tape, h.output, h.size, fun i o hi _ => (h.block i (Array.getElem?_eq_some_iff.1 hi).1).trans hi⟩
theorem Kp.of_turn {S : Nat → Prop} (h : Turn w w' S) (hS : ∀ k o, S k → w.heap[k]? = some o → bookish o = true) : Kp w w' :=
  ⟨h.os, h.tape, h.output, h.size, fun k o hk hb => (h.block k (Array.getElem?_eq_some_iff.1 hk).1 (fun hs => by rw [hS k o hs hk] at hb; cases hb)).trans hk⟩
theorem Kp.cell (h : Kp w w') {g i : Nat} {cs : Array Value} {t : TypeId} {fz : Nat × Nat} (hg : w.heap[g]? = some (.cells cs t fz)) (ht : (t == 76 || t == 116) = false) : w'.heap[g]? = some (.cells cs t fz) := h.block g _ hg ht
end
theorem own_bookish {w : World} {base e sz n k : Nat} {v : Value} {xs : List Value} {o : Obj} (h : w.ownsRow base e sz v n xs) (hk : some k = v.ownBlock) (ho : w.heap[k]? = some o) : ∃ cs fz, o = .cells cs e fz := by
  rcases h.2 with ⟨rfl, _⟩ | ⟨g', cap, cur, rfl, _, hh, _⟩
  · simp [Value.ownBlock] at hk
  · have : k = g' := by simpa [Value.ownBlock] using hk
    subst this
    rw [hh] at ho
    injection ho with ho
    exact ⟨_, _, ho.symm⟩
theorem Book.blockOf {w : World} {gb B : Nat} {L : List Ent} {A : Option Addr} {c mb : Nat} {D : DataW Unit} (h : Book w gb B L A c mb D) (k : Nat) (o : Obj) (hs : k = gb ∨ k = mb ∨ some k = (Value.slice A L.length c).ownBlock) (hk : w.heap[k]? = some o) : bookish o = true := by
  rcases hs with rfl | rfl | hs
  · rw [h.blk] at hk
    injection hk with hk
    subst hk
    simp [bookish]
  · obtain ⟨es, cl, hb, _⟩ := h.map
    rw [hb] at hk
    injection hk with hk
    subst hk
    rfl
  · obtain ⟨cs, fz, rfl⟩ := own_bookish h.row hs hk
    simp [bookish]
theorem own_from {w : World} {base e sz n g : Nat} {v : Value} {xs : List Value} (h : w.ownsRow base e sz v n xs) (hg : some g = v.ownBlock) : base ≤ g := (h.lt g hg.symm).1
theorem Book.from_ {w : World} {gb B : Nat} {L : List Ent} {A : Option Addr} {c mb : Nat} {D : DataW Unit} (h : Book w gb B L A c mb D) (k : Nat) (hs : k = gb ∨ k = mb ∨ some k = (Value.slice A L.length c).ownBlock) : B ≤ k := by
  rcases hs with rfl | rfl | hs
  · exact h.gbB
  · exact h.mbB
  · exact own_from h.row hs
/-- The book stays while nothing of it turns. -/
theorem Book.below {w w' : World} {gb B : Nat} {L : List Ent} {A : Option Addr} {c mb : Nat} {D : DataW Unit} (h : Book w gb B L A c mb D) (hb : Below w.heap.size w w') : Book w' gb B L A c mb D := by
  have hg : w.grownBy w' none := ⟨hb.os, hb.tape, hb.output, hb.size, fun i hi _ => hb.block i hi⟩
  refine ⟨(hb.block _ (blk_lt h.blk)).trans h.blk, h.row.kept hg ?_, h.map.kept hg (by simp), h.gbB, h.mbB, h.few, h.idx⟩
  rcases hv : (Value.slice A L.length c).ownBlock with _ | g
  · exact .inl rfl
  · exact .inr (by simp)
theorem ev_inj {a b : Ent} (ha : DigE a) (hb : DigE b) (h : ev a = ev b) : a = b := by
  obtain ⟨a1, a2⟩ := a
  obtain ⟨b1, b2⟩ := b
  injection h with h
  have h := congrArg Array.toList h
  have hc : ∀ x y : List Int, (ecells (x, y)).toList = x.map (Value.int .u8) ++ y.map (Value.int .u8) := fun x y => by simp [ecells, dcells]
  rw [hc, hc] at h
  have hl : (a1.map (Value.int .u8)).length = (b1.map (Value.int .u8)).length := by simp [ha.1.1, hb.1.1]
  obtain ⟨h1, h2⟩ := List.append_inj h hl
  have inj : ∀ x y : List Int, x.map (Value.int .u8) = y.map (Value.int .u8) → x = y := fun x y hxy => by
    refine (List.map_inj_right ?_).1 hxy
    intro p q hpq
    injection hpq
  rw [inj _ _ h1, inj _ _ h2]
theorem idxOf_snoc (L : List Ent) (e : Ent) (h : e ∉ L) : (L ++ [e]).idxOf e = L.length := by
  rw [List.idxOf_append, if_neg h]; simp
theorem idxOf_old (L : List Ent) (e x : Ent) (h : e ∈ L) : (L ++ [x]).idxOf e = L.idxOf e := by
  rw [List.idxOf_append, if_pos h]
theorem putE_mem (L : List Ent) (e : Ent) : e ∈ putE L e := by unfold putE; split <;> simp_all
theorem Book.put {w w' : World} {gb B : Nat} {L : List Ent} {A A' : Option Addr} {c c' mb : Nat} {D : DataW Unit} {e : Ent} {l : Lit} (h : Book w gb B L A c mb D) (hfew : L.length < 65536) (he : DigE e) (hn : e ∉ L) (hl : keyOf Try.prog 116 (ev e) = some l)
    (hb : w'.heap[gb]? = some (.cells #[.slice A' (L.length + 1) c', .map (some mb)] 76 (0, 0))) (hm : w'.ownsMap Try.prog 116 (plainElem Try.prog 3) mb (L.length + 1) (D.put l (.lit (.int .i64 (L.length : Int)))))
    (hr : w'.ownsRow B 116 16 (.slice A' (L.length + 1) c') (L.length + 1) ((L.flatMap fun e => (ecells e).toList) ++ (ecells e).toList)) : Book w' gb B (L ++ [e]) A' c' mb (D.put l (.lit (.int .i64 (L.length : Int)))) := by
  have hlen : (L ++ [e]).length = L.length + 1 := by simp
  refine ⟨by rw [hlen]; exact hb, ?_, by rw [hlen]; exact hm, h.gbB, h.mbB, by rw [hlen]; omega, ?_⟩
  · rw [hlen, List.flatMap_append]
    simpa using hr
  · intro x hx lx hlx
    have hD := h.map.isMap
    obtain ⟨i1, i2⟩ := h.idx x hx lx hlx
    by_cases hxe : x = e
    · subst hxe
      have : lx = l := Option.some.inj (hlx.symm.trans hl)
      subst this
      refine ⟨(Maps.has_put_same hD (entK.key hl) _).trans (decide_eq_true (List.mem_append_right _ (List.mem_singleton.2 rfl))).symm, fun _ => ?_⟩
      rw [Maps.atKey_put_same hD (entK.key hl), idxOf_snoc L x hn]
    · have hne : lx ≠ l := fun e' => by
        subst e'
        exact hxe (ev_inj hx he (entK.inj hlx hl))
      refine ⟨by rw [Maps.has_put_other hne, i1]; simp [hxe], fun hm => ?_⟩
      have hm' : x ∈ L := by simpa [hxe] using hm
      rw [Maps.atKey_put_other hne, i2 hm', idxOf_old L x e hm']

theorem Book.look2 {w : World} {gb B : Nat} {L : List Ent} {A : Option Addr} {c mb : Nat} {D : DataW Unit} (h : Book w gb B L A c mb D) (e : Ent) (he : DigE e) (l : Lit) (hl : keyOf Try.prog 116 (ev e) = some l) :
    ∃ i : Int, (Instr.lookup 73 (.map (some mb)) (ev e) true).run Try.prog w = .ok (.tuple #[.int .i64 i, .bool (decide (e ∈ L))]) w ∧ D.atKey l (.lit (.int .i64 0)) = .lit (.int .i64 i) := by
  obtain ⟨h1, h2⟩ := h.idx e he l hl
  obtain ⟨v, ps, hrun, hv⟩ := h.map.look_ok entK Try.underlying73 (zeroInt w) (plainElem_int Try.underlying3 (a := 0) (by decide)) hl
  obtain ⟨a, rfl, ha, _⟩ := plainElem_int_inv Try.underlying3 hv
  refine ⟨a, by rw [← h1]; exact hrun, ?_⟩
  injection ha with ha _
def litI : DataW Unit → Int
  | .lit (.int _ n) => n
  | _ => 0
/-- What signing leaves. -/
def SRes (w : World) (gb B mb : Nat) (L : List Ent) (e : Ent) (en : Ending) (w' : World) : Prop :=
  ∃ g A' c' D', en = .returned (.tuple #[.slice (some ⟨g, 0, none⟩) 2 2, .int .i64 0]) ∧ w'.heap[g]? = some (.cells #[.int .u8 (((putE L e).idxOf e : Int) % 256), .int .u8 (((putE L e).idxOf e : Int) / 256)] 5 (0, 0)) ∧ w.heap.size ≤ g ∧
    Book w' gb B (putE L e) A' c' mb D' ∧ Kp w w' ∧ Below B w w'
theorem signC (gb B mb c : Nat) (A : Option Addr) (D : DataW Unit) (L : List Ent) (e : Ent) (w : World) (he : DigE e) (hk : Book w gb B L A c mb D) (hB : B ≤ w.heap.size) (hfew : L.length < 65536) :
    Calls Try.prog 72 #[.pointer (some ⟨gb, 0, none⟩), ev e] w (SRes w gb B mb L e) := by
  obtain ⟨l, hl⟩ := ekey_lit he
  have hb0 : Below w.heap.size w (w.alloc (.cells (ecells e) 116)) := (Below.refl _ _).alloc (Nat.le_refl _) _
  have hlook : ∀ m, ∃ i : Int, (Instr.lookup 73 (.map (some mb)) (ev e) true).run Try.prog ((w.alloc (.cells (ecells e) 116)).drewN m) = .ok (.tuple #[.int .i64 i, .bool (decide (e ∈ L))]) ((w.alloc (.cells (ecells e) 116)).drewN m) ∧ (e ∈ L → i = (L.idxOf e : Int)) := fun m => ((hk.below hb0).drewN m).look e he
  by_cases hm : e ∈ L
  · have hidx : (L.idxOf e) < L.length := List.idxOf_lt_length_iff.2 hm
    have hp : putE L e = L := if_pos hm
    have hrun : ∀ m, (Instr.lookup 73 (.map (some mb)) (ev e) true).run Try.prog ((w.alloc (.cells (ecells e) 116)).drewN m) = .ok (.tuple #[.int .i64 (L.idxOf e : Int), .bool true]) ((w.alloc (.cells (ecells e) 116)).drewN m) := fun m => by
      obtain ⟨i, h1, h2⟩ := hlook m
      rw [h1, h2 hm]; simp [hm]
    obtain ⟨k, d⟩ := e
    obtain ⟨a0, a1, a2, a3, a4, a5, a6, a7, rfl, -⟩ := dig_parts he.1
    obtain ⟨b0, b1, b2, b3, b4, b5, b6, b7, rfl, -⟩ := dig_parts he.2
    refine (sign_old gb mb L.length c A a0 a1 a2 a3 a4 a5 a6 a7 b0 b1 b2 b3 b4 b5 b6 b7 _ w (by omega) (by omega) (blk_cell hk.blk 0) (blk_cell hk.blk 1) (blk_lt hk.blk) hrun).mono ?_
    rintro en w' ⟨g, rfl, hg, hs, hb⟩
    refine ⟨g, A, c, D, rfl, ?_, hs, ?_, Kp.of_below hb, hb.mono hB⟩
    · rw [hp]; exact hg
    · rw [hp]; exact hk.below hb
  · have hp : putE L e = L ++ [e] := if_neg hm
    obtain ⟨i, hi⟩ : ∃ i : Int, ∀ m, (Instr.lookup 73 (.map (some mb)) (ev e) true).run Try.prog ((w.alloc (.cells (ecells e) 116)).drewN m) = .ok (.tuple #[.int .i64 i, .bool false]) ((w.alloc (.cells (ecells e) 116)).drewN m) := by
      obtain ⟨i, h1, h2⟩ := (hk.below hb0).look2 e he l hl
      refine ⟨i, fun m => ?_⟩
      obtain ⟨i', h1', h2'⟩ := ((hk.below hb0).drewN m).look2 e he l hl
      have h3 : i' = i := congrArg litI (h2'.symm.trans h2)
      rw [h1', h3, decide_eq_false hm]
    have hfew' := hfew
    obtain ⟨k, d⟩ := e
    obtain ⟨a0, a1, a2, a3, a4, a5, a6, a7, rfl, -⟩ := dig_parts he.1
    obtain ⟨b0, b1, b2, b3, b4, b5, b6, b7, rfl, -⟩ := dig_parts he.2
    refine (sign_new gb mb L.length c B A a0 a1 a2 a3 a4 a5 a6 a7 b0 b1 b2 b3 b4 b5 b6 b7 i w hfew hk.blk hB D l hl hk.map _ hk.row hi).mono ?_
    rintro en w' ⟨g, A', c', rfl, hg, hs, hb, hm', hr', ht⟩
    have hbk := hk.put hfew he hm hl hb hm' hr'
    refine ⟨g, A', c', D.put l (.lit (.int .i64 (L.length : Int))), rfl, ?_, hs, ?_, Kp.of_turn ht hk.blockOf, ht.below hk.from_ hB⟩
    · rw [hp, idxOf_snoc _ _ hm]; exact hg
    · rw [hp]; exact hbk
end Go.Proofs.Ytpnegfocmaecbaa
