/- Contracts: signing into the book. -/
import Derived.Test.YtpnegfocmaecbaaNote
import Derived.Deep.RegionLaw
namespace Go.Proofs.Ytpnegfocmaecbaa
open Go.RowKit

theorem belowDrewN {B : Nat} {w w' : World} (h : Below B w w') (n : Nat) : Below B w (w'.drewN n) := ⟨h.os, h.tape, h.output, h.size, h.block⟩
theorem allocOld (w : World) (o : Obj) (k : Nat) (h : k < w.heap.size) : (w.alloc o).heap[k]? = w.heap[k]? := Below.heap_alloc w o k h

set_option maxRecDepth 100000 in
theorem sign_old (gb mb n c : Nat) (A : Option Addr) (a0 a1 a2 a3 a4 a5 a6 a7 b0 b1 b2 b3 b4 b5 b6 b7 i : Int) (w : World) (hi0 : 0 ≤ i) (hi1 : i < 65536)
    (c0 : w.cell? ⟨gb, 0, none⟩ = some (.slice A n c)) (c1 : w.cell? ⟨gb, 1, none⟩ = some (.map (some mb))) (hgb : gb < w.heap.size)
    (hrun : ∀ m, (Instr.lookup 73 (.map (some mb)) (.agg #[.int .u8 a0, .int .u8 a1, .int .u8 a2, .int .u8 a3, .int .u8 a4, .int .u8 a5, .int .u8 a6, .int .u8 a7, .int .u8 b0, .int .u8 b1, .int .u8 b2, .int .u8 b3, .int .u8 b4, .int .u8 b5, .int .u8 b6, .int .u8 b7]) true).run Try.prog ((w.alloc (.cells #[.int .u8 a0, .int .u8 a1, .int .u8 a2, .int .u8 a3, .int .u8 a4, .int .u8 a5, .int .u8 a6, .int .u8 a7, .int .u8 b0, .int .u8 b1, .int .u8 b2, .int .u8 b3, .int .u8 b4, .int .u8 b5, .int .u8 b6, .int .u8 b7] 116)).drewN m) = .ok (.tuple #[.int .i64 i, .bool true]) ((w.alloc (.cells #[.int .u8 a0, .int .u8 a1, .int .u8 a2, .int .u8 a3, .int .u8 a4, .int .u8 a5, .int .u8 a6, .int .u8 a7, .int .u8 b0, .int .u8 b1, .int .u8 b2, .int .u8 b3, .int .u8 b4, .int .u8 b5, .int .u8 b6, .int .u8 b7] 116)).drewN m)) :
    Calls Try.prog 72 #[.pointer (some ⟨gb, 0, none⟩), .agg #[.int .u8 a0, .int .u8 a1, .int .u8 a2, .int .u8 a3, .int .u8 a4, .int .u8 a5, .int .u8 a6, .int .u8 a7, .int .u8 b0, .int .u8 b1, .int .u8 b2, .int .u8 b3, .int .u8 b4, .int .u8 b5, .int .u8 b6, .int .u8 b7]] w fun e w' => ∃ g, e = .returned (.tuple #[.slice (some ⟨g, 0, none⟩) 2 2, .int .i64 0]) ∧ w'.heap[g]? = some (.cells #[.int .u8 (i % 256), .int .u8 (i / 256)] 5 (0, 0)) ∧ w.heap.size ≤ g ∧ Below w.heap.size w w' := by
  go_enter Try.func72, Try.ntmps72
  go_wp2_with fail
  go_quiet (fail)
  go_wp2_with fail
  go_ret2
  exact ⟨w.heap.size + 1, rfl, by simpa using heap_alloc_new ((w.alloc (.cells #[.int .u8 a0, .int .u8 a1, .int .u8 a2, .int .u8 a3, .int .u8 a4, .int .u8 a5, .int .u8 a6, .int .u8 a7, .int .u8 b0, .int .u8 b1, .int .u8 b2, .int .u8 b3, .int .u8 b4, .int .u8 b5, .int .u8 b6, .int .u8 b7] 116)).drewN nq) _, by omega, (belowDrewN ((Below.refl _ _).alloc (Nat.le_refl _) _) nq).alloc (by simp) _⟩

theorem entInfo : (Try.prog.info? 116).map (fun i => (i.zero, i.size, i.bytes)) = some (some (.agg #[.int .u8 0, .int .u8 0, .int .u8 0, .int .u8 0, .int .u8 0, .int .u8 0, .int .u8 0, .int .u8 0, .int .u8 0, .int .u8 0, .int .u8 0, .int .u8 0, .int .u8 0, .int .u8 0, .int .u8 0, .int .u8 0]), 16, 16) := by kernel_rfl
theorem step_append_own {P : Program} {ops : Array Oper} {o : Oper} {a : Act} {w : World} {K : Act → World → Prop} {Q : Exit → Act → World → Prop} {X : Prop}
    (hg : o.guard = none) (s x : Operand) (t : TypeId) (hop : o.op = Op.call { callee := Callee.builtin Builtin.append, args := #[s, x], argTypes := #[t, t] })
    (base : Nat) (e : TypeId) (i : TypeInfo) (z : Value) (size bytes : Nat) (ht : P.underlying t = some (.slice e)) (hi : P.info? e = some i) (hz : i.zero = some z)
    (hsize : i.size = size) (hby : i.bytes = bytes) (hzs : z.cells.size = size) (hsz : 0 < size)
    (v : Value) (n : Nat) (xs : List Value) (hs : a.eval s = v) (hown : w.ownsRow base e size v n xs)
    (ad : Addr) (m c : Nat) (news : List Value) (hx : a.eval x = .slice (some ad) m c) (hl : news.length = m * size) (hnews : ∀ j u, news[j]? = some u → w.cell? (ad.add j) = some u) (h1 : ∀ u ∈ news, u.oneCell' = true)
    (h63 : n + m ≤ maxLen) (hbytes : (n + m) * bytes ≤ 140737488355328) (hbase : base ≤ w.heap.size)
    (hK : ∀ v' w', w'.ownsRow base e size v' (n + m) (xs ++ news) → w.grownBy w' v.ownBlock → K (a.put o.dst v') w') :
    if Region.wanted o (yielded ops a.tmps) = true then Oper.wp P o a w K Q else X := by
  have hw : Region.wanted o (yielded ops a.tmps) = true := by simp [Region.wanted, hg]
  rw [if_pos hw]
  obtain ⟨v', w', hrun, h2, h3, _⟩ := run_append_own_at (P := P) w base t o.type e i z size bytes ht hi hz hsize hby hzs hsz v n xs hown ad m c news hl hnews h1 h63 hbytes hbase
  unfold Oper.wp
  simp [execOp, hop, resolve, invoke, builtin, hs, hx, hrun, Result.andThen]
  exact hK _ _ h2 h3
theorem newCells {W : World} {g : Nat} {cs : Array Value} {t : TypeId} (hg : W.heap.size = g) : ∀ j u, cs.toList[j]? = some u → (W.alloc (.cells cs t)).cell? ((⟨g, 0, none⟩ : Addr).add j) = some u := by
  intro j u hu
  subst hg
  have h := heap_alloc_new W (.cells cs t)
  have e : ((⟨W.heap.size, 0, none⟩ : Addr).add j) = ⟨W.heap.size, j, none⟩ := by
    by_cases hj : j = 0
    · subst hj; simp [Addr.add]
    · simp [Addr.add, hj]
  rw [e, blk_cell h]
  simpa using hu
theorem own_sliceN {w : World} {base e sz n : Nat} {v : Value} {xs : List Value} (h : w.ownsRow base e sz v n xs) : ∃ A c, v = .slice A n c := by
  rcases h.2 with ⟨rfl, rfl⟩ | ⟨g, cap, cur, rfl, _⟩
  · exact ⟨_, _, rfl⟩
  · exact ⟨_, _, rfl⟩
theorem own_apart {w : World} {base e sz n g t : Nat} {v : Value} {xs : List Value} {cs : Array Value} {fz : Nat × Nat} (h : w.ownsRow base e sz v n xs) (hg : w.heap[g]? = some (.cells cs t fz)) (hne : t ≠ e) : some g ≠ v.ownBlock := by
  rcases h.2 with ⟨rfl, _⟩ | ⟨g', cap, cur, rfl, _, hh, _⟩
  · simp [Value.ownBlock]
  · intro he
    have : g = g' := by simpa [Value.ownBlock] using he
    subst this
    rw [hh] at hg
    injection hg with hg
    injection hg with _ ht
    exact hne ht.symm
/-- Nothing has turned but the blocks in S, and new ones. -/
structure Turn (w w' : World) (S : Nat → Prop) : Prop where
  os : w'.os = w.os
  tape : w'.tape = w.tape
  output : w'.output = w.output
  size : w.heap.size ≤ w'.heap.size
  block : ∀ k, k < w.heap.size → ¬ S k → w'.heap[k]? = w.heap[k]?
section
variable {w w' w'' : World} {S : Nat → Prop}
theorem Turn.refl : Turn w w S := ⟨rfl, rfl, rfl, Nat.le_refl _, fun _ _ _ => rfl⟩
theorem Turn.alloc (h : Turn w w' S) (o : Obj) : Turn w (w'.alloc o) S := ⟨h.os, h.tape, h.output, by simp; exact Nat.le_succ_of_le h.size, fun k hk hs => (allocOld w' o k (Nat.lt_of_lt_of_le hk h.size)).trans (h.block k hk hs)⟩
theorem Turn.drew (h : Turn w w' S) : Turn w w'.drew S := ⟨h.os, h.tape, h.output, h.size, h.block⟩
theorem Turn.drewN (h : Turn w w' S) (n : Nat) : Turn w (w'.drewN n) S := ⟨h.os, h.tape, h.output, h.size, h.block⟩
theorem Turn.setCell (h : Turn w w' S) {a : Addr} (ha : S a.block) (u : Value) : Turn w (w'.setCell a u) S := ⟨h.os, h.tape, h.output, by simpa [World.setCell] using h.size, fun k hk hs => (Below.heap_setCell w' a u k (fun e => hs (e ▸ ha))).trans (h.block k hk hs)⟩
theorem Turn.grown {row : Option Nat} (h : Turn w w' S) (hg : w'.grownBy w'' row) (hr : ∀ k, some k = row → k < w.heap.size → S k) : Turn w w'' S := ⟨hg.os.trans h.os, hg.tape.trans h.tape, hg.output.trans h.output, Nat.le_trans h.size hg.size, fun k hk hs => (hg.block k (Nat.lt_of_lt_of_le hk h.size) (fun e => hs (hr k e hk))).trans (h.block k hk hs)⟩
theorem Turn.below {B : Nat} (h : Turn w w' S) (hS : ∀ k, S k → B ≤ k) (hB : B ≤ w.heap.size) : Below B w w' := ⟨h.os, h.tape, h.output, h.size, fun k hk => h.block k (by omega) (fun hs => by have := hS k hs; omega)⟩
end
theorem map_ne {w : World} {mb gb n t : Nat} {k : TypeId} {P : Program} {R : Value → Option (DataW Unit × List MemPlace)} {D : DataW Unit} {cs : Array Value} {fz : Nat × Nat} (h : w.ownsMap P k R mb n D) (hg : w.heap[gb]? = some (.cells cs t fz)) : mb ≠ gb := by
  rintro rfl
  obtain ⟨es, cl, hb, _⟩ := h
  rw [hb] at hg
  injection hg with hg
  cases hg
theorem map_own {w : World} {mb n m base e sz : Nat} {k : TypeId} {P : Program} {R : Value → Option (DataW Unit × List MemPlace)} {D : DataW Unit} {v : Value} {xs : List Value} (h : w.ownsMap P k R mb n D) (hr : w.ownsRow base e sz v m xs) : some mb ≠ v.ownBlock := by
  rcases hr.2 with ⟨rfl, _⟩ | ⟨g', cap, cur, rfl, _, hh, _⟩
  · simp [Value.ownBlock]
  · intro he
    have : mb = g' := by simpa [Value.ownBlock] using he
    subst this
    exact map_ne h hh rfl
theorem own_setOther {w : World} {base e sz n g t : Nat} {v : Value} {xs : List Value} {cs : Array Value} {fz : Nat × Nat} (h : w.ownsRow base e sz v n xs) (hg : w.heap[g]? = some (.cells cs t fz)) (hne : t ≠ e) (i : Nat) (u : Value) : (w.setCell ⟨g, i, none⟩ u).ownsRow base e sz v n xs := by
  refine ⟨h.1, ?_⟩
  rcases h.2 with h2 | ⟨g', cap, cur, hv, hb, hh, r⟩
  · exact .inl h2
  · refine .inr ⟨g', cap, cur, hv, hb, ?_, r⟩
    have hgg : g' ≠ g := fun e' => by
      subst e'
      rw [hh] at hg
      injection hg with hg
      injection hg with _ ht
      exact hne ht.symm
    exact (Below.heap_setCell _ _ _ _ hgg).trans hh
theorem cells16 {w : World} {g : Nat} {t : TypeId} {a0 a1 a2 a3 a4 a5 a6 a7 b0 b1 b2 b3 b4 b5 b6 b7 : Int} (h : w.heap[g]? = some (.cells #[.int .u8 a0, .int .u8 a1, .int .u8 a2, .int .u8 a3, .int .u8 a4, .int .u8 a5, .int .u8 a6, .int .u8 a7, .int .u8 b0, .int .u8 b1, .int .u8 b2, .int .u8 b3, .int .u8 b4, .int .u8 b5, .int .u8 b6, .int .u8 b7] t (0, 0))) :
    w.cell? ⟨g, 0, none⟩ = some (.int .u8 a0) ∧ w.cell? ⟨g, 1, none⟩ = some (.int .u8 a1) ∧ w.cell? ⟨g, 2, none⟩ = some (.int .u8 a2) ∧ w.cell? ⟨g, 3, none⟩ = some (.int .u8 a3) ∧ w.cell? ⟨g, 4, none⟩ = some (.int .u8 a4) ∧ w.cell? ⟨g, 5, none⟩ = some (.int .u8 a5) ∧ w.cell? ⟨g, 6, none⟩ = some (.int .u8 a6) ∧ w.cell? ⟨g, 7, none⟩ = some (.int .u8 a7) ∧ w.cell? ⟨g, 8, none⟩ = some (.int .u8 b0) ∧ w.cell? ⟨g, 9, none⟩ = some (.int .u8 b1) ∧ w.cell? ⟨g, 10, none⟩ = some (.int .u8 b2) ∧ w.cell? ⟨g, 11, none⟩ = some (.int .u8 b3) ∧ w.cell? ⟨g, 12, none⟩ = some (.int .u8 b4) ∧ w.cell? ⟨g, 13, none⟩ = some (.int .u8 b5) ∧ w.cell? ⟨g, 14, none⟩ = some (.int .u8 b6) ∧ w.cell? ⟨g, 15, none⟩ = some (.int .u8 b7) :=
  ⟨blk_cell h 0, blk_cell h 1, blk_cell h 2, blk_cell h 3, blk_cell h 4, blk_cell h 5, blk_cell h 6, blk_cell h 7, blk_cell h 8, blk_cell h 9, blk_cell h 10, blk_cell h 11, blk_cell h 12, blk_cell h 13, blk_cell h 14, blk_cell h 15⟩
theorem EE (a0 a1 a2 a3 a4 a5 a6 a7 b0 b1 b2 b3 b4 b5 b6 b7 : Int) : ecells ([a0, a1, a2, a3, a4, a5, a6, a7], [b0, b1, b2, b3, b4, b5, b6, b7]) = #[.int .u8 a0, .int .u8 a1, .int .u8 a2, .int .u8 a3, .int .u8 a4, .int .u8 a5, .int .u8 a6, .int .u8 a7, .int .u8 b0, .int .u8 b1, .int .u8 b2, .int .u8 b3, .int .u8 b4, .int .u8 b5, .int .u8 b6, .int .u8 b7] := rfl

end Go.Proofs.Ytpnegfocmaecbaa
