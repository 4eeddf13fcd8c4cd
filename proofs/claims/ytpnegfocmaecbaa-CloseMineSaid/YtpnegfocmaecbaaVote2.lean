/- Contract: vote. -/
import Derived.Test.YtpnegfocmaecbaaVote
namespace Go.Proofs.Ytpnegfocmaecbaa
open Go.RowKit
theorem nilAheadS (a : Addr) (x : Int) (w : World) : (nilAhead 219 78 (.agg #[.pointer (some a), .int .u8 x, .int .u8 0, .int .u8 0, .int .u8 0, .int .u8 0, .int .u8 0, .int .u8 0, .int .u8 0]) "Sign").run Try.prog w = .ok (some false) w := by kernel_rfl
theorem methodS (a : Addr) (x : Int) (w : World) : (method 219 78 (.agg #[.pointer (some a), .int .u8 x, .int .u8 0, .int .u8 0, .int .u8 0, .int .u8 0, .int .u8 0, .int .u8 0, .int .u8 0]) "Sign").run Try.prog w = .ok (71, .agg #[.pointer (some a), .int .u8 x, .int .u8 0, .int .u8 0, .int .u8 0, .int .u8 0, .int .u8 0, .int .u8 0, .int .u8 0]) w := by kernel_rfl
/-- Nothing has turned but objects of Q. -/
structure Kx (Q : Obj → Bool) (w w' : World) : Prop where
  os : w'.os = w.os
  tape : w'.tape = w.tape
  output : w'.output = w.output
  size : w.heap.size ≤ w'.heap.size
  block : ∀ (k : Nat) (o : Obj), w.heap[k]? = some o → Q o = false → w'.heap[k]? = some o
def isTy (t : TypeId) : Obj → Bool
  | .cells _ t' _ => t' == t
  | _ => false
section
variable {w w' : World} {Q : Obj → Bool}
theorem Kp.kx (h : Kp w w') : Kx bookish w w' := ⟨h.os, h.tape, h.output, h.size, h.block⟩
theorem Kx.of_below (h : Below w.heap.size w w') : Kx Q w w' := ⟨h.os, h.tape, h.output, h.size, fun i o hi _ => (h.block i (blk_lt hi)).trans hi⟩
theorem Kx.of_grown {row : Option Nat} {t : TypeId} (h : w.grownBy w' row) (hr : ∀ g, some g = row → ∃ cs t' fz, w.heap[g]? = some (.cells cs t' fz) ∧ t' = t) : Kx (isTy t) w w' :=
  ⟨h.os, h.tape, h.output, h.size, fun i o hi hq => (h.block i (blk_lt hi) (fun e => by
    obtain ⟨cs, t', fz, h1, rfl⟩ := hr i e
    rw [hi] at h1
    injection h1 with h1
    subst h1
    simp [isTy] at hq)).trans hi⟩
theorem own_kx {base e sz n : Nat} {v : Value} {xs : List Value} (h : w.ownsRow base e sz v n xs) (hk : Kx Q w w') (he : ∀ cs fz, Q (.cells cs e fz) = false) : w'.ownsRow base e sz v n xs := by
  refine ⟨h.1, ?_⟩
  rcases h.2 with h2 | ⟨g, cap, cur, hv, hb, hh, r⟩
  · exact .inl h2
  · exact .inr ⟨g, cap, cur, hv, hb, hk.block g _ hh (he _ _), r⟩
theorem SigIn.kx {p : Pc} (h : SigIn w p) (hk : Kx Q w w') (he : ∀ cs fz, Q (.cells cs 5 fz) = false) : SigIn w' p := by
  rcases h with rfl | ⟨g, x, y, rfl, hg, hx, hy⟩
  · exact .inl rfl
  · exact .inr ⟨g, x, y, rfl, hk.block g _ hg (he _ _), hx, hy⟩
theorem Book.kx {gb B : Nat} {L : List Ent} {A : Option Addr} {c mb : Nat} {D : DataW Unit} (h : Book w gb B L A c mb D) (hk : Kx Q w w') (h1 : ∀ cs fz, Q (.cells cs 76 fz) = false) (h2 : ∀ cs fz, Q (.cells cs 116 fz) = false) (h3 : ∀ es c, Q (.map es c) = false) : Book w' gb B L A c mb D := by
  refine ⟨hk.block _ _ h.blk (h1 _ _), own_kx h.row hk h2, ?_, h.gbB, h.mbB, h.few, h.idx⟩
  obtain ⟨es, cl, hb, r⟩ := h.map
  exact ⟨es, cl, hk.block _ _ hb (h3 _ _), r⟩
end
theorem isTy_ne {t e : TypeId} (h : (e == t) = false) : ∀ cs fz, isTy t (.cells cs e fz) = false := fun _ _ => h
theorem isTy_map {t : TypeId} : ∀ es c, isTy t (.map es c) = false := fun _ _ => rfl
theorem bookish_ne {e : TypeId} (h : (e == 76 || e == 116) = false) : ∀ cs fz, bookish (.cells cs e fz) = false := fun _ _ => h
theorem signerK (gb k : Nat) (w : World) (hk : k ≤ 100) : Calls Try.prog 16 #[.pointer (some ⟨gb, 0, none⟩), .agg #[.int .u8 ((k : Int) + 1), .int .u8 0, .int .u8 0, .int .u8 0, .int .u8 0, .int .u8 0, .int .u8 0, .int .u8 0]] w fun e w' => e = .returned (.iface 78 (.agg #[.pointer (some ⟨gb, 0, none⟩), .int .u8 ((k : Int) + 1), .int .u8 0, .int .u8 0, .int .u8 0, .int .u8 0, .int .u8 0, .int .u8 0, .int .u8 0])) ∧ Below w.heap.size w w' :=
  signer gb (keyD k) w (keyD_dig hk)
/-- What holds within a round. -/
structure VM (B : Nat) (W0 : World) (gb mb : Nat) (L : List Ent) (KA SA : Option Addr) (kc sc kn k : Nat) (ks : List (List Int)) (sigs : List Pc) (wx : World) : Prop where
  book : ∃ A c D, Book wx gb B L A c mb D
  keys : wx.ownsRow B 30 8 (.slice KA kn kc) kn (ks.flatMap digL)
  sgs : wx.ownsRow B 55 1 (.slice SA k sc) k (sigs.map Pc.val)
  sin : ∀ p ∈ sigs, SigIn wx p
  bel : Below B W0 wx
section
variable {B : Nat} {W0 : World} {gb mb : Nat} {L L' : List Ent} {KA SA : Option Addr} {kc sc kn k : Nat} {ks : List (List Int)} {sigs : List Pc} {wx wy : World}
theorem VM.below (h : VM B W0 gb mb L KA SA kc sc kn k ks sigs wx) (hb : Below wx.heap.size wx wy) (hB : B ≤ wx.heap.size) : VM B W0 gb mb L KA SA kc sc kn k ks sigs wy := by
  obtain ⟨A, c, D, hbk⟩ := h.book
  exact ⟨⟨A, c, D, hbk.below hb⟩, own_belowN h.keys hb, own_belowN h.sgs hb, fun p hp => (h.sin p hp).kp (Kp.of_below hb), h.bel.trans (hb.mono hB)⟩
theorem VM.signed (h : VM B W0 gb mb L KA SA kc sc kn k ks sigs wx) (hk : Kp wx wy) (hb : Below B wx wy) {A : Option Addr} {c : Nat} {D : DataW Unit} (hbk : Book wy gb B L' A c mb D) : VM B W0 gb mb L' KA SA kc sc kn k ks sigs wy :=
  ⟨⟨A, c, D, hbk⟩, own_kp h.keys hk (by decide), own_kp h.sgs hk (by decide), fun p hp => (h.sin p hp).kp hk, h.bel.trans hb⟩
theorem VM.keyed (h : VM B W0 gb mb L KA SA kc sc kn k ks sigs wx) (hB : B ≤ wx.heap.size) {o : Obj} {KA' : Option Addr} {kc' : Nat} {d : List Int} (hg : (wx.alloc o).grownBy wy (Value.slice KA kn kc).ownBlock) (hn : wy.ownsRow B 30 8 (.slice KA' (kn + 1) kc') (kn + 1) (ks.flatMap digL ++ digL d)) :
    VM B W0 gb mb L KA' SA kc' sc (kn + 1) k (ks ++ [d]) sigs wy := by
  have hb : Below wx.heap.size wx (wx.alloc o) := (Below.refl _ _).alloc (Nat.le_refl _) _
  have h1 := h.below hb hB
  have hx : Kx (isTy 30) (wx.alloc o) wy := Kx.of_grown hg (own_row h1.keys)
  obtain ⟨A, c, D, hbk⟩ := h1.book
  refine ⟨⟨A, c, D, hbk.kx hx (isTy_ne (by decide)) (isTy_ne (by decide)) isTy_map⟩, by simpa using hn, own_kx h1.sgs hx (isTy_ne (by decide)), fun p hp => (h1.sin p hp).kx hx (isTy_ne (by decide)), h1.bel.grown hg (by simp; omega) (fun q hq => (h1.keys.lt q hq).1)⟩
theorem VM.sigged (h : VM B W0 gb mb L KA SA kc sc kn k ks sigs wx) (hB : B ≤ wx.heap.size) {o : Obj} {SA' : Option Addr} {sc' : Nat} {p : Pc} (hp : SigIn wx p) (hg : (wx.alloc o).grownBy wy (Value.slice SA k sc).ownBlock) (hn : wy.ownsRow B 55 1 (.slice SA' (k + 1) sc') (k + 1) ((sigs ++ [p]).map Pc.val)) :
    VM B W0 gb mb L KA SA' kc sc' kn (k + 1) ks (sigs ++ [p]) wy := by
  have hb : Below wx.heap.size wx (wx.alloc o) := (Below.refl _ _).alloc (Nat.le_refl _) _
  have h1 := h.below hb hB
  have hx : Kx (isTy 55) (wx.alloc o) wy := Kx.of_grown hg (own_row h1.sgs)
  obtain ⟨A, c, D, hbk⟩ := h1.book
  refine ⟨⟨A, c, D, hbk.kx hx (isTy_ne (by decide)) (isTy_ne (by decide)) isTy_map⟩, own_kx h1.keys hx (isTy_ne (by decide)), hn, fun q hq => ?_, h1.bel.grown hg (by simp; omega) (fun q hq => (h1.sgs.lt q hq).1)⟩
  rcases List.mem_append.1 hq with hq | hq
  · exact (h1.sin q hq).kx hx (isTy_ne (by decide))
  · simp at hq
    subst hq
    exact (hp.kp (Kp.of_below hb)).kx hx (isTy_ne (by decide))
end
theorem wpList_appK {ops : Array Oper} {rest : List Oper} {o : Oper} {a : Act} {w : World} {Q : Exit → Act → World → Prop} (hgd : o.guard = none) (s x : Operand)
    (ho : o.op = .call { callee := .builtin .append, args := #[s, x], argTypes := #[34, 34] })
    (base : Nat) (v : Value) (n : Nat) (ks : List (List Int)) (d : List Int) (hs : a.eval s = v) (hown : w.ownsRow base 30 8 v n (ks.flatMap digL)) (hd : d.length = 8) (cs : Array Value) (hcs : cs.toList = digL d)
    (hx : a.eval x = .slice (some ⟨w.heap.size, 0, none⟩) 1 1) (hn : n ≤ 1000) (hbase : base ≤ w.heap.size)
    (h : ∀ A' c' w', w'.ownsRow base 30 8 (.slice A' (n + 1) c') (n + 1) (ks.flatMap digL ++ digL d) → (w.alloc (.cells cs 30)).grownBy w' v.ownBlock → wpList Try.prog ops Q rest (a.put o.dst (.slice A' (n + 1) c')) w') :
    wpList Try.prog ops Q (o :: rest) a (w.alloc (.cells cs 30)) := by
  obtain ⟨i, hi, hz, hs1, hby⟩ := info_parts dInfo
  refine wpList_append_own_at _ hgd s x _ ho base 30 i _ 8 8 Try.underlying34 hi hz hs1 hby (by rfl) (by omega) v n _ hs (hown.alloc _) ⟨w.heap.size, 0, none⟩ 1 1 cs.toList hx (by rw [hcs]; simp [digL, hd]) (newCells rfl) ?_ (by unfold maxLen; omega) (by omega) (by simp; omega) ?_
  · intro u hu
    rw [hcs] at hu
    simp only [digL, List.mem_map] at hu
    obtain ⟨y, _, rfl⟩ := hu
    rfl
  · intro v' w' h1 h2 _ _
    obtain ⟨A', c', rfl⟩ := own_sliceN h1
    rw [hcs] at h1
    exact h A' c' w' h1 h2
end Go.Proofs.Ytpnegfocmaecbaa
