/- What the two laws of agreements share: their arguments; what holds behind the votes; the plain law. -/
import Derived.Test.YtpnegfocmaecbaaVote3
import Derived.Lib.SmallJoins
namespace Go.Proofs.Ytpnegfocmaecbaa
open Go.RowKit Go.ChangeShapes Go.WideShapes Go.ChangeAt Go.Joins

theorem ints_val {H : Type} {enc : TypeId × Value → H} {w : World} {base : Nat} {sp : Nat → Bool} {held : Bool} {n : Nat} {cs : List Value} {y : DataW H × List MemPlace} (h : DataW.trod enc Try.prog w base sp held n 22 cs = some y) :
    ∃ (A : Option Addr) (m c : Nat) (xs : List Int), cs = [.slice A m c] ∧ Sl (Value.int .i64) w A m xs ∧ Fits xs ∧ (A = none → c = 0) := by
  rcases Go.Deep.open_slice Try.underlying22 h with ⟨hcs, _⟩ | ⟨y, l, c, _, _, _, _, hcs, _⟩
  · subst hcs
    obtain ⟨xs, hx, hw, hn⟩ := ints_in Try.underlying22 Try.underlying3 (by kernel_rfl) h
    exact ⟨_, _, _, xs, rfl, hx, fits_wf hw, hn⟩
  · subst hcs
    obtain ⟨xs, hx, hw, hn⟩ := ints_in Try.underlying22 Try.underlying3 (by kernel_rfl) h
    exact ⟨_, _, _, xs, rfl, hx, fits_wf hw, hn⟩
theorem bools_val {H : Type} {enc : TypeId × Value → H} {w : World} {base : Nat} {sp : Nat → Bool} {held : Bool} {n : Nat} {cs : List Value} {y : DataW H × List MemPlace} (h : DataW.trod enc Try.prog w base sp held n 25 cs = some y) :
    ∃ (A : Option Addr) (m c : Nat) (xs : List Bool), cs = [.slice A m c] ∧ Sl Value.bool w A m xs ∧ (A = none → c = 0) := by
  rcases Go.Deep.open_slice Try.underlying25 h with ⟨hcs, _⟩ | ⟨y, l, c, _, _, _, _, hcs, _⟩
  · subst hcs
    obtain ⟨xs, hx, hn⟩ := bools_in Try.underlying25 Try.underlying4 (by kernel_rfl) h
    exact ⟨_, _, _, xs, rfl, hx, hn⟩
  · subst hcs
    obtain ⟨xs, hx, hn⟩ := bools_in Try.underlying25 Try.underlying4 (by kernel_rfl) h
    exact ⟨_, _, _, xs, rfl, hx, hn⟩
theorem both_in {H : Type} {enc : TypeId × Value → H} {w : World} {base : Nat} {v : Value} {d : DataW H} {p : List MemPlace}
    (hv : Value.okWide Try.prog w .any base 24 v) (h : DataW.Trod enc Try.prog w 0 (fun _ => true) true 24 v d p) :
    ∃ (A B : Option Addr) (n c m e : Nat) (xs ys : List Int), v = .agg #[.slice A n c, .slice B m e] ∧ Sl (Value.int .i64) w A n xs ∧ Fits xs ∧ (A = none → c = 0) ∧ Sl (Value.int .i64) w B m ys ∧ Fits ys ∧ (B = none → e = 0) := by
  obtain ⟨c0, c1, y0, y1, n, rfl, _, _, hy0, hy1⟩ := open_agg2 Try.underlying24 (by kernel_rfl) (by kernel_rfl) hv h
  obtain ⟨A, n, c, xs, e0, h1, h2, h3⟩ := ints_val hy0
  obtain ⟨B, m, e, ys, e1, k1, k2, k3⟩ := ints_val hy1
  simp at e0 e1
  subst e0 e1
  exact ⟨A, B, n, c, m, e, xs, ys, rfl, h1, h2, h3, k1, k2, k3⟩
theorem votes_in {H : Type} {enc : TypeId × Value → H} {w : World} {base : Nat} {v : Value} {d : DataW H} {p : List MemPlace}
    (hv : Value.okWide Try.prog w .any base 27 v) (h : DataW.Trod enc Try.prog w 0 (fun _ => true) true 27 v d p) :
    ∃ (A B C : Option Addr) (n1 c1 n2 c2 n3 c3 : Nat) (x y z : List Bool), v = .agg #[.slice A n1 c1, .slice B n2 c2, .slice C n3 c3] ∧ Sl Value.bool w A n1 x ∧ Sl Value.bool w B n2 y ∧ Sl Value.bool w C n3 z := by
  obtain ⟨c0, c1, c2, y0, y1, y2, n, rfl, _, _, hy0, hy1, hy2⟩ := open_agg3 Try.underlying27 (by kernel_rfl) (by kernel_rfl) hv h
  obtain ⟨A, n1, c1', x, e0, h1, _⟩ := bools_val hy0
  obtain ⟨B, n2, c2', y, e1, h2, _⟩ := bools_val hy1
  obtain ⟨C, n3, c3', z, e2, h3, _⟩ := bools_val hy2
  simp at e0 e1 e2
  subst e0 e1 e2
  exact ⟨A, B, C, n1, c1', n2, c2', n3, c3', x, y, z, rfl, h1, h2, h3⟩

theorem tyBools : ElemTy Try.prog 25 4 (.bool false) 1 := ElemTy.mk' Try.underlying25 (by kernel_rfl) rfl
theorem Kx.trans {Q : Obj → Bool} {a b c : World} (h : Kx Q a b) (k : Kx Q b c) : Kx Q a c := ⟨k.os.trans h.os, k.tape.trans h.tape, k.output.trans h.output, Nat.le_trans h.size k.size, fun i o hi hq => k.block i o (h.block i o hi hq) hq⟩
theorem Kx.setCell {Q : Obj → Bool} {a b : World} (h : Kx Q a b) {g i : Nat} {cs : Array Value} {t : TypeId} {fz : Nat × Nat} (hg : b.heap[g]? = some (.cells cs t fz)) (hq : Q (.cells cs t fz) = true) (u : Value) : Kx Q a (b.setCell ⟨g, i, none⟩ u) :=
  ⟨h.os, h.tape, h.output, by simpa [World.setCell] using h.size, fun k o hk hqo => by
    have := h.block k o hk hqo
    have hne : k ≠ g := fun e => by subst e; rw [hg] at this; injection this with this; subst this; rw [hq] at hqo; cases hqo
    exact (Below.heap_setCell b ⟨g, i, none⟩ u k hne).trans this⟩
/-- What holds behind the votes: the book, the keys, the signatures, the payouts. -/
structure AG (w : World) (B gb mb : Nat) (L : List Ent) (KA SA A1 A2 : Option Addr) (kc sc c1 c2 n m pb ob vb : Nat) (ks : List (List Int)) (sigs : List Pc) (ps os : List Int) (pcs ocs vcs : Array Value) (wx : World) : Prop where
  bel : Below w.heap.size w wx
  book : ∃ A c D, Book wx gb B L A c mb D
  keys : wx.ownsRow B 30 8 (.slice KA n kc) n (ks.flatMap digL)
  sgs : wx.ownsRow B 55 1 (.slice SA n sc) n (sigs.map Pc.val)
  sin : ∀ p ∈ sigs, SigIn wx p
  prow : wx.ownsRow w.heap.size 3 1 (.slice A1 n c1) n (ps.map (Value.int .i64))
  orow : wx.ownsRow w.heap.size 3 1 (.slice A2 m c2) m (os.map (Value.int .i64))
  pbox : wx.heap[pb]? = some (.cells pcs 32 (0, 0))
  obox : wx.heap[ob]? = some (.cells ocs 32 (0, 0))
  vbox : wx.heap[vb]? = some (.cells vcs 27 (0, 0))
theorem AG.kx {w : World} {B gb mb : Nat} {L : List Ent} {KA SA A1 A2 : Option Addr} {kc sc c1 c2 n m pb ob vb : Nat} {ks : List (List Int)} {sigs : List Pc} {ps os : List Int} {pcs ocs vcs : Array Value} {wx wy : World} (h : AG w B gb mb L KA SA A1 A2 kc sc c1 c2 n m pb ob vb ks sigs ps os pcs ocs vcs wx) (hk : Kx (isTy 4) wx wy) (hb : Below w.heap.size wx wy) :
    AG w B gb mb L KA SA A1 A2 kc sc c1 c2 n m pb ob vb ks sigs ps os pcs ocs vcs wy := by
  obtain ⟨A, c, D, hbk⟩ := h.book
  exact ⟨h.bel.trans hb, ⟨A, c, D, hbk.kx hk (isTy_ne (by decide)) (isTy_ne (by decide)) isTy_map⟩, own_kx h.keys hk (isTy_ne (by decide)), own_kx h.sgs hk (isTy_ne (by decide)), fun p hp => (h.sin p hp).kx hk (isTy_ne (by decide)), own_kx h.prow hk (isTy_ne (by decide)), own_kx h.orow hk (isTy_ne (by decide)), hk.block _ _ h.pbox (isTy_ne (by decide) _ _), hk.block _ _ h.obox (isTy_ne (by decide) _ _), hk.block _ _ h.vbox (isTy_ne (by decide) _ _)⟩
theorem AG.later {w : World} {B gb mb : Nat} {L : List Ent} {KA SA A1 A2 : Option Addr} {kc sc c1 c2 n m pb ob vb : Nat} {ks : List (List Int)} {sigs : List Pc} {ps os : List Int} {pcs ocs vcs : Array Value} {wx wy : World} (h : AG w B gb mb L KA SA A1 A2 kc sc c1 c2 n m pb ob vb ks sigs ps os pcs ocs vcs wx) (hb : Below wx.heap.size wx wy) :
    AG w B gb mb L KA SA A1 A2 kc sc c1 c2 n m pb ob vb ks sigs ps os pcs ocs vcs wy := h.kx (Kx.of_below hb) (hb.mono h.bel.size)

/-! the plain law -/
def allTo (gn : List Bool) (k : Nat) : Bool := (List.range k).all (atB gn)
def sgnB (sg ot gn : List Bool) (pd od : List Int) (i : Nat) : Bool := atB gn i || (atB sg i || (atB ot i && decide (pd = od)))
def sgnTo (sg ot gn : List Bool) (pd od : List Int) (k : Nat) : Bool := (List.range k).all (sgnB sg ot gn pd od)
def goneTo (gn : List Bool) (n k : Nat) : List Bool := (List.range n).map fun i => decide (i < k) && atB gn i
theorem allTo_succ (gn : List Bool) (k : Nat) : allTo gn (k + 1) = (allTo gn k && atB gn k) := by simp [allTo, List.range_succ]
theorem sgnTo_succ (sg ot gn : List Bool) (pd od : List Int) (k : Nat) : sgnTo sg ot gn pd od (k + 1) = (sgnTo sg ot gn pd od k && sgnB sg ot gn pd od k) := by simp [sgnTo, List.range_succ]
theorem goneTo_len (gn : List Bool) (n k : Nat) : (goneTo gn n k).length = n := by simp [goneTo]
theorem goneTo_zero (gn : List Bool) (n : Nat) : goneTo gn n 0 = List.replicate n false := by
  apply List.ext_getElem <;> simp [goneTo]
theorem goneTo_succ (gn : List Bool) (n k : Nat) : goneTo gn n (k + 1) = (goneTo gn n k).set k (atB gn k) := by
  apply List.ext_getElem
  · simp [goneTo]
  · intro i h1 h2
    simp only [goneTo, List.getElem_map, List.getElem_range, List.getElem_set]
    by_cases h : k = i
    · subst h; simp
    · rw [if_neg h]
      have : decide (i < k + 1) = decide (i < k) := by rw [decide_eq_decide]; omega
      rw [this]
theorem goneTo_at (gn : List Bool) (n k : Nat) (h : k < n) : (goneTo gn n k)[k]? = some false := by simp [goneTo, h]
theorem goneTo_at' (gn : List Bool) (n k : Nat) (h : k < n) : (goneTo gn n (k + 1))[k]? = some (atB gn k) := by simp [goneTo, h]
theorem goneTo_all (gn : List Bool) (n : Nat) : (goneTo gn n n).all id = allTo gn n := by
  unfold goneTo allTo
  rw [List.all_map, Bool.eq_iff_iff]
  simp only [List.all_eq_true, List.mem_range, Function.comp, id, Bool.and_eq_true, decide_eq_true_eq]
  exact ⟨fun h i hi => (h i hi).2, fun h i hi => ⟨hi, h i hi⟩⟩
theorem agreeC_vote {sg ot gn : List Bool} {pd od : List Int} {sigs : List Pc} {n : Nat} (hn : n ≤ 100) (hs : sigs.map Pc.bs = (List.range n).map (sigB sg ot pd od)) :
    agreeC (entsTo sg ot pd od n) pd ((List.range n).map keyD) sigs (goneTo gn n n) n = if allTo gn n = true then 28 else if sgnTo sg ot gn pd od n = true then 0 else 16 := by
  have hl : ∀ i, i < n → lackB (entsTo sg ot pd od n) pd ((List.range n).map keyD) sigs (goneTo gn n n) i = !(sgnB sg ot gn pd od i) := fun i hi => by
    have h1 : (goneTo gn n n)[i]? = some (atB gn i) := by simp [goneTo, hi]
    have h2 : ((List.range n).map keyD)[i]? = some (keyD i) := by simp [hi]
    have h3 : sigs[i]?.map Pc.bs = some (sigB sg ot pd od i) := by
      rw [← List.getElem?_map, hs]; simp [hi]
    unfold lackB
    rw [h1, h2, h3]
    simp only [Option.getD_some]
    rw [ver_vote hi hn]
    simp [sgnB, Bool.not_or]
  have hk : (lackL (entsTo sg ot pd od n) pd ((List.range n).map keyD) sigs (goneTo gn n n) n = []) ↔ sgnTo sg ot gn pd od n = true := by
    unfold lackL sgnTo
    rw [List.map_eq_nil_iff, List.filter_eq_nil_iff, List.all_eq_true]
    constructor
    · intro h i hi
      have := h i hi
      rw [hl i (by simpa using hi)] at this
      simpa using this
    · intro h i hi
      rw [hl i (by simpa using hi)]
      simpa using h i hi
  unfold agreeC allC
  rw [goneTo_all]
  by_cases h : sgnTo sg ot gn pd od n = true
  · rw [if_pos (hk.2 h), if_pos h]
  · rw [if_neg (fun e => h (hk.1 e)), if_neg h]
end Go.Proofs.Ytpnegfocmaecbaa
