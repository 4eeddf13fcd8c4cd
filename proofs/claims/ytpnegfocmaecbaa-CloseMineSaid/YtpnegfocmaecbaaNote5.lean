/- Contracts: a new book, who signs, whether it was signed; bytes.Clone. -/
import Derived.Test.YtpnegfocmaecbaaNote4
namespace Go.Proofs.Ytpnegfocmaecbaa
open Go.RowKit
theorem newBook (w : World) : Calls Try.prog 15 #[] w fun e w' => e = .returned (.pointer (some ⟨w.heap.size + 1, 0, none⟩)) ∧ Book w' (w.heap.size + 1) w.heap.size [] none 0 w.heap.size (.map []) ∧ Below w.heap.size w w' := by
  have hmm := @run_makeMap Try.prog
  go_enter Try.func15, Try.ntmps15
  go_wp2
  go_ret
  refine ⟨rfl, ?_, ((Below.refl _ _).alloc (Nat.le_refl _) _).alloc (by simp) _⟩
  have hm := World.ownsMap_made w Try.prog 116 (plainElem (H := Unit) Try.prog 3)
  refine ⟨?_, World.ownsRow_nil .., hm.alloc _, by omega, by omega, by simp, ?_⟩
  · have := heap_alloc_new (w.alloc (.map #[] 0)) (.cells #[.slice none 0 0, .map (some w.heap.size)] 76)
    simpa using this
  · intro e he l hl
    refine ⟨?_, fun h => by cases h⟩
    simp [Maps.has]
abbrev wv (gb : Nat) (k : List Int) : Value := .iface 78 (.agg (#[.pointer (some ⟨gb, 0, none⟩)] ++ dcells k))
theorem signer (gb : Nat) (k : List Int) (w : World) (hk : Dig k) : Calls Try.prog 16 #[.pointer (some ⟨gb, 0, none⟩), dv k] w fun e w' => e = .returned (wv gb k) ∧ Below w.heap.size w w' := by
  obtain ⟨k0, k1, k2, k3, k4, k5, k6, k7, rfl, -⟩ := dig_parts hk
  clear hk
  show Calls Try.prog _ #[_, .agg #[.int .u8 k0, .int .u8 k1, .int .u8 k2, .int .u8 k3, .int .u8 k4, .int .u8 k5, .int .u8 k6, .int .u8 k7]] w _
  go_enter Try.func16, Try.ntmps16
  go_wp2
  go_ret
  exact ⟨rfl, (Below.refl _ _).alloc (Nat.le_refl _) _⟩
theorem SRes.later {w w1 w' : World} {gb B mb : Nat} {L : List Ent} {e : Ent} {en : Ending} (h : SRes w1 gb B mb L e en w') (hb : Below w.heap.size w w1) (hB : B ≤ w.heap.size) : SRes w gb B mb L e en w' := by
  obtain ⟨g, A', c', D', h1, h2, h3, h4, h5, h6⟩ := h
  exact ⟨g, A', c', D', h1, h2, Nat.le_trans hb.size h3, h4, (Kp.of_below hb).trans h5, (hb.mono hB).trans h6⟩
set_option maxRecDepth 100000 in
theorem writerSign (gb B mb c : Nat) (A : Option Addr) (D : DataW Unit) (L : List Ent) (k m : List Int) (w : World) (hk : Dig k) (hm : Dig m) (hb : Book w gb B L A c mb D) (hB : B ≤ w.heap.size) (hfew : L.length < 65536) :
    Calls Try.prog 71 #[.agg (#[.pointer (some ⟨gb, 0, none⟩)] ++ dcells k), dv m] w (SRes w gb B mb L (k, m)) := by
  obtain ⟨k0, k1, k2, k3, k4, k5, k6, k7, rfl, -⟩ := dig_parts hk
  obtain ⟨m0, m1, m2, m3, m4, m5, m6, m7, rfl, -⟩ := dig_parts hm
  have hd : DigE ([k0, k1, k2, k3, k4, k5, k6, k7], [m0, m1, m2, m3, m4, m5, m6, m7]) := ⟨hk, hm⟩
  have hw1 : Below w.heap.size w ((w.alloc (.cells #[.pointer (some ⟨gb, 0, none⟩), .int .u8 k0, .int .u8 k1, .int .u8 k2, .int .u8 k3, .int .u8 k4, .int .u8 k5, .int .u8 k6, .int .u8 k7] 78)).alloc (.cells #[.int .u8 m0, .int .u8 m1, .int .u8 m2, .int .u8 m3, .int .u8 m4, .int .u8 m5, .int .u8 m6, .int .u8 m7] 30)) := ((Below.refl _ _).alloc (Nat.le_refl _) _).alloc (by simp) _
  have HC := Lib.hid (signC gb B mb c A D L ([k0, k1, k2, k3, k4, k5, k6, k7], [m0, m1, m2, m3, m4, m5, m6, m7]) _ hd (hb.below hw1) (Nat.le_trans hB hw1.size) hfew)
  have HW1 := Lib.hid hw1
  clear hk hm hd hw1 hb hfew
  show Calls Try.prog _ #[.agg #[.pointer (some ⟨gb, 0, none⟩), .int .u8 k0, .int .u8 k1, .int .u8 k2, .int .u8 k3, .int .u8 k4, .int .u8 k5, .int .u8 k6, .int .u8 k7], .agg #[.int .u8 m0, .int .u8 m1, .int .u8 m2, .int .u8 m3, .int .u8 m4, .int .u8 m5, .int .u8 m6, .int .u8 m7]] w _
  go_enter Try.func71, Try.ntmps71
  go_wp2_with fail
  refine HC.out.mono ?_
  intro e w' hr
  obtain ⟨g, A', c', D', rfl, h2, h3, h4, h5, h6⟩ := hr.later HW1.out hB
  clear HC HW1 hr
  have HF := Lib.hid (And.intro h2 (And.intro h3 (And.intro h4 (And.intro h5 h6))))
  clear h2 h3 h4 h5 h6
  go_wp2_with fail
  go_ret2
  exact ⟨g, A', c', D', rfl, HF.out⟩
end Go.Proofs.Ytpnegfocmaecbaa
