/- Forfeit in one word; a Loss that came in. -/
import Derived.Test.YtpnegfocmaecbaaDoorF
import Derived.Test.YtpnegfocmaecbaaDoorIn
import Derived.Lib.SmallJoins
namespace Go.Proofs.YtpnegfocmaecbaaDoor
open Go.RowKit Go.ChangeShapes Go.WideShapes Go.ChangeAt Go.Joins

theorem forfY_no {pays : List Int} {seat bond : Int} {gone : List Bool} (h : forfC pays seat bond gone ≠ 0) : forfY pays seat bond gone = [] := by
  unfold forfY; rw [if_pos h]
theorem forfeit10 (A B : Option Addr) (n c m d : Nat) (pays : List Int) (seat bond : Int) (gone : List Bool) (w : World)
    (h : Sl (Value.int .i64) w A n pays) (hf : Fits pays) (hg : Sl Value.bool w B m gone) :
    Calls Tryd.prog 5 #[.slice A n c, .int .i64 seat, .int .i64 bond, .slice B m d] w (FRes w 3 (forfC pays seat bond gone) (forfY pays seat bond gone)) := by
  by_cases h0 : forfC pays seat bond gone = 0
  · rw [h0]; exact forfeit10_yes A B n c m d pays seat bond gone w h hf hg h0
  · rw [forfY_no h0]; exact forfeit10_no A B n c m d pays seat bond gone w h hf hg h0
set_option maxRecDepth 100000 in
theorem loss_in {H : Type} {enc : TypeId × Value → H} {w : World} {base : Nat} {v : Value} {d : DataW H} {p : List MemPlace}
    (hv : Value.okWide Tryd.prog w .any base 25 v) (h : DataW.Trod enc Tryd.prog w 0 (fun _ => true) true 25 v d p) :
    ∃ (seat bond : Int) (B : Option Addr) (m c : Nat) (gone : List Bool), v = .agg #[.int .i64 seat, .int .i64 bond, .slice B m c] ∧ Sl Value.bool w B m gone ∧ (Lit.int .i64 seat).wf = true ∧ (Lit.int .i64 bond).wf = true ∧ (B = none → c = 0) := by
  obtain ⟨c0, c1, c2, y0, y1, y2, n, rfl, _, _, hy0, hy1, hy2⟩ := open_agg3 Tryd.underlying25 (by kernel_rfl) (by kernel_rfl) hv h
  obtain ⟨a, e0, _, wa⟩ := DataW.trod_int Tryd.underlying3 hy0
  obtain ⟨b, e1, _, wb⟩ := DataW.trod_int Tryd.underlying3 hy1
  simp at e0 e1
  subst e0 e1
  rcases Go.Deep.open_slice Tryd.underlying23 hy2 with ⟨hcs, _⟩ | ⟨y, l, c, _, _, _, _, hcs, _⟩
  · simp at hcs
    subst hcs
    obtain ⟨gone, hg, hn⟩ := bools_in Tryd.underlying23 Tryd.underlying4 (by kernel_rfl) hy2
    exact ⟨a, b, _, _, _, gone, rfl, hg, wa, wb, hn⟩
  · simp at hcs
    subst hcs
    obtain ⟨gone, hg, hn⟩ := bools_in Tryd.underlying23 Tryd.underlying4 (by kernel_rfl) hy2
    exact ⟨a, b, _, _, _, gone, rfl, hg, wa, wb, hn⟩
end Go.Proofs.YtpnegfocmaecbaaDoor
