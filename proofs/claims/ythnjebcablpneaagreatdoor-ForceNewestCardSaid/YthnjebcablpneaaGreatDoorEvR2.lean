/- What single operations come to, for regions walked in one order. -/
import Derived.Test.YthnjebcablpneaaGreatDoorEvH2
import Derived.Laws.Small
set_option maxRecDepth 10000
namespace Go.Ev
variable {P : Program} {a : Act} {dst : Option Tmp} {ty : TypeId} {pos : String} {aft : Array Edge} {gd : Option (Nat × Bool)} {x y c : Operand} {u v : Value}
theorem ev_tmp {t : Nat} (h : lget a.tmps.toList t = some v) : a.eval (.tmp t) = v := by
  rw [lget_eq] at h
  have h : a.tmps[t]? = some v := by simpa using h
  simp [Act.eval, h]
theorem ev_const : a.eval (.const v) = v := rfl
theorem run_mv (hx : a.eval x = v) (W : World) : (execOp a.eval ⟨dst, .move x, ty, pos, aft, gd⟩).run P W = .ok (.value v) W := by rw [← hx]; rfl
theorem run_as (hx : a.eval x = v) (W : World) : (execOp a.eval ⟨dst, .assign x, ty, pos, aft, gd⟩).run P W = .ok (.value v) W := by rw [← hx]; rfl
theorem run_pickT (hc : a.eval c = .bool true) (hx : a.eval x = v) (W : World) : (execOp a.eval ⟨dst, .pick c x y, ty, pos, aft, gd⟩).run P W = .ok (.value v) W := by
  simp [execOp, asBool, hc, hx]
theorem run_pickF (hc : a.eval c = .bool false) (hy : a.eval y = v) (W : World) : (execOp a.eval ⟨dst, .pick c x y, ty, pos, aft, gd⟩).run P W = .ok (.value v) W := by
  simp [execOp, asBool, hc, hy]
theorem run_not {b : Bool} {t : TypeId} (hx : a.eval x = .bool b) (W : World) : (execOp a.eval ⟨dst, .unOp .not t x, ty, pos, aft, gd⟩).run P W = .ok (.value (.bool !b)) W := by
  simp [execOp, hx, Op.unary]
theorem run_ld {t : TypeId} {g : Nat} {cells : Array Value} {W : World} (hx : a.eval x = .pointer (some ⟨g, 0, none⟩)) (h : W.heap[g]? = some (.cells cells t (0, 0))) (hi : (P.info? t).map (·.size) = some cells.size) (ha : isAggA P t = some true) :
    (execOp a.eval ⟨dst, .load t x, ty, pos, aft, gd⟩).run P W = .ok (.value (.agg cells)) W := by
  have hs : sizeA P t = some cells.size := by
    cases hq : P.info? t with
    | none => simp [hq] at hi
    | some i => simp [hq] at hi; exact sizeA_some.2 ⟨i, hq, hi⟩
  have h1 := loadCells_at (P := P) (w := W) (b := g) (o := 0) (n := cells.size) (c' := cells) h (by omega)
  have h2 : (Instr.loadAt t (.pointer (some ⟨g, 0, none⟩))).run P W = .ok (.agg cells) W := by
    simp only [Instr.loadAt, Instr.sureAddr, loadVar, Sem.run_bind, Sem.run_pure, run_agg ha, Result.andThen_ok, if_true, run_size hs, h1]
    congr 2
    apply Array.toList_inj.1
    simp [List.take_of_length_le]
  simp [execOp, hx, h2]
theorem run_ld1 {t : TypeId} {p : Addr} {W : World} (hx : a.eval x = .pointer (some p)) (h : W.cell? p = some v) (ha : isAggA P t = some false) :
    (execOp a.eval ⟨dst, .load t x, ty, pos, aft, gd⟩).run P W = .ok (.value v) W := by
  have h2 : (Instr.loadAt t (.pointer (some p))).run P W = .ok v W := by
    simp only [Instr.loadAt, Instr.sureAddr, loadVar, Sem.run_bind, Sem.run_pure, run_agg ha, Result.andThen_ok, Bool.false_eq_true, if_false, run_load, h]
  simp [execOp, hx, h2]
/-- Two structs or arrays compared. -/
theorem run_eqA {t : TypeId} {cs ds : Array Value} {r : Bool} {op : TypeId} (hx : a.eval x = .agg cs) (hy : a.eval y = .agg ds) (hg : P.eqGuardType P.depth t = false) (he : ∀ W : World, (Op.equalIn 10000 t (.agg cs) (.agg ds)).run P W = .ok r W) (W : World) :
    (execOp a.eval ⟨dst, .binOp .eql t x y op, ty, pos, aft, gd⟩).run P W = .ok (.value (.bool r)) W := by
  have h1 : (eqGuard .eql t x y (.agg cs) (.agg ds)).run P W = .ok () W := by
    simp [eqGuard, hg]
  have h2 : (binOp .eql t (.agg cs) (.agg ds)).run P W = .ok (.bool r) W := by
    have : Op.equal t (.agg cs) (.agg ds) = Op.equalIn 10000 t (.agg cs) (.agg ds) := rfl
    simp [binOp, this, he W]
  simp only [execOp, hx, hy, Sem.run_bind, h1, Result.andThen_ok, h2, Sem.run_pure]
theorem run_eqB {t : TypeId} {b d : Bool} {op : TypeId} (hx : a.eval x = .bool b) (hy : a.eval y = .bool d) (ht : P.underlying t = some .bool) (W : World) :
    (execOp a.eval ⟨dst, .binOp .eql t x y op, ty, pos, aft, gd⟩).run P W = .ok (.value (.bool (b == d))) W := by
  have h1 : (eqGuard .eql t x y (.bool b) (.bool d)).run P W = .ok () W := by
    simp [eqGuard]
  have h2 : (binOp .eql t (.bool b) (.bool d)).run P W = .ok (.bool (b == d)) W := by
    simp [binOp, run_equal_bool (P := P) W t b d ht]
  simp only [execOp, hx, hy, Sem.run_bind, h1, Result.andThen_ok, h2, Sem.run_pure]
/-- A field's place. -/
theorem run_fa {t : TypeId} {f b o o' : Nat} (hx : a.eval x = .pointer (some ⟨b, o, none⟩)) (h : fieldAddrA P t (.pointer (some ⟨b, o, none⟩)) f = some (.pointer (some ⟨b, o', none⟩))) (W : World) :
    (execOp a.eval ⟨dst, .fieldAddr t x f, ty, pos, aft, gd⟩).run P W = .ok (.value (.pointer (some ⟨b, o', none⟩))) W := by
  have hr := fieldAddr_run (σ := fun i => some (i, 0)) h (.ptr rfl) W
  obtain ⟨u, hu, hr⟩ := hr
  obtain ⟨b', d, e, rfl⟩ := hu.ptr_inv
  cases e
  simp [execOp, hx, hr]
/-- A whole row stored. -/
theorem run_st {t : TypeId} {g : Nat} {old cells : Array Value} {W : World} (hx : a.eval x = .pointer (some ⟨g, 0, none⟩)) (hy : a.eval y = .agg cells) (h : W.heap[g]? = some (.cells old t (0, 0))) (hi : (P.info? t).map (·.size) = some cells.size) (ho : old.size = cells.size) (h1 : cells.all (·.oneCell') = true) :
    (execOp a.eval ⟨dst, .store t x y, ty, pos, aft, gd⟩).run P W = .ok .skip (W.setRow g cells) := by
  have h2 : (Instr.storeAt t (.pointer (some ⟨g, 0, none⟩)) (.agg cells)).run P W = .ok () (W.setRow g cells) := by
    simp only [Instr.storeAt, Instr.sureAddr, Sem.run_bind, Sem.run_pure, Result.andThen_ok, run_storeVar_row W g t t old cells h hi ho h1]
  simp [execOp, hx, hy, h2]
/-- An operation that comes to no value. -/
theorem wp_skip' {o : Oper} {w w' : World} {K : Act → World → Prop} {Q : Exit → Act → World → Prop} (h : (execOp a.eval o).run P w = .ok .skip w') (hK : K (a.put o.dst undef) w') : o.wp P a w K Q := by
  unfold Oper.wp
  rw [h, Oper.upon_skip]; exact hK
end Go.Ev
