/- The evaluator: operators of other values; nil. -/
import Derived.Test.YtamjbnfmpfgjcaaGreatDoorEvE
import Derived.Laws.Strings
namespace Go.Ev
variable {P : Program} {σ : Sg} {A : AW} {w : World}

theorem bytesEq_iff : ∀ (l m : List UInt8), bytesEq l m = true ↔ l = m := by
  intro l
  induction l with
  | nil => intro m; cases m with
    | nil => exact ⟨fun _ => rfl, fun _ => rfl⟩
    | cons b m => exact ⟨fun h => (by cases h), fun h => (by cases h)⟩
  | cons a l ih => intro m; cases m with
    | nil => exact ⟨fun h => (by cases h), fun h => (by cases h)⟩
    | cons b m =>
      show (Bool.rec false (bytesEq l m) (Nat.beq a.toNat b.toNat) : Bool) = true ↔ _
      cases hb : Nat.beq a.toNat b.toNat with
      | true =>
        have : a = b := by have := beqIff.1 hb; exact UInt8.toNat_inj.1 this
        subst this
        show bytesEq l m = true ↔ _
        rw [ih]; simp
      | false =>
        have : a ≠ b := fun e => by subst e; rw [beqIff.2 rfl] at hb; cases hb
        constructor
        · intro h; cases h
        · intro h; cases h; exact absurd rfl this
theorem ofEq_some {op : BinOp} {b : Bool} {v : Value} (h : ofEq op b = some v) : (op = .eql ∧ v = .bool b) ∨ (op = .neq ∧ v = .bool !b) := by
  unfold ofEq at h
  split at h
  · rw [boolV_eq] at h; cases h; exact .inl ⟨rfl, rfl⟩
  · rw [boolV_eq, bnot_eq] at h; cases h; exact .inr ⟨rfl, rfl⟩
  · cases h
theorem strOp_run {op : BinOp} {t : TypeId} {a b : ByteArray} {v : Value} (h : strOp op a.data.toList b.data.toList = some v) (w : World) : flat v = true ∧ (binOp op t (.string a) (.string b)).run P w = .ok v w := by
  have ha : a.toList = a.data.toList := ByteArray.toList_eq a
  have hb : b.toList = b.data.toList := ByteArray.toList_eq b
  unfold strOp at h
  split at h
  · simp only [bt_some, bleIff, Option.some.injEq] at h
    obtain ⟨h1, rfl⟩ := h
    refine ⟨rfl, ?_⟩
    have h2 : a.size + b.size ≤ 1099511627776 := h1
    simp only [binOp, Op.stringOp]
    rw [if_neg (by simp [IntKind.max, IntKind.signed, IntKind.bits]; omega)]
    simp only [Sem.run_pure]
    congr 2
  · rw [boolV_eq] at h; cases h
    refine ⟨rfl, ?_⟩
    simp only [binOp, Op.stringOp, ha, hb, Sem.run_pure]
    congr 2
    rw [Bool.eq_iff_iff, bytesEq_iff]; simp
  · rw [boolV_eq, bnot_eq] at h; cases h
    refine ⟨rfl, ?_⟩
    simp only [binOp, Op.stringOp, ha, hb, Sem.run_pure]
    congr 3
    rw [Bool.eq_iff_iff, bytesEq_iff]; simp
  · cases h
theorem equal_eq : ∃ n, ∀ (t : TypeId) (x y : Value), Op.equal t x y = Op.equalIn (n + 1) t x y := ⟨9999, fun _ _ _ => rfl⟩
theorem nilEq_run {t : TypeId} {x y x' y' : Value} {b : Bool} (h : nilEq P t x y = some b) (hx : VR σ x x') (hy : VR σ y y') (w : World) : (Op.equal t x' y').run P w = .ok b w := by
  obtain ⟨N, hN⟩ := equal_eq
  rw [hN]
  unfold nilEq at h
  split at h <;> rename_i hu <;> first | (cases h; done) | skip
  · obtain rfl := hy.of_flat rfl
    rename_i a
    cases a with
    | none => obtain rfl := hx.of_flat rfl; cases h; simp [Op.equalIn, run_under hu]
    | some a => cases h; rw [hx.ptr_plain] at hx; obtain ⟨b, d, _, rfl⟩ := hx.ptr_inv; simp [Op.equalIn, run_under hu]
  · obtain rfl := hx.of_flat rfl; cases h; rw [hy.ptr_plain] at hy; obtain ⟨b, d, _, rfl⟩ := hy.ptr_inv; simp [Op.equalIn, run_under hu]
  · obtain rfl := hy.of_flat rfl
    cases hx with
    | slice e => cases h; simp [Op.equalIn, run_under hu]
    | flat e => rename_i a _ _; cases a with
      | none => cases h; simp [Op.equalIn, run_under hu]
      | some a => simp [flat] at e
  · obtain rfl := hy.of_flat rfl
    cases hx with
    | map e => cases h; simp [Op.equalIn, run_under hu]
    | flat e => rename_i a; cases a with
      | none => cases h; simp [Op.equalIn, run_under hu]
      | some a => simp [flat] at e
  · obtain rfl := hy.of_flat rfl; obtain rfl := hx.of_flat rfl; cases h; simp [Op.equalIn, run_under hu]
  · obtain rfl := hy.of_flat rfl
    cases hx with
    | func a b => cases h; simp [Op.equalIn, run_under hu]
    | flat e => simp [flat] at e
  · obtain rfl := hy.of_flat rfl; obtain rfl := hx.of_flat rfl; cases h; simp [Op.equalIn, run_under hu]
  · obtain rfl := hy.of_flat rfl
    cases hx with
    | iface a => cases h; simp [Op.equalIn, run_under hu]
    | flat e => simp [flat] at e
/-- '==' and '!=' come to the model's own equality, for values that are neither numbers nor strings. -/
def plainEq : Value → Bool
  | .int _ _ | .float _ _ | .complex _ _ _ | .string _ => false
  | _ => true
theorem binOp_eql {t : TypeId} {x y : Value} (hx : plainEq x = true) (b : Bool) (w : World) (h : (Op.equal t x y).run P w = .ok b w) :
    (binOp .eql t x y).run P w = .ok (.bool b) w ∧ (binOp .neq t x y).run P w = .ok (.bool !b) w := by
  cases x <;> first | (cases hx; done) | (constructor <;> simp [binOp, h])
theorem ofEq_run {op : BinOp} {t : TypeId} {x y : Value} {b : Bool} {v : Value} (hx : plainEq x = true) (h : (Op.equal t x y).run P w = .ok b w) (ho : ofEq op b = some v) :
    flat v = true ∧ (binOp op t x y).run P w = .ok v w := by
  rcases ofEq_some ho with ⟨rfl, rfl⟩ | ⟨rfl, rfl⟩
  · exact ⟨rfl, (binOp_eql hx b w h).1⟩
  · exact ⟨rfl, (binOp_eql hx b w h).2⟩
theorem VR.plainEq {x x' : Value} (h : VR σ x x') : Ev.plainEq x' = Ev.plainEq x := by cases h <;> rfl
theorem nilEq_plain {t : TypeId} {x y : Value} {b : Bool} (h : nilEq P t x y = some b) : plainEq x = true := by
  unfold nilEq at h
  split at h <;> first | (cases h; done) | rfl
theorem VR.nil_iff {x x' : Value} (h : VR σ x x') : x' = .nilIface ↔ x = .nilIface := by cases h <;> simp
theorem VR.agg_iff {x x' : Value} (h : VR σ x x') : (∀ c, x' ≠ .agg c) ↔ (∀ c, x ≠ .agg c) := by
  cases h <;> simp
theorem nilEq_noagg {t : TypeId} {x y : Value} {b : Bool} (h : nilEq P t x y = some b) : ∀ c, x ≠ .agg c := by
  intro c hc; subst hc
  unfold nilEq at h
  split at h <;> first | (cases h; done) | simp_all
theorem nilOp_run {op : BinOp} {t : TypeId} {xo yo : Operand} {x y x' y' v : Value} (h : nilOp P op t xo yo x y = some v) (hx : VR σ x x') (hy : VR σ y y') (w : World) :
    flat v = true ∧ (do eqGuard op t xo yo x' y'; binOp op t x' y').run P w = .ok v w := by
  simp only [nilOp, bt_some, ob_some] at h
  obtain ⟨hc, b, hb, ho⟩ := h
  have hr := ofEq_run (by rw [hx.plainEq]; exact nilEq_plain hb) (nilEq_run hb hx hy w) ho
  refine ⟨hr.1, ?_⟩
  have hg : (eqGuard op t xo yo x' y').run P w = .ok () w := by
    by_cases hn : x = .nilIface
    · have := hx.nil_iff.2 hn
      subst this
      exact eqGuard_const (by revert hc; cases isConstO xo <;> cases isConstO yo <;> simp) y' w
    · exact eqGuard_plain (fun e => hn (hx.nil_iff.1 e)) (hx.agg_iff.2 (nilEq_noagg hb)) w
  simp [hg, hr.2]
theorem binA_run {op : BinOp} {t : TypeId} {xo yo : Operand} {x y x' y' v : Value} (h : binA P op t xo yo x y = some v) (hx : VR σ x x') (hy : VR σ y y') (w : World) :
    flat v = true ∧ (do eqGuard op t xo yo x' y'; binOp op t x' y').run P w = .ok v w := by
  unfold binA at h
  split at h
  · split at h
    · obtain rfl := hx.of_flat rfl; obtain rfl := hy.of_flat rfl
      have := intOp_run h w
      exact ⟨this.1, by simp [eqGuard_plain (a := .int _ _) (by simp) (by simp), this.2]⟩
    · cases h
  · split at h
    · obtain rfl := hx.of_flat rfl; obtain rfl := hy.of_flat rfl
      have := strOp_run (P := P) (t := t) h w
      exact ⟨this.1, by simp [eqGuard_plain (a := .string _) (by simp) (by simp), this.2]⟩
    · cases h
  · split at h
    · rename_i a _ b
      obtain rfl := hx.of_flat rfl; obtain rfl := hy.of_flat rfl
      simp only [boolOp, ob_some, bt_some] at h
      obtain ⟨d, hd, hb, ho⟩ := h
      have hdb : d = .bool := by cases d <;> first | rfl | (cases hb)
      subst hdb
      have he : (Op.equal t (.bool a) (.bool b)).run P w = .ok (a == b) w := by obtain ⟨N, hN⟩ := equal_eq; rw [hN]; simp [Op.equalIn, run_under hd]
      have hab : (Bool.rec (bnot b) b a : Bool) = (a == b) := by cases a <;> cases b <;> rfl
      rw [hab] at ho
      have := ofEq_run rfl he ho
      exact ⟨this.1, by simp [eqGuard_plain (a := .bool _) (by simp) (by simp), this.2]⟩
    · cases h
  · split at h
    · simp only [aggOp, bt_some] at h
      obtain ⟨_, h1, h2, h3⟩ := h
      obtain rfl := hx.of_flat2 h1; obtain rfl := hy.of_flat2 h2
      have := flatPure_run h3
      exact ⟨this.1, this.2 w⟩
    · cases h
  · unfold ptrOp at h
    split at h
    · rename_i a _ b
      simp only [ob_some, ptrEq, bt_some, plainAt_some, beqIff, blt_iff, ptrT, Option.some.injEq] at h
      obtain ⟨r, ⟨e, ⟨d, hd, he⟩, n, hn, hn0, ha, hb, hij, rfl⟩, ho⟩ := h
      have hde : d = .pointer e := by cases d <;> simp [ptrD] at he; rw [he]
      subst hde
      rw [ha] at hx; rw [hb] at hy
      obtain ⟨b1, d1, hs1, rfl⟩ := hx.ptr_inv
      obtain ⟨b2, d2, hs2, rfl⟩ := hy.ptr_inv
      rw [hij, hs2] at hs1
      cases hs1
      have hn1 : n ≠ 0 := by omega
      have hq : (Op.equal t (.pointer (some ⟨b1, a.off, none⟩)) (.pointer (some ⟨b1, b.off, none⟩))).run P w = .ok (Nat.beq a.off b.off) w := by
        obtain ⟨N, hN⟩ := equal_eq
        rw [hN]
        simp only [Op.equalIn, Sem.run_bind, run_under hd, Result.andThen_ok, run_size hn, ne_eq, hn1, not_false_eq_true, if_true, sameAddr, beq_self_eq_true]
        simp only [Sem.run_pure]
        congr 1
        rw [Bool.eq_iff_iff, beqIff]
        simp
      have := ofEq_run rfl hq ho
      exact ⟨this.1, by simp [eqGuard_plain (a := .pointer _) (by simp) (by simp), this.2]⟩
    · exact nilOp_run h hx hy w
  · exact nilOp_run h hx hy w
end Go.Ev
