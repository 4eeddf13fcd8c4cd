/- The evaluator: the operators. -/
import Derived.Test.YtamjbnfmpfgjcaaGreatDoorEvD
namespace Go.Ev
variable {P : Program} {σ : Sg} {A : AW} {w : World}

theorem pureA_run {α : Type} (s : Sem α) : ∀ {v : α}, pureA P s = some v → ∀ w, s.run P w = .ok v w := by
  induction s with
  | pure a => intro v h w; simp only [pureA, Option.some.injEq] at h; subst h; rfl
  | program k ih => intro v h w; simp only [pureA] at h; exact ih P h w
  | _ => intro v h w; simp [pureA] at h
theorem flatPure_run {s : Sem Value} {v : Value} (h : flatPure P s = some v) : flat v = true ∧ ∀ w, s.run P w = .ok v w := by
  simp only [flatPure, ob_some, bt_some, fval_eq, Option.some.injEq] at h
  obtain ⟨u, hu, hf, rfl⟩ := h
  exact ⟨hf, pureA_run s hu⟩
theorem eqGuard_plain {op : BinOp} {t : TypeId} {x y : Operand} {a b : Value} (h1 : a ≠ .nilIface) (h2 : ∀ c, a ≠ .agg c) (w : World) : (eqGuard op t x y a b).run P w = .ok () w := by
  unfold eqGuard
  cases op <;> first | rfl | (cases a <;> first | rfl | exact absurd rfl h1 | exact absurd rfl (h2 _))
theorem eqGuard_const {op : BinOp} {t : TypeId} {x y : Operand} (h : (isConstO x || isConstO y) = true) (b : Value) (w : World) : (eqGuard op t x y .nilIface b).run P w = .ok () w := by
  unfold eqGuard
  cases op <;> first | rfl | (cases b <;> first | rfl | (cases x <;> cases y <;> first | rfl | (simp [isConstO] at h)))

/- Integers. -/
theorem within_wrap {k : IntKind} {n : Nat} {v : Value} (h : within k n = some v) : v = .int k (k.wrap (n : Int)) := by
  unfold within at h
  cases hb : Nat.blt n (lim k) with
  | true =>
    have hlt := blt_iff.1 hb
    rw [hb] at h
    have h' : natV k n = some v := h
    rw [natV_eq] at h'
    cases h'
    congr 1
    cases k <;> simp only [lim] at hlt <;> simp [IntKind.wrap, IntKind.bits, IntKind.signed] <;> omega
  | false =>
    rw [hb] at h
    have h' : bt (unsig k) (natV k (Nat.mod n (lim k))) = some v := h
    simp only [bt_some, natV_eq, Option.some.injEq] at h'
    obtain ⟨hu, rfl⟩ := h'
    congr 1
    have hm : Nat.mod n (lim k) = n % lim k := rfl
    rw [hm]
    cases k <;> simp only [unsig] at hu <;> first | (exact absurd hu (by decide)) | (simp [lim, IntKind.wrap, IntKind.bits, IntKind.signed]; done) | (simp [lim, IntKind.wrap, IntKind.bits, IntKind.signed]; omega)
theorem lim_le (k : IntKind) : lim k ≤ 2 ^ k.bits := by cases k <;> decide
theorem nbits_eq (k : IntKind) : nbits k = k.bits := by cases k <;> rfl
theorem sameK_eq {j k : IntKind} (h : sameK j k = true) : j = k := by cases j <;> cases k <;> first | rfl | exact absurd h (by decide)
theorem ofInt_nat {n a : Nat} (h : a < 2 ^ n) : (BitVec.ofInt n (a : Int)).toNat = a := by
  rw [BitVec.toNat_ofInt]
  have : ((a : Int) % ((2 ^ n : Nat) : Int)) = ((a % 2 ^ n : Nat) : Int) := by simp
  rw [this, Nat.mod_eq_of_lt h]
  rfl
theorem nBits_run {f : Nat → Nat → Nat} {k : IntKind} {a b : Nat} {v : Value} (h : nBits f k a b = some v) : a < 2 ^ k.bits ∧ b < 2 ^ k.bits ∧ v = .int k (k.wrap ((f a b : Nat) : Int)) := by
  simp only [nBits, bt_some, blt_iff] at h
  exact ⟨Nat.lt_of_lt_of_le h.1 (lim_le k), Nat.lt_of_lt_of_le h.2.1 (lim_le k), within_wrap h.2.2⟩
theorem intBits_run {k : IntKind} {a b : Nat} (ha : a < 2 ^ k.bits) (hb : b < 2 ^ k.bits) :
    Op.intBits .and k (a : Int) (b : Int) = pure (.int k (k.wrap ((Nat.land a b : Nat) : Int))) ∧ Op.intBits .or k (a : Int) (b : Int) = pure (.int k (k.wrap ((Nat.lor a b : Nat) : Int))) ∧
    Op.intBits .xor k (a : Int) (b : Int) = pure (.int k (k.wrap ((Nat.xor a b : Nat) : Int))) := by
  refine ⟨?_, ?_, ?_⟩ <;> simp only [Op.intBits, BitVec.toNat_and, BitVec.toNat_or, BitVec.toNat_xor, ofInt_nat ha, ofInt_nat hb] <;> rfl
theorem binOp_int {op : BinOp} {t : TypeId} {k : IntKind} {a b : Int} (hs : isShift op = false) : binOp op t (.int k a) (.int k b) =
    (match op with
    | .add | .sub | .mul => Op.intArith op k a b
    | .quo | .rem => Op.intDiv op k a b
    | .and | .or | .xor | .andNot => Op.intBits op k a b
    | _ => Op.intCmp op a b) := by
  cases op <;> first | (exact absurd hs (by decide)) | simp [binOp]
theorem nOp_run {op : BinOp} {t : TypeId} {j k : IntKind} {a b : Nat} {v : Value} (hk : isShift op = true ∨ j = k) (h : nOp op j a b = some v) (w : World) :
    flat v = true ∧ (binOp op t (.int j (a : Int)) (.int k (b : Int))).run P w = .ok v w := by
  have hfl : ∀ {n : Nat}, within j n = some v → flat v = true := fun h => by rw [within_wrap h]; rfl
  have hfb : ∀ {x : Bool}, boolV x = some v → flat v = true ∧ v = .bool x := fun h => by rw [boolV_eq] at h; cases h; exact ⟨rfl, rfl⟩
  cases op with
  | shl =>
    simp only [nOp, nShl, bt_some, bleIff, nbits_eq] at h
    refine ⟨hfl h.2, ?_⟩
    rw [within_wrap h.2]
    have hp : Nat.mul a (Nat.pow 2 b) = a * 2 ^ b := rfl
    simp only [binOp, Op.shift, hp]
    rw [if_neg (by omega)]
    simp only [Int.toNat_natCast, Nat.min_eq_left h.1]
    simp
  | shr =>
    simp only [nOp, nShr, bt_some, bleIff, nbits_eq, natV_eq, Option.some.injEq] at h
    obtain ⟨h1, rfl⟩ := h
    refine ⟨rfl, ?_⟩
    have hp : Nat.div a (Nat.pow 2 b) = a / 2 ^ b := rfl
    simp only [binOp, Op.shift, hp]
    rw [if_neg (by omega)]
    simp only [Int.toNat_natCast, Nat.min_eq_left h1, Sem.run_pure]
    congr 2
    rw [Int.fdiv_eq_ediv_of_nonneg _ (by exact Int.le_of_lt (Int.pow_pos (by decide)))]
    simp
  | andNot => simp [nOp] at h
  | add => obtain rfl : j = k := hk.resolve_left (by decide); refine ⟨hfl h, ?_⟩; rw [binOp_int rfl, within_wrap h]; simp [Op.intArith]
  | mul => obtain rfl : j = k := hk.resolve_left (by decide); refine ⟨hfl h, ?_⟩; rw [binOp_int rfl, within_wrap h]; simp [Op.intArith]
  | sub =>
    obtain rfl : j = k := hk.resolve_left (by decide)
    simp only [nOp, nSub, bt_some, bleIff] at h
    refine ⟨hfl h.2, ?_⟩; rw [binOp_int rfl, within_wrap h.2]
    have : ((Nat.sub a b : Nat) : Int) = (a : Int) - (b : Int) := by have : Nat.sub a b = a - b := rfl; omega
    simp only [Op.intArith, this, Sem.run_pure]
  | quo =>
    obtain rfl : j = k := hk.resolve_left (by decide)
    simp only [nOp, nQuo, bt_some, blt_iff] at h
    refine ⟨hfl h.2, ?_⟩; rw [binOp_int rfl, within_wrap h.2]
    have hb : ¬ ((b : Int) = 0) := by omega
    simp only [Op.intDiv, if_neg hb, Sem.run_pure]
    rfl
  | rem =>
    obtain rfl : j = k := hk.resolve_left (by decide)
    simp only [nOp, nRem, bt_some, blt_iff, natV_eq, Option.some.injEq] at h
    obtain ⟨h1, rfl⟩ := h
    refine ⟨rfl, ?_⟩; rw [binOp_int rfl]
    have hb : ¬ ((b : Int) = 0) := by omega
    simp only [Op.intDiv, if_neg hb, Sem.run_pure]
    rfl
  | and => obtain rfl : j = k := hk.resolve_left (by decide); obtain ⟨ha, hb, rfl⟩ := nBits_run h; rw [binOp_int rfl]; simp only [(intBits_run ha hb).1]; exact ⟨rfl, rfl⟩
  | or => obtain rfl : j = k := hk.resolve_left (by decide); obtain ⟨ha, hb, rfl⟩ := nBits_run h; rw [binOp_int rfl]; simp only [(intBits_run ha hb).2.1]; exact ⟨rfl, rfl⟩
  | xor => obtain rfl : j = k := hk.resolve_left (by decide); obtain ⟨ha, hb, rfl⟩ := nBits_run h; rw [binOp_int rfl]; simp only [(intBits_run ha hb).2.2]; exact ⟨rfl, rfl⟩
  | eql => obtain rfl : j = k := hk.resolve_left (by decide); obtain ⟨h1, rfl⟩ := hfb h; refine ⟨h1, ?_⟩; rw [binOp_int rfl]; simp [Op.intCmp]; rw [Bool.eq_iff_iff]; simp [beqIff]; try omega
  | neq => obtain rfl : j = k := hk.resolve_left (by decide); obtain ⟨h1, rfl⟩ := hfb h; refine ⟨h1, ?_⟩; rw [binOp_int rfl]; simp [Op.intCmp, bnot_eq]; rw [Bool.eq_iff_iff]; simp [← Bool.not_eq_true, beqIff]; try omega
  | lss => obtain rfl : j = k := hk.resolve_left (by decide); obtain ⟨h1, rfl⟩ := hfb h; refine ⟨h1, ?_⟩; rw [binOp_int rfl]; simp [Op.intCmp]; rw [Bool.eq_iff_iff]; simp [blt_iff]; try omega
  | leq => obtain rfl : j = k := hk.resolve_left (by decide); obtain ⟨h1, rfl⟩ := hfb h; refine ⟨h1, ?_⟩; rw [binOp_int rfl]; simp [Op.intCmp]; rw [Bool.eq_iff_iff]; simp [bleIff]; try omega
  | gtr => obtain rfl : j = k := hk.resolve_left (by decide); obtain ⟨h1, rfl⟩ := hfb h; refine ⟨h1, ?_⟩; rw [binOp_int rfl]; simp [Op.intCmp]; rw [Bool.eq_iff_iff]; simp [blt_iff]; try omega
  | geq => obtain rfl : j = k := hk.resolve_left (by decide); obtain ⟨h1, rfl⟩ := hfb h; refine ⟨h1, ?_⟩; rw [binOp_int rfl]; simp [Op.intCmp]; rw [Bool.eq_iff_iff]; simp [bleIff]; try omega
theorem intOp_run {op : BinOp} {t : TypeId} {j k : IntKind} {a b : Int} {v : Value} (h : intOp P op t j a k b = some v) (w : World) :
    flat v = true ∧ (binOp op t (.int j a) (.int k b)).run P w = .ok v w := by
  cases a with
  | negSucc m => have h' : slowInt P op t j (.negSucc m) k b = some v := h; have := flatPure_run h'; exact ⟨this.1, this.2 w⟩
  | ofNat m =>
    cases b with
    | negSucc n => have h' : slowInt P op t j (.ofNat m) k (.negSucc n) = some v := h; have := flatPure_run h'; exact ⟨this.1, this.2 w⟩
    | ofNat n =>
      have h' : bt (Bool.rec (sameK j k) true (isShift op)) (orElse (nOp op j m n) (slowInt P op t j (.ofNat m) k (.ofNat n))) = some v := h
      rw [bt_some] at h'
      obtain ⟨hk, h'⟩ := h'
      have hk' : isShift op = true ∨ j = k := by
        cases hs : isShift op with
        | true => exact .inl rfl
        | false => rw [hs] at hk; exact .inr (sameK_eq hk)
      cases hn : nOp op j m n with
      | some u => rw [hn] at h'; cases h'; exact nOp_run hk' hn w
      | none => rw [hn] at h'; have h'' : slowInt P op t j (.ofNat m) k (.ofNat n) = some v := h'; have := flatPure_run h''; exact ⟨this.1, this.2 w⟩
end Go.Ev
