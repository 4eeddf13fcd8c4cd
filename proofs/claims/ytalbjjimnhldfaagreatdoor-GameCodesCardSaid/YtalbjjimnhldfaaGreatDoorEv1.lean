/- The evaluator with variables: quiet operations whose operands are told by variables. -/
import Derived.Test.YtalbjjimnhldfaaGreatDoorEvU
import Derived.ChangeKeysEq
namespace Go.Ev
variable {P : Program} {σ : Sg} {w : World}
noncomputable section
def isSym : Value → Bool
  | .iface t _ => bnot (Nat.blt t SYM)
  | _ => false
def uval : Value → Value
  | .iface t v => Bool.rec (Bool.rec (.iface t v) (match v with
      | .agg ⟨[_, s]⟩ => s
      | _ => .iface t v) (Nat.beq t MN)) v (Nat.beq t SYM)
  | v => v
def tg (v : Value) : Value := .iface SYM v
abbrev tgI (k : IntKind) (z : Int) : Value := .iface SYM (.int k z)
def cpo {α : Type} (x : Option α) (f : α → Prop) : Prop := Option.rec False f x
def cpb (b : Bool) (p : Prop) : Prop := Bool.rec False p b
def sInt (j : IntKind) (x : Int) (K : Value → Prop) : Prop := ∀ z : Int, z = j.wrap x → K (tgI j z)
def sSet (j : IntKind) (x : Int) (K : Value → Prop) : Prop := ∀ z : Int, z = x → K (tgI j z)
def sIf (p : Prop) (K : Value → Prop) : Prop := (p → K (.bool true)) ∧ (¬ p → K (.bool false))
def bitsOf (op : BinOp) (j : IntKind) (m n : Int) : Int := match op with
  | .and => ((BitVec.ofInt j.bits m &&& BitVec.ofInt j.bits n).toNat : Int)
  | .or => ((BitVec.ofInt j.bits m ||| BitVec.ofInt j.bits n).toNat : Int)
  | .xor => ((BitVec.ofInt j.bits m ^^^ BitVec.ofInt j.bits n).toNat : Int)
  | _ => ((BitVec.ofInt j.bits m &&& ~~~ BitVec.ofInt j.bits n).toNat : Int)
def symInt (op : BinOp) (j : IntKind) (m n : Int) (K : Value → Prop) : Prop := match op with
  | .add => sInt j (m + n) K
  | .sub => sInt j (m - n) K
  | .mul => sInt j (m * n) K
  | .quo => n ≠ 0 ∧ sInt j (m.tdiv n) K
  | .rem => n ≠ 0 ∧ sSet j (m.tmod n) K
  | .and => sInt j (bitsOf .and j m n) K
  | .or => sInt j (bitsOf .or j m n) K
  | .xor => sInt j (bitsOf .xor j m n) K
  | .andNot => sInt j (bitsOf .andNot j m n) K
  | .shl => 0 ≤ n ∧ sInt j (m * 2 ^ (min n.toNat j.bits)) K
  | .shr => 0 ≤ n ∧ sSet j (m.fdiv (2 ^ (min n.toNat j.bits))) K
  | .eql => sIf (m = n) K
  | .neq => sIf (m ≠ n) K
  | .lss => sIf (m < n) K
  | .leq => sIf (m ≤ n) K
  | .gtr => sIf (n < m) K
  | .geq => sIf (n ≤ m) K
def symBool (op : BinOp) (a b : Bool) (K : Value → Prop) : Prop := match op with
  | .eql => sIf (a = b) K
  | .neq => sIf (a ≠ b) K
  | _ => False
def symStr (op : BinOp) (a b : ByteArray) (K : Value → Prop) : Prop := match op with
  | .eql => sIf (a.data.toList = b.data.toList) K
  | .neq => sIf (a.data.toList ≠ b.data.toList) K
  | .add => a.data.toList.length + b.data.toList.length ≤ 1099511627776 ∧ ∀ s, s = a.data.toList ++ b.data.toList → K (tg (mkStr s))
  | _ => False
def symBin (P : Program) (op : BinOp) (t : TypeId) (a b : Value) (K : Value → Prop) : Prop := match a with
  | .int j m => match b with
    | .int k n => cpb (Bool.rec (sameK j k) true (isShift op)) (symInt op j m n K)
    | _ => False
  | .bool p => match b with
    | .bool q => cpo (P.underlying t) fun d => cpb (boolD d) (symBool op p q K)
    | _ => False
  | .string s => match b with
    | .string u => symStr op s u K
    | _ => False
  | _ => False
def ibs : Value → Bool
  | .int _ _ | .bool _ | .string _ => true
  | _ => false
def BinSem (P : Program) (op : BinOp) (t : TypeId) (xo yo : Operand) (a b v : Value) : Prop := ∀ (σ : Sg) (w : World), ∃ u, VR σ v u ∧ (do eqGuard op t xo yo a b; binOp op t a b).run P w = .ok u w
theorem cpo_iff {α : Type} {x : Option α} {f : α → Prop} : cpo x f ↔ ∃ y, x = some y ∧ f y := by cases x <;> simp [cpo]
theorem cpb_iff {b : Bool} {p : Prop} : cpb b p ↔ b = true ∧ p := by cases b <;> simp [cpb]
theorem tgI_vr (k : IntKind) (z : Int) : VR σ (tgI k z) (.int k z) := .sym rfl (.flat rfl)
theorem int_guard {op : BinOp} {t : TypeId} {xo yo : Operand} {j k : IntKind} {m n : Int} {u : Value} {w : World} (h : (binOp op t (.int j m) (.int k n)).run P w = .ok u w) :
    (do eqGuard op t xo yo (.int j m) (.int k n); binOp op t (.int j m) (.int k n)).run P w = .ok u w := by
  simp [eqGuard_plain (a := .int j m) (by simp) (by simp), h]
theorem symInt_sound {op : BinOp} {t : TypeId} {j k : IntKind} {m n : Int} {K : Value → Prop} (hk : isShift op = true ∨ j = k) (h : symInt op j m n K) :
    ∃ v u, K v ∧ (∀ σ, VR σ v u) ∧ ∀ w, (binOp op t (.int j m) (.int k n)).run P w = .ok u w := by
  have hcmp : ∀ {p : Prop} [Decidable p], sIf p K → ∃ v, K v ∧ v = .bool (decide p) := fun {p} _ h => by
    by_cases hp : p
    · exact ⟨_, h.1 hp, by simp [hp]⟩
    · exact ⟨_, h.2 hp, by simp [hp]⟩
  have hI : ∀ (x : Int), sInt j x K → ∃ v u, K v ∧ (∀ σ, VR σ v u) ∧ u = .int j (j.wrap x) := fun x h => ⟨_, _, h _ rfl, fun σ => tgI_vr _ _, rfl⟩
  have hS : ∀ (x : Int), sSet j x K → ∃ v u, K v ∧ (∀ σ, VR σ v u) ∧ u = .int j x := fun x h => ⟨_, _, h _ rfl, fun σ => tgI_vr _ _, rfl⟩
  have same : isShift op = false → j = k := fun e => hk.resolve_left (by rw [e]; simp)
  cases op with
  | add => obtain rfl := same rfl; obtain ⟨v, u, h1, h2, rfl⟩ := hI _ h; exact ⟨v, _, h1, h2, fun w => by rw [binOp_int rfl]; rfl⟩
  | sub => obtain rfl := same rfl; obtain ⟨v, u, h1, h2, rfl⟩ := hI _ h; exact ⟨v, _, h1, h2, fun w => by rw [binOp_int rfl]; rfl⟩
  | mul => obtain rfl := same rfl; obtain ⟨v, u, h1, h2, rfl⟩ := hI _ h; exact ⟨v, _, h1, h2, fun w => by rw [binOp_int rfl]; rfl⟩
  | quo => obtain rfl := same rfl; obtain ⟨v, u, h1, h2, rfl⟩ := hI _ h.2; exact ⟨v, _, h1, h2, fun w => by rw [binOp_int rfl]; simp only [Op.intDiv]; rw [if_neg h.1]; rfl⟩
  | rem => obtain rfl := same rfl; obtain ⟨v, u, h1, h2, rfl⟩ := hS _ h.2; exact ⟨v, _, h1, h2, fun w => by rw [binOp_int rfl]; simp only [Op.intDiv]; rw [if_neg h.1]; rfl⟩
  | and => obtain rfl := same rfl; obtain ⟨v, u, h1, h2, rfl⟩ := hI _ h; exact ⟨v, _, h1, h2, fun w => by rw [binOp_int rfl]; rfl⟩
  | or => obtain rfl := same rfl; obtain ⟨v, u, h1, h2, rfl⟩ := hI _ h; exact ⟨v, _, h1, h2, fun w => by rw [binOp_int rfl]; rfl⟩
  | xor => obtain rfl := same rfl; obtain ⟨v, u, h1, h2, rfl⟩ := hI _ h; exact ⟨v, _, h1, h2, fun w => by rw [binOp_int rfl]; rfl⟩
  | andNot => obtain rfl := same rfl; obtain ⟨v, u, h1, h2, rfl⟩ := hI _ h; exact ⟨v, _, h1, h2, fun w => by rw [binOp_int rfl]; rfl⟩
  | shl =>
    obtain ⟨v, u, h1, h2, rfl⟩ := hI _ h.2
    refine ⟨v, _, h1, h2, fun w => ?_⟩
    have h3 := h.1
    simp only [binOp, Op.shift]
    rw [if_neg (by omega)]; rfl
  | shr =>
    obtain ⟨v, u, h1, h2, rfl⟩ := hS _ h.2
    refine ⟨v, _, h1, h2, fun w => ?_⟩
    have h3 := h.1
    simp only [binOp, Op.shift]
    rw [if_neg (by omega)]; rfl
  | eql => obtain rfl := same rfl; obtain ⟨v, h1, rfl⟩ := hcmp h; exact ⟨_, _, h1, fun σ => .flat rfl, fun w => by rw [binOp_int rfl]; simp only [Op.intCmp, Sem.run_pure]; congr 2⟩
  | neq => obtain rfl := same rfl; obtain ⟨v, h1, rfl⟩ := hcmp h; exact ⟨_, _, h1, fun σ => .flat rfl, fun w => by rw [binOp_int rfl]; simp only [Op.intCmp, Sem.run_pure]; congr 2; rw [Bool.eq_iff_iff]; simp⟩
  | lss => obtain rfl := same rfl; obtain ⟨v, h1, rfl⟩ := hcmp h; exact ⟨_, _, h1, fun σ => .flat rfl, fun w => by rw [binOp_int rfl]; rfl⟩
  | leq => obtain rfl := same rfl; obtain ⟨v, h1, rfl⟩ := hcmp h; exact ⟨_, _, h1, fun σ => .flat rfl, fun w => by rw [binOp_int rfl]; rfl⟩
  | gtr => obtain rfl := same rfl; obtain ⟨v, h1, rfl⟩ := hcmp h; exact ⟨_, _, h1, fun σ => .flat rfl, fun w => by rw [binOp_int rfl]; rfl⟩
  | geq => obtain rfl := same rfl; obtain ⟨v, h1, rfl⟩ := hcmp h; exact ⟨_, _, h1, fun σ => .flat rfl, fun w => by rw [binOp_int rfl]; rfl⟩
theorem symBin_sound {op : BinOp} {t : TypeId} {xo yo : Operand} {a b : Value} {K : Value → Prop} (h : symBin P op t a b K) : ∃ v, K v ∧ BinSem P op t xo yo a b v ∧ ibs a = true ∧ ibs b = true := by
  unfold symBin at h
  split at h
  · split at h
    · rw [cpb_iff] at h
      obtain ⟨hk, h⟩ := h
      rename_i j m _ k n
      have hk' : isShift op = true ∨ j = k := by
        cases hs : isShift op with
        | true => exact .inl rfl
        | false => rw [hs] at hk; exact .inr (sameK_eq hk)
      obtain ⟨v, u, h1, h2, h3⟩ := symInt_sound (P := P) (t := t) hk' h
      exact ⟨v, h1, fun σ w => ⟨u, h2 σ, int_guard (h3 w)⟩, rfl, rfl⟩
    · exact h.elim
  · split at h
    · rename_i p _ q
      rw [cpo_iff] at h
      obtain ⟨d, hd, h⟩ := h
      rw [cpb_iff] at h
      obtain ⟨hb, h⟩ := h
      have hdb : d = .bool := by cases d <;> first | rfl | (cases hb)
      subst hdb
      have he : ∀ w, (Op.equal t (.bool p) (.bool q)).run P w = .ok (p == q) w := fun w => by obtain ⟨N, hN⟩ := equal_eq; rw [hN]; simp [Op.equalIn, run_under hd]
      have hg : ∀ (op : BinOp) (w : World), (eqGuard op t xo yo (.bool p) (.bool q)).run P w = .ok () w := fun op w => eqGuard_plain (by simp) (by simp) w
      cases op with
      | eql =>
        refine ⟨.bool (p == q), ?_, fun σ w => ⟨_, .flat rfl, by simp [hg, (binOp_eql (P := P) (t := t) (x := .bool p) (y := .bool q) rfl _ w (he w)).1]⟩, rfl, rfl⟩
        cases p <;> cases q <;> first | exact h.1 rfl | exact h.2 (by decide)
      | neq =>
        refine ⟨.bool !(p == q), ?_, fun σ w => ⟨_, .flat rfl, by simp [hg, (binOp_eql (P := P) (t := t) (x := .bool p) (y := .bool q) rfl _ w (he w)).2]⟩, rfl, rfl⟩
        cases p <;> cases q <;> first | exact h.1 (by decide) | exact h.2 (by decide)
      | _ => exact h.elim
    · exact h.elim
  · split at h
    · rename_i s _ u
      have hs : s.toList = s.data.toList := ByteArray.toList_eq s
      have hu : u.toList = u.data.toList := ByteArray.toList_eq u
      have hg : ∀ (op : BinOp) (w : World), (eqGuard op t xo yo (.string s) (.string u)).run P w = .ok () w := fun op w => eqGuard_plain (by simp) (by simp) w
      cases op with
      | eql =>
        by_cases hp : s.data.toList = u.data.toList
        · exact ⟨_, h.1 hp, fun σ w => ⟨_, .flat rfl, by simp [hg, binOp, Op.stringOp, hs, hu, hp]⟩, rfl, rfl⟩
        · have hp' : ¬ s.data = u.data := fun e => hp (by rw [e])
          exact ⟨_, h.2 hp, fun σ w => ⟨_, .flat rfl, by simp [hg, binOp, Op.stringOp, hs, hu, hp']⟩, rfl, rfl⟩
      | neq =>
        by_cases hp : s.data.toList = u.data.toList
        · exact ⟨_, h.2 (fun e => e hp), fun σ w => ⟨_, .flat rfl, by simp [hg, binOp, Op.stringOp, hs, hu, hp]⟩, rfl, rfl⟩
        · have hp' : ¬ s.data = u.data := fun e => hp (by rw [e])
          exact ⟨_, h.1 hp, fun σ w => ⟨_, .flat rfl, by simp [hg, binOp, Op.stringOp, hs, hu, hp']⟩, rfl, rfl⟩
      | add =>
        refine ⟨_, h.2 _ rfl, fun σ w => ⟨mkStr (s.data.toList ++ u.data.toList), .sym rfl (.flat rfl), ?_⟩, rfl, rfl⟩
        have := strOp_run (P := P) (op := .add) (t := t) (a := s) (b := u) (v := mkStr (s.data.toList ++ u.data.toList)) (by unfold strOp; simp only; rw [bt_some]; exact ⟨bleIff.2 h.1, rfl⟩) w
        simp [hg, this.2]
      | _ => exact h.elim
    · exact h.elim
  · exact h.elim
end
end Go.Ev

/- The evaluator with variables: every quiet operation. -/
section
namespace Go.Ev
variable {P : Program} {σ : Sg} {w : World}
theorem VR.sym_inv {v v' : Value} (h : VR σ (.iface SYM v) v') : isScal v = true ∧ VR σ v v' := by
  cases h with
  | iface e _ => exact absurd e noSYM
  | flat e => cases e
  | sym e a => exact ⟨e, a⟩
theorem uval_sym (v : Value) : uval (.iface SYM v) = v := rfl
theorem uval_int {v v' : Value} {k : IntKind} {n : Int} (h : VR σ v v') (e : uval v = .int k n) : v' = .int k n := by
  cases h with
  | flat f => cases v <;> first | (cases f; done) | (cases e; done) | (cases e; rfl)
  | sym s a => rw [uval_sym] at e; subst e; exact a.of_flat rfl
  | iface hlt a =>
    rename_i t u u'
    have h1 : Nat.beq t SYM = false := by cases hb : Nat.beq t SYM with
      | false => rfl
      | true => rw [beqIff.1 hb] at hlt; exact absurd hlt noSYM
    have h2 : Nat.beq t MN = false := by cases hb : Nat.beq t MN with
      | false => rfl
      | true => rw [beqIff.1 hb] at hlt; exact absurd hlt noMN
    simp only [uval, h1, h2] at e; cases e
  | any => cases e
  | mnil => cases e
  | mn => cases e
  | _ => cases e
theorem uval_bool {v v' : Value} {b : Bool} (h : VR σ v v') (e : uval v = .bool b) : v' = .bool b := by
  cases h with
  | flat f => cases v <;> first | (cases f; done) | (cases e; done) | (cases e; rfl)
  | sym s a => rw [uval_sym] at e; subst e; exact a.of_flat rfl
  | iface hlt a =>
    rename_i t u u'
    have h1 : Nat.beq t SYM = false := by cases hb : Nat.beq t SYM with
      | false => rfl
      | true => rw [beqIff.1 hb] at hlt; exact absurd hlt noSYM
    have h2 : Nat.beq t MN = false := by cases hb : Nat.beq t MN with
      | false => rfl
      | true => rw [beqIff.1 hb] at hlt; exact absurd hlt noMN
    simp only [uval, h1, h2] at e; cases e
  | any => cases e
  | mnil => cases e
  | mn => cases e
  | _ => cases e
theorem uval_str {v v' : Value} {s : ByteArray} (h : VR σ v v') (e : uval v = .string s) : v' = .string s := by
  cases h with
  | flat f => cases v <;> first | (cases f; done) | (cases e; done) | (cases e; rfl)
  | sym s a => rw [uval_sym] at e; subst e; exact a.of_flat rfl
  | iface hlt a =>
    rename_i t u u'
    have h1 : Nat.beq t SYM = false := by cases hb : Nat.beq t SYM with
      | false => rfl
      | true => rw [beqIff.1 hb] at hlt; exact absurd hlt noSYM
    have h2 : Nat.beq t MN = false := by cases hb : Nat.beq t MN with
      | false => rfl
      | true => rw [beqIff.1 hb] at hlt; exact absurd hlt noMN
    simp only [uval, h1, h2] at e; cases e
  | any => cases e
  | mnil => cases e
  | mn => cases e
  | _ => cases e
theorem uval_ptr {v v' : Value} {a : Addr} (h : VR σ v v') (e : uval v = .pointer (some a)) : VR σ (.pointer (some a)) v' := by
  cases h with
  | flat f => cases v <;> first | (cases f; done) | (cases e; done) | (cases e; exact .flat f)
  | ptr g => cases e; exact .ptr g
  | sym s b => rw [uval_sym] at e; subst e; exact b
  | iface hlt b =>
    rename_i t u u'
    have h1 : Nat.beq t SYM = false := by cases hb : Nat.beq t SYM with
      | false => rfl
      | true => rw [beqIff.1 hb] at hlt; exact absurd hlt noSYM
    have h2 : Nat.beq t MN = false := by cases hb : Nat.beq t MN with
      | false => rfl
      | true => rw [beqIff.1 hb] at hlt; exact absurd hlt noMN
    simp only [uval, h1, h2] at e; cases e
  | any => cases e
  | mnil => cases e
  | mn => cases e
  | _ => cases e
theorem uval_slice {v v' : Value} {a : Option Addr} {l c : Nat} (h : VR σ v v') (e : uval v = .slice a l c) : VR σ (.slice a l c) v' ∨ (v' = .slice none 0 0 ∧ l = 0 ∧ c = 0) := by
  cases h with
  | flat f => cases v <;> first | (cases f; done) | (cases e; done) | (cases e; exact .inl (.flat f))
  | slice g => cases e; exact .inl (.slice g)
  | sym s b => rw [uval_sym] at e; subst e; exact .inl b
  | iface hlt b =>
    rename_i t u u'
    have h1 : Nat.beq t SYM = false := by cases hb : Nat.beq t SYM with
      | false => rfl
      | true => rw [beqIff.1 hb] at hlt; exact absurd hlt noSYM
    have h2 : Nat.beq t MN = false := by cases hb : Nat.beq t MN with
      | false => rfl
      | true => rw [beqIff.1 hb] at hlt; exact absurd hlt noMN
    simp only [uval, h1, h2] at e; cases e
  | any => cases e
  | mnil _ e1 e2 => cases e; exact .inr ⟨rfl, e1, e2⟩
  | mn _ g => cases e; exact .inl (.slice g)
  | _ => cases e
noncomputable section
inductive SK where
  | i (k : IntKind) | b | s
def catK (x : Option (List SK)) (y : Option (List SK)) : Option (List SK) := ob x fun a => ob y fun b => some (a ++ b)
def kindsF (rec_ : TypeId → Option (List SK)) (l : List Field) : Option (List SK) := List.rec (some []) (fun f _ ih => catK (rec_ f.type) ih) l
def kindsN (x : Option (List SK)) (n : Nat) : Option (List SK) := Nat.rec (some []) (fun _ ih => catK x ih) n
def kindsD (rec_ : TypeId → Option (List SK)) : TypeDesc → Option (List SK)
  | .int k => some [.i k]
  | .bool => some [.b]
  | .string => some [.s]
  | .struct fs => kindsF rec_ fs.toList
  | .array n e => kindsN (rec_ e) n
  | _ => none
def kinds (P : Program) (n : Nat) : TypeId → Option (List SK) := Nat.rec (motive := fun _ => TypeId → Option (List SK)) (fun _ => none) (fun _ ih t => ob (P.underlying t) (kindsD ih)) n
def Rd (c : List Value) (o : Nat) (v : Value) : Prop := c[o]? = some v ∨ c[o]? = some (tg v)
def rd1 (sk : SK) (c : List Value) (o : Nat) (K : Value → Prop) : Prop := match sk with
  | .i k => ∃ z : Int, Rd c o (.int k z) ∧ K (tgI k z)
  | .b => ∃ b : Bool, Rd c o (.bool b) ∧ K (tg (.bool b))
  | .s => ∃ s : List UInt8, Rd c o (mkStr s) ∧ K (tg (mkStr s))
def rdAll (ks : List SK) (c : List Value) (o : Nat) : Nat → (List Value → Prop) → Prop := List.rec (motive := fun _ => Nat → (List Value → Prop) → Prop) (fun _ K => K [])
  (fun k _ ih j K => rd1 k c (Nat.add o j) fun v => ih (Nat.succ j) fun vs => K (v :: vs)) ks
def oneOf (vs : List Value) (K : Value → Prop) : Prop := match vs with
  | [v] => K v
  | _ => False
def symLoad (P : Program) (t : TypeId) (H : T AO) (v : Value) (K : Value → Prop) : Prop := cpo (ptrV v) fun a => match a with
  | ⟨b, o, none⟩ => cpo (rowAt H b fun c _ _ => some c) fun c => cpo (kinds P 8 t) fun ks => cpo (isAggA P t) fun ag =>
    Bool.rec (rdAll ks c o 0 fun vs => oneOf vs K) (cpo (sizeA P t) fun n => cpb (lenB ks n) (rdAll ks c o 0 fun vs => K (.agg ⟨vs⟩))) ag
  | _ => False
def symUn (op : UnOp) (v : Value) (K : Value → Prop) : Prop := match op with
  | .neg => match v with
    | .int k n => sInt k (0 - n) K
    | _ => False
  | .xor => match v with
    | .int k n => sInt k (bitsOf .xor k (if k.signed then -1 else k.max) n) K
    | _ => False
  | .not => match v with
    | .bool b => (b = true → K (.bool false)) ∧ (b = false → K (.bool true))
    | _ => False
  | _ => False
def symConv (P : Program) (s d : TypeId) (v : Value) (K : Value → Prop) : Prop := match v with
  | .int _ n => cpo (P.underlying s) fun _ => cpo (ob (P.underlying d) intD) fun k => sInt k n K
  | _ => False
def symLen (P : Program) (t : TypeId) (v : Value) (K : Value → Prop) : Prop := cpo (P.underlying t) fun d => match d with
  | .string => match v with
    | .string s => sSet .i64 (s.data.toList.length : Int) K
    | _ => False
  | .slice _ => match v with
    | .slice _ n _ => sSet .i64 (n : Int) K
    | _ => False
  | _ => False
def symIdx (P : Program) (e : TypeId) (a : Option Addr) (len : Nat) (i : Value) (K : Value → Prop) : Prop := cpo a fun a => match a with
  | ⟨b, o, none⟩ => cpo (sizeA P e) fun n => match i with
    | .int _ z => (0 ≤ z ∧ z < len) ∧ ∀ p : Nat, p = o + z.toNat * n → K (tg (.pointer (some ⟨b, p, none⟩)))
    | _ => False
  | _ => False
def symIndexAddr (P : Program) (t : TypeId) (x i : Value) (K : Value → Prop) : Prop := cpo (P.underlying t) fun d => match d with
  | .array len e => match x with
    | .pointer a => symIdx P e a len i K
    | _ => False
  | .slice e => match x with
    | .slice a len _ => symIdx P e a len i K
    | _ => False
  | _ => False
def symIndex (P : Program) (t : TypeId) (x i : Value) (K : Value → Prop) : Prop := cpo (P.underlying t) fun d => match d with
  | .string => match x with
    | .string s => match i with
      | .int _ z => (0 ≤ z ∧ z < s.data.toList.length) ∧ ∀ b : UInt8, s.data.toList[z.toNat]? = some b → K (tgI .u8 b.toNat)
      | _ => False
    | _ => False
  | _ => False
def mmOf (b : Builtin) (m n : Int) : Int := match b with
  | .min => min m n
  | _ => max m n
def symMM (b : Builtin) (vs : List Value) (K : Value → Prop) : Prop := match vs with
  | [x, y] => match uval x with
    | .int j m => match uval y with
      | .int _ n => sSet j (mmOf b m n) K
      | _ => False
    | _ => False
  | _ => False
def mnB : Value → Option Bool
  | .iface t v => Bool.rec none (match v with
    | .agg ⟨[.bool b, _]⟩ => some b
    | _ => none) (Nat.beq t MN)
  | _ => none
def nilV : Value → Bool
  | .slice none 0 0 => true
  | _ => false
def sliceK (P : Program) (t : TypeId) : Bool := Option.rec false (fun d => match d with
  | .slice _ => true
  | _ => false) (P.underlying t)
def symNil (P : Program) (op : BinOp) (t : TypeId) (b : Bool) (K : Value → Prop) : Prop := cpb (sliceK P t) (match op with
  | .eql => (b = true → K (.bool true)) ∧ (b = false → K (.bool false))
  | .neq => (b = true → K (.bool false)) ∧ (b = false → K (.bool true))
  | _ => False)
def two (o : Op) (P : Program) (F : T Value) (H : T AO) (x y : Operand) (K : Value → Prop) (s : Value → Value → Prop) : Prop := cpo (opnd P F x) fun a => cpo (opnd P F y) fun b =>
  Bool.rec (cpo (evQ o P F H) K) (s a b) (isSym a || isSym b)
def one (o : Op) (P : Program) (F : T Value) (H : T AO) (x : Operand) (K : Value → Prop) (s : Value → Prop) : Prop := cpo (opnd P F x) fun a =>
  Bool.rec (cpo (evQ o P F H) K) (s (uval a)) (isSym a)
def anySym (l : List Value) : Bool := List.rec false (fun v _ ih => Bool.rec ih true (isSym v)) l
def symB (P : Program) (op : BinOp) (t : TypeId) (a b : Value) (K : Value → Prop) : Prop := Option.rec (symBin P op t (uval a) (uval b) K) (fun nb => cpb (nilV b) (symNil P op t nb K)) (mnB a)
def symCall (c : Call) (o : Op) (P : Program) (F : T Value) (H : T AO) (K : Value → Prop) : Prop := match c.callee with
  | .builtin .len => cpo (lget c.argTypes.toList 0) fun t => cpo (lget c.args.toList 0) fun x => one o P F H x K fun a => symLen P t a K
  | .builtin .min => cpo (opnds P F c.args.toList) fun vs => Bool.rec (cpo (evQ o P F H) K) (symMM .min vs K) (anySym vs)
  | .builtin .max => cpo (opnds P F c.args.toList) fun vs => Bool.rec (cpo (evQ o P F H) K) (symMM .max vs K) (anySym vs)
  | _ => cpo (evQ o P F H) K
def mnWays (v : Value) (f : Value → Prop) : Prop := Option.rec (f (uval v)) (fun b => (b = true → f (.slice none 0 0)) ∧ (b = false → f (uval v))) (mnB v)
def numO (d : Int) (v : Option Value) : Option Int := Option.rec (some d) (fun v => match uval v with
  | .int _ z => some z
  | _ => none) v
def symO (v : Option Value) : Bool := Option.rec false isSym v
def symSl (H : T AO) (n b o len cap : Nat) (l h : Int) (K : Value → Prop) : Prop := cpo (H.get b) fun x => match x with
  | .row _ _ m => ((0 ≤ l ∧ l ≤ h ∧ h ≤ cap) ∧ (m.roomy = true → h ≤ len ∧ (l = 0 ∨ l < cap))) ∧ ∀ p q c : Nat, p = (if cap = l.toNat then o else o + l.toNat * n) → q = h.toNat - l.toNat → c = cap - l.toNat → K (tg (.slice (some ⟨b, p, none⟩) q c))
  | _ => False
def symSlice (P : Program) (H : T AO) (t : TypeId) (lo hi : Option Value) (K : Value → Prop) (x : Value) : Prop := cpo (P.underlying t) fun d => match d with
  | .slice e => match x with
    | .slice a len cap => cpo (sizeA P e) fun n => cpo (numO 0 lo) fun l => cpo (numO len hi) fun h => match a with
      | some ⟨b, o, none⟩ => symSl H n b o len cap l h K
      | none => cpb (Nat.beq (Nat.add len cap) 0) ((l = 0 ∧ h = 0) ∧ K (.slice none 0 0))
      | _ => False
    | _ => False
  | _ => False
def symS (o : Op) (P : Program) (F : T Value) (H : T AO) (t : TypeId) (x : Operand) (lo hi : Option Operand) (K : Value → Prop) : Prop := cpo (opnd P F x) fun a => cpo (optOp P F lo) fun l => cpo (optOp P F hi) fun h =>
  Bool.rec (cpo (evQ o P F H) K) (mnWays a (symSlice P H t l h K)) (isSym a || (symO l || symO h))
def eqC (d : TypeDesc) (x y : Value) : Option (List (Value × Value)) := match d with
  | .int _ => match x with
    | .int j _ => match y with
      | .int k _ => bt (sameK j k) (some [(x, y)])
      | _ => none
    | _ => none
  | .bool => match x with
    | .bool _ => match y with
      | .bool _ => some [(x, y)]
      | _ => none
    | _ => none
  | .string => match x with
    | .string _ => match y with
      | .string _ => some [(x, y)]
      | _ => none
    | _ => none
  | _ => none
abbrev Prs := Option (List (Value × Value))
def catP (x y : Prs) : Prs := ob x fun a => ob y fun b => some (a ++ b)
def eqPF (P : Program) (f : TypeId → Value → Value → Prs) (xs ys : List Value) (fs : List Field) : Prs := List.rec (some []) (fun fd _ ih =>
  Bool.rec (ob (partA P fd.type xs fd.offset) fun a => ob (partA P fd.type ys fd.offset) fun b => catP (f fd.type a b) ih) none (decide (fd.name = "_"))) fs
def eqPR (P : Program) (f : Value → Value → Prs) (e : TypeId) (n : Nat) (xs ys : List Value) (is : List Nat) : Prs := List.rec (some []) (fun i _ ih =>
  ob (partA P e xs (Nat.mul i n)) fun a => ob (partA P e ys (Nat.mul i n)) fun b => catP (f a b) ih) is
def eqPD (P : Program) (f : TypeId → Value → Value → Prs) (t : TypeId) (d : TypeDesc) (x y : Value) : Prs := match d with
  | .struct fs => bt (bnot (P.stoodInHeld t)) (ob (aggV x) fun xs => ob (aggV y) fun ys => eqPF P f xs ys fs.toList)
  | .array len e => ob (aggV x) fun xs => ob (aggV y) fun ys => ob (sizeA P e) fun n => eqPR P (f e) e n xs ys (List.range len)
  | d => eqC d (uval x) (uval y)
def eqP (P : Program) (n : Nat) : TypeId → Value → Value → Prs := Nat.rec (motive := fun _ => TypeId → Value → Value → Prs) (fun _ _ _ => none) (fun _ ih t x y => ob (P.underlying t) fun d => eqPD P ih t d x y) n
def eqv (x y : Value) : Prop := match x with
  | .int _ m => match y with
    | .int _ n => m = n
    | _ => False
  | .bool p => match y with
    | .bool q => p = q
    | _ => False
  | .string s => match y with
    | .string u => s.data.toList = u.data.toList
    | _ => False
  | _ => False
def conj (l : List (Value × Value)) : Prop := List.rec True (fun p _ ih => eqv p.1 p.2 ∧ ih) l
def symAgg (P : Program) (op : BinOp) (t : TypeId) (a b : Value) (K : Value → Prop) : Prop := cpb (bnot (P.eqGuardType P.depth t)) (cpo (aggV a) fun _ => cpo (aggV b) fun _ => cpo (eqP P 8 t a b) fun l => match op with
  | .eql => (conj l → K (.bool true)) ∧ (¬ conj l → K (.bool false))
  | .neq => (¬ conj l → K (.bool true)) ∧ (conj l → K (.bool false))
  | _ => False)
def symArr (P : Program) (t : TypeId) (v : Value) (K : Value → Prop) : Prop := cpo (arrayT P t) fun q => match v with
  | .slice (some a) len _ => q.1 ≤ len ∧ K (tg (.pointer (some a)))
  | _ => False
def symCells (v : Value) : Bool := match v with
  | .agg c => anySym c.toList
  | _ => false
def symQ (P : Program) (o : Op) (F : T Value) (H : T AO) (K : Value → Prop) : Prop := match o with
  | .binOp op t x y _ => cpo (opnd P F x) fun a => cpo (opnd P F y) fun b => Bool.rec (Bool.rec (cpo (evQ o P F H) K) (symB P op t a b K) (isSym a || isSym b)) (symAgg P op t a b K) (symCells a || symCells b)
  | .sliceToArrayPointer t x => cpo (opnd P F x) fun a => Bool.rec (cpo (evQ o P F H) K) (Option.rec (symArr P t (uval a) K) (fun _ => False) (mnB a)) (isSym a)
  | .unOp op _ x => one o P F H x K fun a => symUn op a K
  | .convert s d x => one o P F H x K fun a => symConv P s d a K
  | .load t x => one o P F H x K fun a => symLoad P t H a K
  | .indexAddr t x i => two o P F H x i K fun a b => symIndexAddr P t (uval a) (uval b) K
  | .index t x i => two o P F H x i K fun a b => symIndex P t (uval a) (uval b) K
  | .pick c x y => cpo (opnd P F c) fun a => Bool.rec (cpo (evQ o P F H) K) (match uval a with
    | .bool b => (b = true → cpo (opnd P F x) K) ∧ (b = false → cpo (opnd P F y) K)
    | _ => False) (isSym a)
  | .call c => symCall c o P F H K
  | .slice t x lo hi mx => Option.rec (symS o P F H t x lo hi K) (fun _ => cpo (evQ o P F H) K) mx
  | o => cpo (evQ o P F H) K
end
end Go.Ev
end

/- The evaluator with variables: what it tells of a quiet operation is so. -/
section
namespace Go.Ev
variable {P : Program} {σ : Sg} {w : World}
theorem rd1_some {sk : SK} {c : List Value} {o : Nat} {K : Value → Prop} (h : rd1 sk c o K) : ∃ v, isScal v = true ∧ Rd c o v ∧ K (tg v) := by
  cases sk with
  | i k => obtain ⟨z, h1, h2⟩ := h; exact ⟨_, rfl, h1, h2⟩
  | b => obtain ⟨z, h1, h2⟩ := h; exact ⟨_, rfl, h1, h2⟩
  | s => obtain ⟨z, h1, h2⟩ := h; exact ⟨_, rfl, h1, h2⟩
inductive TgL : List Value → List Value → Prop
  | nil : TgL [] []
  | cons {v u : Value} {l m : List Value} : isScal v = true → (u = v ∨ u = tg v) → TgL l m → TgL (tg v :: l) (u :: m)
theorem TgL.vr {l m m' : List Value} (h : TgL l m) (k : VRL σ m m') : VRL σ l m' := by
  induction h generalizing m' with
  | nil => exact k
  | cons e f _ ih =>
    cases k with
    | cons a b =>
      refine .cons ?_ (ih b)
      rcases f with rfl | rfl
      · exact .sym e a
      · exact a
theorem TgL.length {l m : List Value} (h : TgL l m) : l.length = m.length := by induction h <;> simp_all
theorem rdAll_some : ∀ {ks : List SK} {c : List Value} {o j : Nat} {K : List Value → Prop}, rdAll ks c o j K → ∃ vs us, TgL vs us ∧ us.length = ks.length ∧ (∀ i u, us[i]? = some u → c[o + (j + i)]? = some u) ∧ K vs := by
  intro ks
  induction ks with
  | nil => intro c o j K h; exact ⟨[], [], .nil, rfl, fun i u h => by simp at h, h⟩
  | cons k ks ih =>
    intro c o j K h
    have h : rd1 k c (Nat.add o j) (fun v => rdAll ks c o (Nat.succ j) fun vs => K (v :: vs)) := h
    obtain ⟨v, hs, hr, h⟩ := rd1_some h
    obtain ⟨vs, us, h1, h2, h3, h4⟩ := ih h
    have hr : c[o + j]? = some v ∨ c[o + j]? = some (tg v) := hr
    rcases hr with hr | hr
    · refine ⟨_, v :: us, .cons hs (.inl rfl) h1, by simp [h2], fun i u hu => ?_, h4⟩
      cases i with
      | zero => simp at hu; subst hu; exact hr
      | succ i => have := h3 i u (by simpa using hu); rw [show o + (j + (i + 1)) = o + (Nat.succ j + i) by omega]; exact this
    · refine ⟨_, tg v :: us, .cons hs (.inr rfl) h1, by simp [h2], fun i u hu => ?_, h4⟩
      cases i with
      | zero => simp at hu; subst hu; exact hr
      | succ i => have := h3 i u (by simpa using hu); rw [show o + (j + (i + 1)) = o + (Nat.succ j + i) by omega]; exact this
theorem lsub_of {α : Type} {l : List α} {off n : Nat} (h : off + n ≤ l.length) : lsub l off n = some ((l.drop off).take n) := by
  have hd : ∀ (off : Nat) (l : List α), off ≤ l.length → ldrop off l = some (l.drop off) := by
    intro off
    induction off with
    | zero => intro l _; rfl
    | succ k ih => intro l h; cases l with
      | nil => simp at h
      | cons x l => exact ih l (by simpa using h)
  have ht : ∀ (n : Nat) (l : List α), n ≤ l.length → ltake n l = some (l.take n) := by
    intro n
    induction n with
    | zero => intro l _; rfl
    | succ k ih => intro l h; cases l with
      | nil => simp at h
      | cons x l =>
        show ocons x (ltake k l) = _
        rw [ih l (by simpa using h)]; rfl
  unfold lsub
  rw [hd off l (by omega)]
  exact ht n _ (by simp; omega)
theorem take_drop_of {c us : List Value} {o n : Nat} (hn : us.length = n) (h : ∀ i u, us[i]? = some u → c[o + i]? = some u) : o + n ≤ c.length ∨ n = 0 := by
  rcases Nat.eq_zero_or_pos n with e | e
  · exact .inr e
  · refine .inl ?_
    have hl : n - 1 < us.length := by omega
    have := h (n - 1) _ (List.getElem?_eq_getElem hl)
    have := (List.getElem?_eq_some_iff.1 this).1
    omega
theorem take_drop_eq {c us : List Value} {o n : Nat} (hn : us.length = n) (hle : o + n ≤ c.length) (h : ∀ i u, us[i]? = some u → c[o + i]? = some u) : (c.drop o).take n = us := by
  apply List.ext_getElem?
  intro i
  rw [List.getElem?_take]
  by_cases hi : i < n
  · rw [if_pos hi, List.getElem?_drop]
    have := List.getElem?_eq_getElem (l := us) (i := i) (by omega)
    rw [this]; exact h i _ this
  · rw [if_neg hi, List.getElem?_eq_none (by omega)]
theorem symLoad_sound {A : AW} {t : TypeId} {v : Value} {K : Value → Prop} (h : symLoad P t A.heap v K) :
    ∃ u, K u ∧ ∀ σ w v', Rel P σ A w → VR σ v v' → ∃ u', VR σ u u' ∧ (Instr.loadAt t v').run P w = .ok u' w := by
  unfold symLoad at h
  simp only [cpo_iff, ptrV_some] at h
  obtain ⟨a, rfl, h⟩ := h
  split at h
  · rename_i b o
    simp only [cpo_iff, rowAt_some, Option.some.injEq] at h
    obtain ⟨c, ⟨c', e, m, hg, rfl⟩, ks, hks, ag, hag, h⟩ := h
    cases ag with
    | false =>
      have h : rdAll ks c' o 0 (fun vs => oneOf vs K) := h
      obtain ⟨vs, us, h1, h2, h3, h4⟩ := rdAll_some h
      cases h1 with
      | nil => exact h4.elim
      | @cons x u l m' hsc hu htl =>
        cases htl with
        | cons => exact h4.elim
        | nil =>
          refine ⟨tg x, h4, fun σ w v' hR hv => ?_⟩
          have hc : c'[o]? = some u := by simpa using h3 0 u rfl
          have hl : loadA P t A.heap (.pointer (some ⟨b, o, none⟩)) = some u := by
            simp only [loadA, ob_some, ptrV_some, plainAt_some, rowAt_some]
            refine ⟨_, rfl, rfl, c', e, m, hg, ?_⟩
            simp only [partA, ob_some]
            exact ⟨false, hag, by show lget c' o = _; rw [lget_eq]; exact hc⟩
          obtain ⟨u', k1, k2, _⟩ := run_loadA hR hl hv
          refine ⟨u', ?_, k2⟩
          rcases hu with rfl | rfl
          · exact .sym hsc k1
          · exact k1
    | true =>
      have h : ∃ n, sizeA P t = some n ∧ cpb (lenB ks n) (rdAll ks c' o 0 fun vs => K (Value.agg ⟨vs⟩)) := h
      obtain ⟨n, hn, h⟩ := h
      rw [cpb_iff, lenB_iff] at h
      obtain ⟨hln, h⟩ := h
      obtain ⟨vs, us, h1, h2, h3, h4⟩ := rdAll_some h
      refine ⟨_, h4, fun σ w v' hR hv => ?_⟩
      have h3 : ∀ i u, us[i]? = some u → c'[o + i]? = some u := fun i u hi => by simpa using h3 i u hi
      by_cases hle : o + n ≤ c'.length
      · have hl : loadA P t A.heap (.pointer (some ⟨b, o, none⟩)) = some (.agg ⟨us⟩) := by
          simp only [loadA, ob_some, ptrV_some, plainAt_some, rowAt_some]
          refine ⟨_, rfl, rfl, c', e, m, hg, ?_⟩
          simp only [partA, ob_some]
          refine ⟨true, hag, ?_⟩
          show ob (sizeA P t) (fun n => ob (lsub c' o n) fun l => some (Value.agg ⟨l⟩)) = _
          rw [ob_some]
          exact ⟨n, hn, by rw [lsub_of hle, take_drop_eq (by omega) hle h3]; rfl⟩
        obtain ⟨u', k1, k2, _⟩ := run_loadA hR hl hv
        obtain ⟨cs, hcs, rfl⟩ := k1.agg_inv
        exact ⟨_, .agg (h1.vr hcs), k2⟩
      · rcases take_drop_of (n := n) (by omega) h3 with e1 | e1
        · exact absurd e1 hle
        · subst e1
          obtain ⟨b', d, hs, rfl⟩ := hv.ptr_inv
          have hus : us = [] := List.eq_nil_of_length_eq_zero (by omega)
          subst hus
          cases h1
          have hload := run_loadCells_list (P := P) (w := w) ⟨b', o, none⟩ [] (fun j v hj => by simp at hj)
          refine ⟨.agg #[], .agg .nil, ?_⟩
          simp only [List.length_nil] at hload
          simp [Instr.loadAt, Instr.sureAddr, loadVar, run_agg hag, run_size hn, hload]
  · exact h.elim
theorem symUn_sound {op : UnOp} {v : Value} {K : Value → Prop} (h : symUn op v K) : ∃ u, K u ∧ ((∃ k n, v = .int k n) ∨ ∃ b, v = .bool b) ∧ ∃ x, (∀ σ, VR σ u x) ∧ ∀ w, (Op.unary op v).run P w = .ok x w := by
  cases op with
  | neg => cases v with
    | int k n => exact ⟨_, h _ rfl, .inl ⟨_, _, rfl⟩, _, fun σ => tgI_vr _ _, fun w => rfl⟩
    | _ => exact False.elim h
  | xor => cases v with
    | int k n => exact ⟨_, h _ rfl, .inl ⟨_, _, rfl⟩, _, fun σ => tgI_vr _ _, fun w => rfl⟩
    | _ => exact False.elim h
  | not => cases v with
    | bool b =>
      cases b with
      | true => exact ⟨_, h.1 rfl, .inr ⟨_, rfl⟩, .bool false, fun σ => .flat rfl, fun w => rfl⟩
      | false => exact ⟨_, h.2 rfl, .inr ⟨_, rfl⟩, .bool true, fun σ => .flat rfl, fun w => rfl⟩
    | _ => exact False.elim h
  | _ => exact False.elim h
theorem symIdx_some {e : TypeId} {a : Option Addr} {len : Nat} {i : Value} {K : Value → Prop} (h : symIdx P e a len i K) :
    ∃ b o k z n, a = some ⟨b, o, none⟩ ∧ sizeA P e = some n ∧ i = .int k z ∧ 0 ≤ z ∧ z < len ∧ K (tg (.pointer (some ⟨b, o + z.toNat * n, none⟩))) ∧
      ∀ (a' : Addr), a' = ⟨b, o, none⟩ → idxAt P a' e (.int k z) len = some (.pointer (some ⟨b, o + z.toNat * n, none⟩)) := by
  unfold symIdx at h
  rw [cpo_iff] at h
  obtain ⟨a, rfl, h⟩ := h
  split at h
  · rename_i b o
    rw [cpo_iff] at h
    obtain ⟨n, hn, h⟩ := h
    split at h
    · rename_i k z
      obtain ⟨⟨h0, h1⟩, h2⟩ := h
      refine ⟨b, o, k, z, n, rfl, hn, rfl, h0, h1, h2 _ rfl, ?_⟩
      rintro _ rfl
      simp only [idxAt, plainAt_some, ob_some, bt_some, numV_some, true_and]
      refine ⟨z.toNat, ⟨k, ?_⟩, ?_, n, hn, ptrTo_eq _ _⟩
      · congr 1; show z = ((z.toNat : Nat) : Int); omega
      · simp [Nat.blt_eq]; omega
    · exact h.elim
  · exact h.elim
theorem uval_intR {v v' : Value} {k : IntKind} {n : Int} (h : VR σ v v') (e : uval v = .int k n) : VR σ (.int k n) v' := by rw [uval_int h e]; exact .flat rfl
theorem uval_strR {v v' : Value} {s : ByteArray} (h : VR σ v v') (e : uval v = .string s) : VR σ (.string s) v' := by rw [uval_str h e]; exact .flat rfl
theorem symIndexAddr_sound {t : TypeId} {x i : Value} {K : Value → Prop} (h : symIndexAddr P t (uval x) (uval i) K) :
    ∃ u, K u ∧ ∀ σ w x' i', VR σ x x' → VR σ i i' → ∃ u', VR σ u u' ∧ (Instr.indexAt t x' i').run P w = .ok u' w := by
  unfold symIndexAddr at h
  rw [cpo_iff] at h
  obtain ⟨d, hd, h⟩ := h
  split at h
  · split at h
    · rename_i len e _ a hx
      obtain ⟨b, o, k, z, n, rfl, hn, hi, h0, h1, h2, h3⟩ := symIdx_some h
      refine ⟨_, h2, fun σ w x' i' hx' hi' => ?_⟩
      obtain ⟨u', k1, k2⟩ := indexAddr_run (P := P) (t := t) (x := .pointer (some ⟨b, o, none⟩)) (i := .int k z) (u := .pointer (some ⟨b, o + z.toNat * n, none⟩)) (by
        simp only [indexAddrA, ob_some]
        exact ⟨_, hd, by simp only [ob_some, ptrV_some]; exact ⟨_, rfl, h3 _ rfl⟩⟩) (uval_ptr hx' hx) (uval_intR hi' hi) w
      exact ⟨u', .sym rfl k1, k2⟩
    · exact h.elim
  · split at h
    · rename_i e _ a len cp hx
      obtain ⟨b, o, k, z, n, rfl, hn, hi, h0, h1, h2, h3⟩ := symIdx_some h
      refine ⟨_, h2, fun σ w x' i' hx' hi' => ?_⟩
      rcases uval_slice hx' hx with hs | ⟨_, e1, _⟩
      · obtain ⟨u', k1, k2⟩ := indexAddr_run (P := P) (t := t) (x := .slice (some ⟨b, o, none⟩) len cp) (i := .int k z) (u := .pointer (some ⟨b, o + z.toNat * n, none⟩)) (by
          simp only [indexAddrA, ob_some]
          exact ⟨_, hd, by simp only [ob_some]; exact ⟨_, rfl, h3 _ rfl⟩⟩) hs (uval_intR hi' hi) w
        exact ⟨u', .sym rfl k1, k2⟩
      · omega
    · exact h.elim
  · exact h.elim
theorem symIndex_sound {t : TypeId} {x i : Value} {K : Value → Prop} (h : symIndex P t (uval x) (uval i) K) :
    ∃ u, K u ∧ ∀ σ w x' i', VR σ x x' → VR σ i i' → ∃ u', VR σ u u' ∧ (Instr.index t x' i').run P w = .ok u' w := by
  unfold symIndex at h
  rw [cpo_iff] at h
  obtain ⟨d, hd, h⟩ := h
  split at h
  · split at h
    · rename_i s hx
      split at h
      · rename_i k z hi
        obtain ⟨⟨h0, h1⟩, h2⟩ := h
        have hlt : z.toNat < s.data.toList.length := by omega
        refine ⟨_, h2 _ (List.getElem?_eq_getElem hlt), fun σ w x' i' hx' hi' => ?_⟩
        obtain ⟨u', k1, k2⟩ := index_run (P := P) (t := t) (x := .string s) (i := .int k z) (u := .int .u8 (.ofNat (s.data.toList[z.toNat]).toNat)) (by
          simp only [indexA, ob_some]
          refine ⟨_, hd, ?_⟩
          simp only [strV, ob_some, numV_some, lget_eq, Option.some.injEq]
          refine ⟨_, rfl, z.toNat, ⟨k, ?_⟩, _, List.getElem?_eq_getElem hlt, natV_eq _ _⟩
          congr 1; show z = ((z.toNat : Nat) : Int); omega) (uval_strR hx' hx) (uval_intR hi' hi) w
        exact ⟨u', .sym rfl k1, k2⟩
      · exact h.elim
    · exact h.elim
  · exact h.elim
theorem symLen_sound {t : TypeId} {x : Value} {K : Value → Prop} (h : symLen P t (uval x) K) :
    ∃ u, K u ∧ ∀ σ w x', VR σ x x' → ∃ u', VR σ u u' ∧ ∀ ts ty as_, (Builtin.len_ ⟨t :: ts⟩ ty ⟨x' :: as_⟩).run P w = .ok u' w := by
  unfold symLen at h
  rw [cpo_iff] at h
  obtain ⟨d, hd, h⟩ := h
  split at h
  · split at h
    · rename_i s hx
      refine ⟨_, h _ rfl, fun σ w x' hx' => ⟨_, tgI_vr _ _, fun ts ty as_ => ?_⟩⟩
      rw [uval_str hx' hx]
      simp [Builtin.len_, run_under hd]; rfl
    · exact h.elim
  · split at h
    · rename_i e _ a n c hx
      refine ⟨_, h _ rfl, fun σ w x' hx' => ⟨_, tgI_vr _ _, fun ts ty as_ => ?_⟩⟩
      rcases uval_slice hx' hx with hs | ⟨rfl, rfl, _⟩
      · have hx2 : ∃ a' c', x' = .slice a' n c' := by
          cases hs with
          | slice => exact ⟨_, _, rfl⟩
          | flat => exact ⟨_, _, rfl⟩
        obtain ⟨a', c', rfl⟩ := hx2
        simp [Builtin.len_, run_under hd]; rfl
      · simp [Builtin.len_, run_under hd]; rfl
    · exact h.elim
  · exact h.elim
theorem conj_append : ∀ {l m : List (Value × Value)}, conj (l ++ m) ↔ conj l ∧ conj m := by
  intro l m
  induction l with
  | nil => exact ⟨fun h => ⟨trivial, h⟩, fun h => h.2⟩
  | cons p l ih =>
    show (eqv p.1 p.2 ∧ conj (l ++ m)) ↔ (eqv p.1 p.2 ∧ conj l) ∧ conj m
    rw [ih, and_assoc]
theorem catP_some {x y : Prs} {l : List (Value × Value)} (h : catP x y = some l) : ∃ a b, x = some a ∧ y = some b ∧ l = a ++ b := by
  simp only [catP, ob_some, Option.some.injEq] at h
  obtain ⟨a, ha, b, hb, e⟩ := h
  exact ⟨a, b, ha, hb, e.symm⟩
theorem aggV_some' {v : Value} {l : List Value} (h : aggV v = some l) : v = .agg ⟨l⟩ := by
  unfold aggV at h
  split at h
  · cases h; rfl
  · cases h
theorem VR.agg_inv' {c : List Value} {v' : Value} (h : VR σ (.agg ⟨c⟩) v') : ∃ c', v' = .agg ⟨c'⟩ ∧ VRL σ c c' := by
  cases h with
  | agg a => exact ⟨_, rfl, a⟩
  | flat e => cases e
theorem eqC_run {N : Nat} {t : TypeId} {d : TypeDesc} {x y x' y' : Value} {l : List (Value × Value)} (hd : P.underlying t = some d) (h : eqC d (uval x) (uval y) = some l) (hx : VR σ x x') (hy : VR σ y y') (w : World) :
    ∃ r : Bool, (Op.equalIn (N + 1) t x' y').run P w = .ok r w ∧ (r = true ↔ conj l) := by
  unfold eqC at h
  split at h
  · split at h
    · split at h
      · rename_i j m e1 _ k n e2
        rw [bt_some] at h
        obtain ⟨hk, h⟩ := h; cases h
        obtain rfl := sameK_eq hk
        rw [uval_int hx e1, uval_int hy e2]
        refine ⟨_, run_equalIn_int w N t _ _ m n hd, ?_⟩
        show (m == n) = true ↔ eqv (uval x) (uval y) ∧ True
        rw [e1, e2]
        show (m == n) = true ↔ m = n ∧ True
        simp
      · cases h
    · cases h
  · split at h
    · split at h
      · rename_i p e1 _ q e2
        cases h
        rw [uval_bool hx e1, uval_bool hy e2]
        refine ⟨_, run_equalIn_bool w N t p q hd, ?_⟩
        show (p == q) = true ↔ eqv (uval x) (uval y) ∧ True
        rw [e1, e2]
        show (p == q) = true ↔ p = q ∧ True
        simp
      · cases h
    · cases h
  · split at h
    · split at h
      · rename_i s e1 _ u e2
        cases h
        rw [uval_str hx e1, uval_str hy e2]
        refine ⟨_, run_equalIn_string w N t s u hd, ?_⟩
        show (s.toList == u.toList) = true ↔ eqv (uval x) (uval y) ∧ True
        rw [e1, e2]
        show (s.toList == u.toList) = true ↔ s.data.toList = u.data.toList ∧ True
        rw [ByteArray.toList_eq, ByteArray.toList_eq]
        simp
      · cases h
    · cases h
  · cases h
def EqRun (P : Program) (σ : Sg) (D : Nat) (f : TypeId → Value → Value → Prs) : Prop := ∀ (t : TypeId) (x y x' y' : Value) (l : List (Value × Value)), f t x y = some l → VR σ x x' → VR σ y y' → ∀ w : World, ∃ r : Bool, (Op.equalIn D t x' y').run P w = .ok r w ∧ (r = true ↔ conj l)
theorem eqF_run {D : Nat} {f : TypeId → Value → Value → Prs} (hf : EqRun P σ D f) {c d c' d' : List Value} (hc : VRL σ c c') (hd : VRL σ d d') : ∀ (fs : List Field) (l : List (Value × Value)), eqPF P f c d fs = some l → ∀ w : World,
    ∃ r : Bool, (Op.eqFields D ⟨c'⟩ ⟨d'⟩ fs).run P w = .ok r w ∧ (r = true ↔ conj l) := by
  intro fs
  induction fs with
  | nil => intro l h w; cases h; exact ⟨true, by simp [Op.eqFields], by simp [conj]⟩
  | cons fd fs ih =>
    intro l h w
    have h : (Bool.rec (ob (partA P fd.type c fd.offset) fun a => ob (partA P fd.type d fd.offset) fun b => catP (f fd.type a b) (eqPF P f c d fs)) none (decide (fd.name = "_")) : Prs) = some l := h
    by_cases hn : fd.name = "_"
    · rw [decide_eq_true hn] at h; cases h
    · rw [decide_eq_false hn] at h
      have h : (ob (partA P fd.type c fd.offset) fun a => ob (partA P fd.type d fd.offset) fun b => catP (f fd.type a b) (eqPF P f c d fs)) = some l := h
      simp only [ob_some] at h
      obtain ⟨a, ha, b, hb, h⟩ := h
      obtain ⟨l1, l2, h1, h2, rfl⟩ := catP_some h
      obtain ⟨a', va, ra⟩ := run_part ha hc [] w
      obtain ⟨b', vb, rb⟩ := run_part hb hd [] w
      rw [List.append_nil] at ra rb
      obtain ⟨r1, hr1, e1⟩ := hf _ _ _ _ _ _ h1 va vb w
      obtain ⟨r2, hr2, e2⟩ := ih _ h2 w
      rw [conj_append]
      simp only [Op.eqFields, hn, ne_eq, not_false_eq_true, if_true, Sem.run_bind, ra, rb, Result.andThen_ok, hr1]
      cases r1 with
      | true => exact ⟨r2, by simpa using hr2, by rw [e2]; simp [← e1]⟩
      | false => exact ⟨false, by simp, by simp [← e1]⟩
theorem eqR_run {D : Nat} {f : Value → Value → Prs} {e : TypeId} {n : Nat} (hn : P.cellsOf e = n) (hf : ∀ (x y x' y' : Value) (l : List (Value × Value)), f x y = some l → VR σ x x' → VR σ y y' → ∀ w : World, ∃ r : Bool, (Op.equalIn D e x' y').run P w = .ok r w ∧ (r = true ↔ conj l))
    {c d c' d' : List Value} (hc : VRL σ c c') (hd : VRL σ d d') : ∀ (is : List Nat) (l : List (Value × Value)), eqPR P f e n c d is = some l → ∀ w : World,
    ∃ r : Bool, (Op.eqItems D e (P.cellsOf e) ⟨c'⟩ ⟨d'⟩ is).run P w = .ok r w ∧ (r = true ↔ conj l) := by
  intro is
  rw [hn]
  induction is with
  | nil => intro l h w; cases h; exact ⟨true, by simp [Op.eqItems], by simp [conj]⟩
  | cons i is ih =>
    intro l h w
    have h : (ob (partA P e c (Nat.mul i n)) fun a => ob (partA P e d (Nat.mul i n)) fun b => catP (f a b) (eqPR P f e n c d is)) = some l := h
    simp only [ob_some] at h
    obtain ⟨a, ha, b, hb, h⟩ := h
    obtain ⟨l1, l2, h1, h2, rfl⟩ := catP_some h
    obtain ⟨a', va, ra⟩ := run_part ha hc [] w
    obtain ⟨b', vb, rb⟩ := run_part hb hd [] w
    rw [List.append_nil] at ra rb
    have ra : (part e ⟨c'⟩ (i * n)).run P w = .ok a' w := ra
    have rb : (part e ⟨d'⟩ (i * n)).run P w = .ok b' w := rb
    obtain ⟨r1, hr1, e1⟩ := hf _ _ _ _ _ h1 va vb w
    obtain ⟨r2, hr2, e2⟩ := ih _ h2 w
    rw [conj_append]
    simp only [Op.eqItems, Sem.run_bind, ra, rb, Result.andThen_ok, hr1]
    cases r1 with
    | true => exact ⟨r2, by simpa using hr2, by rw [e2]; simp [← e1]⟩
    | false => exact ⟨false, by simp, by simp [← e1]⟩
theorem eqP_run (N : Nat) : ∀ n : Nat, EqRun P σ (N + n) (eqP P n) := by
  intro n
  induction n with
  | zero => intro t x y x' y' l h; cases h
  | succ n ih =>
    intro t x y x' y' l h hx hy w
    replace h : (ob (P.underlying t) fun d => eqPD P (eqP P n) t d x y) = some l := h
    rw [ob_some] at h
    obtain ⟨d, hd, h⟩ := h
    unfold eqPD at h
    split at h
    · rename_i fs
      rw [bt_some] at h
      obtain ⟨hs, h⟩ := h
      rw [bnot_eq] at hs
      simp only [ob_some] at h
      obtain ⟨c, hc, e, he, h⟩ := h
      obtain rfl := aggV_some' hc
      obtain rfl := aggV_some' he
      obtain ⟨c', rfl, vc⟩ := hx.agg_inv'
      obtain ⟨e', rfl, ve⟩ := hy.agg_inv'
      have hfs : P.fieldsOf t = fs := by unfold Program.fieldsOf; rw [hd]
      obtain ⟨r, hr, e1⟩ := eqF_run ih vc ve fs.toList l h w
      refine ⟨r, ?_, e1⟩
      rw [show N + (n + 1) = (N + n) + 1 from rfl, run_equalIn_struct w (N + n) t _ _ (by rw [hfs]; exact hd) (by simpa using hs), hfs]
      exact hr
    · rename_i len e
      simp only [ob_some] at h
      obtain ⟨c, hc, g, hg, sz, hsz, h⟩ := h
      obtain rfl := aggV_some' hc
      obtain rfl := aggV_some' hg
      obtain ⟨c', rfl, vc⟩ := hx.agg_inv'
      obtain ⟨g', rfl, vg⟩ := hy.agg_inv'
      obtain ⟨i, hi, hz⟩ := sizeA_some.1 hsz
      obtain ⟨r, hr, e1⟩ := eqR_run (n := sz) (by unfold Program.cellsOf; rw [hi]; exact hz) (ih e) vc vg (List.range len) l h w
      refine ⟨r, ?_, e1⟩
      rw [show N + (n + 1) = (N + n) + 1 from rfl, run_equalIn_array w (N + n) _ _ hd hi]
      exact hr
    · exact eqC_run hd h hx hy w
theorem symAgg_sound {op : BinOp} {t : TypeId} {xo yo : Operand} {a b : Value} {K : Value → Prop} (h : symAgg P op t a b K) : ∃ r : Bool, K (.bool r) ∧ ∀ (σ : Sg) (w : World) (x y : Value), VR σ a x → VR σ b y → (do eqGuard op t xo yo x y; binOp op t x y).run P w = .ok (.bool r) w := by
  unfold symAgg at h
  simp only [cpo_iff, cpb_iff] at h
  obtain ⟨hg, c, hc, d, hd, l, hl, h⟩ := h
  rw [bnot_eq] at hg
  obtain rfl := aggV_some' hc
  obtain rfl := aggV_some' hd
  obtain ⟨N, hN⟩ : ∃ N, ∀ (t : TypeId) (x y : Value), Op.equal t x y = Op.equalIn (N + 8) t x y := ⟨9992, fun _ _ _ => rfl⟩
  have key : ∀ (σ : Sg) (w : World) (x y : Value), VR σ (.agg ⟨c⟩) x → VR σ (.agg ⟨d⟩) y → ∃ c' d', x = .agg ⟨c'⟩ ∧ y = .agg ⟨d'⟩ ∧ ∃ r : Bool, (Op.equal t x y).run P w = .ok r w ∧ (r = true ↔ conj l) := fun σ w x y hx hy => by
    obtain ⟨r, h1, h2⟩ := eqP_run (P := P) N 8 t _ _ _ _ l hl hx hy w
    obtain ⟨c', rfl, _⟩ := hx.agg_inv'
    obtain ⟨d', rfl, _⟩ := hy.agg_inv'
    exact ⟨c', d', rfl, rfl, r, by rw [hN]; exact h1, h2⟩
  have fin : ∀ r : Bool, K (.bool r) → (op = .eql ∧ (r = true ↔ conj l) ∨ op = .neq ∧ (r = true ↔ ¬ conj l)) → ∃ r : Bool, K (.bool r) ∧ ∀ (σ : Sg) (w : World) (x y : Value), VR σ (.agg ⟨c⟩) x → VR σ (.agg ⟨d⟩) y → (do eqGuard op t xo yo x y; binOp op t x y).run P w = .ok (.bool r) w := fun r hK hr => by
    refine ⟨r, hK, fun σ w x y hx hy => ?_⟩
    obtain ⟨c', d', rfl, rfl, r', h1, h2⟩ := key σ w x y hx hy
    have h3 := binOp_eql (P := P) (t := t) (x := .agg ⟨c'⟩) (y := .agg ⟨d'⟩) rfl r' w h1
    have h4 := run_eqGuard_agg (P := P) w op t xo yo ⟨c'⟩ ⟨d'⟩ (by simpa using hg)
    simp only [Sem.run_bind, h4, Result.andThen_ok]
    rcases hr with ⟨rfl, hr⟩ | ⟨rfl, hr⟩
    · rw [h3.1]
      have : r' = r := by rw [Bool.eq_iff_iff, h2, hr]
      rw [this]
    · rw [h3.2]
      have : (!r') = r := by rw [Bool.eq_iff_iff, hr, ← h2]; simp
      rw [this]
  cases op with
  | eql =>
    by_cases hp : conj l
    · exact fin true (h.1 hp) (.inl ⟨rfl, by simp [hp]⟩)
    · exact fin false (h.2 hp) (.inl ⟨rfl, by simp [hp]⟩)
  | neq =>
    by_cases hp : conj l
    · exact fin false (h.2 hp) (.inr ⟨rfl, by simp [hp]⟩)
    · exact fin true (h.1 hp) (.inr ⟨rfl, by simp [hp]⟩)
  | _ => exact h.elim
end Go.Ev
end

/- The evaluator with variables: every quiet operation is so. -/
section
namespace Go.Ev
variable {P : Program} {σ : Sg} {w : World}
theorem uval_ibs {v v' : Value} (h : VR σ v v') (e : ibs (uval v) = true) : v' = uval v := by
  cases hq : uval v <;> rw [hq] at e <;> first | (cases e; done) | skip
  · exact uval_bool h hq
  · exact uval_int h hq
  · exact uval_str h hq
theorem mnB_inv {v v' : Value} {nb : Bool} (h : VR σ v v') (e : mnB v = some nb) : (nb = true ∧ v' = .slice none 0 0) ∨ (nb = false ∧ ∃ a l c, v' = .slice (some a) l c) := by
  cases h with
  | mnil e1 e2 e3 => cases e; exact .inl ⟨e1, rfl⟩
  | mn e1 _ => cases e; exact .inr ⟨e1, _, _, _, rfl⟩
  | sym => cases e
  | any => cases e
  | iface hlt b =>
    rename_i t u u'
    have h2 : Nat.beq t MN = false := by cases hb : Nat.beq t MN with
      | false => rfl
      | true => rw [beqIff.1 hb] at hlt; exact absurd hlt noMN
    simp only [mnB, h2] at e; cases e
  | flat f => cases v <;> first | (cases f; done) | (cases e; done)
  | _ => cases e
theorem nilV_inv {v v' : Value} (h : VR σ v v') (e : nilV v = true) : v' = .slice none 0 0 := by
  unfold nilV at e
  split at e
  · exact h.of_flat rfl
  · cases e
theorem sliceK_inv {t : TypeId} (h : sliceK P t = true) : ∃ e, P.underlying t = some (.slice e) := by
  unfold sliceK at h
  cases hd : P.underlying t with
  | none => rw [hd] at h; cases h
  | some d => rw [hd] at h; cases d <;> first | (cases h; done) | exact ⟨_, rfl⟩
theorem nil_run {t e : TypeId} {xo yo : Operand} (ht : P.underlying t = some (.slice e)) (a : Option Addr) (l c : Nat) (w : World) (op : BinOp) (b : Bool) (hb : (op = .eql ∧ b = a.isNone) ∨ (op = .neq ∧ b = !a.isNone)) :
    (do eqGuard op t xo yo (.slice a l c) (.slice none 0 0); binOp op t (.slice a l c) (.slice none 0 0)).run P w = .ok (.bool b) w := by
  have he : (Op.equal t (.slice a l c) (.slice none 0 0)).run P w = .ok a.isNone w := by
    obtain ⟨N, hN⟩ := equal_eq
    rw [hN]
    cases a <;> simp [Op.equalIn, run_under ht]
  have hg : (eqGuard op t xo yo (.slice a l c) (.slice none 0 0)).run P w = .ok () w := eqGuard_plain (by simp) (by simp) w
  have h2 := binOp_eql (P := P) (t := t) (x := .slice a l c) (y := .slice none 0 0) rfl _ w he
  rcases hb with ⟨rfl, rfl⟩ | ⟨rfl, rfl⟩
  · simp [hg, h2.1]
  · simp [hg, h2.2]
theorem cq {o : Oper} {F : T Value} {A : AW} {K : Value → Prop} (h : cpo (evQ o.op P F A.heap) K) : ∃ v, K v ∧ QSem P o F A v := by
  rw [cpo_iff] at h
  obtain ⟨v, h1, h2⟩ := h
  exact ⟨v, h2, .of h1⟩
theorem mm_run {b : Builtin} (hb : b = .min ∨ b = .max) {j k : IntKind} {m n : Int} {ats : List TypeId} {ty : TypeId} {cs : Array Bool} (w : World) : (builtin b ⟨ats⟩ ty cs ⟨[.int j m, .int k n]⟩).run P w = .ok (.value (.int j (mmOf b m n))) w := by
  rcases hb with rfl | rfl
  · have : (Builtin.min_ ⟨ats⟩ ty ⟨[.int j m, .int k n]⟩).run P w = .ok (.int j (min m n)) w := by
      simp only [Builtin.min_, List.foldlM_cons, List.foldlM_nil, Builtin.min2, Sem.run_bind, Sem.run_pure, Result.andThen_ok]
      congr 2
      rw [Int.min_def]; split <;> split <;> omega
    simp only [builtin, Sem.run_bind, this, Result.andThen_ok, Sem.run_pure, mmOf]
  · have : (Builtin.max_ ⟨ats⟩ ty ⟨[.int j m, .int k n]⟩).run P w = .ok (.int j (max m n)) w := by
      simp only [Builtin.max_, List.foldlM_cons, List.foldlM_nil, Builtin.max2, Sem.run_bind, Sem.run_pure, Result.andThen_ok]
      congr 2
      rw [Int.max_def]; split <;> split <;> omega
    simp only [builtin, Sem.run_bind, this, Result.andThen_ok, Sem.run_pure, mmOf]
theorem symMM_some {b : Builtin} {vs : List Value} {K : Value → Prop} (h : symMM b vs K) : ∃ x y j k m n, vs = [x, y] ∧ uval x = .int j m ∧ uval y = .int k n ∧ K (tgI j (mmOf b m n)) := by
  unfold symMM at h
  split at h
  · split at h
    · split at h
      · exact ⟨_, _, _, _, _, _, rfl, by assumption, by assumption, h _ rfl⟩
      · exact h.elim
    · exact h.elim
  · exact h.elim
theorem uval_vr {v v' : Value} (h : VR σ v v') (e : mnB v = none) : VR σ (uval v) v' := by
  cases h with
  | sym s b => exact b
  | any f => exact .any f
  | mnil => cases e
  | mn => cases e
  | iface hlt b =>
    rename_i t u u'
    have h1 : Nat.beq t SYM = false := by cases hb : Nat.beq t SYM with
      | false => rfl
      | true => rw [beqIff.1 hb] at hlt; exact absurd hlt noSYM
    have h2 : Nat.beq t MN = false := by cases hb : Nat.beq t MN with
      | false => rfl
      | true => rw [beqIff.1 hb] at hlt; exact absurd hlt noMN
    have : uval (.iface t u) = .iface t u := by simp only [uval, h1, h2]
    rw [this]; exact .iface hlt b
  | flat f => cases v <;> first | (cases f; done) | exact .flat f
  | ptr g => exact .ptr g
  | slice g => exact .slice g
  | map g => exact .map g
  | func a b => exact .func a b
  | agg a => exact .agg a
  | tuple a => exact .tuple a
theorem mn_slice {v v' : Value} {b : Bool} (h : VR σ v v') (e : mnB v = some b) (hb : b = false) : VR σ (uval v) v' := by
  cases h with
  | mnil e1 => cases e; rw [e1] at hb; cases hb
  | mn _ g => exact .slice g
  | sym => cases e
  | any => cases e
  | iface hlt b =>
    rename_i t u u'
    have h2 : Nat.beq t MN = false := by cases hb : Nat.beq t MN with
      | false => rfl
      | true => rw [beqIff.1 hb] at hlt; exact absurd hlt noMN
    simp only [mnB, h2] at e; cases e
  | flat f => cases v <;> first | (cases f; done) | (cases e; done)
  | _ => cases e
theorem mnWays_some {v : Value} {f : Value → Prop} (h : mnWays v f) : ∃ y, f y ∧ ∀ σ v', VR σ v v' → VR σ y v' := by
  unfold mnWays at h
  cases hm : mnB v with
  | none => rw [hm] at h; exact ⟨_, h, fun σ v' hv => uval_vr hv hm⟩
  | some b =>
    rw [hm] at h
    have h : (b = true → f (.slice none 0 0)) ∧ (b = false → f (uval v)) := h
    cases b with
    | true =>
      refine ⟨_, h.1 rfl, fun σ v' hv => ?_⟩
      rcases mnB_inv hv hm with ⟨_, rfl⟩ | ⟨e, _⟩
      · exact .flat rfl
      · cases e
    | false => exact ⟨_, h.2 rfl, fun σ v' hv => mn_slice hv hm rfl⟩
theorem uval_some {v v' : Option Value} (h : OVR σ v v') {d z : Int} (e : numO d v = some z) : (v = none ∧ v' = none ∧ z = d) ∨ (∃ k, v' = some (.int k z)) := by
  cases h with
  | none => left; exact ⟨rfl, rfl, by cases e; rfl⟩
  | some h =>
    rename_i a b
    right
    have e : (match uval a with
      | .int _ z => some z
      | _ => none) = some z := e
    split at e
    · rename_i k z' hu
      cases e
      exact ⟨k, by rw [uval_int h hu]⟩
    · cases e
theorem symSlice_sound {t : TypeId} {A : AW} {x x' : Value} {lo lo' hi hi' : Option Value} (hR : Rel P σ A w) (hx : VR σ x x') (hlo : OVR σ lo lo') (hhi : OVR σ hi hi') {v : Value} (h : symSlice P A.heap t lo hi (fun u => u = v) x) :
    ∃ u', VR σ v u' ∧ (Instr.sliceAt t x' lo' hi' none).run P w = .ok u' w := by
  unfold symSlice at h
  rw [cpo_iff] at h
  obtain ⟨d, hd, h⟩ := h
  cases d <;> try exact h.elim
  case slice e =>
    cases x <;> try exact h.elim
    case slice a len cap =>
      simp only [cpo_iff] at h
      obtain ⟨n, hn, l, hl, hh, hhh, h⟩ := h
      -- the bounds as they are
      have hlo0 : OVR σ lo' lo' := by
        rcases uval_some hlo hl with ⟨_, e, _⟩ | ⟨k, e⟩ <;> rw [e]
        · exact .none
        · exact .some (.flat rfl)
      have hhi0 : OVR σ hi' hi' := by
        rcases uval_some hhi hhh with ⟨_, e, _⟩ | ⟨k, e⟩ <;> rw [e]
        · exact .none
        · exact .some (.flat rfl)
      have hup : ∀ m : Nat, 0 ≤ l → l ≤ m → uptoOr lo' m 0 = some l.toNat := fun m h0 h1 => by
        rcases uval_some hlo hl with ⟨_, e, e2⟩ | ⟨k, e⟩ <;> rw [e]
        · rw [e2]; rfl
        · show upto _ _ = _
          rw [upto_some]; exact ⟨⟨k, by simp [Int.toNat_of_nonneg h0]⟩, by omega⟩
      have hup2 : ∀ m : Nat, 0 ≤ hh → hh ≤ m → uptoOr hi' m len = some hh.toNat := fun m h0 h1 => by
        rcases uval_some hhi hhh with ⟨_, e, e2⟩ | ⟨k, e⟩ <;> rw [e]
        · rw [e2]; show some len = _; simp
        · show upto _ _ = _
          rw [upto_some]; exact ⟨⟨k, by simp [Int.toNat_of_nonneg h0]⟩, by omega⟩
      cases a with
      | some ad =>
        obtain ⟨b, o, sp⟩ := ad
        cases sp with
        | some _ => exact h.elim
        | none =>
        have h : symSl A.heap n b o len cap l hh (fun u => u = v) := h
        unfold symSl at h
        rw [cpo_iff] at h
        obtain ⟨ob', hg, h⟩ := h
        cases ob' <;> try exact h.elim
        case row c e' m =>
          obtain ⟨⟨⟨h1, h2, h3⟩, h4⟩, h5⟩ := h
          have hv := h5 _ _ _ rfl rfl rfl
          subst hv
          have hb : boundsA len (Bool.rec cap len m.roomy) lo' hi' = some (l.toNat, hh.toNat) := by
            have hm : hh ≤ ((Bool.rec cap len m.roomy : Nat) : Int) := by
              cases hr : m.roomy with
              | false => exact h3
              | true => exact (h4 hr).1
            unfold boundsA
            rw [hup2 _ (by omega) hm]
            show ob (uptoOr lo' hh.toNat 0) _ = _
            rw [hup _ h1 (by omega)]
            rfl
          have hs : sliceA P A.heap t (.slice (some ⟨b, o, none⟩) len cap) lo' hi' none = some (.slice (some ⟨b, if cap = l.toNat then o else o + l.toNat * n, none⟩) (hh.toNat - l.toNat) (cap - l.toNat)) := by
            unfold sliceA
            rw [hd]
            show (ob (sizeA P e) fun n => ob (A.heap.get b) fun x => AO.rec (fun c e m => slice2 m.roomy b o len cap n lo' hi') (fun _ _ => none) none x) = _
            rw [hn]
            show (ob (A.heap.get b) fun x => AO.rec (fun c e m => slice2 m.roomy b o len cap n lo' hi') (fun _ _ => none) none x) = _
            rw [hg]
            show slice2 m.roomy b o len cap n lo' hi' = _
            unfold slice2
            rw [hb]
            show bt (Nat.ble hh.toNat cap) (bt (sliceOk m.roomy l.toNat cap) (cutAt b o l.toNat n cap (Nat.sub hh.toNat l.toNat))) = _
            rw [cutAt_eq]
            refine bt_some.2 ⟨bleIff.2 (by omega), bt_some.2 ⟨?_, rfl⟩⟩
            cases hr : m.roomy with
            | false => rfl
            | true =>
              rcases (h4 hr).2 with e0 | e0
              · rw [e0]; rfl
              · cases hq : l.toNat with
                | zero => rfl
                | succ k => exact blt_iff.2 (by omega)
          obtain ⟨u', k1, k2⟩ := sliceA_run hR hs hx hlo0 hhi0 .none
          exact ⟨u', .sym rfl k1, k2⟩
      | none =>
        have h : cpb (Nat.beq (Nat.add len cap) 0) ((l = 0 ∧ hh = 0) ∧ Value.slice none 0 0 = v) := h
        obtain ⟨hz, ⟨h1, h2⟩, hv⟩ := cpb_iff.1 h
        subst hv h1 h2
        rw [beqIff] at hz
        have hz' : len + cap = 0 := hz
        obtain ⟨rfl, rfl⟩ : len = 0 ∧ cap = 0 := ⟨by omega, by omega⟩
        have hs : sliceA P A.heap t (.slice none 0 0) lo' hi' none = some (.slice none 0 0) := by
          unfold sliceA
          rw [hd]
          show (ob (sizeA P e) fun n => ob (ob (uptoOr hi' 0 0) fun h => ob (uptoOr lo' h 0) fun l => some (l, h)) fun _ => some (Value.slice none 0 0)) = _
          rw [hn]
          show (ob (ob (uptoOr hi' 0 0) fun h => ob (uptoOr lo' h 0) fun l => some (l, h)) fun _ => some (Value.slice none 0 0)) = _
          rw [hup2 0 (by omega) (by omega)]
          show (ob (ob (uptoOr lo' 0 0) fun l => some (l, 0)) fun _ => some (Value.slice none 0 0)) = _
          rw [hup 0 (by omega) (by omega)]
          rfl
        exact sliceA_run hR hs hx hlo0 hhi0 .none
theorem symSlice_one {t : TypeId} {H : T AO} {x : Value} {lo hi : Option Value} {K : Value → Prop} (h : symSlice P H t lo hi K x) : ∃ v, K v ∧ symSlice P H t lo hi (fun u => u = v) x := by
  unfold symSlice at h ⊢
  rw [cpo_iff] at h
  obtain ⟨d, hd, h⟩ := h
  simp only [hd, cpo]
  cases d <;> try exact h.elim
  case slice e =>
    cases x <;> try exact h.elim
    case slice a len cap =>
      simp only [cpo_iff] at h
      obtain ⟨n, hn, l, hl, hh, hhh, h⟩ := h
      simp only [hn, hl, hhh]
      cases a with
      | some ad =>
        obtain ⟨b, o, sp⟩ := ad
        cases sp with
        | some _ => exact h.elim
        | none =>
          have h : symSl H n b o len cap l hh K := h
          unfold symSl at h
          rw [cpo_iff] at h
          obtain ⟨ob', hg, h⟩ := h
          cases ob' <;> try exact h.elim
          case row c e' m =>
            obtain ⟨h1, h2⟩ := h
            refine ⟨_, h2 _ _ _ rfl rfl rfl, ?_⟩
            show symSl H n b o len cap l hh _
            unfold symSl
            exact cpo_iff.2 ⟨_, hg, h1, fun p q c e1 e2 e3 => by rw [e1, e2, e3]⟩
      | none =>
        obtain ⟨h0, h1, h2⟩ := cpb_iff.1 h
        exact ⟨_, h2, cpb_iff.2 ⟨h0, h1, rfl⟩⟩
theorem symQ_sound {o : Oper} {F : T Value} {A : AW} {K : Value → Prop} (h : symQ P o.op F A.heap K) : ∃ v, K v ∧ QSem P o F A v := by
  obtain ⟨dst, op, ty, pos, after, guard⟩ := o
  have hq : ∀ {op : Op}, cpo (evQ op P F A.heap) K → ∃ v, K v ∧ QSem P ⟨dst, op, ty, pos, after, guard⟩ F A v := fun h => cq (o := ⟨dst, _, ty, pos, after, guard⟩) h
  cases op <;> try exact hq h
  case binOp op t x y yt =>
    have h : cpo (opnd P F x) (fun a => cpo (opnd P F y) fun b => Bool.rec (Bool.rec (cpo (evQ (.binOp op t x y yt) P F A.heap) K) (symB P op t a b K) (isSym a || isSym b)) (symAgg P op t a b K) (symCells a || symCells b)) := h
    simp only [cpo_iff] at h
    obtain ⟨a, ha, b, hb, h⟩ := h
    cases hcl : symCells a || symCells b with
    | true =>
      rw [hcl] at h
      obtain ⟨r, h1, h2⟩ := symAgg_sound (xo := x) (yo := y) (show symAgg P op t a b K from h)
      refine ⟨_, h1, fun σ w act hR hO => ⟨.bool r, .flat rfl, ?_⟩⟩
      have := h2 σ w _ _ (hO x (by simp [Op.operands]) a ha) (hO y (by simp [Op.operands]) b hb)
      simp only [execOp, Sem.run_bind] at this ⊢
      rw [this]; rfl
    | false =>
    rw [hcl] at h
    have h : (Bool.rec (∃ v, evQ (.binOp op t x y yt) P F A.heap = some v ∧ K v) (symB P op t a b K) (isSym a || isSym b) : Prop) := h
    cases hs : isSym a || isSym b with
    | false => rw [hs] at h; exact hq (cpo_iff.2 h)
    | true =>
      rw [hs] at h
      have h : symB P op t a b K := h
      unfold symB at h
      cases hm : mnB a with
      | none =>
        rw [hm] at h
        obtain ⟨v, h1, h2, h3, h4⟩ := symBin_sound (xo := x) (yo := y) (show symBin P op t (uval a) (uval b) K from h)
        refine ⟨v, h1, fun σ w act hR hO => ?_⟩
        obtain ⟨u, k1, k2⟩ := h2 σ w
        refine ⟨u, k1, ?_⟩
        have e1 := uval_ibs (hO x (by simp [Op.operands]) a ha) h3
        have e2 := uval_ibs (hO y (by simp [Op.operands]) b hb) h4
        simp only [execOp, Sem.run_bind] at k2 ⊢
        rw [e1, e2, k2]; rfl
      | some nb =>
        rw [hm] at h
        have h : cpb (nilV b) (symNil P op t nb K) := h
        rw [cpb_iff] at h
        obtain ⟨hn, h⟩ := h
        unfold symNil at h
        rw [cpb_iff] at h
        obtain ⟨hk, h⟩ := h
        obtain ⟨e, ht⟩ := sliceK_inv hk
        have fin : ∀ r : Bool, K (.bool r) → (op = .eql ∧ r = nb ∨ op = .neq ∧ r = !nb) → ∃ v, K v ∧ QSem P ⟨dst, .binOp op t x y yt, ty, pos, after, guard⟩ F A v := fun r hKr hr => by
          refine ⟨_, hKr, fun σ w act hR hO => ⟨.bool r, .flat rfl, ?_⟩⟩
          have e2 := nilV_inv (hO y (by simp [Op.operands]) b hb) hn
          rcases mnB_inv (hO x (by simp [Op.operands]) a ha) hm with ⟨e0, e1⟩ | ⟨e0, a', l, c, e1⟩
          · have := nil_run (xo := x) (yo := y) ht none 0 0 w op r (by rw [e0] at hr; exact hr)
            simp only [execOp, Sem.run_bind] at this ⊢
            rw [e1, e2, this]; rfl
          · have := nil_run (xo := x) (yo := y) ht (some a') l c w op r (by rw [e0] at hr; exact hr)
            simp only [execOp, Sem.run_bind] at this ⊢
            rw [e1, e2, this]; rfl
        cases op with
        | eql => cases nb with
          | true => exact fin true (h.1 rfl) (.inl ⟨rfl, rfl⟩)
          | false => exact fin false (h.2 rfl) (.inl ⟨rfl, rfl⟩)
        | neq => cases nb with
          | true => exact fin false (h.1 rfl) (.inr ⟨rfl, rfl⟩)
          | false => exact fin true (h.2 rfl) (.inr ⟨rfl, rfl⟩)
        | _ => exact False.elim h
  case sliceToArrayPointer t x =>
    have h : cpo (opnd P F x) (fun a => Bool.rec (cpo (evQ (.sliceToArrayPointer t x) P F A.heap) K) (Option.rec (symArr P t (uval a) K) (fun _ => False) (mnB a)) (isSym a)) := h
    simp only [cpo_iff] at h
    obtain ⟨a, ha, h⟩ := h
    cases hs : isSym a with
    | false => rw [hs] at h; exact hq (cpo_iff.2 h)
    | true =>
      rw [hs] at h
      cases hm : mnB a with
      | some nb => rw [hm] at h; exact False.elim h
      | none =>
        rw [hm] at h
        have h : symArr P t (uval a) K := h
        unfold symArr at h
        rw [cpo_iff] at h
        obtain ⟨q, hqq, h⟩ := h
        split at h
        · rename_i ad len cap hu
          obtain ⟨hle, hK⟩ := h
          refine ⟨_, hK, fun σ w act hR hO => ?_⟩
          have hx := uval_vr (hO x (by simp [Op.operands]) a ha) hm
          rw [hu] at hx
          have ht : P.underlying t = some (.array q.1 q.2) := arrayT_some.1 hqq
          generalize hE : act.eval x = u at hx
          cases hx with
          | flat e => simp [flat] at e
          | slice e1 =>
            refine ⟨_, .sym rfl (.ptr e1), ?_⟩
            simp only [execOp, hE, Instr.arrayAt, Sem.run_bind, run_under ht, Result.andThen_ok]
            rw [if_neg (by omega)]
            rfl
        · exact h.elim
  case unOp op t x =>
    have h : one (.unOp op t x) P F A.heap x K (fun a => symUn op a K) := h
    simp only [one, cpo_iff] at h
    obtain ⟨a, ha, h⟩ := h
    cases hs : isSym a with
    | false => rw [hs] at h; exact hq (cpo_iff.2 h)
    | true =>
      rw [hs] at h
      obtain ⟨u, h1, h2, x', h3, h4⟩ := symUn_sound (P := P) (show symUn op (uval a) K from h)
      refine ⟨u, h1, fun σ w act hR hO => ⟨x', h3 σ, ?_⟩⟩
      have e1 := uval_ibs (hO x (by simp [Op.operands]) a ha) (by rcases h2 with ⟨k, n, e⟩ | ⟨b, e⟩ <;> rw [e] <;> rfl)
      simp [execOp, e1, h4 w]
  case convert s d x =>
    have h : one (.convert s d x) P F A.heap x K (fun a => symConv P s d a K) := h
    simp only [one, cpo_iff] at h
    obtain ⟨a, ha, h⟩ := h
    cases hs : isSym a with
    | false => rw [hs] at h; exact hq (cpo_iff.2 h)
    | true =>
      rw [hs] at h
      have h : symConv P s d (uval a) K := h
      unfold symConv at h
      split at h
      · rename_i k n hu
        simp only [cpo_iff, ob_some] at h
        obtain ⟨sd, hsd, kk, ⟨dd, hdd, hk⟩, h⟩ := h
        have hdk : dd = .int kk := by cases dd <;> simp [intD] at hk; rw [hk]
        subst hdk
        refine ⟨_, h _ rfl, fun σ w act hR hO => ⟨_, tgI_vr _ _, ?_⟩⟩
        have e1 := uval_int (hO x (by simp [Op.operands]) a ha) hu
        simp only [execOp, e1, convert, Sem.run_bind, run_under hsd, run_under hdd, Result.andThen_ok]
        rfl
      · exact h.elim
  case load t x =>
    have h : one (.load t x) P F A.heap x K (fun a => symLoad P t A.heap a K) := h
    simp only [one, cpo_iff] at h
    obtain ⟨a, ha, h⟩ := h
    cases hs : isSym a with
    | false => rw [hs] at h; exact hq (cpo_iff.2 h)
    | true =>
      rw [hs] at h
      obtain ⟨u, h1, h2⟩ := symLoad_sound (show symLoad P t A.heap (uval a) K from h)
      refine ⟨u, h1, fun σ w act hR hO => ?_⟩
      have hx := hO x (by simp [Op.operands]) a ha
      have hp : ∃ p, uval a = .pointer (some p) := by
        have h : symLoad P t A.heap (uval a) K := h
        unfold symLoad at h
        simp only [cpo_iff, ptrV_some] at h
        obtain ⟨p, hp, _⟩ := h
        exact ⟨p, hp⟩
      obtain ⟨p, hp⟩ := hp
      obtain ⟨u', k1, k2⟩ := h2 σ w _ hR (by rw [hp]; exact uval_ptr hx hp)
      exact ⟨u', k1, by simp [execOp, k2]⟩
  case indexAddr t x i =>
    have h : two (.indexAddr t x i) P F A.heap x i K (fun a b => symIndexAddr P t (uval a) (uval b) K) := h
    simp only [two, cpo_iff] at h
    obtain ⟨a, ha, b, hb, h⟩ := h
    cases hs : isSym a || isSym b with
    | false => rw [hs] at h; exact hq (cpo_iff.2 h)
    | true =>
      rw [hs] at h
      obtain ⟨u, h1, h2⟩ := symIndexAddr_sound (show symIndexAddr P t (uval a) (uval b) K from h)
      refine ⟨u, h1, fun σ w act hR hO => ?_⟩
      obtain ⟨u', k1, k2⟩ := h2 σ w _ _ (hO x (by simp [Op.operands]) a ha) (hO i (by simp [Op.operands]) b hb)
      exact ⟨u', k1, by simp only [execOp, Sem.run_bind, k2, Result.andThen_ok, Sem.run_pure]⟩
  case index t x i =>
    have h : two (.index t x i) P F A.heap x i K (fun a b => symIndex P t (uval a) (uval b) K) := h
    simp only [two, cpo_iff] at h
    obtain ⟨a, ha, b, hb, h⟩ := h
    cases hs : isSym a || isSym b with
    | false => rw [hs] at h; exact hq (cpo_iff.2 h)
    | true =>
      rw [hs] at h
      obtain ⟨u, h1, h2⟩ := symIndex_sound (show symIndex P t (uval a) (uval b) K from h)
      refine ⟨u, h1, fun σ w act hR hO => ?_⟩
      obtain ⟨u', k1, k2⟩ := h2 σ w _ _ (hO x (by simp [Op.operands]) a ha) (hO i (by simp [Op.operands]) b hb)
      exact ⟨u', k1, by simp only [execOp, Sem.run_bind, k2, Result.andThen_ok, Sem.run_pure]⟩
  case pick c x y =>
    have h : cpo (opnd P F c) (fun a => Bool.rec (cpo (evQ (.pick c x y) P F A.heap) K) (match uval a with
      | .bool b => (b = true → cpo (opnd P F x) K) ∧ (b = false → cpo (opnd P F y) K)
      | _ => False) (isSym a)) := h
    simp only [cpo_iff] at h
    obtain ⟨a, ha, h⟩ := h
    cases hs : isSym a with
    | false => rw [hs] at h; exact hq (cpo_iff.2 h)
    | true =>
      rw [hs] at h
      have h : (match uval a with
        | .bool b => (b = true → ∃ v, opnd P F x = some v ∧ K v) ∧ (b = false → ∃ v, opnd P F y = some v ∧ K v)
        | _ => False) := h
      split at h
      · rename_i b hu
        cases b with
        | true =>
          obtain ⟨v, hv, hK⟩ := h.1 rfl
          refine ⟨v, hK, fun σ w act hR hO => ⟨_, hO x (by simp [Op.operands]) v hv, ?_⟩⟩
          simp [execOp, uval_bool (hO c (by simp [Op.operands]) a ha) hu, asBool]
        | false =>
          obtain ⟨v, hv, hK⟩ := h.2 rfl
          refine ⟨v, hK, fun σ w act hR hO => ⟨_, hO y (by simp [Op.operands]) v hv, ?_⟩⟩
          simp [execOp, uval_bool (hO c (by simp [Op.operands]) a ha) hu, asBool]
      · exact h.elim
  case slice t x lo hi mx =>
    cases mx with
    | some _ => exact hq h
    | none =>
      have h : symS (.slice t x lo hi none) P F A.heap t x lo hi K := h
      simp only [symS, cpo_iff] at h
      obtain ⟨a, ha, l, hl, hh, hhh, h⟩ := h
      cases hs : isSym a || (symO l || symO hh) with
      | false => rw [hs] at h; exact hq (cpo_iff.2 h)
      | true =>
        rw [hs] at h
        have h : mnWays a (symSlice P A.heap t l hh K) := h
        obtain ⟨y, h, hy⟩ := mnWays_some h
        obtain ⟨v, h1, h2⟩ := symSlice_one (K := K) h
        refine ⟨v, h1, fun σ w act hR hO => ?_⟩
        obtain ⟨u', k1, k2⟩ := symSlice_sound hR (hy σ _ (hO x (by simp [Op.operands]) a ha)) (optOp_run (fun x hx => hO x (by simp at hx; simp [Op.operands, hx])) hl) (optOp_run (fun x hx => hO x (by simp at hx; simp [Op.operands, hx])) hhh) h2
        exact ⟨u', k1, by simp [execOp, k2]⟩
  case call c =>
    obtain ⟨cal, ⟨args⟩, ⟨ats⟩⟩ := c
    have h : symCall ⟨cal, ⟨args⟩, ⟨ats⟩⟩ (.call ⟨cal, ⟨args⟩, ⟨ats⟩⟩) P F A.heap K := h
    unfold symCall at h
    split at h
    · rename_i hc
      simp only at hc
      subst hc
      simp only [cpo_iff, lget_eq] at h
      obtain ⟨t, ht, x, hx, h⟩ := h
      simp only [one, cpo_iff] at h
      obtain ⟨a, ha, h⟩ := h
      cases hs : isSym a with
      | false => rw [hs] at h; exact hq (cpo_iff.2 h)
      | true =>
        rw [hs] at h
        obtain ⟨u, h1, h2⟩ := symLen_sound (show symLen P t (uval a) K from h)
        refine ⟨u, h1, fun σ w act hR hO => ?_⟩
        cases ats with
        | nil => simp at ht
        | cons t' ts => cases args with
          | nil => simp at hx
          | cons x' xs =>
            simp at ht hx; subst ht hx
            obtain ⟨u', k1, k2⟩ := h2 σ w _ (hO _ (by simp [Op.operands, Call.operands]) a ha)
            refine ⟨u', k1, ?_⟩
            simp only [execOp, resolve, Sem.run_bind, Sem.run_pure, Result.andThen_ok, invoke]
            rw [map_ops]
            have := k2 ts ty (xs.map act.eval)
            simp only [builtin, List.map_cons, Sem.run_bind, this, Result.andThen_ok, Sem.run_pure]
    · rename_i hc
      simp only at hc
      subst hc
      simp only [cpo_iff] at h
      obtain ⟨vs, hvs, h⟩ := h
      cases hs : anySym vs with
      | false => rw [hs] at h; exact hq (cpo_iff.2 h)
      | true =>
        rw [hs] at h
        obtain ⟨x, y, j, k, m, n, rfl, hx, hy, hK⟩ := symMM_some (show symMM .min vs K from h)
        refine ⟨_, hK, fun σ w act hR hO => ⟨_, tgI_vr _ _, ?_⟩⟩
        have hv := opnds_run (a := act) (fun x hx => hO x (by simp [Op.operands, Call.operands]; simpa using hx)) hvs
        simp only [execOp, resolve, Sem.run_bind, Sem.run_pure, Result.andThen_ok, invoke]
        rw [map_ops]
        generalize args.map act.eval = zs at hv ⊢
        cases hv with
        | cons p1 hv => cases hv with
          | cons p2 hv =>
            cases hv
            rw [uval_int p1 hx, uval_int p2 hy]
            exact mm_run (.inl rfl) w
    · rename_i hc
      simp only at hc
      subst hc
      simp only [cpo_iff] at h
      obtain ⟨vs, hvs, h⟩ := h
      cases hs : anySym vs with
      | false => rw [hs] at h; exact hq (cpo_iff.2 h)
      | true =>
        rw [hs] at h
        obtain ⟨x, y, j, k, m, n, rfl, hx, hy, hK⟩ := symMM_some (show symMM .max vs K from h)
        refine ⟨_, hK, fun σ w act hR hO => ⟨_, tgI_vr _ _, ?_⟩⟩
        have hv := opnds_run (a := act) (fun x hx => hO x (by simp [Op.operands, Call.operands]; simpa using hx)) hvs
        simp only [execOp, resolve, Sem.run_bind, Sem.run_pure, Result.andThen_ok, invoke]
        rw [map_ops]
        generalize args.map act.eval = zs at hv ⊢
        cases hv with
        | cons p1 hv => cases hv with
          | cons p2 hv =>
            cases hv
            rw [uval_int p1 hx, uval_int p2 hy]
            exact mm_run (.inr rfl) w
    · exact hq h
end Go.Ev
end
