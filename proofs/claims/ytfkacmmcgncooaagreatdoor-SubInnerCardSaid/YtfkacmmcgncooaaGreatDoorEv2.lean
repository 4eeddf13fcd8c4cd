/- The evaluator with variables: every quiet operation. -/
import Derived.Test.YtfkacmmcgncooaaGreatDoorEvV
set_option linter.unusedSectionVars false
namespace Go.Ev
variable {P : Program} {σ : Sg} {w : World} [Frozen P]
theorem VR.sym_inv {v v' : Value} (h : VR σ (.iface SYM v) v') : isScal v = true ∧ VR σ v v' := by
  cases h with
  | iface e _ => exact absurd e noSYM
  | flat e => cases e
  | sym e a => exact ⟨e, a⟩
theorem uval_sym (v : Value) : uval (.iface SYM v) = v := rfl
theorem uval_int {v v' : Value} {k : IntKind} {n : Int} (h : VR σ v v') (e : uval v = .int k n) : v' = .int k n := by
  cases h with
  | flat f => cases v <;> first | (cases f; done) | (cases e; done) | (cases e; rfl)
  | sym s a => rw [uval_sym] at e; subst e; exact a.of_flat rfl
  | iface hlt a =>
    rename_i t u u'
    have h1 : Nat.beq t SYM = false := by cases hb : Nat.beq t SYM with
      | false => rfl
      | true => rw [beqIff.1 hb] at hlt; exact absurd hlt noSYM
    have h2 : Nat.beq t MN = false := by cases hb : Nat.beq t MN with
      | false => rfl
      | true => rw [beqIff.1 hb] at hlt; exact absurd hlt noMN
    simp only [uval, h1, h2] at e; cases e
  | any => cases e
  | mnil => cases e
  | mn => cases e
  | _ => cases e
theorem uval_bool {v v' : Value} {b : Bool} (h : VR σ v v') (e : uval v = .bool b) : v' = .bool b := by
  cases h with
  | flat f => cases v <;> first | (cases f; done) | (cases e; done) | (cases e; rfl)
  | sym s a => rw [uval_sym] at e; subst e; exact a.of_flat rfl
  | iface hlt a =>
    rename_i t u u'
    have h1 : Nat.beq t SYM = false := by cases hb : Nat.beq t SYM with
      | false => rfl
      | true => rw [beqIff.1 hb] at hlt; exact absurd hlt noSYM
    have h2 : Nat.beq t MN = false := by cases hb : Nat.beq t MN with
      | false => rfl
      | true => rw [beqIff.1 hb] at hlt; exact absurd hlt noMN
    simp only [uval, h1, h2] at e; cases e
  | any => cases e
  | mnil => cases e
  | mn => cases e
  | _ => cases e
theorem uval_str {v v' : Value} {s : ByteArray} (h : VR σ v v') (e : uval v = .string s) : v' = .string s := by
  cases h with
  | flat f => cases v <;> first | (cases f; done) | (cases e; done) | (cases e; rfl)
  | sym s a => rw [uval_sym] at e; subst e; exact a.of_flat rfl
  | iface hlt a =>
    rename_i t u u'
    have h1 : Nat.beq t SYM = false := by cases hb : Nat.beq t SYM with
      | false => rfl
      | true => rw [beqIff.1 hb] at hlt; exact absurd hlt noSYM
    have h2 : Nat.beq t MN = false := by cases hb : Nat.beq t MN with
      | false => rfl
      | true => rw [beqIff.1 hb] at hlt; exact absurd hlt noMN
    simp only [uval, h1, h2] at e; cases e
  | any => cases e
  | mnil => cases e
  | mn => cases e
  | _ => cases e
theorem uval_agg {v v' : Value} {c : Array Value} (h : VR σ v v') (e : uval v = .agg c) : VR σ (.agg c) v' := by
  cases h with
  | flat f => cases v <;> first | (cases f; done) | (cases e; done) | (cases e; exact .flat f)
  | agg g => cases e; exact .agg g
  | sym s b => rw [uval_sym] at e; subst e; cases s
  | iface hlt b =>
    rename_i t u u'
    have h1 : Nat.beq t SYM = false := by cases hb : Nat.beq t SYM with
      | false => rfl
      | true => rw [beqIff.1 hb] at hlt; exact absurd hlt noSYM
    have h2 : Nat.beq t MN = false := by cases hb : Nat.beq t MN with
      | false => rfl
      | true => rw [beqIff.1 hb] at hlt; exact absurd hlt noMN
    simp only [uval, h1, h2] at e; cases e
  | any => cases e
  | mnil => cases e
  | mn => cases e
  | _ => cases e
theorem uval_ptr {v v' : Value} {a : Addr} (h : VR σ v v') (e : uval v = .pointer (some a)) : VR σ (.pointer (some a)) v' := by
  cases h with
  | flat f => cases v <;> first | (cases f; done) | (cases e; done) | (cases e; exact .flat f)
  | ptr g => cases e; exact .ptr g
  | sym s b => rw [uval_sym] at e; subst e; exact b
  | iface hlt b =>
    rename_i t u u'
    have h1 : Nat.beq t SYM = false := by cases hb : Nat.beq t SYM with
      | false => rfl
      | true => rw [beqIff.1 hb] at hlt; exact absurd hlt noSYM
    have h2 : Nat.beq t MN = false := by cases hb : Nat.beq t MN with
      | false => rfl
      | true => rw [beqIff.1 hb] at hlt; exact absurd hlt noMN
    simp only [uval, h1, h2] at e; cases e
  | any => cases e
  | mnil => cases e
  | mn => cases e
  | _ => cases e
theorem uval_slice {v v' : Value} {a : Option Addr} {l c : Nat} (h : VR σ v v') (e : uval v = .slice a l c) : VR σ (.slice a l c) v' ∨ (v' = .slice none 0 0 ∧ l = 0 ∧ c = 0) := by
  cases h with
  | flat f => cases v <;> first | (cases f; done) | (cases e; done) | (cases e; exact .inl (.flat f))
  | slice g => cases e; exact .inl (.slice g)
  | sym s b => rw [uval_sym] at e; subst e; exact .inl b
  | iface hlt b =>
    rename_i t u u'
    have h1 : Nat.beq t SYM = false := by cases hb : Nat.beq t SYM with
      | false => rfl
      | true => rw [beqIff.1 hb] at hlt; exact absurd hlt noSYM
    have h2 : Nat.beq t MN = false := by cases hb : Nat.beq t MN with
      | false => rfl
      | true => rw [beqIff.1 hb] at hlt; exact absurd hlt noMN
    simp only [uval, h1, h2] at e; cases e
  | any => cases e
  | mnil _ e1 e2 => cases e; exact .inr ⟨rfl, e1, e2⟩
  | mn _ g => cases e; exact .inl (.slice g)
  | _ => cases e
noncomputable section
inductive SK where
  | i (k : IntKind) | b | s | x
def catK (x : Option (List SK)) (y : Option (List SK)) : Option (List SK) := ob x fun a => ob y fun b => some (a ++ b)
def kindsF (rec_ : TypeId → Option (List SK)) (l : List Field) : Option (List SK) := List.rec (some []) (fun f _ ih => catK (rec_ f.type) ih) l
def kindsN (x : Option (List SK)) (n : Nat) : Option (List SK) := Nat.rec (some []) (fun _ ih => catK x ih) n
def kindsD (rec_ : TypeId → Option (List SK)) : TypeDesc → Option (List SK)
  | .int k => some [.i k]
  | .bool => some [.b]
  | .string => some [.s]
  | .slice _ => some [.x]
  | .struct fs => kindsF rec_ fs.toList
  | .array n e => kindsN (rec_ e) n
  | _ => none
def kinds (P : Program) [Frozen P] (n : Nat) : TypeId → Option (List SK) := Nat.rec (motive := fun _ => TypeId → Option (List SK)) (fun _ => none) (fun _ ih t => ob (P.underlying t) (kindsD ih)) n
def Rd (c : List Value) (o : Nat) (v : Value) : Prop := c[o]? = some v ∨ c[o]? = some (tg v)
def rd1 (sk : SK) (c : List Value) (o : Nat) (K : Value → Prop) : Prop := match sk with
  | .i k => ∃ z : Int, Rd c o (.int k z) ∧ K (tgI k z)
  | .b => ∃ b : Bool, Rd c o (.bool b) ∧ K (tg (.bool b))
  | .s => ∃ s : List UInt8, Rd c o (mkStr s) ∧ K (tg (mkStr s))
  | .x => False
def rdAll (ks : List SK) (c : List Value) (o : Nat) : Nat → (List Value → Prop) → Prop := List.rec (motive := fun _ => Nat → (List Value → Prop) → Prop) (fun _ K => K [])
  (fun k _ ih j K => rd1 k c (Nat.add o j) fun v => ih (Nat.succ j) fun vs => K (v :: vs)) ks
def oneOf (vs : List Value) (K : Value → Prop) : Prop := match vs with
  | [v] => K v
  | _ => False
def symLoad (P : Program) [Frozen P] (t : TypeId) (H : T AO) (v : Value) (K : Value → Prop) : Prop := cpo (ptrV v) fun a => match a with
  | ⟨b, o, none⟩ => cpo (rowAt H b fun c _ _ => some c) fun c => cpo (kinds P 8 t) fun ks => cpo (isAggA P t) fun ag =>
    Bool.rec (rdAll ks c o 0 fun vs => oneOf vs K) (cpo (sizeA P t) fun n => cpb (lenB ks n) (rdAll ks c o 0 fun vs => K (.agg ⟨vs⟩))) ag
  | _ => False
def symUn (op : UnOp) (v : Value) (K : Value → Prop) : Prop := match op with
  | .neg => match v with
    | .int k n => sInt k (0 - n) K
    | _ => False
  | .xor => match v with
    | .int k n => sInt k (bitsOf .xor k (if k.signed then -1 else k.max) n) K
    | _ => False
  | .not => match v with
    | .bool b => (b = true → K (.bool false)) ∧ (b = false → K (.bool true))
    | _ => False
  | _ => False
def symConv (P : Program) [Frozen P] (s d : TypeId) (v : Value) (K : Value → Prop) : Prop := match v with
  | .int _ n => cpo (P.underlying s) fun _ => cpo (ob (P.underlying d) intD) fun k => sInt k n K
  | _ => False
def symLen (P : Program) [Frozen P] (t : TypeId) (v : Value) (K : Value → Prop) : Prop := cpo (P.underlying t) fun d => match d with
  | .string => match v with
    | .string s => sSet .i64 (s.data.toList.length : Int) K
    | _ => False
  | .slice _ => match v with
    | .slice _ n _ => sSet .i64 (n : Int) K
    | _ => False
  | _ => False
def symIdx (P : Program) [Frozen P] (e : TypeId) (a : Option Addr) (len : Nat) (i : Value) (K : Value → Prop) : Prop := cpo a fun a => match a with
  | ⟨b, o, none⟩ => cpo (sizeA P e) fun n => match i with
    | .int _ z => (0 ≤ z ∧ z < len) ∧ ∀ p : Nat, p = o + z.toNat * n → K (tg (.pointer (some ⟨b, p, none⟩)))
    | _ => False
  | _ => False
def symIndexAddr (P : Program) [Frozen P] (t : TypeId) (x i : Value) (K : Value → Prop) : Prop := cpo (P.underlying t) fun d => match d with
  | .array len e => match x with
    | .pointer a => symIdx P e a len i K
    | _ => False
  | .slice e => match x with
    | .slice a len _ => symIdx P e a len i K
    | _ => False
  | _ => False
def arrW (P : Program) (e : TypeId) (c : List Value) (n : Nat) (z : Int) (K : Value → Prop) (is : List Nat) : Prop := List.rec True (fun j _ ih => (z = (j : Int) → cpo (partA P e c (Nat.mul j n)) K) ∧ ih) is
def symIndex (P : Program) [Frozen P] (t : TypeId) (x i : Value) (K : Value → Prop) : Prop := cpo (P.underlying t) fun d => match d with
  | .array len e => match x with
    | .agg c => match i with
      | .int _ z => cpo (sizeA P e) fun n => (0 ≤ z ∧ z < len) ∧ arrW P e c.toList n z K (List.range len)
      | _ => False
    | _ => False
  | .string => match x with
    | .string s => match i with
      | .int _ z => (0 ≤ z ∧ z < s.data.toList.length) ∧ ∀ b : UInt8, s.data.toList[z.toNat]? = some b → K (tgI .u8 b.toNat)
      | _ => False
    | _ => False
  | _ => False
def mmOf (b : Builtin) (m n : Int) : Int := match b with
  | .min => min m n
  | _ => max m n
def symMM (b : Builtin) (vs : List Value) (K : Value → Prop) : Prop := match vs with
  | [x, y] => match uval x with
    | .int j m => match uval y with
      | .int _ n => sSet j (mmOf b m n) K
      | _ => False
    | _ => False
  | [x, y, z, u] => match uval x with
    | .int j m => match uval y with
      | .int _ n => match uval z with
        | .int _ o => match uval u with
          | .int _ q => sSet j (mmOf b (mmOf b (mmOf b m n) o) q) K
          | _ => False
        | _ => False
      | _ => False
    | _ => False
  | _ => False
def mnB : Value → Option Bool
  | .iface t v => Bool.rec none (match v with
    | .agg ⟨[.bool b, _]⟩ => some b
    | _ => none) (Nat.beq t MN)
  | _ => none
def nilV : Value → Bool
  | .slice none 0 0 => true
  | _ => false
def sliceK (P : Program) [Frozen P] (t : TypeId) : Bool := Option.rec false (fun d => match d with
  | .slice _ => true
  | _ => false) (P.underlying t)
def symNil (P : Program) [Frozen P] (op : BinOp) (t : TypeId) (b : Bool) (K : Value → Prop) : Prop := cpb (sliceK P t) (match op with
  | .eql => (b = true → K (.bool true)) ∧ (b = false → K (.bool false))
  | .neq => (b = true → K (.bool false)) ∧ (b = false → K (.bool true))
  | _ => False)
def two (o : Op) (P : Program) [Frozen P] (F : T Value) (H : T AO) (x y : Operand) (K : Value → Prop) (s : Value → Value → Prop) : Prop := cpo (opnd P F x) fun a => cpo (opnd P F y) fun b =>
  Bool.rec (cpo (evQ o P F H) K) (s a b) (isSym a || isSym b)
def one (o : Op) (P : Program) [Frozen P] (F : T Value) (H : T AO) (x : Operand) (K : Value → Prop) (s : Value → Prop) : Prop := cpo (opnd P F x) fun a =>
  Bool.rec (cpo (evQ o P F H) K) (s (uval a)) (isSym a)
def anySym (l : List Value) : Bool := List.rec false (fun v _ ih => Bool.rec ih true (isSym v)) l
def symB (P : Program) [Frozen P] (op : BinOp) (t : TypeId) (a b : Value) (K : Value → Prop) : Prop := Option.rec (symBin P op t (uval a) (uval b) K) (fun nb => cpb (nilV b) (symNil P op t nb K)) (mnB a)
def symCall (c : Call) (o : Op) (P : Program) [Frozen P] (F : T Value) (H : T AO) (K : Value → Prop) : Prop := match c.callee with
  | .builtin .len => cpo (lget c.argTypes.toList 0) fun t => cpo (lget c.args.toList 0) fun x => one o P F H x K fun a => symLen P t a K
  | .builtin .min => cpo (opnds P F c.args.toList) fun vs => Bool.rec (cpo (evQ o P F H) K) (symMM .min vs K) (anySym vs)
  | .builtin .max => cpo (opnds P F c.args.toList) fun vs => Bool.rec (cpo (evQ o P F H) K) (symMM .max vs K) (anySym vs)
  | _ => cpo (evQ o P F H) K
def mnWays (v : Value) (f : Value → Prop) : Prop := Option.rec (f (uval v)) (fun b => (b = true → f (.slice none 0 0)) ∧ (b = false → f (uval v))) (mnB v)
def numO (d : Int) (v : Option Value) : Option Int := Option.rec (some d) (fun v => match uval v with
  | .int _ z => some z
  | _ => none) v
def symO (v : Option Value) : Bool := Option.rec false isSym v
def symSl (H : T AO) (n b o len cap : Nat) (l h : Int) (K : Value → Prop) : Prop := cpo (H.get b) fun x => match x with
  | .row _ _ m => ((0 ≤ l ∧ l ≤ h ∧ h ≤ cap) ∧ (m.roomy = true → h ≤ len ∧ (l = 0 ∨ l < cap))) ∧ ∀ p q c : Nat, p = (if cap = l.toNat then o else o + l.toNat * n) → q = h.toNat - l.toNat → c = cap - l.toNat → K (tg (.slice (some ⟨b, p, none⟩) q c))
  | _ => False
def symSlice (P : Program) [Frozen P] (H : T AO) (t : TypeId) (lo hi : Option Value) (K : Value → Prop) (x : Value) : Prop := cpo (P.underlying t) fun d => match d with
  | .slice e => match x with
    | .slice a len cap => cpo (sizeA P e) fun n => cpo (numO 0 lo) fun l => cpo (numO len hi) fun h => match a with
      | some ⟨b, o, none⟩ => symSl H n b o len cap l h K
      | none => cpb (Nat.beq (Nat.add len cap) 0) ((l = 0 ∧ h = 0) ∧ K (.slice none 0 0))
      | _ => False
    | _ => False
  | _ => False
def symS (o : Op) (P : Program) [Frozen P] (F : T Value) (H : T AO) (t : TypeId) (x : Operand) (lo hi : Option Operand) (K : Value → Prop) : Prop := cpo (opnd P F x) fun a => cpo (optOp P F lo) fun l => cpo (optOp P F hi) fun h =>
  Bool.rec (cpo (evQ o P F H) K) (mnWays a (symSlice P H t l h K)) (isSym a || (symO l || symO h))
def eqC (d : TypeDesc) (x y : Value) : Option (List (Value × Value)) := match d with
  | .int _ => match uval x with
    | .int j _ => match uval y with
      | .int k _ => bt (sameK j k) (some [(x, y)])
      | _ => none
    | _ => none
  | .bool => match uval x with
    | .bool _ => match uval y with
      | .bool _ => some [(x, y)]
      | _ => none
    | _ => none
  | .string => match uval x with
    | .string _ => match uval y with
      | .string _ => some [(x, y)]
      | _ => none
    | _ => none
  | _ => none
abbrev Prs := Option (List (Value × Value))
def catP (x y : Prs) : Prs := ob x fun a => ob y fun b => some (a ++ b)
def eqPF (P : Program) [Frozen P] (f : TypeId → Value → Value → Prs) (xs ys : List Value) (fs : List Field) : Prs := List.rec (some []) (fun fd _ ih =>
  Bool.rec (ob (partA P fd.type xs fd.offset) fun a => ob (partA P fd.type ys fd.offset) fun b => catP (f fd.type a b) ih) none (decide (fd.name = "_"))) fs
def eqPR (P : Program) [Frozen P] (f : Value → Value → Prs) (e : TypeId) (n : Nat) (xs ys : List Value) (is : List Nat) : Prs := List.rec (some []) (fun i _ ih =>
  ob (partA P e xs (Nat.mul i n)) fun a => ob (partA P e ys (Nat.mul i n)) fun b => catP (f a b) ih) is
def eqPD (P : Program) [Frozen P] (f : TypeId → Value → Value → Prs) (t : TypeId) (d : TypeDesc) (x y : Value) : Prs := match d with
  | .struct fs => bt (bnot (P.stoodInHeld t)) (ob (aggV x) fun xs => ob (aggV y) fun ys => eqPF P f xs ys fs.toList)
  | .array len e => ob (aggV x) fun xs => ob (aggV y) fun ys => ob (sizeA P e) fun n => eqPR P (f e) e n xs ys (List.range len)
  | d => eqC d x y
def eqP (P : Program) [Frozen P] (n : Nat) : TypeId → Value → Value → Prs := Nat.rec (motive := fun _ => TypeId → Value → Value → Prs) (fun _ _ _ => none) (fun _ ih t x y => ob (P.underlying t) fun d => eqPD P ih t d x y) n
def eqv (x y : Value) : Prop := match uval x with
  | .int _ m => match uval y with
    | .int _ n => m = n
    | _ => False
  | .bool p => match uval y with
    | .bool q => p = q
    | _ => False
  | .string s => match uval y with
    | .string u => s.data.toList = u.data.toList
    | _ => False
  | _ => False
def neV (x y : Value) : Bool := match x with
  | .int _ m => match y with
    | .int _ n => bnot (decide (m = n))
    | _ => false
  | .bool p => match y with
    | .bool q => Bool.rec q (bnot q) p
    | _ => false
  | _ => false
def neB (l : List (Value × Value)) : Bool := List.rec false (fun p _ ih => Bool.rec ih true (neV p.1 p.2)) l
def conj (l : List (Value × Value)) : Prop := List.rec True (fun p _ ih => eqv p.1 p.2 ∧ ih) l
def symAgg (P : Program) [Frozen P] (op : BinOp) (t : TypeId) (a b : Value) (K : Value → Prop) : Prop := cpb (bnot (P.eqGuardType P.depth t)) (cpo (aggV a) fun _ => cpo (aggV b) fun _ => cpo (eqP P 8 t a b) fun l => match op with
  | .eql => Bool.rec ((conj l → K (.bool true)) ∧ (¬ conj l → K (.bool false))) (K (.bool false)) (neB l)
  | .neq => Bool.rec ((¬ conj l → K (.bool true)) ∧ (conj l → K (.bool false))) (K (.bool true)) (neB l)
  | _ => False)
def symArr (P : Program) [Frozen P] (t : TypeId) (v : Value) (K : Value → Prop) : Prop := cpo (arrayT P t) fun q => match v with
  | .slice (some a) len _ => q.1 ≤ len ∧ K (tg (.pointer (some a)))
  | _ => False
def symCells (v : Value) : Bool := match v with
  | .agg c => anySym c.toList
  | _ => false
def FX (P : Program) [Frozen P] (b o : Nat) (v : Value) : Prop := ∃ cs e fz, Frozen.F P b = some (.cells cs e fz) ∧ cs[o]? = some v
def xr1 (P : Program) [Frozen P] (sk : SK) (b o : Nat) (K : Value → Prop) : Prop := match sk with
  | .i k => ∃ z : Int, FX P b o (.int k z) ∧ K (tgI k z)
  | .b => ∃ z : Bool, FX P b o (.bool z) ∧ K (tg (.bool z))
  | .s => ∃ s : List UInt8, FX P b o (mkStr s) ∧ K (tg (mkStr s))
  | .x => ∃ (a : Option Addr) (l c : Nat), FX P b o (.slice a l c) ∧ K (.iface EXT (.slice a l c))
def xrAll (P : Program) [Frozen P] (ks : List SK) (b o : Nat) : Nat → (List Value → Prop) → Prop := List.rec (motive := fun _ => Nat → (List Value → Prop) → Prop) (fun _ K => K [])
  (fun k _ ih j K => xr1 P k b (Nat.add o j) fun v => ih (Nat.succ j) fun vs => K (v :: vs)) ks
def xLoad (P : Program) [Frozen P] (t : TypeId) (b o : Nat) (K : Value → Prop) : Prop := cpo (kinds P 8 t) fun ks => cpo (isAggA P t) fun ag =>
  Bool.rec (xrAll P ks b o 0 fun vs => oneOf vs K) (cpo (sizeA P t) fun n => cpb (lenB ks n) (xrAll P ks b o 0 fun vs => K (.agg ⟨vs⟩))) ag
def xval (v : Value) : Option (Bool × Value) := match v with
  | .iface t x => bt (isX t) (some (Nat.beq t EXL, x))
  | _ => none
def xop (o : Op) : Option Operand := match o with
  | .load _ x | .indexAddr _ x _ | .fieldAddr _ x _ | .binOp _ _ x _ _ => some x
  | .slice _ x _ _ mx => Option.rec (some x) (fun _ => none) mx
  | .call c => match c.callee with
    | .builtin .len => lget c.args.toList 0
    | _ => none
  | _ => none
def xIdx (P : Program) (e : TypeId) (a : Option Addr) (len : Nat) (i : Value) (K : Value → Prop) : Prop := cpo (sizeA P e) fun n => match i with
  | .int _ z => (0 ≤ z ∧ z < len) ∧ ∃ b o : Nat, a = some ⟨b, o, none⟩ ∧ ∀ p : Nat, p = o + z.toNat * n → K (.iface EXT (.pointer (some ⟨b, p, none⟩)))
  | _ => False
def xIdxV (P : Program) (e : TypeId) (i : Value) (K : Value → Prop) (a : Value) : Prop := match a with
  | .slice x len _ => xIdx P e x len i K
  | _ => False
def xLoadV (P : Program) [Frozen P] (t : TypeId) (K : Value → Prop) (a : Value) : Prop := match a with
  | .pointer (some ⟨b, o, none⟩) => xLoad P t b o K
  | _ => False
def xField (P : Program) (s : TypeId) (f : Nat) (a : Value) (K : Value → Prop) : Prop := cpo (structT P s) fun fs => cpo (lget fs.toList f) fun fd => cpo (sizeA P fd.type) fun n => cpb (Nat.blt 0 n) (match a with
  | .pointer (some ⟨b, o, none⟩) => ∀ p : Nat, p = o + fd.offset → K (.iface EXT (.pointer (some ⟨b, p, none⟩)))
  | _ => False)
def xNil (op : BinOp) (a : Value) (K : Value → Prop) : Prop := match a with
  | .slice x _ _ => match op with
    | .eql => sIf (x = none) K
    | .neq => sIf (x ≠ none) K
    | _ => False
  | _ => False
def xCut (l n cap : Nat) (a : Addr) : Addr := if cap = l then a else a.add (l * n)
def xSlice (P : Program) (t : TypeId) (lo hi : Option Value) (a : Value) (K : Value → Prop) : Prop := cpo (sliceT P t) fun e => cpo (sizeA P e) fun n => match a with
  | .slice x len cap => cpo (numO 0 lo) fun l => cpo (numO len hi) fun h => (0 ≤ l ∧ l ≤ h ∧ h ≤ cap) ∧
    ∀ (y : Option Addr) (q c : Nat), y = x.map (xCut l.toNat n cap) → q = h.toNat - l.toNat → c = cap - l.toNat → K (.iface EXT (.slice y q c))
  | _ => False
def xLen (lit : Bool) (a : Value) (K : Value → Prop) : Prop := match a with
  | .slice _ n _ => Bool.rec (sSet .i64 (n : Int) K) (K (.int .i64 (Int.ofNat n))) lit
  | _ => False
def xQ (P : Program) [Frozen P] (o : Op) (F : T Value) (K : Value → Prop) (p : Bool × Value) : Prop := let a := p.2; match o with
  | .load t _ => xLoadV P t K a
  | .indexAddr t _ i => cpo (sliceT P t) fun e => cpo (opnd P F i) fun iv => xIdxV P e (uval iv) K a
  | .fieldAddr s _ f => xField P s f a K
  | .binOp op t _ y _ => cpo (opnd P F y) fun b => cpb (nilV b) (cpb (sliceK P t) (xNil op a K))
  | .slice t _ lo hi _ => cpo (optOp P F lo) fun l => cpo (optOp P F hi) fun h => xSlice P t l h a K
  | .call c => cpo (lget c.argTypes.toList 0) fun t => cpb (sliceK P t) (xLen p.1 a K)
  | _ => False
def symField (P : Program) (s : TypeId) (f : Nat) (a : Value) (K : Value → Prop) : Prop := cpo (structT P s) fun fs => cpo (lget fs.toList f) fun fd => cpo (sizeA P fd.type) fun n => cpb (Nat.blt 0 n) (match a with
  | .pointer (some ⟨b, o, none⟩) => ∀ p : Nat, p = o + fd.offset → K (tg (.pointer (some ⟨b, p, none⟩)))
  | _ => False)
def symQ0 (P : Program) [Frozen P] (o : Op) (F : T Value) (H : T AO) (K : Value → Prop) : Prop := match o with
  | .binOp op t x y _ => cpo (opnd P F x) fun a => cpo (opnd P F y) fun b => Bool.rec (Bool.rec (cpo (evQ o P F H) K) (symB P op t a b K) (isSym a || isSym b)) (symAgg P op t a b K) (symCells a || symCells b)
  | .sliceToArrayPointer t x => cpo (opnd P F x) fun a => Bool.rec (cpo (evQ o P F H) K) (Option.rec (symArr P t (uval a) K) (fun _ => False) (mnB a)) (isSym a)
  | .unOp op _ x => one o P F H x K fun a => symUn op a K
  | .convert s d x => one o P F H x K fun a => symConv P s d a K
  | .load t x => one o P F H x K fun a => symLoad P t H a K
  | .indexAddr t x i => two o P F H x i K fun a b => symIndexAddr P t (uval a) (uval b) K
  | .index t x i => two o P F H x i K fun a b => symIndex P t (uval a) (uval b) K
  | .fieldAddr s x f => one o P F H x K fun a => symField P s f a K
  | .pick c x y => cpo (opnd P F c) fun a => Bool.rec (cpo (evQ o P F H) K) (match uval a with
    | .bool b => (b = true → cpo (opnd P F x) K) ∧ (b = false → cpo (opnd P F y) K)
    | _ => False) (isSym a)
  | .call c => symCall c o P F H K
  | .slice t x lo hi mx => Option.rec (symS o P F H t x lo hi K) (fun _ => cpo (evQ o P F H) K) mx
  | o => cpo (evQ o P F H) K
def xarg (P : Program) (F : T Value) (o : Op) : Option (Bool × Value) := ob (xop o) fun x => ob (opnd P F x) xval
def keyIs (k : Value) (u : Value) (f g : Prop) : Prop := match k with
  | .int j z => match u with
    | .int i n => cpb (sameK j i) ((z = n → f) ∧ (z ≠ n → g))
    | _ => False
  | .string s => match u with
    | .string t => (s.data.toList = t.data.toList → f) ∧ (s.data.toList ≠ t.data.toList → g)
    | _ => False
  | _ => False
def keyK (kd : TypeDesc) (k : Value) : Bool := match k with
  | .int j _ => match kd with
    | .int i => sameK j i
    | _ => false
  | .string _ => match kd with
    | .string => true
    | _ => false
  | _ => false
def lkQ (P : Program) (t : TypeId) (ok : Bool) (k : Value) (K : Value → Prop) (es : List MapEntry) : Prop := List.rec (cpo (ob (zero2 P t) fun z => okV ok z false) K)
  (fun e _ ih => keyIs k e.key (cpo (okV ok e.val true) K) ih) es
def symLk (P : Program) (o : Op) (H : T AO) (K : Value → Prop) (a : Value × Value) : Prop := match o with
  | .lookup t _ _ ok => cpo (mapT P t) fun q => cpo (P.underlying q.1) fun kd => cpb (keyK kd a.2) (cpo (entriesA H a.1) fun es => lkQ P q.2 ok a.2 K es)
  | _ => False
def karg (P : Program) (F : T Value) (o : Op) : Option (Value × Value) := match o with
  | .lookup _ x k _ => ob (opnd P F x) fun m => ob (opnd P F k) fun k => bt (isSym k) (some (m, uval k))
  | _ => none
def symQ (P : Program) [Frozen P] (o : Op) (F : T Value) (H : T AO) (K : Value → Prop) : Prop := Option.rec (Option.rec (symQ0 P o F H K) (symLk P o H K) (karg P F o)) (xQ P o F K) (xarg P F o)
end
end Go.Ev
