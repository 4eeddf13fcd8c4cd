/- Functions that are run as they are; calls that were reckoned ahead. -/
import Derived.Test.YtfkacmmcgncooaaGreatDoorEv13
import Derived.Test.YtfkacmmcgncooaaGreatDoorEnv
import Derived.Test.YtfkacmmcgncooaaGreatDoorEvV
import Derived.Below
section
set_option maxRecDepth 100000
namespace Go.Proofs.YtfkacmmcgncooaaGreatDoor
open Go.Ev
set_option linter.unusedSectionVars false
variable [Go.Ev.Frozen Tryz.prog]
noncomputable section
def cwX0 : CW := fun _ _ _ _ => False
def cwX (s : CW → CW) : Nat → CW
  | 0 => cwX0
  | n + 1 => s fun f args A K => fnW Tryz.prog E0 (cwX s n) [] f args A K
end
theorem cwX0_ok : CwOK Tryz.prog cwX0 := fun _ _ _ _ h => h.elim
theorem cwX_ok {s : CW → CW} (hs : ∀ cw, CwOK Tryz.prog cw → CwOK Tryz.prog (s cw)) : ∀ n, CwOK Tryz.prog (cwX s n) := by
  intro n
  induction n with
  | zero => exact cwX0_ok
  | succ n ih => exact hs _ (cw_fn envOK ih)
end Go.Proofs.YtfkacmmcgncooaaGreatDoor
end

/- The evaluator with variables: from a world to what is told of it; a call. -/
section
open Go.RowKit (Below)
set_option linter.unusedSectionVars false
namespace Go.Ev
variable {P : Program} [Frozen P]
theorem sem_calls {E : Env} (hE : EnvOK P E) {f : FuncId} {fn : Func} {c : Code} (hf : P.funcs[f]? = some fn) (hb : fn.body = some c) {abs args : List Value} {A B : AW} {v : Value} (hv : flat3 v = true) (h : FnSem P f abs A v B) {σ : Sg} {w : World} (hR : Rel P σ A w) (ha : VRL σ abs args)
    (hro : ∀ j o, A.heap.get j = some o → mayW o = false) : Calls P f ⟨args⟩ w fun e w' => e = .returned v ∧ Below w.heap.size w w' := by
  have hent := entered (P := P) (hE.name f fn hf) hf hb ⟨args⟩ w
  have hnw : ∀ b, ¬ Wr σ A b := by
    rintro b ⟨i, d, o, _, hg, hm⟩
    rw [hro i o hg] at hm; cases hm
  rcases h σ w args hR ha with ⟨v', w', e, _⟩ | ⟨g, as_, e, hC⟩
  · rw [hent] at e; cases e
  · rw [hent] at e; cases e
    refine Calls.mono hC fun en w' he => ?_
    cases en with
    | returned v' =>
      obtain ⟨σ', hvr, hR', hS⟩ := he
      obtain rfl := hvr.of_flat3 hv
      exact ⟨rfl, hS.os, hS.tape, hS.output, hS.size, fun k hk => hS.block k hk (hnw k)⟩
    | _ => exact he.elim
end Go.Ev
end

/- The evaluator: calls without variables, as contracts. -/
set_option linter.unusedSectionVars false
namespace Go.Ev
variable {P : Program} [Frozen P]
noncomputable section
def plainS : Value → Bool
  | .int _ _ => true
  | .bool _ => true
  | .string _ => true
  | .pointer none => true
  | .slice none _ _ => true
  | _ => false
def scalS : Value → Bool
  | .int _ _ => true
  | .bool _ => true
  | _ => false
def wvB (r : Nat → Option Nat) (n : Nat) : Value → Value → Bool := Nat.rec (motive := fun _ => Value → Value → Bool) (fun _ _ => false) (fun _ ih v u => match v with
  | .pointer (some ⟨i, o, none⟩) => match u with
    | .pointer (some ⟨j, o', none⟩) => rB r i j && Nat.beq o o'
    | _ => false
  | .slice (some ⟨i, o, none⟩) l c => match u with
    | .slice (some ⟨j, o', none⟩) l' c' => rB r i j && (Nat.beq o o' && (Nat.beq l l' && Nat.beq c c'))
    | _ => false
  | .agg a => match u with
    | .agg b => leq ih a.toList b.toList
    | _ => false
  | .tuple a => match u with
    | .tuple b => leq ih a.toList b.toList
    | _ => false
  | .iface t x => Nat.beq t SYM && (scalS x && veq6 x u)
  | v => plainS v && veq6 v u) n
def groB : Md → Bool
  | .gro => true
  | _ => false
def rowB (r : Nat → Option Nat) (H : T AO) (p : Nat × PO) : Bool := match p.2 with
  | .f c e m => groB m && (match r p.1 with
    | some j => match H.get j with
      | some (.row c' e' _) => Nat.beq e e' && (lall ftag c && leq veq6 c c')
      | _ => false
    | none => false)
  | .p (.row c e m) => groB m && (match r p.1 with
    | some j => match H.get j with
      | some (.row c' e' _) => Nat.beq e e' && leq (wvB r 5) c (frontL c c')
      | _ => false
    | none => false)
  | .p _ => false
def seenB (ng n0 : Nat) (l : List (Nat × Nat)) (v : Value) (A : AW) (v0 : Value) (R' : List (Nat × PO)) (n' : Nat) : Bool := okMS ng n0 l ⟨[], R', n'⟩ && (wvB (rnm n0 l) 5 v0 v && lall (rowB (rnm n0 l) A.heap) R')
def ranB (x : Option (Value × AW)) (f : Value → AW → Bool) : Bool := Option.rec false (fun p => f p.1 p.2) x
end
theorem leq_wvL {f : Value → Value → Bool} {g : Value → Value → Prop} (h : ∀ a b, f a b = true → g a b) : ∀ {l m : List Value}, leq f l m = true → wvL g l m := by
  intro l
  induction l with
  | nil => intro m k; cases m with
    | nil => exact trivial
    | cons => cases k
  | cons x l ih =>
    intro m k
    cases m with
    | nil => cases k
    | cons y m =>
      have k : (Bool.rec false (leq f l m) (f x y) : Bool) = true := k
      cases hb : f x y with
      | false => rw [hb] at k; cases k
      | true => rw [hb] at k; exact ⟨h _ _ hb, ih k⟩
theorem sameK_refl (k : IntKind) : sameK k k = true := by cases k <;> rfl
theorem plain_wv {r : Nat → Option Nat} {n : Nat} {v : Value} (hp : plainS v = true) : wv r (n + 1) v v := by
  cases v with
  | int k z => exact cpb_iff.2 ⟨sameK_refl k, rfl⟩
  | bool b => exact (rfl : b = b)
  | string t => exact (rfl : t.data.toList = t.data.toList)
  | pointer a => cases a with
    | none => exact trivial
    | some => cases hp
  | slice a l c => cases a with
    | none => exact ⟨rfl, rfl⟩
    | some => cases hp
  | _ => cases hp
theorem wvB_wv {r : Nat → Option Nat} : ∀ (n : Nat) (v u : Value), wvB r n v u = true → wv r n v u := by
  intro n
  induction n with
  | zero => intro v u h; cases h
  | succ n ih =>
    intro v u h
    have flatc : plainS v = true → (plainS v && veq6 v u) = true → wv r (n + 1) v u := fun hp h => by
      rw [Bool.and_eq_true] at h
      obtain rfl := veq6_eq h.2
      exact plain_wv hp
    cases v with
    | pointer a =>
      cases a with
      | none => exact flatc rfl h
      | some a =>
        obtain ⟨i, o, sp⟩ := a
        cases sp with
        | some => cases u <;> cases h
        | none =>
          cases u <;> try cases h
          rename_i b
          cases b with
          | none => cases h
          | some b =>
            obtain ⟨j, o', sp⟩ := b
            cases sp with
            | some => cases h
            | none =>
              have h : (rB r i j && Nat.beq o o') = true := h
              simp only [Bool.and_eq_true] at h
              exact cpb_iff.2 ⟨h.1, beqIff.1 h.2⟩
    | slice a l c =>
      cases a with
      | none => exact flatc rfl h
      | some a =>
        obtain ⟨i, o, sp⟩ := a
        cases sp with
        | some => cases u <;> cases h
        | none =>
          cases u <;> try cases h
          rename_i b l' c'
          cases b with
          | none => cases h
          | some b =>
            obtain ⟨j, o', sp⟩ := b
            cases sp with
            | some => cases h
            | none =>
              have h : (rB r i j && (Nat.beq o o' && (Nat.beq l l' && Nat.beq c c'))) = true := h
              simp only [Bool.and_eq_true] at h
              exact cpb_iff.2 ⟨h.1, beqIff.1 h.2.1, beqIff.1 h.2.2.1, beqIff.1 h.2.2.2⟩
    | agg a =>
      cases u <;> try cases h
      exact leq_wvL ih h
    | tuple a =>
      cases u <;> try cases h
      exact leq_wvL ih h
    | iface t x =>
      have h : (Nat.beq t SYM && (scalS x && veq6 x u)) = true := h
      simp only [Bool.and_eq_true] at h
      obtain ⟨h1, h2, h3⟩ := h
      obtain rfl := beqIff.1 h1
      obtain rfl := veq6_eq h3
      cases x with
      | int k z => exact cpb_iff.2 ⟨sameK_refl k, rfl⟩
      | bool b => exact (rfl : b = b)
      | _ => cases h2
    | int k z => exact flatc rfl h
    | bool b => exact flatc rfl h
    | string s => exact flatc rfl h
    | _ => cases u <;> cases h
theorem rowB_ok {r : Nat → Option Nat} {H : T AO} : ∀ {R : List (Nat × PO)}, lall (rowB r H) R = true → rowsW r H R := by
  intro R
  induction R with
  | nil => exact fun _ => trivial
  | cons p R ih =>
    intro h
    have h : (Bool.rec false (lall (rowB r H) R) (rowB r H p) : Bool) = true := h
    cases hb : rowB r H p with
    | false => rw [hb] at h; cases h
    | true =>
      rw [hb] at h
      refine ⟨?_, ih h⟩
      obtain ⟨i, q⟩ := p
      cases q with
      | p o =>
        cases o with
        | row c e m =>
          have hb : (groB m && (match r i with
            | some j => match H.get j with
              | some (.row c' e' _) => Nat.beq e e' && leq (wvB r 5) c (frontL c c')
              | _ => false
            | none => false)) = true := hb
          rw [Bool.and_eq_true] at hb
          obtain ⟨hm, hb⟩ := hb
          show (Option.rec (flatP (.p (.row c e m))) (fun j => cpo (H.get j) fun o' => wpo r (.p (.row c e m)) o') (r i) : Prop)
          cases hr : r i with
          | none => rw [hr] at hb; cases hb
          | some j =>
            rw [hr] at hb
            show cpo (H.get j) fun o' => wpo r (.p (.row c e m)) o'
            have hb : (match H.get j with
              | some (.row c' e' _) => Nat.beq e e' && leq (wvB r 5) c (frontL c c')
              | _ => false) = true := hb
            cases hg : H.get j with
            | none => rw [hg] at hb; cases hb
            | some o =>
              rw [hg] at hb
              cases o with
              | row c' e' m' =>
                have hb2 : (Nat.beq e e' && leq (wvB r 5) c (frontL c c')) = true := hb
                clear hb
                rw [Bool.and_eq_true] at hb2
                cases m with
                | gro => exact cpb_iff.2 ⟨hb2.1, trivial, leq_wvL (wvB_wv 5) hb2.2⟩
                | _ => cases hm
              | _ => cases hb
        | _ => cases hb
      | f c e m =>
        have hb : (groB m && (match r i with
          | some j => match H.get j with
            | some (.row c' e' _) => Nat.beq e e' && (lall ftag c && leq veq6 c c')
            | _ => false
          | none => false)) = true := hb
        rw [Bool.and_eq_true] at hb
        obtain ⟨hm, hb⟩ := hb
        show (Option.rec (flatP (.f c e m)) (fun j => cpo (H.get j) fun o' => wpo r (.f c e m) o') (r i) : Prop)
        cases hr : r i with
        | none => rw [hr] at hb; cases hb
        | some j =>
          rw [hr] at hb
          show cpo (H.get j) fun o' => wpo r (.f c e m) o'
          have hb : (match H.get j with
            | some (.row c' e' _) => Nat.beq e e' && (lall ftag c && leq veq6 c c')
            | _ => false) = true := hb
          cases hg : H.get j with
          | none => rw [hg] at hb; cases hb
          | some o =>
            rw [hg] at hb
            cases o with
            | row c' e' m' =>
              have hb2 : (Nat.beq e e' && (lall ftag c && leq veq6 c c')) = true := hb
              clear hb
              simp only [Bool.and_eq_true] at hb2
              obtain rfl := leq_eq (fun _ _ h => veq6_eq h) hb2.2.2
              cases m with
              | gro => exact cpb_iff.2 ⟨hb2.1, trivial, fun v hv => lall_mem hb2.2.1 v hv, rfl⟩
              | _ => cases hm
            | _ => cases hb
theorem seenB_ok {n0 : Nat} {l : List (Nat × Nat)} {v : Value} {A : AW} {v0 : Value} {R' : List (Nat × PO)} {n' : Nat} (h : seenB P.globals.size n0 l v A v0 R' n' = true) : seenW P n0 l v A v0 R' n' := by
  unfold seenB at h
  simp only [Bool.and_eq_true] at h
  exact cpb_iff.2 ⟨h.1, wvB_wv _ _ _ h.2.1, rowB_ok h.2.2⟩
theorem spec_run {E : Env} (hE : EnvOK P E) {hk : Caller → Caller} (hh : HookOK P hk) (N : Nat) {S : SpecD} {a : S.α} {o : Out S.α} (ho : o ∈ S.outs) (b : o.β) (hQ : o.Q a b)
    (h : ranB (evCallH P E hk N S.f (S.args a) (mem (S.R a) S.n)) (fun v B => seenB P.globals.size S.n (o.ren v B) v B (o.v a b) (o.R a b) (o.n a b)) = true) : SpecAt P S.spec a := fun K _ hq => by
  cases hev : evCallH P E hk N S.f (S.args a) (mem (S.R a) S.n) with
  | none => rw [hev] at h; cases h
  | some p =>
    obtain ⟨v, B⟩ := p
    rw [hev] at h
    have hs := seenB_ok (P := P) h
    exact ⟨_, _, _, outsW_mem hq o ho b hQ, flatR_rows (cpb_iff.1 hs).2.2, fnSem_seen rfl (fun σ w args' hR ha => evCallH_ok hE hh N _ _ _ _ B hev σ w args' hR ha) hs⟩
end Go.Ev

/- The document's numbers as bytes: what is told of baizeref01.Num and its like (what is to be shown). -/
section
set_option maxRecDepth 100000
namespace Go.Proofs.YtfkacmmcgncooaaGreatDoor
open Go.Ev
-- keep num foldI
def num (n : Nat) : List Int := if n < 128 then [(n : Int)] else ((128 + n % 128 : Nat) : Int) :: num (n / 128)
def foldI (n : Int) : Int := if n < 0 then 2 * (-(n + 1)) + 1 else 2 * n
set_option linter.unusedSectionVars false
variable [Go.Ev.Frozen Tryz.prog]
noncomputable section
def cw0 : CW := fun _ _ _ _ => False
end
end Go.Proofs.YtfkacmmcgncooaaGreatDoor
end

/- The document's numbers as bytes: what is told of baizeref01.Num and its like is so. -/
section
set_option maxRecDepth 100000
namespace Go.Proofs.YtfkacmmcgncooaaGreatDoor
open Go.Ev
set_option linter.unusedSectionVars false
variable [Go.Ev.Frozen Tryz.prog]
theorem cw0_ok : CwOK Tryz.prog cw0 := fun _ _ _ _ h => h.elim
theorem wrap_i64 (x : Int) : IntKind.wrap .i64 x = (x + 9223372036854775808) % 18446744073709551616 - 9223372036854775808 := by simp [IntKind.wrap, IntKind.bits, IntKind.signed]; omega
end Go.Proofs.YtfkacmmcgncooaaGreatDoor
end

/- Positions: what is told of Cut and Clone (what is to be shown). -/
section
set_option maxRecDepth 100000
namespace Go.Proofs.YtfkacmmcgncooaaGreatDoor
open Go.Ev
-- keep Go.Ev.Sli PH
structure SA where
  n : Bool
  o : Nat
  l : Nat
  k : Nat
  c : List Value
structure PA where
  s1 : SA
  s2 : SA
  s3 : SA
  r0 : Int
  r1 : Int
  r2 : Int
  r3 : Int
  r4 : Int
structure PX where
  vars : List Int
  gone : List Bool
  tips : List Int
structure PH (a : PA) (x : PX) : Prop where
  p1 : Sli (Value.int .i32) 1 a.s1.n a.s1.o a.s1.l a.s1.k a.s1.c x.vars
  p2 : Sli Value.bool 1 a.s2.n a.s2.o a.s2.l a.s2.k a.s2.c x.gone
  p3 : Sli (Value.int .u8) 8 a.s3.n a.s3.o a.s3.l a.s3.k a.s3.c x.tips
set_option linter.unusedSectionVars false
variable [Go.Ev.Frozen Tryz.prog]
noncomputable section
abbrev SA.v (a : SA) (i : Nat) : Value := mnS i a.n a.o a.l a.k
abbrev rolls (a : PA) : List Value := [tgI .i64 a.r0, tgI .i64 a.r1, tgI .i64 a.r2, tgI .i64 a.r3, tgI .u64 a.r4]
abbrev PA.v (a : PA) (i : Nat) : Value := .agg ⟨a.s1.v i :: a.s2.v (i + 1) :: a.s3.v (i + 2) :: rolls a⟩
abbrev PA.R (a : PA) (i : Nat) (e : TypeId) : List (Nat × PO) := [(i, .f a.s1.c 21 .gro), (i + 1, .f a.s2.c 4 .gro), (i + 2, .f a.s3.c e .gro)]
end
end Go.Proofs.YtfkacmmcgncooaaGreatDoor
end

/- Positions: what is told of Cut and Clone is so. -/
section
set_option maxRecDepth 100000
namespace Go.Proofs.YtfkacmmcgncooaaGreatDoor
open Go.Ev
set_option linter.unusedSectionVars false
variable [Go.Ev.Frozen Tryz.prog]
end Go.Proofs.YtfkacmmcgncooaaGreatDoor
end

/- The document's bytes of a position: what is told of Encode and Same (what is to be shown). -/
section
set_option maxRecDepth 100000
namespace Go.Proofs.YtfkacmmcgncooaaGreatDoor
open Go.Ev
-- keep num foldI dnum encV encG encT enc1 enc2 enc3 enc Go.Ev.Sli PH
def dnum (l : List Int) : Int := l.foldr (fun b acc => IntKind.wrap .u64 (IntKind.wrap .u64 (acc * 256) + IntKind.wrap .u64 b)) 0
def encV (xs : List Int) (k : Nat) : List Int := (List.range k).flatMap fun j => num (foldI (xs.getD j 0)).toNat
def encG (xs : List Bool) (k : Nat) : List Int := (List.range k).flatMap fun j => num (if xs.getD j false then 1 else 0)
def encT (xs : List Int) (k : Nat) : List Int := (List.range k).flatMap fun j => num (dnum [xs.getD (8 * j) 0, xs.getD (8 * j + 1) 0, xs.getD (8 * j + 2) 0, xs.getD (8 * j + 3) 0, xs.getD (8 * j + 4) 0, xs.getD (8 * j + 5) 0, xs.getD (8 * j + 6) 0, xs.getD (8 * j + 7) 0]).toNat
structure D8 where
  d0 : Int
  d1 : Int
  d2 : Int
  d3 : Int
  d4 : Int
  d5 : Int
  d6 : Int
  d7 : Int
def D8.l (d : D8) : List Int := [d.d0, d.d1, d.d2, d.d3, d.d4, d.d5, d.d6, d.d7]
def enc1 (x : PX) (k : Nat) : List Int := num x.vars.length ++ encV x.vars k
def enc2 (x : PX) (k : Nat) : List Int := enc1 x x.vars.length ++ num x.gone.length ++ encG x.gone k
def enc3 (x : PX) (n k : Nat) : List Int := enc2 x x.gone.length ++ num n ++ encT x.tips k
def encR (a : PA) : List Int := num (foldI a.r0).toNat ++ num (foldI a.r1).toNat ++ num (foldI a.r2).toNat ++ num (foldI a.r3).toNat ++ num a.r4.toNat
def enc (a : PA) (x : PX) : List Int := enc3 x a.s3.l a.s3.l ++ encR a
set_option linter.unusedSectionVars false
variable [Go.Ev.Frozen Tryz.prog]
end Go.Proofs.YtfkacmmcgncooaaGreatDoor
end

/- The document's bytes of a position: what is told of Encode and Same is so. -/
section
set_option maxRecDepth 100000
namespace Go.Proofs.YtfkacmmcgncooaaGreatDoor
open Go.Ev
set_option linter.unusedSectionVars false
variable [Go.Ev.Frozen Tryz.prog]
theorem Rd.int {k : IntKind} {c : List Value} {o : Nat} {x y : Int} (h : Rd c o (.int k x)) (g : Rd c o (.int k y)) : x = y := by
  unfold Rd at h g
  rcases h with h | h <;> rcases g with g | g <;> rw [h] at g <;> first | (cases g; rfl) | (injection g with g; cases g)
theorem Rd.bool {c : List Value} {o : Nat} {x y : Bool} (h : Rd c o (.bool x)) (g : Rd c o (.bool y)) : x = y := by
  unfold Rd at h g
  rcases h with h | h <;> rcases g with g | g <;> rw [h] at g <;> first | (cases g; rfl) | (injection g with g; cases g)
end Go.Proofs.YtfkacmmcgncooaaGreatDoor
end

/- The program's numbers as bytes, digests as numbers: what is told of hash.Num, FromNum, octet's Put.. (what is to be shown). -/
section
set_option maxRecDepth 100000
namespace Go.Proofs.YtfkacmmcgncooaaGreatDoor
open Go.Ev
-- keep num foldI dnum frm Go.Ev.Sli
def frm (n : Int) : D8 := ⟨n % 256, n / 256 % 256, n / 65536 % 256, n / 16777216 % 256, n / 4294967296 % 256, n / 1099511627776 % 256, n / 281474976710656 % 256, n / 72057594037927936 % 256⟩
def byt (n : Int) : Prop := 0 ≤ n ∧ n ≤ 255
structure D8.Ok (d : D8) : Prop where
  h0 : byt d.d0
  h1 : byt d.d1
  h2 : byt d.d2
  h3 : byt d.d3
  h4 : byt d.d4
  h5 : byt d.d5
  h6 : byt d.d6
  h7 : byt d.d7
set_option linter.unusedSectionVars false
variable [Go.Ev.Frozen Tryz.prog]
noncomputable section
def wI {β : Type} (v : Value) (k : Int → Option β) : Option β := match v with
  | .int _ z => k z
  | .iface _ (.int _ z) => k z
  | _ => k 0
def rowK {β : Type} (A : AW) (b : Nat) (k : List Value → Option β) : Option β := Option.rec (k []) (fun o => AO.rec (fun c _ _ => k c) (fun _ _ => k []) (k []) o) (A.heap.get b)
def saK {β : Type} (A : AW) (i : Nat) (v : Value) (k : SA → List (Nat × Nat) → Option β) : Option β := match v with
  | .slice (some ⟨b, o, _⟩) l c => rowK A b fun r => k ⟨false, o, l, c, r⟩ [(i, b)]
  | .iface _ (.slice (some ⟨b, o, _⟩) l c) => rowK A b fun r => k ⟨false, o, l, c, r⟩ [(i, b)]
  | .iface _ (.agg ⟨[.bool nb, .slice (some ⟨b, o, _⟩) l c]⟩) => rowK A b fun r => k ⟨nb, o, l, c, r⟩ [(i, b)]
  | _ => k ⟨true, 0, 0, 0, []⟩ []
def ptK {β : Type} (v : Value) (k : Nat → Option β) : Option β := match v with
  | .pointer (some ⟨b, _, _⟩) => k b
  | .iface _ (.pointer (some ⟨b, _, _⟩)) => k b
  | _ => k 0
def d8K {β : Type} (l : List Value) (k : D8 → Option β) : Option β := wI (lv l 0) fun a => wI (lv l 1) fun b => wI (lv l 2) fun c => wI (lv l 3) fun d => wI (lv l 4) fun e => wI (lv l 5) fun f => wI (lv l 6) fun g => wI (lv l 7) fun h => k ⟨a, b, c, d, e, f, g, h⟩
abbrev D8.v (d : D8) : Value := .agg ⟨[tgI .u8 d.d0, tgI .u8 d.d1, tgI .u8 d.d2, tgI .u8 d.d3, tgI .u8 d.d4, tgI .u8 d.d5, tgI .u8 d.d6, tgI .u8 d.d7]⟩
end
end Go.Proofs.YtfkacmmcgncooaaGreatDoor
end

/- The two games of the law: their rules, their positions, what is done at them. -/
section
set_option maxRecDepth 100000
namespace Go.Proofs.YtfkacmmcgncooaaGreatDoor
open Go.Ev
abbrev Z2 : Prop := 0 = 0 ∧ 2 = 2 ∧ 2 = 2
abbrev ZF (c : List Value) : Prop := True ∧ FlatL c ∧ c = c
abbrev Zp (i o : Nat) : Value := .pointer (some ⟨i, o, none⟩)
abbrev Z1 {α : Type} (x : α) : Prop := x = x
structure RuA where
  l0 : Nat
  l1 : Nat
  l2 : Nat
  l3 : Nat
  l4 : Nat
  n0 : Int
  n1 : Int
  n2 : Int
  n3 : Int
  n4 : Int
  cv : List Value
  c0 : List Value
  c1 : List Value
  c2 : List Value
  c3 : List Value
  c4 : List Value
  cm : List Value
  cc : List Value
  d : D8
structure PoA where
  v : List Value
  g : List Value
  t : List Value
  r0 : Int
  r1 : Int
  r2 : Int
  r3 : Int
  r4 : Int
structure GPos where
  v : List Int
  g : List Bool
  t : List Int
  r0 : Int
  r1 : Int
  r2 : Int
  r3 : Int
  r4 : Int
set_option linter.unusedSectionVars false
variable [Go.Ev.Frozen Tryz.prog]
noncomputable section
abbrev unk : Value := .iface UNK .nilIface
def iL (l : List Int) : List Value := l.map (Value.int .i64)
def rulP (k m : Nat) : List Int := match k, m with
  | 0, 0 => [1,35,5,0,17,35,0,9,2,0,35,0,0,0,0,0]
  | 0, 1 => [2,35,0,0,1,36,0,0,8,35,35,36,20,7,35,0,1,6,-1,0,0,0,0,0,19,10,0,0,2,35,1,0,2,6,35,0,0,0,0,0,0,0,0,0]
  | 0, 2 => [2,35,0,0,2,36,2,0,10,35,35,36,20,5,35,0,0,1,0,0,2,35,0,0,2,36,2,0,4,35,35,36,17,35,0,9,2,0,35,0,1,35,1,0,2,36,1,0,4,35,35,36,17,35,0,1,2,1,35,0,0,0,0,0]
  | 0, 3 => [1,35,0,0,17,35,0,9,2,0,35,0,2,35,2,0,17,35,0,1,2,1,35,0,0,0,0,0]
  | 0, _ => [1,35,1,0,2,36,1,0,4,35,35,36,18,36,35,2,5,35,35,36,2,9,35,0,0,0,0,0]
  | _, 0 => [1,35,0,0,17,35,0,6,2,0,35,0,0,0,0,0]
  | _, 1 => [2,35,1,0,20,5,35,0,1,6,-1,0,0,0,0,0,19,8,0,0,1,35,0,0,2,6,35,0,0,0,0,0,0,0,0,0]
  | _, 2 => [2,35,2,0,20,4,35,0,1,7,0,0,1,8,6,0,2,35,2,0,17,35,0,1,2,1,35,0,0,0,0,0]
  | _, 3 => [1,35,1,0,17,35,0,1,2,1,35,0,0,0,0,0]
  | _, _ => [2,35,0,0,1,36,0,0,18,37,36,2,5,36,36,37,17,35,0,1073741823,15,37,10,36,3,35,35,37,17,35,0,1073741823,16,10,36,35,1,35,1,0,18,36,35,2,5,35,35,36,2,9,35,0,0,0,0,0]
def rulL (k m : Nat) : Nat := match k, m with
  | 0, 0 => 4
  | 0, 1 => 11
  | 0, 2 => 16
  | 0, 3 => 7
  | 0, _ => 7
  | _, 0 => 4
  | _, 1 => 9
  | _, 2 => 8
  | _, 3 => 4
  | _, _ => 14
def rulM (k m : Nat) : Int := match k, m with
  | 0, 0 => 12
  | 0, 1 => 19
  | 0, 2 => 31
  | 0, 3 => 16
  | 0, _ => 15
  | _, 0 => 12
  | _, 1 => 16
  | _, 2 => 20
  | _, 3 => 12
  | _, _ => 22
def rulV (k : Nat) : List Value := match k with
  | 0 => [mkStr [116], .int .i64 0, .int .i64 1, .int .i64 3]
  | _ => [mkStr [103], .int .i64 0, .int .i64 0, .int .i64 1]
def rulN (k : Nat) : List Value := match k with
  | 0 => [.int .i32 1, .int .i32 3]
  | _ => [.int .i32 0, .int .i32 1]
def rulC (k : Nat) : List Value := match k with
  | 0 => [.int .i32 0, .int .i32 9, .int .i32 0, .int .i32 1]
  | _ => [.int .i32 0, .int .i32 6, .int .i32 0, .int .i32 1]
def tips0 : List Int := [6, 25, 37, 99, 94, 12, 19, 189, 195, 192, 90, 36, 52, 89, 115, 35]
def tips1 : List Int := [6, 25, 37, 99, 94, 12, 19, 189, 207, 183, 55, 179, 230, 69, 18, 147]
def tips2 : List Int := [84, 20, 162, 125, 185, 95, 193, 130, 195, 192, 90, 36, 52, 89, 115, 35]
def tips3 : List Int := [84, 20, 162, 125, 185, 95, 193, 130, 207, 183, 55, 179, 230, 69, 18, 147]
def posT : List (List GPos) := [
  [⟨[5, 0], [false, false], tips2, 0, 0, 0, 0, 0⟩,
   ⟨[4, 1], [false, false], tips2, 0, 0, 0, 0, 0⟩,
   ⟨[3, 1], [false, false], tips2, 0, 0, 0, 0, 0⟩,
   ⟨[2, 1], [false, false], tips2, 0, 0, 0, 0, 0⟩,
   ⟨[0, 0], [true, false], tips2, 0, 0, 0, 0, 0⟩,
   ⟨[0, 1], [false, true], tips2, 0, 0, 0, 0, 0⟩,
   ⟨[3, 0], [false, false], tips2, 0, 0, 0, 0, 0⟩,
   ⟨[2, 0], [false, false], tips2, 0, 0, 0, 0, 0⟩,
   ⟨[1, 0], [false, false], tips2, 0, 0, 0, 0, 0⟩,
   ⟨[0, 0], [false, false], tips2, 0, 0, 0, 0, 0⟩,
   ⟨[1, 1], [false, false], tips2, 0, 0, 0, 0, 0⟩,
   ⟨[0, 1], [false, false], tips2, 0, 0, 0, 0, 0⟩],
  [⟨[0, 0], [false, false], tips2, 0, 0, 0, 0, 0⟩,
   ⟨[0, 1], [false, false], tips2, 0, 6, 0, 1, 0⟩,
   ⟨[0, 1], [true, false], tips2, 0, 0, 0, 0, 0⟩,
   ⟨[0, 1], [false, true], tips2, 0, 0, 0, 0, 0⟩,
   ⟨[0, 1], [true, false], tips2, 0, 6, 0, 1, 0⟩,
   ⟨[0, 1], [false, false], tips3, 0, 6, 0, 0, 10597609730307766223⟩,
   ⟨[0, 1], [false, true], tips2, 0, 6, 0, 0, 0⟩,
   ⟨[6, 1], [true, false], tips3, 0, 0, 0, 0, 0⟩,
   ⟨[1, 1], [true, true], tips2, 0, 0, 0, 0, 0⟩,
   ⟨[6, 1], [false, false], tips1, 0, 0, 0, 0, 0⟩,
   ⟨[0, 1], [false, true], tips3, 0, 6, 0, 0, 10597609730307766223⟩,
   ⟨[5, 1], [false, true], tips0, 0, 0, 0, 0, 0⟩,
   ⟨[6, 1], [false, true], tips1, 0, 0, 0, 0, 0⟩,
   ⟨[6, 1], [true, true], tips3, 0, 0, 0, 0, 0⟩]]
def turnT : List (List Int) := [[0, 1, 1, 1, -1, -1, 0, 0, 0, -1, 1, -1], [0, 1, -1, -1, 1, 0, 0, -1, -1, -1, 0, -1, -1, -1]]
def playT : List (Nat × Nat × Int × Int × Int) := [(0, 0, 0, 1, 1), (0, 0, 0, 2, 2), (0, 0, 0, 3, 3), (0, 1, 1, 1, 6), (0, 1, 1, 2, 7), (0, 1, 1, 3, 8), (0, 2, 1, 1, 7), (0, 2, 1, 2, 8), (0, 2, 1, 3, 9), (0, 3, 1, 1, 8), (0, 3, 1, 2, 9), (0, 3, 1, 3, -14), (0, 6, 0, 1, 3), (0, 6, 0, 2, 10), (0, 6, 0, 3, 11), (0, 7, 0, 1, 10), (0, 7, 0, 2, 11), (0, 7, 0, 3, -14), (0, 8, 0, 1, 11), (0, 8, 0, 2, -14), (0, 8, 0, 3, -14), (0, 10, 1, 1, 9), (0, 10, 1, 2, -14), (0, 10, 1, 3, -14), (1, 0, 0, 0, 0), (1, 0, 0, 1, 1)]
def showT : List (Nat × Nat × Int × List Int × Int) := [(1, 1, 1, [207, 183, 55, 179, 230, 69, 18, 147], 5), (1, 4, 1, [207, 183, 55, 179, 230, 69, 18, 147], 7), (1, 5, 0, [6, 25, 37, 99, 94, 12, 19, 189], 9), (1, 6, 0, [6, 25, 37, 99, 94, 12, 19, 189], 11), (1, 10, 0, [6, 25, 37, 99, 94, 12, 19, 189], 12)]
def silT : List (Nat × Nat × Int × Int) := [(0, 0, 0, 4), (0, 0, 1, 5), (0, 1, 0, 4), (0, 1, 1, 5), (0, 2, 0, 4), (0, 2, 1, 5), (0, 3, 0, 4), (0, 3, 1, 5), (0, 4, 0, -15), (0, 4, 1, -15), (0, 5, 0, -15), (0, 5, 1, -15), (0, 6, 0, 4), (0, 6, 1, 5), (0, 7, 0, 4), (0, 7, 1, 5), (0, 8, 0, 4), (0, 8, 1, 5), (0, 9, 0, -15), (0, 9, 1, -15), (0, 10, 0, 4), (0, 10, 1, 5), (0, 11, 0, -15), (0, 11, 1, -15), (1, 0, 0, 2), (1, 0, 1, 3), (1, 1, 0, 4), (1, 1, 1, 6), (1, 2, 0, -15), (1, 2, 1, -15), (1, 3, 0, -15), (1, 3, 1, -15), (1, 4, 0, -7), (1, 4, 1, 8), (1, 5, 0, 7), (1, 5, 1, 10), (1, 6, 0, 8), (1, 6, 1, -7), (1, 7, 0, -15), (1, 7, 1, -15), (1, 8, 0, -15), (1, 8, 1, -15), (1, 9, 0, -15), (1, 9, 1, -15), (1, 10, 0, 13), (1, 10, 1, -7), (1, 11, 0, -15), (1, 11, 1, -15), (1, 12, 0, -15), (1, 12, 1, -15), (1, 13, 0, -15), (1, 13, 1, -15)]
def digG (k : Nat) : D8 := match k with
  | 0 => ⟨158, 99, 237, 163, 205, 22, 140, 84⟩
  | _ => ⟨218, 47, 45, 74, 149, 253, 130, 124⟩
def rulG (k : Nat) : RuA := ⟨rulL k 0, rulL k 1, rulL k 2, rulL k 3, rulL k 4, rulM k 0, rulM k 1, rulM k 2, rulM k 3, rulM k 4, rulV k, iL (rulP k 0), iL (rulP k 1), iL (rulP k 2), iL (rulP k 3), iL (rulP k 4), rulN k, rulC k, digG k⟩
def gpos (k j : Nat) : GPos := ((posT.getD k []).getD j ⟨[], [], [], 0, 0, 0, 0, 0⟩)
def posG (k j : Nat) : PoA := ⟨(gpos k j).v.map (Value.int .i32), (gpos k j).g.map Value.bool, (gpos k j).t.map (Value.int .u8), (gpos k j).r0, (gpos k j).r1, (gpos k j).r2, (gpos k j).r3, (gpos k j).r4⟩
def turnG (k j : Nat) : Int := (turnT.getD k []).getD j 0
def sc (i l : Nat) : Value := .slice (some ⟨i, 0, none⟩) l l
def ruR (a : RuA) (i : Nat) : List (Nat × PO) :=
  (i, .p (.row [unk, sc (i + 1) 2, .int .u8 a.d.d0, .int .u8 a.d.d1, .int .u8 a.d.d2, .int .u8 a.d.d3, .int .u8 a.d.d4, .int .u8 a.d.d5, .int .u8 a.d.d6, .int .u8 a.d.d7, .pointer (some ⟨i + 2, 0, none⟩), sc (i + 10) 1, sc (i + 11) 2] 120 .gro)) ::
  (i + 1, .f [.int .i64 1, .int .i64 1] 3 .gro) ::
  (i + 2, .p (.row [.int .i64 2, .int .i64 2, sc (i + 3) 2, sc (i + 4) 1, sc (i + 5) a.l0, sc (i + 6) a.l1, sc (i + 7) a.l2, sc (i + 8) a.l3, sc (i + 9) a.l4, .int .i64 a.n0, .int .i64 a.n1, .int .i64 a.n2, .int .i64 a.n3, .int .i64 a.n4] 166 .gro)) ::
  (i + 3, .f [.int .i32 0, .int .i32 0] 21 .gro) :: (i + 4, .f a.cv 154 .gro) ::
  (i + 5, .f a.c0 278 .gro) :: (i + 6, .f a.c1 278 .gro) :: (i + 7, .f a.c2 278 .gro) :: (i + 8, .f a.c3 278 .gro) :: (i + 9, .f a.c4 278 .gro) ::
  (i + 10, .f a.cm 131 .gro) :: (i + 11, .f a.cc 131 .gro) :: []
def poV (p : PoA) (i : Nat) : Value := .agg ⟨[sc i 2, sc (i + 1) 2, sc (i + 2) 2, .int .i64 p.r0, .int .i64 p.r1, .int .i64 p.r2, .int .i64 p.r3, .int .u64 p.r4]⟩
def poT (p : PoA) (i : Nat) : Value := .agg ⟨[sc i 2, sc (i + 1) 2, sc (i + 2) 2, tgI .i64 p.r0, tgI .i64 p.r1, tgI .i64 p.r2, tgI .i64 p.r3, tgI .u64 p.r4]⟩
def poR (p : PoA) (i : Nat) : List (Nat × PO) := [(i, .f p.v 21 .gro), (i + 1, .f p.g 4 .gro), (i + 2, .f p.t 47 .gro)]
def allG : List (Nat × Nat) := (List.range 12).map (fun j => (0, j)) ++ (List.range 14).map (fun j => (1, j))
def seK {β : Type} (A : AW) (i : Nat) (v : Value) (k : Nat → List Value → List (Nat × Nat) → Option β) : Option β := match v with
  | .slice (some ⟨b, _, _⟩) l _ => rowK A b fun r => k l r [(i, b)]
  | .iface _ (.slice (some ⟨b, _, _⟩) l _) => rowK A b fun r => k l r [(i, b)]
  | _ => k 0 [] []
def ruK {β : Type} (A : AW) (i : Nat) (v : Value) (k : RuA → List (Nat × Nat) → Option β) : Option β :=
  ptK v fun b => rowK A b fun r => seK A (i + 1) (lv r 1) fun _ _ q1 => ptK (lv r 10) fun d => rowK A d fun c => seK A (i + 3) (lv c 2) fun _ _ q3 => seK A (i + 4) (lv c 3) fun _ cv q4 =>
    seK A (i + 5) (lv c 4) fun l0 c0 q5 => seK A (i + 6) (lv c 5) fun l1 c1 q6 => seK A (i + 7) (lv c 6) fun l2 c2 q7 => seK A (i + 8) (lv c 7) fun l3 c3 q8 => seK A (i + 9) (lv c 8) fun l4 c4 q9 =>
    wI (lv c 9) fun n0 => wI (lv c 10) fun n1 => wI (lv c 11) fun n2 => wI (lv c 12) fun n3 => wI (lv c 13) fun n4 => seK A (i + 10) (lv r 11) fun _ cm q10 => seK A (i + 11) (lv r 12) fun _ cc q11 =>
    wI (lv r 2) fun d0 => wI (lv r 3) fun d1 => wI (lv r 4) fun d2 => wI (lv r 5) fun d3 => wI (lv r 6) fun d4 => wI (lv r 7) fun d5 => wI (lv r 8) fun d6 => wI (lv r 9) fun d7 =>
      k ⟨l0, l1, l2, l3, l4, n0, n1, n2, n3, n4, cv, c0, c1, c2, c3, c4, cm, cc, ⟨d0, d1, d2, d3, d4, d5, d6, d7⟩⟩ ((i, b) :: (i + 2, d) :: (q1 ++ (q3 ++ (q4 ++ (q5 ++ (q6 ++ (q7 ++ (q8 ++ (q9 ++ (q10 ++ q11))))))))))
def poK {β : Type} (A : AW) (i : Nat) (l : List Value) (k : PoA → List (Nat × Nat) → Option β) : Option β :=
  seK A i (lv l 0) fun _ v q0 => seK A (i + 1) (lv l 1) fun _ g q1 => seK A (i + 2) (lv l 2) fun _ t q2 => wI (lv l 3) fun r0 => wI (lv l 4) fun r1 => wI (lv l 5) fun r2 => wI (lv l 6) fun r3 => wI (lv l 7) fun r4 => k ⟨v, g, t, r0, r1, r2, r3, r4⟩ (q0 ++ (q1 ++ q2))
structure GtA where
  g : RuA
  p : PoA
structure TnB where
  k : Int
def isG (g : RuA) (p : PoA) (k j : Nat) : Prop := (k, j) ∈ allG ∧ g = rulG k ∧ p = posG k j
def S_gturn : SpecD where
  f := 56
  α := GtA
  args a := [.pointer (some ⟨12, 0, none⟩), poV a.p (12 + 12)]
  R a := ruR a.g 12 ++ (poR a.p (12 + 12) ++ [(2, .f cells2 356 .ro)])
  n := 12 + 15
  pre a := ∃ k j, isG a.g a.p k j
  outs := [⟨TnB, fun a b => ∃ k j, isG a.g a.p k j ∧ b.k = turnG k j, fun _ b => tgI .i64 b.k, fun _ _ => [], fun _ _ => 12 + 15, fun _ _ => []⟩]
  pick _ _ := 0
  find l A := ruK A 12 (lv l 0) fun g q => poK A (12 + 12) (agv (lv l 1)) fun p r => some (⟨g, p⟩, q ++ r)
end
theorem hook_id : HookOK Tryz.prog (fun c => c) := fun _ h => h
theorem ran_turn : (allG.all fun q => ranB (evCallH Tryz.prog E0 (fun c => c) 300 S_gturn.f (S_gturn.args ⟨rulG q.1, posG q.1 q.2⟩) (mem (S_gturn.R ⟨rulG q.1, posG q.1 q.2⟩) S_gturn.n)) (fun v B => seenB Tryz.prog.globals.size S_gturn.n [] v B (tgI .i64 (turnG q.1 q.2)) [] (12 + 15))) = true := by kernel_rfl
theorem s_gturn : SpecOK Tryz.prog S_gturn.spec := fun a K hp hq => by
  obtain ⟨k, j, hm, hg, hj⟩ := id hp
  obtain ⟨g, p⟩ := a
  have hg : g = rulG k := hg
  have hj : p = posG k j := hj
  subst hg hj
  exact spec_run envOK hook_id 300 (S := S_gturn) (a := ⟨rulG k, posG k j⟩) List.mem_cons_self ⟨turnG k j⟩ ⟨k, j, ⟨hm, rfl, rfl⟩, rfl⟩ (List.all_eq_true.1 ran_turn (k, j) hm) K hp hq
end Go.Proofs.YtfkacmmcgncooaaGreatDoor
end

/- The two games: who is silent. -/
section
set_option maxRecDepth 100000
namespace Go.Proofs.YtfkacmmcgncooaaGreatDoor
open Go.Ev
structure GsA where
  g : RuA
  p : PoA
  w : Int
set_option linter.unusedSectionVars false
variable [Go.Ev.Frozen Tryz.prog]
noncomputable section
def noP : Value := .agg ⟨[.slice none 0 0, .slice none 0 0, .slice none 0 0, .int .i64 0, .int .i64 0, .int .i64 0, .int .i64 0, .int .u64 0]⟩
def okG (b : PoA) (i : Nat) : Value := .tuple ⟨[poT b i, .int .i64 0]⟩
def erG (e : Int) : Value := .tuple ⟨[noP, tgI .i64 e]⟩
def poN (i : Nat) (v : Value) : List (Nat × Nat) := let l := agv (lv (agv v) 0)
  renS i (lv l 0) ++ (renS (i + 1) (lv l 1) ++ renS (i + 2) (lv l 2))
def S_gsil : SpecD where
  f := 64
  α := GsA
  args a := [.pointer (some ⟨12, 0, none⟩), poV a.p (12 + 12), .int .i64 a.w]
  R a := ruR a.g 12 ++ (poR a.p (12 + 12) ++ [(2, .f cells2 356 .ro)])
  n := 12 + 15
  pre a := (∃ k j, isG a.g a.p k j) ∧ (a.w = 0 ∨ a.w = 1)
  outs := [⟨PoA, fun a b => ∃ (k j m : Nat), isG a.g a.p k j ∧ (k, j, a.w, (m : Int)) ∈ silT ∧ isG a.g b k m, fun _ b => okG b (12 + 15), fun _ b => poR b (12 + 15), fun _ _ => 12 + 18, fun v _ => poN (12 + 15) v⟩,
    ⟨TnB, fun a b => 0 < b.k ∧ ∃ k j, isG a.g a.p k j ∧ (k, j, a.w, -b.k) ∈ silT, fun _ b => erG b.k, fun _ _ => [], fun _ _ => 12 + 15, fun _ _ => []⟩]
  pick v _ := match lv (agv v) 1 with
    | .int _ 0 => 0
    | _ => 1
  find l A := ruK A 12 (lv l 0) fun g q => poK A (12 + 12) (agv (lv l 1)) fun p r => wI (lv l 2) fun w => some (⟨g, p, w⟩, q ++ r)
def runSil (e : Nat × Nat × Int × Int) : Bool := ranB (evCallH Tryz.prog E0 (fun c => c) 300 S_gsil.f (S_gsil.args ⟨rulG e.1, posG e.1 e.2.1, e.2.2.1⟩) (mem (S_gsil.R ⟨rulG e.1, posG e.1 e.2.1, e.2.2.1⟩) S_gsil.n)) (fun v B =>
  Bool.rec (seenB Tryz.prog.globals.size S_gsil.n [] v B (erG (-e.2.2.2)) [] (12 + 15)) (seenB Tryz.prog.globals.size S_gsil.n (poN (12 + 15) v) v B (okG (posG e.1 e.2.2.2.toNat) (12 + 15)) (poR (posG e.1 e.2.2.2.toNat) (12 + 15)) (12 + 18)) (decide (0 ≤ e.2.2.2)))
end
theorem ran_sil0 : (((silT.drop 0).take 9).all runSil) = true := by kernel_rfl
theorem ran_sil1 : (((silT.drop 9).take 9).all runSil) = true := by kernel_rfl
theorem ran_sil2 : (((silT.drop 18).take 9).all runSil) = true := by kernel_rfl
theorem ran_sil3 : (((silT.drop 27).take 9).all runSil) = true := by kernel_rfl
theorem ran_sil4 : (((silT.drop 36).take 9).all runSil) = true := by kernel_rfl
theorem ran_sil5 : (((silT.drop 45).take 9).all runSil) = true := by kernel_rfl
theorem sil_parts : silT = (silT.drop 0).take 9 ++ ((silT.drop 9).take 9 ++ ((silT.drop 18).take 9 ++ ((silT.drop 27).take 9 ++ ((silT.drop 36).take 9 ++ (silT.drop 45).take 9)))) := by kernel_rfl
theorem ran_sil : ∀ e ∈ silT, runSil e = true := fun e he => by
  rw [sil_parts] at he
  rcases List.mem_append.1 he with h | h
  · exact List.all_eq_true.1 ran_sil0 e h
  rcases List.mem_append.1 h with h | h
  · exact List.all_eq_true.1 ran_sil1 e h
  rcases List.mem_append.1 h with h | h
  · exact List.all_eq_true.1 ran_sil2 e h
  rcases List.mem_append.1 h with h | h
  · exact List.all_eq_true.1 ran_sil3 e h
  rcases List.mem_append.1 h with h | h
  · exact List.all_eq_true.1 ran_sil4 e h
  · exact List.all_eq_true.1 ran_sil5 e h
theorem sil_has : (allG.all fun q => [0, 1].all fun w => silT.any fun e => Nat.beq e.1 q.1 && (Nat.beq e.2.1 q.2 && (decide (e.2.2.1 = w) && (decide (e.2.2.2 < 0) || allG.contains (q.1, e.2.2.2.toNat))))) = true := by kernel_rfl
theorem sil_of {k j : Nat} (h : (k, j) ∈ allG) {w : Int} (hw : w = 0 ∨ w = 1) : ∃ r, (k, j, w, r) ∈ silT ∧ (r < 0 ∨ (k, r.toNat) ∈ allG) := by
  have h1 := List.all_eq_true.1 sil_has (k, j) h
  have h2 := List.all_eq_true.1 h1 w (by rcases hw with e | e <;> simp [e])
  obtain ⟨⟨a, b, c, d⟩, he, h3⟩ := List.any_eq_true.1 h2
  simp only [Bool.and_eq_true, Bool.or_eq_true, decide_eq_true_eq, List.contains_iff_mem] at h3
  obtain ⟨h4, h5, h6, h7⟩ := h3
  have h4 : a = k := Nat.eq_of_beq_eq_true h4
  have h5 : b = j := Nat.eq_of_beq_eq_true h5
  subst h4 h5 h6
  exact ⟨d, he, h7⟩
theorem s_gsil : SpecOK Tryz.prog S_gsil.spec := fun a K hp hq => by
  obtain ⟨⟨k, j, hm, hg, hj⟩, hw⟩ := id hp
  obtain ⟨g, p, w⟩ := a
  have hg : g = rulG k := hg
  have hj : p = posG k j := hj
  subst hg hj
  obtain ⟨r, hr, hr2⟩ := sil_of hm (w := w) hw
  have hran := ran_sil _ hr
  unfold runSil at hran
  by_cases h0 : 0 ≤ r
  · rw [decide_eq_true h0] at hran
    have hm' : (k, r.toNat) ∈ allG := hr2.resolve_left (by omega)
    exact spec_run envOK hook_id 300 (S := S_gsil) (a := ⟨rulG k, posG k j, w⟩) List.mem_cons_self (posG k r.toNat) ⟨k, j, r.toNat, ⟨hm, rfl, rfl⟩, by rw [Int.toNat_of_nonneg h0]; exact hr, hm', rfl, rfl⟩ hran K hp hq
  · rw [decide_eq_false h0] at hran
    exact spec_run envOK hook_id 300 (S := S_gsil) (a := ⟨rulG k, posG k j, w⟩) (List.mem_cons_of_mem _ List.mem_cons_self) ⟨-r⟩ ⟨by show 0 < -r; omega, k, j, ⟨hm, rfl, rfl⟩, by rw [Int.neg_neg]; exact hr⟩ hran K hp hq
end Go.Proofs.YtfkacmmcgncooaaGreatDoor
end

/- The two games: a position is one of them; a position's clone. -/
section
set_option maxRecDepth 100000
namespace Go.Proofs.YtfkacmmcgncooaaGreatDoor
open Go.Ev
set_option linter.unusedSectionVars false
variable [Go.Ev.Frozen Tryz.prog]
noncomputable section
def S_gcheck : SpecD where
  f := 40
  α := GtA
  args a := [.pointer (some ⟨12, 0, none⟩), poV a.p (12 + 12)]
  R a := ruR a.g 12 ++ poR a.p (12 + 12)
  n := 12 + 15
  pre a := ∃ k j, isG a.g a.p k j
  outs := [⟨Unit, fun _ _ => True, fun _ _ => .int .i64 0, fun _ _ => [], fun _ _ => 12 + 15, fun _ _ => []⟩]
  pick _ _ := 0
  find l A := ruK A 12 (lv l 0) fun g q => poK A (12 + 12) (agv (lv l 1)) fun p r => some (⟨g, p⟩, q ++ r)
def poM (i : Nat) (v : Value) : List (Nat × Nat) := let l := agv v
  renS i (lv l 0) ++ (renS (i + 1) (lv l 1) ++ renS (i + 2) (lv l 2))
def S_gclone : SpecD where
  f := 73
  α := PoA
  args p := [poV p 12]
  R p := poR p 12
  n := 12 + 3
  pre p := ∃ k j, (k, j) ∈ allG ∧ p = posG k j
  outs := [⟨Unit, fun _ _ => True, fun p _ => poT p (12 + 3), fun p _ => poR p (12 + 3), fun _ _ => 12 + 6, fun v _ => poM (12 + 3) v⟩]
  pick _ _ := 0
  find l A := poK A 12 (agv (lv l 0)) fun p r => some (p, r)
end
theorem ran_check : (allG.all fun q => ranB (evCallH Tryz.prog E0 (fun c => c) 300 S_gcheck.f (S_gcheck.args ⟨rulG q.1, posG q.1 q.2⟩) (mem (S_gcheck.R ⟨rulG q.1, posG q.1 q.2⟩) S_gcheck.n)) (fun v B => seenB Tryz.prog.globals.size S_gcheck.n [] v B (.int .i64 0) [] (12 + 15))) = true := by kernel_rfl
theorem s_gcheck : SpecOK Tryz.prog S_gcheck.spec := fun a K hp hq => by
  obtain ⟨k, j, hm, hg, hj⟩ := id hp
  obtain ⟨g, p⟩ := a
  have hg : g = rulG k := hg
  have hj : p = posG k j := hj
  subst hg hj
  exact spec_run envOK hook_id 300 (S := S_gcheck) (a := ⟨rulG k, posG k j⟩) List.mem_cons_self () trivial (List.all_eq_true.1 ran_check (k, j) hm) K hp hq
theorem ran_clone : (allG.all fun q => ranB (evCallH Tryz.prog E0 (fun c => c) 300 S_gclone.f (S_gclone.args (posG q.1 q.2)) (mem (S_gclone.R (posG q.1 q.2)) S_gclone.n)) (fun v B => seenB Tryz.prog.globals.size S_gclone.n (poM (12 + 3) v) v B (poT (posG q.1 q.2) (12 + 3)) (poR (posG q.1 q.2) (12 + 3)) (12 + 6))) = true := by kernel_rfl
theorem s_gclone : SpecOK Tryz.prog S_gclone.spec := fun a K hp hq => by
  obtain ⟨k, j, hm, hj⟩ := id hp
  have hj : a = posG k j := hj
  subst hj
  exact spec_run envOK hook_id 300 (S := S_gclone) (a := posG k j) List.mem_cons_self () trivial (List.all_eq_true.1 ran_clone (k, j) hm) K hp hq
end Go.Proofs.YtfkacmmcgncooaaGreatDoor
end

/- The evaluator: what a contract by hand tells of a call. -/
section
set_option linter.unusedSectionVars false
namespace Go.Ev
open Go.RowKit (Below)
variable {P : Program} [Frozen P] {σ : Sg} {A : AW} {w w1 : World}
end Go.Ev
end
