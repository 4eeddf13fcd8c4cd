/- Numbers read from bytes, in plain Lean: what the document's reader tells; numbers that are written are read. -/
import Derived.Test.YtalbjjimnhldfaaGreatDoorYenc
import Derived.Test.YtalbjjimnhldfaaGreatDoorYoc
section
namespace Go.Proofs.YtalbjjimnhldfaaGreatDoor
def lead : Nat → List Int → Nat
  | 0, _ => 0
  | _ + 1, [] => 0
  | n + 1, b :: l => if 128 ≤ b then lead n l + 1 else 0
def valN : List Int → Nat
  | [] => 0
  | b :: l => b.toNat % 128 + 128 * valN l
structure LR where
  n : Int
  k : Int
  e : Int
def lookN (bs : List Int) : LR :=
  if lead 10 bs = bs.length ∧ lead 10 bs < 10 then ⟨0, 0, 4⟩
  else if lead 10 bs = 10 ∨ (0 < lead 10 bs ∧ bs.getD (lead 10 bs) 0 = 0) ∨ (lead 10 bs = 9 ∧ 1 < bs.getD 9 0) then ⟨0, 0, 3⟩
  else ⟨valN (bs.take (lead 10 bs + 1)), lead 10 bs + 1, 0⟩
def Byts8 (bs : List Int) : Prop := ∀ b ∈ bs, 0 ≤ b ∧ b ≤ 255
theorem lead_le : ∀ (n : Nat) (l : List Int), lead n l ≤ n ∧ lead n l ≤ l.length := by
  intro n
  induction n with
  | zero => intro l; exact ⟨Nat.le_refl _, Nat.zero_le _⟩
  | succ n ih =>
    intro l
    cases l with
    | nil => exact ⟨Nat.zero_le _, Nat.le_refl _⟩
    | cons b l =>
      unfold lead
      split
      · have := ih l; simp; omega
      · exact ⟨Nat.zero_le _, Nat.zero_le _⟩
theorem lead_ge : ∀ (n : Nat) (l : List Int) (i : Nat) (b : Int), i < lead n l → l[i]? = some b → 128 ≤ b := by
  intro n
  induction n with
  | zero => intro l i b h; cases h
  | succ n ih =>
    intro l i b h hb
    cases l with
    | nil => cases h
    | cons c l =>
      unfold lead at h
      split at h
      · cases i with
        | zero => cases hb; assumption
        | succ i => exact ih l i b (by omega) hb
      · cases h
theorem lead_lt : ∀ (n : Nat) (l : List Int) (b : Int), lead n l < n → l[lead n l]? = some b → b < 128 := by
  intro n
  induction n with
  | zero => intro l b h; cases h
  | succ n ih =>
    intro l b h hb
    cases l with
    | nil => cases hb
    | cons c l =>
      unfold lead at h hb
      split at h
      · rename_i hc
        rw [if_pos hc] at hb
        exact ih l b (by omega) hb
      · rename_i hc
        rw [if_neg hc] at hb
        cases hb; omega
theorem lead_eq : ∀ (n : Nat) (l : List Int) (k : Nat), k ≤ n → (∀ i b, i < k → l[i]? = some b → 128 ≤ b) → k ≤ l.length → (k < n → ∀ b, l[k]? = some b → b < 128) → lead n l = k := by
  intro n
  induction n with
  | zero => intro l k hk _ _ _; have : k = 0 := by omega
            subst this; rfl
  | succ n ih =>
    intro l k hk h1 h2 h3
    cases l with
    | nil => simp at h2; subst h2; rfl
    | cons c l =>
      unfold lead
      cases k with
      | zero => rw [if_neg]; have := h3 (by omega) c rfl; omega
      | succ k =>
        rw [if_pos (h1 0 c (by omega) rfl), ih l k (by omega) (fun i b hi hb => h1 (i + 1) b (by omega) hb) (by simpa using h2) (fun hk b hb => h3 (by omega) b hb)]
theorem valN_append : ∀ (l m : List Int), valN (l ++ m) = valN l + 128 ^ l.length * valN m := by
  intro l
  induction l with
  | nil => intro m; simp [valN]
  | cons b l ih =>
    intro m
    rw [List.cons_append, valN, valN, ih, List.length_cons, Nat.pow_succ, Nat.mul_add, ← Nat.mul_assoc, Nat.mul_comm 128 (128 ^ l.length)]
    omega
theorem valN_lt : ∀ (l : List Int), valN l < 128 ^ l.length := by
  intro l
  induction l with
  | nil => simp [valN]
  | cons b l ih =>
    rw [valN, List.length_cons, Nat.pow_succ]
    have := Nat.mod_lt b.toNat (show 0 < 128 by omega)
    omega
theorem valN_one (b : Int) : valN [b] = b.toNat % 128 := by simp [valN]
theorem num_valN : ∀ (k : Nat) (l : List Int), l.length = k + 1 → Byts8 l → (∀ i b, i < k → l[i]? = some b → 128 ≤ b) → (∀ b, l[k]? = some b → b < 128 ∧ (0 < k → b ≠ 0)) → num (valN l) = l ∧ (0 < k → 0 < valN l) := by
  intro k
  induction k with
  | zero =>
    intro l hl hb _ h2
    obtain ⟨b, rfl⟩ := List.length_eq_one_iff.1 hl
    have h0 := hb b (by simp)
    have := (h2 b rfl).1
    refine ⟨?_, fun h => absurd h (by omega)⟩
    rw [valN_one, num_small (by omega)]
    congr 1
    omega
  | succ k ih =>
    intro l hl hb h1 h2
    cases l with
    | nil => cases hl
    | cons b l =>
      have hb0 := hb b (by simp)
      have hg := h1 0 b (by omega) rfl
      obtain ⟨e1, e2⟩ := ih l (by simpa using hl) (fun x hx => hb x (by simp [hx])) (fun i c hi hc => h1 (i + 1) c (by omega) hc) (fun c hc => ⟨(h2 c hc).1, fun _ => (h2 c hc).2 (by omega)⟩)
      have hp : 0 < valN l := by
        cases k with
        | succ k => exact e2 (by omega)
        | zero =>
          obtain ⟨c, rfl⟩ := List.length_eq_one_iff.1 (show l.length = 1 by simpa using hl)
          have h0 := hb c (by simp)
          have := h2 c rfl
          have := this.2 (by omega)
          rw [valN_one]; omega
      refine ⟨?_, fun _ => by rw [valN]; omega⟩
      rw [valN, num_big (by omega), show (b.toNat % 128 + 128 * valN l) / 128 = valN l by omega, e1]
      congr 1
      omega
theorem lookN_ok {bs : List Int} (hb : Byts8 bs) (h : (lookN bs).e = 0) : ∃ n : Nat, (lookN bs).n = n ∧ n < 18446744073709551616 ∧ (lookN bs).k = ((num n).length : Nat) ∧ (num n).length ≤ bs.length ∧ bs = num n ++ bs.drop (num n).length := by
  unfold lookN at h ⊢
  split at h
  · cases h
  · rename_i h1
    rw [if_neg h1]
    split at h
    · cases h
    · rename_i h2
      rw [if_neg h2]
      obtain ⟨l1, l2⟩ := lead_le 10 bs
      have hk : lead 10 bs < 10 := by omega
      have hk2 : lead 10 bs < bs.length := by omega
      have ht : (bs.take (lead 10 bs + 1)).length = lead 10 bs + 1 := by rw [List.length_take]; omega
      have hd : ∀ b, bs[lead 10 bs]? = some b → bs.getD (lead 10 bs) 0 = b := fun b hb => by simp [List.getD, hb]
      obtain ⟨e1, _⟩ := num_valN (lead 10 bs) (bs.take (lead 10 bs + 1)) ht (fun b hb' => hb b (List.mem_of_mem_take hb')) (fun i b hi hb' => by
        rw [List.getElem?_take_of_lt (by omega)] at hb'
        exact lead_ge 10 bs i b hi hb') (fun b hb' => by
        rw [List.getElem?_take_of_lt (by omega)] at hb'
        refine ⟨lead_lt 10 bs b hk hb', fun hp hz => h2 (.inr (.inl ⟨hp, by rw [hd b hb']; exact hz⟩))⟩)
      have hv : valN (bs.take (lead 10 bs + 1)) < 18446744073709551616 := by
        by_cases h9 : lead 10 bs = 9
        · have hsplit : bs.take (lead 10 bs + 1) = bs.take 9 ++ [bs.getD 9 0] := by
            rw [h9, List.take_add_one, List.getElem?_eq_getElem (by omega)]
            simp [List.getD, show 9 < bs.length by omega]
          rw [hsplit, valN_append, valN_one]
          have := valN_lt (bs.take 9)
          have h9l : (bs.take 9).length = 9 := by rw [List.length_take]; omega
          rw [h9l] at this ⊢
          have : bs.getD 9 0 ≤ 1 := by
            have := fun h => h2 (.inr (.inr ⟨h9, h⟩))
            omega
          have : (bs.getD 9 0).toNat % 128 ≤ 1 := by omega
          have : 128 ^ 9 * ((bs.getD 9 0).toNat % 128) ≤ 128 ^ 9 * 1 := Nat.mul_le_mul_left _ this
          omega
        · refine Nat.lt_of_lt_of_le (valN_lt _) ?_
          rw [ht]
          exact Nat.le_trans (Nat.pow_le_pow_right (by omega) (show lead 10 bs + 1 ≤ 9 by omega)) (by decide)
      refine ⟨_, rfl, hv, ?_, ?_, ?_⟩
      · rw [e1, ht]; simp
      · rw [e1, ht]; omega
      · rw [e1, ht, List.take_append_drop]
theorem num_byts : ∀ (n : Nat), Byts8 (num n) := by
  intro n
  induction n using Nat.strongRecOn with
  | ind n ih =>
    by_cases h : n < 128
    · rw [num_small h]; intro b hb; simp at hb; omega
    · rw [num_big h]
      intro b hb
      rcases List.mem_cons.1 hb with rfl | hb
      · omega
      · exact ih (n / 128) (by omega) b hb
theorem num_shape : ∀ (n : Nat), (∀ i b, i + 1 < (num n).length → (num n)[i]? = some b → 128 ≤ b) ∧ (∀ b, (num n)[(num n).length - 1]? = some b → b < 128 ∧ (1 < (num n).length → b ≠ 0)) ∧ valN (num n) = n := by
  intro n
  induction n using Nat.strongRecOn with
  | ind n ih =>
    by_cases h : n < 128
    · rw [num_small h]
      refine ⟨fun i b hi => ?_, fun b hb => ?_, ?_⟩
      · simp at hi
      · simp at hb; exact ⟨by omega, fun h => by simp at h⟩
      · rw [valN_one]; omega
    · rw [num_big h]
      obtain ⟨h1, h2, h3⟩ := ih (n / 128) (by omega)
      have hp := num_pos (n / 128)
      refine ⟨fun i b hi hb => ?_, fun b hb => ?_, ?_⟩
      · cases i with
        | zero => cases hb; omega
        | succ i => exact h1 i b (by simpa using hi) hb
      · rw [List.length_cons, Nat.add_sub_cancel] at hb
        have e : (num (n / 128)).length = ((num (n / 128)).length - 1) + 1 := by omega
        rw [e, List.getElem?_cons_succ] at hb
        refine ⟨(h2 b hb).1, fun _ => ?_⟩
        by_cases hl : 1 < (num (n / 128)).length
        · exact (h2 b hb).2 hl
        · -- one byte: it is the number
          have hl1 : (num (n / 128)).length = 1 := by omega
          have hs : n / 128 < 128 := by
            by_cases hh : n / 128 < 128
            · exact hh
            · rw [num_big hh, List.length_cons] at hl1
              have := num_pos (n / 128 / 128)
              omega
          rw [num_small hs] at hb
          simp at hb
          omega
      · rw [valN, h3]; omega
theorem lookN_num (n : Nat) (hn : n < 18446744073709551616) (rest : List Int) : lookN (num n ++ rest) = ⟨n, (num n).length, 0⟩ := by
  have hl := num_len10 hn
  have hp := num_pos n
  obtain ⟨h1, h2, h3⟩ := num_shape n
  have hlt : ∀ i, i < (num n).length → (num n ++ rest)[i]? = (num n)[i]? := fun i hi => List.getElem?_append_left hi
  have hlead : lead 10 (num n ++ rest) = (num n).length - 1 := by
    refine lead_eq 10 _ _ (by omega) (fun i b hi hb => h1 i b (by omega) (by rw [← hlt i (by omega)]; exact hb)) (by simp; omega) fun _ b hb => (h2 b (by rw [← hlt _ (by omega)]; exact hb)).1
  have hlast : ∃ b, (num n)[(num n).length - 1]? = some b := ⟨_, List.getElem?_eq_getElem (by omega)⟩
  obtain ⟨b, hb⟩ := hlast
  have hgd : (num n ++ rest).getD ((num n).length - 1) 0 = b := by simp [List.getD, hlt _ (show (num n).length - 1 < (num n).length by omega), hb]
  have htk : (num n ++ rest).take ((num n).length - 1 + 1) = num n := by
    rw [show (num n).length - 1 + 1 = (num n).length by omega, List.take_left']; rfl
  unfold lookN
  rw [hlead, if_neg (by simp; omega), if_neg, htk, h3]
  · congr 1; omega
  · rintro (h | ⟨h, h'⟩ | ⟨h, h'⟩)
    · omega
    · rw [hgd] at h'; exact (h2 b hb).2 (by omega) h'
    · have h9 : (num n).length = 10 := by omega
      rw [show (9 : Nat) = (num n).length - 1 by omega, hgd] at h'
      have hsp : num n = (num n).take 9 ++ [b] := by
        have : (num n).take ((num n).length - 1 + 1) = num n := List.take_of_length_le (by omega)
        rw [List.take_add_one, hb, show (num n).length - 1 = 9 by omega] at this
        exact this.symm
      have hv : valN (num n) = valN ((num n).take 9) + 128 ^ 9 * (b.toNat % 128) := by
        conv => lhs; rw [hsp]
        rw [valN_append, valN_one, List.length_take, show min 9 (num n).length = 9 by omega]
      have := (h2 b hb).1
      rw [h3] at hv
      have h2b : 2 ≤ b.toNat % 128 := by omega
      have := Nat.mul_le_mul_left (128 ^ 9) h2b
      omega
theorem lead_eqD (n : Nat) (l : List Int) (k : Nat) (hk : k ≤ n) (h1 : ∀ j, j < k → 128 ≤ l.getD j 0) (h2 : k ≤ l.length) (h3 : k < n → k < l.length → l.getD k 0 < 128) : lead n l = k :=
  lead_eq n l k hk (fun i b hi hb => by have := h1 i hi; simpa [List.getD, hb] using this) h2 fun hn b hb => by
    have := h3 hn (List.getElem?_eq_some_iff.1 hb).1
    simpa [List.getD, hb] using this
theorem lookN_short {xs : List Int} (h : lead 10 xs = xs.length ∧ lead 10 xs < 10) : lookN xs = ⟨0, 0, 4⟩ := by unfold lookN; rw [if_pos h]
theorem lookN_form {xs : List Int} (h : ¬ (lead 10 xs = xs.length ∧ lead 10 xs < 10)) (g : lead 10 xs = 10 ∨ (0 < lead 10 xs ∧ xs.getD (lead 10 xs) 0 = 0) ∨ (lead 10 xs = 9 ∧ 1 < xs.getD 9 0)) : lookN xs = ⟨0, 0, 3⟩ := by unfold lookN; rw [if_neg h, if_pos g]
theorem lookN_val {xs : List Int} (h : ¬ (lead 10 xs = xs.length ∧ lead 10 xs < 10)) (g : ¬ (lead 10 xs = 10 ∨ (0 < lead 10 xs ∧ xs.getD (lead 10 xs) 0 = 0) ∨ (lead 10 xs = 9 ∧ 1 < xs.getD 9 0))) : lookN xs = ⟨valN (xs.take (lead 10 xs + 1)), lead 10 xs + 1, 0⟩ := by unfold lookN; rw [if_neg h, if_neg g]
theorem lookN_zero {xs : List Int} (h : (lookN xs).e = 0) : lead 10 xs < 10 ∧ lead 10 xs < xs.length ∧ (0 < lead 10 xs → xs.getD (lead 10 xs) 0 ≠ 0) ∧ (lead 10 xs = 9 → xs.getD 9 0 ≤ 1) ∧ lookN xs = ⟨valN (xs.take (lead 10 xs + 1)), lead 10 xs + 1, 0⟩ := by
  obtain ⟨l1, l2⟩ := lead_le 10 xs
  unfold lookN at h ⊢
  split at h
  · cases h
  · rename_i h1
    rw [if_neg h1]
    split at h
    · cases h
    · rename_i h2
      rw [if_neg h2]
      exact ⟨by omega, by omega, fun hp hz => h2 (.inr (.inl ⟨hp, hz⟩)), fun h9 => by have := fun hh => h2 (.inr (.inr ⟨h9, hh⟩)); omega, rfl⟩
theorem valN_drop_le (l : List Int) (i : Nat) : valN (l.drop i) ≤ valN l := by
  have h := valN_append (l.take i) (l.drop i)
  rw [List.take_append_drop] at h
  have : 1 * valN (l.drop i) ≤ 128 ^ (l.take i).length * valN (l.drop i) := Nat.mul_le_mul_right _ (Nat.pow_pos (by omega))
  omega
theorem valN_drop {l : List Int} {i : Nat} (h : i < l.length) : valN (l.drop i) = (l.getD i 0).toNat % 128 + 128 * valN (l.drop (i + 1)) := by
  rw [List.drop_eq_getElem_cons h, valN]
  simp [List.getD, h]
theorem valN_take {l : List Int} {i : Nat} (h : i < l.length) : valN (l.take (i + 1)) = valN (l.take i) + 128 ^ i * ((l.getD i 0).toNat % 128) := by
  rw [List.take_add_one, List.getElem?_eq_getElem h]
  show valN (l.take i ++ [l[i]]) = _
  rw [valN_append, valN_one, List.length_take, Nat.min_eq_left (by omega)]
  simp [List.getD, h]
end Go.Proofs.YtalbjjimnhldfaaGreatDoor
end

/- Readers: what is told of look, number, Read, Num, Int and their like (what is to be shown). -/
section
set_option maxRecDepth 100000
namespace Go.Proofs.YtalbjjimnhldfaaGreatDoor
open Go.Ev
-- keep num foldI dnum frm Go.Ev.Sli lookN Byts8 valN lead rdC unfI OwB Go.Ev.HV
def unfI (n : Int) : Int := if n % 2 = 1 then -(n / 2) - 1 else n / 2
structure RR where
  at_ : Int
  e : Int
  n : Int
def rdC (bs : List Int) (at_ e m : Int) : RR :=
  if e ≠ 0 then ⟨at_, e, 0⟩
  else if (lookN (bs.drop at_.toNat)).e ≠ 0 then ⟨at_, (lookN (bs.drop at_.toNat)).e, 0⟩
  else if m < (lookN (bs.drop at_.toNat)).n then ⟨at_, 2, 0⟩
  else ⟨at_ + (lookN (bs.drop at_.toNat)).k, 0, (lookN (bs.drop at_.toNat)).n⟩
structure RA where
  s : SA
  at_ : Int
  e : Int
  m : Int
structure RI (a : RA) (xs : List Int) : Prop where
  sl : Sli (Value.int .u8) 1 a.s.n a.s.o a.s.l a.s.k a.s.c xs
  by_ : Byts8 xs
  at0 : 0 ≤ a.at_
  at1 : a.at_ ≤ a.s.l
  m0 : 0 ≤ a.m
  m1 : a.m < 18446744073709551616
structure KL where
  i : Int
  n : Int
noncomputable section
def S_look : SpecD where
  f := 91
  α := SA
  args a := [a.v 12]
  R a := [(12, .f a.c 5 .gro)]
  n := 12 + 1
  pre a := (∃ xs, Sli (Value.int .u8) 1 a.n a.o a.l a.k a.c xs ∧ Byts8 xs) ∧ a.l ≤ 1000000
  outs := [⟨LR, fun a b => ∀ xs, Sli (Value.int .u8) 1 a.n a.o a.l a.k a.c xs → b = lookN xs, fun _ b => .tuple ⟨[tgI .u64 b.n, tgI .i64 b.k, tgI .i64 b.e]⟩, fun _ _ => [], fun _ _ => 12 + 1, fun _ _ => []⟩]
  pick _ _ := 0
  find l A := saK A 12 (lv l 0) fun s r => some (s, r)
def S_num1 : SpecD where
  f := 94
  α := SA
  args a := [a.v 12]
  R a := [(12, .f a.c 5 .gro)]
  n := 12 + 1
  pre a := (∃ xs, Sli (Value.int .u8) 1 a.n a.o a.l a.k a.c xs ∧ Byts8 xs) ∧ a.l ≤ 1000000
  outs := [⟨LR, fun a b => ∀ xs, Sli (Value.int .u8) 1 a.n a.o a.l a.k a.c xs → b = lookN xs, fun _ b => .tuple ⟨[tgI .u64 b.n, tgI .i64 b.k, tgI .i64 b.e]⟩, fun _ _ => [], fun _ _ => 12 + 1, fun _ _ => []⟩]
  pick _ _ := 0
  find l A := saK A 12 (lv l 0) fun s r => some (s, r)
def la_look (a : SA) (xs : List Int) : LA where
  α := KL
  at_ e := ⟨[(0, a.v 12), (5, tgI .u64 e.n), (6, .int .i64 (-1)), (10, tgI .i64 (min (a.l : Int) 10)), (11, tgI .i64 e.i)], S_look.R a, 12 + 1⟩
  J e := (0 ≤ e.i ∧ e.i ≤ min (a.l : Int) 10) ∧ ((e.i ≤ 9 → e.n = valN (xs.take e.i.toNat)) ∧ ∀ j, j < e.i.toNat → 128 ≤ xs.getD j 0)
  μ e := (10 - e.i).toNat
  ren _ := []
  xt := some (0, { β := KL, at_ := fun e => ⟨[(0, a.v 12), (5, tgI .u64 e.n), (6, tgI .i64 e.i)], S_look.R a, 12 + 1⟩, J := fun e => (e.i = -1 ∧ lead 10 xs = min a.l 10) ∨ (e.i = lead 10 xs ∧ lead 10 xs < min a.l 10 ∧ ((lookN xs).e = 0 → e.n = valN (xs.take (lead 10 xs + 1)))), ren := fun _ => [] })
def j_look (a : SA) (xs : List Int) : JA where
  β := KL
  at_ e := ⟨[(0, a.v 12), (5, tgI .u64 e.n), (6, tgI .i64 e.i)], S_look.R a, 12 + 1⟩
  J e := e.i = lead 10 xs ∧ (lookN xs).e = 0 ∧ e.n = valN (xs.take (lead 10 xs + 1))
  ren _ := []
def G_look (a : SA) (xs : List Int) : Prop := fnW Tryz.prog E0 cw0 [some (la_look a xs), some (joins [(16, j_look a xs)])] S_look.f (S_look.args a) (mem (S_look.R a) S_look.n) (endD Tryz.prog S_look a)
def j_num1 (a : SA) (xs : List Int) (p : Prop) : JA where
  β := Unit
  at_ _ := ⟨[(0, a.v 12), (5, tgI .i64 (lead 10 xs))], S_look.R a, 12 + 1⟩
  J _ := p
  ren _ := []
def la_num1a (a : SA) (xs : List Int) : LA where
  α := KL
  at_ e := ⟨[(0, a.v 12), (5, tgI .i64 e.i)], S_look.R a, 12 + 1⟩
  J e := (0 ≤ e.i ∧ e.i ≤ min (a.l : Int) 10) ∧ ∀ j, j < e.i.toNat → 128 ≤ xs.getD j 0
  μ e := (10 - e.i).toNat
  ren _ := []
  xt := some (0, j_num1 a xs True)
def la_num1b (a : SA) (xs : List Int) : LA where
  α := KL
  at_ e := ⟨[(0, a.v 12), (5, tgI .i64 (lead 10 xs)), (6, tgI .u64 e.n), (7, tgI .i64 e.i)], S_look.R a, 12 + 1⟩
  J e := (-1 ≤ e.i ∧ e.i ≤ lead 10 xs) ∧ (lookN xs).e = 0 ∧ e.n = valN ((xs.take (lead 10 xs + 1)).drop (e.i + 1).toNat)
  μ e := (e.i + 1).toNat
  ren _ := []
def G_num1 (a : SA) (xs : List Int) : Prop := fnW Tryz.prog E0 cw0 [some (la_num1a a xs), some (la_num1b a xs), some (joins [(6, j_num1 a xs (¬ (lead 10 xs = a.l ∧ lead 10 xs < 10))), (8, j_num1 a xs ((lookN xs).e = 0))])] S_num1.f (S_num1.args a) (mem (S_num1.R a) S_num1.n) (endD Tryz.prog S_num1 a)
def cwN (s : CW → CW) : Nat → CW
  | 0 => cw0
  | n + 1 => s fun f args A K => fnW Tryz.prog E0 (cwN s n) [] f args A K
def S_read1 : SpecD where
  f := 64
  α := RA
  args a := [.agg ⟨[a.s.v 12, tgI .i64 a.at_, tgI .i64 a.e]⟩, tgI .u64 a.m]
  R a := [(12, .f a.s.c 5 .ro)]
  n := 12 + 1
  pre a := (∃ xs, RI a xs) ∧ a.s.l ≤ 1000000
  outs := [⟨RR, fun a b => ∀ xs, RI a xs → b = rdC xs a.at_ a.e a.m, fun a b => .tuple ⟨[.agg ⟨[a.s.v 12, tgI .i64 b.at_, tgI .i64 b.e]⟩, tgI .u64 b.n]⟩, fun _ _ => [], fun _ _ => 12 + 1, fun _ _ => []⟩]
  pick _ _ := 0
  find l A := saK A 12 (lv (agv (lv l 0)) 0) fun s r => wI (lv (agv (lv l 0)) 1) fun p => wI (lv (agv (lv l 0)) 2) fun e => wI (lv l 1) fun m => some (⟨s, p, e, m⟩, r)
def S_unf1 : SpecD where
  f := 67
  α := Int
  args a := [tgI .u64 a]
  R _ := []
  n := 12
  pre a := (0 ≤ a ∧ a < 18446744073709551616) ∧ True
  outs := [⟨Unit, fun _ _ => True, fun a _ => tgI .i64 (unfI a), fun _ _ => [], fun _ _ => 12, fun _ _ => []⟩]
  pick _ _ := 0
  find l _ := some (iv (lv l 0), [])
def G_unf1 (a : Int) : Prop := fnW Tryz.prog E0 cw0 [] S_unf1.f (S_unf1.args a) (mem (S_unf1.R a) S_unf1.n) (endD Tryz.prog S_unf1 a)
def ptB (v : Value) : Nat := match v with
  | .pointer (some ⟨b, _, _⟩) => b
  | .iface _ (.pointer (some ⟨b, _, _⟩)) => b
  | _ => 0
abbrev rdR (s : SA) (at_ e : Int) : List (Nat × PO) := [(12, .p (.row [tgS (12 + 1) 0 s.l s.k, tgI .i64 at_, tgI .i64 e] 176 .own)), (12 + 1, .f s.c 5 .ro)]
def raK {β : Type} (A : AW) (p m : Value) (k : RA → List (Nat × Nat) → Option β) : Option β := ptK p fun b => rowK A b fun r => saK A (12 + 1) (lv r 0) fun s n => wI (lv r 1) fun q => wI (lv r 2) fun e => wI m fun m => k ⟨s, q, e, m⟩ ((12, b) :: n)
def S_rnum : SpecD where
  f := 60
  α := RA
  args a := [.pointer (some ⟨12, 0, none⟩), tgI .u64 a.m]
  R a := rdR a.s a.at_ a.e
  n := 12 + 2
  pre a := (∃ xs, RI a xs) ∧ (a.s.n = false ∧ a.s.o = 0) ∧ a.s.l ≤ 1000000
  outs := [⟨RR, fun a b => ∀ xs, RI a xs → b = rdC xs a.at_ a.e a.m, fun _ b => tgI .u64 b.n, fun a b => rdR a.s b.at_ b.e, fun _ _ => 12 + 2, fun _ _ => []⟩]
  pick _ _ := 0
  find l A := raK A (lv l 0) (lv l 1) fun a r => some (a, r)
def G_rnum (a : RA) : Prop := fnW Tryz.prog E0 (cwN (cwD Tryz.prog S_look) 3) [] S_rnum.f (S_rnum.args a) (mem (S_rnum.R a) S_rnum.n) (endD Tryz.prog S_rnum a)
def S_rint : SpecD where
  f := 63
  α := RA
  args a := [.pointer (some ⟨12, 0, none⟩)]
  R a := rdR a.s a.at_ a.e
  n := 12 + 2
  pre a := (∃ xs, RI a xs) ∧ (a.s.n = false ∧ a.s.o = 0 ∧ a.m = 18446744073709551615) ∧ a.s.l ≤ 1000000
  outs := [⟨RR, fun a b => ∀ xs, RI a xs → b = rdC xs a.at_ a.e a.m, fun _ b => tgI .i64 (unfI b.n), fun a b => rdR a.s b.at_ b.e, fun _ _ => 12 + 2, fun _ _ => []⟩]
  pick _ _ := 0
  find l A := raK A (lv l 0) (.int .u64 18446744073709551615) fun a r => some (a, r)
def G_rint (a : RA) : Prop := fnW Tryz.prog E0 (cwD Tryz.prog S_rnum cw0) [] S_rint.f (S_rint.args a) (mem (S_rint.R a) S_rint.n) (endD Tryz.prog S_rint a)
end
end Go.Proofs.YtalbjjimnhldfaaGreatDoor
end

/- Readers: what is told of look, number, Read, Num, Int and their like is so. -/
section
set_option maxRecDepth 100000
namespace Go.Proofs.YtalbjjimnhldfaaGreatDoor
open Go.Ev
set_option maxHeartbeats 3200000 in
theorem vc_look (a : SA) (xs : List Int) : G_look a xs = (∀ (x0 : Int), x0 = (↑a.3 : Int) → ∀ (x1 : Int), x1 = Min.min x0 (10 : Int) → (∃ (x2 : KL), ((0 ≤ x2.1 ∧ x2.1 ≤ Min.min (↑a.3 : Int) (10 : Int)) ∧ (x2.1 ≤ 9 → x2.2 = (↑(valN
(List.take (Int.toNat x2.1) xs)) : Int)) ∧ ∀ (x3 : Nat), x3 < Int.toNat x2.1 → (128 : Int) ≤ List.getD xs x3 (0 : Int)) ∧ ((Z4 a ∧ x2.2 = 0 ∧ (-1 : Int) = -1 ∧ Min.min (↑a.3 : Int)
(10 : Int) = x1 ∧ x2.1 = 0 ∧ True) ∧ (ZF a.5 ∧ True) ∧ True) ∧ ∀ (x4 : KL), ((0 ≤ x4.1 ∧ x4.1 ≤ Min.min (↑a.3 : Int) (10 : Int)) ∧ (x4.1 ≤ 9 → x4.2 = (↑(valN (List.take (Int.toNat
x4.1) xs)) : Int)) ∧ ∀ (x5 : Nat), x5 < Int.toNat x4.1 → (128 : Int) ≤ List.getD xs x5 (0 : Int)) → (x4.1 < Min.min (↑a.3 : Int) (10 : Int) → (0 ≤ x4.1 ∧ x4.1 < (↑a.3 : Int)) ∧ ∀
(x6 : Nat), x6 = a.2 + Int.toNat x4.1 * 1 → ∃ (x7 : Int), Rd a.5 (Nat.add x6 0) (Value.int IntKind.u8 x7) ∧ ∀ x8, x8 = IntKind.wrap .u8 (bitsOf BinOp.and IntKind.u8 x7 (127 : Int))
→ ∀ x9, x9 = IntKind.wrap .u64 x8 → ∀ x10, x10 = IntKind.wrap .i64 ((7 : Int) * x4.1) → (0 : Int) ≤ x10 ∧ ∀ x11, x11 = IntKind.wrap .u64 (x9 * (2 : Int) ^ Min.min (Int.toNat x10)
64) → ∀ x12, x12 = IntKind.wrap .u64 (bitsOf BinOp.or IntKind.u64 x4.2 x11) → (0 ≤ x4.1 ∧ x4.1 < (↑a.3 : Int)) ∧ ∀ (x13 : Nat), x13 = a.2 + Int.toNat x4.1 * 1 → ∃ (x14 : Int), Rd
a.5 (Nat.add x13 0) (Value.int IntKind.u8 x14) ∧ (x14 < (128 : Int) → ∃ (x15 : KL), (x15.1 = -1 ∧ lead 10 xs = Min.min a.3 10 ∨ x15.1 = (↑(lead 10 xs) : Int) ∧ lead 10 xs < Min.min
a.3 10 ∧ ((lookN xs).3 = (0 : Int) → x15.2 = (↑(valN (List.take (lead 10 xs + 1) xs)) : Int))) ∧ (Z4 a ∧ x15.2 = x12 ∧ x15.1 = x4.1 ∧ True) ∧ (ZF a.5 ∧ True) ∧ True) ∧ (¬x14 < (128
: Int) → ∀ x16, x16 = IntKind.wrap .i64 (x4.1 + (1 : Int)) → ∃ (x17 : KL), ((0 ≤ x17.1 ∧ x17.1 ≤ Min.min (↑a.3 : Int) (10 : Int)) ∧ (x17.1 ≤ 9 → x17.2 = (↑(valN (List.take
(Int.toNat x17.1) xs)) : Int)) ∧ ∀ (x18 : Nat), x18 < Int.toNat x17.1 → (128 : Int) ≤ List.getD xs x18 (0 : Int)) ∧ Int.toNat ((10 : Int) - x17.1) < Int.toNat ((10 : Int) - x4.1) ∧
(Z4 a ∧ x17.2 = x12 ∧ (-1 : Int) = -1 ∧ Min.min (↑a.3 : Int) (10 : Int) = Min.min (↑a.3 : Int) (10 : Int) ∧ x17.1 = x16 ∧ True) ∧ (ZF a.5 ∧ True) ∧ True)) ∧ (¬x4.1 < Min.min (↑a.3
: Int) (10 : Int) → ∃ (x19 : KL), (x19.1 = -1 ∧ lead 10 xs = Min.min a.3 10 ∨ x19.1 = (↑(lead 10 xs) : Int) ∧ lead 10 xs < Min.min a.3 10 ∧ ((lookN xs).3 = (0 : Int) → x19.2 =
(↑(valN (List.take (lead 10 xs + 1) xs)) : Int))) ∧ (Z4 a ∧ x19.2 = x4.2 ∧ x19.1 = -1 ∧ True) ∧ (ZF a.5 ∧ True) ∧ True)) ∧ ∀ (x20 : KL), x20.1 = -1 ∧ lead 10 xs = Min.min a.3 10 ∨
x20.1 = (↑(lead 10 xs) : Int) ∧ lead 10 xs < Min.min a.3 10 ∧ ((lookN xs).3 = (0 : Int) → x20.2 = (↑(valN (List.take (lead 10 xs + 1) xs)) : Int)) → ((x20.1 < 0 → ∀ (x21 : Int),
x21 = (↑a.3 : Int) → (x21 < (10 : Int) → ∃ (x22 : LR), (∀ (x23 : List Int), SB a.1 a.2 a.3 a.4 a.5 x23 → x22 = lookN x23) ∧ (x22.1 = 0 ∧ x22.2 = 0 ∧ x22.3 = 4 ∧ True) ∧ True) ∧
(¬x21 < (10 : Int) → (x20.1 < 0 → ∃ (x24 : LR), (∀ (x25 : List Int), SB a.1 a.2 a.3 a.4 a.5 x25 → x24 = lookN x25) ∧ (x24.1 = 0 ∧ x24.2 = 0 ∧ x24.3 = 3 ∧ True) ∧ True) ∧ (¬x20.1 <
0 → (0 < x20.1 → (0 ≤ x20.1 ∧ x20.1 < (↑a.3 : Int)) ∧ ∀ (x26 : Nat), x26 = a.2 + Int.toNat x20.1 * 1 → ∃ (x27 : Int), Rd a.5 (Nat.add x26 0) (Value.int IntKind.u8 x27) ∧ (x27 = (0
: Int) → ∃ (x28 : LR), (∀ (x29 : List Int), SB a.1 a.2 a.3 a.4 a.5 x29 → x28 = lookN x29) ∧ (x28.1 = 0 ∧ x28.2 = 0 ∧ x28.3 = 3 ∧ True) ∧ True) ∧ (¬x27 = (0 : Int) → (x20.1 = 9 → (0
≤ x20.1 ∧ x20.1 < (↑a.3 : Int)) ∧ ∀ (x30 : Nat), x30 = a.2 + Int.toNat x20.1 * 1 → ∃ (x31 : Int), Rd a.5 (Nat.add x30 0) (Value.int IntKind.u8 x31) ∧ ((1 : Int) < x31 → ∃ (x32 :
LR), (∀ (x33 : List Int), SB a.1 a.2 a.3 a.4 a.5 x33 → x32 = lookN x33) ∧ (x32.1 = 0 ∧ x32.2 = 0 ∧ x32.3 = 3 ∧ True) ∧ True) ∧ (¬(1 : Int) < x31 → ∃ (x34 : KL), (x34.1 = (↑(lead 10
xs) : Int) ∧ (lookN xs).3 = (0 : Int) ∧ x34.2 = (↑(valN (List.take (lead 10 xs + 1) xs)) : Int)) ∧ (Z4 a ∧ x34.2 = x20.2 ∧ x34.1 = x20.1 ∧ True) ∧ (ZF a.5 ∧ True) ∧ True)) ∧
(¬x20.1 = 9 → ∃ (x35 : KL), (x35.1 = (↑(lead 10 xs) : Int) ∧ (lookN xs).3 = (0 : Int) ∧ x35.2 = (↑(valN (List.take (lead 10 xs + 1) xs)) : Int)) ∧ (Z4 a ∧ x35.2 = x20.2 ∧ x35.1 =
x20.1 ∧ True) ∧ (ZF a.5 ∧ True) ∧ True))) ∧ (¬0 < x20.1 → (x20.1 = 9 → (0 ≤ x20.1 ∧ x20.1 < (↑a.3 : Int)) ∧ ∀ (x36 : Nat), x36 = a.2 + Int.toNat x20.1 * 1 → ∃ (x37 : Int), Rd a.5
(Nat.add x36 0) (Value.int IntKind.u8 x37) ∧ ((1 : Int) < x37 → ∃ (x38 : LR), (∀ (x39 : List Int), SB a.1 a.2 a.3 a.4 a.5 x39 → x38 = lookN x39) ∧ (x38.1 = 0 ∧ x38.2 = 0 ∧ x38.3 =
3 ∧ True) ∧ True) ∧ (¬(1 : Int) < x37 → ∃ (x40 : KL), (x40.1 = (↑(lead 10 xs) : Int) ∧ (lookN xs).3 = (0 : Int) ∧ x40.2 = (↑(valN (List.take (lead 10 xs + 1) xs)) : Int)) ∧ (Z4 a ∧
x40.2 = x20.2 ∧ x40.1 = x20.1 ∧ True) ∧ (ZF a.5 ∧ True) ∧ True)) ∧ (¬x20.1 = 9 → ∃ (x41 : KL), (x41.1 = (↑(lead 10 xs) : Int) ∧ (lookN xs).3 = (0 : Int) ∧ x41.2 = (↑(valN
(List.take (lead 10 xs + 1) xs)) : Int)) ∧ (Z4 a ∧ x41.2 = x20.2 ∧ x41.1 = x20.1 ∧ True) ∧ (ZF a.5 ∧ True) ∧ True))))) ∧ (¬x20.1 < 0 → (x20.1 < 0 → ∃ (x42 : LR), (∀ (x43 : List
Int), SB a.1 a.2 a.3 a.4 a.5 x43 → x42 = lookN x43) ∧ (x42.1 = 0 ∧ x42.2 = 0 ∧ x42.3 = 3 ∧ True) ∧ True) ∧ (¬x20.1 < 0 → (0 < x20.1 → (0 ≤ x20.1 ∧ x20.1 < (↑a.3 : Int)) ∧ ∀ (x44 :
Nat), x44 = a.2 + Int.toNat x20.1 * 1 → ∃ (x45 : Int), Rd a.5 (Nat.add x44 0) (Value.int IntKind.u8 x45) ∧ (x45 = (0 : Int) → ∃ (x46 : LR), (∀ (x47 : List Int), SB a.1 a.2 a.3 a.4
a.5 x47 → x46 = lookN x47) ∧ (x46.1 = 0 ∧ x46.2 = 0 ∧ x46.3 = 3 ∧ True) ∧ True) ∧ (¬x45 = (0 : Int) → (x20.1 = 9 → (0 ≤ x20.1 ∧ x20.1 < (↑a.3 : Int)) ∧ ∀ (x48 : Nat), x48 = a.2 +
Int.toNat x20.1 * 1 → ∃ (x49 : Int), Rd a.5 (Nat.add x48 0) (Value.int IntKind.u8 x49) ∧ ((1 : Int) < x49 → ∃ (x50 : LR), (∀ (x51 : List Int), SB a.1 a.2 a.3 a.4 a.5 x51 → x50 =
lookN x51) ∧ (x50.1 = 0 ∧ x50.2 = 0 ∧ x50.3 = 3 ∧ True) ∧ True) ∧ (¬(1 : Int) < x49 → ∃ (x52 : KL), (x52.1 = (↑(lead 10 xs) : Int) ∧ (lookN xs).3 = (0 : Int) ∧ x52.2 = (↑(valN
(List.take (lead 10 xs + 1) xs)) : Int)) ∧ (Z4 a ∧ x52.2 = x20.2 ∧ x52.1 = x20.1 ∧ True) ∧ (ZF a.5 ∧ True) ∧ True)) ∧ (¬x20.1 = 9 → ∃ (x53 : KL), (x53.1 = (↑(lead 10 xs) : Int) ∧
(lookN xs).3 = (0 : Int) ∧ x53.2 = (↑(valN (List.take (lead 10 xs + 1) xs)) : Int)) ∧ (Z4 a ∧ x53.2 = x20.2 ∧ x53.1 = x20.1 ∧ True) ∧ (ZF a.5 ∧ True) ∧ True))) ∧ (¬0 < x20.1 →
(x20.1 = 9 → (0 ≤ x20.1 ∧ x20.1 < (↑a.3 : Int)) ∧ ∀ (x54 : Nat), x54 = a.2 + Int.toNat x20.1 * 1 → ∃ (x55 : Int), Rd a.5 (Nat.add x54 0) (Value.int IntKind.u8 x55) ∧ ((1 : Int) <
x55 → ∃ (x56 : LR), (∀ (x57 : List Int), SB a.1 a.2 a.3 a.4 a.5 x57 → x56 = lookN x57) ∧ (x56.1 = 0 ∧ x56.2 = 0 ∧ x56.3 = 3 ∧ True) ∧ True) ∧ (¬(1 : Int) < x55 → ∃ (x58 : KL),
(x58.1 = (↑(lead 10 xs) : Int) ∧ (lookN xs).3 = (0 : Int) ∧ x58.2 = (↑(valN (List.take (lead 10 xs + 1) xs)) : Int)) ∧ (Z4 a ∧ x58.2 = x20.2 ∧ x58.1 = x20.1 ∧ True) ∧ (ZF a.5 ∧
True) ∧ True)) ∧ (¬x20.1 = 9 → ∃ (x59 : KL), (x59.1 = (↑(lead 10 xs) : Int) ∧ (lookN xs).3 = (0 : Int) ∧ x59.2 = (↑(valN (List.take (lead 10 xs + 1) xs)) : Int)) ∧ (Z4 a ∧ x59.2 =
x20.2 ∧ x59.1 = x20.1 ∧ True) ∧ (ZF a.5 ∧ True) ∧ True))))) ∧ ∀ (x60 : KL), x60.1 = (↑(lead 10 xs) : Int) ∧ (lookN xs).3 = (0 : Int) ∧ x60.2 = (↑(valN (List.take (lead 10 xs + 1)
xs)) : Int) → ∀ x61, x61 = IntKind.wrap .i64 (x60.1 + (1 : Int)) → ∃ (x62 : LR), (∀ (x63 : List Int), SB a.1 a.2 a.3 a.4 a.5 x63 → x62 = lookN x63) ∧ (x62.1 = x60.2 ∧ x62.2 = x61 ∧
x62.3 = 0 ∧ True) ∧ True) := by kernel_rfl
set_option maxHeartbeats 3200000 in
theorem vc_num1 (a : SA) (xs : List Int) : G_num1 a xs = ((∃ (x0 : KL), ((0 ≤ x0.1 ∧ x0.1 ≤ Min.min (↑a.3 : Int) (10 : Int)) ∧ ∀ (x1 : Nat), x1 < Int.toNat x0.1 → (128 : Int) ≤ List.getD xs x1 (0 : Int)) ∧ ((Z4 a ∧ x0.1 = 0 ∧ True) ∧ (ZF
a.5 ∧ True) ∧ True) ∧ ∀ (x2 : KL), ((0 ≤ x2.1 ∧ x2.1 ≤ Min.min (↑a.3 : Int) (10 : Int)) ∧ ∀ (x3 : Nat), x3 < Int.toNat x2.1 → (128 : Int) ≤ List.getD xs x3 (0 : Int)) → ∀ (x4 :
Int), x4 = (↑a.3 : Int) → (x2.1 < x4 → (x2.1 < 10 → (0 ≤ x2.1 ∧ x2.1 < (↑a.3 : Int)) ∧ ∀ (x5 : Nat), x5 = a.2 + Int.toNat x2.1 * 1 → ∃ (x6 : Int), Rd a.5 (Nat.add x5 0) (Value.int
IntKind.u8 x6) ∧ ((128 : Int) ≤ x6 → ∀ x7, x7 = IntKind.wrap .i64 (x2.1 + (1 : Int)) → ∃ (x8 : KL), ((0 ≤ x8.1 ∧ x8.1 ≤ Min.min (↑a.3 : Int) (10 : Int)) ∧ ∀ (x9 : Nat), x9 <
Int.toNat x8.1 → (128 : Int) ≤ List.getD xs x9 (0 : Int)) ∧ Int.toNat ((10 : Int) - x8.1) < Int.toNat ((10 : Int) - x2.1) ∧ (Z4 a ∧ x8.1 = x7 ∧ True) ∧ (ZF a.5 ∧ True) ∧ True) ∧
(¬(128 : Int) ≤ x6 → ∃ (x10 : Unit), True ∧ (Z4 a ∧ (↑(lead 10 xs) : Int) = x2.1 ∧ True) ∧ (ZF a.5 ∧ True) ∧ True)) ∧ (¬x2.1 < 10 → ∃ (x11 : Unit), True ∧ (Z4 a ∧ (↑(lead 10 xs) :
Int) = x2.1 ∧ True) ∧ (ZF a.5 ∧ True) ∧ True)) ∧ (¬x2.1 < x4 → ∃ (x12 : Unit), True ∧ (Z4 a ∧ (↑(lead 10 xs) : Int) = x2.1 ∧ True) ∧ (ZF a.5 ∧ True) ∧ True)) ∧ ∀ (x13 : Unit), True
→ (∀ (x14 : Int), x14 = (↑a.3 : Int) → ((↑(lead 10 xs) : Int) = x14 → ((↑(lead 10 xs) : Int) < (10 : Int) → ∃ (x15 : LR), (∀ (x16 : List Int), SB a.1 a.2 a.3 a.4 a.5 x16 → x15 =
lookN x16) ∧ (x15.1 = 0 ∧ x15.2 = 0 ∧ x15.3 = 4 ∧ True) ∧ True) ∧ (¬(↑(lead 10 xs) : Int) < (10 : Int) → ∃ (x17 : Unit), (lead 10 xs = a.3 ∧ lead 10 xs < 10 → False) ∧ (Z4 a ∧
(↑(lead 10 xs) : Int) = (↑(lead 10 xs) : Int) ∧ True) ∧ (ZF a.5 ∧ True) ∧ True)) ∧ (¬(↑(lead 10 xs) : Int) = x14 → ∃ (x18 : Unit), (lead 10 xs = a.3 ∧ lead 10 xs < 10 → False) ∧
(Z4 a ∧ (↑(lead 10 xs) : Int) = (↑(lead 10 xs) : Int) ∧ True) ∧ (ZF a.5 ∧ True) ∧ True)) ∧ ∀ (x19 : Unit), (lead 10 xs = a.3 ∧ lead 10 xs < 10 → False) → (((↑(lead 10 xs) : Int) =
(10 : Int) → ∃ (x20 : LR), (∀ (x21 : List Int), SB a.1 a.2 a.3 a.4 a.5 x21 → x20 = lookN x21) ∧ (x20.1 = 0 ∧ x20.2 = 0 ∧ x20.3 = 3 ∧ True) ∧ True) ∧ (¬(↑(lead 10 xs) : Int) = (10 :
Int) → ((0 : Int) < (↑(lead 10 xs) : Int) → ((0 : Int) ≤ (↑(lead 10 xs) : Int) ∧ (↑(lead 10 xs) : Int) < (↑a.3 : Int)) ∧ ∀ (x22 : Nat), x22 = a.2 + Int.toNat (↑(lead 10 xs) : Int)
* 1 → ∃ (x23 : Int), Rd a.5 (Nat.add x22 0) (Value.int IntKind.u8 x23) ∧ (x23 = (0 : Int) → ∃ (x24 : LR), (∀ (x25 : List Int), SB a.1 a.2 a.3 a.4 a.5 x25 → x24 = lookN x25) ∧
(x24.1 = 0 ∧ x24.2 = 0 ∧ x24.3 = 3 ∧ True) ∧ True) ∧ (¬x23 = (0 : Int) → ((↑(lead 10 xs) : Int) = (9 : Int) → ((0 : Int) ≤ (9 : Int) ∧ (9 : Int) < (↑a.3 : Int)) ∧ ∀ (x26 : Nat),
x26 = a.2 + 9 → ∃ (x27 : Int), Rd a.5 (Nat.add x26 0) (Value.int IntKind.u8 x27) ∧ ((1 : Int) < x27 → ∃ (x28 : LR), (∀ (x29 : List Int), SB a.1 a.2 a.3 a.4 a.5 x29 → x28 = lookN
x29) ∧ (x28.1 = 0 ∧ x28.2 = 0 ∧ x28.3 = 3 ∧ True) ∧ True) ∧ (¬(1 : Int) < x27 → ∃ (x30 : Unit), (lookN xs).3 = (0 : Int) ∧ (Z4 a ∧ (↑(lead 10 xs) : Int) = (↑(lead 10 xs) : Int) ∧
True) ∧ (ZF a.5 ∧ True) ∧ True)) ∧ (¬(↑(lead 10 xs) : Int) = (9 : Int) → ∃ (x31 : Unit), (lookN xs).3 = (0 : Int) ∧ (Z4 a ∧ (↑(lead 10 xs) : Int) = (↑(lead 10 xs) : Int) ∧ True) ∧
(ZF a.5 ∧ True) ∧ True))) ∧ (¬(0 : Int) < (↑(lead 10 xs) : Int) → ((↑(lead 10 xs) : Int) = (9 : Int) → ((0 : Int) ≤ (9 : Int) ∧ (9 : Int) < (↑a.3 : Int)) ∧ ∀ (x32 : Nat), x32 = a.2
+ 9 → ∃ (x33 : Int), Rd a.5 (Nat.add x32 0) (Value.int IntKind.u8 x33) ∧ ((1 : Int) < x33 → ∃ (x34 : LR), (∀ (x35 : List Int), SB a.1 a.2 a.3 a.4 a.5 x35 → x34 = lookN x35) ∧
(x34.1 = 0 ∧ x34.2 = 0 ∧ x34.3 = 3 ∧ True) ∧ True) ∧ (¬(1 : Int) < x33 → ∃ (x36 : Unit), (lookN xs).3 = (0 : Int) ∧ (Z4 a ∧ (↑(lead 10 xs) : Int) = (↑(lead 10 xs) : Int) ∧ True) ∧
(ZF a.5 ∧ True) ∧ True)) ∧ (¬(↑(lead 10 xs) : Int) = (9 : Int) → ∃ (x37 : Unit), (lookN xs).3 = (0 : Int) ∧ (Z4 a ∧ (↑(lead 10 xs) : Int) = (↑(lead 10 xs) : Int) ∧ True) ∧ (ZF a.5
∧ True) ∧ True)))) ∧ ∀ (x38 : Unit), (lookN xs).3 = (0 : Int) → ∃ (x39 : KL), ((-1 ≤ x39.1 ∧ x39.1 ≤ (↑(lead 10 xs) : Int)) ∧ (lookN xs).3 = (0 : Int) ∧ x39.2 = (↑(valN (List.drop
(Int.toNat (x39.1 + (1 : Int))) (List.take (lead 10 xs + 1) xs))) : Int)) ∧ ((Z4 a ∧ (↑(lead 10 xs) : Int) = (↑(lead 10 xs) : Int) ∧ x39.2 = 0 ∧ x39.1 = (↑(lead 10 xs) : Int) ∧
True) ∧ (ZF a.5 ∧ True) ∧ True) ∧ ∀ (x40 : KL), (-1 ≤ x40.1 ∧ x40.1 ≤ (↑(lead 10 xs) : Int)) ∧ (lookN xs).3 = (0 : Int) ∧ x40.2 = (↑(valN (List.drop (Int.toNat (x40.1 + (1 : Int)))
(List.take (lead 10 xs + 1) xs))) : Int) → (0 ≤ x40.1 → ∀ x41, x41 = IntKind.wrap .u64 ((128 : Int) * x40.2) → (0 ≤ x40.1 ∧ x40.1 < (↑a.3 : Int)) ∧ ∀ (x42 : Nat), x42 = a.2 +
Int.toNat x40.1 * 1 → ∃ (x43 : Int), Rd a.5 (Nat.add x42 0) (Value.int IntKind.u8 x43) ∧ (128 : Int) ≠ (0 : Int) ∧ ∀ (x44 : Int), x44 = Int.tmod x43 (128 : Int) → ∀ x45, x45 =
IntKind.wrap .u64 x44 → ∀ x46, x46 = IntKind.wrap .u64 (x41 + x45) → ∀ x47, x47 = IntKind.wrap .i64 (x40.1 - (1 : Int)) → ∃ (x48 : KL), ((-1 ≤ x48.1 ∧ x48.1 ≤ (↑(lead 10 xs) :
Int)) ∧ (lookN xs).3 = (0 : Int) ∧ x48.2 = (↑(valN (List.drop (Int.toNat (x48.1 + (1 : Int))) (List.take (lead 10 xs + 1) xs))) : Int)) ∧ Int.toNat (x48.1 + (1 : Int)) < Int.toNat
(x40.1 + (1 : Int)) ∧ (Z4 a ∧ (↑(lead 10 xs) : Int) = (↑(lead 10 xs) : Int) ∧ x48.2 = x46 ∧ x48.1 = x47 ∧ True) ∧ (ZF a.5 ∧ True) ∧ True) ∧ (¬0 ≤ x40.1 → ∀ x49, x49 = IntKind.wrap
.i64 ((↑(lead 10 xs) : Int) + (1 : Int)) → ∃ (x50 : LR), (∀ (x51 : List Int), SB a.1 a.2 a.3 a.4 a.5 x51 → x50 = lookN x51) ∧ (x50.1 = x40.2 ∧ x50.2 = x49 ∧ x50.3 = 0 ∧ True) ∧
True)) := by kernel_rfl
theorem vc_unf1 (a : Int) : G_unf1 a = ((2 : Int) ≠ (0 : Int) ∧ ∀ (x0 : Int), x0 = Int.tmod a (2 : Int) → (x0 = (1 : Int) → (2 : Int) ≠ (0 : Int) ∧ ∀ x1, x1 = IntKind.wrap .u64 (Int.tdiv a (2 : Int)) → ∀ x2, x2 =
IntKind.wrap .i64 x1 → ∀ x3, x3 = IntKind.wrap .i64 ((0 : Int) - x2) → ∀ x4, x4 = IntKind.wrap .i64 (x3 - (1 : Int)) → ∃ (x5 : Unit), True ∧ unfI a = x4 ∧ True) ∧ (¬x0 = (1 : Int)
→ (2 : Int) ≠ (0 : Int) ∧ ∀ x6, x6 = IntKind.wrap .u64 (Int.tdiv a (2 : Int)) → ∀ x7, x7 = IntKind.wrap .i64 x6 → ∃ (x8 : Unit), True ∧ unfI a = x7 ∧ True)) := by kernel_rfl
theorem vc_rnum (a : RA) : G_rnum a = ((a.3 ≠ 0 → ∃ (x0 : RR), (∀ (x1 : List Int), RI a x1 → x0 = rdC x1 a.2 a.3 a.4) ∧ x0.3 = 0 ∧ (True ∧ (0 = 0 ∧ a.1.3 = a.1.3 ∧ a.1.4 = a.1.4) ∧ x0.1 = a.2 ∧ x0.2 = a.3 ∧ True) ∧ ZF
a.1.5 ∧ True) ∧ (¬a.3 ≠ 0 → ((0 ≤ a.2 ∧ a.2 ≤ (↑a.1.3 : Int) ∧ (↑a.1.3 : Int) ≤ (↑a.1.4 : Int)) ∧ (false = true → (↑a.1.3 : Int) ≤ (↑a.1.3 : Int) ∧ (a.2 = 0 ∨ a.2 < (↑a.1.4 :
Int)))) ∧ ∀ (x2 x3 x4 : Nat), (x2 = if SA.k (RA.s a) = Int.toNat (RA.at_ a) then 0 else 0 + Int.toNat a.2 * 1) → x3 = Int.toNat (↑a.1.3 : Int) - Int.toNat a.2 → x4 = a.1.4 -
Int.toNat a.2 → (True ∧ (∃ (x5 : List Int), SB false x2 x3 x4 a.1.5 x5 ∧ Byts8 x5) ∧ x3 ≤ 1000000) ∧ (((false = false ∧ x2 = x2 ∧ x3 = x3 ∧ x4 = x4) ∧ True) ∧ ZF a.1.5 ∧ True) ∧ (∀
(x6 : LR), (∀ (x7 : List Int), SB false x2 x3 x4 a.1.5 x7 → x6 = lookN x7) → (x6.3 ≠ 0 → (True ∧ True ∧ True ∧ True ∧ True ∧ True ∧ True ∧ True ∧ True ∧ True ∧ True ∧ True ∧ True ∧
True ∧ True ∧ True ∧ True) ∧ (x6.3 ≠ 0 → ∃ (x8 : RR), (∀ (x9 : List Int), RI a x9 → x8 = rdC x9 a.2 a.3 a.4) ∧ x8.3 = 0 ∧ (True ∧ (0 = 0 ∧ a.1.3 = a.1.3 ∧ a.1.4 = a.1.4) ∧ x8.1 =
a.2 ∧ x8.2 = x6.3 ∧ True) ∧ ZF a.1.5 ∧ True) ∧ (¬x6.3 ≠ 0 → ∀ x10, x10 = IntKind.wrap .i64 (a.2 + (0 : Int)) → ∃ (x11 : RR), (∀ (x12 : List Int), RI a x12 → x11 = rdC x12 a.2 a.3
a.4) ∧ x11.3 = 0 ∧ (True ∧ (0 = 0 ∧ a.1.3 = a.1.3 ∧ a.1.4 = a.1.4) ∧ x11.1 = x10 ∧ x11.2 = a.3 ∧ True) ∧ ZF a.1.5 ∧ True)) ∧ (¬x6.3 ≠ 0 → (a.4 < x6.1 → (True ∧ True ∧ True ∧ True ∧
True ∧ True ∧ True ∧ True ∧ True ∧ True ∧ True ∧ True ∧ True ∧ True ∧ True ∧ True ∧ True) ∧ ∃ (x13 : RR), (∀ (x14 : List Int), RI a x14 → x13 = rdC x14 a.2 a.3 a.4) ∧ x13.3 = 0 ∧
(True ∧ (0 = 0 ∧ a.1.3 = a.1.3 ∧ a.1.4 = a.1.4) ∧ x13.1 = a.2 ∧ x13.2 = 2 ∧ True) ∧ ZF a.1.5 ∧ True) ∧ (¬a.4 < x6.1 → (True ∧ True ∧ True ∧ True ∧ True ∧ True ∧ True ∧ True ∧ True
∧ True ∧ True ∧ True ∧ True ∧ True ∧ True ∧ True ∧ True) ∧ ∀ x15, x15 = IntKind.wrap .i64 (a.2 + x6.2) → ∃ (x16 : RR), (∀ (x17 : List Int), RI a x17 → x16 = rdC x17 a.2 a.3 a.4) ∧
x16.3 = x6.1 ∧ (True ∧ (0 = 0 ∧ a.1.3 = a.1.3 ∧ a.1.4 = a.1.4) ∧ x16.1 = x15 ∧ x16.2 = a.3 ∧ True) ∧ ZF a.1.5 ∧ True))) ∧ True)) := by kernel_rfl
theorem vc_rint (a : RA) : G_rint a = ((True ∧ (∃ (x0 : List Int), RI (RA.mk (SA.mk false 0 a.1.3 a.1.4 a.1.5) a.2 a.3 (18446744073709551615 : Int)) x0) ∧ (false = false ∧ nat_lit 0 = 0) ∧ a.1.3 ≤ 1000000) ∧ ((0 = 0 ∧
Int.ofNat 18446744073709551615 = (18446744073709551615 : Int) ∧ True) ∧ (True ∧ (0 = 0 ∧ a.1.3 = a.1.3 ∧ a.1.4 = a.1.4) ∧ a.2 = a.2 ∧ a.3 = a.3 ∧ True) ∧ ZF a.1.5 ∧ True) ∧ (∀ (x1
: RR), (∀ (x2 : List Int), RI (RA.mk (SA.mk false 0 a.1.3 a.1.4 a.1.5) a.2 a.3 (18446744073709551615 : Int)) x2 → x1 = rdC x2 a.2 a.3 (Int.ofNat 18446744073709551615)) → ∀ x3, x3 =
IntKind.wrap .u64 (bitsOf BinOp.and IntKind.u64 x1.3 (1 : Int)) → (x3 = (1 : Int) → (0 : Int) ≤ (1 : Int) ∧ ∀ (x4 : Int), x4 = Int.fdiv x1.3 (2 : Int) → ∀ x5, x5 = IntKind.wrap
.i64 x4 → ∀ x6, x6 = IntKind.wrap .i64 (bitsOf BinOp.xor IntKind.i64 (-1 : Int) x5) → ∃ (x7 : RR), (∀ (x8 : List Int), RI a x8 → x7 = rdC x8 a.2 a.3 a.4) ∧ unfI x7.3 = x6 ∧ (True ∧
(0 = 0 ∧ a.1.3 = a.1.3 ∧ a.1.4 = a.1.4) ∧ x7.1 = x1.1 ∧ x7.2 = x1.2 ∧ True) ∧ ZF a.1.5 ∧ True) ∧ (¬x3 = (1 : Int) → (0 : Int) ≤ (1 : Int) ∧ ∀ (x9 : Int), x9 = Int.fdiv x1.3 (2 :
Int) → ∀ x10, x10 = IntKind.wrap .i64 x9 → ∃ (x11 : RR), (∀ (x12 : List Int), RI a x12 → x11 = rdC x12 a.2 a.3 a.4) ∧ unfI x11.3 = x10 ∧ (True ∧ (0 = 0 ∧ a.1.3 = a.1.3 ∧ a.1.4 =
a.1.4) ∧ x11.1 = x1.1 ∧ x11.2 = x1.2 ∧ True) ∧ ZF a.1.5 ∧ True)) ∧ True) := by kernel_rfl
theorem Sli.rdD {k : IntKind} {nb : Bool} {o l kk : Nat} {c : List Value} {xs : List Int} (h : Sli (Value.int k) 1 nb o l kk c xs) {i : Nat} (hi : i < l) {p : Nat} (hp : p = o + i * 1) : Rd c (Nat.add p 0) (Value.int k (xs.getD i 0)) := by
  have hl := h.len
  have hi' : i < xs.length := by omega
  have := h.at_.get hi'
  rw [hp]
  show Rd c (o + i * 1) _
  rw [Nat.mul_one, getD_get hi']
  exact this
theorem byts_getD {xs : List Int} (hb : Byts8 xs) (i : Nat) : 0 ≤ xs.getD i 0 ∧ xs.getD i 0 ≤ 255 := by
  by_cases h : i < xs.length
  · rw [getD_get h]; exact hb _ (List.getElem_mem h)
  · have : xs.getD i 0 = 0 := by simp [List.getD, h]
    omega
theorem lookOut {nb : Bool} {o l k : Nat} {c : List Value} {xs : List Int} (hx : Sli (Value.int .u8) 1 nb o l k c xs) {n kk e : Int} (h : lookN xs = ⟨n, kk, e⟩) :
    ∃ x : LR, (∀ ys : List Int, Sli (Value.int .u8) 1 nb o l k c ys → x = lookN ys) ∧ (x.n = n ∧ x.k = kk ∧ x.e = e ∧ True) ∧ True :=
  ⟨lookN xs, fun ys hy => by rw [Sli.uniqI hy hx], by rw [h]; exact ⟨rfl, rfl, rfl, trivial⟩, trivial⟩
theorem g_num1 (a : SA) (xs : List Int) (hx : Sli (Value.int .u8) 1 a.n a.o a.l a.k a.c xs) (hb : Byts8 xs) (hl : a.l ≤ 1000000) : G_num1 a xs := by
  have hlen := hx.len
  rw [Nat.mul_one] at hlen
  have fl := hx.flat
  obtain ⟨l1, l2⟩ := lead_le 10 xs
  rw [vc_num1]
  refine ⟨⟨⟨0, 0⟩, ⟨⟨by decide, by show (0 : Int) ≤ min _ _; omega⟩, fun j hj => absurd hj (by simp)⟩, ?_, ?_⟩, fun _ _ => ⟨?_, fun _ h6 => ⟨?_, fun _ h8 => ?_⟩⟩⟩
  · repeat' first
      | with_reducible apply And.intro
      | exact trivial
      | exact rfl
      | assumption
  · rintro ⟨i, n⟩ ⟨⟨hi0, hi1⟩, hj⟩ x4 e4
    dsimp only at hi0 hi1 hj ⊢
    have exit : i.toNat ≤ 10 → (i.toNat < 10 → i.toNat < xs.length → xs.getD i.toNat 0 < 128) → ∃ (_ : Unit), True ∧ ((a.1 = a.1 ∧ a.2 = a.2 ∧ a.3 = a.3 ∧ a.4 = a.4) ∧ ((lead 10 xs : Nat) : Int) = i ∧ True) ∧ ((True ∧ FlatL a.5 ∧ a.5 = a.5) ∧ True) ∧ True := fun h1 h2 => by
      have := lead_eqD 10 xs i.toNat h1 hj (by omega) h2
      exact ⟨(), trivial, ⟨⟨rfl, rfl, rfl, rfl⟩, by omega, trivial⟩, ⟨⟨trivial, fl, rfl⟩, trivial⟩, trivial⟩
    refine ⟨fun hlt => ⟨fun h10 => ⟨⟨hi0, by omega⟩, fun p hp => ⟨_, Sli.rdD hx (i := i.toNat) (by omega) hp, fun hge z hz => ?_, fun hnge => exit (by omega) (fun _ _ => by omega)⟩⟩, fun h10 => exit (by omega) (fun h => by omega)⟩, fun hge => exit (by omega) (fun _ h => by omega)⟩
    rw [wrap_i64] at hz
    refine ⟨⟨z, 0⟩, ⟨⟨by show 0 ≤ z; omega, by show z ≤ min _ _; omega⟩, fun j hjz => ?_⟩, by show (10 - z).toNat < (10 - i).toNat; omega, ⟨⟨rfl, rfl, rfl, rfl⟩, rfl, trivial⟩, ⟨⟨trivial, fl, rfl⟩, trivial⟩, trivial⟩
    have hjz : j < z.toNat := hjz
    by_cases hji : j < i.toNat
    · exact hj j hji
    · rw [show j = i.toNat by omega]; exact hge
  · intro x14 e14
    have st : ¬ (lead 10 xs = a.l ∧ lead 10 xs < 10) → ∃ (_ : Unit), (lead 10 xs = a.3 ∧ lead 10 xs < 10 → False) ∧ ((a.1 = a.1 ∧ a.2 = a.2 ∧ a.3 = a.3 ∧ a.4 = a.4) ∧ ((lead 10 xs : Nat) : Int) = (lead 10 xs : Nat) ∧ True) ∧ ((True ∧ FlatL a.5 ∧ a.5 = a.5) ∧ True) ∧ True := fun h =>
      ⟨(), h, ⟨⟨rfl, rfl, rfl, rfl⟩, rfl, trivial⟩, ⟨⟨trivial, fl, rfl⟩, trivial⟩, trivial⟩
    refine ⟨fun he => ⟨fun h10 => lookOut hx (lookN_short ⟨by omega, by omega⟩), fun h10 => st (by omega)⟩, fun he => st (by omega)⟩
  · have h6' : ¬ (lead 10 xs = xs.length ∧ lead 10 xs < 10) := by rw [hlen]; exact h6
    have st : ¬ (lead 10 xs = 10 ∨ (0 < lead 10 xs ∧ xs.getD (lead 10 xs) 0 = 0) ∨ (lead 10 xs = 9 ∧ 1 < xs.getD 9 0)) → ∃ (_ : Unit), (lookN xs).3 = 0 ∧ ((a.1 = a.1 ∧ a.2 = a.2 ∧ a.3 = a.3 ∧ a.4 = a.4) ∧ ((lead 10 xs : Nat) : Int) = (lead 10 xs : Nat) ∧ True) ∧ ((True ∧ FlatL a.5 ∧ a.5 = a.5) ∧ True) ∧ True := fun h =>
      ⟨(), by rw [lookN_val h6' h], ⟨⟨rfl, rfl, rfl, rfl⟩, rfl, trivial⟩, ⟨⟨trivial, fl, rfl⟩, trivial⟩, trivial⟩
    have nine : lead 10 xs = 9 → ∀ p : Nat, p = a.2 + 9 → Rd a.5 (Nat.add p 0) (Value.int .u8 (xs.getD 9 0)) := fun h9 p hp => Sli.rdD hx (i := 9) (by omega) (by omega)
    refine ⟨fun h10 => lookOut hx (lookN_form h6' (.inl (by omega))), fun h10 => ⟨fun hp => ⟨⟨by omega, by omega⟩, fun p hp' => ⟨_, Sli.rdD hx (i := lead 10 xs) (by omega) (by rw [hp']; simp), fun hz => lookOut hx (lookN_form h6' (.inr (.inl ⟨by omega, hz⟩))), fun hz => ⟨fun h9 => ⟨⟨by decide, by omega⟩, fun q hq => ⟨_, nine (by omega) q hq, fun h1 => lookOut hx (lookN_form h6' (.inr (.inr ⟨by omega, h1⟩))), fun h1 => st ?_⟩⟩, fun h9 => st ?_⟩⟩⟩, fun hp => ⟨fun h9 => by omega, fun h9 => st ?_⟩⟩⟩
    · rintro (h | ⟨_, h⟩ | ⟨_, h⟩)
      · omega
      · exact hz h
      · exact h1 h
    · rintro (h | ⟨_, h⟩ | ⟨h, _⟩)
      · omega
      · exact hz h
      · omega
    · rintro (h | ⟨h, _⟩ | ⟨h, _⟩) <;> omega
  · obtain ⟨z1, z2, z3, z4, z5⟩ := lookN_zero h8
    obtain ⟨nn, n1, n2, _, _, _⟩ := lookN_ok hb h8
    have hnv : valN (xs.take (lead 10 xs + 1)) < 18446744073709551616 := by
      rw [z5] at n1
      have : ((valN (xs.take (lead 10 xs + 1)) : Nat) : Int) = nn := n1
      omega
    have htl : (xs.take (lead 10 xs + 1)).length = lead 10 xs + 1 := by rw [List.length_take]; omega
    refine ⟨⟨lead 10 xs, 0⟩, ⟨⟨by show (-1 : Int) ≤ ((lead 10 xs : Nat) : Int); omega, by show ((lead 10 xs : Nat) : Int) ≤ _; omega⟩, h8, ?_⟩, ⟨⟨⟨rfl, rfl, rfl, rfl⟩, rfl, rfl, rfl, trivial⟩, ⟨⟨trivial, fl, rfl⟩, trivial⟩, trivial⟩, ?_⟩
    · show (0 : Int) = ((valN (List.drop (((lead 10 xs : Nat) : Int) + 1).toNat (xs.take (lead 10 xs + 1))) : Nat) : Int)
      rw [List.drop_of_length_le (by rw [htl]; omega)]; rfl
    rintro ⟨i, n⟩ ⟨⟨hi0, hi1⟩, _, hn⟩
    dsimp only at hi0 hi1 hn ⊢
    refine ⟨fun hge x41 e41 => ⟨⟨hge, by omega⟩, fun p hp => ⟨_, Sli.rdD hx (i := i.toNat) (by omega) hp, by decide, fun x44 e44 x45 e45 x46 e46 x47 e47 => ?_⟩⟩, fun hlt x49 e49 => ?_⟩
    · have hbi := byts_getD hb i.toNat
      rw [tmod_pos hbi.1] at e44
      rw [wrap_u64] at e41 e45 e46
      rw [wrap_i64] at e47
      have hd := valN_drop (l := xs.take (lead 10 xs + 1)) (i := i.toNat) (by omega)
      have hle := valN_drop_le (xs.take (lead 10 xs + 1)) i.toNat
      have hg : (xs.take (lead 10 xs + 1)).getD i.toNat 0 = xs.getD i.toNat 0 := by
        simp only [List.getD, List.getElem?_take_of_lt (show i.toNat < lead 10 xs + 1 by omega)]
      rw [hg] at hd
      rw [show (i + 1).toNat = i.toNat + 1 by omega] at hn
      refine ⟨⟨x47, x46⟩, ⟨⟨by show -1 ≤ x47; omega, by show x47 ≤ _; omega⟩, h8, ?_⟩, by show (x47 + 1).toNat < (i + 1).toNat; omega, ⟨⟨rfl, rfl, rfl, rfl⟩, rfl, rfl, rfl, trivial⟩, ⟨⟨trivial, fl, rfl⟩, trivial⟩, trivial⟩
      show x46 = ((valN (List.drop (x47 + 1).toNat _) : Nat) : Int)
      rw [show (x47 + 1).toNat = i.toNat by omega]
      omega
    · rw [wrap_i64] at e49
      rw [show (i + 1).toNat = 0 by omega, List.drop_zero] at hn
      have h2 : x49 = ((lead 10 xs : Nat) : Int) + 1 := by omega
      exact lookOut hx (by rw [z5, h2, hn])
theorem s_num1 : SpecOK Tryz.prog S_num1.spec := fun a K hp hq => by
  obtain ⟨⟨xs, hx, hb⟩, hl⟩ := hp
  exact specD_at (an := [some (la_num1a a xs), some (la_num1b a xs), some (joins [(6, j_num1 a xs (¬ (lead 10 xs = a.l ∧ lead 10 xs < 10))), (8, j_num1 a xs ((lookN xs).e = 0))])]) envOK cw0_ok (fun _ => g_num1 a xs hx hb hl) K ⟨⟨xs, hx, hb⟩, hl⟩ hq
theorem and_127 {b x : Int} (hb : 0 ≤ b ∧ b ≤ 255) (hx : x = IntKind.wrap .u8 (bitsOf .and .u8 b 127)) : x = b % 128 := by
  obtain ⟨m, rfl⟩ := Int.eq_ofNat_of_zero_le hb.1
  have hm : m < 256 := by omega
  have key : bitsOf .and .u8 (m : Int) 127 = ((m &&& 127 : Nat) : Int) := by
    show (((BitVec.ofInt IntKind.u8.bits (m : Int) &&& BitVec.ofInt IntKind.u8.bits ((127 : Nat) : Int)).toNat : Nat) : Int) = _
    rw [BitVec.toNat_and, ofInt_nat (by show m < 256; omega), ofInt_nat (by decide)]
  have hall : ∀ k : Fin 256, k.val &&& 127 = k.val % 128 := by decide
  have h2 : m &&& 127 = m % 128 := hall ⟨m, hm⟩
  rw [key, h2, wrap_u8] at hx
  show x = (m : Int) % 128
  omega
theorem wrap_sm {x : Int} (h : -9223372036854775808 ≤ x ∧ x ≤ 9223372036854775807) : IntKind.wrap .i64 x = x := by rw [wrap_i64]; omega
theorem look_step {xs : List Int} (hb : Byts8 xs) {i n x8 x9 x10 x11 x12 : Int} (h0 : 0 ≤ i) (h9 : i ≤ 9) (hi : i.toNat < xs.length) (hn : n = valN (xs.take i.toNat)) (e8 : x8 = IntKind.wrap .u8 (bitsOf .and .u8 (xs.getD i.toNat 0) 127)) (e9 : x9 = IntKind.wrap .u64 x8) (e10 : x10 = IntKind.wrap .i64 (7 * i))
    (e11 : x11 = IntKind.wrap .u64 (x9 * 2 ^ min x10.toNat 64)) (e12 : x12 = IntKind.wrap .u64 (bitsOf .or .u64 n x11)) (hfit : valN (xs.take (i.toNat + 1)) < 18446744073709551616) : x12 = valN (xs.take (i.toNat + 1)) := by
  have hbi := byts_getD hb i.toNat
  have e8' := and_127 hbi e8
  rw [wrap_u64] at e9
  rw [wrap_sm (by omega)] at e10
  have e9' : x9 = xs.getD i.toNat 0 % 128 := by omega
  have hmin : min x10.toNat 64 = 7 * i.toNat := by omega
  have hpow : (2 : Nat) ^ (7 * i.toNat) = 128 ^ i.toNat := by rw [Nat.pow_mul]
  have hvt := valN_take (l := xs) (i := i.toNat) hi
  have hvl := valN_lt (xs.take i.toNat)
  rw [List.length_take, Nat.min_eq_left (by omega)] at hvl
  have hp2 : ((128 ^ i.toNat : Nat) : Int) = 2 ^ (7 * i.toNat) := by rw [← hpow]; push_cast; rfl
  have hsum : n + x9 * 2 ^ (7 * i.toNat) = valN (xs.take (i.toNat + 1)) := by
    rw [hvt, hn, e9', ← hp2]
    have e : ((xs.getD i.toNat 0).toNat % 128 : Nat) = ((xs.getD i.toNat 0) % 128).toNat := by have := hbi.1; omega
    rw [e]
    push_cast
    rw [Int.toNat_of_nonneg (by omega), Int.mul_comm]
  have hmul : (0 : Int) ≤ x9 * 2 ^ (7 * i.toNat) := Int.mul_nonneg (by omega) (Int.le_of_lt (Int.pow_pos (by decide)))
  have h11 : x11 = x9 * 2 ^ (7 * i.toNat) := by
    rw [hmin, wrap_u64] at e11
    rw [e11]
    exact Int.emod_eq_of_lt hmul (by omega)
  have hor := or_add (7 * i.toNat) n x9 ⟨by omega, by rw [hn, ← hp2]; omega⟩ (by omega) (by omega)
  rw [h11, hor, wrap_u64] at e12
  rw [e12, hsum]
  exact Int.emod_eq_of_lt (by omega) (by omega)
theorem g_look (a : SA) (xs : List Int) (hx : Sli (Value.int .u8) 1 a.n a.o a.l a.k a.c xs) (hb : Byts8 xs) (hl : a.l ≤ 1000000) : G_look a xs := by
  have hlen := hx.len
  rw [Nat.mul_one] at hlen
  have fl := hx.flat
  obtain ⟨l1, l2⟩ := lead_le 10 xs
  rw [vc_look]
  intro x0 e0 x1 e1
  refine ⟨⟨⟨0, 0⟩, ⟨⟨by decide, by show (0 : Int) ≤ min _ _; omega⟩, fun _ => rfl, fun j hj => absurd hj (by simp)⟩, ⟨⟨⟨rfl, rfl, rfl, rfl⟩, rfl, rfl, by rw [e1, e0], rfl, trivial⟩, ⟨⟨trivial, fl, rfl⟩, trivial⟩, trivial⟩, ?_⟩, ?_⟩
  · rintro ⟨i, n⟩ ⟨⟨hi0, hi1⟩, hn, hj⟩
    dsimp only at hi0 hi1 hn hj ⊢
    refine ⟨fun hlt => ⟨⟨hi0, by omega⟩, fun p hp => ⟨_, Sli.rdD hx (i := i.toNat) (by omega) hp, fun x8 e8 x9 e9 x10 e10 => ⟨by rw [e10, wrap_sm (by omega)]; omega, fun x11 e11 x12 e12 => ⟨⟨hi0, by omega⟩, fun q hq => ⟨_, Sli.rdD hx (i := i.toNat) (by omega) hq, fun hlt128 => ?_, fun hge128 z hz => ?_⟩⟩⟩⟩⟩, fun hge => ?_⟩
    · have hle := lead_eqD 10 xs i.toNat (by omega) hj (by omega) (fun _ _ => by omega)
      refine ⟨⟨i, x12⟩, .inr ⟨by show i = _; omega, by omega, fun hz => ?_⟩, ⟨⟨rfl, rfl, rfl, rfl⟩, rfl, rfl, trivial⟩, ⟨⟨trivial, fl, rfl⟩, trivial⟩, trivial⟩
      obtain ⟨nn, n1, n2, _, _, _⟩ := lookN_ok hb hz
      obtain ⟨_, _, _, _, z5⟩ := lookN_zero hz
      rw [z5] at n1
      have n1 : ((valN (xs.take (lead 10 xs + 1)) : Nat) : Int) = nn := n1
      show x12 = _
      rw [hle] at n1 ⊢
      exact look_step hb hi0 (by omega) (by omega) (hn (by omega)) e8 e9 e10 e11 e12 (by omega)
    · rw [wrap_i64] at hz
      refine ⟨⟨z, x12⟩, ⟨⟨by show 0 ≤ z; omega, by show z ≤ min _ _; omega⟩, fun h9 => ?_, fun j hjz => ?_⟩, by show (10 - z).toNat < (10 - i).toNat; omega, ⟨⟨rfl, rfl, rfl, rfl⟩, rfl, rfl, rfl, rfl, trivial⟩, ⟨⟨trivial, fl, rfl⟩, trivial⟩, trivial⟩
      · have h9 : z ≤ 9 := h9
        show x12 = ((valN (xs.take z.toNat) : Nat) : Int)
        rw [show z.toNat = i.toNat + 1 by omega]
        refine look_step hb hi0 (by omega) (by omega) (hn (by omega)) e8 e9 e10 e11 e12 (Nat.lt_of_lt_of_le (valN_lt _) ?_)
        rw [List.length_take]
        exact Nat.le_trans (Nat.pow_le_pow_right (by omega) (show _ ≤ 9 by omega)) (by decide)
      · have hjz : j < z.toNat := hjz
        by_cases hji : j < i.toNat
        · exact hj j hji
        · rw [show j = i.toNat by omega]; omega
    · have hle := lead_eqD 10 xs i.toNat (by omega) hj (by omega) (fun h1 h2 => by omega)
      exact ⟨⟨-1, n⟩, .inl ⟨rfl, by omega⟩, ⟨⟨rfl, rfl, rfl, rfl⟩, rfl, rfl, trivial⟩, ⟨⟨trivial, fl, rfl⟩, trivial⟩, trivial⟩
  · rintro ⟨i, n⟩ hJ
    dsimp only at hJ ⊢
    refine ⟨⟨fun hneg x21 e21 => ?_, fun hpos => ⟨fun h => absurd h hpos, fun _ => ?_⟩⟩, ?_⟩
    · have hlm : lead 10 xs = min a.l 10 := by rcases hJ with ⟨_, h⟩ | ⟨h, _⟩ <;> omega
      refine ⟨fun h10 => lookOut hx (lookN_short ⟨by omega, by omega⟩), fun h10 => ⟨fun _ => lookOut hx (lookN_form (by omega) (.inl (by omega))), fun h => absurd hneg h⟩⟩
    · obtain ⟨h1, h2, h3⟩ : i = lead 10 xs ∧ lead 10 xs < min a.l 10 ∧ ((lookN xs).e = 0 → n = valN (xs.take (lead 10 xs + 1))) := by
        rcases hJ with ⟨h, _⟩ | h
        · omega
        · exact h
      have h6' : ¬ (lead 10 xs = xs.length ∧ lead 10 xs < 10) := by omega
      have st : ¬ (lead 10 xs = 10 ∨ (0 < lead 10 xs ∧ xs.getD (lead 10 xs) 0 = 0) ∨ (lead 10 xs = 9 ∧ 1 < xs.getD 9 0)) → ∃ x : KL, (x.1 = (lead 10 xs : Nat) ∧ (lookN xs).3 = 0 ∧ x.2 = (valN (xs.take (lead 10 xs + 1)) : Nat)) ∧ ((a.1 = a.1 ∧ a.2 = a.2 ∧ a.3 = a.3 ∧ a.4 = a.4) ∧ x.2 = n ∧ x.1 = i ∧ True) ∧ ((True ∧ FlatL a.5 ∧ a.5 = a.5) ∧ True) ∧ True := fun h => by
        have hz : (lookN xs).e = 0 := by rw [lookN_val h6' h]
        exact ⟨⟨i, n⟩, ⟨h1, hz, h3 hz⟩, ⟨⟨rfl, rfl, rfl, rfl⟩, rfl, rfl, trivial⟩, ⟨⟨trivial, fl, rfl⟩, trivial⟩, trivial⟩
      have hi' : i.toNat = lead 10 xs := by clear st; omega
      refine ⟨fun hp => ⟨⟨by clear st; omega, by clear st; omega⟩, fun p hp' => ⟨_, Sli.rdD hx (i := i.toNat) (by clear st; omega) hp', fun hz => lookOut hx (lookN_form h6' (.inr (.inl ⟨by clear st; omega, by rw [← hi']; exact hz⟩))), fun hz => ⟨fun h9 => ⟨⟨by clear st; omega, by clear st; omega⟩, fun q hq => ⟨_, Sli.rdD hx (i := i.toNat) (by clear st; omega) hq, fun hb1 => lookOut hx (lookN_form h6' (.inr (.inr ⟨by clear st; omega, by rw [show (9 : Nat) = i.toNat by clear st; omega]; exact hb1⟩))), fun hb1 => st ?_⟩⟩, fun h9 => st ?_⟩⟩⟩, fun hp => ⟨fun h9 => by clear st; omega, fun h9 => st ?_⟩⟩
      · rintro (h | ⟨_, h⟩ | ⟨_, h⟩)
        · clear st; omega
        · exact hz (by rw [hi']; exact h)
        · exact hb1 (by rw [show i.toNat = 9 by clear st; omega]; exact h)
      · rintro (h | ⟨_, h⟩ | ⟨h, _⟩)
        · clear st; omega
        · exact hz (by rw [hi']; exact h)
        · clear st; omega
      · rintro (h | ⟨h, _⟩ | ⟨h, _⟩) <;> (clear st; omega)
    · rintro ⟨j, m⟩ ⟨h1, h2, h3⟩ z hz
      dsimp only at h1 h2 h3 hz ⊢
      rw [wrap_i64] at hz
      obtain ⟨z1, z2, z3, z4, z5⟩ := lookN_zero h2
      have h4 : z = ((lead 10 xs : Nat) : Int) + 1 := by omega
      exact lookOut hx (by rw [z5, h4, h3])
theorem s_look : SpecOK Tryz.prog S_look.spec := fun a K hp hq => by
  obtain ⟨⟨xs, hx, hb⟩, hl⟩ := hp
  exact specD_at (an := [some (la_look a xs), some (joins [(16, j_look a xs)])]) envOK cw0_ok (fun _ => g_look a xs hx hb hl) K ⟨⟨xs, hx, hb⟩, hl⟩ hq
theorem rdC_ne {bs : List Int} {p e m : Int} (h : e ≠ 0) : rdC bs p e m = ⟨p, e, 0⟩ := by unfold rdC; rw [if_pos h]
theorem rdC_bad {bs : List Int} {p e m : Int} (h : ¬ e ≠ 0) (h2 : (lookN (bs.drop p.toNat)).e ≠ 0) : rdC bs p e m = ⟨p, (lookN (bs.drop p.toNat)).e, 0⟩ := by unfold rdC; rw [if_neg h, if_pos h2]
theorem rdC_big {bs : List Int} {p e m : Int} (h : ¬ e ≠ 0) (h2 : ¬ (lookN (bs.drop p.toNat)).e ≠ 0) (h3 : m < (lookN (bs.drop p.toNat)).n) : rdC bs p e m = ⟨p, 2, 0⟩ := by unfold rdC; rw [if_neg h, if_neg h2, if_pos h3]
theorem rdC_ok {bs : List Int} {p e m : Int} (h : ¬ e ≠ 0) (h2 : ¬ (lookN (bs.drop p.toNat)).e ≠ 0) (h3 : ¬ m < (lookN (bs.drop p.toNat)).n) : rdC bs p e m = ⟨p + (lookN (bs.drop p.toNat)).k, 0, (lookN (bs.drop p.toNat)).n⟩ := by unfold rdC; rw [if_neg h, if_neg h2, if_neg h3]
theorem byts_drop {bs : List Int} (h : Byts8 bs) (n : Nat) : Byts8 (bs.drop n) := fun b hb => h b (List.mem_of_mem_drop hb)
theorem look_in {bs : List Int} (hb : Byts8 bs) {p : Int} (hp : 0 ≤ p) (hp2 : p ≤ bs.length) (h : ¬ (lookN (bs.drop p.toNat)).e ≠ 0) : 0 ≤ (lookN (bs.drop p.toNat)).n ∧ (lookN (bs.drop p.toNat)).n < 18446744073709551616 ∧ 0 < (lookN (bs.drop p.toNat)).k ∧ p + (lookN (bs.drop p.toNat)).k ≤ bs.length := by
  obtain ⟨n, h1, h2, h3, h4, _⟩ := lookN_ok (byts_drop hb p.toNat) (Decidable.not_not.1 h)
  have := num_pos n
  rw [List.length_drop] at h4
  omega
theorem rdC_in {bs : List Int} (hb : Byts8 bs) {p e m : Int} (hp : 0 ≤ p) (hp2 : p ≤ bs.length) (hm : 0 ≤ m) : 0 ≤ (rdC bs p e m).n ∧ (rdC bs p e m).n ≤ m ∧ 0 ≤ (rdC bs p e m).at_ ∧ (rdC bs p e m).at_ ≤ bs.length := by
  by_cases h1 : e ≠ 0
  · rw [rdC_ne h1]; exact ⟨Int.le_refl _, hm, hp, hp2⟩
  by_cases h2 : (lookN (bs.drop p.toNat)).e ≠ 0
  · rw [rdC_bad h1 h2]; exact ⟨Int.le_refl _, hm, hp, hp2⟩
  by_cases h3 : m < (lookN (bs.drop p.toNat)).n
  · rw [rdC_big h1 h2 h3]; exact ⟨Int.le_refl _, hm, hp, hp2⟩
  · obtain ⟨k1, k2, k3, k4⟩ := look_in hb hp hp2 h2
    rw [rdC_ok h1 h2 h3]
    refine ⟨k1, by show (lookN _).n ≤ m; omega, by show 0 ≤ p + _; omega, k4⟩
theorem RI.uniq {a : RA} {xs ys : List Int} (h : RI a xs) (g : RI a ys) : xs = ys := Sli.uniqI h.sl g.sl
theorem RI.len {a : RA} {xs : List Int} (h : RI a xs) : xs.length = a.s.l := by have := h.sl.len; omega
theorem Sli.dropW {k : IntKind} {o l kk : Nat} {c : List Value} {xs : List Int} (h : Sli (Value.int k) 1 false o l kk c xs) {i p q r : Nat} (hi : i ≤ l) (hp : p = if kk = i then o else o + i * 1) (hq : q = l - i) (hr : r = kk - i) : Sli (Value.int k) 1 false p q r c (xs.drop i) := by
  have hl := h.len
  have hc := h.cap
  have hf := h.fit rfl
  refine ⟨fun j x hx => ?_, by rw [List.length_drop]; omega, (fun h => nomatch h), fun _ => ?_, by omega, h.flat⟩
  · have hj : j < (xs.drop i).length := (List.getElem?_eq_some_iff.1 hx).1
    rw [List.length_drop] at hj
    rw [List.getElem?_drop] at hx
    have := h.at_ (i + j) x hx
    rw [hp, if_neg (by omega), Nat.mul_one, Nat.add_assoc]; exact this
  · rw [hp]; split <;> omega
theorem cwN_ok {s : CW → CW} (hs : ∀ cw, CwOK Tryz.prog cw → CwOK Tryz.prog (s cw)) : ∀ n, CwOK Tryz.prog (cwN s n) := by
  intro n
  induction n with
  | zero => exact cw0_ok
  | succ n ih => exact hs _ (cw_fn envOK ih)
theorem g_unf1 (a : Int) (hp : 0 ≤ a ∧ a < 18446744073709551616) : G_unf1 a := by
  rw [vc_unf1]
  refine ⟨by decide, fun x0 e0 => ⟨fun h1 => ⟨by decide, fun x1 e1 x2 e2 x3 e3 x4 e4 => ⟨(), trivial, ?_, trivial⟩⟩, fun h1 => ⟨by decide, fun x6 e6 x7 e7 => ⟨(), trivial, ?_, trivial⟩⟩⟩⟩
  all_goals rw [tmod_pos hp.1] at e0
  · rw [tdiv_pos hp.1, wrap_u64] at e1
    rw [wrap_sm (by omega)] at e2
    rw [wrap_sm (by omega)] at e3
    rw [wrap_sm (by omega)] at e4
    unfold unfI; rw [if_pos (by omega)]; omega
  · rw [tdiv_pos hp.1, wrap_u64] at e6
    rw [wrap_sm (by omega)] at e7
    unfold unfI; rw [if_neg (by omega)]; omega
theorem s_unf1 : SpecOK Tryz.prog S_unf1.spec := fun a => specD_at (an := []) envOK cw0_ok fun hp => g_unf1 a hp.1
theorem g_rnum (a : RA) (xs : List Int) (h : RI a xs) (hn : a.s.n = false) (ho : a.s.o = 0) (hl : a.s.l ≤ 1000000) : G_rnum a := by
  have hlen := h.len
  have h0 := h.at0
  have h1 := h.at1
  have fl := h.sl.flat
  have hcap := h.sl.cap
  have q : ∀ {r : RR}, rdC xs a.at_ a.e a.m = r → ∀ ys : List Int, RI a ys → r = rdC ys a.at_ a.e a.m := fun e ys hy => by rw [hy.uniq h]; exact e.symm
  have hs : Sli (Value.int .u8) 1 false 0 a.s.l a.s.k a.s.c xs := by have := h.sl; rw [hn, ho] at this; exact this
  rw [vc_rnum]
  refine ⟨fun he => ⟨_, q (rdC_ne he), rfl, ⟨trivial, ⟨rfl, rfl, rfl⟩, rfl, rfl, trivial⟩, ⟨trivial, fl, rfl⟩, trivial⟩, fun he => ⟨⟨⟨h0, h1, by omega⟩, fun h => by cases h⟩, fun p l' k' hp hl' hk' => ?_⟩⟩
  have hw := Sli.dropW hs (i := a.at_.toNat) (p := p) (q := l') (r := k') (by omega) hp (by omega) hk'
  refine ⟨⟨trivial, ⟨_, hw, byts_drop h.by_ _⟩, by omega⟩, ⟨⟨⟨rfl, rfl, rfl, rfl⟩, trivial⟩, ⟨trivial, fl, rfl⟩, trivial⟩, fun y hy => ?_, trivial⟩
  have hy := hy _ hw
  subst hy
  refine ⟨fun hz => ⟨?_, fun _ => ⟨_, q (rdC_bad he hz), rfl, ⟨trivial, ⟨rfl, rfl, rfl⟩, rfl, rfl, trivial⟩, ⟨trivial, fl, rfl⟩, trivial⟩, fun h => absurd hz h⟩, fun hz => ⟨fun hm => ⟨?_, ⟨_, q (rdC_big he hz hm), rfl, ⟨trivial, ⟨rfl, rfl, rfl⟩, rfl, rfl, trivial⟩, ⟨trivial, fl, rfl⟩, trivial⟩⟩, fun hm => ⟨?_, fun z hz' => ?_⟩⟩⟩
  · repeat' first
      | with_reducible apply And.intro
      | exact trivial
  · repeat' first
      | with_reducible apply And.intro
      | exact trivial
  · repeat' first
      | with_reducible apply And.intro
      | exact trivial
  · obtain ⟨k1, k2, k3, k4⟩ := look_in h.by_ h0 (by omega) hz
    rw [wrap_sm (by omega)] at hz'
    exact ⟨_, q (rdC_ok he hz hm), rfl, ⟨trivial, ⟨rfl, rfl, rfl⟩, hz'.symm, by show (0 : Int) = a.e; omega, trivial⟩, ⟨trivial, fl, rfl⟩, trivial⟩
theorem s_rnum : SpecOK Tryz.prog S_rnum.spec := fun a K hp hq => by
  obtain ⟨⟨xs, h⟩, ⟨hn, ho⟩, hl⟩ := hp
  exact specD_at (an := []) envOK (cwN_ok (fun _ h => cwD_ok s_look h) 3) (fun _ => g_rnum a xs h hn ho hl) K ⟨⟨xs, h⟩, ⟨hn, ho⟩, hl⟩ hq
theorem and_1 {n x : Int} (h0 : 0 ≤ n) (h1 : n < 18446744073709551616) (hx : x = IntKind.wrap .u64 (bitsOf .and .u64 n 1)) : x = n % 2 := by
  obtain ⟨m, rfl⟩ := Int.eq_ofNat_of_zero_le h0
  have key : bitsOf .and .u64 (m : Int) 1 = ((m &&& 1 : Nat) : Int) := by
    show (((BitVec.ofInt IntKind.u64.bits (m : Int) &&& BitVec.ofInt IntKind.u64.bits ((1 : Nat) : Int)).toNat : Nat) : Int) = _
    rw [BitVec.toNat_and, ofInt_nat (by show m < 18446744073709551616; omega), ofInt_nat (by decide)]
  rw [key, Nat.and_one_is_mod, wrap_u64] at hx
  omega
theorem xor_pos {n : Int} (h0 : 0 ≤ n) (h1 : n ≤ 9223372036854775807) : IntKind.wrap .i64 (bitsOf .xor .i64 (-1) n) = -n - 1 := by
  obtain ⟨m, rfl⟩ := Int.eq_ofNat_of_zero_le h0
  have hb : (BitVec.ofInt 64 (-1) ^^^ BitVec.ofInt 64 (m : Int)).toNat = 18446744073709551615 - m := by
    have h2 : BitVec.ofInt 64 (-1) = BitVec.allOnes 64 := by decide
    rw [h2, BitVec.allOnes_xor, BitVec.toNat_not, ofInt_nat (by omega)]
  show IntKind.wrap .i64 (((BitVec.ofInt 64 (-1) ^^^ BitVec.ofInt 64 (m : Int)).toNat : Nat) : Int) = _
  rw [hb, wrap_i64]
  omega
theorem g_rint (a : RA) (xs : List Int) (h : RI a xs) (hn : a.s.n = false) (ho : a.s.o = 0) (hm : a.m = 18446744073709551615) (hl : a.s.l ≤ 1000000) : G_rint a := by
  have fl := h.sl.flat
  have hri : RI ⟨⟨false, 0, a.s.l, a.s.k, a.s.c⟩, a.at_, a.e, 18446744073709551615⟩ xs := ⟨by have := h.sl; rw [hn, ho] at this; exact this, h.by_, h.at0, h.at1, by show (0 : Int) ≤ 18446744073709551615; decide, by show (18446744073709551615 : Int) < 18446744073709551616; decide⟩
  rw [vc_rint]
  refine ⟨⟨trivial, ⟨xs, hri⟩, ⟨rfl, rfl⟩, hl⟩, ⟨⟨rfl, rfl, trivial⟩, ⟨trivial, ⟨rfl, rfl, rfl⟩, rfl, rfl, trivial⟩, ⟨trivial, fl, rfl⟩, trivial⟩, fun r hr x3 e3 => ?_, trivial⟩
  have hr : r = rdC xs a.at_ a.e a.m := by rw [hm]; exact hr xs hri
  obtain ⟨i1, i2, _, _⟩ := rdC_in (e := a.e) h.by_ h.at0 (by rw [h.len]; exact h.at1) h.m0
  rw [← hr, hm] at i2
  rw [← hr] at i1
  have e3 := and_1 i1 (by omega) e3
  have q : ∀ ys : List Int, RI a ys → r = rdC ys a.at_ a.e a.m := fun ys hy => by rw [hy.uniq h]; exact hr
  refine ⟨fun h1 => ⟨by decide, fun x4 e4 x5 e5 x6 e6 => ⟨r, q, ?_, ⟨trivial, ⟨rfl, rfl, rfl⟩, rfl, rfl, trivial⟩, ⟨trivial, fl, rfl⟩, trivial⟩⟩, fun h1 => ⟨by decide, fun x9 e9 x10 e10 => ⟨r, q, ?_, ⟨trivial, ⟨rfl, rfl, rfl⟩, rfl, rfl, trivial⟩, ⟨trivial, fl, rfl⟩, trivial⟩⟩⟩
  · rw [fdiv_pos _ _ (by decide)] at e4
    rw [wrap_sm (by omega)] at e5
    rw [xor_pos (by omega) (by omega)] at e6
    unfold unfI; rw [if_pos (by omega)]; omega
  · rw [fdiv_pos _ _ (by decide)] at e9
    rw [wrap_sm (by omega)] at e10
    unfold unfI; rw [if_neg (by omega)]; omega
theorem s_rint : SpecOK Tryz.prog S_rint.spec := fun a K hp hq => by
  obtain ⟨⟨xs, h⟩, ⟨hn, ho, hm⟩, hl⟩ := hp
  exact specD_at (an := []) envOK (cwD_ok s_rnum cw0_ok) (fun _ => g_rint a xs h hn ho hm hl) K ⟨⟨xs, h⟩, ⟨hn, ho, hm⟩, hl⟩ hq
end Go.Proofs.YtalbjjimnhldfaaGreatDoor
end
