/- The machine: a step is what is told of it (the proof). -/
import Derived.Test.YtdjnipabfbblnaaGreatDoorYmsP
set_option maxRecDepth 100000
namespace Go.Proofs.YtdjnipabfbblnaaGreatDoor
open Go.Ev
set_option linter.unusedSectionVars false
variable [Go.Ev.Frozen Tryz.prog]
theorem insCell {c : List Value} {cs : List Int} {n : Bool} {o l k : Nat} (h : Sli (Value.int .i64) 4 n o l k c cs) {p : Int} {x8 j : Nat} (h0 : 0 ≤ p) (h1 : p < l) (e : x8 = o + Int.toNat p * 4) (hj : j < 4) : Rd c (Nat.add x8 j) (.int .i64 (cs.getD (4 * p.toNat + j) 0)) := by
  have hlen := h.len
  have hl : 4 * p.toNat + j < cs.length := by omega
  have := h.at_ (4 * p.toNat + j) (cs.getD (4 * p.toNat + j) 0) (by simp [List.getD, hl])
  rw [show Nat.add x8 j = o + (4 * p.toNat + j) by show x8 + j = _; omega]
  exact this
set_option maxHeartbeats 6400000 in
theorem g_step (a : StA) (xs cs : List Int) (hx : HE .i32 a.c xs) (hl : xs.length = a.l) (hw : W32 xs) (hb : 1 ≤ a.l ∧ a.l ≤ 256) (hc : Sli (Value.int .i64) 4 a.s.n a.s.o a.s.l a.s.k a.s.c cs) (hp : 0 ≤ a.pc ∧ a.pc ≤ 2048) : G_step a xs cs := by
  have fl := heFlat hx
  have fc := hc.flat
  have fo := opsFlat
  have hclen := hx.len
  have hcs : cs.length / 4 = a.s.l := by have := hc.len; omega
  have hokd : okAt cs ⟨a.pc, xs, a.halt⟩ ↔ a.s.l ≤ 2048 ∧ a.pc < (a.s.l : Int) ∧ rightP (a.s.l : Int) (a.l : Int) (insAt cs a.pc.toNat) := by unfold okAt; rw [hcs, hl]
  have STQ : ∀ (x : StO) (m : List Int), stepC cs ⟨a.pc, xs, a.halt⟩ = ⟨x.pc, m, x.halt⟩ → HE .i32 x.c m → ∀ ys ds : List Int, HE .i32 a.c ys → ys.length = a.l → W32 ys → Sli (Value.int .i64) 4 a.s.n a.s.o a.s.l a.s.k a.s.c ds →
      HE .i32 x.c (stepC ds ⟨a.pc, ys, a.halt⟩).mem ∧ x.pc = (stepC ds ⟨a.pc, ys, a.halt⟩).pc ∧ x.halt = (stepC ds ⟨a.pc, ys, a.halt⟩).halt := fun x m h1 h2 ys ds hy _ _ hd => by
    rw [heUniq hy hx, Sli.uniqI hd hc, h1]; exact ⟨h2, rfl, rfl⟩
  have WR : ∀ {c' : List Value} {i z : Int} {n : Nat}, c' = lput a.c n [tgI .i32 z] → n = 0 + Int.toNat i * 1 → (0 ≤ i ∧ i < (a.l : Int)) → HE .i32 c' (xs.set i.toNat z) := fun h1 h2 h3 => wrm hx h2 h3.1 (by rw [hl]; exact h3.2) h1
  have WU : ∀ {c' : List Value} {i z : Int} {n : Nat}, c' = lput a.c n [Value.int .i32 z] → n = 0 + Int.toNat i * 1 → (0 ≤ i ∧ i < (a.l : Int)) → HE .i32 c' (xs.set i.toNat z) := fun h1 h2 h3 => wrm2 hx h2 h3.1 (by rw [hl]; exact h3.2) h1
  have RDM : ∀ {i : Int} {n : Nat}, n = 0 + Int.toNat i * 1 → (0 ≤ i ∧ i < (a.l : Int)) → Rd a.c (Nat.add n 0) (.int .i32 (xs.getD i.toNat 0)) := fun h1 h2 => rdm hx h1 h2.1 (by rw [hl]; exact h2.2)
  have LEN : ∀ {i : Int} {n : Nat}, n = 0 + Int.toNat i * 1 → (0 ≤ i ∧ i < (a.l : Int)) → n + 1 ≤ a.c.length := fun h1 h2 => by omega
  have SM : ∀ {i z : Int}, z = IntKind.wrap .i64 (xs.getD i.toNat 0) → (0 ≤ i ∧ i < (a.l : Int)) → z = xs.getD i.toNat 0 := fun h1 h2 => by
    have := hw _ (memD h2.1 (by rw [hl]; exact h2.2))
    rw [h1, wrap_sm (by omega)]
  have bad : ¬ okAt cs ⟨a.pc, xs, a.halt⟩ → stepC cs ⟨a.pc, xs, a.halt⟩ = ⟨a.pc, xs, 2⟩ := fun h => step_bad h
  rw [vc_step]
  intro x0 e0
  refine ⟨fun h => ⟨by repeat' first | with_reducible apply And.intro | exact trivial | exact rfl | assumption, ⟨a.pc, 2, a.c⟩, STQ _ _ (bad fun k => by have := (hokd.1 k).1; omega) hx, by repeat' first | with_reducible apply And.intro | exact trivial | exact rfl | assumption⟩, fun h x4 e4 => ⟨fun h4 => ⟨by repeat' first | with_reducible apply And.intro | exact trivial | exact rfl | assumption, ⟨a.pc, 2, a.c⟩, STQ _ _ (bad fun k => by have := (hokd.1 k).2.1; omega) hx, by repeat' first | with_reducible apply And.intro | exact trivial | exact rfl | assumption⟩, fun h4 => ?_⟩⟩
  have hpl : a.pc < (a.s.l : Int) := by omega
  obtain ⟨o, A, B, C, hi, R0, R1, R2, R3⟩ : ∃ o A B C : Int, insAt cs a.pc.toNat = ⟨o, A, B, C⟩ ∧ (∀ {x8 : Nat}, x8 = a.s.o + Int.toNat a.pc * 4 → Rd a.s.c (Nat.add x8 0) (.int .i64 o)) ∧ (∀ {x8 : Nat}, x8 = a.s.o + Int.toNat a.pc * 4 → Rd a.s.c (Nat.add x8 1) (.int .i64 A)) ∧ (∀ {x8 : Nat}, x8 = a.s.o + Int.toNat a.pc * 4 → Rd a.s.c (Nat.add x8 2) (.int .i64 B)) ∧ (∀ {x8 : Nat}, x8 = a.s.o + Int.toNat a.pc * 4 → Rd a.s.c (Nat.add x8 3) (.int .i64 C)) :=
    ⟨_, _, _, _, rfl, fun e => insCell hc hp.1 hpl e (by decide), fun e => insCell hc hp.1 hpl e (by decide), fun e => insCell hc hp.1 hpl e (by decide), fun e => insCell hc hp.1 hpl e (by decide)⟩
  refine ⟨⟨hp.1, by omega⟩, fun x8 e8 => ⟨o, R0 e8, A, R1 e8, B, R2 e8, C, R3 e8, fun x13 e13 x14 e14 => ⟨⟨trivial, trivial⟩, by repeat' first | with_reducible apply And.intro | exact trivial | exact rfl | assumption, fun _ hr0 => ?_, fun _ hr0 => ?_, trivial⟩⟩⟩
  case' refine_2 =>
    have hr : ¬ rightP x13 x14 ⟨o, A, B, C⟩ := hr0
    rw [e13, e14] at hr
    exact ⟨by repeat' first | with_reducible apply And.intro | exact trivial | exact rfl | assumption, ⟨a.pc, 2, a.c⟩, STQ _ _ (bad fun k => hr (hi ▸ (hokd.1 k).2.2)) hx, by repeat' first | with_reducible apply And.intro | exact trivial | exact rfl | assumption⟩
  have hr : rightP (a.s.l : Int) (a.l : Int) ⟨o, A, B, C⟩ := by rw [← e13, ← e14]; exact hr0
  have hok : okAt cs ⟨a.pc, xs, a.halt⟩ := hokd.2 ⟨by omega, hpl, by rw [hi]; exact hr⟩
  have hiM : insAt cs (MS.pc ⟨a.pc, xs, a.halt⟩).toNat = ⟨o, A, B, C⟩ := hi
  have ho : 0 ≤ o ∧ o < 22 := hr.1
  have hpM : 0 ≤ (MS.mk a.pc xs a.halt).pc ∧ (MS.mk a.pc xs a.halt).pc ≤ 2048 := hp
  have RA := fun h0 h1 h2 h3 => regA hr h0 h1 h2 h3
  have RB := fun h0 h1 h2 h3 => regB hr h0 h1 h2 h3
  have RC := fun h0 h1 h2 => regC hr h0 h1 h2
  refine ⟨by repeat' first | with_reducible apply And.intro | exact trivial | exact rfl | assumption, ⟨hp.1, hpl⟩, fun x16 e16 => ⟨o, R0 e16, A, R1 e16, B, R2 e16, C, R3 e16, ⟨trivial, ⟨xs, hx, hl, hw⟩, hb.2, fun h15 => RC (by omega) (by omega) (by omega), fun h16 => RB (by omega) (by omega) (by omega) (by omega)⟩, by repeat' first | with_reducible apply And.intro | exact trivial | exact rfl | assumption, fun x22 e22 => ?_, trivial⟩⟩
  obtain ⟨f⟩ := x22
  have hf : f = farC ⟨o, A, B, C⟩ xs := e22 xs hx hl
  subst hf
  clear e22 hr0
  dsimp only
  generalize hF : farC ⟨o, A, B, C⟩ xs = f at *
  have FAR : ¬ f < 0 → 0 ≤ f ∧ f < (a.l : Int) := fun h => by
    have := farC_in (i := ⟨o, A, B, C⟩) (m := xs) (by rw [hF]; exact h)
    rw [hF, hl] at this; exact this
  have HFn : (f < 0 → o ≠ 15 ∧ o ≠ 16) → ¬ (farC ⟨o, A, B, C⟩ (MS.mk a.pc xs a.halt).mem < 0 ∧ (o = 15 ∨ o = 16)) := fun h k => by
    have k1 : f < 0 := by rw [← hF]; exact k.1
    have := h k1
    rcases k.2 with e | e <;> omega
  have ST15 : o = 15 → storeC ⟨o, A, B, C⟩ xs = some (A, xs.getD f.toNat 0) := fun h => by rw [← hF]; exact st15 h
  have ST16 : o = 16 → storeC ⟨o, A, B, C⟩ xs = some (f, xs.getD C.toNat 0) := fun h => by rw [← hF]; exact st16 h
  have ST17 : ∀ {p q r z : Int}, o = 17 → p = IntKind.wrap .i32 B → q = max (xs.getD A.toNat 0) p → r = IntKind.wrap .i32 C → z = min q r → storeC ⟨o, A, B, C⟩ xs = some (A, z) := fun h h1 h2 h3 h4 => st17 h (by rw [h4, h3, h2, h1])
  have ST18p : ∀ {p : Int}, o = 18 → 0 ≤ xs.getD B.toNat 0 → p = IntKind.wrap .i64 (xs.getD B.toNat 0) → p < C → storeC ⟨o, A, B, C⟩ xs = some (A, 1) := fun h h1 h2 h3 => st18p h h1 (by rw [SM h2 (RB (by omega) (by omega) (by omega) (by omega))] at h3; exact h3)
  have ST18n : ∀ {p : Int}, o = 18 → p = IntKind.wrap .i64 (xs.getD B.toNat 0) → ¬ p < C → storeC ⟨o, A, B, C⟩ xs = some (A, 0) := fun h h2 h3 => st18n h (by rw [SM h2 (RB (by omega) (by omega) (by omega) (by omega))] at h3; exact h3)
  have LF : ∀ {p' h' : Int} {r' : List Value} {m' : List Int}, HE .i32 r' m' → stepC cs ⟨a.pc, xs, a.halt⟩ = ⟨p', m', h'⟩ → ∃ x : StO, (∀ ys ds : List Int, HE .i32 a.c ys → List.length ys = a.l → W32 ys → Sli (Value.int .i64) 4 a.s.n a.s.o a.s.l a.s.k a.s.c ds →
      HE .i32 x.c (stepC ds ⟨a.pc, ys, a.halt⟩).mem ∧ x.pc = (stepC ds ⟨a.pc, ys, a.halt⟩).pc ∧ x.halt = (stepC ds ⟨a.pc, ys, a.halt⟩).halt) ∧ True ∧ (True ∧ x.pc = p' ∧ ((0 : Nat) = (0 : Nat) ∧ a.l = a.l ∧ a.k = a.k) ∧ x.halt = h' ∧ True) ∧ (a.k = a.k ∧ FlatL x.c ∧ x.c = r') ∧ (True ∧ FlatL a.s.c ∧ a.s.c = a.s.c) ∧ ((11 : Nat) = (11 : Nat) ∧ (True ∧ True) ∧ (True ∧ True) ∧ (True ∧ True) ∧ (True ∧ True) ∧ (True ∧ True) ∧ (True ∧ True) ∧ (True ∧ True) ∧ (True ∧ True) ∧ (True ∧ True) ∧ (True ∧ True) ∧ (True ∧ True) ∧ True) ∧ (True ∧ FlatL cells4 ∧ cells4 = cells4) ∧ True := fun {p' h' r' m'} hm hs => by
    have := heFlat hm
    exact ⟨⟨p', h', r'⟩, STQ _ _ hs hm, by repeat' first | with_reducible apply And.intro | exact trivial | exact rfl | assumption⟩
  have HALT : ∀ {z : Int}, o = 0 → z = IntKind.wrap .i64 (1 + A) → z = 1 + A := fun h h1 => by
    have := hr.2.2.1 h
    rw [h1, wrap_sm (by show -9223372036854775808 ≤ 1 + A ∧ 1 + A ≤ 9223372036854775807; rcases this with e | e <;> (have e : A = _ := e; omega))]
  have RAe : ∀ {k : Int}, o = k → (k ≠ 0 ∧ k ≠ 19 ∧ k ≠ 20 ∧ k ≠ 21) → 0 ≤ A ∧ A < (a.l : Int) := fun h k => RA (by rw [h]; exact k.1) (by rw [h]; exact k.2.1) (by rw [h]; exact k.2.2.1) (by rw [h]; exact k.2.2.2)
  have RBe : ∀ {k : Int}, o = k → (k ≠ 0 ∧ k ≠ 1 ∧ k ≠ 17 ∧ k ≠ 19) → 0 ≤ B ∧ B < (a.l : Int) := fun h k => RB (by rw [h]; exact k.1) (by rw [h]; exact k.2.1) (by rw [h]; exact k.2.2.1) (by rw [h]; exact k.2.2.2)
  have RCe : ∀ {k : Int}, o = k → (3 ≤ k ∧ k ≤ 16 ∧ k ≠ 14) → 0 ≤ C ∧ C < (a.l : Int) := fun h k => RC (by rw [h]; exact k.1) (by rw [h]; exact k.2.1) (by rw [h]; exact k.2.2)
  have HNG : f < 0 → farC ⟨o, A, B, C⟩ (MS.mk a.pc xs a.halt).mem < 0 := fun h => by show farC ⟨o, A, B, C⟩ xs < 0; rw [hF]; exact h
  have NE0 : ∀ {k : Int}, o = k → k ≠ 0 → o ≠ 0 := fun h k => by rw [h]; exact k
  have GON : ∀ {k g : Int}, o = k → (k ≠ 19 ∧ k ≠ 20 ∧ k ≠ 21) → g = IntKind.wrap .i64 (a.pc + 1) → goalC ⟨o, A, B, C⟩ ⟨a.pc, xs, a.halt⟩ = g := fun h k e => goN (by rw [h]; exact k.1) (by rw [h]; exact k.2.1) (by rw [h]; exact k.2.2) hpM e
  exact
   ⟨(fun hneg => ⟨(fun h2 => (LF hx (step_far hok hiM ⟨HNG hneg, .inl h2⟩))), (fun h3 => ⟨(fun h4 => (LF hx (step_far hok hiM ⟨HNG hneg, .inr h4⟩))), (fun h5 => (fun x30 =>
   (fun h6 => ⟨(fun h7 => (fun x31 => (fun h8 => (LF hx ((step_halt hok hiM h7).trans (by rw [HALT h7 h8])))))), (fun h9 => ⟨(fun h10 => (fun x35 => (fun h11 => ⟨(RAe h10
   (by decide)), (fun x36 => (fun h12 => ⟨(LEN h12 (RAe h10 (by decide))), (fun x37 => (fun h13 => (LF (WR h13 h12 (RAe h10 (by decide))) (step_st hok hiM (HFn fun _ => ⟨h3,
   h5⟩) (NE0 h10 (by decide)) (st1 h10 h11) (GON h10 (by decide) h6)))))⟩))⟩))), (fun h14 => ⟨(fun h15 => ⟨(RBe h15 (by decide)), (fun x41 => (fun h16 => ⟨_, RDM h16 (RBe
   h15 (by decide)), ⟨(RAe h15 (by decide)), (fun x43 => (fun h17 => ⟨(LEN h17 (RAe h15 (by decide))), (fun x44 => (fun h18 => ⟨⟨trivial, ⟨trivial, ⟨trivial, ⟨trivial,
   ⟨trivial, ⟨trivial, ⟨trivial, ⟨trivial, ⟨trivial, ⟨trivial, trivial⟩⟩⟩⟩⟩⟩⟩⟩⟩⟩, (LF (WR h18 h17 (RAe h15 (by decide))) (step_st hok hiM (HFn fun _ => ⟨h3, h5⟩) (NE0 h15
   (by decide)) (st2 h15) (GON h15 (by decide) h6)))⟩))⟩))⟩⟩))⟩), (fun h19 => ⟨(fun h20 => ⟨(RBe h20 (by decide)), (fun x48 => (fun h21 => ⟨_, RDM h21 (RBe h20 (by decide)),
   ⟨(fun h22 => ⟨(RAe h20 (by decide)), (fun x50 => (fun h23 => ⟨(LEN h23 (RAe h20 (by decide))), (fun x51 => (fun h24 => ⟨⟨⟨trivial, trivial⟩, ⟨⟨trivial, trivial⟩, ⟨⟨rfl,
   trivial⟩, ⟨trivial, ⟨trivial, ⟨trivial, ⟨trivial, ⟨trivial, ⟨trivial, ⟨trivial, ⟨trivial, ⟨trivial, trivial⟩⟩⟩⟩⟩⟩⟩⟩⟩⟩⟩⟩, (LF (WU h24 h23 (RAe h20 (by decide))) (step_st
   hok hiM (HFn fun _ => ⟨h3, h5⟩) (NE0 h20 (by decide)) (st14p h20 h22) (GON h20 (by decide) h6)))⟩))⟩))⟩), (fun h25 => ⟨(RAe h20 (by decide)), (fun x55 => (fun h26 =>
   ⟨(LEN h26 (RAe h20 (by decide))), (fun x56 => (fun h27 => ⟨⟨⟨trivial, trivial⟩, ⟨⟨trivial, trivial⟩, ⟨⟨rfl, trivial⟩, ⟨trivial, ⟨trivial, ⟨trivial, ⟨trivial, ⟨trivial,
   ⟨trivial, ⟨trivial, ⟨trivial, ⟨trivial, trivial⟩⟩⟩⟩⟩⟩⟩⟩⟩⟩⟩⟩, (LF (WU h27 h26 (RAe h20 (by decide))) (step_st hok hiM (HFn fun _ => ⟨h3, h5⟩) (NE0 h20 (by decide)) (st14n
   h20 h25) (GON h20 (by decide) h6)))⟩))⟩))⟩)⟩⟩))⟩), (fun h28 => ⟨(fun h29 => absurd h29 h3), (fun h30 => ⟨(fun h31 => absurd h31 h5), (fun h32 => ⟨(fun h33 => ⟨(RAe h33
   (by decide)), (fun x74 => (fun h34 => ⟨_, RDM h34 (RAe h33 (by decide)), (fun x76 => (fun h35 => (fun x77 => (fun h36 => (fun x78 => (fun h37 => (fun x79 => (fun h38 =>
   ⟨(RAe h33 (by decide)), (fun x80 => (fun h39 => ⟨(LEN h39 (RAe h33 (by decide))), (fun x81 => (fun h40 => ⟨⟨trivial, ⟨trivial, ⟨trivial, ⟨trivial, ⟨trivial, ⟨trivial,
   ⟨trivial, ⟨trivial, ⟨trivial, ⟨trivial, ⟨trivial, ⟨trivial, ⟨trivial, ⟨trivial, ⟨trivial, ⟨trivial, ⟨trivial, ⟨trivial, trivial⟩⟩⟩⟩⟩⟩⟩⟩⟩⟩⟩⟩⟩⟩⟩⟩⟩⟩, (LF (WR h40 h39 (RAe
   h33 (by decide))) (step_st hok hiM (HFn fun _ => ⟨h3, h5⟩) (NE0 h33 (by decide)) (ST17 h33 h35 h36 h37 h38) (GON h33 (by decide) h6)))⟩))⟩))⟩))))))))⟩))⟩), (fun h41 =>
   ⟨(fun h42 => ⟨(RBe h42 (by decide)), (fun x85 => (fun h43 => ⟨_, RDM h43 (RBe h42 (by decide)), ⟨(fun h44 => ⟨(RBe h42 (by decide)), (fun x87 => (fun h45 => ⟨_, RDM h45
   (RBe h42 (by decide)), (fun x89 => (fun h46 => ⟨(fun h47 => ⟨(RAe h42 (by decide)), (fun x90 => (fun h48 => ⟨(LEN h48 (RAe h42 (by decide))), (fun x91 => (fun h49 =>
   ⟨⟨⟨trivial, trivial⟩, ⟨⟨trivial, trivial⟩, ⟨⟨rfl, trivial⟩, ⟨trivial, ⟨trivial, ⟨trivial, ⟨trivial, ⟨trivial, ⟨trivial, ⟨trivial, ⟨trivial, ⟨trivial, ⟨trivial, ⟨trivial,
   ⟨trivial, ⟨trivial, ⟨trivial, ⟨trivial, ⟨trivial, ⟨trivial, ⟨trivial, ⟨trivial, ⟨trivial, trivial⟩⟩⟩⟩⟩⟩⟩⟩⟩⟩⟩⟩⟩⟩⟩⟩⟩⟩⟩⟩⟩⟩⟩, (LF (WU h49 h48 (RAe h42 (by decide))) (step_st
   hok hiM (HFn fun _ => ⟨h3, h5⟩) (NE0 h42 (by decide)) (ST18p h42 h44 h46 h47) (GON h42 (by decide) h6)))⟩))⟩))⟩), (fun h50 => ⟨(RAe h42 (by decide)), (fun x95 => (fun h51
   => ⟨(LEN h51 (RAe h42 (by decide))), (fun x96 => (fun h52 => ⟨⟨⟨trivial, trivial⟩, ⟨⟨trivial, trivial⟩, ⟨⟨rfl, trivial⟩, ⟨trivial, ⟨trivial, ⟨trivial, ⟨trivial, ⟨trivial,
   ⟨trivial, ⟨trivial, ⟨trivial, ⟨trivial, ⟨trivial, ⟨trivial, ⟨trivial, ⟨trivial, ⟨trivial, ⟨trivial, ⟨trivial, ⟨trivial, ⟨trivial, ⟨trivial, ⟨trivial,
   trivial⟩⟩⟩⟩⟩⟩⟩⟩⟩⟩⟩⟩⟩⟩⟩⟩⟩⟩⟩⟩⟩⟩⟩, (LF (WU h52 h51 (RAe h42 (by decide))) (step_st hok hiM (HFn fun _ => ⟨h3, h5⟩) (NE0 h42 (by decide)) (ST18n h42 h46 h50) (GON h42 (by
   decide) h6)))⟩))⟩))⟩)⟩))⟩))⟩), (fun h53 => ⟨(RAe h42 (by decide)), (fun x100 => (fun h54 => ⟨(LEN h54 (RAe h42 (by decide))), (fun x101 => (fun h55 => ⟨⟨⟨trivial,
   trivial⟩, ⟨⟨trivial, trivial⟩, ⟨⟨rfl, trivial⟩, ⟨trivial, ⟨trivial, ⟨trivial, ⟨trivial, ⟨trivial, ⟨trivial, ⟨trivial, ⟨trivial, ⟨trivial, ⟨trivial, ⟨trivial, ⟨trivial,
   ⟨trivial, ⟨trivial, ⟨trivial, ⟨trivial, ⟨trivial, ⟨trivial, ⟨trivial, ⟨trivial, trivial⟩⟩⟩⟩⟩⟩⟩⟩⟩⟩⟩⟩⟩⟩⟩⟩⟩⟩⟩⟩⟩⟩⟩, (LF (WU h55 h54 (RAe h42 (by decide))) (step_st hok hiM
   (HFn fun _ => ⟨h3, h5⟩) (NE0 h42 (by decide)) (st18m h42 h53) (GON h42 (by decide) h6)))⟩))⟩))⟩)⟩⟩))⟩), (fun h56 => ⟨(fun h57 => (LF hx (step_jp hok hiM (.inl h57) (go19
   h57)))), (fun h58 => ⟨(fun h59 => ⟨(RBe h59 (by decide)), (fun x108 => (fun h60 => ⟨_, RDM h60 (RBe h59 (by decide)), ⟨(fun h61 => ⟨(fun h62 => ⟨⟨trivial, ⟨trivial,
   ⟨trivial, ⟨trivial, ⟨trivial, ⟨trivial, ⟨trivial, ⟨trivial, ⟨trivial, ⟨trivial, trivial⟩⟩⟩⟩⟩⟩⟩⟩⟩⟩, (LF hx (step_jp hok hiM (.inr (.inl h59)) (go20z h59 h61)))⟩), (fun h63
   => absurd h59 h63)⟩), (fun h64 => ⟨(fun h65 => ⟨⟨trivial, ⟨trivial, ⟨trivial, ⟨trivial, ⟨trivial, ⟨trivial, ⟨trivial, ⟨trivial, ⟨trivial, ⟨trivial, trivial⟩⟩⟩⟩⟩⟩⟩⟩⟩⟩, (LF
   hx (step_jp hok hiM (.inr (.inl h59)) (go20n h59 h64 hpM h6)))⟩), (fun h66 => absurd h59 h66)⟩)⟩⟩))⟩), (fun h67 => ⟨(fun h68 => ⟨(RBe h68 (by decide)), (fun x122 => (fun
   h69 => ⟨_, RDM h69 (RBe h68 (by decide)), ⟨(fun h70 => ⟨(fun h71 => by omega), (fun h72 => ⟨⟨trivial, ⟨trivial, ⟨trivial, ⟨trivial, ⟨trivial, ⟨trivial, ⟨trivial,
   ⟨trivial, ⟨trivial, ⟨trivial, trivial⟩⟩⟩⟩⟩⟩⟩⟩⟩⟩, (LF hx (step_jp hok hiM (.inr (.inr h68)) (go21z h68 h70 hpM h6)))⟩)⟩), (fun h73 => ⟨(fun h74 => by omega), (fun h75 =>
   ⟨⟨trivial, ⟨trivial, ⟨trivial, ⟨trivial, ⟨trivial, ⟨trivial, ⟨trivial, ⟨trivial, ⟨trivial, ⟨trivial, trivial⟩⟩⟩⟩⟩⟩⟩⟩⟩⟩, (LF hx (step_jp hok hiM (.inr (.inr h68)) (go21n
   h68 h73)))⟩)⟩)⟩⟩))⟩), (fun h76 => ⟨(fun h77 => ⟨(RBe h77 (by decide)), (fun x136 => (fun h78 => ⟨_, RDM h78 (RBe h77 (by decide)), ⟨(RCe h77 (by decide)), (fun x138 =>
   (fun h79 => ⟨_, RDM h79 (RCe h77 (by decide)), (fun x140 => (fun h80 => ⟨(RAe h77 (by decide)), (fun x141 => (fun h81 => ⟨(LEN h81 (RAe h77 (by decide))), (fun x142 =>
   (fun h82 => ⟨⟨⟨trivial, trivial⟩, ⟨⟨trivial, trivial⟩, ⟨⟨rfl, trivial⟩, ⟨trivial, ⟨trivial, ⟨trivial, ⟨trivial, ⟨trivial, ⟨trivial, ⟨trivial, ⟨trivial, ⟨trivial,
   ⟨trivial, ⟨trivial, ⟨trivial, ⟨trivial, ⟨trivial, ⟨trivial, ⟨trivial, ⟨trivial, trivial⟩⟩⟩⟩⟩⟩⟩⟩⟩⟩⟩⟩⟩⟩⟩⟩⟩⟩⟩⟩, (LF (WR h82 h81 (RAe h77 (by decide))) (step_st hok hiM (HFn
   fun _ => ⟨h3, h5⟩) (NE0 h77 (by decide)) (st3 h77 h80) (GON h77 (by decide) h6)))⟩))⟩))⟩))⟩))⟩⟩))⟩), (fun h83 => ⟨(fun h84 => ⟨(RBe h84 (by decide)), (fun x146 => (fun
   h85 => ⟨_, RDM h85 (RBe h84 (by decide)), ⟨(RCe h84 (by decide)), (fun x148 => (fun h86 => ⟨_, RDM h86 (RCe h84 (by decide)), (fun x150 => (fun h87 => ⟨(RAe h84 (by
   decide)), (fun x151 => (fun h88 => ⟨(LEN h88 (RAe h84 (by decide))), (fun x152 => (fun h89 => ⟨⟨⟨trivial, trivial⟩, ⟨⟨trivial, trivial⟩, ⟨⟨rfl, trivial⟩, ⟨trivial,
   ⟨trivial, ⟨trivial, ⟨trivial, ⟨trivial, ⟨trivial, ⟨trivial, ⟨trivial, ⟨trivial, ⟨trivial, ⟨trivial, ⟨trivial, ⟨trivial, ⟨trivial, ⟨trivial, ⟨trivial, ⟨trivial,
   trivial⟩⟩⟩⟩⟩⟩⟩⟩⟩⟩⟩⟩⟩⟩⟩⟩⟩⟩⟩⟩, (LF (WR h89 h88 (RAe h84 (by decide))) (step_st hok hiM (HFn fun _ => ⟨h3, h5⟩) (NE0 h84 (by decide)) (st4 h84 h87) (GON h84 (by decide)
   h6)))⟩))⟩))⟩))⟩))⟩⟩))⟩), (fun h90 => ⟨(fun h91 => ⟨(RBe h91 (by decide)), (fun x156 => (fun h92 => ⟨_, RDM h92 (RBe h91 (by decide)), ⟨(RCe h91 (by decide)), (fun x158 =>
   (fun h93 => ⟨_, RDM h93 (RCe h91 (by decide)), (fun x160 => (fun h94 => ⟨(RAe h91 (by decide)), (fun x161 => (fun h95 => ⟨(LEN h95 (RAe h91 (by decide))), (fun x162 =>
   (fun h96 => ⟨⟨⟨trivial, trivial⟩, ⟨⟨trivial, trivial⟩, ⟨⟨rfl, trivial⟩, ⟨trivial, ⟨trivial, ⟨trivial, ⟨trivial, ⟨trivial, ⟨trivial, ⟨trivial, ⟨trivial, ⟨trivial,
   ⟨trivial, ⟨trivial, ⟨trivial, ⟨trivial, ⟨trivial, ⟨trivial, ⟨trivial, ⟨trivial, trivial⟩⟩⟩⟩⟩⟩⟩⟩⟩⟩⟩⟩⟩⟩⟩⟩⟩⟩⟩⟩, (LF (WR h96 h95 (RAe h91 (by decide))) (step_st hok hiM (HFn
   fun _ => ⟨h3, h5⟩) (NE0 h91 (by decide)) (st5 h91 h94) (GON h91 (by decide) h6)))⟩))⟩))⟩))⟩))⟩⟩))⟩), (fun h97 => ⟨(fun h98 => ⟨(RBe h98 (by decide)), (fun x166 => (fun
   h99 => ⟨_, RDM h99 (RBe h98 (by decide)), ⟨(RCe h98 (by decide)), (fun x168 => (fun h100 => ⟨_, RDM h100 (RCe h98 (by decide)), ⟨(fun h101 => ⟨(RAe h98 (by decide)), (fun
   x170 => (fun h102 => ⟨(LEN h102 (RAe h98 (by decide))), (fun x171 => (fun h103 => ⟨⟨⟨trivial, trivial⟩, ⟨⟨trivial, trivial⟩, ⟨⟨rfl, trivial⟩, ⟨trivial, ⟨trivial,
   ⟨trivial, ⟨trivial, ⟨trivial, ⟨trivial, ⟨trivial, ⟨trivial, ⟨trivial, ⟨trivial, ⟨trivial, ⟨trivial, ⟨trivial, ⟨trivial, ⟨trivial, ⟨trivial, ⟨trivial,
   trivial⟩⟩⟩⟩⟩⟩⟩⟩⟩⟩⟩⟩⟩⟩⟩⟩⟩⟩⟩⟩, (LF (WU h103 h102 (RAe h98 (by decide))) (step_st hok hiM (HFn fun _ => ⟨h3, h5⟩) (NE0 h98 (by decide)) (st6z h98 h101) (GON h98 (by decide)
   h6)))⟩))⟩))⟩), (fun h104 => ⟨h104, (fun x175 => (fun h105 => ⟨(RAe h98 (by decide)), (fun x176 => (fun h106 => ⟨(LEN h106 (RAe h98 (by decide))), (fun x177 => (fun h107
   => ⟨⟨⟨trivial, trivial⟩, ⟨⟨trivial, trivial⟩, ⟨⟨rfl, trivial⟩, ⟨trivial, ⟨trivial, ⟨trivial, ⟨trivial, ⟨trivial, ⟨trivial, ⟨trivial, ⟨trivial, ⟨trivial, ⟨trivial,
   ⟨trivial, ⟨trivial, ⟨trivial, ⟨trivial, ⟨trivial, ⟨trivial, ⟨trivial, trivial⟩⟩⟩⟩⟩⟩⟩⟩⟩⟩⟩⟩⟩⟩⟩⟩⟩⟩⟩⟩, (LF (WR h107 h106 (RAe h98 (by decide))) (step_st hok hiM (HFn fun _ =>
   ⟨h3, h5⟩) (NE0 h98 (by decide)) (st6n h98 h104 h105) (GON h98 (by decide) h6)))⟩))⟩))⟩))⟩)⟩⟩))⟩⟩))⟩), (fun h108 => ⟨(fun h109 => ⟨(RBe h109 (by decide)), (fun x181 =>
   (fun h110 => ⟨_, RDM h110 (RBe h109 (by decide)), ⟨(RCe h109 (by decide)), (fun x183 => (fun h111 => ⟨_, RDM h111 (RCe h109 (by decide)), ⟨(fun h112 => ⟨(RAe h109 (by
   decide)), (fun x185 => (fun h113 => ⟨(LEN h113 (RAe h109 (by decide))), (fun x186 => (fun h114 => ⟨⟨⟨trivial, trivial⟩, ⟨⟨trivial, trivial⟩, ⟨⟨rfl, trivial⟩, ⟨trivial,
   ⟨trivial, ⟨trivial, ⟨trivial, ⟨trivial, ⟨trivial, ⟨trivial, ⟨trivial, ⟨trivial, ⟨trivial, ⟨trivial, ⟨trivial, ⟨trivial, ⟨trivial, ⟨trivial, ⟨trivial, ⟨trivial,
   trivial⟩⟩⟩⟩⟩⟩⟩⟩⟩⟩⟩⟩⟩⟩⟩⟩⟩⟩⟩⟩, (LF (WU h114 h113 (RAe h109 (by decide))) (step_st hok hiM (HFn fun _ => ⟨h3, h5⟩) (NE0 h109 (by decide)) (st7z h109 h112) (GON h109 (by
   decide) h6)))⟩))⟩))⟩), (fun h115 => ⟨h115, (fun x190 => (fun h116 => ⟨(RAe h109 (by decide)), (fun x191 => (fun h117 => ⟨(LEN h117 (RAe h109 (by decide))), (fun x192 =>
   (fun h118 => ⟨⟨⟨trivial, trivial⟩, ⟨⟨trivial, trivial⟩, ⟨⟨rfl, trivial⟩, ⟨trivial, ⟨trivial, ⟨trivial, ⟨trivial, ⟨trivial, ⟨trivial, ⟨trivial, ⟨trivial, ⟨trivial,
   ⟨trivial, ⟨trivial, ⟨trivial, ⟨trivial, ⟨trivial, ⟨trivial, ⟨trivial, ⟨trivial, trivial⟩⟩⟩⟩⟩⟩⟩⟩⟩⟩⟩⟩⟩⟩⟩⟩⟩⟩⟩⟩, (LF (WR h118 h117 (RAe h109 (by decide))) (step_st hok hiM
   (HFn fun _ => ⟨h3, h5⟩) (NE0 h109 (by decide)) (st7n h109 h115 h116) (GON h109 (by decide) h6)))⟩))⟩))⟩))⟩)⟩⟩))⟩⟩))⟩), (fun h119 => ⟨(fun h120 => ⟨(RBe h120 (by decide)),
   (fun x196 => (fun h121 => ⟨_, RDM h121 (RBe h120 (by decide)), ⟨(RCe h120 (by decide)), (fun x198 => (fun h122 => ⟨_, RDM h122 (RCe h120 (by decide)), ⟨(fun h123 => ⟨(RAe
   h120 (by decide)), (fun x200 => (fun h124 => ⟨(LEN h124 (RAe h120 (by decide))), (fun x201 => (fun h125 => ⟨⟨⟨trivial, trivial⟩, ⟨⟨trivial, trivial⟩, ⟨⟨rfl, trivial⟩,
   ⟨trivial, ⟨trivial, ⟨trivial, ⟨trivial, ⟨trivial, ⟨trivial, ⟨trivial, ⟨trivial, ⟨trivial, ⟨trivial, ⟨trivial, ⟨trivial, ⟨trivial, ⟨trivial, ⟨trivial, ⟨trivial, ⟨trivial,
   trivial⟩⟩⟩⟩⟩⟩⟩⟩⟩⟩⟩⟩⟩⟩⟩⟩⟩⟩⟩⟩, (LF (WU h125 h124 (RAe h120 (by decide))) (step_st hok hiM (HFn fun _ => ⟨h3, h5⟩) (NE0 h120 (by decide)) (st8p h120 h123) (GON h120 (by
   decide) h6)))⟩))⟩))⟩), (fun h126 => ⟨(RAe h120 (by decide)), (fun x205 => (fun h127 => ⟨(LEN h127 (RAe h120 (by decide))), (fun x206 => (fun h128 => ⟨⟨⟨trivial, trivial⟩,
   ⟨⟨trivial, trivial⟩, ⟨⟨rfl, trivial⟩, ⟨trivial, ⟨trivial, ⟨trivial, ⟨trivial, ⟨trivial, ⟨trivial, ⟨trivial, ⟨trivial, ⟨trivial, ⟨trivial, ⟨trivial, ⟨trivial, ⟨trivial,
   ⟨trivial, ⟨trivial, ⟨trivial, ⟨trivial, trivial⟩⟩⟩⟩⟩⟩⟩⟩⟩⟩⟩⟩⟩⟩⟩⟩⟩⟩⟩⟩, (LF (WU h128 h127 (RAe h120 (by decide))) (step_st hok hiM (HFn fun _ => ⟨h3, h5⟩) (NE0 h120 (by
   decide)) (st8n h120 h126) (GON h120 (by decide) h6)))⟩))⟩))⟩)⟩⟩))⟩⟩))⟩), (fun h129 => ⟨(fun h130 => ⟨(RBe h130 (by decide)), (fun x210 => (fun h131 => ⟨_, RDM h131 (RBe
   h130 (by decide)), ⟨(RCe h130 (by decide)), (fun x212 => (fun h132 => ⟨_, RDM h132 (RCe h130 (by decide)), ⟨(fun h133 => ⟨(RAe h130 (by decide)), (fun x214 => (fun h134
   => ⟨(LEN h134 (RAe h130 (by decide))), (fun x215 => (fun h135 => ⟨⟨⟨trivial, trivial⟩, ⟨⟨trivial, trivial⟩, ⟨⟨rfl, trivial⟩, ⟨trivial, ⟨trivial, ⟨trivial, ⟨trivial,
   ⟨trivial, ⟨trivial, ⟨trivial, ⟨trivial, ⟨trivial, ⟨trivial, ⟨trivial, ⟨trivial, ⟨trivial, ⟨trivial, ⟨trivial, ⟨trivial, ⟨trivial, trivial⟩⟩⟩⟩⟩⟩⟩⟩⟩⟩⟩⟩⟩⟩⟩⟩⟩⟩⟩⟩, (LF (WU
   h135 h134 (RAe h130 (by decide))) (step_st hok hiM (HFn fun _ => ⟨h3, h5⟩) (NE0 h130 (by decide)) (st9p h130 h133) (GON h130 (by decide) h6)))⟩))⟩))⟩), (fun h136 => ⟨(RAe
   h130 (by decide)), (fun x219 => (fun h137 => ⟨(LEN h137 (RAe h130 (by decide))), (fun x220 => (fun h138 => ⟨⟨⟨trivial, trivial⟩, ⟨⟨trivial, trivial⟩, ⟨⟨rfl, trivial⟩,
   ⟨trivial, ⟨trivial, ⟨trivial, ⟨trivial, ⟨trivial, ⟨trivial, ⟨trivial, ⟨trivial, ⟨trivial, ⟨trivial, ⟨trivial, ⟨trivial, ⟨trivial, ⟨trivial, ⟨trivial, ⟨trivial, ⟨trivial,
   trivial⟩⟩⟩⟩⟩⟩⟩⟩⟩⟩⟩⟩⟩⟩⟩⟩⟩⟩⟩⟩, (LF (WU h138 h137 (RAe h130 (by decide))) (step_st hok hiM (HFn fun _ => ⟨h3, h5⟩) (NE0 h130 (by decide)) (st9n h130 h136) (GON h130 (by
   decide) h6)))⟩))⟩))⟩)⟩⟩))⟩⟩))⟩), (fun h139 => ⟨(fun h140 => ⟨(RBe h140 (by decide)), (fun x224 => (fun h141 => ⟨_, RDM h141 (RBe h140 (by decide)), ⟨(RCe h140 (by
   decide)), (fun x226 => (fun h142 => ⟨_, RDM h142 (RCe h140 (by decide)), ⟨(fun h143 => ⟨(RAe h140 (by decide)), (fun x228 => (fun h144 => ⟨(LEN h144 (RAe h140 (by
   decide))), (fun x229 => (fun h145 => ⟨⟨⟨trivial, trivial⟩, ⟨⟨trivial, trivial⟩, ⟨⟨rfl, trivial⟩, ⟨trivial, ⟨trivial, ⟨trivial, ⟨trivial, ⟨trivial, ⟨trivial, ⟨trivial,
   ⟨trivial, ⟨trivial, ⟨trivial, ⟨trivial, ⟨trivial, ⟨trivial, ⟨trivial, ⟨trivial, ⟨trivial, ⟨trivial, trivial⟩⟩⟩⟩⟩⟩⟩⟩⟩⟩⟩⟩⟩⟩⟩⟩⟩⟩⟩⟩, (LF (WU h145 h144 (RAe h140 (by decide)))
   (step_st hok hiM (HFn fun _ => ⟨h3, h5⟩) (NE0 h140 (by decide)) (st10p h140 h143) (GON h140 (by decide) h6)))⟩))⟩))⟩), (fun h146 => ⟨(RAe h140 (by decide)), (fun x233 =>
   (fun h147 => ⟨(LEN h147 (RAe h140 (by decide))), (fun x234 => (fun h148 => ⟨⟨⟨trivial, trivial⟩, ⟨⟨trivial, trivial⟩, ⟨⟨rfl, trivial⟩, ⟨trivial, ⟨trivial, ⟨trivial,
   ⟨trivial, ⟨trivial, ⟨trivial, ⟨trivial, ⟨trivial, ⟨trivial, ⟨trivial, ⟨trivial, ⟨trivial, ⟨trivial, ⟨trivial, ⟨trivial, ⟨trivial, ⟨trivial, trivial⟩⟩⟩⟩⟩⟩⟩⟩⟩⟩⟩⟩⟩⟩⟩⟩⟩⟩⟩⟩,
   (LF (WU h148 h147 (RAe h140 (by decide))) (step_st hok hiM (HFn fun _ => ⟨h3, h5⟩) (NE0 h140 (by decide)) (st10n h140 h146) (GON h140 (by decide) h6)))⟩))⟩))⟩)⟩⟩))⟩⟩))⟩),
   (fun h149 => ⟨(fun h150 => ⟨(RBe h150 (by decide)), (fun x238 => (fun h151 => ⟨_, RDM h151 (RBe h150 (by decide)), ⟨(RCe h150 (by decide)), (fun x240 => (fun h152 => ⟨_,
   RDM h152 (RCe h150 (by decide)), ⟨(fun h153 => ⟨(RAe h150 (by decide)), (fun x242 => (fun h154 => ⟨(LEN h154 (RAe h150 (by decide))), (fun x243 => (fun h155 =>
   ⟨⟨⟨trivial, trivial⟩, ⟨⟨trivial, trivial⟩, ⟨⟨rfl, trivial⟩, ⟨trivial, ⟨trivial, ⟨trivial, ⟨trivial, ⟨trivial, ⟨trivial, ⟨trivial, ⟨trivial, ⟨trivial, ⟨trivial, ⟨trivial,
   ⟨trivial, ⟨trivial, ⟨trivial, ⟨trivial, ⟨trivial, ⟨trivial, trivial⟩⟩⟩⟩⟩⟩⟩⟩⟩⟩⟩⟩⟩⟩⟩⟩⟩⟩⟩⟩, (LF (WU h155 h154 (RAe h150 (by decide))) (step_st hok hiM (HFn fun _ => ⟨h3,
   h5⟩) (NE0 h150 (by decide)) (st11p h150 h153) (GON h150 (by decide) h6)))⟩))⟩))⟩), (fun h156 => ⟨(RAe h150 (by decide)), (fun x247 => (fun h157 => ⟨(LEN h157 (RAe h150
   (by decide))), (fun x248 => (fun h158 => ⟨⟨⟨trivial, trivial⟩, ⟨⟨trivial, trivial⟩, ⟨⟨rfl, trivial⟩, ⟨trivial, ⟨trivial, ⟨trivial, ⟨trivial, ⟨trivial, ⟨trivial, ⟨trivial,
   ⟨trivial, ⟨trivial, ⟨trivial, ⟨trivial, ⟨trivial, ⟨trivial, ⟨trivial, ⟨trivial, ⟨trivial, ⟨trivial, trivial⟩⟩⟩⟩⟩⟩⟩⟩⟩⟩⟩⟩⟩⟩⟩⟩⟩⟩⟩⟩, (LF (WU h158 h157 (RAe h150 (by decide)))
   (step_st hok hiM (HFn fun _ => ⟨h3, h5⟩) (NE0 h150 (by decide)) (st11n h150 h156) (GON h150 (by decide) h6)))⟩))⟩))⟩)⟩⟩))⟩⟩))⟩), (fun h159 => ⟨(fun h160 => ⟨(RBe h160 (by
   decide)), (fun x252 => (fun h161 => ⟨_, RDM h161 (RBe h160 (by decide)), ⟨(RCe h160 (by decide)), (fun x254 => (fun h162 => ⟨_, RDM h162 (RCe h160 (by decide)), ⟨(fun
   h163 => ⟨(fun h164 => ⟨(RAe h160 (by decide)), (fun x256 => (fun h165 => ⟨(LEN h165 (RAe h160 (by decide))), (fun x257 => (fun h166 => ⟨⟨⟨trivial, trivial⟩, ⟨⟨trivial,
   trivial⟩, ⟨⟨rfl, trivial⟩, ⟨trivial, ⟨trivial, ⟨trivial, ⟨trivial, ⟨trivial, ⟨trivial, ⟨trivial, ⟨trivial, ⟨trivial, ⟨trivial, ⟨trivial, ⟨trivial, ⟨trivial, ⟨trivial,
   ⟨trivial, ⟨trivial, ⟨trivial, trivial⟩⟩⟩⟩⟩⟩⟩⟩⟩⟩⟩⟩⟩⟩⟩⟩⟩⟩⟩⟩, (LF (WU h166 h165 (RAe h160 (by decide))) (step_st hok hiM (HFn fun _ => ⟨h3, h5⟩) (NE0 h160 (by decide))
   (st12p h160 h163 h164) (GON h160 (by decide) h6)))⟩))⟩))⟩), (fun h167 => ⟨(RAe h160 (by decide)), (fun x261 => (fun h168 => ⟨(LEN h168 (RAe h160 (by decide))), (fun x262
   => (fun h169 => ⟨⟨⟨trivial, trivial⟩, ⟨⟨trivial, trivial⟩, ⟨⟨rfl, trivial⟩, ⟨trivial, ⟨trivial, ⟨trivial, ⟨trivial, ⟨trivial, ⟨trivial, ⟨trivial, ⟨trivial, ⟨trivial,
   ⟨trivial, ⟨trivial, ⟨trivial, ⟨trivial, ⟨trivial, ⟨trivial, ⟨trivial, ⟨trivial, trivial⟩⟩⟩⟩⟩⟩⟩⟩⟩⟩⟩⟩⟩⟩⟩⟩⟩⟩⟩⟩, (LF (WU h169 h168 (RAe h160 (by decide))) (step_st hok hiM
   (HFn fun _ => ⟨h3, h5⟩) (NE0 h160 (by decide)) (st12n h160 h167) (GON h160 (by decide) h6)))⟩))⟩))⟩)⟩), (fun h170 => ⟨(RAe h160 (by decide)), (fun x266 => (fun h171 =>
   ⟨(LEN h171 (RAe h160 (by decide))), (fun x267 => (fun h172 => ⟨⟨⟨trivial, trivial⟩, ⟨⟨trivial, trivial⟩, ⟨⟨rfl, trivial⟩, ⟨trivial, ⟨trivial, ⟨trivial, ⟨trivial,
   ⟨trivial, ⟨trivial, ⟨trivial, ⟨trivial, ⟨trivial, ⟨trivial, ⟨trivial, ⟨trivial, ⟨trivial, ⟨trivial, ⟨trivial, ⟨trivial, ⟨trivial, trivial⟩⟩⟩⟩⟩⟩⟩⟩⟩⟩⟩⟩⟩⟩⟩⟩⟩⟩⟩⟩, (LF (WU
   h172 h171 (RAe h160 (by decide))) (step_st hok hiM (HFn fun _ => ⟨h3, h5⟩) (NE0 h160 (by decide)) (st12m h160 h170) (GON h160 (by decide) h6)))⟩))⟩))⟩)⟩⟩))⟩⟩))⟩), (fun
   h173 => ⟨(fun h174 => ⟨(RBe h174 (by decide)), (fun x271 => (fun h175 => ⟨_, RDM h175 (RBe h174 (by decide)), ⟨(RCe h174 (by decide)), (fun x273 => (fun h176 => ⟨_, RDM
   h176 (RCe h174 (by decide)), ⟨(fun h177 => ⟨(RAe h174 (by decide)), (fun x275 => (fun h178 => ⟨(LEN h178 (RAe h174 (by decide))), (fun x276 => (fun h179 => ⟨⟨⟨trivial,
   trivial⟩, ⟨⟨trivial, trivial⟩, ⟨⟨rfl, trivial⟩, ⟨trivial, ⟨trivial, ⟨trivial, ⟨trivial, ⟨trivial, ⟨trivial, ⟨trivial, ⟨trivial, ⟨trivial, ⟨trivial, ⟨trivial, ⟨trivial,
   ⟨trivial, ⟨trivial, ⟨trivial, ⟨trivial, ⟨trivial, trivial⟩⟩⟩⟩⟩⟩⟩⟩⟩⟩⟩⟩⟩⟩⟩⟩⟩⟩⟩⟩, (LF (WU h179 h178 (RAe h174 (by decide))) (step_st hok hiM (HFn fun _ => ⟨h3, h5⟩) (NE0
   h174 (by decide)) (st13p h174 h177) (GON h174 (by decide) h6)))⟩))⟩))⟩), (fun h180 => ⟨(fun h181 => ⟨(RAe h174 (by decide)), (fun x280 => (fun h182 => ⟨(LEN h182 (RAe
   h174 (by decide))), (fun x281 => (fun h183 => ⟨⟨⟨trivial, trivial⟩, ⟨⟨trivial, trivial⟩, ⟨⟨rfl, trivial⟩, ⟨trivial, ⟨trivial, ⟨trivial, ⟨trivial, ⟨trivial, ⟨trivial,
   ⟨trivial, ⟨trivial, ⟨trivial, ⟨trivial, ⟨trivial, ⟨trivial, ⟨trivial, ⟨trivial, ⟨trivial, ⟨trivial, ⟨trivial, trivial⟩⟩⟩⟩⟩⟩⟩⟩⟩⟩⟩⟩⟩⟩⟩⟩⟩⟩⟩⟩, (LF (WU h183 h182 (RAe h174 (by
   decide))) (step_st hok hiM (HFn fun _ => ⟨h3, h5⟩) (NE0 h174 (by decide)) (st13q h174 h181) (GON h174 (by decide) h6)))⟩))⟩))⟩), (fun h184 => ⟨(RAe h174 (by decide)),
   (fun x285 => (fun h185 => ⟨(LEN h185 (RAe h174 (by decide))), (fun x286 => (fun h186 => ⟨⟨⟨trivial, trivial⟩, ⟨⟨trivial, trivial⟩, ⟨⟨rfl, trivial⟩, ⟨trivial, ⟨trivial,
   ⟨trivial, ⟨trivial, ⟨trivial, ⟨trivial, ⟨trivial, ⟨trivial, ⟨trivial, ⟨trivial, ⟨trivial, ⟨trivial, ⟨trivial, ⟨trivial, ⟨trivial, ⟨trivial, ⟨trivial,
   trivial⟩⟩⟩⟩⟩⟩⟩⟩⟩⟩⟩⟩⟩⟩⟩⟩⟩⟩⟩⟩, (LF (WU h186 h185 (RAe h174 (by decide))) (step_st hok hiM (HFn fun _ => ⟨h3, h5⟩) (NE0 h174 (by decide)) (st13n h174 h180 h184) (GON h174
   (by decide) h6)))⟩))⟩))⟩)⟩)⟩⟩))⟩⟩))⟩), (fun h187 => by omega)⟩)⟩)⟩)⟩)⟩)⟩)⟩)⟩)⟩)⟩)⟩)⟩)⟩)⟩)⟩)⟩)⟩)⟩)⟩)⟩)⟩)⟩)))⟩)⟩), (fun hnn => (fun x294 => (fun h189 => ⟨(fun h190 => (fun
   x295 => (fun h191 => (LF hx ((step_halt hok hiM h190).trans (by rw [HALT h190 h191])))))), (fun h192 => ⟨(fun h193 => (fun x299 => (fun h194 => ⟨(RAe h193 (by decide)),
   (fun x300 => (fun h195 => ⟨(LEN h195 (RAe h193 (by decide))), (fun x301 => (fun h196 => (LF (WR h196 h195 (RAe h193 (by decide))) (step_st hok hiM (HFn fun h => absurd h
   hnn) (NE0 h193 (by decide)) (st1 h193 h194) (GON h193 (by decide) h189)))))⟩))⟩))), (fun h197 => ⟨(fun h198 => ⟨(RBe h198 (by decide)), (fun x305 => (fun h199 => ⟨_, RDM
   h199 (RBe h198 (by decide)), ⟨(RAe h198 (by decide)), (fun x307 => (fun h200 => ⟨(LEN h200 (RAe h198 (by decide))), (fun x308 => (fun h201 => ⟨⟨trivial, ⟨trivial,
   ⟨trivial, ⟨trivial, ⟨trivial, ⟨trivial, ⟨trivial, ⟨trivial, ⟨trivial, ⟨trivial, trivial⟩⟩⟩⟩⟩⟩⟩⟩⟩⟩, (LF (WR h201 h200 (RAe h198 (by decide))) (step_st hok hiM (HFn fun h
   => absurd h hnn) (NE0 h198 (by decide)) (st2 h198) (GON h198 (by decide) h189)))⟩))⟩))⟩⟩))⟩), (fun h202 => ⟨(fun h203 => ⟨(RBe h203 (by decide)), (fun x312 => (fun h204
   => ⟨_, RDM h204 (RBe h203 (by decide)), ⟨(fun h205 => ⟨(RAe h203 (by decide)), (fun x314 => (fun h206 => ⟨(LEN h206 (RAe h203 (by decide))), (fun x315 => (fun h207 =>
   ⟨⟨⟨trivial, trivial⟩, ⟨⟨trivial, trivial⟩, ⟨⟨rfl, trivial⟩, ⟨trivial, ⟨trivial, ⟨trivial, ⟨trivial, ⟨trivial, ⟨trivial, ⟨trivial, ⟨trivial, ⟨trivial, trivial⟩⟩⟩⟩⟩⟩⟩⟩⟩⟩⟩⟩,
   (LF (WU h207 h206 (RAe h203 (by decide))) (step_st hok hiM (HFn fun h => absurd h hnn) (NE0 h203 (by decide)) (st14p h203 h205) (GON h203 (by decide) h189)))⟩))⟩))⟩),
   (fun h208 => ⟨(RAe h203 (by decide)), (fun x319 => (fun h209 => ⟨(LEN h209 (RAe h203 (by decide))), (fun x320 => (fun h210 => ⟨⟨⟨trivial, trivial⟩, ⟨⟨trivial, trivial⟩,
   ⟨⟨rfl, trivial⟩, ⟨trivial, ⟨trivial, ⟨trivial, ⟨trivial, ⟨trivial, ⟨trivial, ⟨trivial, ⟨trivial, ⟨trivial, trivial⟩⟩⟩⟩⟩⟩⟩⟩⟩⟩⟩⟩, (LF (WU h210 h209 (RAe h203 (by decide)))
   (step_st hok hiM (HFn fun h => absurd h hnn) (NE0 h203 (by decide)) (st14n h203 h208) (GON h203 (by decide) h189)))⟩))⟩))⟩)⟩⟩))⟩), (fun h211 => ⟨(fun h212 => ⟨(FAR hnn),
   (fun x324 => (fun h213 => ⟨_, RDM h213 (FAR hnn), ⟨(RAe h212 (by decide)), (fun x326 => (fun h214 => ⟨(LEN h214 (RAe h212 (by decide))), (fun x327 => (fun h215 =>
   ⟨⟨trivial, ⟨trivial, ⟨trivial, ⟨trivial, ⟨trivial, ⟨trivial, ⟨trivial, ⟨trivial, ⟨trivial, trivial⟩⟩⟩⟩⟩⟩⟩⟩⟩, (LF (WR h215 h214 (RAe h212 (by decide))) (step_st hok hiM
   (HFn fun h => absurd h hnn) (NE0 h212 (by decide)) (ST15 h212) (GON h212 (by decide) h189)))⟩))⟩))⟩⟩))⟩), (fun h216 => ⟨(fun h217 => ⟨(RCe h217 (by decide)), (fun x331 =>
   (fun h218 => ⟨_, RDM h218 (RCe h217 (by decide)), ⟨(FAR hnn), (fun x333 => (fun h219 => ⟨(LEN h219 (FAR hnn)), (fun x334 => (fun h220 => (LF (WR h220 h219 (FAR hnn))
   (step_st hok hiM (HFn fun h => absurd h hnn) (NE0 h217 (by decide)) (ST16 h217) (GON h217 (by decide) h189)))))⟩))⟩⟩))⟩), (fun h221 => ⟨(fun h222 => ⟨(RAe h222 (by
   decide)), (fun x338 => (fun h223 => ⟨_, RDM h223 (RAe h222 (by decide)), (fun x340 => (fun h224 => (fun x341 => (fun h225 => (fun x342 => (fun h226 => (fun x343 => (fun
   h227 => ⟨(RAe h222 (by decide)), (fun x344 => (fun h228 => ⟨(LEN h228 (RAe h222 (by decide))), (fun x345 => (fun h229 => ⟨⟨trivial, ⟨trivial, ⟨trivial, ⟨trivial,
   ⟨trivial, ⟨trivial, ⟨trivial, ⟨trivial, ⟨trivial, ⟨trivial, ⟨trivial, ⟨trivial, ⟨trivial, ⟨trivial, ⟨trivial, ⟨trivial, ⟨trivial, ⟨trivial, trivial⟩⟩⟩⟩⟩⟩⟩⟩⟩⟩⟩⟩⟩⟩⟩⟩⟩⟩, (LF
   (WR h229 h228 (RAe h222 (by decide))) (step_st hok hiM (HFn fun h => absurd h hnn) (NE0 h222 (by decide)) (ST17 h222 h224 h225 h226 h227) (GON h222 (by decide)
   h189)))⟩))⟩))⟩))))))))⟩))⟩), (fun h230 => ⟨(fun h231 => ⟨(RBe h231 (by decide)), (fun x349 => (fun h232 => ⟨_, RDM h232 (RBe h231 (by decide)), ⟨(fun h233 => ⟨(RBe h231
   (by decide)), (fun x351 => (fun h234 => ⟨_, RDM h234 (RBe h231 (by decide)), (fun x353 => (fun h235 => ⟨(fun h236 => ⟨(RAe h231 (by decide)), (fun x354 => (fun h237 =>
   ⟨(LEN h237 (RAe h231 (by decide))), (fun x355 => (fun h238 => ⟨⟨⟨trivial, trivial⟩, ⟨⟨trivial, trivial⟩, ⟨⟨rfl, trivial⟩, ⟨trivial, ⟨trivial, ⟨trivial, ⟨trivial,
   ⟨trivial, ⟨trivial, ⟨trivial, ⟨trivial, ⟨trivial, ⟨trivial, ⟨trivial, ⟨trivial, ⟨trivial, ⟨trivial, ⟨trivial, ⟨trivial, ⟨trivial, ⟨trivial, ⟨trivial, ⟨trivial,
   trivial⟩⟩⟩⟩⟩⟩⟩⟩⟩⟩⟩⟩⟩⟩⟩⟩⟩⟩⟩⟩⟩⟩⟩, (LF (WU h238 h237 (RAe h231 (by decide))) (step_st hok hiM (HFn fun h => absurd h hnn) (NE0 h231 (by decide)) (ST18p h231 h233 h235 h236)
   (GON h231 (by decide) h189)))⟩))⟩))⟩), (fun h239 => ⟨(RAe h231 (by decide)), (fun x359 => (fun h240 => ⟨(LEN h240 (RAe h231 (by decide))), (fun x360 => (fun h241 =>
   ⟨⟨⟨trivial, trivial⟩, ⟨⟨trivial, trivial⟩, ⟨⟨rfl, trivial⟩, ⟨trivial, ⟨trivial, ⟨trivial, ⟨trivial, ⟨trivial, ⟨trivial, ⟨trivial, ⟨trivial, ⟨trivial, ⟨trivial, ⟨trivial,
   ⟨trivial, ⟨trivial, ⟨trivial, ⟨trivial, ⟨trivial, ⟨trivial, ⟨trivial, ⟨trivial, ⟨trivial, trivial⟩⟩⟩⟩⟩⟩⟩⟩⟩⟩⟩⟩⟩⟩⟩⟩⟩⟩⟩⟩⟩⟩⟩, (LF (WU h241 h240 (RAe h231 (by decide)))
   (step_st hok hiM (HFn fun h => absurd h hnn) (NE0 h231 (by decide)) (ST18n h231 h235 h239) (GON h231 (by decide) h189)))⟩))⟩))⟩)⟩))⟩))⟩), (fun h242 => ⟨(RAe h231 (by
   decide)), (fun x364 => (fun h243 => ⟨(LEN h243 (RAe h231 (by decide))), (fun x365 => (fun h244 => ⟨⟨⟨trivial, trivial⟩, ⟨⟨trivial, trivial⟩, ⟨⟨rfl, trivial⟩, ⟨trivial,
   ⟨trivial, ⟨trivial, ⟨trivial, ⟨trivial, ⟨trivial, ⟨trivial, ⟨trivial, ⟨trivial, ⟨trivial, ⟨trivial, ⟨trivial, ⟨trivial, ⟨trivial, ⟨trivial, ⟨trivial, ⟨trivial, ⟨trivial,
   ⟨trivial, ⟨trivial, trivial⟩⟩⟩⟩⟩⟩⟩⟩⟩⟩⟩⟩⟩⟩⟩⟩⟩⟩⟩⟩⟩⟩⟩, (LF (WU h244 h243 (RAe h231 (by decide))) (step_st hok hiM (HFn fun h => absurd h hnn) (NE0 h231 (by decide)) (st18m
   h231 h242) (GON h231 (by decide) h189)))⟩))⟩))⟩)⟩⟩))⟩), (fun h245 => ⟨(fun h246 => (LF hx (step_jp hok hiM (.inl h246) (go19 h246)))), (fun h247 => ⟨(fun h248 => ⟨(RBe
   h248 (by decide)), (fun x372 => (fun h249 => ⟨_, RDM h249 (RBe h248 (by decide)), ⟨(fun h250 => ⟨(fun h251 => ⟨⟨trivial, ⟨trivial, ⟨trivial, ⟨trivial, ⟨trivial, ⟨trivial,
   ⟨trivial, ⟨trivial, ⟨trivial, ⟨trivial, trivial⟩⟩⟩⟩⟩⟩⟩⟩⟩⟩, (LF hx (step_jp hok hiM (.inr (.inl h248)) (go20z h248 h250)))⟩), (fun h252 => absurd h248 h252)⟩), (fun h253
   => ⟨(fun h254 => ⟨⟨trivial, ⟨trivial, ⟨trivial, ⟨trivial, ⟨trivial, ⟨trivial, ⟨trivial, ⟨trivial, ⟨trivial, ⟨trivial, trivial⟩⟩⟩⟩⟩⟩⟩⟩⟩⟩, (LF hx (step_jp hok hiM (.inr
   (.inl h248)) (go20n h248 h253 hpM h189)))⟩), (fun h255 => absurd h248 h255)⟩)⟩⟩))⟩), (fun h256 => ⟨(fun h257 => ⟨(RBe h257 (by decide)), (fun x386 => (fun h258 => ⟨_, RDM
   h258 (RBe h257 (by decide)), ⟨(fun h259 => ⟨(fun h260 => by omega), (fun h261 => ⟨⟨trivial, ⟨trivial, ⟨trivial, ⟨trivial, ⟨trivial, ⟨trivial, ⟨trivial, ⟨trivial,
   ⟨trivial, ⟨trivial, trivial⟩⟩⟩⟩⟩⟩⟩⟩⟩⟩, (LF hx (step_jp hok hiM (.inr (.inr h257)) (go21z h257 h259 hpM h189)))⟩)⟩), (fun h262 => ⟨(fun h263 => by omega), (fun h264 =>
   ⟨⟨trivial, ⟨trivial, ⟨trivial, ⟨trivial, ⟨trivial, ⟨trivial, ⟨trivial, ⟨trivial, ⟨trivial, ⟨trivial, trivial⟩⟩⟩⟩⟩⟩⟩⟩⟩⟩, (LF hx (step_jp hok hiM (.inr (.inr h257)) (go21n
   h257 h262)))⟩)⟩)⟩⟩))⟩), (fun h265 => ⟨(fun h266 => ⟨(RBe h266 (by decide)), (fun x400 => (fun h267 => ⟨_, RDM h267 (RBe h266 (by decide)), ⟨(RCe h266 (by decide)), (fun
   x402 => (fun h268 => ⟨_, RDM h268 (RCe h266 (by decide)), (fun x404 => (fun h269 => ⟨(RAe h266 (by decide)), (fun x405 => (fun h270 => ⟨(LEN h270 (RAe h266 (by decide))),
   (fun x406 => (fun h271 => ⟨⟨⟨trivial, trivial⟩, ⟨⟨trivial, trivial⟩, ⟨⟨rfl, trivial⟩, ⟨trivial, ⟨trivial, ⟨trivial, ⟨trivial, ⟨trivial, ⟨trivial, ⟨trivial, ⟨trivial,
   ⟨trivial, ⟨trivial, ⟨trivial, ⟨trivial, ⟨trivial, ⟨trivial, ⟨trivial, ⟨trivial, ⟨trivial, trivial⟩⟩⟩⟩⟩⟩⟩⟩⟩⟩⟩⟩⟩⟩⟩⟩⟩⟩⟩⟩, (LF (WR h271 h270 (RAe h266 (by decide))) (step_st
   hok hiM (HFn fun h => absurd h hnn) (NE0 h266 (by decide)) (st3 h266 h269) (GON h266 (by decide) h189)))⟩))⟩))⟩))⟩))⟩⟩))⟩), (fun h272 => ⟨(fun h273 => ⟨(RBe h273 (by
   decide)), (fun x410 => (fun h274 => ⟨_, RDM h274 (RBe h273 (by decide)), ⟨(RCe h273 (by decide)), (fun x412 => (fun h275 => ⟨_, RDM h275 (RCe h273 (by decide)), (fun x414
   => (fun h276 => ⟨(RAe h273 (by decide)), (fun x415 => (fun h277 => ⟨(LEN h277 (RAe h273 (by decide))), (fun x416 => (fun h278 => ⟨⟨⟨trivial, trivial⟩, ⟨⟨trivial,
   trivial⟩, ⟨⟨rfl, trivial⟩, ⟨trivial, ⟨trivial, ⟨trivial, ⟨trivial, ⟨trivial, ⟨trivial, ⟨trivial, ⟨trivial, ⟨trivial, ⟨trivial, ⟨trivial, ⟨trivial, ⟨trivial, ⟨trivial,
   ⟨trivial, ⟨trivial, ⟨trivial, trivial⟩⟩⟩⟩⟩⟩⟩⟩⟩⟩⟩⟩⟩⟩⟩⟩⟩⟩⟩⟩, (LF (WR h278 h277 (RAe h273 (by decide))) (step_st hok hiM (HFn fun h => absurd h hnn) (NE0 h273 (by decide))
   (st4 h273 h276) (GON h273 (by decide) h189)))⟩))⟩))⟩))⟩))⟩⟩))⟩), (fun h279 => ⟨(fun h280 => ⟨(RBe h280 (by decide)), (fun x420 => (fun h281 => ⟨_, RDM h281 (RBe h280 (by
   decide)), ⟨(RCe h280 (by decide)), (fun x422 => (fun h282 => ⟨_, RDM h282 (RCe h280 (by decide)), (fun x424 => (fun h283 => ⟨(RAe h280 (by decide)), (fun x425 => (fun
   h284 => ⟨(LEN h284 (RAe h280 (by decide))), (fun x426 => (fun h285 => ⟨⟨⟨trivial, trivial⟩, ⟨⟨trivial, trivial⟩, ⟨⟨rfl, trivial⟩, ⟨trivial, ⟨trivial, ⟨trivial, ⟨trivial,
   ⟨trivial, ⟨trivial, ⟨trivial, ⟨trivial, ⟨trivial, ⟨trivial, ⟨trivial, ⟨trivial, ⟨trivial, ⟨trivial, ⟨trivial, ⟨trivial, ⟨trivial, trivial⟩⟩⟩⟩⟩⟩⟩⟩⟩⟩⟩⟩⟩⟩⟩⟩⟩⟩⟩⟩, (LF (WR
   h285 h284 (RAe h280 (by decide))) (step_st hok hiM (HFn fun h => absurd h hnn) (NE0 h280 (by decide)) (st5 h280 h283) (GON h280 (by decide) h189)))⟩))⟩))⟩))⟩))⟩⟩))⟩),
   (fun h286 => ⟨(fun h287 => ⟨(RBe h287 (by decide)), (fun x430 => (fun h288 => ⟨_, RDM h288 (RBe h287 (by decide)), ⟨(RCe h287 (by decide)), (fun x432 => (fun h289 => ⟨_,
   RDM h289 (RCe h287 (by decide)), ⟨(fun h290 => ⟨(RAe h287 (by decide)), (fun x434 => (fun h291 => ⟨(LEN h291 (RAe h287 (by decide))), (fun x435 => (fun h292 =>
   ⟨⟨⟨trivial, trivial⟩, ⟨⟨trivial, trivial⟩, ⟨⟨rfl, trivial⟩, ⟨trivial, ⟨trivial, ⟨trivial, ⟨trivial, ⟨trivial, ⟨trivial, ⟨trivial, ⟨trivial, ⟨trivial, ⟨trivial, ⟨trivial,
   ⟨trivial, ⟨trivial, ⟨trivial, ⟨trivial, ⟨trivial, ⟨trivial, trivial⟩⟩⟩⟩⟩⟩⟩⟩⟩⟩⟩⟩⟩⟩⟩⟩⟩⟩⟩⟩, (LF (WU h292 h291 (RAe h287 (by decide))) (step_st hok hiM (HFn fun h => absurd h
   hnn) (NE0 h287 (by decide)) (st6z h287 h290) (GON h287 (by decide) h189)))⟩))⟩))⟩), (fun h293 => ⟨h293, (fun x439 => (fun h294 => ⟨(RAe h287 (by decide)), (fun x440 =>
   (fun h295 => ⟨(LEN h295 (RAe h287 (by decide))), (fun x441 => (fun h296 => ⟨⟨⟨trivial, trivial⟩, ⟨⟨trivial, trivial⟩, ⟨⟨rfl, trivial⟩, ⟨trivial, ⟨trivial, ⟨trivial,
   ⟨trivial, ⟨trivial, ⟨trivial, ⟨trivial, ⟨trivial, ⟨trivial, ⟨trivial, ⟨trivial, ⟨trivial, ⟨trivial, ⟨trivial, ⟨trivial, ⟨trivial, ⟨trivial, trivial⟩⟩⟩⟩⟩⟩⟩⟩⟩⟩⟩⟩⟩⟩⟩⟩⟩⟩⟩⟩,
   (LF (WR h296 h295 (RAe h287 (by decide))) (step_st hok hiM (HFn fun h => absurd h hnn) (NE0 h287 (by decide)) (st6n h287 h293 h294) (GON h287 (by decide)
   h189)))⟩))⟩))⟩))⟩)⟩⟩))⟩⟩))⟩), (fun h297 => ⟨(fun h298 => ⟨(RBe h298 (by decide)), (fun x445 => (fun h299 => ⟨_, RDM h299 (RBe h298 (by decide)), ⟨(RCe h298 (by decide)),
   (fun x447 => (fun h300 => ⟨_, RDM h300 (RCe h298 (by decide)), ⟨(fun h301 => ⟨(RAe h298 (by decide)), (fun x449 => (fun h302 => ⟨(LEN h302 (RAe h298 (by decide))), (fun
   x450 => (fun h303 => ⟨⟨⟨trivial, trivial⟩, ⟨⟨trivial, trivial⟩, ⟨⟨rfl, trivial⟩, ⟨trivial, ⟨trivial, ⟨trivial, ⟨trivial, ⟨trivial, ⟨trivial, ⟨trivial, ⟨trivial, ⟨trivial,
   ⟨trivial, ⟨trivial, ⟨trivial, ⟨trivial, ⟨trivial, ⟨trivial, ⟨trivial, ⟨trivial, trivial⟩⟩⟩⟩⟩⟩⟩⟩⟩⟩⟩⟩⟩⟩⟩⟩⟩⟩⟩⟩, (LF (WU h303 h302 (RAe h298 (by decide))) (step_st hok hiM
   (HFn fun h => absurd h hnn) (NE0 h298 (by decide)) (st7z h298 h301) (GON h298 (by decide) h189)))⟩))⟩))⟩), (fun h304 => ⟨h304, (fun x454 => (fun h305 => ⟨(RAe h298 (by
   decide)), (fun x455 => (fun h306 => ⟨(LEN h306 (RAe h298 (by decide))), (fun x456 => (fun h307 => ⟨⟨⟨trivial, trivial⟩, ⟨⟨trivial, trivial⟩, ⟨⟨rfl, trivial⟩, ⟨trivial,
   ⟨trivial, ⟨trivial, ⟨trivial, ⟨trivial, ⟨trivial, ⟨trivial, ⟨trivial, ⟨trivial, ⟨trivial, ⟨trivial, ⟨trivial, ⟨trivial, ⟨trivial, ⟨trivial, ⟨trivial, ⟨trivial,
   trivial⟩⟩⟩⟩⟩⟩⟩⟩⟩⟩⟩⟩⟩⟩⟩⟩⟩⟩⟩⟩, (LF (WR h307 h306 (RAe h298 (by decide))) (step_st hok hiM (HFn fun h => absurd h hnn) (NE0 h298 (by decide)) (st7n h298 h304 h305) (GON h298
   (by decide) h189)))⟩))⟩))⟩))⟩)⟩⟩))⟩⟩))⟩), (fun h308 => ⟨(fun h309 => ⟨(RBe h309 (by decide)), (fun x460 => (fun h310 => ⟨_, RDM h310 (RBe h309 (by decide)), ⟨(RCe h309
   (by decide)), (fun x462 => (fun h311 => ⟨_, RDM h311 (RCe h309 (by decide)), ⟨(fun h312 => ⟨(RAe h309 (by decide)), (fun x464 => (fun h313 => ⟨(LEN h313 (RAe h309 (by
   decide))), (fun x465 => (fun h314 => ⟨⟨⟨trivial, trivial⟩, ⟨⟨trivial, trivial⟩, ⟨⟨rfl, trivial⟩, ⟨trivial, ⟨trivial, ⟨trivial, ⟨trivial, ⟨trivial, ⟨trivial, ⟨trivial,
   ⟨trivial, ⟨trivial, ⟨trivial, ⟨trivial, ⟨trivial, ⟨trivial, ⟨trivial, ⟨trivial, ⟨trivial, ⟨trivial, trivial⟩⟩⟩⟩⟩⟩⟩⟩⟩⟩⟩⟩⟩⟩⟩⟩⟩⟩⟩⟩, (LF (WU h314 h313 (RAe h309 (by decide)))
   (step_st hok hiM (HFn fun h => absurd h hnn) (NE0 h309 (by decide)) (st8p h309 h312) (GON h309 (by decide) h189)))⟩))⟩))⟩), (fun h315 => ⟨(RAe h309 (by decide)), (fun
   x469 => (fun h316 => ⟨(LEN h316 (RAe h309 (by decide))), (fun x470 => (fun h317 => ⟨⟨⟨trivial, trivial⟩, ⟨⟨trivial, trivial⟩, ⟨⟨rfl, trivial⟩, ⟨trivial, ⟨trivial,
   ⟨trivial, ⟨trivial, ⟨trivial, ⟨trivial, ⟨trivial, ⟨trivial, ⟨trivial, ⟨trivial, ⟨trivial, ⟨trivial, ⟨trivial, ⟨trivial, ⟨trivial, ⟨trivial, ⟨trivial,
   trivial⟩⟩⟩⟩⟩⟩⟩⟩⟩⟩⟩⟩⟩⟩⟩⟩⟩⟩⟩⟩, (LF (WU h317 h316 (RAe h309 (by decide))) (step_st hok hiM (HFn fun h => absurd h hnn) (NE0 h309 (by decide)) (st8n h309 h315) (GON h309 (by
   decide) h189)))⟩))⟩))⟩)⟩⟩))⟩⟩))⟩), (fun h318 => ⟨(fun h319 => ⟨(RBe h319 (by decide)), (fun x474 => (fun h320 => ⟨_, RDM h320 (RBe h319 (by decide)), ⟨(RCe h319 (by
   decide)), (fun x476 => (fun h321 => ⟨_, RDM h321 (RCe h319 (by decide)), ⟨(fun h322 => ⟨(RAe h319 (by decide)), (fun x478 => (fun h323 => ⟨(LEN h323 (RAe h319 (by
   decide))), (fun x479 => (fun h324 => ⟨⟨⟨trivial, trivial⟩, ⟨⟨trivial, trivial⟩, ⟨⟨rfl, trivial⟩, ⟨trivial, ⟨trivial, ⟨trivial, ⟨trivial, ⟨trivial, ⟨trivial, ⟨trivial,
   ⟨trivial, ⟨trivial, ⟨trivial, ⟨trivial, ⟨trivial, ⟨trivial, ⟨trivial, ⟨trivial, ⟨trivial, ⟨trivial, trivial⟩⟩⟩⟩⟩⟩⟩⟩⟩⟩⟩⟩⟩⟩⟩⟩⟩⟩⟩⟩, (LF (WU h324 h323 (RAe h319 (by decide)))
   (step_st hok hiM (HFn fun h => absurd h hnn) (NE0 h319 (by decide)) (st9p h319 h322) (GON h319 (by decide) h189)))⟩))⟩))⟩), (fun h325 => ⟨(RAe h319 (by decide)), (fun
   x483 => (fun h326 => ⟨(LEN h326 (RAe h319 (by decide))), (fun x484 => (fun h327 => ⟨⟨⟨trivial, trivial⟩, ⟨⟨trivial, trivial⟩, ⟨⟨rfl, trivial⟩, ⟨trivial, ⟨trivial,
   ⟨trivial, ⟨trivial, ⟨trivial, ⟨trivial, ⟨trivial, ⟨trivial, ⟨trivial, ⟨trivial, ⟨trivial, ⟨trivial, ⟨trivial, ⟨trivial, ⟨trivial, ⟨trivial, ⟨trivial,
   trivial⟩⟩⟩⟩⟩⟩⟩⟩⟩⟩⟩⟩⟩⟩⟩⟩⟩⟩⟩⟩, (LF (WU h327 h326 (RAe h319 (by decide))) (step_st hok hiM (HFn fun h => absurd h hnn) (NE0 h319 (by decide)) (st9n h319 h325) (GON h319 (by
   decide) h189)))⟩))⟩))⟩)⟩⟩))⟩⟩))⟩), (fun h328 => ⟨(fun h329 => ⟨(RBe h329 (by decide)), (fun x488 => (fun h330 => ⟨_, RDM h330 (RBe h329 (by decide)), ⟨(RCe h329 (by
   decide)), (fun x490 => (fun h331 => ⟨_, RDM h331 (RCe h329 (by decide)), ⟨(fun h332 => ⟨(RAe h329 (by decide)), (fun x492 => (fun h333 => ⟨(LEN h333 (RAe h329 (by
   decide))), (fun x493 => (fun h334 => ⟨⟨⟨trivial, trivial⟩, ⟨⟨trivial, trivial⟩, ⟨⟨rfl, trivial⟩, ⟨trivial, ⟨trivial, ⟨trivial, ⟨trivial, ⟨trivial, ⟨trivial, ⟨trivial,
   ⟨trivial, ⟨trivial, ⟨trivial, ⟨trivial, ⟨trivial, ⟨trivial, ⟨trivial, ⟨trivial, ⟨trivial, ⟨trivial, trivial⟩⟩⟩⟩⟩⟩⟩⟩⟩⟩⟩⟩⟩⟩⟩⟩⟩⟩⟩⟩, (LF (WU h334 h333 (RAe h329 (by decide)))
   (step_st hok hiM (HFn fun h => absurd h hnn) (NE0 h329 (by decide)) (st10p h329 h332) (GON h329 (by decide) h189)))⟩))⟩))⟩), (fun h335 => ⟨(RAe h329 (by decide)), (fun
   x497 => (fun h336 => ⟨(LEN h336 (RAe h329 (by decide))), (fun x498 => (fun h337 => ⟨⟨⟨trivial, trivial⟩, ⟨⟨trivial, trivial⟩, ⟨⟨rfl, trivial⟩, ⟨trivial, ⟨trivial,
   ⟨trivial, ⟨trivial, ⟨trivial, ⟨trivial, ⟨trivial, ⟨trivial, ⟨trivial, ⟨trivial, ⟨trivial, ⟨trivial, ⟨trivial, ⟨trivial, ⟨trivial, ⟨trivial, ⟨trivial,
   trivial⟩⟩⟩⟩⟩⟩⟩⟩⟩⟩⟩⟩⟩⟩⟩⟩⟩⟩⟩⟩, (LF (WU h337 h336 (RAe h329 (by decide))) (step_st hok hiM (HFn fun h => absurd h hnn) (NE0 h329 (by decide)) (st10n h329 h335) (GON h329 (by
   decide) h189)))⟩))⟩))⟩)⟩⟩))⟩⟩))⟩), (fun h338 => ⟨(fun h339 => ⟨(RBe h339 (by decide)), (fun x502 => (fun h340 => ⟨_, RDM h340 (RBe h339 (by decide)), ⟨(RCe h339 (by
   decide)), (fun x504 => (fun h341 => ⟨_, RDM h341 (RCe h339 (by decide)), ⟨(fun h342 => ⟨(RAe h339 (by decide)), (fun x506 => (fun h343 => ⟨(LEN h343 (RAe h339 (by
   decide))), (fun x507 => (fun h344 => ⟨⟨⟨trivial, trivial⟩, ⟨⟨trivial, trivial⟩, ⟨⟨rfl, trivial⟩, ⟨trivial, ⟨trivial, ⟨trivial, ⟨trivial, ⟨trivial, ⟨trivial, ⟨trivial,
   ⟨trivial, ⟨trivial, ⟨trivial, ⟨trivial, ⟨trivial, ⟨trivial, ⟨trivial, ⟨trivial, ⟨trivial, ⟨trivial, trivial⟩⟩⟩⟩⟩⟩⟩⟩⟩⟩⟩⟩⟩⟩⟩⟩⟩⟩⟩⟩, (LF (WU h344 h343 (RAe h339 (by decide)))
   (step_st hok hiM (HFn fun h => absurd h hnn) (NE0 h339 (by decide)) (st11p h339 h342) (GON h339 (by decide) h189)))⟩))⟩))⟩), (fun h345 => ⟨(RAe h339 (by decide)), (fun
   x511 => (fun h346 => ⟨(LEN h346 (RAe h339 (by decide))), (fun x512 => (fun h347 => ⟨⟨⟨trivial, trivial⟩, ⟨⟨trivial, trivial⟩, ⟨⟨rfl, trivial⟩, ⟨trivial, ⟨trivial,
   ⟨trivial, ⟨trivial, ⟨trivial, ⟨trivial, ⟨trivial, ⟨trivial, ⟨trivial, ⟨trivial, ⟨trivial, ⟨trivial, ⟨trivial, ⟨trivial, ⟨trivial, ⟨trivial, ⟨trivial,
   trivial⟩⟩⟩⟩⟩⟩⟩⟩⟩⟩⟩⟩⟩⟩⟩⟩⟩⟩⟩⟩, (LF (WU h347 h346 (RAe h339 (by decide))) (step_st hok hiM (HFn fun h => absurd h hnn) (NE0 h339 (by decide)) (st11n h339 h345) (GON h339 (by
   decide) h189)))⟩))⟩))⟩)⟩⟩))⟩⟩))⟩), (fun h348 => ⟨(fun h349 => ⟨(RBe h349 (by decide)), (fun x516 => (fun h350 => ⟨_, RDM h350 (RBe h349 (by decide)), ⟨(RCe h349 (by
   decide)), (fun x518 => (fun h351 => ⟨_, RDM h351 (RCe h349 (by decide)), ⟨(fun h352 => ⟨(fun h353 => ⟨(RAe h349 (by decide)), (fun x520 => (fun h354 => ⟨(LEN h354 (RAe
   h349 (by decide))), (fun x521 => (fun h355 => ⟨⟨⟨trivial, trivial⟩, ⟨⟨trivial, trivial⟩, ⟨⟨rfl, trivial⟩, ⟨trivial, ⟨trivial, ⟨trivial, ⟨trivial, ⟨trivial, ⟨trivial,
   ⟨trivial, ⟨trivial, ⟨trivial, ⟨trivial, ⟨trivial, ⟨trivial, ⟨trivial, ⟨trivial, ⟨trivial, ⟨trivial, ⟨trivial, trivial⟩⟩⟩⟩⟩⟩⟩⟩⟩⟩⟩⟩⟩⟩⟩⟩⟩⟩⟩⟩, (LF (WU h355 h354 (RAe h349 (by
   decide))) (step_st hok hiM (HFn fun h => absurd h hnn) (NE0 h349 (by decide)) (st12p h349 h352 h353) (GON h349 (by decide) h189)))⟩))⟩))⟩), (fun h356 => ⟨(RAe h349 (by
   decide)), (fun x525 => (fun h357 => ⟨(LEN h357 (RAe h349 (by decide))), (fun x526 => (fun h358 => ⟨⟨⟨trivial, trivial⟩, ⟨⟨trivial, trivial⟩, ⟨⟨rfl, trivial⟩, ⟨trivial,
   ⟨trivial, ⟨trivial, ⟨trivial, ⟨trivial, ⟨trivial, ⟨trivial, ⟨trivial, ⟨trivial, ⟨trivial, ⟨trivial, ⟨trivial, ⟨trivial, ⟨trivial, ⟨trivial, ⟨trivial, ⟨trivial,
   trivial⟩⟩⟩⟩⟩⟩⟩⟩⟩⟩⟩⟩⟩⟩⟩⟩⟩⟩⟩⟩, (LF (WU h358 h357 (RAe h349 (by decide))) (step_st hok hiM (HFn fun h => absurd h hnn) (NE0 h349 (by decide)) (st12n h349 h356) (GON h349 (by
   decide) h189)))⟩))⟩))⟩)⟩), (fun h359 => ⟨(RAe h349 (by decide)), (fun x530 => (fun h360 => ⟨(LEN h360 (RAe h349 (by decide))), (fun x531 => (fun h361 => ⟨⟨⟨trivial,
   trivial⟩, ⟨⟨trivial, trivial⟩, ⟨⟨rfl, trivial⟩, ⟨trivial, ⟨trivial, ⟨trivial, ⟨trivial, ⟨trivial, ⟨trivial, ⟨trivial, ⟨trivial, ⟨trivial, ⟨trivial, ⟨trivial, ⟨trivial,
   ⟨trivial, ⟨trivial, ⟨trivial, ⟨trivial, ⟨trivial, trivial⟩⟩⟩⟩⟩⟩⟩⟩⟩⟩⟩⟩⟩⟩⟩⟩⟩⟩⟩⟩, (LF (WU h361 h360 (RAe h349 (by decide))) (step_st hok hiM (HFn fun h => absurd h hnn) (NE0
   h349 (by decide)) (st12m h349 h359) (GON h349 (by decide) h189)))⟩))⟩))⟩)⟩⟩))⟩⟩))⟩), (fun h362 => ⟨(fun h363 => ⟨(RBe h363 (by decide)), (fun x535 => (fun h364 => ⟨_, RDM
   h364 (RBe h363 (by decide)), ⟨(RCe h363 (by decide)), (fun x537 => (fun h365 => ⟨_, RDM h365 (RCe h363 (by decide)), ⟨(fun h366 => ⟨(RAe h363 (by decide)), (fun x539 =>
   (fun h367 => ⟨(LEN h367 (RAe h363 (by decide))), (fun x540 => (fun h368 => ⟨⟨⟨trivial, trivial⟩, ⟨⟨trivial, trivial⟩, ⟨⟨rfl, trivial⟩, ⟨trivial, ⟨trivial, ⟨trivial,
   ⟨trivial, ⟨trivial, ⟨trivial, ⟨trivial, ⟨trivial, ⟨trivial, ⟨trivial, ⟨trivial, ⟨trivial, ⟨trivial, ⟨trivial, ⟨trivial, ⟨trivial, ⟨trivial, trivial⟩⟩⟩⟩⟩⟩⟩⟩⟩⟩⟩⟩⟩⟩⟩⟩⟩⟩⟩⟩,
   (LF (WU h368 h367 (RAe h363 (by decide))) (step_st hok hiM (HFn fun h => absurd h hnn) (NE0 h363 (by decide)) (st13p h363 h366) (GON h363 (by decide) h189)))⟩))⟩))⟩),
   (fun h369 => ⟨(fun h370 => ⟨(RAe h363 (by decide)), (fun x544 => (fun h371 => ⟨(LEN h371 (RAe h363 (by decide))), (fun x545 => (fun h372 => ⟨⟨⟨trivial, trivial⟩,
   ⟨⟨trivial, trivial⟩, ⟨⟨rfl, trivial⟩, ⟨trivial, ⟨trivial, ⟨trivial, ⟨trivial, ⟨trivial, ⟨trivial, ⟨trivial, ⟨trivial, ⟨trivial, ⟨trivial, ⟨trivial, ⟨trivial, ⟨trivial,
   ⟨trivial, ⟨trivial, ⟨trivial, ⟨trivial, trivial⟩⟩⟩⟩⟩⟩⟩⟩⟩⟩⟩⟩⟩⟩⟩⟩⟩⟩⟩⟩, (LF (WU h372 h371 (RAe h363 (by decide))) (step_st hok hiM (HFn fun h => absurd h hnn) (NE0 h363 (by
   decide)) (st13q h363 h370) (GON h363 (by decide) h189)))⟩))⟩))⟩), (fun h373 => ⟨(RAe h363 (by decide)), (fun x549 => (fun h374 => ⟨(LEN h374 (RAe h363 (by decide))), (fun
   x550 => (fun h375 => ⟨⟨⟨trivial, trivial⟩, ⟨⟨trivial, trivial⟩, ⟨⟨rfl, trivial⟩, ⟨trivial, ⟨trivial, ⟨trivial, ⟨trivial, ⟨trivial, ⟨trivial, ⟨trivial, ⟨trivial, ⟨trivial,
   ⟨trivial, ⟨trivial, ⟨trivial, ⟨trivial, ⟨trivial, ⟨trivial, ⟨trivial, ⟨trivial, trivial⟩⟩⟩⟩⟩⟩⟩⟩⟩⟩⟩⟩⟩⟩⟩⟩⟩⟩⟩⟩, (LF (WU h375 h374 (RAe h363 (by decide))) (step_st hok hiM
   (HFn fun h => absurd h hnn) (NE0 h363 (by decide)) (st13n h363 h369 h373) (GON h363 (by decide) h189)))⟩))⟩))⟩)⟩)⟩⟩))⟩⟩))⟩), (fun h376 => by
   omega)⟩)⟩)⟩)⟩)⟩)⟩)⟩)⟩)⟩)⟩)⟩)⟩)⟩)⟩)⟩)⟩)⟩)⟩)⟩)⟩)⟩)⟩)))⟩
theorem s_step : SpecOK Tryz.prog S_step.spec := fun a K ⟨⟨xs, hx, hl, hw⟩, hb, ⟨cs, hc⟩, hp⟩ hq => specD_at (an := []) envOK (cwN_ok (fun _ h => cwD_ok s_right (cwD_ok s_far h)) 3) (fun _ => g_step a xs cs hx hl hw hb hc hp) K ⟨⟨xs, hx, hl, hw⟩, hb, ⟨cs, hc⟩, hp⟩ hq
end Go.Proofs.YtdjnipabfbblnaaGreatDoor
