/- A game's rules: Turn is what is told of it. -/
import Derived.Test.YtdjnipabfbblnaaGreatDoorYeqP
import Derived.Test.YtdjnipabfbblnaaGreatDoorYmo
section
set_option maxRecDepth 100000
namespace Go.Proofs.YtdjnipabfbblnaaGreatDoor
open Go.Ev
set_option linter.unusedSectionVars false
variable [Go.Ev.Frozen Tryz.prog]
set_option maxHeartbeats 3200000 in
abbrev QYgtP_6 (a0 : SA) (a1 : List Int) : Prop := Sli (Value.int IntKind.i32) 2 a0.1 a0.2 a0.3 a0.4 a0.5 a1
abbrev QYgtP_5 (a0 : SA) (a1 : List Int) : Prop := Sli (Value.int IntKind.i64) 4 a0.1 a0.2 a0.3 a0.4 a0.5 a1
abbrev QYgtP_1 (a0 : GpA) (a1 : Int) : Prop := ∀ (b0 : PX) (b1 b2 : List Int), PH a0.2 b0 → QYgtP_6 a0.1.2 b1 → QYgtP_5 a0.1.3.6 b2 → a1 = turnC a0 b0 b1 b2
abbrev QYgtP_2 (a0 : CdA) : Prop := True ∧ a0.1 = a0.1 ∧ a0.2 = a0.2 ∧ Z4 a0.3 ∧ Z4 a0.4 ∧ Z4 a0.5 ∧ Z4 a0.6 ∧ Z4 a0.7 ∧ Z4 a0.8 ∧ Z4 a0.9 ∧ a0.10 = a0.10 ∧ a0.11 = a0.11 ∧ a0.12 =
 a0.12 ∧ a0.13 = a0.13 ∧ a0.14 = a0.14 ∧ True
abbrev QYgtP_3 : Prop := True ∧ True ∧ True ∧ True ∧ True ∧ True ∧ True ∧ True ∧ True ∧ (True ∧ True) ∧ (True ∧ True ∧ True) ∧ True ∧ True ∧ True
abbrev QYgtP_4 (a0 : GmA) : Prop := (True ∧ True ∧ Z4 a0.1 ∧ True ∧ True ∧ True ∧ True ∧ True ∧ True ∧ True ∧ True ∧ 0 = 0 ∧ True ∧ Z4 a0.2 ∧ True) ∧ ZF a0.1.5 ∧ ZF a0.2.5 ∧
 QYgtP_2 a0.3 ∧ ZF a0.3.3.5 ∧ ZF a0.3.4.5 ∧ ZF a0.3.5.5 ∧ ZF a0.3.6.5 ∧ ZF a0.3.7.5 ∧ ZF a0.3.8.5 ∧ ZF a0.3.9.5 ∧ True
abbrev QYgtP_7 (a0 : SA) (a1 : List Int) : Prop := Sli (Value.int IntKind.i32) 1 a0.1 a0.2 a0.3 a0.4 a0.5 a1
theorem vc_turn (a : GpA) : G_turn a = ((True ∧ gmF a.1 ∧ (∃ (x0 : PX), PH a.2 x0) ∧ (∃ (x1 : List Int), QYgtP_6 a.1.2 x1) ∧ a.2.1.3 ≤ 1000) ∧ ((0 = 0 ∧ (Z4 a.2.1 ∧ Z4 a.2.2 ∧ Z4 a.2.3 ∧ ZR a.2) ∧ True) ∧ (True ∧ True ∧
Z4 a.1.1 ∧ True ∧ True ∧ True ∧ True ∧ True ∧ True ∧ True ∧ True ∧ 0 = 0 ∧ True ∧ Z4 a.1.2 ∧ True) ∧ ZF a.1.1.5 ∧ ZF a.1.2.5 ∧ QYgtP_2 a.1.3 ∧ ZF a.1.3.3.5 ∧ ZF a.1.3.4.5 ∧ ZF
a.1.3.5.5 ∧ ZF a.1.3.6.5 ∧ ZF a.1.3.7.5 ∧ ZF a.1.3.8.5 ∧ ZF a.1.3.9.5 ∧ ZF a.2.1.5 ∧ ZF a.2.2.5 ∧ ZF a.2.3.5 ∧ True) ∧ (∀ (_ : Unit), lenOK (GpA.mk a.1 a.2) ∧ (∀ (x3 : PX) (x4 :
List Int), PH a.2 x3 → QYgtP_6 a.1.2 x4 → inAll x4 x3.1 a.2.1.3 ∧ (rollZ a.2 ∨ rollOK a.1.2.3 a.1.1.3 a.2 x3)) → (¬(a.2.4 = 0 ∧ a.2.5 = 0 ∧ a.2.6 = 0 ∧ a.2.7 = 0 ∧ a.2.8 = 0 ∧
True) → (∃ (x5 : KI), QYgtP_1 a x5.1 ∧ x5.1 = a.2.7 ∧ True)) ∧ (a.2.4 = 0 ∧ a.2.5 = 0 ∧ a.2.6 = 0 ∧ a.2.7 = 0 ∧ a.2.8 = 0 ∧ True → (True ∧ cdP a.1.3 ∧ 0 ≤ a.1.3.11 ∧ (∃ (x9 : List
Int), QYgtP_7 a.2.1 x9 ∧ W32 x9) ∧ (∃ (x10 : List Int), QYgtP_5 a.1.3.6 x10)) ∧ ((0 = 0 ∧ (1 : Int) = 1 ∧ Z4 a.2.1 ∧ (0 = 0 ∧ 0 = 0) ∧ True) ∧ QYgtP_2 a.1.3 ∧ ZF a.1.3.3.5 ∧ ZF
a.1.3.4.5 ∧ ZF a.1.3.5.5 ∧ ZF a.1.3.6.5 ∧ ZF a.1.3.7.5 ∧ ZF a.1.3.8.5 ∧ ZF a.1.3.9.5 ∧ ZF a.2.1.5 ∧ ZF cells4 ∧ True) ∧ (∀ (x11 : KI), (↑a.2.1.3 : Int) = a.1.3.1 ∧ (∀ (x12 x13 :
List Int), QYgtP_7 a.2.1 x12 → QYgtP_5 a.1.3.6 x13 → (lastC x12 (List.replicate 49 (0 : Int)) x13 a.1.3.11).3 = (1 : Int) ∧ x11.1 = List.getD (lastC x12 (List.replicate 49 (0 :
Int)) x13 a.1.3.11).2 (Int.toNat (a.1.3.1 + (4 : Int))) (0 : Int)) → QYgtP_3 ∧ (True ∧ FlatL a.1.1.5 ∧ FlatL a.1.2.5 ∧ cdF a.1.3) ∧ ((0 = 0 ∧ x11.1 = x11.1 ∧ True) ∧ QYgtP_4 a.1) ∧
(∀ (_ : Unit), 0 ≤ x11.1 ∧ x11.1 < (↑a.1.1.3 : Int) → (0 ≤ x11.1 ∧ x11.1 < (↑a.2.2.3 : Int)) ∧ ∀ (x15 : Nat), x15 = a.2.2.2 + Int.toNat x11.1 * 1 → ∃ (x16 : Bool), Rd a.2.2.5
(Nat.add x15 0) (Value.bool x16) ∧ (x16 = true → (∃ (x17 : KI), QYgtP_1 a x17.1 ∧ x17.1 = -1 ∧ True)) ∧ (x16 = false → ∃ (x21 : KI), QYgtP_1 a x21.1 ∧ x21.1 = x11.1 ∧ True)) ∧ (∀
(_ : Unit), (0 ≤ x11.1 ∧ x11.1 < (↑a.1.1.3 : Int) → False) → ∃ (x26 : KI), QYgtP_1 a x26.1 ∧ x26.1 = -1 ∧ True) ∧ True) ∧ (∀ (_ : Unit), (↑a.2.1.3 : Int) = a.1.3.1 ∧ (∀ (x31 x32 :
List Int), QYgtP_7 a.2.1 x31 → QYgtP_5 a.1.3.6 x32 → (lastC x31 (List.replicate 49 (0 : Int)) x32 a.1.3.11).3 = (2 : Int)) → QYgtP_3 ∧ (True ∧ FlatL a.1.1.5 ∧ FlatL a.1.2.5 ∧ cdF
a.1.3) ∧ ((0 = 0 ∧ Int.ofNat 0 = (0 : Int) ∧ True) ∧ QYgtP_4 a.1) ∧ (∀ (_ : Unit), (0 : Int) ≤ Int.ofNat 0 ∧ Int.ofNat 0 < (↑a.1.1.3 : Int) → ((0 : Int) ≤ (0 : Int) ∧ (0 : Int) <
(↑a.2.2.3 : Int)) ∧ ∀ (x34 : Nat), x34 = a.2.2.2 + 0 → ∃ (x35 : Bool), Rd a.2.2.5 (Nat.add x34 0) (Value.bool x35) ∧ (x35 = true → (∃ (x36 : KI), QYgtP_1 a x36.1 ∧ x36.1 = -1 ∧
True)) ∧ (x35 = false → ∃ (x40 : KI), QYgtP_1 a x40.1 ∧ x40.1 = 0 ∧ True)) ∧ (∀ (_ : Unit), ((0 : Int) ≤ Int.ofNat 0 ∧ Int.ofNat 0 < (↑a.1.1.3 : Int) → False) → ∃ (x45 : KI),
QYgtP_1 a x45.1 ∧ x45.1 = -1 ∧ True) ∧ True) ∧ (∀ (_ : Unit), (↑a.2.1.3 : Int) = a.1.3.1 ∧ (∀ (x50 x51 : List Int), QYgtP_7 a.2.1 x50 → QYgtP_5 a.1.3.6 x51 → (lastC x50
(List.replicate 49 (0 : Int)) x51 a.1.3.11).3 ≠ (1 : Int) ∧ (lastC x50 (List.replicate 49 (0 : Int)) x51 a.1.3.11).3 ≠ (2 : Int)) → QYgtP_3 ∧ ∃ (x52 : KI), QYgtP_1 a x52.1 ∧ x52.1
= -1 ∧ True) ∧ (∀ (_ : Unit), ((↑a.2.1.3 : Int) = a.1.3.1 → False) → QYgtP_3 ∧ ∃ (x57 : KI), QYgtP_1 a x57.1 ∧ x57.1 = -1 ∧ True) ∧ True)) ∧ (∀ (_ : Unit), (lenOK (GpA.mk a.1 a.2)
→ False) → ∃ (x62 : KI), QYgtP_1 a x62.1 ∧ x62.1 = -1 ∧ True) ∧ (∀ (_ : Unit), lenOK (GpA.mk a.1 a.2) ∧ (∀ (x67 : PX) (x68 : List Int), PH a.2 x67 → QYgtP_6 a.1.2 x68 → ¬(inAll x68
x67.1 a.2.1.3 ∧ (rollZ a.2 ∨ rollOK a.1.2.3 a.1.1.3 a.2 x67))) → ∃ (x69 : KI), QYgtP_1 a x69.1 ∧ x69.1 = -1 ∧ True) ∧ True) := by kernel_rfl
theorem goneRd {a : PA} {x : PX} (h : PH a x) {n p : Nat} (hn : n < a.s2.l) (e : p = a.s2.o + n) : Rd a.s2.c (Nat.add p 0) (.bool (x.gone.getD n false)) := by
  have hl := h.p2.len
  have hli : n < x.gone.length := by omega
  have := h.p2.at_ n (x.gone.getD n false) (by simp [List.getD, hli])
  rw [show Nat.add p 0 = a.s2.o + n by show p + 0 = _; omega]
  exact this
theorem t_bad {a : GpA} {x : PX} {cs ws : List Int} (h : ¬ okPos a x cs) : turnC a x cs ws = -1 := by unfold turnC; rw [if_pos h]
theorem t_roll {a : GpA} {x : PX} {cs ws : List Int} (h : okPos a x cs) (hz : ¬ rollZ a.p) : turnC a x cs ws = a.p.r3 := by unfold turnC; rw [if_neg (not_not_intro h), if_pos hz]
theorem t_form {a : GpA} {x : PX} {cs ws : List Int} (h : okPos a x cs) (hz : rollZ a.p) (hl : (a.p.s1.l : Int) ≠ a.g.code.cells) : turnC a x cs ws = -1 := by unfold turnC; rw [if_neg (not_not_intro h), if_neg (not_not_intro hz), if_pos hl]
theorem t_err {a : GpA} {x : PX} {cs ws : List Int} (h : okPos a x cs) (hz : rollZ a.p) (hl : (a.p.s1.l : Int) = a.g.code.cells) (hh : (lastC x.vars z49 ws a.g.code.m1).halt ≠ 1 ∧ (lastC x.vars z49 ws a.g.code.m1).halt ≠ 2) : turnC a x cs ws = -1 := by
  unfold turnC; rw [if_neg (not_not_intro h), if_neg (not_not_intro hz), if_neg (not_not_intro hl)]; exact if_pos hh
theorem t_seat {a : GpA} {x : PX} {cs ws : List Int} {n : Int} (h : okPos a x cs) (hz : rollZ a.p) (hl : (a.p.s1.l : Int) = a.g.code.cells)
    (hn : ((lastC x.vars z49 ws a.g.code.m1).halt = 1 ∧ n = (lastC x.vars z49 ws a.g.code.m1).mem.getD (a.g.code.cells + 4).toNat 0) ∨ ((lastC x.vars z49 ws a.g.code.m1).halt = 2 ∧ n = 0)) :
    ((0 ≤ n ∧ n < a.g.stakes.l) ∧ x.gone.getD n.toNat false = false → turnC a x cs ws = n) ∧ (¬ ((0 ≤ n ∧ n < a.g.stakes.l) ∧ x.gone.getD n.toNat false = false) → turnC a x cs ws = -1) := by
  have e : (if (lastC x.vars z49 ws a.g.code.m1).halt = 1 then (lastC x.vars z49 ws a.g.code.m1).mem.getD (a.g.code.cells + 4).toNat 0 else 0) = n := by
    rcases hn with ⟨h1, h2⟩ | ⟨h1, h2⟩
    · rw [if_pos h1, h2]
    · rw [if_neg (by rw [h1]; decide), h2]
  have hh : ¬ ((lastC x.vars z49 ws a.g.code.m1).halt ≠ 1 ∧ (lastC x.vars z49 ws a.g.code.m1).halt ≠ 2) := fun q => by
    rcases hn with ⟨h1, _⟩ | ⟨h1, _⟩
    · exact q.1 h1
    · exact q.2 h1
  unfold turnC
  rw [if_neg (not_not_intro h), if_neg (not_not_intro hz), if_neg (not_not_intro hl)]
  simp only []
  rw [if_neg hh, e]
  exact ⟨fun q => if_pos q, fun q => if_neg q⟩
theorem g_turn (a : GpA) (x : PX) (cs ws : List Int) (hg : gmF a.g) (hcd : cdP a.g.code) (hm1 : 0 ≤ a.g.code.m1) (hl : a.p.s1.l ≤ 1000) (hp : PH a.p x) (hw : W32 x.vars) (hcs : cellsOf a.g cs) (hws : codeOf a.g.code.i1 ws) : G_turn a := by
  have hg0 := hg
  obtain ⟨g1, g2, gc⟩ := hg
  obtain ⟨f1, f2, f3, f4, f5, f6, f7⟩ := gc
  have fo := opsFlat
  have p1 := hp.p1.flat
  have p2 := hp.p2.flat
  have p3 := hp.p3.flat
  have END : ∀ {k : Int}, turnC a x cs ws = k → ∃ z : KI, (∀ (y : PX) (ds us : List Int), PH a.p y → cellsOf a.g ds → codeOf a.g.code.i1 us → z.k = turnC a y ds us) ∧ z.k = k ∧ True := fun h => ⟨⟨_⟩, fun y ds us hy hd hu => by rw [PH.uniq hy hp, Sli.uniqI hd hcs, Sli.uniqI hu hws]; exact h.symm, rfl, trivial⟩
  rw [vc_turn]
  refine ⟨⟨trivial, hg0, ⟨x, hp⟩, ⟨cs, hcs⟩, hl⟩, by repeat' first | with_reducible apply And.intro | exact trivial | exact rfl | assumption, fun _ hok => ?_, fun _ hb => END (t_bad fun q => hb q.1), fun _ hb => END (t_bad fun q => hb.2 x cs hp hcs q.2), trivial⟩
  have hokP : okPos a x cs := ⟨hok.1, hok.2 x cs hp hcs⟩
  have l2 : a.p.s2.l = a.g.stakes.l := hok.1.2.1
  refine ⟨fun hnz => END (t_roll hokP fun q => hnz ⟨q.1, q.2.1, q.2.2.1, q.2.2.2.1, q.2.2.2.2, trivial⟩), fun hz0 => ?_⟩
  have hz : rollZ a.p := ⟨hz0.1, hz0.2.1, hz0.2.2.1, hz0.2.2.2.1, hz0.2.2.2.2.1⟩
  refine ⟨⟨trivial, hcd, hm1, ⟨x.vars, hp.p1, hw⟩, ws, hws⟩, by repeat' first | with_reducible apply And.intro | exact trivial | exact rfl | assumption, fun x11 h11 => ?_, fun _ h30 => ?_, fun _ h49 => ⟨by repeat' first | with_reducible apply And.intro | exact trivial | exact rfl | assumption, END (t_err hokP hz h49.1 (h49.2 _ _ hp.p1 hws))⟩, fun _ h56 => ⟨by repeat' first | with_reducible apply And.intro | exact trivial | exact rfl | assumption, END (t_form hokP hz h56)⟩, trivial⟩
  · have T := t_seat (cs := cs) hokP hz h11.1 (Or.inl (h11.2 _ _ hp.p1 hws))
    refine ⟨by repeat' first | with_reducible apply And.intro | exact trivial | exact rfl | assumption, ⟨trivial, hg0⟩, by repeat' first | with_reducible apply And.intro | exact trivial | exact rfl | assumption, fun _ hs => ⟨⟨hs.1, by show x11.k < (a.p.s2.l : Int); rw [l2]; exact hs.2⟩, fun x15 e15 => ⟨x.gone.getD x11.k.toNat false, goneRd hp ?_ ?_, fun hb => END (T.2 fun q => ?_), fun hb => END (T.1 ⟨hs, hb⟩)⟩⟩, fun _ hs => END (T.2 fun q => hs q.1), trivial⟩
    · have hs1 : x11.k < (a.g.stakes.l : Int) := hs.2
      have hs0 : 0 ≤ x11.k := hs.1
      omega
    · rw [e15, Nat.mul_one]
    · rw [q.2] at hb; cases hb
  · have T := t_seat (cs := cs) (n := 0) hokP hz h30.1 (Or.inr ⟨h30.2 _ _ hp.p1 hws, rfl⟩)
    refine ⟨by repeat' first | with_reducible apply And.intro | exact trivial | exact rfl | assumption, ⟨trivial, hg0⟩, by repeat' first | with_reducible apply And.intro | exact trivial | exact rfl | assumption, fun _ hs => ⟨⟨Int.le_refl 0, by show (0 : Int) < (a.p.s2.l : Int); rw [l2]; exact hs.2⟩, fun x15 e15 => ⟨x.gone.getD 0 false, goneRd hp ?_ e15, fun hb => END (T.2 fun q => ?_), fun hb => END (T.1 ⟨hs, hb⟩)⟩⟩, fun _ hs => END (T.2 fun q => hs q.1), trivial⟩
    · have hs1 : (0 : Int) < (a.g.stakes.l : Int) := hs.2
      omega
    · have q2 : x.gone.getD 0 false = false := q.2
      rw [q2] at hb; cases hb
theorem s_turn : SpecOK Tryz.prog S_turn.spec := fun a K ⟨⟨hg, hcd, hm1, hl⟩, ⟨x, hp, hw⟩, ⟨cs, hcs⟩, ws, hws⟩ hq => specD_at (an := []) envOK (cwN_ok (fun _ h => cwD_ok s_check (cwP_ok s_run1 (cwD_ok s_seat h))) 3) (fun _ => g_turn a x cs ws hg hcd hm1 hl hp hw hcs hws) K ⟨⟨hg, hcd, hm1, hl⟩, ⟨x, hp, hw⟩, ⟨cs, hcs⟩, ws, hws⟩ hq
end Go.Proofs.YtdjnipabfbblnaaGreatDoor
end

/- A program's code: Run of pay (what is to be shown). -/
section
set_option maxRecDepth 100000
namespace Go.Proofs.YtdjnipabfbblnaaGreatDoor
open Go.Ev
-- keep cdP cdF num foldI dnum frm lastC Go.Ev.Sli Go.Ev.HV insAt argP rightP hasC farC stepC okAt twoC truthC W32 runC storeC manyC cells4
set_option linter.unusedSectionVars false
variable [Go.Ev.Frozen Tryz.prog]
end Go.Proofs.YtdjnipabfbblnaaGreatDoor
end

/- A program's code: Run of pay is what is told of it. -/
section
set_option maxRecDepth 100000
namespace Go.Proofs.YtdjnipabfbblnaaGreatDoor
open Go.Ev
set_option linter.unusedSectionVars false
variable [Go.Ev.Frozen Tryz.prog]
end Go.Proofs.YtdjnipabfbblnaaGreatDoor
end

/- A program's code: State of start and silence (what is to be shown). -/
section
set_option maxRecDepth 100000
namespace Go.Proofs.YtdjnipabfbblnaaGreatDoor
open Go.Ev
-- keep cdP cdF num foldI dnum frm lastC Go.Ev.Sli Go.Ev.HV insAt argP rightP hasC farC stepC okAt twoC truthC W32 runC storeC manyC cells4
set_option linter.unusedSectionVars false
variable [Go.Ev.Frozen Tryz.prog]
noncomputable section
def S_stat0 : SpecD where
  f := 85
  α := CdA
  args a := [.pointer (some ⟨13, 0, none⟩), .int .i64 0, .slice none 0 0, .slice none 0 0]
  R a := cdR a 13
  n := 13 + 8
  pre a := cdP a ∧ (a.first.l : Int) = a.cells ∧ ∃ xs, Sli (Value.int .i32) 1 a.first.n a.first.o a.first.l a.first.k a.first.c xs
  outs := [⟨NwO, fun a b => b.l = a.first.l + 49 ∧ ∀ xs, Sli (Value.int .i32) 1 a.first.n a.first.o a.first.l a.first.k a.first.c xs → HE .i32 b.c (xs ++ List.replicate 49 0),
      fun _ b => .tuple ⟨[.agg ⟨[.int .i64 0, tgS (13 + 8) 0 b.l b.l, .int .i64 0]⟩, .int .i64 0]⟩, fun _ b => [(13 + 8, .f b.c 21 .own)], fun _ _ => 13 + 9, fun v _ => renS (13 + 8) (lv (agv (lv (agv v) 0)) 1)⟩]
  pick _ _ := 0
  find l A := cdK A 13 (lv l 0) fun c q => some (c, q)
def G_stat0 (a : CdA) : Prop := fnW Tryz.prog E0 (cwN (fun c => cwP 0 S_fits0 (cwD Tryz.prog S_cwrd (cwD Tryz.prog S_mnew c))) 3) [] S_stat0.f (S_stat0.args a) (mem (S_stat0.R a) S_stat0.n) (endD Tryz.prog S_stat0 a)
def S_stat3 : SpecD where
  f := 85
  α := FtA
  args a := [.pointer (some ⟨13, 0, none⟩), .int .i64 3, a.v.v (13 + 8), a.g.v (13 + 9)]
  R a := cdR a.c 13 ++ [(13 + 8, .f a.v.c 21 .gro), (13 + 9, .f a.g.c 21 .gro)]
  n := 13 + 10
  pre a := (cdP a.c ∧ a.g.l = 1) ∧ (∃ xs, Sli (Value.int .i32) 1 a.v.n a.v.o a.v.l a.v.k a.v.c xs) ∧ ∃ gs, Sli (Value.int .i32) 1 a.g.n a.g.o a.g.l a.g.k a.g.c gs
  outs := [⟨NwO, fun a b => (a.v.l : Int) = a.c.cells ∧ b.l = a.v.l + 49 ∧ ∀ xs gs, Sli (Value.int .i32) 1 a.v.n a.v.o a.v.l a.v.k a.v.c xs → Sli (Value.int .i32) 1 a.g.n a.g.o a.g.l a.g.k a.g.c gs → HE .i32 b.c (xs ++ (gs ++ List.replicate 48 0)),
      fun _ b => .tuple ⟨[.agg ⟨[.int .i64 0, tgS (13 + 10) 0 b.l b.l, .int .i64 0]⟩, .int .i64 0]⟩, fun _ b => [(13 + 10, .f b.c 21 .own)], fun _ _ => 13 + 11, fun v _ => renS (13 + 10) (lv (agv (lv (agv v) 0)) 1)⟩,
    ⟨Unit, fun a _ => (a.v.l : Int) ≠ a.c.cells, fun _ _ => .tuple ⟨[.agg ⟨[.int .i64 0, .slice none 0 0, .int .i64 0]⟩, .int .i64 3]⟩, fun _ _ => [], fun _ _ => 13 + 11, fun _ _ => []⟩]
  pick v _ := match lv (agv v) 1 with
    | .int _ z => Int.rec (fun n => Nat.rec 0 (fun _ _ => 1) n) (fun _ => 0) z
    | _ => 0
  find l A := cdK A 13 (lv l 0) fun c q => saK A (13 + 8) (lv l 2) fun v q2 => saK A (13 + 9) (lv l 3) fun g q3 => some (⟨c, v, g⟩, q ++ (q2 ++ q3))
def G_stat3 (a : FtA) : Prop := fnW Tryz.prog E0 (cwN (fun c => cwP 3 S_fits3 (cwD Tryz.prog S_cwrd (cwD Tryz.prog S_mnew c))) 3) [] S_stat3.f (S_stat3.args a) (mem (S_stat3.R a) S_stat3.n) (endD Tryz.prog S_stat3 a)
end
end Go.Proofs.YtdjnipabfbblnaaGreatDoor
end

/- A program's code: State of start and silence is what is told of it. -/
section
set_option maxRecDepth 100000
namespace Go.Proofs.YtdjnipabfbblnaaGreatDoor
open Go.Ev
set_option linter.unusedSectionVars false
variable [Go.Ev.Frozen Tryz.prog]
abbrev QYmwP_7 (a0 : Int) (a1 : Nat) : Prop := ((0 : Int) ≤ a0 ∧ a0 ≤ (↑a1 : Int) ∧ (↑a1 : Int) ≤ (↑a1 : Int)) ∧ (false = true → (↑a1 : Int) ≤ (↑a1 : Int) ∧ (a0 = (0 : Int) ∨ a0 <
 (↑a1 : Int)))
abbrev QYmwP_4 (a0 : FtA) (a1 : Nat) (a2 : List Value) : Prop := (True ∧ True ∧ True ∧ True ∧ True ∧ True ∧ True ∧ True ∧ True ∧ True ∧ True) ∧ ∃ (b0 : NwO), ((↑a0.2.3 : Int) =
 a0.1.1 ∧ b0.1 = a0.2.3 + 49 ∧ (∀ (b1 b2 : List Int), Sli (Value.int IntKind.i32) 1 a0.2.1 a0.2.2 a0.2.3 a0.2.4 a0.2.5 b1 → Sli (Value.int IntKind.i32) 1 a0.3.1 a0.3.2 a0.3.3 a0.3.4
 a0.3.5 b2 → HE IntKind.i32 b0.2 (b1 ++ (b2 ++ List.replicate 48 (0 : Int))))) ∧ (((0 : Int) = 0 ∧ (0 = 0 ∧ b0.1 = a1 ∧ b0.1 = a1) ∧ (0 : Int) = 0 ∧ True) ∧ (0 : Int) = 0 ∧ True) ∧
 (True ∧ FlatL b0.2 ∧ b0.2 = a2) ∧ True
abbrev QYmwP_1 (a0 : FtA) (a1 : NwO) (a2 : List Value) : Prop := ∀ (b0 : Int), b0 = IntKind.wrap .i64 (a0.1.1 + (0 : Int)) → QYmwP_7 b0 a1.1 ∧ ∀ (b1 b2 b3 : Nat), (b1 = if NwO.l a1
 = Int.toNat b0 then 0 else 0 + Int.toNat b0 * 1) → b2 = Int.toNat (↑a1.1 : Int) - Int.toNat b0 → b3 = a1.1 - Int.toNat b0 → (a0.3.1 = true → (true = true ∧ true = true ∧ b1 + 0 ≤
 List.length a2) ∧ (∀ (b4 : List Value), b4 = lput a2 b1 [] → QYmwP_4 a0 a1.1 b4)) ∧ (a0.3.1 = false → ∀ (b4 : Nat), b4 = Min.min a0.3.3 b2 → a0.3.2 + b4 * 1 ≤ List.length a0.3.5 ∧
 ∀ (b5 : List Value), b5 = lwin a0.3.5 a0.3.2 (b4 * 1) → (true = true ∧ lall oneK b5 = true ∧ b1 + List.length b5 ≤ List.length a2) ∧ ∀ (b6 : List Value), b6 = lput a2 b1 b5 →
 QYmwP_4 a0 a1.1 b6)
abbrev QYmwP_2 (a0 : CdA) (a1 : NwO) (a2 : List Value) : Prop := ∀ (b0 : Int), b0 = IntKind.wrap .i64 (a0.1 + (0 : Int)) → QYmwP_7 b0 a1.1 ∧ ∀ (b1 b2 b3 : Nat), (b1 = if NwO.l a1 =
 Int.toNat b0 then 0 else 0 + Int.toNat b0 * 1) → b2 = Int.toNat (↑a1.1 : Int) - Int.toNat b0 → b3 = a1.1 - Int.toNat b0 → (true = true ∧ true = true ∧ b1 + 0 ≤ List.length a2) ∧ ∀
 (b4 : List Value), b4 = lput a2 b1 [] → (True ∧ True ∧ True ∧ True ∧ True ∧ True ∧ True ∧ True ∧ True ∧ True ∧ True) ∧ ∃ (b5 : NwO), (b5.1 = a0.3.3 + 49 ∧ (∀ (b6 : List Int), Sli
 (Value.int IntKind.i32) 1 a0.3.1 a0.3.2 a0.3.3 a0.3.4 a0.3.5 b6 → HE IntKind.i32 b5.2 (b6 ++ List.replicate 49 (0 : Int)))) ∧ (((0 : Int) = 0 ∧ (0 = 0 ∧ b5.1 = a1.1 ∧ b5.1 = a1.1)
 ∧ (0 : Int) = 0 ∧ True) ∧ (0 : Int) = 0 ∧ True) ∧ (True ∧ FlatL b5.2 ∧ b5.2 = b4) ∧ True
abbrev QYmwP_5 (a0 : CdA) : Prop := True ∧ a0.1 = a0.1 ∧ a0.2 = a0.2 ∧ Z4 a0.3 ∧ Z4 a0.4 ∧ Z4 a0.5 ∧ Z4 a0.6 ∧ Z4 a0.7 ∧ Z4 a0.8 ∧ Z4 a0.9 ∧ a0.10 = a0.10 ∧ a0.11 = a0.11 ∧ a0.12 =
 a0.12 ∧ a0.13 = a0.13 ∧ a0.14 = a0.14 ∧ True
abbrev QYmwP_3 (a0 : CdA) : Prop := QYmwP_5 a0 ∧ ZF a0.3.5 ∧ ZF a0.4.5 ∧ ZF a0.5.5 ∧ ZF a0.6.5 ∧ ZF a0.7.5 ∧ ZF a0.8.5 ∧ ZF a0.9.5 ∧ True
abbrev QYmwP_6 (a0 : CdA) : Prop := True ∧ ((1 ≤ a0.1 ∧ a0.1 ≤ 200) ∧ 1 ≤ a0.2 ∧ a0.2 ≤ 8) ∧ cdF (CdA.mk a0.1 a0.2 a0.3 a0.4 a0.5 a0.6 a0.7 a0.8 a0.9 a0.10 a0.11 a0.12 a0.13 a0.14)
theorem vc_stat0 (a : CdA) : G_stat0 a = (QYmwP_6 a ∧ ((0 = 0 ∧ (0 : Int) = 0 ∧ (0 = 0 ∧ 0 = 0) ∧ (0 = 0 ∧ 0 = 0) ∧ True) ∧ QYmwP_3 a) ∧ (∀ (_ : Unit), True → QYmwP_6 a ∧ ((0 = 0 ∧ True) ∧ QYmwP_3 a) ∧ (∀ (_ : Unit), True
→ (True ∧ 1 ≤ a.1 + (49 : Int) ∧ a.1 + (49 : Int) ≤ (256 : Int)) ∧ ((a.1 + 49 = a.1 + (49 : Int) ∧ True) ∧ True) ∧ (∀ (x2 : NwO), (↑x2.1 : Int) = a.1 + (49 : Int) ∧ HE IntKind.i32
x2.2 (List.replicate x2.1 (0 : Int)) → (a.3.1 = true → (true = true ∧ true = true ∧ 0 ≤ List.length x2.2) ∧ (∀ (x3 : List Value), x3 = lput x2.2 0 [] → QYmwP_2 a x2 x3)) ∧ (a.3.1 =
false → ∀ (x11 : Nat), x11 = Min.min a.3.3 x2.1 → a.3.2 + x11 * 1 ≤ List.length a.3.5 ∧ ∀ (x12 : List Value), x12 = lwin a.3.5 a.3.2 (x11 * 1) → (true = true ∧ lall oneK x12 = true
∧ 0 + List.length x12 ≤ List.length x2.2) ∧ ∀ (x13 : List Value), x13 = lput x2.2 0 x12 → QYmwP_2 a x2 x13)) ∧ True) ∧ True) ∧ True) := by kernel_rfl
set_option maxHeartbeats 3200000 in
theorem vc_stat3 (a : FtA) : G_stat3 a = ((True ∧ cdP a.1 ∧ a.3.3 = 1) ∧ ((0 = 0 ∧ (3 : Int) = 3 ∧ Z4 a.2 ∧ Z4 a.3 ∧ True) ∧ QYmwP_5 a.1 ∧ ZF a.1.3.5 ∧ ZF a.1.4.5 ∧ ZF a.1.5.5 ∧ ZF a.1.6.5 ∧ ZF a.1.7.5 ∧ ZF a.1.8.5 ∧ ZF
a.1.9.5 ∧ ZF a.2.5 ∧ ZF a.3.5 ∧ True) ∧ (∀ (_ : Unit), (↑a.2.3 : Int) = a.1.1 → (True ∧ ((1 ≤ a.1.1 ∧ a.1.1 ≤ 200) ∧ 1 ≤ a.1.2 ∧ a.1.2 ≤ 8) ∧ cdF a.1) ∧ ((0 = 0 ∧ True) ∧ QYmwP_3
a.1) ∧ (∀ (_ : Unit), True → (True ∧ 1 ≤ a.1.1 + (49 : Int) ∧ a.1.1 + (49 : Int) ≤ (256 : Int)) ∧ ((a.1.1 + 49 = a.1.1 + (49 : Int) ∧ True) ∧ True) ∧ (∀ (x2 : NwO), (↑x2.1 : Int) =
a.1.1 + (49 : Int) ∧ HE IntKind.i32 x2.2 (List.replicate x2.1 (0 : Int)) → (a.2.1 = true → (true = true ∧ true = true ∧ 0 ≤ List.length x2.2) ∧ (∀ (x3 : List Value), x3 = lput x2.2
0 [] → QYmwP_1 a x2 x3)) ∧ (a.2.1 = false → ∀ (x18 : Nat), x18 = Min.min a.2.3 x2.1 → a.2.2 + x18 * 1 ≤ List.length a.2.5 ∧ ∀ (x19 : List Value), x19 = lwin a.2.5 a.2.2 (x18 * 1) →
(true = true ∧ lall oneK x19 = true ∧ 0 + List.length x19 ≤ List.length x2.2) ∧ ∀ (x20 : List Value), x20 = lput x2.2 0 x19 → QYmwP_1 a x2 x20)) ∧ True) ∧ True) ∧ (∀ (_ : Unit),
((↑a.2.3 : Int) = a.1.1 → False) → ∃ (_ : Unit), ((↑a.2.3 : Int) = a.1.1 → False) ∧ (((0 : Int) = 0 ∧ (0 = 0 ∧ 0 = 0) ∧ (0 : Int) = 0 ∧ True) ∧ (3 : Int) = 3 ∧ True) ∧ True) ∧
True) := by kernel_rfl
theorem HW.takeI {α : Type} {f : α → Value} {c : List Value} {xs : List α} (h : HW f c xs) (m : Nat) : HW f (c.take m) (xs.take m) := by
  refine ⟨by simp [h.len], fun i x hx => ?_⟩
  rw [List.getElem?_take] at hx
  by_cases hi : i < m
  · rw [if_pos hi] at hx
    have := h.at_ _ _ hx
    rw [Nat.zero_add] at this ⊢
    unfold Rd at this ⊢
    rw [List.getElem?_take, if_pos hi]; exact this
  · rw [if_neg hi] at hx; cases hx
theorem he_lputA {α : Type} {f : α → Value} {c vs : List Value} {xs ys gs : List α} {o : Nat} (h : HW f c (xs ++ ys)) (g : HW f vs gs) (ho : o = xs.length) : HW f (lput c o vs) (xs ++ (gs ++ ys.drop gs.length)) := by
  have e : lput c o vs = c.take o ++ (vs ++ c.drop (o + gs.length)) := by simp [lput, g.len]
  have h1 := HW.takeI h o
  have h2 := HW.dropI h (o + gs.length)
  rw [show (xs ++ ys).take o = xs by rw [ho]; simp] at h1
  rw [show (xs ++ ys).drop (o + gs.length) = ys.drop gs.length by rw [ho, List.drop_append, List.drop_of_length_le (by omega), List.nil_append, Nat.add_sub_cancel_left]] at h2
  rw [e]; exact h1.append (g.append h2)
theorem g_stat0 (a : CdA) (xs : List Int) (hc : cdP a) (hfl : (a.first.l : Int) = a.cells) (hx : Sli (Value.int .i32) 1 a.first.n a.first.o a.first.l a.first.k a.first.c xs) : G_stat0 a := by
  have hc0 := hc
  have fv := hx.flat
  obtain ⟨⟨⟨hn0, hn1⟩, hs0, hs1⟩, hf⟩ := hc
  have hf0 := hf
  obtain ⟨f1, f2, f3, f4, f5, f6, f7⟩ := hf
  have a11 : a.1 = a.cells := rfl
  have a33 : a.3.3 = a.first.l := rfl
  have hl : xs.length = a.first.l := by have := hx.len; omega
  rw [vc_stat0]
  refine ⟨⟨trivial, hc0⟩, by repeat' first | with_reducible apply And.intro | exact trivial | exact rfl | assumption, fun _ _ => ⟨⟨trivial, hc0⟩, by repeat' first | with_reducible apply And.intro | exact trivial | exact rfl | assumption, fun _ _ => ⟨⟨trivial, by omega, by omega⟩, by repeat' first | with_reducible apply And.intro | exact trivial | exact rfl | assumption, fun x2 h2 => ⟨fun hn => ?_, fun hn => ?_⟩, trivial⟩, trivial⟩, trivial⟩
  all_goals
    obtain ⟨h2l, h2⟩ := h2
    have h2n := h2.len
    have hrl : (List.replicate x2.l (0 : Int)).length = x2.l := by simp
    have e49 : x2.l = a.first.l + 49 := by have : x2.1 = x2.l := rfl; omega
    have x21 : x2.1 = x2.l := rfl
  · refine ⟨⟨rfl, rfl, Nat.zero_le _⟩, fun x3 e3 x4 e4 => ?_⟩
    have hnil := hx.nilE hn
    have e0 : a.first.l = 0 := by rw [← hl, hnil]; rfl
    omega
  · refine fun x11 e11 => ⟨?_, fun x12 e12 => ⟨⟨rfl, ?_, ?_⟩, fun x13 e13 x14 e14 => ?_⟩⟩
    · have := hx.fit hn; have : x11 = a.first.l := by omega
      rw [this]; assumption
    all_goals
      have ex : x11 = a.first.l := by omega
      subst ex
      have hw : HE .i32 x12 xs := by rw [e12]; exact hx.win hn
    · exact hw.oneK
    · have := hw.len; have : x2.2 = x2.c := rfl; rw [this]; omega
    · have hp : HE .i32 x13 (xs ++ List.replicate 49 0) := by
        rw [e13]
        have := he_lput0 h2 hw
        rwa [List.drop_replicate, hl, show x2.l - a.first.l = 49 by omega] at this
      have hpl := hp.len
      have e14' : x14 = a.cells := by rw [e14, wrap_sm (by omega)]; omega
      refine ⟨⟨by omega, fun h => (nomatch h)⟩, fun x15 x16 x17 e15 e16 e17 => ⟨⟨rfl, rfl, ?_⟩, fun x18 e18 => ?_⟩⟩
      case refine_2 =>
        have hq : HE .i32 x18 (xs ++ List.replicate 49 0) := by rw [e18, lput_no]; exact hp
        have fq := heFlat hq
        exact ⟨by repeat' first | with_reducible apply And.intro | exact trivial | exact rfl | assumption, ⟨x2.l, x18⟩, ⟨e49, fun ys hy => by rw [Sli.uniqI hy hx]; exact hq⟩, by repeat' first | with_reducible apply And.intro | exact trivial | exact rfl | assumption⟩
      have : x15 ≤ a.first.l := by
        rw [e15]; split <;> omega
      rw [List.length_append, List.length_replicate] at hpl
      omega
theorem s_stat0 : SpecOK Tryz.prog S_stat0.spec := fun a K ⟨hc, hfl, xs, hx⟩ hq => specD_at (an := []) envOK (cwN_ok (fun _ h => cwP_ok s_fits0 (cwD_ok s_cwrd (cwD_ok s_mnew h))) 3) (fun _ => g_stat0 a xs hc hfl hx) K ⟨hc, hfl, xs, hx⟩ hq
theorem g_stat3 (a : FtA) (xs gs : List Int) (hc : cdP a.c) (hgl : a.g.l = 1) (hx : Sli (Value.int .i32) 1 a.v.n a.v.o a.v.l a.v.k a.v.c xs) (hgs : Sli (Value.int .i32) 1 a.g.n a.g.o a.g.l a.g.k a.g.c gs) : G_stat3 a := by
  have hc0 := hc
  have fv := hx.flat
  have fg := hgs.flat
  obtain ⟨⟨⟨hn0, hn1⟩, hs0, hs1⟩, hf⟩ := hc
  obtain ⟨f1, f2, f3, f4, f5, f6, f7⟩ := hf
  have a11 : a.1.1 = a.c.cells := rfl
  have a23 : a.2.3 = a.v.l := rfl
  have a33 : a.3.3 = a.g.l := rfl
  have hl : xs.length = a.v.l := by have := hx.len; omega
  have hgl2 : gs.length = 1 := by have := hgs.len; omega
  have hgn : a.3.1 = Bool.true → False := fun h => by have := (hgs.nil h).1; omega
  rw [vc_stat3]
  refine ⟨⟨trivial, hc0, hgl⟩, by repeat' first | with_reducible apply And.intro | exact trivial | exact rfl | assumption, fun _ he => ⟨⟨trivial, hc0⟩, by repeat' first | with_reducible apply And.intro | exact trivial | exact rfl | assumption, fun _ _ => ⟨⟨trivial, by omega, by omega⟩, by repeat' first | with_reducible apply And.intro | exact trivial | exact rfl | assumption, fun x2 h2 => ⟨fun hn => ?_, fun hn => ?_⟩, trivial⟩, trivial⟩, fun _ he => ⟨(), he, by repeat' first | with_reducible apply And.intro | exact trivial | exact rfl | assumption⟩, trivial⟩
  all_goals
    obtain ⟨h2l, h2⟩ := h2
    have h2n := h2.len
    have hrl : (List.replicate x2.l (0 : Int)).length = x2.l := by simp
    have e49 : x2.l = a.v.l + 49 := by have : x2.1 = x2.l := rfl; omega
    have x21 : x2.1 = x2.l := rfl
  · exfalso
    have hnil := hx.nilE hn
    have e0 : a.v.l = 0 := by rw [← hl, hnil]; rfl
    omega
  · refine fun x11 e11 => ⟨?_, fun x12 e12 => ⟨⟨rfl, ?_, ?_⟩, fun x13 e13 x14 e14 => ?_⟩⟩
    · have := hx.fit hn; have : x11 = a.v.l := by omega
      rw [this]; assumption
    all_goals
      have ex : x11 = a.v.l := by omega
      subst ex
      have hw : HE .i32 x12 xs := by rw [e12]; exact hx.win hn
    · exact hw.oneK
    · have := hw.len; have : x2.2 = x2.c := rfl; rw [this]; omega
    · have hp : HE .i32 x13 (xs ++ List.replicate 49 0) := by
        rw [e13]
        have := he_lput0 h2 hw
        rwa [List.drop_replicate, hl, show x2.l - a.v.l = 49 by omega] at this
      have hpl := hp.len
      rw [List.length_append, List.length_replicate] at hpl
      have e14' : x14 = a.c.cells := by rw [e14, wrap_sm (by omega)]; omega
      refine ⟨⟨by omega, fun h => (nomatch h)⟩, fun x15 x16 x17 e15 e16 e17 => ⟨fun h => absurd h hgn, fun hgf y12 f12 => ?_⟩⟩
      have e15' : x15 = a.v.l := by rw [e15, if_neg (by have : NwO.l x2 = x2.l := rfl; omega)]; omega
      have ey : y12 = a.g.l := by omega
      subst ey
      refine ⟨hgs.fit hgf, fun y13 f13 => ?_⟩
      have hgw : HE .i32 y13 gs := by rw [f13]; exact hgs.win hgf
      have hgwl := hgw.len
      refine ⟨⟨rfl, hgw.oneK, by omega⟩, fun y14 f14 => ?_⟩
      have hq : HE .i32 y14 (xs ++ (gs ++ List.replicate 48 0)) := by
        rw [f14]
        have := he_lputA hp hgw (o := x15) (by omega)
        rwa [List.drop_replicate, hgl2] at this
      have fq := heFlat hq
      exact ⟨by repeat' first | with_reducible apply And.intro | exact trivial | exact rfl | assumption, ⟨x2.l, y14⟩, ⟨he, e49, fun ys us hy hu => by rw [Sli.uniqI hy hx, Sli.uniqI hu hgs]; exact hq⟩, by repeat' first | with_reducible apply And.intro | exact trivial | exact rfl | assumption⟩
theorem s_stat3 : SpecOK Tryz.prog S_stat3.spec := fun a K ⟨⟨hc, hgl⟩, ⟨xs, hx⟩, gs, hgs⟩ hq => specD_at (an := []) envOK (cwN_ok (fun _ h => cwP_ok s_fits3 (cwD_ok s_cwrd (cwD_ok s_mnew h))) 3) (fun _ => g_stat3 a xs gs hc hgl hx hgs) K ⟨⟨hc, hgl⟩, ⟨xs, hx⟩, gs, hgs⟩ hq
end Go.Proofs.YtdjnipabfbblnaaGreatDoor
end

/- A program's code: Run of start and silence (what is to be shown). -/
section
set_option maxRecDepth 100000
namespace Go.Proofs.YtdjnipabfbblnaaGreatDoor
open Go.Ev
-- keep cdP cdF num foldI dnum frm lastC Go.Ev.Sli Go.Ev.HV insAt argP rightP hasC farC stepC okAt twoC truthC W32 runC storeC manyC cells4
set_option linter.unusedSectionVars false
variable [Go.Ev.Frozen Tryz.prog]
noncomputable section
abbrev z48 : List Int := List.replicate 48 0
def S_run0 : SpecD where
  f := 42
  α := CdA
  args a := [.pointer (some ⟨13, 0, none⟩), .int .i64 0, .slice none 0 0, .slice none 0 0]
  R a := cdR a 13 ++ globM
  n := 13 + 8
  pre a := (cdP a ∧ (a.first.l : Int) = a.cells ∧ 0 ≤ a.m0) ∧ (∃ xs, Sli (Value.int .i32) 1 a.first.n a.first.o a.first.l a.first.k a.first.c xs ∧ W32 xs) ∧ ∃ cs, Sli (Value.int .i64) 4 a.i0.n a.i0.o a.i0.l a.i0.k a.i0.c cs
  outs := [⟨OtO, fun a b => (a.cells ≤ b.k) ∧ ∀ xs cs, Sli (Value.int .i32) 1 a.first.n a.first.o a.first.l a.first.k a.first.c xs → Sli (Value.int .i64) 4 a.i0.n a.i0.o a.i0.l a.i0.k a.i0.c cs → (lastC xs z49 cs a.m0).halt = 1 ∧ HE .i32 b.c ((lastC xs z49 cs a.m0).mem.take a.cells.toNat),
      fun a b => .tuple ⟨[.agg ⟨[tgS (13 + 8) 0 a.cells.toNat b.k, .bool false, .int .i64 0, .int .i64 0, .int .i64 0, .slice none 0 0, .int .i64 0]⟩, .int .i64 0]⟩, fun _ b => [(13 + 8, .f b.c 21 (.grown b.k))], fun _ _ => 13 + 9, fun v _ => renS (13 + 8) (lv (agv (lv (agv v) 0)) 0)⟩,
    ⟨Unit, fun a _ => ∀ xs cs, Sli (Value.int .i32) 1 a.first.n a.first.o a.first.l a.first.k a.first.c xs → Sli (Value.int .i64) 4 a.i0.n a.i0.o a.i0.l a.i0.k a.i0.c cs → (lastC xs z49 cs a.m0).halt = 2, fun _ _ => outE 0 true, fun _ _ => [], fun _ _ => 13 + 9, fun _ _ => []⟩,
    ⟨Unit, fun a _ => ∀ xs cs, Sli (Value.int .i32) 1 a.first.n a.first.o a.first.l a.first.k a.first.c xs → Sli (Value.int .i64) 4 a.i0.n a.i0.o a.i0.l a.i0.k a.i0.c cs → (lastC xs z49 cs a.m0).halt ≠ 1 ∧ (lastC xs z49 cs a.m0).halt ≠ 2, fun _ _ => outE 10 false, fun _ _ => [], fun _ _ => 13 + 9, fun _ _ => []⟩]
  pick v _ := ruPick v
  find l A := cdK A 13 (lv l 0) fun c q => some (c, q)
def G_run0 (a : CdA) : Prop := fnW Tryz.prog E0 (cwN (fun c => cwP 0 S_stat0 (cwP 0 S_out0 (cwD Tryz.prog S_mrun c))) 3) [] S_run0.f (S_run0.args a) (mem (S_run0.R a) S_run0.n) (endD Tryz.prog S_run0 a)
def S_run3 : SpecD where
  f := 42
  α := FtA
  args a := [.pointer (some ⟨13, 0, none⟩), .int .i64 3, a.v.v (13 + 8), a.g.v (13 + 9)]
  R a := cdR a.c 13 ++ ((13 + 8, .f a.v.c 21 .gro) :: (13 + 9, .f a.g.c 21 .gro) :: globM)
  n := 13 + 10
  pre a := (cdP a.c ∧ a.g.l = 1 ∧ 0 ≤ a.c.m3) ∧ (∃ xs, Sli (Value.int .i32) 1 a.v.n a.v.o a.v.l a.v.k a.v.c xs ∧ W32 xs) ∧ (∃ gs, Sli (Value.int .i32) 1 a.g.n a.g.o a.g.l a.g.k a.g.c gs ∧ W32 gs) ∧ ∃ cs, Sli (Value.int .i64) 4 a.c.i3.n a.c.i3.o a.c.i3.l a.c.i3.k a.c.i3.c cs
  outs := [⟨OtO, fun a b => ((a.v.l : Int) = a.c.cells ∧ a.c.cells ≤ b.k) ∧ ∀ xs gs cs, Sli (Value.int .i32) 1 a.v.n a.v.o a.v.l a.v.k a.v.c xs → Sli (Value.int .i32) 1 a.g.n a.g.o a.g.l a.g.k a.g.c gs → Sli (Value.int .i64) 4 a.c.i3.n a.c.i3.o a.c.i3.l a.c.i3.k a.c.i3.c cs → (lastC xs (gs ++ z48) cs a.c.m3).halt = 1 ∧ HE .i32 b.c ((lastC xs (gs ++ z48) cs a.c.m3).mem.take a.c.cells.toNat),
      fun a b => .tuple ⟨[.agg ⟨[tgS (13 + 10) 0 a.c.cells.toNat b.k, .bool false, .int .i64 0, .int .i64 0, .int .i64 0, .slice none 0 0, .int .i64 0]⟩, .int .i64 0]⟩, fun _ b => [(13 + 10, .f b.c 21 (.grown b.k))], fun _ _ => 13 + 11, fun v _ => renS (13 + 10) (lv (agv (lv (agv v) 0)) 0)⟩,
    ⟨Unit, fun a _ => (a.v.l : Int) = a.c.cells ∧ ∀ xs gs cs, Sli (Value.int .i32) 1 a.v.n a.v.o a.v.l a.v.k a.v.c xs → Sli (Value.int .i32) 1 a.g.n a.g.o a.g.l a.g.k a.g.c gs → Sli (Value.int .i64) 4 a.c.i3.n a.c.i3.o a.c.i3.l a.c.i3.k a.c.i3.c cs → (lastC xs (gs ++ z48) cs a.c.m3).halt = 2, fun _ _ => outE 0 true, fun _ _ => [], fun _ _ => 13 + 11, fun _ _ => []⟩,
    ⟨Unit, fun a _ => (a.v.l : Int) = a.c.cells ∧ ∀ xs gs cs, Sli (Value.int .i32) 1 a.v.n a.v.o a.v.l a.v.k a.v.c xs → Sli (Value.int .i32) 1 a.g.n a.g.o a.g.l a.g.k a.g.c gs → Sli (Value.int .i64) 4 a.c.i3.n a.c.i3.o a.c.i3.l a.c.i3.k a.c.i3.c cs → (lastC xs (gs ++ z48) cs a.c.m3).halt ≠ 1 ∧ (lastC xs (gs ++ z48) cs a.c.m3).halt ≠ 2, fun _ _ => outE 10 false, fun _ _ => [], fun _ _ => 13 + 11, fun _ _ => []⟩,
    ⟨Unit, fun a _ => (a.v.l : Int) ≠ a.c.cells, fun _ _ => outE 3 false, fun _ _ => [], fun _ _ => 13 + 11, fun _ _ => []⟩]
  pick v _ := ruPick v
  find l A := cdK A 13 (lv l 0) fun c q => saK A (13 + 8) (lv l 2) fun v q2 => saK A (13 + 9) (lv l 3) fun g q3 => some (⟨c, v, g⟩, q ++ (q2 ++ q3))
def G_run3 (a : FtA) : Prop := fnW Tryz.prog E0 (cwN (fun c => cwP 3 S_stat3 (cwP 3 S_out3 (cwD Tryz.prog S_mrun c))) 3) [] S_run3.f (S_run3.args a) (mem (S_run3.R a) S_run3.n) (endD Tryz.prog S_run3 a)
end
end Go.Proofs.YtdjnipabfbblnaaGreatDoor
end
