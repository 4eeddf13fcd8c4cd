/- The two games' beginnings, told of by the game (what is to be shown). -/
import Derived.Test.YtfkacmmcgncooaaGreatDoorYx0
import Derived.Test.YtfkacmmcgncooaaGreatDoorHkD1
section
set_option maxRecDepth 100000
set_option linter.constructorNameAsVariable false
namespace Go.Proofs.YtfkacmmcgncooaaGreatDoor
open Go.Ev
-- keep isG rulG posG cells0 cells1 cells2 cells4 cells5 cells6 cells8 cells9 cells10
structure StwA where
  w : Int
set_option linter.unusedSectionVars false
variable [Go.Ev.Frozen Tryz.prog]
noncomputable section
def cwRt (T : Caller → Caller) (fs : List Nat) (c : CW) : CW := fun f args A K => Bool.rec (c f args A K) (cpo (T noCall f args A) fun p => K p.1 p.2) (memB f fs)
def hk38 : Caller → Caller := allC [pgK2, relocCall hkK14, relocCall hkD10, relocCall hkK15, hookCall hkK16, hookCall hkD11]
def ruT (a : RuA) (i : Nat) : List (Nat × PO) :=
  (i, .p (.row [unk, sc (i + 1) 2, tgI .u8 a.d.d0, tgI .u8 a.d.d1, tgI .u8 a.d.d2, tgI .u8 a.d.d3, tgI .u8 a.d.d4, tgI .u8 a.d.d5, tgI .u8 a.d.d6, tgI .u8 a.d.d7, .pointer (some ⟨i + 2, 0, none⟩), sc (i + 10) 1, sc (i + 11) 2] 120 .gro)) ::
  (i + 1, .f [.int .i64 1, .int .i64 1] 3 .gro) ::
  (i + 2, .p (.row [.int .i64 2, .int .i64 2, sc (i + 3) 2, sc (i + 4) 1, sc (i + 5) a.l0, sc (i + 6) a.l1, sc (i + 7) a.l2, sc (i + 8) a.l3, sc (i + 9) a.l4, tgI .i64 a.n0, tgI .i64 a.n1, tgI .i64 a.n2, tgI .i64 a.n3, tgI .i64 a.n4] 166 .gro)) ::
  (i + 3, .f [.int .i32 0, .int .i32 0] 21 .gro) :: (i + 4, .f a.cv 154 .gro) ::
  (i + 5, .f a.c0 278 .gro) :: (i + 6, .f a.c1 278 .gro) :: (i + 7, .f a.c2 278 .gro) :: (i + 8, .f a.c3 278 .gro) :: (i + 9, .f a.c4 278 .gro) ::
  (i + 10, .f a.cm 131 .gro) :: (i + 11, .f a.cc 131 .gro) :: []
def ruN (A : AW) (i : Nat) (v : Value) : List (Nat × Nat) := Option.rec [] (fun q => q) (ruK A i v fun _ q => some q)
def S_startG : SpecD where
  f := 10
  α := StwA
  args a := [tgI .u8 a.w]
  R _ := [(0, .f cells0 327 .ro), (1, .f cells1 333 .ro), (2, .f cells2 356 .ro), (4, .f cells4 327 .ro), (5, .f cells5 368 .ro), (6, .f cells6 381 .ro), (8, .f cells8 385 .ro), (9, .f cells9 388 .ro), (10, .f cells10 389 .ro)]
  n := 12
  pre a := 0 ≤ a.w ∧ a.w < 256
  outs := [⟨GtA, fun a b => ∃ k : Nat, (k = 0 ∨ k = 1) ∧ (k : Int) = a.w % 2 ∧ isG b.g b.p k 0, fun _ b => .tuple ⟨[.pointer (some ⟨12, 0, none⟩), poT b.p (12 + 12)]⟩, fun _ b => ruT b.g 12 ++ poR b.p (12 + 12), fun _ _ => 12 + 15, fun v A => ruN A 12 (lv (agv v) 0) ++ poM (12 + 12) (lv (agv v) 1)⟩]
  pick _ _ := 0
  find l _ := wI (lv l 0) fun n => some (⟨n⟩, [])
def G_startG (a : StwA) : Prop := fnW Tryz.prog E0 (cwX (fun c => cwRt hk38 [24, 70, 26, 27] c) 4) [] S_startG.f (S_startG.args a) (mem (S_startG.R a) S_startG.n) (endD Tryz.prog S_startG a)
end
theorem cwRt_ok {T : Caller → Caller} (hT : HookOK Tryz.prog T) {fs : List Nat} {c : CW} (h : CwOK Tryz.prog c) : CwOK Tryz.prog (cwRt T fs c) := fun f args A K hk => by
  have hk : (Bool.rec (c f args A K) (cpo (T noCall f args A) fun p => K p.1 p.2) (memB f fs) : Prop) := hk
  cases hb : memB f fs with
  | false => rw [hb] at hk; exact h f args A K hk
  | true => rw [hb] at hk; exact cw_call (hT _ noCall_ok) f args A K hk
theorem hk38_ok : HookOK Tryz.prog hk38 := allC_cons pgK2_ok (allC_cons hkK14_ok (allC_cons hkD10_ok (allC_cons hkK15_ok (allC_cons hkK16_ok (allC_cons hkD11_ok allC_nil)))))
end Go.Proofs.YtfkacmmcgncooaaGreatDoor
end

/- The two games: what the part that pays asks for. -/
section
set_option maxRecDepth 100000
namespace Go.Proofs.YtfkacmmcgncooaaGreatDoor
open Go.Ev
set_option linter.unusedSectionVars false
variable [Go.Ev.Frozen Tryz.prog]
noncomputable section
def coR (a : RuA) (i : Nat) : List (Nat × PO) :=
  (i, .p (.row [.int .i64 2, .int .i64 2, sc (i + 1) 2, sc (i + 2) 1, sc (i + 3) a.l0, sc (i + 4) a.l1, sc (i + 5) a.l2, sc (i + 6) a.l3, sc (i + 7) a.l4, .int .i64 a.n0, .int .i64 a.n1, .int .i64 a.n2, .int .i64 a.n3, .int .i64 a.n4] 166 .gro)) ::
  (i + 1, .f [.int .i32 0, .int .i32 0] 21 .gro) :: (i + 2, .f a.cv 154 .gro) ::
  (i + 3, .f a.c0 278 .gro) :: (i + 4, .f a.c1 278 .gro) :: (i + 5, .f a.c2 278 .gro) :: (i + 6, .f a.c3 278 .gro) :: (i + 7, .f a.c4 278 .gro) :: []
structure CoA where
  g : RuA
  v : List Value
def coK {β : Type} (A : AW) (i : Nat) (v : Value) (k : RuA → List (Nat × Nat) → Option β) : Option β :=
  ptK v fun d => rowK A d fun c => seK A (i + 1) (lv c 2) fun _ _ q3 => seK A (i + 2) (lv c 3) fun _ cv q4 =>
    seK A (i + 3) (lv c 4) fun l0 c0 q5 => seK A (i + 4) (lv c 5) fun l1 c1 q6 => seK A (i + 5) (lv c 6) fun l2 c2 q7 => seK A (i + 6) (lv c 7) fun l3 c3 q8 => seK A (i + 7) (lv c 8) fun l4 c4 q9 =>
    wI (lv c 9) fun n0 => wI (lv c 10) fun n1 => wI (lv c 11) fun n2 => wI (lv c 12) fun n3 => wI (lv c 13) fun n4 =>
      k ⟨l0, l1, l2, l3, l4, n0, n1, n2, n3, n4, cv, c0, c1, c2, c3, c4, [], [], ⟨0, 0, 0, 0, 0, 0, 0, 0⟩⟩ ((i, d) :: (q3 ++ (q4 ++ (q5 ++ (q6 ++ (q7 ++ (q8 ++ q9)))))))
def coG (g : RuA) : RuA := { g with cm := [], cc := [], d := ⟨0, 0, 0, 0, 0, 0, 0, 0⟩ }
def payT : List (Nat × Nat × Int × Int × Int) := [(0, 4, 0, 0, 1), (0, 5, 0, 0, 0), (0, 9, 0, 0, 1), (0, 11, 0, 0, 0), (1, 2, 0, 0, 1), (1, 3, 0, 0, 1), (1, 7, 6, 0, 1), (1, 8, 1, 0, 1), (1, 9, 6, 0, 1), (1, 11, 5, 0, 1), (1, 12, 6, 0, 1), (1, 13, 6, 0, 1)]
def outPy (r : Int) (i : Nat) : Value := .tuple ⟨[.agg ⟨[.slice none 0 0, .bool false, .int .i64 0, .int .i64 0, .int .i64 0, sc i 2, .int .i64 r]⟩, .int .i64 0]⟩
def rowPy (x : Int) (i : Nat) : List (Nat × PO) := [(i, .p (.row [tgI .i32 x, .int .i32 0] 21 .gro))]
def pyN (i : Nat) (v : Value) : List (Nat × Nat) := renS i (lv (agv (lv (agv v) 0)) 5)
def isC (g : RuA) (v : List Value) (k j : Nat) : Prop := (k, j) ∈ allG ∧ g = coG (rulG k) ∧ v = (posG k j).v
def S_gpart : SpecD where
  f := 68
  α := CoA
  args a := [.pointer (some ⟨12, 0, none⟩), .int .i64 4, sc (12 + 8) 2, .slice none 0 0]
  R a := coR a.g 12 ++ ((12 + 8, .f a.v 21 .gro) :: [(2, .f cells2 356 .ro)])
  n := 12 + 9
  pre a := ∃ k j, isC a.g a.v k j ∧ turnG k j < 0
  outs := [⟨TnB, fun a b => b.k = 0 ∧ ∃ k j, isC a.g a.v k j ∧ (k, j, 0, 0, 0) ∈ payT, fun _ _ => outPy 0 (12 + 9), fun _ b => rowPy b.k (12 + 9), fun _ _ => 12 + 10, fun v _ => pyN (12 + 9) v⟩,
    ⟨TnB, fun a b => ∃ k j, isC a.g a.v k j ∧ (k, j, b.k, 0, 1) ∈ payT, fun _ _ => outPy 1 (12 + 9), fun _ b => rowPy b.k (12 + 9), fun _ _ => 12 + 10, fun v _ => pyN (12 + 9) v⟩]
  pick v _ := match lv (agv (lv (agv v) 0)) 6 with
    | .int _ z => Int.rec (fun n => Bool.rec 1 0 (Nat.beq n 0)) (fun _ => 1) z
    | _ => 0
  find l A := coK A 12 (lv l 0) fun g q => seK A (12 + 8) (lv l 2) fun _ v r => some (⟨g, v⟩, q ++ r)
def runPart (e : Nat × Nat × Int × Int × Int) : Bool := ranB (evCallH Tryz.prog E0 (fun c => c) 300 S_gpart.f (S_gpart.args ⟨coG (rulG e.1), (posG e.1 e.2.1).v⟩) (mem (S_gpart.R ⟨coG (rulG e.1), (posG e.1 e.2.1).v⟩) S_gpart.n)) (fun v B => seenB Tryz.prog.globals.size S_gpart.n (pyN (12 + 9) v) v B (outPy e.2.2.2.2 (12 + 9)) (rowPy e.2.2.1 (12 + 9)) (12 + 10))
end
theorem ran_part : (payT.all runPart) = true := by kernel_rfl
theorem pay_has : (allG.all fun q => !decide (turnG q.1 q.2 < 0) || payT.any fun e => Nat.beq e.1 q.1 && Nat.beq e.2.1 q.2) = true := by kernel_rfl
theorem pay_form : (payT.all fun e => decide (e.2.2.2.1 = 0) && (decide (e.2.2.2.2 = 1) || decide (e.2.2.1 = 0) && decide (e.2.2.2.2 = 0))) = true := by kernel_rfl
theorem pay_of {k j : Nat} (h : (k, j) ∈ allG) (ht : turnG k j < 0) : (∃ x, (k, j, x, 0, 1) ∈ payT) ∨ (k, j, 0, 0, 0) ∈ payT := by
  have h1 := List.all_eq_true.1 pay_has (k, j) h
  simp only [decide_eq_true ht, Bool.not_true, Bool.false_or] at h1
  obtain ⟨⟨a, b, x, y, r⟩, he, h2⟩ := List.any_eq_true.1 h1
  rw [Bool.and_eq_true] at h2
  have h3 := List.all_eq_true.1 pay_form _ he
  simp only [Bool.and_eq_true, Bool.or_eq_true, decide_eq_true_eq] at h3
  have h4 : a = k := Nat.eq_of_beq_eq_true h2.1
  have h5 : b = j := Nat.eq_of_beq_eq_true h2.2
  obtain ⟨h6, h7⟩ := h3
  subst h4 h5 h6
  rcases h7 with h7 | ⟨h7, h8⟩
  · subst h7; exact .inl ⟨x, he⟩
  · subst h7 h8; exact .inr he
theorem s_gpart : SpecOK Tryz.prog S_gpart.spec := fun a K hp hq => by
  obtain ⟨k, j, ⟨hm, hg, hj⟩, ht⟩ := id hp
  obtain ⟨g, v⟩ := a
  have hg : g = coG (rulG k) := hg
  have hj : v = (posG k j).v := hj
  subst hg hj
  rcases pay_of hm ht with ⟨x, hr⟩ | hr
  · have hran := List.all_eq_true.1 ran_part _ hr
    unfold runPart at hran
    exact spec_run envOK hook_id 300 (S := S_gpart) (a := ⟨coG (rulG k), (posG k j).v⟩) (List.mem_cons_of_mem _ List.mem_cons_self) ⟨x⟩ ⟨k, j, ⟨hm, rfl, rfl⟩, hr⟩ hran K hp hq
  · have hran := List.all_eq_true.1 ran_part _ hr
    unfold runPart at hran
    exact spec_run envOK hook_id 300 (S := S_gpart) (a := ⟨coG (rulG k), (posG k j).v⟩) List.mem_cons_self ⟨0⟩ ⟨rfl, k, j, ⟨hm, rfl, rfl⟩, hr⟩ hran K hp hq
end Go.Proofs.YtfkacmmcgncooaaGreatDoor
end

/- The two games: who plays, of one argument (not built yet). -/
section
set_option maxRecDepth 100000
namespace Go.Proofs.YtfkacmmcgncooaaGreatDoor
open Go.Ev
structure GdA where
  g : RuA
  p : PoA
  s : Int
  z : Int
set_option linter.unusedSectionVars false
variable [Go.Ev.Frozen Tryz.prog]
noncomputable section
def z8V : List Value := [.int .u8 0, .int .u8 0, .int .u8 0, .int .u8 0, .int .u8 0, .int .u8 0, .int .u8 0, .int .u8 0]
def S_gplay : SpecD where
  f := 72
  α := GdA
  args a := [.pointer (some ⟨12, 0, none⟩), poV a.p (12 + 12), .int .i64 a.s, .agg ⟨.bool false :: sc (12 + 15) 1 :: z8V⟩]
  R a := ruR a.g 12 ++ (poR a.p (12 + 12) ++ ((12 + 15, .p (.row [.int .i32 a.z] 21 .gro)) :: [(2, .f cells2 356 .ro)]))
  n := 12 + 16
  pre a := ∃ k j r, isG a.g a.p k j ∧ (k, j, a.s, a.z, r) ∈ playT
  outs := [⟨PoA, fun a b => ∃ (k j m : Nat), isG a.g a.p k j ∧ (k, j, a.s, a.z, (m : Int)) ∈ playT ∧ isG a.g b k m, fun _ b => okG b (12 + 16), fun _ b => poR b (12 + 16), fun _ _ => 12 + 19, fun v _ => poN (12 + 16) v⟩,
    ⟨TnB, fun a b => 0 < b.k ∧ ∃ k j, isG a.g a.p k j ∧ (k, j, a.s, a.z, -b.k) ∈ playT, fun _ b => erG b.k, fun _ _ => [], fun _ _ => 12 + 16, fun _ _ => []⟩]
  pick v _ := match lv (agv v) 1 with
    | .int _ 0 => 0
    | _ => 1
  find l A := ruK A 12 (lv l 0) fun g q => poK A (12 + 12) (agv (lv l 1)) fun p r => wI (lv l 2) fun s => seK A (12 + 15) (lv (agv (lv l 3)) 1) fun _ c t => wI (lv c 0) fun z => some (⟨g, p, s, z⟩, q ++ (r ++ t))
def runPlay (e : Nat × Nat × Int × Int × Int) : Bool := ranB (evCallH Tryz.prog E0 (fun c => c) 300 S_gplay.f (S_gplay.args ⟨rulG e.1, posG e.1 e.2.1, e.2.2.1, e.2.2.2.1⟩) (mem (S_gplay.R ⟨rulG e.1, posG e.1 e.2.1, e.2.2.1, e.2.2.2.1⟩) S_gplay.n)) (fun v B =>
  Bool.rec (seenB Tryz.prog.globals.size S_gplay.n [] v B (erG (-e.2.2.2.2)) [] (12 + 16)) (seenB Tryz.prog.globals.size S_gplay.n (poN (12 + 16) v) v B (okG (posG e.1 e.2.2.2.2.toNat) (12 + 16)) (poR (posG e.1 e.2.2.2.2.toNat) (12 + 16)) (12 + 19)) (decide (0 ≤ e.2.2.2.2)))
end
theorem ran_play0 : (((playT.drop 0).take 9).all runPlay) = true := by kernel_rfl
theorem ran_play1 : (((playT.drop 9).take 9).all runPlay) = true := by kernel_rfl
theorem ran_play2 : (((playT.drop 18).take 9).all runPlay) = true := by kernel_rfl
theorem play_parts : playT = (playT.drop 0).take 9 ++ ((playT.drop 9).take 9 ++ (playT.drop 18).take 9) := by kernel_rfl
theorem ran_play : ∀ e ∈ playT, runPlay e = true := fun e he => by
  rw [play_parts] at he
  rcases List.mem_append.1 he with h | h
  · exact List.all_eq_true.1 ran_play0 e h
  rcases List.mem_append.1 h with h | h
  · exact List.all_eq_true.1 ran_play1 e h
  · exact List.all_eq_true.1 ran_play2 e h
theorem play_in : (playT.all fun e => decide (e.2.2.2.2 < 0) || allG.contains (e.1, e.2.2.2.2.toNat)) = true := by kernel_rfl
theorem s_gplay : SpecOK Tryz.prog S_gplay.spec := fun a K hp hq => by
  obtain ⟨k, j, r, ⟨hm, hg, hj⟩, hr⟩ := id hp
  obtain ⟨g, p, s, z⟩ := a
  have hg : g = rulG k := hg
  have hj : p = posG k j := hj
  subst hg hj
  have hran := ran_play _ hr
  have hin := List.all_eq_true.1 play_in _ hr
  simp only [Bool.or_eq_true, decide_eq_true_eq, List.contains_iff_mem] at hin
  unfold runPlay at hran
  by_cases h0 : 0 ≤ r
  · rw [decide_eq_true h0] at hran
    have hm' : (k, r.toNat) ∈ allG := hin.resolve_left (by omega)
    exact spec_run envOK hook_id 300 (S := S_gplay) (a := ⟨rulG k, posG k j, s, z⟩) List.mem_cons_self (posG k r.toNat) ⟨k, j, r.toNat, ⟨hm, rfl, rfl⟩, by rw [Int.toNat_of_nonneg h0]; exact hr, hm', rfl, rfl⟩ hran K hp hq
  · rw [decide_eq_false h0] at hran
    exact spec_run envOK hook_id 300 (S := S_gplay) (a := ⟨rulG k, posG k j, s, z⟩) (List.mem_cons_of_mem _ List.mem_cons_self) ⟨-r⟩ ⟨by show 0 < -r; omega, k, j, ⟨hm, rfl, rfl⟩, by rw [Int.neg_neg]; exact hr⟩ hran K hp hq
end Go.Proofs.YtfkacmmcgncooaaGreatDoor
end

/- The two games: moves and silences that are not taken (what is to be shown). -/
section
set_option maxRecDepth 100000
namespace Go.Proofs.YtfkacmmcgncooaaGreatDoor
open Go.Ev
-- keep turnG gpos silG silT doE doG playT loG hiG allG isG isC rulG posG coG badG inR cells2
structure BdA where
  v : List Value
  z : Int
def loG (k : Nat) : Int := match k with
  | 0 => 1
  | _ => 0
def hiG (k : Nat) : Int := match k with
  | 0 => 3
  | _ => 1
def doE (k j : Nat) (s : Int) : Int := if turnG k j < 0 then 15 else if turnG k j ≠ s then 13 else 14
def badG (k j : Nat) (s z : Int) : Prop := turnG k j < 0 ∨ turnG k j ≠ s ∨ (gpos k j).r1 ≠ 0 ∨ z < loG k ∨ hiG k < z
def coH (k : Nat) : RuA := ⟨rulL k 0, rulL k 1, rulL k 2, rulL k 3, rulL k 4, rulM k 0, rulM k 1, rulM k 2, rulM k 3, rulM k 4, rulV k, iL (rulP k 0), iL (rulP k 1), iL (rulP k 2), iL (rulP k 3), iL (rulP k 4), [], [], ⟨0, 0, 0, 0, 0, 0, 0, 0⟩⟩
def inR (z : Int) : Prop := -2147483648 ≤ z ∧ z ≤ 2147483647
def doG (k j : Nat) (s z : Int) : Int := match playT.find? (fun e => Nat.beq e.1 k && (Nat.beq e.2.1 j && (decide (e.2.2.1 = s) && decide (e.2.2.2.1 = z)))) with
  | some e => e.2.2.2.2
  | none => -doE k j s
def silG (k j : Nat) (w : Int) : Int := match silT.find? (fun e => Nat.beq e.1 k && (Nat.beq e.2.1 j && decide (e.2.2.1 = w))) with
  | some e => e.2.2.2
  | none => -28
set_option linter.unusedSectionVars false
variable [Go.Ev.Frozen Tryz.prog]
noncomputable section
structure CbA where
  g : RuA
  v : List Value
  z : Int
def noOut : Value := .tuple ⟨[.agg ⟨[.slice none 0 0, .bool false, .int .i64 0, .int .i64 0, .int .i64 0, .slice none 0 0, .int .i64 0]⟩, .int .i64 2]⟩
def S_gbad : SpecD where
  f := 68
  α := CbA
  args a := [.pointer (some ⟨12, 0, none⟩), .int .i64 2, sc (12 + 8) 2, sc (12 + 9) 1]
  R a := coR a.g 12 ++ [(12 + 8, .f a.v 21 .gro), (12 + 9, .p (.row [tgI .i32 a.z] 21 .gro))]
  n := 12 + 10
  pre a := (FlatL a.v ∧ inR a.z) ∧ ∃ k, (k = 0 ∨ k = 1) ∧ a.g = coG (rulG k) ∧ (a.z < loG k ∨ hiG k < a.z)
  outs := [⟨Unit, fun _ _ => True, fun _ _ => noOut, fun _ _ => [], fun _ _ => 12 + 10, fun _ _ => []⟩]
  pick _ _ := 0
  find l A := coK A 12 (lv l 0) fun g q => seK A (12 + 8) (lv l 2) fun _ v r => seK A (12 + 9) (lv l 3) fun _ c t => wI (lv c 0) fun z => some (⟨g, v, z⟩, q ++ (r ++ t))
def cwNo (fs : List Nat) (c : CW) : CW := fun f args A K => Bool.rec (c f args A K) False (memB f fs)
def G_gbad0 (b : BdA) : Prop := fnW Tryz.prog E0 (cwX (fun c => cwNo [129] c) 4) [] S_gbad.f (S_gbad.args ⟨coH 0, b.v, b.z⟩) (mem (S_gbad.R ⟨coH 0, b.v, b.z⟩) S_gbad.n) (endD Tryz.prog S_gbad ⟨coH 0, b.v, b.z⟩)
def G_gbad1 (b : BdA) : Prop := fnW Tryz.prog E0 (cwX (fun c => cwNo [129] c) 4) [] S_gbad.f (S_gbad.args ⟨coH 1, b.v, b.z⟩) (mem (S_gbad.R ⟨coH 1, b.v, b.z⟩) S_gbad.n) (endD Tryz.prog S_gbad ⟨coH 1, b.v, b.z⟩)
def S_gdoX : SpecD where
  f := 72
  α := GdA
  args a := [.pointer (some ⟨12, 0, none⟩), poT a.p (12 + 12), tgI .i64 a.s, .agg ⟨.bool false :: sc (12 + 15) 1 :: z8V⟩]
  R a := ruR a.g 12 ++ (poR a.p (12 + 12) ++ ((12 + 15, .p (.row [tgI .i32 a.z] 21 .gro)) :: [(2, .f cells2 356 .ro)]))
  n := 12 + 16
  pre a := inR a.z ∧ ∃ k j, isG a.g a.p k j ∧ badG k j a.s a.z
  outs := [⟨TnB, fun a b => ∃ k j, isG a.g a.p k j ∧ badG k j a.s a.z ∧ b.k = doE k j a.s, fun _ b => erG b.k, fun _ _ => [], fun _ _ => 12 + 16, fun _ _ => []⟩]
  pick _ _ := 0
  find l A := S_gplay.find l A
def G_gdoX (a : GdA) : Prop := fnW Tryz.prog E0 (cwX (fun c => cwD Tryz.prog S_gcheck (cwD Tryz.prog S_gturn (cwD Tryz.prog S_gbad c))) 3) [] S_gdoX.f (S_gdoX.args a) (mem (S_gdoX.R a) S_gdoX.n) (endD Tryz.prog S_gdoX a)
def S_gsilX : SpecD where
  f := 64
  α := GsA
  args a := [.pointer (some ⟨12, 0, none⟩), poT a.p (12 + 12), tgI .i64 a.w]
  R a := S_gsil.R a
  n := 12 + 15
  pre a := (∃ k j, isG a.g a.p k j) ∧ ¬ (a.w = 0 ∨ a.w = 1)
  outs := [⟨TnB, fun _ b => b.k = 28, fun _ b => erG b.k, fun _ _ => [], fun _ _ => 12 + 15, fun _ _ => []⟩]
  pick _ _ := 0
  find l A := S_gsil.find l A
def G_gsilX (a : GsA) : Prop := fnW Tryz.prog E0 (cwX (fun c => cwD Tryz.prog S_gcheck (cwD Tryz.prog S_gturn c)) 3) [] S_gsilX.f (S_gsilX.args a) (mem (S_gsilX.R a) S_gsilX.n) (endD Tryz.prog S_gsilX a)
def S_gdo : SpecD where
  f := 72
  α := GdA
  args a := S_gdoX.args a
  R a := S_gdoX.R a
  n := 12 + 16
  pre a := inR a.z ∧ ∃ k j, isG a.g a.p k j
  outs := [⟨PoA, fun a b => ∃ (k j m : Nat), isG a.g a.p k j ∧ doG k j a.s a.z = (m : Int) ∧ isG a.g b k m, fun _ b => okG b (12 + 16), fun _ b => poR b (12 + 16), fun _ _ => 12 + 19, fun v _ => poN (12 + 16) v⟩,
    ⟨TnB, fun a b => 0 < b.k ∧ ∃ k j, isG a.g a.p k j ∧ doG k j a.s a.z = -b.k, fun _ b => erG b.k, fun _ _ => [], fun _ _ => 12 + 16, fun _ _ => []⟩]
  pick v _ := match lv (agv v) 1 with
    | .int _ 0 => 0
    | _ => 1
  find l A := S_gplay.find l A
def G_cdo (a : GdA) : Prop := callD Tryz.prog S_gplay (fun _ => True) (S_gdo.args a) (mem (S_gdo.R a) S_gdo.n) (endD Tryz.prog S_gdo a)
def S_gsl : SpecD where
  f := 64
  α := GsA
  args a := S_gsilX.args a
  R a := S_gsilX.R a
  n := 12 + 15
  pre a := ∃ k j, isG a.g a.p k j
  outs := [⟨PoA, fun a b => ∃ (k j m : Nat), isG a.g a.p k j ∧ silG k j a.w = (m : Int) ∧ isG a.g b k m, fun _ b => okG b (12 + 15), fun _ b => poR b (12 + 15), fun _ _ => 12 + 18, fun v _ => poN (12 + 15) v⟩,
    ⟨TnB, fun a b => 0 < b.k ∧ ∃ k j, isG a.g a.p k j ∧ silG k j a.w = -b.k, fun _ b => erG b.k, fun _ _ => [], fun _ _ => 12 + 15, fun _ _ => []⟩]
  pick v _ := match lv (agv v) 1 with
    | .int _ 0 => 0
    | _ => 1
  find l A := S_gsil.find l A
def G_csil (a : GsA) : Prop := callD Tryz.prog S_gsil (fun _ => True) (S_gsl.args a) (mem (S_gsl.R a) S_gsl.n) (endD Tryz.prog S_gsl a)
end
end Go.Proofs.YtfkacmmcgncooaaGreatDoor
end

/- The two games: what is paid (what is to be shown). -/
section
set_option maxRecDepth 100000
namespace Go.Proofs.YtfkacmmcgncooaaGreatDoor
open Go.Ev
-- keep turnG gpos allG isG isC rulG posG coG payT payR rightQ cells2
def rightQ (n : Int) : Prop := 0 ≤ n ∧ n ≤ 1125899906842624
structure GyA where
  g : RuA
  p : PoA
  w : Int
structure XyB where
  x : Int
  y : Int
def payR (k j : Nat) (w x y : Int) : Prop := ((k, j, 0, 0, 0) ∈ payT ∧ x = w ∧ y = 0) ∨ ∃ a, (k, j, a, 0, 1) ∈ payT ∧ x = (if a ≤ w then a else w) ∧ y = w - x
set_option linter.unusedSectionVars false
variable [Go.Ev.Frozen Tryz.prog]
noncomputable section
def S_gpays : SpecD where
  f := 63
  α := GyA
  args a := [.pointer (some ⟨12, 0, none⟩), poT a.p (12 + 12), tgI .i64 a.w]
  R a := ruR a.g 12 ++ (poR a.p (12 + 12) ++ [(2, .f cells2 356 .ro)])
  n := 12 + 15
  pre a := (∃ k j, isG a.g a.p k j ∧ turnG k j < 0) ∧ rightQ a.w
  outs := [⟨XyB, fun a b => ∃ k j, isG a.g a.p k j ∧ payR k j a.w b.x b.y, fun _ _ => .tuple ⟨[sc (12 + 15) 2, .int .i64 0]⟩, fun _ b => [(12 + 15, .p (.row [tgI .i64 b.x, tgI .i64 b.y] 3 (.grown 2)))], fun _ _ => 12 + 16, fun v _ => renS (12 + 15) (lv (agv v) 0)⟩]
  pick _ _ := 0
  find l A := ruK A 12 (lv l 0) fun g q => poK A (12 + 12) (agv (lv l 1)) fun p r => wI (lv l 2) fun w => some (⟨g, p, w⟩, q ++ r)
def G_gpays (a : GyA) : Prop := fnW Tryz.prog E0 (cwX (fun c => cwD Tryz.prog S_gcheck (cwD Tryz.prog S_gturn (cwD Tryz.prog S_gpart c))) 3) [] S_gpays.f (S_gpays.args a) (mem (S_gpays.R a) S_gpays.n) (endD Tryz.prog S_gpays a)
end
end Go.Proofs.YtfkacmmcgncooaaGreatDoor
end

/- The two games: rules and positions are told apart; their rows hold no places. -/
section
set_option maxRecDepth 100000
namespace Go.Proofs.YtfkacmmcgncooaaGreatDoor
open Go.Ev
set_option linter.unusedSectionVars false
variable [Frozen Tryz.prog]
structure FlG (g : RuA) (p : PoA) : Prop where
  cv : FlatL g.cv
  c0 : FlatL g.c0
  c1 : FlatL g.c1
  c2 : FlatL g.c2
  c3 : FlatL g.c3
  c4 : FlatL g.c4
  cm : FlatL g.cm
  cc : FlatL g.cc
  v : FlatL p.v
  g : FlatL p.g
  t : FlatL p.t
noncomputable def flB (g : RuA) (p : PoA) : Bool := lall ftag g.cv && (lall ftag g.c0 && (lall ftag g.c1 && (lall ftag g.c2 && (lall ftag g.c3 && (lall ftag g.c4 && (lall ftag g.cm && (lall ftag g.cc && (lall ftag p.v && (lall ftag p.g && lall ftag p.t)))))))))
theorem flB_all : (allG.all fun q => flB (rulG q.1) (posG q.1 q.2)) = true := by kernel_rfl
theorem flG_of {g : RuA} {p : PoA} {k j : Nat} (h : isG g p k j) : FlG g p := by
  obtain ⟨hm, rfl, rfl⟩ := h
  have := List.all_eq_true.1 flB_all (k, j) hm
  unfold flB at this
  simp only [Bool.and_eq_true] at this
  obtain ⟨a1, a2, a3, a4, a5, a6, a7, a8, a9, a10, a11⟩ := this
  exact ⟨fun v hv => lall_mem a1 v hv, fun v hv => lall_mem a2 v hv, fun v hv => lall_mem a3 v hv, fun v hv => lall_mem a4 v hv, fun v hv => lall_mem a5 v hv, fun v hv => lall_mem a6 v hv, fun v hv => lall_mem a7 v hv, fun v hv => lall_mem a8 v hv, fun v hv => lall_mem a9 v hv, fun v hv => lall_mem a10 v hv, fun v hv => lall_mem a11 v hv⟩
theorem fl11 : FlatL [Value.int .i64 1, Value.int .i64 1] := fun v hv => lall_mem (l := [Value.int .i64 1, Value.int .i64 1]) (by kernel_rfl) v hv
theorem fl00 : FlatL [Value.int .i32 0, Value.int .i32 0] := fun v hv => lall_mem (l := [Value.int .i32 0, Value.int .i32 0]) (by kernel_rfl) v hv
theorem glO : FlatL cells2 := fun v hv => lall_mem (l := cells2) (by kernel_rfl) v hv
theorem k01_all : (allG.all fun q => Nat.beq q.1 0 || Nat.beq q.1 1) = true := by kernel_rfl
theorem k01 {k j : Nat} (h : (k, j) ∈ allG) : k = 0 ∨ k = 1 := by
  have := List.all_eq_true.1 k01_all (k, j) h
  rw [Bool.or_eq_true] at this
  exact this.imp Nat.eq_of_beq_eq_true Nat.eq_of_beq_eq_true
theorem rulL_inj {k k' j j' : Nat} (h : (k, j) ∈ allG) (h' : (k', j') ∈ allG) (e : rulL k 1 = rulL k' 1) : k = k' := by
  rcases k01 h with a | a <;> rcases k01 h' with b | b <;> subst a b <;> first | rfl | exact absurd e (by decide)
theorem mapI_inj {k : IntKind} {l m : List Int} (h : l.map (Value.int k) = m.map (Value.int k)) : l = m := List.map_inj_right (fun _ _ e => by cases e; rfl) |>.1 h
theorem mapB_inj {l m : List Bool} (h : l.map Value.bool = m.map Value.bool) : l = m := List.map_inj_right (fun _ _ e => by cases e; rfl) |>.1 h
def gEq (p q : GPos) : Bool := decide (p.v = q.v) && (decide (p.g = q.g) && (decide (p.t = q.t) && (decide (p.r1 = q.r1) && (decide (p.r3 = q.r3) && decide (p.r4 = q.r4)))))
theorem pos_apart : (allG.all fun q => allG.all fun r => !Nat.beq q.1 r.1 || (!gEq (gpos q.1 q.2) (gpos r.1 r.2) || Nat.beq q.2 r.2)) = true := by kernel_rfl
theorem isG_inj {g : RuA} {p : PoA} {k j k' j' : Nat} (h : isG g p k j) (h' : isG g p k' j') : k = k' ∧ j = j' := by
  obtain ⟨hm, rfl, rfl⟩ := h
  obtain ⟨hm', hg, hp⟩ := h'
  have e1 : k = k' := rulL_inj hm hm' (congrArg RuA.l1 hg)
  subst e1
  have h1 := List.all_eq_true.1 (List.all_eq_true.1 pos_apart (k, j) hm) (k, j') hm'
  have e2 : gEq (gpos k j) (gpos k j') = true := by
    unfold gEq
    simp only [Bool.and_eq_true, decide_eq_true_eq]
    exact ⟨mapI_inj (congrArg PoA.v hp), mapB_inj (congrArg PoA.g hp), mapI_inj (congrArg PoA.t hp), congrArg PoA.r1 hp, congrArg PoA.r3 hp, congrArg PoA.r4 hp⟩
  simp only [e2, Nat.beq_refl, Bool.not_true, Bool.false_or] at h1
  exact ⟨rfl, Nat.eq_of_beq_eq_true h1⟩
theorem isC_of {g : RuA} {p : PoA} {k j : Nat} (h : isG g p k j) : isC (coG g) p.v k j := by
  obtain ⟨hm, rfl, rfl⟩ := h
  exact ⟨hm, rfl, rfl⟩
theorem pay_same : (payT.all fun e => allG.all fun q => !Nat.beq e.1 q.1 || (!decide ((gpos e.1 e.2.1).v = (gpos q.1 q.2).v) || (!decide (turnG q.1 q.2 < 0) || payT.contains (q.1, q.2, e.2.2)))) = true := by kernel_rfl
theorem pay_at {g : RuA} {p : PoA} {k j k' j' : Nat} (h : isG g p k j) (h' : isC (coG g) p.v k' j') (ht : turnG k j < 0) {x y r : Int} (hp : (k', j', x, y, r) ∈ payT) : (k, j, x, y, r) ∈ payT := by
  obtain ⟨hm, rfl, rfl⟩ := h
  obtain ⟨hm', hg, hv⟩ := h'
  have e1 : k = k' := rulL_inj hm hm' (congrArg RuA.l1 hg)
  subst e1
  have h1 := List.all_eq_true.1 (List.all_eq_true.1 pay_same _ hp) (k, j) hm
  have e2 : (gpos k j').v = (gpos k j).v := (mapI_inj hv).symm
  simp only [e2, Nat.beq_refl, Bool.not_true, Bool.false_or, decide_true, ht, List.contains_iff_mem] at h1
  exact h1
end Go.Proofs.YtfkacmmcgncooaaGreatDoor
end

/- The two games: what is paid is what is told of it. -/
section
set_option maxRecDepth 100000
namespace Go.Proofs.YtfkacmmcgncooaaGreatDoor
open Go.Ev
set_option linter.unusedSectionVars false
variable [Go.Ev.Frozen Tryz.prog]
structure GW (p : Prop) : Prop where
  h : p
theorem specG_at {E : Env} {cw : CW} (hE : EnvOK Tryz.prog E) (hcw : CwOK Tryz.prog cw) {S : SpecD} {an : Anns} {a : S.α} (h : S.pre a → GW (fnW Tryz.prog E cw an S.f (S.args a) (mem (S.R a) S.n) (endD Tryz.prog S a))) : SpecAt Tryz.prog S.spec a := specD_at (an := an) hE hcw fun hp => (h hp).h
set_option maxHeartbeats 3200000 in
abbrev QYk5P_1 (a0 : RuA) : Prop := True ∧ (2 : Int) = 2 ∧ (2 : Int) = 2 ∧ Z2 ∧ (0 = 0 ∧ 1 = 1 ∧ 1 = 1) ∧ (0 = 0 ∧ Z1 a0.1 ∧ Z1 a0.1) ∧ (0 = 0 ∧ Z1 a0.2 ∧ Z1 a0.2) ∧ (0 = 0 ∧ Z1
 a0.3 ∧ Z1 a0.3) ∧ (0 = 0 ∧ Z1 a0.4 ∧ Z1 a0.4) ∧ (0 = 0 ∧ Z1 a0.5 ∧ Z1 a0.5) ∧ Z1 a0.6 ∧ Z1 a0.7 ∧ Z1 a0.8 ∧ Z1 a0.9 ∧ Z1 a0.10 ∧ True
abbrev QYk5P_2 : Prop := True ∧ True ∧ True ∧ True ∧ True ∧ True ∧ True ∧ True ∧ True ∧ True ∧ True
abbrev QYk5P_3 (a0 : GyA) (a1 : Nat) (a2 : Nat) : Prop := isC (RuA.mk a0.1.1 a0.1.2 a0.1.3 a0.1.4 a0.1.5 a0.1.6 a0.1.7 a0.1.8 a0.1.9 a0.1.10 a0.1.11 a0.1.12 a0.1.13 a0.1.14 a0.1.15
 a0.1.16 [] [] (D8.mk (0 : Int) (0 : Int) (0 : Int) (0 : Int) (0 : Int) (0 : Int) (0 : Int) (0 : Int))) a0.2.1 a1 a2
abbrev QYk5P_4 : Prop := True ∧ FlatL [Value.int .i32 0, Value.int .i32 0] ∧ [Value.int .i32 0, Value.int .i32 0] = [Value.int .i32 0, Value.int .i32 0]
abbrev QYk5P_5 (a0 : GyA) (a1 : XyB) : Prop := ∃ (b0 b1 : Nat), isG a0.1 a0.2 b0 b1 ∧ payR b0 b1 a0.3 a1.1 a1.2
abbrev QYk5P_6 (a0 : RuA) : Prop := True ∧ True ∧ Z2 ∧ Z1 a0.19.1 ∧ Z1 a0.19.2 ∧ Z1 a0.19.3 ∧ Z1 a0.19.4 ∧ Z1 a0.19.5 ∧ Z1 a0.19.6 ∧ Z1 a0.19.7 ∧ Z1 a0.19.8 ∧ 0 = 0 ∧ (0 = 0 ∧ 1 =
 1 ∧ 1 = 1) ∧ Z2 ∧ True
abbrev QYk5P_7 : Prop := True ∧ FlatL [Value.int .i64 1, Value.int .i64 1] ∧ [Value.int .i64 1, Value.int .i64 1] = [Value.int .i64 1, Value.int .i64 1]
abbrev QYk5P_8 : Prop := True ∧ True ∧ True ∧ True ∧ True ∧ True ∧ True ∧ True ∧ True ∧ (True ∧ True) ∧ (True ∧ True ∧ True) ∧ True ∧ True ∧ True
abbrev QYk5P_9 (a0 : Int) (a1 : Int) (a2 : GyA) (a3 : Int) (a4 : Int) : Prop := (True ∧ True ∧ QYk5P_2) ∧ ∀ (b0 : Int), b0 = IntKind.wrap .i64 (a0 - a1) → QYk5P_2 ∧ ∃ (b1 : XyB),
 QYk5P_5 a2 b1 ∧ (Z2 ∧ (0 : Int) = 0 ∧ True) ∧ (2 = 2 ∧ b1.1 = a3 ∧ b1.2 = a4 ∧ True) ∧ True
theorem vc_gpays (a : GyA) : G_gpays a = ((True ∧ (∃ (x0 x1 : Nat), isG a.1 a.2 x0 x1)) ∧ ((0 = 0 ∧ (Z2 ∧ Z2 ∧ Z2 ∧ Z1 a.2.4 ∧ Z1 a.2.5 ∧ Z1 a.2.6 ∧ Z1 a.2.7 ∧ Z1 a.2.8 ∧ True) ∧ True) ∧ QYk5P_6 a.1 ∧ QYk5P_7 ∧ QYk5P_1
a.1 ∧ QYk5P_4 ∧ ZF a.1.11 ∧ ZF a.1.12 ∧ ZF a.1.13 ∧ ZF a.1.14 ∧ ZF a.1.15 ∧ ZF a.1.16 ∧ ZF a.1.17 ∧ ZF a.1.18 ∧ ZF a.2.1 ∧ ZF a.2.2 ∧ ZF a.2.3 ∧ True) ∧ (∀ (_ : Unit), True → (True
∧ (∃ (x3 x4 : Nat), isG a.1 a.2 x3 x4)) ∧ ((0 = 0 ∧ (Z2 ∧ Z2 ∧ Z2 ∧ Z1 a.2.4 ∧ Z1 a.2.5 ∧ Z1 a.2.6 ∧ Z1 a.2.7 ∧ Z1 a.2.8 ∧ True) ∧ True) ∧ QYk5P_6 a.1 ∧ QYk5P_7 ∧ QYk5P_1 a.1 ∧
QYk5P_4 ∧ ZF a.1.11 ∧ ZF a.1.12 ∧ ZF a.1.13 ∧ ZF a.1.14 ∧ ZF a.1.15 ∧ ZF a.1.16 ∧ ZF a.1.17 ∧ ZF a.1.18 ∧ ZF a.2.1 ∧ ZF a.2.2 ∧ ZF a.2.3 ∧ ZF cells2 ∧ True) ∧ (∀ (x5 : TnB), (∃ (x6
x7 : Nat), isG a.1 a.2 x6 x7 ∧ x5.1 = turnG x6 x7) → (0 ≤ x5.1 → (∃ (x8 : XyB), QYk5P_5 a x8 ∧ (False ∧ (0 : Int) = 10 ∧ True) ∧ True ∧ True)) ∧ (¬(0 ≤ x5.1) → (0 ≤ a.3 → (a.3 ≤
1125899906842624 → (True ∧ (∃ (x11 x12 : Nat), QYk5P_3 a x11 x12 ∧ turnG x11 x12 < (0 : Int))) ∧ ((0 = 0 ∧ (4 : Int) = 4 ∧ Z2 ∧ (0 = 0 ∧ 0 = 0) ∧ True) ∧ QYk5P_1 a.1 ∧ QYk5P_4 ∧ ZF
a.1.11 ∧ ZF a.1.12 ∧ ZF a.1.13 ∧ ZF a.1.14 ∧ ZF a.1.15 ∧ ZF a.1.16 ∧ ZF a.2.1 ∧ ZF cells2 ∧ True) ∧ (∀ (x13 : TnB), x13.1 = 0 ∧ (∃ (x14 x15 : Nat), QYk5P_3 a x14 x15 ∧ (x14, x15,
(0 : Int), (0 : Int), (0 : Int)) ∈ payT) → QYk5P_8 ∧ ∀ (x16 : Int), x16 = IntKind.wrap .i64 x13.1 → ∀ (x17 : Int), x17 = Max.max x16 (0 : Int) → ∀ (x18 : Int), x18 = Min.min x17
a.3 → ∀ (x19 : Int), x19 = IntKind.wrap .i64 ((0 : Int) + x18) → (True ∧ True ∧ QYk5P_2) ∧ ∀ (x20 : Int), x20 = IntKind.wrap .i64 (a.3 - x18) → ∀ (x21 : Int), x21 = Min.min (0 :
Int) x20 → ∀ (x22 : Int), x22 = IntKind.wrap .i64 ((0 : Int) + x21) → (True ∧ True ∧ QYk5P_2) ∧ ∀ (x23 : Int), x23 = IntKind.wrap .i64 (x20 - x21) → ∀ (x24 : Int), x24 = Max.max
x23 (0 : Int) → ∀ (x25 : Int), x25 = Min.min x24 x23 → ∀ (x26 : Int), x26 = IntKind.wrap .i64 (x19 + x25) → QYk5P_9 x23 x25 a x26 x22) ∧ (∀ (x31 : TnB), (∃ (x32 x33 : Nat), QYk5P_3
a x32 x33 ∧ (x32, x33, x31.1, (0 : Int), (1 : Int)) ∈ payT) → QYk5P_8 ∧ ∀ (x34 : Int), x34 = IntKind.wrap .i64 x31.1 → ∀ (x35 : Int), x35 = Max.max x34 (0 : Int) → ∀ (x36 : Int),
x36 = Min.min x35 a.3 → ∀ (x37 : Int), x37 = IntKind.wrap .i64 ((0 : Int) + x36) → (True ∧ True ∧ QYk5P_2) ∧ ∀ (x38 : Int), x38 = IntKind.wrap .i64 (a.3 - x36) → ∀ (x39 : Int), x39
= Min.min (0 : Int) x38 → ∀ (x40 : Int), x40 = IntKind.wrap .i64 ((0 : Int) + x39) → (True ∧ True ∧ QYk5P_2) ∧ ∀ (x41 : Int), x41 = IntKind.wrap .i64 (x38 - x39) → ∀ (x42 : Int),
x42 = Max.max x41 (0 : Int) → ∀ (x43 : Int), x43 = Min.min x42 x41 → ∀ (x44 : Int), x44 = IntKind.wrap .i64 (x40 + x43) → QYk5P_9 x41 x43 a x37 x44) ∧ True) ∧ (¬(a.3 ≤
1125899906842624) → (∃ (x49 : XyB), QYk5P_5 a x49 ∧ (False ∧ (0 : Int) = 2 ∧ True) ∧ True ∧ True))) ∧ (¬(0 ≤ a.3) → ∃ (x52 : XyB), QYk5P_5 a x52 ∧ (False ∧ (0 : Int) = 2 ∧ True) ∧
True ∧ True))) ∧ True) ∧ True) := by kernel_rfl
theorem wr64 {x : Int} (h : -9223372036854775808 ≤ x ∧ x ≤ 9223372036854775807) : IntKind.wrap .i64 x = x := by rw [wrap_i64]; omega
theorem payT_small : (payT.all fun e => decide (0 ≤ e.2.2.1) && decide (e.2.2.1 ≤ 6)) = true := by kernel_rfl
theorem g_gpays (a : GyA) (hp : (∃ k j, isG a.g a.p k j ∧ turnG k j < 0) ∧ rightQ a.w) : GW (G_gpays a) := by
  obtain ⟨⟨k, j, hi, ht⟩, hw1, hw2⟩ := hp
  obtain ⟨f1, f2, f3, f4, f5, f6, f7, f8, f9, f10, f11⟩ := flG_of hi
  have f12 := fl11
  have f13 := fl00
  have f14 := glO
  refine ⟨?_⟩
  rw [vc_gpays]
  refine ⟨⟨trivial, k, j, hi⟩, by (and_intros<;>first|trivial|rfl), fun _ _ => ⟨⟨trivial, k, j, hi⟩, by (and_intros<;>first|trivial|rfl), fun t ht' => ?_, trivial⟩, trivial⟩
  obtain ⟨k', j', hi', ht'⟩ := ht'
  obtain ⟨rfl, rfl⟩ := isG_inj hi hi'
  refine ⟨fun h0 => absurd (show (0 : Int) ≤ t.k from h0) (by omega), fun _ => ⟨fun _ => ⟨fun _ => ⟨⟨trivial, k, j, isC_of hi, ht⟩, by (and_intros<;>first|trivial|rfl), ?_, ?_, trivial⟩, fun h => absurd hw2 h⟩, fun h => absurd hw1 h⟩⟩
  · rintro b ⟨hb, k', j', hc, hm⟩
    have hm := pay_at hi hc ht hm
    refine ⟨by (and_intros<;>first|trivial|rfl), ?_⟩
    intro x1 e1 x2 e2 x3 e3 x4 e4
    refine ⟨by (and_intros<;>first|trivial|rfl), ?_⟩
    intro x5 e5 x6 e6 x7 e7
    refine ⟨by (and_intros<;>first|trivial|rfl), ?_⟩
    intro x8 e8 x9 e9 x10 e10 x11 e11
    refine ⟨by (and_intros<;>first|trivial|rfl), ?_⟩
    intro x12 e12
    refine ⟨by (and_intros<;>first|trivial|rfl), ?_⟩
    rw [hb] at e1
    rw [wr64 (by omega)] at e1
    have e3' : x3 = 0 := by omega
    rw [wr64 (by omega)] at e4 e5
    have e6' : x6 = 0 := by omega
    rw [wr64 (by omega)] at e7 e8
    have e10' : x10 = a.w := by omega
    rw [wr64 (by omega)] at e11 e12
    refine ⟨⟨x11, x7⟩, ⟨k, j, hi, .inl ⟨hm, by show x11 = a.w; omega, by show x7 = 0; omega⟩⟩, ?_⟩
    (and_intros<;>first|trivial|rfl)
  · rintro b ⟨k', j', hc, hm⟩
    have hm := pay_at hi hc ht hm
    have hs := List.all_eq_true.1 payT_small _ hm
    simp only [Bool.and_eq_true, decide_eq_true_eq] at hs
    obtain ⟨s1, s2⟩ := hs
    refine ⟨by (and_intros<;>first|trivial|rfl), ?_⟩
    intro x1 e1 x2 e2 x3 e3 x4 e4
    refine ⟨by (and_intros<;>first|trivial|rfl), ?_⟩
    intro x5 e5 x6 e6 x7 e7
    refine ⟨by (and_intros<;>first|trivial|rfl), ?_⟩
    intro x8 e8 x9 e9 x10 e10 x11 e11
    refine ⟨by (and_intros<;>first|trivial|rfl), ?_⟩
    intro x12 e12
    refine ⟨by (and_intros<;>first|trivial|rfl), ?_⟩
    rw [wr64 (by omega)] at e1
    have e3' : x3 = if b.k ≤ a.w then b.k else a.w := by split <;> omega
    have e3'' : 0 ≤ x3 ∧ x3 ≤ a.w := by omega
    rw [wr64 (by omega)] at e4 e5
    have e6' : x6 = 0 := by omega
    rw [wr64 (by omega)] at e7 e8
    have e10' : x10 = x8 := by omega
    rw [wr64 (by omega)] at e11 e12
    refine ⟨⟨x4, x11⟩, ⟨k, j, hi, .inr ⟨b.k, hm, by show x4 = _; rw [← e3']; omega, by show x11 = a.w - x4; omega⟩⟩, ?_⟩
    (and_intros<;>first|trivial|rfl)
theorem s_gpays : SpecOK Tryz.prog S_gpays.spec := fun a => specG_at (an := []) envOK (cwX_ok (fun _ h => cwD_ok s_gcheck (cwD_ok s_gturn (cwD_ok s_gpart h))) 3) fun hp => g_gpays a hp
end Go.Proofs.YtfkacmmcgncooaaGreatDoor
end
