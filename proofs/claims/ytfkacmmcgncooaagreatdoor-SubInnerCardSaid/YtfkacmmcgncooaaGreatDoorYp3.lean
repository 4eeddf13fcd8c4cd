/- Tables within tables: a beginning, whatever the parts (what is to be shown). -/
import Derived.Test.YtfkacmmcgncooaaGreatDoorYp2P
import Derived.Test.YtfkacmmcgncooaaGreatDoorYt1
import Derived.Test.YtfkacmmcgncooaaGreatDoorYx0
section
set_option maxRecDepth 100000
namespace Go.Proofs.YtfkacmmcgncooaaGreatDoor
open Go.Ev
-- keep Go.Proofs.Tryz.prog turnG isG isGx smQ rightQ onG erQ posG rulG allG Go.Ev.FX cells2
def twoX [Frozen Tryz.prog] (v : Option Addr) (l c : Nat) : Prop := l = 2 → ∃ b o, v = some ⟨b, o, none⟩ ∧ 2 ≤ c ∧ ∃ x y : Int, FX Tryz.prog b o (.int .i64 x) ∧ FX Tryz.prog b (o + 1) (.int .i64 y)
def partX [Frozen Tryz.prog] (v : Option Addr) (l : Nat) (b : XyB) : Prop := l = 2 ∧ ∃ k o, v = some ⟨k, o, none⟩ ∧ FX Tryz.prog k o (.int .i64 b.x) ∧ FX Tryz.prog k (o + 1) (.int .i64 b.y)
variable [Frozen Tryz.prog]
noncomputable section
def xsK {β : Type} (v : Value) (k : Option Addr → Nat → Nat → Option β) : Option β := match v with
  | .iface _ (.slice a l c) => k a l c
  | _ => none
def S_push (d : Nat) : SpecD where
  f := 14
  α := PuA
  args a := [.pointer (some ⟨12, 0, none⟩), .pointer (some ⟨inB d + 16, 0, none⟩), poT a.p (inB d + 28), .iface EXT (.slice a.v a.l a.c)]
  R a := pushR d a.s a.g a.p
  n := inB d + 31
  pre a := (isGx a.s.g a.s.p ∧ isGx a.g a.p) ∧ (smQ a.s.x ∧ smQ a.s.y) ∧ twoX a.v a.l a.c
  outs := [⟨XyB, fun a b => partX a.v a.l b ∧ fitsQ a.s b, fun _ _ => .int .i64 0,
      fun a b => stR 12 (inB d + 31) (d + 1) (pushL d (inB d + 16) (inB d + 31) a.s a.p b) ++ (poR a.p (inB d + 32) ++ [(12 + 1, .p .dead)]), fun _ _ => inB d + 36, fun _ A => pushN d (inB d + 31) A⟩,
    ⟨TnB, fun _ b => erQ b.k, fun _ b => tgI .i64 b.k, fun a _ => stR 12 (12 + 1) d (stL d a.s), fun _ _ => inB d + 31, fun _ _ => []⟩]
  pick v _ := pickZ v
  find l A := stK d A (lv l 0) fun s q => ruK A (inB d + 16) (lv l 1) fun g r => poK A (inB d + 28) (agv (lv l 2)) fun p t => xsK (lv l 3) fun v n c => some (⟨s, g, p, v, n, c⟩, q ++ (r ++ t))
def S_push4 : SpecD where
  f := 14
  α := PuA
  args a := [.pointer (some ⟨12, 0, none⟩), .pointer (some ⟨inB 4 + 16, 0, none⟩), poT a.p (inB 4 + 28), .iface EXT (.slice a.v a.l a.c)]
  R a := stR 12 (12 + 1) 4 (stL 4 a.s) ++ outR (stL 4 a.s ++ [loV (inB 4 + 16) ou0])
  n := inB 4 + 31
  pre _ := True
  outs := [⟨TnB, fun _ b => b.k = 25, fun _ b => tgI .i64 b.k, fun a _ => stR 12 (12 + 1) 4 (stL 4 a.s), fun _ _ => inB 4 + 31, fun _ _ => []⟩]
  pick _ _ := 0
  find l A := stK 4 A (lv l 0) fun s q => ruK A (inB 4 + 16) (lv l 1) fun g r => poK A (inB 4 + 28) (agv (lv l 2)) fun p t => xsK (lv l 3) fun v n c => some (⟨s, g, p, v, n, c⟩, q ++ (r ++ t))
def G_push4 (a : PuA) : Prop := fnW Tryz.prog E0 (cwX (fun c => c) 8) [] S_push4.f (S_push4.args a) (mem (S_push4.R a) S_push4.n) (endD Tryz.prog S_push4 a)
end
end Go.Proofs.YtfkacmmcgncooaaGreatDoor
end

/- Tables within tables: a beginning, whatever the parts, is as is told. -/
section
set_option maxRecDepth 100000
namespace Go.Proofs.YtfkacmmcgncooaaGreatDoor
open Go.Ev
set_option linter.unusedSectionVars false
variable [Go.Ev.Frozen Tryz.prog]
theorem vc_push4 (a : PuA) : G_push4 a = ((True ∧ True ∧ True ∧ True ∧ True ∧ True ∧ True ∧ True ∧ True ∧ True ∧ True ∧ True ∧ True) ∧ ∃ (x0 : TnB), x0.1 = 25 ∧ x0.1 = 25 ∧ (True ∧ (0 = 0 ∧ 4 = 4 ∧ 4 = 4) ∧ True) ∧ (4 = 4
∧ 0 = 0 ∧ Z2 ∧ Z2 ∧ Z2 ∧ Z1 a.1.1.1 ∧ Z1 a.1.1.2 ∧ Z1 a.1.1.3 ∧ Z1 a.1.1.4 ∧ Z1 a.1.1.5 ∧ Z2 ∧ 0 = 0 ∧ Z2 ∧ Z2 ∧ Z2 ∧ Z1 a.1.2.1 ∧ Z1 a.1.2.2 ∧ Z1 a.1.2.3 ∧ Z1 a.1.2.4 ∧ Z1 a.1.2.5
∧ Z2 ∧ 0 = 0 ∧ Z2 ∧ Z2 ∧ Z2 ∧ Z1 a.1.3.1 ∧ Z1 a.1.3.2 ∧ Z1 a.1.3.3 ∧ Z1 a.1.3.4 ∧ Z1 a.1.3.5 ∧ Z2 ∧ 0 = 0 ∧ Z2 ∧ Z2 ∧ Z2 ∧ Z1 a.1.5.4 ∧ Z1 a.1.5.5 ∧ Z1 a.1.5.6 ∧ Z1 a.1.5.7 ∧ Z1
a.1.5.8 ∧ Z2 ∧ True) ∧ (2 = 2 ∧ Z1 a.1.1.6 ∧ Z1 a.1.1.7 ∧ True) ∧ (2 = 2 ∧ Z1 a.1.2.6 ∧ Z1 a.1.2.7 ∧ True) ∧ (2 = 2 ∧ Z1 a.1.3.6 ∧ Z1 a.1.3.7 ∧ True) ∧ (2 = 2 ∧ Z1 a.1.6 ∧ Z1 a.1.7
∧ True) ∧ True) := by kernel_rfl
theorem g_push4 (a : PuA) : GW (G_push4 a) := by
  refine ⟨?_⟩
  rw [vc_push4]
  (repeat(apply And.intro;focus(and_intros<;>first|trivial|rfl)))
  refine ⟨⟨25⟩, rfl, ?_⟩
  (and_intros<;>first|trivial|rfl)
theorem s_push4 : SpecOK Tryz.prog S_push4.spec := fun a => specG_at (an := []) envOK (cwX_ok (fun _ h => h) 8) fun _ => g_push4 a
theorem fnSem_args {f : FuncId} {args args2 : List Value} {A : AW} {v : Value} {B : AW} (h : FnSem Tryz.prog f args A v B) (hx : ∀ σ args', VRL σ args2 args' → VRL σ args args') : FnSem Tryz.prog f args2 A v B := fun σ w args' hR ha => h σ w args' hR (hx σ args' ha)
theorem cwPush_ok : CwOK Tryz.prog cwPush := cwX_ok (fun _ h => cwD_ok s_gcheck (cwD_ok s_gturn (cwD_ok s_gclone (cwE_ok s_clX h)))) 8
theorem cwPushN_ok : CwOK Tryz.prog cwPushN := cwX_ok (fun _ h => cwNo_ok (cwD_ok s_gcheck (cwD_ok s_gturn h))) 8
theorem g_pushN1 (a : PuA) (hp : isGx a.s.g a.s.p ∧ isGx a.g a.p) (hl : a.l ≠ 2) : GW (G_pushN1 a) := by
  obtain ⟨⟨k, j, hi⟩, k2, j2, hi2⟩ := hp
  obtain ⟨f1, f2, f3, f4, f5, f6, f7, f8, f9, f10, f11⟩ := flG_of hi
  obtain ⟨g1, g2, g3, g4, g5, g6, g7, g8, g9, g10, g11⟩ := flG_of hi2
  have f12 := fl11
  have f13 := fl00
  have f14 := glO
  refine ⟨?_⟩
  rw [vc_pushN1]
  (repeat(apply And.intro;focus(and_intros<;>first|trivial|rfl)))
  refine ⟨⟨trivial, k2, j2, hi2⟩, by (and_intros<;>first|trivial|rfl), fun _ _ => ?_, trivial⟩
  (repeat(apply And.intro;focus(and_intros<;>first|trivial|rfl)))
  refine ⟨⟨trivial, k, j, hi⟩, by (and_intros<;>first|trivial|rfl), fun t ht => ?_, trivial⟩
  refine ⟨fun h0 => ?_, fun h0 => ?_⟩
  · (repeat(apply And.intro;focus(and_intros<;>first|trivial|rfl)))
    refine ⟨⟨10⟩, by first | exact .inl rfl | exact .inr (.inl rfl) | exact .inr (.inr (.inl rfl)) | exact .inr (.inr (.inr rfl)), ?_⟩
    (and_intros<;>first|trivial|rfl)
  (repeat(apply And.intro;focus(and_intros<;>first|trivial|rfl)))
  intro x e
  refine ⟨fun h2 => absurd (by omega : a.l = 2) hl, fun _ => ?_⟩
  (repeat(apply And.intro;focus(and_intros<;>first|trivial|rfl)))
  refine ⟨⟨3⟩, by first | exact .inl rfl | exact .inr (.inl rfl) | exact .inr (.inr (.inl rfl)) | exact .inr (.inr (.inr rfl)), ?_⟩
  (and_intros<;>first|trivial|rfl)
theorem s_pushN1 : SpecOK Tryz.prog (S_pushN 1).spec := fun a => specG_at (S := S_pushN 1) (an := []) envOK cwPushN_ok fun hp => g_pushN1 a hp.1 hp.2
theorem s_push21 : SpecOK Tryz.prog (S_push2 1).spec := fun a => specG_at (S := S_push2 1) (an := []) envOK cwPush_ok fun hp => g_push21 a hp.1 hp.2.1 hp.2.2.1 hp.2.2.2
theorem s_push1 : SpecOK Tryz.prog (S_push 1).spec := fun a K hp hq => by
  obtain ⟨h1, h2, h3⟩ := id hp
  by_cases hl : a.l = 2
  · obtain ⟨b, o, hv, hc, hx⟩ := h3 hl
    obtain ⟨v, R', n', hK, hfR, hsem⟩ := s_push21 ⟨a.s, a.g, a.p, b, o, a.c⟩ K ⟨h1, h2, hc, hx⟩ ⟨fun q hb => hq.1 q ⟨⟨hl, b, o, hv, hb.1⟩, hb.2⟩, fun q hb => hq.2.1 q hb, trivial⟩
    refine ⟨v, R', n', hK, hfR, fnSem_args hsem fun σ args' ha => ?_⟩
    cases ha with
    | cons a1 ha => cases ha with
      | cons a2 ha => cases ha with
        | cons a3 ha => cases ha with
          | cons a4 ha =>
            cases ha
            refine .cons a1 (.cons a2 (.cons a3 (.cons ?_ .nil)))
            rw [hv, hl] at a4
            obtain ⟨rfl, hs⟩ := a4.ext_inv rfl
            exact .exl hs
  · exact spec_to (S := S_pushN 1) (T := S_push 1) (a := a) (b := a) rfl rfl rfl rfl (s_pushN1 a) ⟨h1, hl⟩ (fun K h => ⟨h.2.1, trivial⟩) K hp hq
theorem g_pushN2 (a : PuA) (hp : isGx a.s.g a.s.p ∧ isGx a.g a.p) (hl : a.l ≠ 2) : GW (G_pushN2 a) := by
  obtain ⟨⟨k, j, hi⟩, k2, j2, hi2⟩ := hp
  obtain ⟨f1, f2, f3, f4, f5, f6, f7, f8, f9, f10, f11⟩ := flG_of hi
  obtain ⟨g1, g2, g3, g4, g5, g6, g7, g8, g9, g10, g11⟩ := flG_of hi2
  have f12 := fl11
  have f13 := fl00
  have f14 := glO
  refine ⟨?_⟩
  rw [vc_pushN2]
  (repeat(apply And.intro;focus(and_intros<;>first|trivial|rfl)))
  refine ⟨⟨trivial, k2, j2, hi2⟩, by (and_intros<;>first|trivial|rfl), fun _ _ => ?_, trivial⟩
  (repeat(apply And.intro;focus(and_intros<;>first|trivial|rfl)))
  refine ⟨⟨trivial, k, j, hi⟩, by (and_intros<;>first|trivial|rfl), fun t ht => ?_, trivial⟩
  refine ⟨fun h0 => ?_, fun h0 => ?_⟩
  · (repeat(apply And.intro;focus(and_intros<;>first|trivial|rfl)))
    refine ⟨⟨10⟩, by first | exact .inl rfl | exact .inr (.inl rfl) | exact .inr (.inr (.inl rfl)) | exact .inr (.inr (.inr rfl)), ?_⟩
    (and_intros<;>first|trivial|rfl)
  (repeat(apply And.intro;focus(and_intros<;>first|trivial|rfl)))
  intro x e
  refine ⟨fun h2 => absurd (by omega : a.l = 2) hl, fun _ => ?_⟩
  (repeat(apply And.intro;focus(and_intros<;>first|trivial|rfl)))
  refine ⟨⟨3⟩, by first | exact .inl rfl | exact .inr (.inl rfl) | exact .inr (.inr (.inl rfl)) | exact .inr (.inr (.inr rfl)), ?_⟩
  (and_intros<;>first|trivial|rfl)
theorem s_pushN2 : SpecOK Tryz.prog (S_pushN 2).spec := fun a => specG_at (S := S_pushN 2) (an := []) envOK cwPushN_ok fun hp => g_pushN2 a hp.1 hp.2
theorem s_push22 : SpecOK Tryz.prog (S_push2 2).spec := fun a => specG_at (S := S_push2 2) (an := []) envOK cwPush_ok fun hp => g_push22 a hp.1 hp.2.1 hp.2.2.1 hp.2.2.2
theorem s_push2 : SpecOK Tryz.prog (S_push 2).spec := fun a K hp hq => by
  obtain ⟨h1, h2, h3⟩ := id hp
  by_cases hl : a.l = 2
  · obtain ⟨b, o, hv, hc, hx⟩ := h3 hl
    obtain ⟨v, R', n', hK, hfR, hsem⟩ := s_push22 ⟨a.s, a.g, a.p, b, o, a.c⟩ K ⟨h1, h2, hc, hx⟩ ⟨fun q hb => hq.1 q ⟨⟨hl, b, o, hv, hb.1⟩, hb.2⟩, fun q hb => hq.2.1 q hb, trivial⟩
    refine ⟨v, R', n', hK, hfR, fnSem_args hsem fun σ args' ha => ?_⟩
    cases ha with
    | cons a1 ha => cases ha with
      | cons a2 ha => cases ha with
        | cons a3 ha => cases ha with
          | cons a4 ha =>
            cases ha
            refine .cons a1 (.cons a2 (.cons a3 (.cons ?_ .nil)))
            rw [hv, hl] at a4
            obtain ⟨rfl, hs⟩ := a4.ext_inv rfl
            exact .exl hs
  · exact spec_to (S := S_pushN 2) (T := S_push 2) (a := a) (b := a) rfl rfl rfl rfl (s_pushN2 a) ⟨h1, hl⟩ (fun K h => ⟨h.2.1, trivial⟩) K hp hq
theorem g_pushN3 (a : PuA) (hp : isGx a.s.g a.s.p ∧ isGx a.g a.p) (hl : a.l ≠ 2) : GW (G_pushN3 a) := by
  obtain ⟨⟨k, j, hi⟩, k2, j2, hi2⟩ := hp
  obtain ⟨f1, f2, f3, f4, f5, f6, f7, f8, f9, f10, f11⟩ := flG_of hi
  obtain ⟨g1, g2, g3, g4, g5, g6, g7, g8, g9, g10, g11⟩ := flG_of hi2
  have f12 := fl11
  have f13 := fl00
  have f14 := glO
  refine ⟨?_⟩
  rw [vc_pushN3]
  (repeat(apply And.intro;focus(and_intros<;>first|trivial|rfl)))
  refine ⟨⟨trivial, k2, j2, hi2⟩, by (and_intros<;>first|trivial|rfl), fun _ _ => ?_, trivial⟩
  (repeat(apply And.intro;focus(and_intros<;>first|trivial|rfl)))
  refine ⟨⟨trivial, k, j, hi⟩, by (and_intros<;>first|trivial|rfl), fun t ht => ?_, trivial⟩
  refine ⟨fun h0 => ?_, fun h0 => ?_⟩
  · (repeat(apply And.intro;focus(and_intros<;>first|trivial|rfl)))
    refine ⟨⟨10⟩, by first | exact .inl rfl | exact .inr (.inl rfl) | exact .inr (.inr (.inl rfl)) | exact .inr (.inr (.inr rfl)), ?_⟩
    (and_intros<;>first|trivial|rfl)
  (repeat(apply And.intro;focus(and_intros<;>first|trivial|rfl)))
  intro x e
  refine ⟨fun h2 => absurd (by omega : a.l = 2) hl, fun _ => ?_⟩
  (repeat(apply And.intro;focus(and_intros<;>first|trivial|rfl)))
  refine ⟨⟨3⟩, by first | exact .inl rfl | exact .inr (.inl rfl) | exact .inr (.inr (.inl rfl)) | exact .inr (.inr (.inr rfl)), ?_⟩
  (and_intros<;>first|trivial|rfl)
theorem s_pushN3 : SpecOK Tryz.prog (S_pushN 3).spec := fun a => specG_at (S := S_pushN 3) (an := []) envOK cwPushN_ok fun hp => g_pushN3 a hp.1 hp.2
theorem s_push23 : SpecOK Tryz.prog (S_push2 3).spec := fun a => specG_at (S := S_push2 3) (an := []) envOK cwPush_ok fun hp => g_push23 a hp.1 hp.2.1 hp.2.2.1 hp.2.2.2
theorem s_push3 : SpecOK Tryz.prog (S_push 3).spec := fun a K hp hq => by
  obtain ⟨h1, h2, h3⟩ := id hp
  by_cases hl : a.l = 2
  · obtain ⟨b, o, hv, hc, hx⟩ := h3 hl
    obtain ⟨v, R', n', hK, hfR, hsem⟩ := s_push23 ⟨a.s, a.g, a.p, b, o, a.c⟩ K ⟨h1, h2, hc, hx⟩ ⟨fun q hb => hq.1 q ⟨⟨hl, b, o, hv, hb.1⟩, hb.2⟩, fun q hb => hq.2.1 q hb, trivial⟩
    refine ⟨v, R', n', hK, hfR, fnSem_args hsem fun σ args' ha => ?_⟩
    cases ha with
    | cons a1 ha => cases ha with
      | cons a2 ha => cases ha with
        | cons a3 ha => cases ha with
          | cons a4 ha =>
            cases ha
            refine .cons a1 (.cons a2 (.cons a3 (.cons ?_ .nil)))
            rw [hv, hl] at a4
            obtain ⟨rfl, hs⟩ := a4.ext_inv rfl
            exact .exl hs
  · exact spec_to (S := S_pushN 3) (T := S_push 3) (a := a) (b := a) rfl rfl rfl rfl (s_pushN3 a) ⟨h1, hl⟩ (fun K h => ⟨h.2.1, trivial⟩) K hp hq
end Go.Proofs.YtfkacmmcgncooaaGreatDoor
end

/- The two games' beginnings are what is told of them. -/
section
set_option maxRecDepth 100000
namespace Go.Proofs.YtfkacmmcgncooaaGreatDoor
open Go.Ev
set_option linter.unusedSectionVars false
variable [Go.Ev.Frozen Tryz.prog]
noncomputable section
def W_G_startG_0 : Option AO := some (AO.row [Value.pointer (some (Addr.mk (Nat.add 2 (Nat.add (Nat.succ (Nat.succ (nat_lit 12))) 3133)) 0 none)), Value.pointer (some (Addr.mk
 (Nat.add 4 (Nat.add (Nat.succ (Nat.succ (nat_lit 12))) 3133)) 0 none))] 69 Md.own)
def W_G_startG_1 : Option AO := some (AO.row [Value.pointer (some (Addr.mk (Nat.add 2 (Nat.add (Nat.succ (Nat.succ (nat_lit 12))) 2714)) 0 none)), Value.pointer (some (Addr.mk
 (Nat.add 4 (Nat.add (Nat.succ (Nat.succ (nat_lit 12))) 2714)) 0 none))] 69 Md.own)
end
set_option maxHeartbeats 3200000 in
abbrev QYt1P_1 : Prop := True ∧ True ∧ True ∧ True ∧ True ∧ True ∧ True ∧ True ∧ True ∧ True ∧ True
abbrev QYt1P_2 : Prop := True ∧ FlatL [Value.int .i64 1, Value.int .i64 1] ∧ [Value.int .i64 1, Value.int .i64 1] = [Value.int .i64 1, Value.int .i64 1]
abbrev QYt1P_3 : Prop := True ∧ FlatL [Value.int .i32 0, Value.int .i32 0] ∧ [Value.int .i32 0, Value.int .i32 0] = [Value.int .i32 0, Value.int .i32 0]
abbrev QYt1P_4 : Prop := True ∧ True ∧ True ∧ True ∧ True ∧ (True ∧ True) ∧ (True ∧ True ∧ True ∧ True ∧ True ∧ True) ∧ True ∧ True ∧ True
theorem vc_startG (a : StwA) : G_startG a = ((2 : Int) ≠ (0 : Int) ∧ ∀ (x0 : Int), x0 = Int.tmod a.1 (2 : Int) → ((0 : Int) ≤ x0 ∧ x0 < (2 : Int)) ∧ (x0 = (0 : Int) → QYt1P_1 ∧ QYt1P_1 ∧ ((True ∧ True ∧ True ∧ True) ∧ True ∧
True ∧ True ∧ (True ∧ True) ∧ (W_G_startG_0 = W_G_startG_0 ∧ True) ∧ QYt1P_4) ∧ (True ∧ True ∧ True ∧ True ∧ True) ∧ (∃ (x1 : GtA), (∃ (x2 : Nat), (x2 = 0 ∨ x2 = 1) ∧ (↑x2 : Int) =
a.1 % (2 : Int) ∧ isG x1.1 x1.2 x2 0) ∧ (0 = 0 ∧ (Z2 ∧ Z2 ∧ Z2 ∧ x1.2.4 = 0 ∧ x1.2.5 = 0 ∧ x1.2.6 = 0 ∧ x1.2.7 = 0 ∧ x1.2.8 = 0 ∧ True) ∧ True) ∧ (True ∧ True ∧ Z2 ∧ x1.1.19.1 =
158 ∧ x1.1.19.2 = 99 ∧ x1.1.19.3 = 237 ∧ x1.1.19.4 = 163 ∧ x1.1.19.5 = 205 ∧ x1.1.19.6 = 22 ∧ x1.1.19.7 = 140 ∧ x1.1.19.8 = 84 ∧ 0 = 0 ∧ (0 = 0 ∧ 1 = 1 ∧ 1 = 1) ∧ Z2 ∧ True) ∧
QYt1P_2 ∧ (True ∧ (2 : Int) = 2 ∧ (2 : Int) = 2 ∧ Z2 ∧ (0 = 0 ∧ 1 = 1 ∧ 1 = 1) ∧ (0 = 0 ∧ x1.1.1 = 4 ∧ x1.1.1 = 4) ∧ (0 = 0 ∧ x1.1.2 = 11 ∧ x1.1.2 = 11) ∧ (0 = 0 ∧ x1.1.3 = 16 ∧
x1.1.3 = 16) ∧ (0 = 0 ∧ x1.1.4 = 7 ∧ x1.1.4 = 7) ∧ (0 = 0 ∧ x1.1.5 = 7 ∧ x1.1.5 = 7) ∧ x1.1.6 = 12 ∧ x1.1.7 = 19 ∧ x1.1.8 = 31 ∧ x1.1.9 = 16 ∧ x1.1.10 = 15 ∧ True) ∧ QYt1P_3 ∧
(True ∧ FlatL x1.1.11 ∧ x1.1.11 = [Value.string (ByteArray.mk (Array.mk [UInt8.ofNat 116])), Value.int .i64 0, Value.int .i64 1, Value.int .i64 3]) ∧ (True ∧ FlatL x1.1.12 ∧
x1.1.12 = List.map (fun (y3 : Nat) => Value.int .i64 (Int.ofNat y3)) [1, 35, 5, 0, 17, 35, 0, 9, 2, 0, 35, 0, 0, 0, 0, 0]) ∧ (True ∧ FlatL x1.1.13 ∧ x1.1.13 = [Value.int .i64 2,
Value.int .i64 35, Value.int .i64 0, Value.int .i64 0, Value.int .i64 1, Value.int .i64 36, Value.int .i64 0, Value.int .i64 0, Value.int .i64 8, Value.int .i64 35, Value.int .i64
35, Value.int .i64 36, Value.int .i64 20, Value.int .i64 7, Value.int .i64 35, Value.int .i64 0, Value.int .i64 1, Value.int .i64 6, Value.int .i64 (-1 : Int), Value.int .i64 0,
Value.int .i64 0, Value.int .i64 0, Value.int .i64 0, Value.int .i64 0, Value.int .i64 19, Value.int .i64 10, Value.int .i64 0, Value.int .i64 0, Value.int .i64 2, Value.int .i64
35, Value.int .i64 1, Value.int .i64 0, Value.int .i64 2, Value.int .i64 6, Value.int .i64 35, Value.int .i64 0, Value.int .i64 0, Value.int .i64 0, Value.int .i64 0, Value.int
.i64 0, Value.int .i64 0, Value.int .i64 0, Value.int .i64 0, Value.int .i64 0]) ∧ (True ∧ FlatL x1.1.14 ∧ x1.1.14 = List.map (fun (y4 : Nat) => Value.int .i64 (Int.ofNat y4)) [2,
35, 0, 0, 2, 36, 2, 0, 10, 35, 35, 36, 20, 5, 35, 0, 0, 1, 0, 0, 2, 35, 0, 0, 2, 36, 2, 0, 4, 35, 35, 36, 17, 35, 0, 9, 2, 0, 35, 0, 1, 35, 1, 0, 2, 36, 1, 0, 4, 35, 35, 36, 17,
35, 0, 1, 2, 1, 35, 0, 0, 0, 0, 0]) ∧ (True ∧ FlatL x1.1.15 ∧ x1.1.15 = List.map (fun (y5 : Nat) => Value.int .i64 (Int.ofNat y5)) [1, 35, 0, 0, 17, 35, 0, 9, 2, 0, 35, 0, 2, 35,
2, 0, 17, 35, 0, 1, 2, 1, 35, 0, 0, 0, 0, 0]) ∧ (True ∧ FlatL x1.1.16 ∧ x1.1.16 = List.map (fun (y6 : Nat) => Value.int .i64 (Int.ofNat y6)) [1, 35, 1, 0, 2, 36, 1, 0, 4, 35, 35,
36, 18, 36, 35, 2, 5, 35, 35, 36, 2, 9, 35, 0, 0, 0, 0, 0]) ∧ (True ∧ FlatL x1.1.17 ∧ x1.1.17 = [Value.int .i32 1, Value.int .i32 3]) ∧ (True ∧ FlatL x1.1.18 ∧ x1.1.18 = List.map
(fun (y7 : Nat) => Value.int .i32 (Int.ofNat y7)) [0, 9, 0, 1]) ∧ (True ∧ FlatL x1.2.1 ∧ x1.2.1 = [Value.int .i32 5, Value.int .i32 0]) ∧ (True ∧ FlatL x1.2.2 ∧ x1.2.2 =
[Value.bool false, Value.bool false]) ∧ (True ∧ FlatL x1.2.3 ∧ x1.2.3 = List.map (fun (y8 : Nat) => Value.int .u8 (Int.ofNat y8)) [84, 20, 162, 125, 185, 95, 193, 130, 195, 192,
90, 36, 52, 89, 115, 35]) ∧ True)) ∧ (x0 = (1 : Int) → QYt1P_1 ∧ QYt1P_1 ∧ ((True ∧ True ∧ True ∧ True) ∧ True ∧ True ∧ True ∧ (True ∧ True) ∧ (W_G_startG_1 = W_G_startG_1 ∧ True)
∧ QYt1P_4) ∧ (True ∧ True ∧ True ∧ True ∧ True) ∧ (∃ (x9 : GtA), (∃ (x10 : Nat), (x10 = 0 ∨ x10 = 1) ∧ (↑x10 : Int) = a.1 % (2 : Int) ∧ isG x9.1 x9.2 x10 0) ∧ (0 = 0 ∧ (Z2 ∧ Z2 ∧
Z2 ∧ x9.2.4 = 0 ∧ x9.2.5 = 0 ∧ x9.2.6 = 0 ∧ x9.2.7 = 0 ∧ x9.2.8 = 0 ∧ True) ∧ True) ∧ (True ∧ True ∧ Z2 ∧ x9.1.19.1 = 218 ∧ x9.1.19.2 = 47 ∧ x9.1.19.3 = 45 ∧ x9.1.19.4 = 74 ∧
x9.1.19.5 = 149 ∧ x9.1.19.6 = 253 ∧ x9.1.19.7 = 130 ∧ x9.1.19.8 = 124 ∧ 0 = 0 ∧ (0 = 0 ∧ 1 = 1 ∧ 1 = 1) ∧ Z2 ∧ True) ∧ QYt1P_2 ∧ (True ∧ (2 : Int) = 2 ∧ (2 : Int) = 2 ∧ Z2 ∧ (0 = 0
∧ 1 = 1 ∧ 1 = 1) ∧ (0 = 0 ∧ x9.1.1 = 4 ∧ x9.1.1 = 4) ∧ (0 = 0 ∧ x9.1.2 = 9 ∧ x9.1.2 = 9) ∧ (0 = 0 ∧ x9.1.3 = 8 ∧ x9.1.3 = 8) ∧ (0 = 0 ∧ x9.1.4 = 4 ∧ x9.1.4 = 4) ∧ (0 = 0 ∧ x9.1.5 =
14 ∧ x9.1.5 = 14) ∧ x9.1.6 = 12 ∧ x9.1.7 = 16 ∧ x9.1.8 = 20 ∧ x9.1.9 = 12 ∧ x9.1.10 = 22 ∧ True) ∧ QYt1P_3 ∧ (True ∧ FlatL x9.1.11 ∧ x9.1.11 = [Value.string (ByteArray.mk (Array.mk
[UInt8.ofNat 103])), Value.int .i64 0, Value.int .i64 0, Value.int .i64 1]) ∧ (True ∧ FlatL x9.1.12 ∧ x9.1.12 = List.map (fun (y11 : Nat) => Value.int .i64 (Int.ofNat y11)) [1, 35,
0, 0, 17, 35, 0, 6, 2, 0, 35, 0, 0, 0, 0, 0]) ∧ (True ∧ FlatL x9.1.13 ∧ x9.1.13 = [Value.int .i64 2, Value.int .i64 35, Value.int .i64 1, Value.int .i64 0, Value.int .i64 20,
Value.int .i64 5, Value.int .i64 35, Value.int .i64 0, Value.int .i64 1, Value.int .i64 6, Value.int .i64 (-1 : Int), Value.int .i64 0, Value.int .i64 0, Value.int .i64 0,
Value.int .i64 0, Value.int .i64 0, Value.int .i64 19, Value.int .i64 8, Value.int .i64 0, Value.int .i64 0, Value.int .i64 1, Value.int .i64 35, Value.int .i64 0, Value.int .i64
0, Value.int .i64 2, Value.int .i64 6, Value.int .i64 35, Value.int .i64 0, Value.int .i64 0, Value.int .i64 0, Value.int .i64 0, Value.int .i64 0, Value.int .i64 0, Value.int .i64
0, Value.int .i64 0, Value.int .i64 0]) ∧ (True ∧ FlatL x9.1.14 ∧ x9.1.14 = List.map (fun (y12 : Nat) => Value.int .i64 (Int.ofNat y12)) [2, 35, 2, 0, 20, 4, 35, 0, 1, 7, 0, 0, 1,
8, 6, 0, 2, 35, 2, 0, 17, 35, 0, 1, 2, 1, 35, 0, 0, 0, 0, 0]) ∧ (True ∧ FlatL x9.1.15 ∧ x9.1.15 = List.map (fun (y13 : Nat) => Value.int .i64 (Int.ofNat y13)) [1, 35, 1, 0, 17, 35,
0, 1, 2, 1, 35, 0, 0, 0, 0, 0]) ∧ (True ∧ FlatL x9.1.16 ∧ x9.1.16 = List.map (fun (y14 : Nat) => Value.int .i64 (Int.ofNat y14)) [2, 35, 0, 0, 1, 36, 0, 0, 18, 37, 36, 2, 5, 36,
36, 37, 17, 35, 0, 1073741823, 15, 37, 10, 36, 3, 35, 35, 37, 17, 35, 0, 1073741823, 16, 10, 36, 35, 1, 35, 1, 0, 18, 36, 35, 2, 5, 35, 35, 36, 2, 9, 35, 0, 0, 0, 0, 0]) ∧ (True ∧
FlatL x9.1.17 ∧ x9.1.17 = [Value.int .i32 0, Value.int .i32 1]) ∧ (True ∧ FlatL x9.1.18 ∧ x9.1.18 = List.map (fun (y15 : Nat) => Value.int .i32 (Int.ofNat y15)) [0, 6, 0, 1]) ∧
(True ∧ FlatL x9.2.1 ∧ x9.2.1 = [Value.int .i32 0, Value.int .i32 0]) ∧ (True ∧ FlatL x9.2.2 ∧ x9.2.2 = [Value.bool false, Value.bool false]) ∧ (True ∧ FlatL x9.2.3 ∧ x9.2.3 =
List.map (fun (y16 : Nat) => Value.int .u8 (Int.ofNat y16)) [84, 20, 162, 125, 185, 95, 193, 130, 195, 192, 90, 36, 52, 89, 115, 35]) ∧ True)) ∧ True) := by kernel_rfl
theorem in00 : (0, 0) ∈ allG := List.contains_iff_mem.1 (by kernel_rfl)
theorem in10 : (1, 0) ∈ allG := List.contains_iff_mem.1 (by kernel_rfl)
theorem g_startG (a : StwA) (h : 0 ≤ a.w ∧ a.w < 256) : GW (G_startG a) := by
  have f12 := fl11
  have f13 := fl00
  have i0 : isG (rulG 0) (posG 0 0) 0 0 := ⟨in00, rfl, rfl⟩
  have i1 : isG (rulG 1) (posG 1 0) 1 0 := ⟨in10, rfl, rfl⟩
  obtain ⟨f1, f2, f3, f4, f5, f6, f7, f8, f9, f10, f11⟩ := flG_of i0
  obtain ⟨g1, g2, g3, g4, g5, g6, g7, g8, g9, g10, g11⟩ := flG_of i1
  refine ⟨?_⟩
  rw [vc_startG]
  refine ⟨by decide, fun x0 e0 => ⟨?_, fun h0 => ?_, fun h0 => ?_, trivial⟩⟩
  · rw [e0, Int.tmod_eq_emod_of_nonneg h.1]; omega
  · have e1 : ((0 : Nat) : Int) = a.w % 2 := by rw [Int.tmod_eq_emod_of_nonneg h.1] at e0; omega
    refine ⟨by (and_intros<;>first|trivial|rfl), by (and_intros<;>first|trivial|rfl), by (and_intros<;>first|trivial|rfl), by (and_intros<;>first|trivial|rfl), ⟨rulG 0, posG 0 0⟩, ⟨0, .inl rfl, e1, i0⟩, ?_⟩
    (and_intros<;>first|trivial|rfl)
  · have e1 : ((1 : Nat) : Int) = a.w % 2 := by rw [Int.tmod_eq_emod_of_nonneg h.1] at e0; omega
    refine ⟨by (and_intros<;>first|trivial|rfl), by (and_intros<;>first|trivial|rfl), by (and_intros<;>first|trivial|rfl), by (and_intros<;>first|trivial|rfl), ⟨rulG 1, posG 1 0⟩, ⟨1, .inr rfl, e1, i1⟩, ?_⟩
    (and_intros<;>first|trivial|rfl)
theorem s_startG : SpecOK Tryz.prog S_startG.spec := fun a => specG_at (an := []) envOK (cwX_ok (fun _ h => cwRt_ok hk38_ok h) 4) fun hp => g_startG a hp
end Go.Proofs.YtfkacmmcgncooaaGreatDoor
end

/- The two games: who shows a reveal; what a chain answers. -/
section
set_option maxRecDepth 100000
namespace Go.Proofs.YtfkacmmcgncooaaGreatDoor
open Go.Ev
structure GhA where
  g : RuA
  p : PoA
  s : Int
  d : D8
structure AnA where
  c : Int
  d : D8
set_option linter.unusedSectionVars false
variable [Go.Ev.Frozen Tryz.prog]
noncomputable section
def d8V (d : D8) : List Value := [.int .u8 d.d0, .int .u8 d.d1, .int .u8 d.d2, .int .u8 d.d3, .int .u8 d.d4, .int .u8 d.d5, .int .u8 d.d6, .int .u8 d.d7]
def d8T (d : D8) : List Value := [tgI .u8 d.d0, tgI .u8 d.d1, tgI .u8 d.d2, tgI .u8 d.d3, tgI .u8 d.d4, tgI .u8 d.d5, tgI .u8 d.d6, tgI .u8 d.d7]
def d8I : List Int → D8 := fun l => ⟨l.getD 0 0, l.getD 1 0, l.getD 2 0, l.getD 3 0, l.getD 4 0, l.getD 5 0, l.getD 6 0, l.getD 7 0⟩
def S_gshow : SpecD where
  f := 72
  α := GhA
  args a := [.pointer (some ⟨12, 0, none⟩), poV a.p (12 + 12), .int .i64 a.s, .agg ⟨.bool true :: .slice none 0 0 :: d8V a.d⟩]
  R a := ruR a.g 12 ++ (poR a.p (12 + 12) ++ [(2, .f cells2 356 .ro)])
  n := 12 + 15
  pre a := ∃ k j r, isG a.g a.p k j ∧ (k, j, a.s, a.d.l, r) ∈ showT
  outs := [⟨PoA, fun a b => ∃ (k j m : Nat), isG a.g a.p k j ∧ (k, j, a.s, a.d.l, (m : Int)) ∈ showT ∧ isG a.g b k m, fun _ b => okG b (12 + 15), fun _ b => poR b (12 + 15), fun _ _ => 12 + 18, fun v _ => poN (12 + 15) v⟩]
  pick _ _ := 0
  find l A := ruK A 12 (lv l 0) fun g q => poK A (12 + 12) (agv (lv l 1)) fun p r => wI (lv l 2) fun s => d8K ((agv (lv l 3)).drop 2) fun d => some (⟨g, p, s, d⟩, q ++ r)
def runShow (e : Nat × Nat × Int × List Int × Int) : Bool := ranB (evCallH Tryz.prog E0 (fun c => c) 300 S_gshow.f (S_gshow.args ⟨rulG e.1, posG e.1 e.2.1, e.2.2.1, d8I e.2.2.2.1⟩) (mem (S_gshow.R ⟨rulG e.1, posG e.1 e.2.1, e.2.2.1, d8I e.2.2.2.1⟩) S_gshow.n)) (fun v B =>
  seenB Tryz.prog.globals.size S_gshow.n (poN (12 + 15) v) v B (okG (posG e.1 e.2.2.2.2.toNat) (12 + 15)) (poR (posG e.1 e.2.2.2.2.toNat) (12 + 15)) (12 + 18))
def ansT : List (Int × List Int × List Int) := [(1, [84, 20, 162, 125, 185, 95, 193, 130], [6, 25, 37, 99, 94, 12, 19, 189]), (2, [195, 192, 90, 36, 52, 89, 115, 35], [207, 183, 55, 179, 230, 69, 18, 147])]
def S_gans : SpecD where
  f := 71
  α := AnA
  args a := [.pointer (some ⟨12, 0, none⟩), .agg ⟨d8V a.d⟩]
  R a := [(12, .p (.row [.int .u8 a.c, .int .u8 0, .int .u8 0, .int .u8 0, .int .u8 0, .int .u8 0, .int .u8 0, .int .u8 0, .int .i64 20, .int .i64 20] 125 .gro))]
  n := 12 + 1
  pre a := ∃ r, (a.c, a.d.l, r) ∈ ansT
  outs := [⟨D8, fun a b => (a.c, a.d.l, b.l) ∈ ansT, fun _ b => .tuple ⟨[.agg ⟨d8T b⟩, .int .i64 0]⟩, fun _ _ => [], fun _ _ => 12 + 1, fun _ _ => []⟩]
  pick _ _ := 0
  find l A := ptK (lv l 0) fun b => rowK A b fun c => wI (lv c 0) fun x => d8K (agv (lv l 1)) fun d => some (⟨x, d⟩, [(12, b)])
def runAns (e : Int × List Int × List Int) : Bool := ranB (evCallH Tryz.prog E0 (fun c => c) 300 S_gans.f (S_gans.args ⟨e.1, d8I e.2.1⟩) (mem (S_gans.R ⟨e.1, d8I e.2.1⟩) S_gans.n)) (fun v B => seenB Tryz.prog.globals.size S_gans.n [] v B (.tuple ⟨[.agg ⟨d8T (d8I e.2.2)⟩, .int .i64 0]⟩) [] (12 + 1))
end
theorem ran_show0 : ((showT.take 3).all runShow) = true := by kernel_rfl
theorem ran_show1 : ((showT.drop 3).all runShow) = true := by kernel_rfl
theorem show_in : (showT.all fun e => decide (0 ≤ e.2.2.2.2) && allG.contains (e.1, e.2.2.2.2.toNat)) = true := by kernel_rfl
theorem ran_show : ∀ e ∈ showT, runShow e = true := fun e he => by
  rw [← List.take_append_drop 3 showT] at he
  rcases List.mem_append.1 he with h | h
  · exact List.all_eq_true.1 ran_show0 e h
  · exact List.all_eq_true.1 ran_show1 e h
theorem s_gshow : SpecOK Tryz.prog S_gshow.spec := fun a K hp hq => by
  obtain ⟨k, j, r, ⟨hm, hg, hj⟩, hr⟩ := id hp
  obtain ⟨g, p, s, d⟩ := a
  have hg : g = rulG k := hg
  have hj : p = posG k j := hj
  subst hg hj
  have hran := ran_show _ hr
  unfold runShow at hran
  have hin := List.all_eq_true.1 show_in _ hr
  simp only [Bool.and_eq_true, decide_eq_true_eq, List.contains_iff_mem] at hin
  exact spec_run envOK hook_id 300 (S := S_gshow) (a := ⟨rulG k, posG k j, s, d⟩) List.mem_cons_self (posG k r.toNat) ⟨k, j, r.toNat, ⟨hm, rfl, rfl⟩, by rw [Int.toNat_of_nonneg hin.1]; exact hr, hin.2, rfl, rfl⟩ hran K hp hq
theorem ran_ans : (ansT.all runAns) = true := by kernel_rfl
theorem ans_l : (ansT.all fun e => decide ((d8I e.2.2).l = e.2.2)) = true := by kernel_rfl
theorem s_gans : SpecOK Tryz.prog S_gans.spec := fun a K hp hq => by
  obtain ⟨r, hr⟩ := id hp
  have hl := List.all_eq_true.1 ans_l _ hr
  have hl : (d8I r).l = r := of_decide_eq_true hl
  have hran := List.all_eq_true.1 ran_ans _ hr
  unfold runAns at hran
  exact spec_run envOK hook_id 300 (S := S_gans) (a := a) List.mem_cons_self (d8I r) (by show (a.c, a.d.l, (d8I r).l) ∈ ansT; rw [hl]; exact hr) hran K hp hq
end Go.Proofs.YtfkacmmcgncooaaGreatDoor
end

/- What move an act makes, at a position (what is to be shown). -/
section
set_option maxRecDepth 100000
namespace Go.Proofs.YtfkacmmcgncooaaGreatDoor
open Go.Ev
-- keep Go.Proofs.Tryz.prog allG posG showT ansT cells0 cells1 cells2 cells4 cells5 cells6 cells8 cells9 cells10
structure MoX where
  w : Int
  t : Int
  z : Int
  h : Int
  v : Option Addr
  l : Nat
  c : Nat
structure MoA where
  x : MoX
  p : PoA
def thrQ (a : MoA) (b : D8) : Prop := a.x.w % 5 = 0 ∧ ∃ k j r, (k, j) ∈ allG ∧ a.p = posG k j ∧ (k, j, a.p.r3, b.l, r) ∈ showT
def plyQ (a : MoA) : Prop := ¬ (0 < a.p.r1 ∧ a.x.w % 5 = 0)
set_option linter.unusedSectionVars false
variable [Go.Ev.Frozen Tryz.prog]
noncomputable section
def actX (a : MoX) : Value := .agg ⟨[tgI .u8 a.w, tgI .i64 a.t, tgI .i32 a.z, tgI .u8 a.h, .iface EXT (.slice a.v a.l a.c)]⟩
def movO : List (Out MoA) := [⟨D8, thrQ, fun a b => .tuple ⟨[tgI .i64 a.p.r3, .agg ⟨.bool true :: .slice none 0 0 :: d8T b⟩]⟩, fun _ _ => [], fun _ _ => 12 + 3, fun _ _ => []⟩,
  ⟨Unit, fun a _ => plyQ a, fun a _ => .tuple ⟨[tgI .i64 a.x.t, .agg ⟨.bool false :: sc (12 + 3) 1 :: z8V⟩]⟩, fun a _ => [(12 + 3, .p (.row [tgI .i32 a.x.z] 21 .own))], fun _ _ => 12 + 4, fun v _ => renS (12 + 3) (lv (agv (lv (agv v) 1)) 1)⟩]
def movP (v : Value) : Nat := match lv (agv (lv (agv v) 1)) 0 with
  | .bool b => Bool.rec 1 0 b
  | _ => 0
def S_move : SpecD where
  f := 29
  α := MoA
  args a := [actX a.x, poV a.p 12]
  R a := poR a.p 12 ++ [(0, .f cells0 327 .ro), (1, .f cells1 333 .ro), (2, .f cells2 356 .ro), (4, .f cells4 327 .ro), (5, .f cells5 368 .ro), (6, .f cells6 381 .ro), (8, .f cells8 385 .ro), (9, .f cells9 388 .ro), (10, .f cells10 389 .ro)]
  n := 12 + 3
  pre a := (0 ≤ a.x.w ∧ a.x.w < 256) ∧ ∃ k j, (k, j) ∈ allG ∧ a.p = posG k j
  outs := movO
  pick v _ := movP v
  find l A := match agv (lv l 0) with
    | [w, t, z, h, .iface _ (.slice v n c)] => wI w fun w => wI t fun t => wI z fun z => wI h fun h => poK A 12 (agv (lv l 1)) fun p q => some (⟨⟨w, t, z, h, v, n, c⟩, p⟩, q)
    | _ => none
def S_moveN : SpecD where
  f := 29
  α := MoA
  args a := [actX a.x, poT a.p 12]
  R a := poR a.p 12 ++ [(0, .f cells0 327 .ro), (1, .f cells1 333 .ro), (2, .f cells2 356 .ro), (4, .f cells4 327 .ro), (5, .f cells5 368 .ro), (6, .f cells6 381 .ro), (8, .f cells8 385 .ro), (9, .f cells9 388 .ro), (10, .f cells10 389 .ro)]
  n := 12 + 3
  pre a := (0 ≤ a.x.w ∧ a.x.w < 256) ∧ (FlatL a.p.v ∧ FlatL a.p.g ∧ FlatL a.p.t) ∧ ¬ 0 < a.p.r1
  outs := movO
  pick v _ := movP v
  find l A := S_move.find l A
def posH (j : Nat) : PoA := ⟨(gpos 1 j).v.map (Value.int .i32), (gpos 1 j).g.map Value.bool, (gpos 1 j).t.map (Value.int .u8), (gpos 1 j).r0, (gpos 1 j).r1, (gpos 1 j).r2, (gpos 1 j).r3, (gpos 1 j).r4⟩
def cwMv : CW := cwX (fun c => cwRt hk38 [26] (cwD Tryz.prog S_gans c)) 3
def G_moveN (a : MoA) : Prop := fnW Tryz.prog E0 cwMv [] S_moveN.f (S_moveN.args a) (mem (S_moveN.R a) S_moveN.n) (endD Tryz.prog S_moveN a)
def G_cmov (a : MoA) : Prop := callD Tryz.prog S_moveN (fun _ => True) (S_move.args a) (mem (S_move.R a) S_move.n) (endD Tryz.prog S_move a)
def G_mov1 (x : MoX) : Prop := fnW Tryz.prog E0 cwMv [] S_move.f (S_move.args ⟨x, posH 1⟩) (mem (S_move.R ⟨x, posH 1⟩) S_move.n) (endD Tryz.prog S_move ⟨x, posH 1⟩)
def G_mov4 (x : MoX) : Prop := fnW Tryz.prog E0 cwMv [] S_move.f (S_move.args ⟨x, posH 4⟩) (mem (S_move.R ⟨x, posH 4⟩) S_move.n) (endD Tryz.prog S_move ⟨x, posH 4⟩)
def G_mov5 (x : MoX) : Prop := fnW Tryz.prog E0 cwMv [] S_move.f (S_move.args ⟨x, posH 5⟩) (mem (S_move.R ⟨x, posH 5⟩) S_move.n) (endD Tryz.prog S_move ⟨x, posH 5⟩)
def G_mov6 (x : MoX) : Prop := fnW Tryz.prog E0 cwMv [] S_move.f (S_move.args ⟨x, posH 6⟩) (mem (S_move.R ⟨x, posH 6⟩) S_move.n) (endD Tryz.prog S_move ⟨x, posH 6⟩)
def G_mov10 (x : MoX) : Prop := fnW Tryz.prog E0 cwMv [] S_move.f (S_move.args ⟨x, posH 10⟩) (mem (S_move.R ⟨x, posH 10⟩) S_move.n) (endD Tryz.prog S_move ⟨x, posH 10⟩)
end
end Go.Proofs.YtfkacmmcgncooaaGreatDoor
end
