/- The variables that are laid, as the evaluator holds them; what it is told of functions. -/
import Derived.Test.YtalbjjimnhldfaaGreatDoorEvU
import Derived.Test.YtalbjjimnhldfaaGreatDoorProg
import Derived.KernelRfl
import Derived.Laws.Externs
import Derived.Lib.MakeNoZero
import Derived.Recover
import Derived.Tactics
import Derived.Tactics2
import Derived.Test.YtalbjjimnhldfaaGreatDoorEv14
section
namespace Go.Proofs.YtalbjjimnhldfaaGreatDoor
open Go.Ev
def cells0 : List Value := [.int .i64 1, .int .i64 2, .int .i64 1, .int .i64 0, .int .i64 0, .int .i64 0, .int .i64 1, .int .i64 0, .int .i64 2, .int .i64 1]
def cells1 : List Value := [.int .u8 0, .int .u8 0, .int .u8 0, .int .u8 0, .int .u8 0, .int .u8 0, .int .u8 0, .int .u8 0, .int .u8 0, .int .u8 1, .int .u8 1, .int .u8 1, .int .u8 1, .int .u8 1, .int .u8 0, .int .u8 0, .int .u8 0, .int .u8 0, .int .u8 0, .int .u8 0, .int .u8 0, .int .u8 0, .int .u8 0, .int .u8 0, .int .u8 0, .int .u8 0, .int .u8 0, .int .u8 0, .int .u8 0, .int .u8 0, .int .u8 0, .int .u8 0, .int .u8 1, .int .u8 0, .int .u8 0, .int .u8 0, .int .u8 0, .int .u8 0, .int .u8 0, .int .u8 0, .int .u8 0, .int .u8 0, .int .u8 0, .int .u8 0, .int .u8 0, .int .u8 0, .int .u8 0, .int .u8 0, .int .u8 0, .int .u8 0, .int .u8 0, .int .u8 0, .int .u8 0, .int .u8 0, .int .u8 0, .int .u8 0, .int .u8 0, .int .u8 0, .int .u8 0, .int .u8 0, .int .u8 0, .int .u8 0, .int .u8 0, .int .u8 0, .int .u8 0, .int .u8 0, .int .u8 0, .int .u8 0, .int .u8 0, .int .u8 0, .int .u8 0, .int .u8 0, .int .u8 0, .int .u8 0, .int .u8 0, .int .u8 0, .int .u8 0, .int .u8 0, .int .u8 0, .int .u8 0, .int .u8 0, .int .u8 0, .int .u8 0, .int .u8 0, .int .u8 0, .int .u8 0, .int .u8 0, .int .u8 0, .int .u8 0, .int .u8 0, .int .u8 0, .int .u8 0, .int .u8 0, .int .u8 0, .int .u8 0, .int .u8 0, .int .u8 0, .int .u8 0, .int .u8 0, .int .u8 0, .int .u8 0, .int .u8 0, .int .u8 0, .int .u8 0, .int .u8 0, .int .u8 0, .int .u8 0, .int .u8 0, .int .u8 0, .int .u8 0, .int .u8 0, .int .u8 0, .int .u8 0, .int .u8 0, .int .u8 0, .int .u8 0, .int .u8 0, .int .u8 0, .int .u8 0, .int .u8 0, .int .u8 0, .int .u8 0, .int .u8 0, .int .u8 0, .int .u8 0, .int .u8 0, .int .u8 0, .int .u8 0, .int .u8 0, .int .u8 0, .int .u8 0, .int .u8 0, .int .u8 0, .int .u8 0, .int .u8 0, .int .u8 0, .int .u8 0, .int .u8 0, .int .u8 0, .int .u8 0, .int .u8 0, .int .u8 0, .int .u8 0, .int .u8 0, .int .u8 0, .int .u8 0, .int .u8 0, .int .u8 0, .int .u8 0, .int .u8 0, .int .u8 0, .int .u8 0, .int .u8 0, .int .u8 0, .int .u8 0, .int .u8 0, .int .u8 0, .int .u8 0, .int .u8 0, .int .u8 0, .int .u8 0, .int .u8 0, .int .u8 0, .int .u8 0, .int .u8 0, .int .u8 0, .int .u8 0, .int .u8 0, .int .u8 0, .int .u8 0, .int .u8 0, .int .u8 0, .int .u8 0, .int .u8 0, .int .u8 0, .int .u8 0, .int .u8 0, .int .u8 0, .int .u8 0, .int .u8 0, .int .u8 0, .int .u8 0, .int .u8 0, .int .u8 0, .int .u8 0, .int .u8 0, .int .u8 0, .int .u8 0, .int .u8 0, .int .u8 0, .int .u8 0, .int .u8 0, .int .u8 0, .int .u8 0, .int .u8 0, .int .u8 0, .int .u8 0, .int .u8 0, .int .u8 0, .int .u8 0, .int .u8 0, .int .u8 0, .int .u8 0, .int .u8 0, .int .u8 0, .int .u8 0, .int .u8 0, .int .u8 0, .int .u8 0, .int .u8 0, .int .u8 0, .int .u8 0, .int .u8 0, .int .u8 0, .int .u8 0, .int .u8 0, .int .u8 0, .int .u8 0, .int .u8 0, .int .u8 0, .int .u8 0, .int .u8 0, .int .u8 0, .int .u8 0, .int .u8 0, .int .u8 0, .int .u8 0, .int .u8 0, .int .u8 0, .int .u8 0, .int .u8 0, .int .u8 0, .int .u8 0, .int .u8 0, .int .u8 0, .int .u8 0, .int .u8 0, .int .u8 0, .int .u8 0, .int .u8 0, .int .u8 0, .int .u8 0, .int .u8 0, .int .u8 0, .int .u8 0, .int .u8 0, .int .u8 0, .int .u8 0, .int .u8 0, .int .u8 0, .int .u8 0, .int .u8 0, .int .u8 0, .int .u8 0, .int .u8 0, .int .u8 0]
def cells2 : List Value := [mkStr [104, 97, 108, 116], mkStr [110], mkStr [115, 101, 116], mkStr [119, 110], mkStr [109, 111, 118, 101], mkStr [119, 119], mkStr [97, 100, 100], mkStr [119, 119, 119], mkStr [115, 117, 98], mkStr [119, 119, 119], mkStr [109, 117, 108], mkStr [119, 119, 119], mkStr [100, 105, 118], mkStr [119, 119, 119], mkStr [114, 101, 109], mkStr [119, 119, 119], mkStr [101, 113], mkStr [119, 119, 119], mkStr [110, 101], mkStr [119, 119, 119], mkStr [108, 116], mkStr [119, 119, 119], mkStr [108, 101], mkStr [119, 119, 119], mkStr [97, 110, 100], mkStr [119, 119, 119], mkStr [111, 114], mkStr [119, 119, 119], mkStr [110, 111, 116], mkStr [119, 119], mkStr [108, 111, 97, 100], mkStr [119, 119, 119], mkStr [115, 116, 111, 114, 101], mkStr [119, 119, 119], mkStr [99, 117, 116], mkStr [119, 110, 110], mkStr [119, 105, 116, 104, 105, 110], mkStr [119, 119, 110], mkStr [106, 117, 109, 112], mkStr [112], mkStr [106, 122], mkStr [112, 119], mkStr [106, 110, 122], mkStr [112, 119]]
def cells4 : List Value := [.int .i64 1, .int .i64 2, .int .i64 1, .int .i64 0, .int .i64 0, .int .i64 0, .int .i64 1, .int .i64 0, .int .i64 2, .int .i64 1]
def cells5 : List Value := [.int .u64 1, .int .u64 10, .int .u64 100, .int .u64 1000, .int .u64 10000, .int .u64 100000, .int .u64 1000000, .int .u64 10000000, .int .u64 100000000, .int .u64 1000000000, .int .u64 10000000000, .int .u64 100000000000, .int .u64 1000000000000, .int .u64 10000000000000, .int .u64 100000000000000, .int .u64 1000000000000000, .int .u64 10000000000000000, .int .u64 100000000000000000, .int .u64 1000000000000000000, .int .u64 10000000000000000000]
def cells6 : List Value := [.int .i64 0, .int .i64 0, .int .i64 1, .int .i64 1, .int .i64 1, .int .i64 2, .int .i64 2, .int .i64 2, .int .i64 2, .int .i64 2, .int .i64 2, .int .i64 2, .int .i64 2, .int .i64 2, .int .i64 2, .int .i64 2, .int .i64 2, .int .i64 2]
def cells8 : List Value := [mkStr [], .int .i64 6, .int .i64 0, mkStr [], .int .i64 6, .int .i64 0, mkStr [], .int .i64 6, .int .i64 1, mkStr [45], .int .i64 6, .int .i64 1, mkStr [110, 111, 116], .int .i64 6, .int .i64 1, mkStr [42], .int .i64 5, .int .i64 2, mkStr [47], .int .i64 5, .int .i64 2, mkStr [37], .int .i64 5, .int .i64 2, mkStr [43], .int .i64 4, .int .i64 2, mkStr [45], .int .i64 4, .int .i64 2, mkStr [61], .int .i64 3, .int .i64 2, mkStr [33, 61], .int .i64 3, .int .i64 2, mkStr [60], .int .i64 3, .int .i64 2, mkStr [60, 61], .int .i64 3, .int .i64 2, mkStr [62], .int .i64 3, .int .i64 2, mkStr [62, 61], .int .i64 3, .int .i64 2, mkStr [97, 110, 100], .int .i64 2, .int .i64 2, mkStr [111, 114], .int .i64 1, .int .i64 2]
def cells9 : List Value := [.int .u8 0, .int .u8 1, .int .u8 28, .int .u8 2, .int .u8 29, .int .u8 14, .int .u8 24, .int .u8 3, .int .u8 30, .int .u8 22, .int .u8 20, .int .u8 15, .int .u8 25, .int .u8 17, .int .u8 4, .int .u8 8, .int .u8 31, .int .u8 27, .int .u8 13, .int .u8 23, .int .u8 21, .int .u8 19, .int .u8 16, .int .u8 7, .int .u8 26, .int .u8 12, .int .u8 18, .int .u8 6, .int .u8 11, .int .u8 5, .int .u8 10, .int .u8 9]
def cells10 : List Value := [.int .u8 0, .int .u8 1, .int .u8 56, .int .u8 2, .int .u8 57, .int .u8 49, .int .u8 28, .int .u8 3, .int .u8 61, .int .u8 58, .int .u8 42, .int .u8 50, .int .u8 38, .int .u8 29, .int .u8 17, .int .u8 4, .int .u8 62, .int .u8 47, .int .u8 59, .int .u8 36, .int .u8 45, .int .u8 43, .int .u8 51, .int .u8 22, .int .u8 53, .int .u8 39, .int .u8 33, .int .u8 30, .int .u8 24, .int .u8 18, .int .u8 12, .int .u8 5, .int .u8 63, .int .u8 55, .int .u8 48, .int .u8 27, .int .u8 60, .int .u8 41, .int .u8 37, .int .u8 16, .int .u8 46, .int .u8 35, .int .u8 44, .int .u8 21, .int .u8 52, .int .u8 32, .int .u8 23, .int .u8 11, .int .u8 54, .int .u8 26, .int .u8 40, .int .u8 15, .int .u8 34, .int .u8 20, .int .u8 31, .int .u8 10, .int .u8 25, .int .u8 14, .int .u8 19, .int .u8 9, .int .u8 13, .int .u8 8, .int .u8 7, .int .u8 6]
def G0 : List (Nat × AO) := [(0, .row cells0 329 .ro), (1, .row cells1 335 .ro), (2, .row cells2 359 .ro), (4, .row cells4 329 .ro), (5, .row cells5 370 .ro), (6, .row cells6 384 .ro), (8, .row cells8 388 .ro), (9, .row cells9 391 .ro), (10, .row cells10 392 .ro)]
noncomputable def A0 : AW := ⟨putAll G0 .e, 12⟩
def E0 : Env := ⟨[147], [279], [280], 5⟩
end Go.Proofs.YtalbjjimnhldfaaGreatDoor
end

/- What the evaluator is told of this program's functions is so. -/
section
set_option maxRecDepth 10000
namespace Go.Proofs.YtalbjjimnhldfaaGreatDoor
open Go.Ev
theorem names_ok : (Tryz.prog.funcs.toList.all fun fn => !(fn.name == "runtime.NumGoroutine")) = true := by kernel_rfl
theorem check_idle (x : Value) (w : World) : CallsD Tryz.prog 147 #[x] .returning w fun e u' w' => (∃ v, e = .returned v) ∧ u' = .returning ∧ w' = w := by
  refine callsD_of_wpS Tryz.func147 rfl fun c₀ cs hu => ?_
  apply wpS_seq
  apply wpS_region
  simp [wpOpsS, go_sem, recoverD, hu, Tryz.ntmps147, Exit.thenS]
  apply wpS_seq
  apply wpS_seq
  apply wpS_region
  have hev : ∀ w : World, (do eqGuard .eql 20 (.tmp 5) (.const .nilIface) .nilIface .nilIface; binOp .eql 20 .nilIface .nilIface : Sem Value).run Tryz.prog w = .ok (.bool true) w := fun w => by kernel_rfl
  simp [wpOpsS, go_sem, Exit.thenS, hev]
  refine wpS_cond (t := true) (by simp [Act.eval, Array.replicate]) ?_
  simp only [if_true]
  refine wpS_of_wp (wp_ret ?_)
  cases c₀
  simp_all [bodyPostS, results, Tryz.results147, Exit.thenS]
theorem noEscape_ok (x : Value) (w : World) : (callFunc 279 #[x]).run Tryz.prog w = .ok (.value x) w := by
  have := run_callFunc_extern (P := Tryz.prog) (f := 279) (fn := Tryz.f279) (e := Extern.AbiNoEscape.same) (by kernel_rfl) (by kernel_rfl) (by kernel_rfl) (by kernel_rfl) (by kernel_rfl) #[x] w
  rw [this]; rfl
theorem makeNoZero_ok (n : Nat) (w : World) (hn : n ≤ 1073741824) : ∃ (cs : Array Value) (w' : World), (callFunc 280 #[.int .i64 (.ofNat n)]).run Tryz.prog w = .ok (.value (.slice (some ⟨w.heap.size, 0, none⟩) n cs.size)) w' ∧ w'.heap = w.heap.push (.cells cs 5) ∧ n ≤ cs.size ∧
    w'.os = w.os ∧ w'.tape = w.tape ∧ w'.output = w.output := by
  have h1 := run_callFunc_extern (P := Tryz.prog) (f := 280) (fn := Tryz.f280) (e := Extern.BytealgMakeNoZero.makeNoZero #[3] #[54]) (by kernel_rfl) (by kernel_rfl) (by kernel_rfl) (by kernel_rfl) (by kernel_rfl) #[.int .i64 (.ofNat n)] w
  obtain ⟨cs, h2, h3, _⟩ := Go.Lib.run_makeNoZero (P := Tryz.prog) w #[3] 54 5 (by kernel_rfl) n (by omega)
  refine ⟨cs, w.drew.drew.alloc (.cells cs 5), ?_, rfl, h3, rfl, rfl, rfl⟩
  rw [h1]
  have h2 : (Extern.BytealgMakeNoZero.makeNoZero #[3] #[54] #[.int .i64 (.ofNat n)]).run Tryz.prog w = _ := h2
  rw [h2]; rfl
theorem envOK : EnvOK Tryz.prog E0 where
  mixed := by kernel_rfl
  name := fun f fn hf => by
    have := List.all_eq_true.1 names_ok fn (by simpa using Array.mem_of_getElem? hf)
    simpa using this
  dh := fun f hf => by
    have : f = 147 := by simpa [E0] using hf
    subst this
    exact ⟨fun args w => entered (fn := Tryz.f147) (by kernel_rfl) (by kernel_rfl) rfl args w, check_idle⟩
  ne := fun f hf => by
    have : f = 279 := by simpa [E0] using hf
    subst this
    exact noEscape_ok
  mz := fun f hf n w hn => by
    have : f = 280 := by simpa [E0] using hf
    subst this
    exact makeNoZero_ok n w hn
  one := .inr ⟨_, (by kernel_rfl : Tryz.prog.info? 5 = some Tryz.t5), (by kernel_rfl)⟩
end Go.Proofs.YtalbjjimnhldfaaGreatDoor
end

/- The document's numbers as bytes: what is told of baizeref01.Num and its like (what is to be shown). -/
section
set_option maxRecDepth 100000
namespace Go.Proofs.YtalbjjimnhldfaaGreatDoor
open Go.Ev
-- keep num foldI
def num (n : Nat) : List Int := if n < 128 then [(n : Int)] else ((128 + n % 128 : Nat) : Int) :: num (n / 128)
def foldI (n : Int) : Int := if n < 0 then 2 * (-(n + 1)) + 1 else 2 * n
noncomputable section
def cw0 : CW := fun _ _ _ _ => False
structure Byts where
  c : List Value
  k : Nat
def S_num : SpecD where
  f := 55
  α := Int
  args a := [tgI .u64 a]
  R _ := []
  n := 12
  pre a := (0 ≤ a ∧ a < 18446744073709551616) ∧ True
  outs := [⟨Byts, fun a b => HE .u8 b.c (num a.toNat) ∧ b.c.length ≤ b.k, fun _ b => tgS 12 0 b.c.length b.k, fun _ b => [(12, .f b.c 5 (.grown b.k))], fun _ _ => 12 + 1, fun v _ => renS 12 v⟩]
  pick _ _ := 0
  find l _ := some (iv (lv l 0), [])
structure NumL where
  n : Int
  nb : Bool
  l : Nat
  k : Nat
  c : List Value
def la_num (n0 : Int) : LA where
  α := NumL
  at_ a := ⟨[(0, tgI .u64 a.n), (3, mnS 12 a.nb 0 a.l a.k)], [(12, .f a.c 5 (.grown a.k))], 12 + 1⟩
  J a := (0 ≤ a.n ∧ a.n < 18446744073709551616) ∧ ∃ xs, HE .u8 a.c xs ∧ a.l = xs.length ∧ xs.length ≤ a.k ∧ xs ++ num a.n.toNat = num n0.toNat ∧ (a.nb = true → xs = [] ∧ a.k = 0)
  μ a := a.n.toNat
  ren s := renS 12 (tv s 3)
def G_num (a : Int) : Prop := fnW Tryz.prog E0 cw0 [some (la_num a)] S_num.f (S_num.args a) (mem (S_num.R a) S_num.n) (endD Tryz.prog S_num a)
def S_fold : SpecD where
  f := 88
  α := Int
  args a := [tgI .i64 a]
  R _ := []
  n := 12
  pre a := (-9223372036854775808 ≤ a ∧ a ≤ 9223372036854775807) ∧ True
  outs := [⟨Unit, fun _ _ => True, fun a _ => tgI .u64 (foldI a), fun _ _ => [], fun _ _ => 12, fun _ _ => []⟩]
  pick _ _ := 0
  find l _ := some (iv (lv l 0), [])
def G_fold (a : Int) : Prop := fnW Tryz.prog E0 cw0 [] S_fold.f (S_fold.args a) (mem (S_fold.R a) S_fold.n) (endD Tryz.prog S_fold a)
def S_signed : SpecD where
  f := 57
  α := Int
  args a := [tgI .i64 a]
  R _ := []
  n := 12
  pre a := (-9223372036854775808 ≤ a ∧ a ≤ 9223372036854775807) ∧ True
  outs := [⟨Byts, fun a b => HE .u8 b.c (num (foldI a).toNat) ∧ b.c.length ≤ b.k, fun _ b => tgS 12 0 b.c.length b.k, fun _ b => [(12, .f b.c 5 (.grown b.k))], fun _ _ => 12 + 1, fun v _ => renS 12 v⟩]
  pick _ _ := 0
  find l _ := some (iv (lv l 0), [])
def G_signed (a : Int) : Prop := fnW Tryz.prog E0 (cwD Tryz.prog S_num (cwD Tryz.prog S_fold cw0)) [] S_signed.f (S_signed.args a) (mem (S_signed.R a) S_signed.n) (endD Tryz.prog S_signed a)
end
end Go.Proofs.YtalbjjimnhldfaaGreatDoor
end

/- The document's numbers as bytes: what is told of baizeref01.Num and its like is so. -/
section
set_option maxRecDepth 100000
namespace Go.Proofs.YtalbjjimnhldfaaGreatDoor
open Go.Ev
theorem vc_num (a : Int) : G_num a = (∃ (x0 : NumL), (((0 : Int) ≤ x0.1 ∧ x0.1 < (18446744073709551616 : Int)) ∧ ∃ (x1 : List Int), HE IntKind.u8 x0.5 x1 ∧ x0.3 = List.length x1 ∧ List.length x1 ≤ x0.4 ∧ x1 ++ num
(Int.toNat x0.1) = num (Int.toNat a) ∧ (x0.2 = Bool.true → x1 = [] ∧ x0.4 = (0 : Nat))) ∧ ((x0.1 = a ∧ (x0.2 = Bool.true ∧ x0.3 = (0 : Nat) ∧ x0.4 = (0 : Nat)) ∧ True) ∧ ((FlatL
x0.5 ∧ True) ∧ True) ∧ True) ∧ ∀ (x2 : NumL), (((0 : Int) ≤ x2.1 ∧ x2.1 < (18446744073709551616 : Int)) ∧ ∃ (x3 : List Int), HE IntKind.u8 x2.5 x3 ∧ x2.3 = List.length x3 ∧
List.length x3 ≤ x2.4 ∧ x3 ++ num (Int.toNat x2.1) = num (Int.toNat a) ∧ (x2.2 = Bool.true → x3 = [] ∧ x2.4 = (0 : Nat))) → ((128 : Int) ≤ x2.1 → (128 : Int) ≠ (0 : Int) ∧ ∀ (x4 :
Int), x4 = Int.tmod x2.1 (128 : Int) → ∀ (x5 : Int), x5 = IntKind.wrap IntKind.u64 ((128 : Int) + x4) → ∀ (x6 : Int), x6 = IntKind.wrap IntKind.u8 x5 → (x2.2 = Bool.true → (1 :
Nat) ≤ List.length [Value.iface (1000000007 : Nat) (Value.int IntKind.u8 x6)] ∧ ∀ (x7 : List Value), x7 = lwin [Value.iface (1000000007 : Nat) (Value.int IntKind.u8 x6)] (0 : Nat)
(1 : Nat) → ((1 : Nat) = (0 : Nat) → (128 : Int) ≠ (0 : Int) ∧ ∀ (x8 : Int), x8 = IntKind.wrap IntKind.u64 (Int.tdiv x2.1 (128 : Int)) → ∃ (x9 : NumL), (((0 : Int) ≤ x9.1 ∧ x9.1 <
(18446744073709551616 : Int)) ∧ ∃ (x10 : List Int), HE IntKind.u8 x9.5 x10 ∧ x9.3 = List.length x10 ∧ List.length x10 ≤ x9.4 ∧ x10 ++ num (Int.toNat x9.1) = num (Int.toNat a) ∧
(x9.2 = Bool.true → x10 = [] ∧ x9.4 = (0 : Nat))) ∧ Int.toNat x9.1 < Int.toNat x2.1 ∧ (x9.1 = x8 ∧ (x9.2 = Bool.true ∧ x9.3 = (0 : Nat) ∧ x9.4 = (0 : Nat)) ∧ True) ∧ ((FlatL x9.5 ∧
True) ∧ True) ∧ True) ∧ ((1 : Nat) ≠ (0 : Nat) → Few (1 : Nat) (1 : Nat) ∧ (128 : Int) ≠ (0 : Int) ∧ ∀ (x11 : Int), x11 = IntKind.wrap IntKind.u64 (Int.tdiv x2.1 (128 : Int)) → ∃
(x12 : NumL), (((0 : Int) ≤ x12.1 ∧ x12.1 < (18446744073709551616 : Int)) ∧ ∃ (x13 : List Int), HE IntKind.u8 x12.5 x13 ∧ x12.3 = List.length x13 ∧ List.length x13 ≤ x12.4 ∧ x13 ++
num (Int.toNat x12.1) = num (Int.toNat a) ∧ (x12.2 = Bool.true → x13 = [] ∧ x12.4 = (0 : Nat))) ∧ Int.toNat x12.1 < Int.toNat x2.1 ∧ (x12.1 = x11 ∧ (x12.2 = Bool.false ∧ (0 : Nat)
= (0 : Nat) ∧ x12.3 = (1 : Nat) ∧ x12.4 = (1 : Nat)) ∧ True) ∧ ((x12.4 = (1 : Nat) ∧ FlatL x12.5 ∧ x12.5 = x7) ∧ True) ∧ True)) ∧ (x2.2 = Bool.false → (1 : Nat) ≤ List.length
[Value.iface (1000000007 : Nat) (Value.int IntKind.u8 x6)] ∧ ∀ (x14 : List Value), x14 = lwin [Value.iface (1000000007 : Nat) (Value.int IntKind.u8 x6)] (0 : Nat) (1 : Nat) → ((0 :
Nat) = (0 : Nat) ∧ List.length x2.5 = x2.3 * (1 : Nat) ∧ x2.4 = x2.4 ∧ x2.3 ≤ x2.4 ∧ Few (x2.3 + (1 : Nat)) (1 : Nat) ∧ lall oneK x14 = Bool.true) ∧ ∀ (x15 x16 : Nat), x15 = x2.3 +
(1 : Nat) → (x16 = if x15 ≤ NumL.k x2 then x2.4 else x15) → (128 : Int) ≠ (0 : Int) ∧ ∀ (x17 : Int), x17 = IntKind.wrap IntKind.u64 (Int.tdiv x2.1 (128 : Int)) → ∃ (x18 : NumL),
(((0 : Int) ≤ x18.1 ∧ x18.1 < (18446744073709551616 : Int)) ∧ ∃ (x19 : List Int), HE IntKind.u8 x18.5 x19 ∧ x18.3 = List.length x19 ∧ List.length x19 ≤ x18.4 ∧ x19 ++ num
(Int.toNat x18.1) = num (Int.toNat a) ∧ (x18.2 = Bool.true → x19 = [] ∧ x18.4 = (0 : Nat))) ∧ Int.toNat x18.1 < Int.toNat x2.1 ∧ (x18.1 = x17 ∧ (x18.2 = Bool.false ∧ (0 : Nat) = (0
: Nat) ∧ x18.3 = x15 ∧ x18.4 = x16) ∧ True) ∧ ((x18.4 = x16 ∧ FlatL x18.5 ∧ x18.5 = x2.5 ++ x14) ∧ True) ∧ True)) ∧ (¬(128 : Int) ≤ x2.1 → ∀ (x20 : Int), x20 = IntKind.wrap
IntKind.u8 x2.1 → (x2.2 = Bool.true → (1 : Nat) ≤ List.length [Value.iface (1000000007 : Nat) (Value.int IntKind.u8 x20)] ∧ ∀ (x21 : List Value), x21 = lwin [Value.iface
(1000000007 : Nat) (Value.int IntKind.u8 x20)] (0 : Nat) (1 : Nat) → ((1 : Nat) = (0 : Nat) → ∃ (x22 : Byts), (HE IntKind.u8 x22.1 (num (Int.toNat a)) ∧ List.length x22.1 ≤ x22.2)
∧ False ∧ (FlatL x22.1 ∧ True) ∧ True) ∧ ((1 : Nat) ≠ (0 : Nat) → Few (1 : Nat) (1 : Nat) ∧ ∃ (x23 : Byts), (HE IntKind.u8 x23.1 (num (Int.toNat a)) ∧ List.length x23.1 ≤ x23.2) ∧
((0 : Nat) = (0 : Nat) ∧ List.length x23.1 = (1 : Nat) ∧ x23.2 = (1 : Nat)) ∧ (x23.2 = (1 : Nat) ∧ FlatL x23.1 ∧ x23.1 = x21) ∧ True)) ∧ (x2.2 = Bool.false → (1 : Nat) ≤
List.length [Value.iface (1000000007 : Nat) (Value.int IntKind.u8 x20)] ∧ ∀ (x24 : List Value), x24 = lwin [Value.iface (1000000007 : Nat) (Value.int IntKind.u8 x20)] (0 : Nat) (1
: Nat) → ((0 : Nat) = (0 : Nat) ∧ List.length x2.5 = x2.3 * (1 : Nat) ∧ x2.4 = x2.4 ∧ x2.3 ≤ x2.4 ∧ Few (x2.3 + (1 : Nat)) (1 : Nat) ∧ lall oneK x24 = Bool.true) ∧ ∀ (x25 x26 :
Nat), x25 = x2.3 + (1 : Nat) → (x26 = if x25 ≤ NumL.k x2 then x2.4 else x25) → ∃ (x27 : Byts), (HE IntKind.u8 x27.1 (num (Int.toNat a)) ∧ List.length x27.1 ≤ x27.2) ∧ ((0 : Nat) =
(0 : Nat) ∧ List.length x27.1 = x25 ∧ x27.2 = x26) ∧ (x27.2 = x26 ∧ FlatL x27.1 ∧ x27.1 = x2.5 ++ x24) ∧ True))) := by kernel_rfl
theorem vc_fold (a : Int) : G_fold a = ((a < (0 : Int) → ∀ (x0 : Int), x0 = IntKind.wrap IntKind.i64 (a + (1 : Int)) → ∀ (x1 : Int), x1 = IntKind.wrap IntKind.i64 ((0 : Int) - x0) → ∀ (x2 : Int), x2 = IntKind.wrap
IntKind.u64 x1 → ∀ (x3 : Int), x3 = IntKind.wrap IntKind.u64 ((2 : Int) * x2) → ∀ (x4 : Int), x4 = IntKind.wrap IntKind.u64 (x3 + (1 : Int)) → ∃ (x5 : Unit), True ∧ foldI a = x4 ∧
True) ∧ (¬a < (0 : Int) → ∀ (x6 : Int), x6 = IntKind.wrap IntKind.u64 a → ∀ (x7 : Int), x7 = IntKind.wrap IntKind.u64 ((2 : Int) * x6) → ∃ (x8 : Unit), True ∧ foldI a = x7 ∧ True)) := by kernel_rfl
theorem vc_signed (a : Int) : G_signed a = ((True ∧ ((-9223372036854775808 : Int) ≤ a ∧ a ≤ (9223372036854775807 : Int)) ∧ True) ∧ ((a = a ∧ True) ∧ True) ∧ (∀ (x0 : Unit), True → (True ∧ ((0 : Int) ≤ foldI a ∧ foldI a <
(18446744073709551616 : Int)) ∧ True) ∧ ((foldI a = foldI a ∧ True) ∧ True) ∧ (∀ (x1 : Byts), HE IntKind.u8 x1.1 (num (Int.toNat (foldI a))) ∧ List.length x1.1 ≤ x1.2 → ∃ (x2 :
Byts), (HE IntKind.u8 x2.1 (num (Int.toNat (foldI a))) ∧ List.length x2.1 ≤ x2.2) ∧ ((0 : Nat) = (0 : Nat) ∧ List.length x2.1 = List.length x1.1 ∧ x2.2 = x1.2) ∧ (x2.2 = x1.2 ∧
FlatL x2.1 ∧ x2.1 = x1.1) ∧ True) ∧ True) ∧ True) := by kernel_rfl
theorem cw0_ok : CwOK Tryz.prog cw0 := fun _ _ _ _ h => h.elim
theorem wrap_u8 (x : Int) : IntKind.wrap .u8 x = x % 256 := by simp [IntKind.wrap, IntKind.bits, IntKind.signed]
theorem wrap_u64 (x : Int) : IntKind.wrap .u64 x = x % 18446744073709551616 := by simp [IntKind.wrap, IntKind.bits, IntKind.signed]
theorem wrap_i64 (x : Int) : IntKind.wrap .i64 x = (x + 9223372036854775808) % 18446744073709551616 - 9223372036854775808 := by simp [IntKind.wrap, IntKind.bits, IntKind.signed]; omega
theorem wrap_i32 (x : Int) : IntKind.wrap .i32 x = (x + 2147483648) % 4294967296 - 2147483648 := by simp [IntKind.wrap, IntKind.bits, IntKind.signed]; omega
theorem num_small {n : Nat} (h : n < 128) : num n = [(n : Int)] := by rw [num, if_pos h]
theorem num_big {n : Nat} (h : ¬ n < 128) : num n = ((128 + n % 128 : Nat) : Int) :: num (n / 128) := by rw [num, if_neg h]
theorem num_len : ∀ (k n : Nat), n < 128 ^ (k + 1) → (num n).length ≤ k + 1 := by
  intro k
  induction k with
  | zero => intro n h; rw [num_small (by omega)]; simp
  | succ k ih =>
    intro n h
    by_cases hn : n < 128
    · rw [num_small hn]; simp
    · rw [num_big hn]
      have := ih (n / 128) (by rw [Nat.pow_succ] at h; exact Nat.div_lt_of_lt_mul (by omega))
      simp; omega
theorem num_len10 {n : Nat} (h : n < 18446744073709551616) : (num n).length ≤ 10 := num_len 9 n (Nat.lt_of_lt_of_le h (by decide))
theorem num_pos (n : Nat) : 0 < (num n).length := by
  by_cases h : n < 128
  · rw [num_small h]; simp
  · rw [num_big h]; simp
theorem num_step {n r m b q : Int} (h0 : 0 ≤ n) (h1 : n < 18446744073709551616) (hge : 128 ≤ n) (hr : r = Int.tmod n 128) (hm : m = IntKind.wrap .u64 (128 + r)) (hb : b = IntKind.wrap .u8 m) (hq : q = IntKind.wrap .u64 (Int.tdiv n 128)) :
    num n.toNat = b :: num q.toNat ∧ 0 ≤ q ∧ q < 18446744073709551616 ∧ q.toNat < n.toNat := by
  rw [Int.tmod_eq_emod_of_nonneg h0] at hr
  rw [Int.tdiv_eq_ediv_of_nonneg h0, wrap_u64] at hq
  rw [wrap_u64] at hm
  rw [wrap_u8] at hb
  refine ⟨?_, by omega, by omega, by omega⟩
  rw [num_big (by omega), show ((128 + n.toNat % 128 : Nat) : Int) = b by omega, show n.toNat / 128 = q.toNat by omega]
theorem num_last {n b : Int} (h0 : 0 ≤ n) (hlt : ¬ 128 ≤ n) (hb : b = IntKind.wrap .u8 n) : num n.toNat = [b] := by
  rw [wrap_u8] at hb
  rw [num_small (by omega), show ((n.toNat : Nat) : Int) = b by omega]
theorem oneK_one (k : IntKind) (z : Int) : lall oneK [tgI k z] = true := rfl
theorem lwin_one (v : Value) : lwin [v] 0 1 = [v] := rfl
theorem g_num (a : Int) (hp : 0 ≤ a ∧ a < 18446744073709551616) : G_num a := by
  rw [vc_num]
  have h10 := num_len10 (n := a.toNat) (by omega)
  refine ⟨⟨a, true, 0, 0, []⟩, ⟨⟨hp.1, hp.2⟩, [], .nil, rfl, Nat.le_refl _, rfl, fun _ => ⟨rfl, rfl⟩⟩, ⟨⟨rfl, ⟨rfl, rfl, rfl⟩, trivial⟩, ⟨⟨flatL_nil, trivial⟩, trivial⟩, trivial⟩, ?_⟩
  rintro ⟨n, nb, l, k, c⟩ ⟨⟨hn0, hn1⟩, xs, hx, hl, hk, hs, hb⟩
  dsimp only at hn0 hn1 hx hl hk hs hb ⊢
  have hlen := hx.len
  have hxs : xs.length ≤ 10 := by rw [← hs] at h10; simp at h10; omega
  refine ⟨fun hge => ⟨by decide, fun r hr m hm b hbb => ⟨fun ht => ⟨by simp, fun ys hys => ⟨fun h => by omega, fun _ => ⟨by unfold Few; omega, by decide, fun q hq => ?_⟩⟩⟩, fun hf => ⟨by simp, fun ys hys => ⟨⟨rfl, by omega, rfl, by omega, by unfold Few; omega, ?_⟩, fun l' k' hl' hk' => ⟨by decide, fun q hq => ?_⟩⟩⟩⟩⟩, fun hlt b hbb => ⟨fun ht => ⟨by simp, fun ys hys => ⟨fun h => by omega, fun _ => ⟨by unfold Few; omega, ?_⟩⟩⟩, fun hf => ⟨by simp, fun ys hys => ⟨⟨rfl, by omega, rfl, by omega, by unfold Few; omega, ?_⟩, fun l' k' hl' hk' => ?_⟩⟩⟩⟩
  · obtain ⟨e1, e2, e3, e4⟩ := num_step hn0 hn1 hge hr hm hbb hq
    obtain ⟨rfl, rfl⟩ := hb ht
    rw [lwin_one] at hys
    have hy : HE .u8 ys [b] := by rw [hys]; exact .one
    exact ⟨⟨q, false, 1, 1, ys⟩, ⟨⟨e2, e3⟩, [b], hy, rfl, Nat.le_refl _, by rw [← hs, e1]; rfl, fun h => by cases h⟩, e4, ⟨rfl, ⟨rfl, rfl, rfl, rfl⟩, trivial⟩, ⟨⟨rfl, hy.flat, rfl⟩, trivial⟩, trivial⟩
  · rw [hys, lwin_one]; exact oneK_one _ _
  · obtain ⟨e1, e2, e3, e4⟩ := num_step hn0 hn1 hge hr hm hbb hq
    rw [lwin_one] at hys
    subst hys
    have hy := hx.snoc (z := b)
    exact ⟨⟨q, false, l', k', _⟩, ⟨⟨e2, e3⟩, xs ++ [b], hy, by simp; omega, by (rw [hk']; simp; split <;> omega), by rw [← hs, e1]; simp, fun h => by cases h⟩, e4, ⟨rfl, ⟨rfl, rfl, rfl, rfl⟩, trivial⟩, ⟨⟨rfl, hy.flat, rfl⟩, trivial⟩, trivial⟩
  · obtain ⟨rfl, rfl⟩ := hb ht
    have e1 := num_last hn0 hlt hbb
    rw [lwin_one] at hys
    have hy : HE .u8 ys [b] := by rw [hys]; exact .one
    rw [e1] at hs
    exact ⟨⟨ys, 1⟩, ⟨by rw [← hs]; exact hy, by have := hy.len; simp at this; show ys.length ≤ 1; omega⟩, ⟨rfl, by have := hy.len; simpa using this, rfl⟩, ⟨rfl, hy.flat, rfl⟩, trivial⟩
  · rw [hys, lwin_one]; exact oneK_one _ _
  · have e1 := num_last hn0 hlt hbb
    rw [lwin_one] at hys
    subst hys
    have hy := hx.snoc (z := b)
    rw [e1] at hs
    have hl2 := hy.len
    simp at hl2
    exact ⟨⟨_, k'⟩, ⟨by rw [← hs]; exact hy, by (rw [hk']; simp; split <;> omega)⟩, ⟨rfl, by simp; omega, rfl⟩, ⟨rfl, hy.flat, rfl⟩, trivial⟩
theorem s_num : SpecOK Tryz.prog S_num.spec := fun a => specD_at (an := [some (la_num a)]) envOK cw0_ok fun hp => g_num a hp.1
theorem g_fold (a : Int) (hp : -9223372036854775808 ≤ a ∧ a ≤ 9223372036854775807) : G_fold a := by
  rw [vc_fold]
  refine ⟨fun h x0 e0 x1 e1 x2 e2 x3 e3 x4 e4 => ⟨(), trivial, ?_, trivial⟩, fun h x0 e0 x1 e1 => ⟨(), trivial, ?_, trivial⟩⟩
  · rw [wrap_i64] at e0 e1; rw [wrap_u64] at e2 e3 e4
    unfold foldI; rw [if_pos h]; omega
  · rw [wrap_u64] at e0 e1
    unfold foldI; rw [if_neg h]; omega
theorem s_fold : SpecOK Tryz.prog S_fold.spec := fun a => specD_at (an := []) envOK cw0_ok fun hp => g_fold a hp.1
theorem fold_in {a : Int} (hp : -9223372036854775808 ≤ a ∧ a ≤ 9223372036854775807) : 0 ≤ foldI a ∧ foldI a < 18446744073709551616 := by
  unfold foldI; split <;> omega
theorem g_signed (a : Int) (hp : -9223372036854775808 ≤ a ∧ a ≤ 9223372036854775807) : G_signed a := by
  rw [vc_signed]
  exact ⟨⟨trivial, hp, trivial⟩, ⟨⟨rfl, trivial⟩, trivial⟩, fun _ _ => ⟨⟨trivial, fold_in hp, trivial⟩, ⟨⟨rfl, trivial⟩, trivial⟩, fun b hb => ⟨⟨b.c, b.k⟩, hb, ⟨rfl, rfl, rfl⟩, ⟨rfl, hb.1.flat, rfl⟩, trivial⟩, trivial⟩, trivial⟩
theorem s_signed : SpecOK Tryz.prog S_signed.spec := fun a => specD_at (an := []) envOK (cwD_ok s_num (cwD_ok s_fold cw0_ok)) fun hp => g_signed a hp.1
end Go.Proofs.YtalbjjimnhldfaaGreatDoor
end
