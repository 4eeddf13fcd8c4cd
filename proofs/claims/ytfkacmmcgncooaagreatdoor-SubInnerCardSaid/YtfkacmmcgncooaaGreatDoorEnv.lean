/- What the evaluator is told of this program's functions is so. -/
import Derived.Test.YtfkacmmcgncooaaGreatDoorGlob
import Derived.Laws.Externs
import Derived.Lib.MakeNoZero
import Derived.Recover
import Derived.Tactics
import Derived.Tactics2
set_option maxRecDepth 10000
namespace Go.Proofs.YtfkacmmcgncooaaGreatDoor
open Go.Ev
set_option linter.unusedSectionVars false
variable [Go.Ev.Frozen Tryz.prog]
theorem names_ok : (Tryz.prog.funcs.toList.all fun fn => !(fn.name == "runtime.NumGoroutine")) = true := by kernel_rfl
theorem check_idle (x : Value) (w : World) : CallsD Tryz.prog 151 #[x] .returning w fun e u' w' => (∃ v, e = .returned v) ∧ u' = .returning ∧ w' = w := by
  refine callsD_of_wpS Tryz.func151 rfl fun c₀ cs hu => ?_
  apply wpS_seq
  apply wpS_region
  simp [wpOpsS, go_sem, recoverD, hu, Tryz.ntmps151, Exit.thenS]
  apply wpS_seq
  apply wpS_seq
  apply wpS_region
  have hev : ∀ w : World, (do eqGuard .eql 20 (.tmp 5) (.const .nilIface) .nilIface .nilIface; binOp .eql 20 .nilIface .nilIface : Sem Value).run Tryz.prog w = .ok (.bool true) w := fun w => by kernel_rfl
  simp [wpOpsS, go_sem, Exit.thenS, hev]
  refine wpS_cond (t := true) (by simp [Act.eval, Array.replicate]) ?_
  simp only [if_true]
  refine wpS_of_wp (wp_ret ?_)
  cases c₀
  simp_all [bodyPostS, results, Tryz.results151, Exit.thenS]
theorem noEscape_ok (x : Value) (w : World) : (callFunc 287 #[x]).run Tryz.prog w = .ok (.value x) w := by
  have := run_callFunc_extern (P := Tryz.prog) (f := 287) (fn := Tryz.f287) (e := Extern.AbiNoEscape.same) (by kernel_rfl) (by kernel_rfl) (by kernel_rfl) (by kernel_rfl) (by kernel_rfl) #[x] w
  rw [this]; rfl
theorem makeNoZero_ok (n : Nat) (w : World) (hn : n ≤ 1073741824) : ∃ (cs : Array Value) (w' : World), (callFunc 288 #[.int .i64 (.ofNat n)]).run Tryz.prog w = .ok (.value (.slice (some ⟨w.heap.size, 0, none⟩) n cs.size)) w' ∧ w'.heap = w.heap.push (.cells cs 5) ∧ n ≤ cs.size ∧
    w'.os = w.os ∧ w'.tape = w.tape ∧ w'.output = w.output := by
  have h1 := run_callFunc_extern (P := Tryz.prog) (f := 288) (fn := Tryz.f288) (e := Extern.BytealgMakeNoZero.makeNoZero #[3] #[152]) (by kernel_rfl) (by kernel_rfl) (by kernel_rfl) (by kernel_rfl) (by kernel_rfl) #[.int .i64 (.ofNat n)] w
  obtain ⟨cs, h2, h3, _⟩ := Go.Lib.run_makeNoZero (P := Tryz.prog) w #[3] 152 5 (by kernel_rfl) n (by omega)
  refine ⟨cs, w.drew.drew.alloc (.cells cs 5), ?_, rfl, h3, rfl, rfl, rfl⟩
  rw [h1]
  have h2 : (Extern.BytealgMakeNoZero.makeNoZero #[3] #[152] #[.int .i64 (.ofNat n)]).run Tryz.prog w = _ := h2
  rw [h2]; rfl
theorem envOK : EnvOK Tryz.prog E0 where
  mixed := by kernel_rfl
  name := fun f fn hf => by
    have := List.all_eq_true.1 names_ok fn (by simpa using Array.mem_of_getElem? hf)
    simpa using this
  dh := fun f hf => by
    have : f = 151 := by simpa [E0] using hf
    subst this
    exact ⟨fun args w => entered (fn := Tryz.f151) (by kernel_rfl) (by kernel_rfl) rfl args w, check_idle⟩
  ne := fun f hf => by
    have : f = 287 := by simpa [E0] using hf
    subst this
    exact noEscape_ok
  mz := fun f hf n w hn => by
    have : f = 288 := by simpa [E0] using hf
    subst this
    exact makeNoZero_ok n w hn
  one := .inr ⟨_, (by kernel_rfl : Tryz.prog.info? 5 = some Tryz.t5), (by kernel_rfl)⟩
end Go.Proofs.YtfkacmmcgncooaaGreatDoor
