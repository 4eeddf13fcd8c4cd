/- What calls come to, as the kernel reckons it. -/
import Derived.Test.YthokbbichifohaaGreatDoorGlob
import Derived.Test.YthokbbichifohaaGreatDoorEnv
import Derived.Test.YthokbbichifohaaGreatDoorWk
set_option maxRecDepth 100000
namespace Go.Proofs.YthokbbichifohaaGreatDoor
open Go.Ev
abbrev iv (n : Nat) : Value := .int .i64 (.ofNat n)
abbrev nv (n : Nat) : Value := .int .i64 (.negSucc n)
abbrev wv32 (n : Nat) : Value := .int .i32 (.ofNat n)
abbrev bv (n : Nat) : Value := .int .u8 (.ofNat n)
abbrev pv (n : Nat) : Value := .pointer (some ⟨n, 0, none⟩)
abbrev sv (n l c : Nat) : Value := .slice (some ⟨n, 0, none⟩) l c
abbrev ivs (l : List Nat) : List Value := l.map iv
abbrev bvs (l : List Nat) : List Value := l.map bv
noncomputable def hand (h : Caller → Caller) : Caller → Caller := fun c => walkH (h c)
set_option linter.unusedSectionVars false
variable [Go.Ev.Frozen Tryz.prog]
theorem hand_ok {h : Caller → Caller} (hh : HookOK Tryz.prog h) : HookOK Tryz.prog (hand h) := fun c hc => walkH_ok _ (hh c hc)
end Go.Proofs.YthokbbichifohaaGreatDoor
