/- A table that is begun and not played at changes nothing of what is paid: the law. -/
import Derived.Test.YtfkacmmcgncooaaGreatDoorYw7
import Derived.Test.YtfkacmmcgncooaaGreatDoorYw1P
set_option maxRecDepth 100000
namespace Go.Proofs.YtfkacmmcgncooaaGreatDoor
open Go.Ev
theorem lw2 {x y u v : Int} (h : lwin [tgI .i64 x, tgI .i64 y] 0 2 = [tgI .i64 u, tgI .i64 v]) : x = u /\ y = v := by
 have h : [tgI .i64 x, tgI .i64 y] = [tgI .i64 u, tgI .i64 v] := h
 injection h with h1 h2
 injection h2 with h2 _
 injection h1 with _ h1
 injection h2 with _ h2
 injection h1 with _ h1
 injection h2 with _ h2
 exact ⟨h1, h2⟩
theorem monI {d : Nat} {a : MnA} {e : MnB} (h1 : 0 <= e.i /\ e.i <= a.l) (h2 : allOK d e.t) (h3 : totL d e.t = a.x + a.y) : monJ d a e := And.intro h1 (And.intro h2 h3)
variable [Frozen Tryz.prog]
abbrev QYw7P_6 (a0 : RuA) : Prop := True /\ True /\ Z2 /\ Z1 a0.19.1 /\ Z1 a0.19.2 /\ Z1 a0.19.3 /\ Z1 a0.19.4 /\ Z1 a0.19.5 /\ Z1 a0.19.6 /\ Z1 a0.19.7 /\ Z1 a0.19.8 /\
 0 = 0 /\ (0 = 0 /\ 1 = 1 /\ 1 = 1) /\ Z2 /\ True
abbrev QYw7P_7 : Prop := True /\ FlatL [Value.int .i64 1, Value.int .i64 1] /\ [Value.int .i64 1, Value.int .i64 1] = [Value.int .i64 1, Value.int .i64 1]
abbrev QYw7P_4 (a0 : RuA) : Prop := True /\ (2 : Int) = 2 /\ (2 : Int) = 2 /\ Z2 /\ (0 = 0 /\ 1 = 1 /\ 1 = 1) /\ (0 = 0 /\ Z1 a0.1 /\ Z1 a0.1) /\ (0 = 0 /\ Z1 a0.2 /\ Z1
 a0.2) /\ (0 = 0 /\ Z1 a0.3 /\ Z1 a0.3) /\ (0 = 0 /\ Z1 a0.4 /\ Z1 a0.4) /\ (0 = 0 /\ Z1 a0.5 /\ Z1 a0.5) /\ Z1 a0.6 /\ Z1 a0.7 /\ Z1 a0.8 /\ Z1 a0.9 /\ Z1 a0.10 /\ True
abbrev QYw7P_8 : Prop := True /\ FlatL [Value.int .i32 0, Value.int .i32 0] /\ [Value.int .i32 0, Value.int .i32 0] = [Value.int .i32 0, Value.int .i32 0]
abbrev QYw7P_46 (a0 : RuA) (a1 : PoA) : Prop := QYw7P_6 a0 /\ QYw7P_7 /\ QYw7P_4 a0 /\ QYw7P_8 /\ ZF a0.11 /\ ZF a0.12 /\ ZF a0.13 /\ ZF a0.14 /\ ZF a0.15 /\ ZF a0.16 /\ ZF a0.17 /\ ZF a0.18
 /\ ZF a1.1 /\ ZF a1.2 /\ ZF a1.3 /\ ZF cells2 /\ True
abbrev QYw7P_1 (a0 : RuA) (a1 : PoA) (a2 : RuA) (a3 : PoA) : Prop := QYw7P_6 a0 /\ QYw7P_7 /\ QYw7P_4 a0 /\ QYw7P_8 /\ ZF a0.11 /\ ZF a0.12 /\ ZF a0.13 /\ ZF a0.14 /\ ZF a0.15 /\ ZF a0.16 /\
 ZF a0.17 /\ ZF a0.18 /\ ZF a1.1 /\ ZF a1.2 /\ ZF a1.3 /\ QYw7P_46 a2 a3
abbrev QYw7P_15 (a0 : RuA) (a1 : RuA) : Prop := True /\ True /\ Z2 /\ a0.19.1 = a1.19.1 /\ a0.19.2 = a1.19.2 /\ a0.19.3 = a1.19.3 /\ a0.19.4 = a1.19.4 /\ a0.19.5 =
 a1.19.5 /\ a0.19.6 = a1.19.6 /\ a0.19.7 = a1.19.7 /\ a0.19.8 = a1.19.8 /\ 0 = 0 /\ (0 = 0 /\ 1 = 1 /\ 1 = 1) /\ Z2 /\ True
abbrev QYw7P_10 (a0 : RuA) (a1 : RuA) : Prop := True /\ (2 : Int) = 2 /\ (2 : Int) = 2 /\ Z2 /\ (0 = 0 /\ 1 = 1 /\ 1 = 1) /\ (0 = 0 /\ a0.1 = a1.1 /\ a0.1 = a1.1) /\ (0
 = 0 /\ a0.2 = a1.2 /\ a0.2 = a1.2) /\ (0 = 0 /\ a0.3 = a1.3 /\ a0.3 = a1.3) /\ (0 = 0 /\ a0.4 = a1.4 /\ a0.4 = a1.4) /\ (0 = 0 /\ a0.5 = a1.5 /\ a0.5 = a1.5) /\ a0.6 = a1.6 /\ a0.7 = a1.7 /\
 a0.8 = a1.8 /\ a0.9 = a1.9 /\ a0.10 = a1.10 /\ True
abbrev QYw7P_2 (a0 : RuA) (a1 : RuA) (a2 : PoA) (a3 : PoA) (a4 : RuA) (a5 : RuA) (a6 : PoA) (a7 : PoA) (a8 : Int) (a9 : Int) : Prop := QYw7P_15 a0 a1 /\ QYw7P_7 /\ QYw7P_10 a0 a1 /\
 QYw7P_8 /\ (True /\ FlatL a0.11 /\ a0.11 = a1.11) /\ (True /\ FlatL a0.12 /\ a0.12 = a1.12) /\ (True /\ FlatL a0.13 /\ a0.13 = a1.13) /\ (True /\ FlatL a0.14 /\ a0.14 = a1.14) /\ (True /\ FlatL
 a0.15 /\ a0.15 = a1.15) /\ (True /\ FlatL a0.16 /\ a0.16 = a1.16) /\ (True /\ FlatL a0.17 /\ a0.17 = a1.17) /\ (True /\ FlatL a0.18 /\ a0.18 = a1.18) /\ (True /\ FlatL a2.1 /\ a2.1 = a3.1) /\
 (True /\ FlatL a2.2 /\ a2.2 = a3.2) /\ (True /\ FlatL a2.3 /\ a2.3 = a3.3) /\ ZF cells0 /\ ZF cells1 /\ ZF cells2 /\ ZF cells4 /\ ZF cells5 /\ ZF cells6 /\ ZF cells8 /\ ZF cells9 /\ ZF cells10 /\
 QYw7P_15 a4 a5 /\ QYw7P_7 /\ QYw7P_10 a4 a5 /\ QYw7P_8 /\ (True /\ FlatL a4.11 /\ a4.11 = a5.11) /\ (True /\ FlatL a4.12 /\ a4.12 = a5.12) /\ (True /\ FlatL a4.13 /\ a4.13 = a5.13) /\ (True /\
 FlatL a4.14 /\ a4.14 = a5.14) /\ (True /\ FlatL a4.15 /\ a4.15 = a5.15) /\ (True /\ FlatL a4.16 /\ a4.16 = a5.16) /\ (True /\ FlatL a4.17 /\ a4.17 = a5.17) /\ (True /\ FlatL a4.18 /\ a4.18 =
 a5.18) /\ (True /\ FlatL a6.1 /\ a6.1 = a7.1) /\ (True /\ FlatL a6.2 /\ a6.2 = a7.2) /\ (True /\ FlatL a6.3 /\ a6.3 = a7.3) /\ (True /\ Z2 /\ Z2 /\ (0
 = 0 /\ 2 = 2 /\ 2 = 2) /\ a6.4 = a7.4 /\ a6.5 = a7.5 /\ a6.6 = a7.6 /\ a6.7 = a7.7 /\ a6.8 = a7.8 /\ True) /\ (True /\ Z1 a8 /\ Z1 a9 /\ True) /\ True
abbrev QYw7P_24 (a0 : PoA) : Prop := 0 = 0 /\ Z2 /\ Z2 /\ Z2 /\ Z1 a0.4 /\ Z1 a0.5 /\ Z1 a0.6 /\ Z1 a0.7 /\ Z1 a0.8 /\ (0 = 0
 /\ 2 = 2 /\ 2 = 2) /\ True
abbrev QYw7P_3 (a0 : PoA) (a1 : PoA) : Prop := 0 = 0 /\ Z2 /\ Z2 /\ Z2 /\ Z1 a0.4 /\ Z1 a0.5 /\ Z1 a0.6 /\ Z1 a0.7 /\ Z1 a0.8
 /\ Z2 /\ QYw7P_24 a1
abbrev QYw7P_25 (a0 : PoA) : Prop := True /\ ∃ (b0 b1 : Nat), (b0, b1) ∈ allG /\ PoA.mk a0.1 a0.2 a0.3 a0.4 a0.5 a0.6 a0.7 a0.8 = posG b0 b1
abbrev QYw7P_16 (a0 : PoA) : Prop := Z2 /\ Z2 /\ Z2 /\ Z1 a0.4 /\ Z1 a0.5 /\ Z1 a0.6 /\ Z1 a0.7 /\ Z1 a0.8 /\ True
abbrev QYw7P_36 (a0 : PoA) : Prop := (QYw7P_16 a0 /\ True) /\ ZF a0.1 /\ ZF a0.2 /\ ZF a0.3 /\ True
abbrev QYw7P_19 (a0 : Int) (a1 : Int) (a2 : Int) (a3 : Int) : Prop := lwin [Value.iface 1000000007 (Value.int .i64 a0), Value.iface 1000000007 (Value.int .i64 a1)] 0 2 =
 [Value.iface 1000000007 (Value.int .i64 a2), Value.iface 1000000007 (Value.int .i64 a3)]
abbrev QYw7P_9 (a0 : Int) (a1 : Int) : Prop := True /\ (2 <= 2 /\ 0 + 2 <= List.length [Value.iface 1000000007 (Value.int .i64 a0), Value.iface 1000000007 (Value.int .i64 a1)] /\ FlatL
 [Value.iface 1000000007 (Value.int .i64 a0), Value.iface 1000000007 (Value.int .i64 a1)]) /\ ∃ (b0 b1 : Int), QYw7P_19 a0 a1 b0 b1
abbrev QYw7P_12 (a0 : Int) (a1 : Int) : Prop := ((false = false /\ 0 = 0 /\ 2 = 2 /\ 2 = 2) /\ True) /\ (True /\ FlatL [Value.iface 1000000007 (Value.int .i64 a0), Value.iface 1000000007
 (Value.int .i64 a1)] /\ [Value.iface 1000000007 (Value.int .i64 a0), Value.iface 1000000007 (Value.int .i64 a1)] = [Value.iface 1000000007 (Value.int .i64 a0), Value.iface
 1000000007 (Value.int .i64 a1)]) /\ True
abbrev QYw7P_14 (a0 : Option AO) (a1 : Option AO) (a2 : Option AO) : Prop := (True /\ True /\ True) /\ (True /\ True /\ True) /\ (True /\ True /\ True) /\ (a0 = a0 /\ a1 = a1 /\ True) /\ True
 /\ True /\ True /\ True /\ True /\ (True /\ True) /\ (True /\ True) /\ (True /\ True) /\ (a2 = a2 /\ True) /\ True /\ True /\ True /\ True
abbrev QYw7P_23 (a0 : Option AO) (a1 : Option AO) : Prop := True /\ True /\ True /\ (True /\ True) /\ (a0 = a0 /\ True) /\ (True /\ True) /\ (a1 = a1 /\ True) /\ True /\ True /\ True /\ True
abbrev QYw7P_5 (a0 : Int) (a1 : PoA) (a2 : Int) (a3 : Int) (a4 : Option AO) (a5 : Option AO) (a6 : Option AO) (a7 : Option AO) (a8 : Option AO) : Prop := ¬(a0 ≠ (0 : Int)) ->
 QYw7P_25 a1 /\ QYw7P_36 a1 /\ (∀ (_ : Unit), True -> QYw7P_9 a2 a3 /\ QYw7P_12 a2 a3 /\ (∀ (b1 : XyB), QYw7P_19 a2 a3 b1.1 b1.2 -> QYw7P_14 a4 a5 a6 /\ QYw7P_23 a7 a8 /\ (True /\ True /\
 True /\ True /\ True /\ True /\ True /\ True /\ True /\ True /\ True /\ True /\ True /\ True /\ True /\ True /\ True /\ True /\ True /\ True /\ True /\ True /\ True /\ True /\ True /\ True /\ True /\ True
 /\ True /\ True /\ True /\ True /\ True /\ True /\ True /\ True /\ True /\ True /\ True /\ True /\ True /\ True /\ True /\ True /\ True /\ True /\ True /\ True /\ True /\ True /\ True /\ True) /\ ∃ (_ :
 Unit), True /\ true = false /\ True) /\ True) /\ True
abbrev QYw7P_11 (a0 : PoA) (a1 : PoA) (a2 : PoA) : Prop := 0 = 0 /\ Z2 /\ Z2 /\ Z2 /\ Z1 a0.4 /\ Z1 a0.5 /\ Z1 a0.6 /\ Z1
 a0.7 /\ Z1 a0.8 /\ Z2 /\ QYw7P_3 a1 a2
abbrev QYw7P_34 (a0 : RuA) (a1 : PoA) (a2 : Int) (a3 : Int) : Prop := sumX 1 (StA.mk (OuA.mk (0 : Int) (0 : Int) (0 : Int) (0 : Int) (0 : Int) (0 : Int) (0 : Int)) (OuA.mk (0 :
 Int) (0 : Int) (0 : Int) (0 : Int) (0 : Int) (0 : Int) (0 : Int)) (OuA.mk (0 : Int) (0 : Int) (0 : Int) (0 : Int) (0 : Int) (0 : Int) (0 : Int)) a0 a1 a2 a3) = sumX 1 (StA.mk
 (OuA.mk (0 : Int) (0 : Int) (0 : Int) (0 : Int) (0 : Int) (0 : Int) (0 : Int)) (OuA.mk (0 : Int) (0 : Int) (0 : Int) (0 : Int) (0 : Int) (0 : Int) (0 : Int)) (OuA.mk (0 : Int) (0 :
 Int) (0 : Int) (0 : Int) (0 : Int) (0 : Int) (0 : Int)) a0 a1 a2 a3)
abbrev QYw7P_35 (a0 : RuA) (a1 : PoA) (a2 : Int) (a3 : Int) : Prop := sumY 1 (StA.mk (OuA.mk (0 : Int) (0 : Int) (0 : Int) (0 : Int) (0 : Int) (0 : Int) (0 : Int)) (OuA.mk (0 :
 Int) (0 : Int) (0 : Int) (0 : Int) (0 : Int) (0 : Int) (0 : Int)) (OuA.mk (0 : Int) (0 : Int) (0 : Int) (0 : Int) (0 : Int) (0 : Int) (0 : Int)) a0 a1 a2 a3) = sumY 1 (StA.mk
 (OuA.mk (0 : Int) (0 : Int) (0 : Int) (0 : Int) (0 : Int) (0 : Int) (0 : Int)) (OuA.mk (0 : Int) (0 : Int) (0 : Int) (0 : Int) (0 : Int) (0 : Int) (0 : Int)) (OuA.mk (0 : Int) (0 :
 Int) (0 : Int) (0 : Int) (0 : Int) (0 : Int) (0 : Int)) a0 a1 a2 a3)
abbrev QYw7P_13 (a0 : RuA) (a1 : PoA) (a2 : Int) (a3 : Int) : Prop := True /\ QYw7P_34 a0 a1 a2 a3 /\ QYw7P_35 a0 a1 a2 a3 /\ True
abbrev QYw7P_41 (a0 : PoA) (a1 : Int) (a2 : Int) (a3 : RuA) (a4 : PoA) (a5 : Int) (a6 : Int) : Prop := sumX 2 (StA.mk (OuA.mk a0.4 a0.5 a0.6 a0.7 a0.8 a1 a2) (OuA.mk (0 : Int) (0 :
 Int) (0 : Int) (0 : Int) (0 : Int) (0 : Int) (0 : Int)) (OuA.mk (0 : Int) (0 : Int) (0 : Int) (0 : Int) (0 : Int) (0 : Int) (0 : Int)) a3 a4 a5 a6) = sumX 2 (StA.mk (OuA.mk a0.4
 a0.5 a0.6 a0.7 a0.8 a1 a2) (OuA.mk (0 : Int) (0 : Int) (0 : Int) (0 : Int) (0 : Int) (0 : Int) (0 : Int)) (OuA.mk (0 : Int) (0 : Int) (0 : Int) (0 : Int) (0 : Int) (0 : Int) (0 :
 Int)) a3 a4 a5 a6)
abbrev QYw7P_42 (a0 : PoA) (a1 : Int) (a2 : Int) (a3 : RuA) (a4 : PoA) (a5 : Int) (a6 : Int) : Prop := sumY 2 (StA.mk (OuA.mk a0.4 a0.5 a0.6 a0.7 a0.8 a1 a2) (OuA.mk (0 : Int) (0 :
 Int) (0 : Int) (0 : Int) (0 : Int) (0 : Int) (0 : Int)) (OuA.mk (0 : Int) (0 : Int) (0 : Int) (0 : Int) (0 : Int) (0 : Int) (0 : Int)) a3 a4 a5 a6) = sumY 2 (StA.mk (OuA.mk a0.4
 a0.5 a0.6 a0.7 a0.8 a1 a2) (OuA.mk (0 : Int) (0 : Int) (0 : Int) (0 : Int) (0 : Int) (0 : Int) (0 : Int)) (OuA.mk (0 : Int) (0 : Int) (0 : Int) (0 : Int) (0 : Int) (0 : Int) (0 :
 Int)) a3 a4 a5 a6)
abbrev QYw7P_17 (a0 : PoA) (a1 : Int) (a2 : Int) (a3 : RuA) (a4 : PoA) (a5 : Int) (a6 : Int) : Prop := True /\ QYw7P_41 a0 a1 a2 a3 a4 a5 a6 /\ QYw7P_42 a0 a1 a2 a3 a4 a5 a6 /\ True
abbrev QYw7P_50 (a0 : PoA) (a1 : Int) (a2 : Int) (a3 : PoA) (a4 : Int) (a5 : Int) (a6 : RuA) (a7 : PoA) (a8 : Int) (a9 : Int) : Prop := sumX 3 (StA.mk (OuA.mk a0.4 a0.5 a0.6 a0.7
 a0.8 a1 a2) (OuA.mk a3.4 a3.5 a3.6 a3.7 a3.8 a4 a5) (OuA.mk (0 : Int) (0 : Int) (0 : Int) (0 : Int) (0 : Int) (0 : Int) (0 : Int)) a6 a7 a8 a9) = sumX 3 (StA.mk (OuA.mk a0.4 a0.5
 a0.6 a0.7 a0.8 a1 a2) (OuA.mk a3.4 a3.5 a3.6 a3.7 a3.8 a4 a5) (OuA.mk (0 : Int) (0 : Int) (0 : Int) (0 : Int) (0 : Int) (0 : Int) (0 : Int)) a6 a7 a8 a9)
abbrev QYw7P_51 (a0 : PoA) (a1 : Int) (a2 : Int) (a3 : PoA) (a4 : Int) (a5 : Int) (a6 : RuA) (a7 : PoA) (a8 : Int) (a9 : Int) : Prop := sumY 3 (StA.mk (OuA.mk a0.4 a0.5 a0.6 a0.7
 a0.8 a1 a2) (OuA.mk a3.4 a3.5 a3.6 a3.7 a3.8 a4 a5) (OuA.mk (0 : Int) (0 : Int) (0 : Int) (0 : Int) (0 : Int) (0 : Int) (0 : Int)) a6 a7 a8 a9) = sumY 3 (StA.mk (OuA.mk a0.4 a0.5
 a0.6 a0.7 a0.8 a1 a2) (OuA.mk a3.4 a3.5 a3.6 a3.7 a3.8 a4 a5) (OuA.mk (0 : Int) (0 : Int) (0 : Int) (0 : Int) (0 : Int) (0 : Int) (0 : Int)) a6 a7 a8 a9)
abbrev QYw7P_18 (a0 : PoA) (a1 : Int) (a2 : Int) (a3 : PoA) (a4 : Int) (a5 : Int) (a6 : RuA) (a7 : PoA) (a8 : Int) (a9 : Int) : Prop := True /\ QYw7P_50 a0 a1 a2 a3 a4 a5 a6 a7 a8
 a9 /\ QYw7P_51 a0 a1 a2 a3 a4 a5 a6 a7 a8 a9 /\ True
abbrev QYw7P_28 : Prop := Z2 /\ Z2 /\ True
abbrev QYw7P_20 (a0 : XyB) (a1 : XyB) (a2 : Option AO) : Prop := (True /\ a0.1 = a1.1 /\ a0.2 = a1.2) /\ (QYw7P_28 /\ (True /\ Z1 a0.1 /\ Z1 a0.2 /\ True) /\ (True /\ Z1 a1.1 /\ Z1 a1.2 /\
 True) /\ True) /\ (∀ (_ : Unit), True -> (True /\ True /\ True /\ True /\ True /\ True /\ True /\ True /\ True /\ True /\ True /\ True /\ True /\ True /\ True /\ True /\ True /\ (True /\ True) /\ (a2 =
 a2 /\ True) /\ True /\ True /\ True /\ True /\ True /\ True /\ True /\ True /\ True /\ True /\ True /\ True /\ True /\ True /\ True /\ True /\ True /\ True /\ True /\ True /\ True /\ True /\ (True /\ True)
 /\ True /\ True /\ True /\ True /\ True /\ (True /\ True) /\ True /\ True /\ True /\ True) /\ ∃ (_ : Unit), True /\ true = true /\ True) /\ True
abbrev QYw7P_40 : Prop := (True /\ True) /\ (True /\ True) /\ (True /\ True) /\ (True /\ True) /\ (True /\ True) /\ (True /\ True) /\ (True /\ True) /\ (True /\ True) /\ True
abbrev QYw7P_21 : Prop := (True /\ True) /\ (True /\ True) /\ (True /\ True) /\ (True /\ True) /\ QYw7P_40
abbrev QYw7P_22 (a0 : PoA) (a1 : PoA) (a2 : PoA) (a3 : PoA) : Prop := 0 = 0 /\ Z2 /\ Z2 /\ Z2 /\ Z1 a0.4 /\ Z1 a0.5 /\ Z1
 a0.6 /\ Z1 a0.7 /\ Z1 a0.8 /\ Z2 /\ QYw7P_11 a1 a2 a3
abbrev QYw7P_38 : Prop := ZF cells0 /\ ZF cells1 /\ ZF cells2 /\ ZF cells4 /\ ZF cells5 /\ ZF cells6 /\ ZF cells8 /\ ZF cells9 /\ ZF cells10 /\ True
abbrev QYw7P_26 (a0 : GvA) : Prop := QYw7P_6 a0.1 /\ QYw7P_7 /\ QYw7P_4 a0.1 /\ QYw7P_8 /\ ZF a0.1.11 /\ ZF a0.1.12 /\ ZF a0.1.13 /\ ZF a0.1.14 /\ ZF a0.1.15 /\ ZF a0.1.16 /\ ZF a0.1.17 /\ ZF
 a0.1.18 /\ ZF a0.2.1 /\ ZF a0.2.2 /\ ZF a0.2.3 /\ QYw7P_38
abbrev QYw7P_37 (a0 : Int) (a1 : Int) (a2 : Int) (a3 : Int) (a4 : Int) (a5 : Int) : Prop := lwin [Value.iface 1000000007 (Value.int .i64 (a0 - a1)), Value.iface 1000000007
 (Value.int .i64 (a2 - a3))] 0 2 = [Value.iface 1000000007 (Value.int .i64 a4), Value.iface 1000000007 (Value.int .i64 a5)]
abbrev QYw7P_27 (a0 : Int) (a1 : Int) (a2 : Int) (a3 : Int) : Prop := True /\ (2 <= 2 /\ 0 + 2 <= List.length [Value.iface 1000000007 (Value.int .i64 (a0 - a1)), Value.iface 1000000007
 (Value.int .i64 (a2 - a3))] /\ FlatL [Value.iface 1000000007 (Value.int .i64 (a0 - a1)), Value.iface 1000000007 (Value.int .i64 (a2 - a3))]) /\ ∃ (b0 b1 : Int), QYw7P_37 a0 a1 a2 a3
 b0 b1
abbrev QYw7P_29 (a0 : RuA) (a1 : RuA) (a2 : PoA) (a3 : PoA) (a4 : RuA) (a5 : RuA) (a6 : PoA) (a7 : PoA) (a8 : RuA) (a9 : RuA) (a10 : PoA) (a11 : PoA) (a12 : Int) (a13 : Int) : Prop
 := QYw7P_15 a0 a1 /\ QYw7P_7 /\ QYw7P_10 a0 a1 /\ QYw7P_8 /\ (True /\ FlatL a0.11 /\ a0.11 = a1.11) /\ (True /\ FlatL a0.12 /\ a0.12 = a1.12) /\ (True /\ FlatL a0.13 /\ a0.13 = a1.13) /\ (True
 /\ FlatL a0.14 /\ a0.14 = a1.14) /\ (True /\ FlatL a0.15 /\ a0.15 = a1.15) /\ (True /\ FlatL a0.16 /\ a0.16 = a1.16) /\ (True /\ FlatL a0.17 /\ a0.17 = a1.17) /\ (True /\ FlatL a0.18 /\ a0.18 =
 a1.18) /\ (True /\ FlatL a2.1 /\ a2.1 = a3.1) /\ (True /\ FlatL a2.2 /\ a2.2 = a3.2) /\ (True /\ FlatL a2.3 /\ a2.3 = a3.3) /\ QYw7P_2 a4 a5 a6 a7 a8 a9 a10 a11 a12 a13
abbrev QYw7P_30 (a0 : RuA) (a1 : PoA) (a2 : RuA) (a3 : PoA) (a4 : RuA) (a5 : PoA) : Prop := QYw7P_6 a0 /\ QYw7P_7 /\ QYw7P_4 a0 /\ QYw7P_8 /\ ZF a0.11 /\ ZF a0.12 /\ ZF a0.13 /\ ZF a0.14
 /\ ZF a0.15 /\ ZF a0.16 /\ ZF a0.17 /\ ZF a0.18 /\ ZF a1.1 /\ ZF a1.2 /\ ZF a1.3 /\ QYw7P_1 a2 a3 a4 a5
abbrev QYw7P_31 (a0 : Int) (a1 : Int) (a2 : Int) (a3 : Int) : Prop := ((false = false /\ 0 = 0 /\ 2 = 2 /\ 2 = 2) /\ True) /\ (True /\ FlatL [Value.iface 1000000007 (Value.int .i64 (a0 -
 a1)), Value.iface 1000000007 (Value.int .i64 (a2 - a3))] /\ [Value.iface 1000000007 (Value.int .i64 (a0 - a1)), Value.iface 1000000007 (Value.int .i64 (a2 - a3))] = [Value.iface
 1000000007 (Value.int .i64 (a0 - a1)), Value.iface 1000000007 (Value.int .i64 (a2 - a3))]) /\ True
abbrev QYw7P_32 (a0 : PoA) (a1 : PoA) : Prop := 0 = 0 /\ Z2 /\ Z2 /\ Z2 /\ a0.4 = a1.4 /\ a0.5 = a1.5 /\ a0.6 = a1.6 /\ a0.7
 = a1.7 /\ a0.8 = a1.8 /\ Z2 /\ True
abbrev QYw7P_33 (a0 : XyB) (a1 : XyB) : Prop := (True /\ a0.1 = a1.1 /\ a0.2 = a1.2) /\ (QYw7P_28 /\ (True /\ Z1 a0.1 /\ Z1 a0.2 /\ True) /\ (True /\ Z1 a1.1 /\ Z1 a1.2 /\ True) /\ True) /\ (∀
 (_ : Unit), True -> ∃ (_ : Unit), True /\ true = true /\ True) /\ True
abbrev QYw7P_39 (a0 : PoA) (a1 : Int) (a2 : Int) (a3 : PoA) (a4 : Int) (a5 : Int) (a6 : PoA) (a7 : Int) (a8 : Int) (a9 : RuA) (a10 : PoA) (a11 : Int) (a12 : Int) : Prop := True /\
 sumX 4 (StA.mk (OuA.mk a0.4 a0.5 a0.6 a0.7 a0.8 a1 a2) (OuA.mk a3.4 a3.5 a3.6 a3.7 a3.8 a4 a5) (OuA.mk a6.4 a6.5 a6.6 a6.7 a6.8 a7 a8) a9 a10 a11 a12) = sumX 4 (StA.mk (OuA.mk a0.4
 a0.5 a0.6 a0.7 a0.8 a1 a2) (OuA.mk a3.4 a3.5 a3.6 a3.7 a3.8 a4 a5) (OuA.mk a6.4 a6.5 a6.6 a6.7 a6.8 a7 a8) a9 a10 a11 a12) /\ sumY 4 (StA.mk (OuA.mk a0.4 a0.5 a0.6 a0.7 a0.8 a1 a2)
 (OuA.mk a3.4 a3.5 a3.6 a3.7 a3.8 a4 a5) (OuA.mk a6.4 a6.5 a6.6 a6.7 a6.8 a7 a8) a9 a10 a11 a12) = sumY 4 (StA.mk (OuA.mk a0.4 a0.5 a0.6 a0.7 a0.8 a1 a2) (OuA.mk a3.4 a3.5 a3.6 a3.7
 a3.8 a4 a5) (OuA.mk a6.4 a6.5 a6.6 a6.7 a6.8 a7 a8) a9 a10 a11 a12) /\ True
abbrev QYw7P_43 (a0 : List Value) (a1 : List Value) : Prop := True /\ FlatL a0 /\ a0 = a1
abbrev QYw7P_44 (a0 : BkA) (a1 : Int) (a2 : Int) : Prop := 0 = 0 /\ 0 = 0 /\ 0 = 0 /\ 0 = 0 /\ Value.slice a0.5 a0.6 a0.7 = Value.slice a0.5 a0.6 a0.7 /\ (↑a0.6 : Int) = (↑a0.6 : Int) /\
 a1 = a2 /\ True
abbrev QYw7P_45 (a0 : XyB) (a1 : Int) (a2 : Int) : Prop := QYw7P_28 /\ (True /\ Z1 a0.1 /\ Z1 a0.2 /\ True) /\ (True /\ a1 = a1 /\ a2 = a2 /\ True) /\ True
abbrev QYw7P_47 (a0 : PoA) (a1 : PoA) (a2 : PoA) (a3 : PoA) : Prop := 0 = 0 /\ Z2 /\ Z2 /\ Z2 /\ a0.4 = a1.4 /\ a0.5 =
 a1.5 /\ a0.6 = a1.6 /\ a0.7 = a1.7 /\ a0.8 = a1.8 /\ Z2 /\ QYw7P_32 a2 a3
abbrev QYw7P_48 (a0 : Int) (a1 : Int) (a2 : Int) : Prop := ((0 : Int) <= a0 /\ a0 < (256 : Int)) /\ ((-2147483648 : Int) <= a1 /\ a1 <= (2147483647 : Int)) /\ (0 : Int) <= a2 /\ a2 < (256 :
 Int)
abbrev QYw7P_49 (a0 : Int) (a1 : Int) (a2 : RuA) (a3 : PoA) (a4 : RuA) (a5 : PoA) (a6 : RuA) (a7 : PoA) (a8 : RuA) (a9 : PoA) : Prop := (True /\ a0 = a0 /\ a1 = a1 /\ True) /\ QYw7P_6
 a2 /\ QYw7P_7 /\ QYw7P_4 a2 /\ QYw7P_8 /\ ZF a2.11 /\ ZF a2.12 /\ ZF a2.13 /\ ZF a2.14 /\ ZF a2.15 /\ ZF a2.16 /\ ZF a2.17 /\ ZF a2.18 /\ ZF a3.1 /\ ZF a3.2 /\ ZF a3.3 /\ QYw7P_30 a4 a5 a6 a7 a8
 a9
abbrev QYw7P_52 (a0 : Int) (a1 : Int) (a2 : GvA) (a3 : Int) (a4 : Int) : Prop := a0 ≠ 0 /\ (a1 % (5 : Int) <= (2 : Int) -> 0 < a0 /\ ∃ (b0 b1 : Nat), isG a2.1 a2.2 b0 b1 /\ actG b0 b1
 a1 a3 a4 = -a0)
abbrev QYw7P_53 : Prop := (True /\ True) /\ (True /\ True) /\ (True /\ True) /\ (True /\ True) /\ QYw7P_21
abbrev QYw7P_54 (a0 : GvA) : Prop := 2 = 2 /\ Z1 a0.3 /\ Z1 a0.4 /\ True
abbrev QYw7P_55 (a0 : GvA) (a1 : Int) (a2 : Int) (a3 : Int) (a4 : PoA) : Prop := ∃ (b0 b1 b2 : Nat), isG a0.1 a0.2 b0 b1 /\ actG b0 b1 a1 a2 a3 = (↑b2 : Int) /\ isG a0.1 a4 b0 b2
abbrev QYw7P_56 (a0 : PoA) : Prop := 0 = 0 /\ 0 = 0 /\ QYw7P_16 a0 /\ Z2 /\ True
abbrev QYw7P_57 (a0 : Int) (a1 : Int) (a2 : Int) (a3 : Int) (a4 : Option Addr) (a5 : Nat) (a6 : Nat) : Prop := 0 = 0 /\ (a0 = a0 /\ a1 = a1 /\ a2 = a2 /\ a3 = a3 /\ Value.slice a4 a5 a6
 = Value.slice a4 a5 a6 /\ True) /\ True
abbrev QYw7P_58 (a0 : PoA) (a1 : Int) (a2 : Int) : Prop := (0 = 0 /\ True) /\ (True /\ (0 = 0 /\ 1 = 1 /\ 1 = 1) /\ True) /\ (1 = 1 /\ QYw7P_24 a0) /\ (2 = 2 /\ a1 = a1 /\ a2 = a2 /\ True) /\
 (True /\ True) /\ (True /\ True) /\ (True /\ True) /\ (True /\ True) /\ True
abbrev QYw7P_59 (a0 : GvA) (a1 : Int) (a2 : Int) : Prop := 2 = 2 /\ a0.3 = a1 /\ a0.4 = a2 /\ True
abbrev QYw7P_60 (a0 : GvA) : Prop := (True /\ True) /\ (True /\ True) /\ (True /\ True) /\ (True /\ True) /\ QYw7P_26 a0
abbrev QYw7P_61 (a0 : RuA) (a1 : PoA) (a2 : Int) (a3 : Int) (a4 : Int) (a5 : Int) (a6 : Int) : Prop := (∃ (b0 b1 : Nat), isG a0 a1 b0 b1 /\ turnG b0 b1 < (0 : Int) /\ a2 = (10 :
 Int)) ∨ onG a0 a1 /\ ¬(a3 <= a4 /\ a5 <= a6) /\ a2 = (21 : Int)
abbrev QYw7P_62 (a0 : BkA) (a1 : BkB) : Prop := monJ 1 (MnA.mk a0.1 a0.3 a0.4 a0.5 a0.6 a0.7) (MnB.mk a1.1 a1.2) /\ stQ a1.3 a1.4
abbrev QYw7P_63 (a0 : PoA) (a1 : PoA) (a2 : PoA) (a3 : PoA) (a4 : PoA) (a5 : PoA) : Prop := 0 = 0 /\ Z2 /\ Z2 /\ Z2 /\
 a0.4 = a1.4 /\ a0.5 = a1.5 /\ a0.6 = a1.6 /\ a0.7 = a1.7 /\ a0.8 = a1.8 /\ Z2 /\ QYw7P_47 a2 a3 a4 a5
theorem vc_lsame (a : S4A) : G_lsame a = ((a.1 ≠ a.3 -> (∃ (_ : Unit), True /\ true = false /\ True)) /\ (¬(a.1 ≠ a.3) -> (a.2 ≠ a.4 -> (∃ (_ : Unit), True /\ true = false /\ True)) /\ (¬(a.2 ≠ a.4) -> ∃ (_ : Unit), True /\ true =
true /\ True))) := by kernel_rfl
theorem g_lsame (a : S4A) (hx : a.x = a.u) (hy : a.y = a.v) : GW (G_lsame a) := by
 refine ⟨?_⟩
 rw [vc_lsame]
 (repeat(apply And.intro;focus(and_intros<;>first|trivial|rfl)))
 refine ⟨fun h => absurd hx h, fun _ => ?_⟩
 (repeat(apply And.intro;focus(and_intros<;>first|trivial|rfl)))
 refine ⟨fun h => absurd hy h, fun _ => ?_⟩
 (repeat(apply And.intro;focus(and_intros<;>first|trivial|rfl)))
 refine ⟨(), ?_⟩
 (and_intros<;>first|trivial|rfl)
theorem s_lsame : SpecOK Tryz.prog S_lsame.spec := fun a => specG_at (an := []) envOK (cwX_ok (fun _ h => h) 2) fun hp => g_lsame a hp.1 hp.2
noncomputable section
def W_G_back_0 : BkA -> Option Addr := fun (a : BkA) => a.5
def W_G_back_1 : Nat -> Nat -> Option Addr := fun (a b : Nat) => some (Addr.mk a b none)
def W_G_back_2 : BkB -> Option AO := fun (a : BkB) => some (AO.row [Zp 14 0, sc 26 2, sc 27 2, sc 28 2, tgI .i64 a.1.1.2.4, tgI .i64 a.1.1.2.5, tgI .i64 a.1.1.2.6, tgI .i64
 a.1.1.2.7, tgI .u64 a.1.1.2.8, sc 29 2] 83 (Md.grown 1))
def W_G_back_3 : BkB -> Option AO := fun (a : BkB) => some (AO.row [Zp 14 0, sc 100 2, sc 101 2, sc 102 2, tgI .i64 a.1.1.2.4, tgI .i64 a.1.1.2.5, tgI .i64 a.1.1.2.6, tgI
 .i64 a.1.1.2.7, tgI .u64 a.1.1.2.8, sc 103 2] 83 Md.own)
def W_G_back_4 : BkB -> Option AO := fun (a : BkB) => some (AO.row [Zp 14 0, sc 26 2, sc 27 2, sc 28 2, tgI .i64 a.1.1.2.4, tgI .i64 a.1.1.2.5, tgI .i64 a.1.1.2.6, tgI .i64
 a.1.1.2.7, tgI .u64 a.1.1.2.8, sc 29 2, Zp 78 0, sc 108 2, Value.slice (some (Addr.mk (Nat.add 107 (Nat.sub (46 + 1 + 1) 46)) 0 none)) 2 2, Value.slice (some (Addr.mk (Nat.add
 107 (Nat.sub (46 + 1 + 2) 46)) 0 none)) 2 2, tgI .i64 a.4.4, tgI .i64 a.4.5, tgI .i64 a.4.6, tgI .i64 a.4.7, tgI .u64 a.4.8, sc 111 2] 83 (Md.grown 2))
def W_G_back_5 : BkB -> Option AO := fun (a : BkB) => some (AO.row [Zp 78 0, sc 114 2, sc 115 2, sc 116 2, tgI .i64 a.4.4, tgI .i64 a.4.5, tgI .i64 a.4.6, tgI .i64 a.4.7,
 tgI .u64 a.4.8, sc 117 2] 83 Md.own)
def W_G_back_6 : BkB -> Option AO := fun (a : BkB) => some (AO.row [Zp 14 0, sc 123 2, sc 124 2, sc 125 2, tgI .i64 a.1.1.2.4, tgI .i64 a.1.1.2.5, tgI .i64 a.1.1.2.6, tgI
 .i64 a.1.1.2.7, tgI .u64 a.1.1.2.8, sc 126 2] 83 Md.own)
def W_G_back_7 : BkB -> Option AO := fun (a : BkB) => some (AO.row [Value.int .u8 a.1.1.1.19.1, Value.int .u8 a.1.1.1.19.2, Value.int .u8 a.1.1.1.19.3, Value.int .u8
 a.1.1.1.19.4, Value.int .u8 a.1.1.1.19.5, Value.int .u8 a.1.1.1.19.6, Value.int .u8 a.1.1.1.19.7, Value.int .u8 a.1.1.1.19.8, sc 123 2, sc 124 2, sc 125 2, tgI .i64
 a.1.1.2.4, tgI .i64 a.1.1.2.5, tgI .i64 a.1.1.2.6, tgI .i64 a.1.1.2.7, tgI .u64 a.1.1.2.8, sc 126 2] 49 Md.own)
def W_G_back_8 : BkB -> Option AO := fun (a : BkB) => some (AO.row [Zp 14 0, sc 111 2, sc 112 2, sc 113 2, tgI .i64 a.1.1.2.4, tgI .i64 a.1.1.2.5, tgI .i64 a.1.1.2.6, tgI
 .i64 a.1.1.2.7, tgI .u64 a.1.1.2.8, sc 114 2] 83 Md.own)
def W_G_back_9 : BkB -> Option AO := fun (a : BkB) => some (AO.row [Zp 14 0, sc 26 2, sc 27 2, sc 28 2, tgI .i64 a.1.1.2.4, tgI .i64 a.1.1.2.5, tgI .i64 a.1.1.2.6, tgI .i64
 a.1.1.2.7, tgI .u64 a.1.1.2.8, sc 29 2, Zp 30 0, sc 42 2, sc 43 2, sc 44 2, tgI .i64 a.1.2.2.4, tgI .i64 a.1.2.2.5, tgI .i64 a.1.2.2.6, tgI .i64 a.1.2.2.7, tgI .u64
 a.1.2.2.8, sc 45 2] 83 (Md.grown 2))
def W_G_back_10 : BkB -> Option AO := fun (a : BkB) => some (AO.row [Zp 30 0, sc 100 2, sc 101 2, sc 102 2, tgI .i64 a.1.2.2.4, tgI .i64 a.1.2.2.5, tgI .i64 a.1.2.2.6, tgI
 .i64 a.1.2.2.7, tgI .u64 a.1.2.2.8, sc 103 2] 83 Md.own)
def W_G_back_11 : BkB -> Option AO := fun (a : BkB) => some (AO.row [Zp 14 0, sc 26 2, sc 27 2, sc 28 2, tgI .i64 a.1.1.2.4, tgI .i64 a.1.1.2.5, tgI .i64 a.1.1.2.6, tgI .i64
 a.1.1.2.7, tgI .u64 a.1.1.2.8, sc 29 2, Zp 30 0, sc 42 2, sc 43 2, sc 44 2, tgI .i64 a.1.2.2.4, tgI .i64 a.1.2.2.5, tgI .i64 a.1.2.2.6, tgI .i64 a.1.2.2.7, tgI .u64
 a.1.2.2.8, sc 45 2, Zp 78 0, sc 108 2, Value.slice (some (Addr.mk (Nat.add 107 (Nat.sub (62 + 1 + 1) 62)) 0 none)) 2 2, Value.slice (some (Addr.mk (Nat.add 107 (Nat.sub (62 + 1 +
 2) 62)) 0 none)) 2 2, tgI .i64 a.4.4, tgI .i64 a.4.5, tgI .i64 a.4.6, tgI .i64 a.4.7, tgI .u64 a.4.8, sc 111 2] 83 (Md.grown 3))
def W_G_back_12 : BkB -> Option AO := fun (a : BkB) => some (AO.row [Zp 78 0, sc 114 2, sc 115 2, sc 116 2, tgI .i64 a.4.4, tgI .i64 a.4.5, tgI .i64 a.4.6, tgI .i64 a.4.7,
 tgI .u64 a.4.8, sc 117 2] 83 Md.own)
def W_G_back_13 : BkB -> Option AO := fun (a : BkB) => some (AO.row [Zp 30 0, sc 123 2, sc 124 2, sc 125 2, tgI .i64 a.1.2.2.4, tgI .i64 a.1.2.2.5, tgI .i64 a.1.2.2.6, tgI
 .i64 a.1.2.2.7, tgI .u64 a.1.2.2.8, sc 126 2] 83 Md.own)
def W_G_back_14 : BkB -> Option AO := fun (a : BkB) => some (AO.row [Value.int .u8 a.1.2.1.19.1, Value.int .u8 a.1.2.1.19.2, Value.int .u8 a.1.2.1.19.3, Value.int .u8
 a.1.2.1.19.4, Value.int .u8 a.1.2.1.19.5, Value.int .u8 a.1.2.1.19.6, Value.int .u8 a.1.2.1.19.7, Value.int .u8 a.1.2.1.19.8, sc 123 2, sc 124 2, sc 125 2, tgI .i64
 a.1.2.2.4, tgI .i64 a.1.2.2.5, tgI .i64 a.1.2.2.6, tgI .i64 a.1.2.2.7, tgI .u64 a.1.2.2.8, sc 126 2] 49 Md.own)
def W_G_back_15 : BkB -> Option AO := fun (a : BkB) => some (AO.row [Zp 30 0, sc 111 2, sc 112 2, sc 113 2, tgI .i64 a.1.2.2.4, tgI .i64 a.1.2.2.5, tgI .i64 a.1.2.2.6, tgI
 .i64 a.1.2.2.7, tgI .u64 a.1.2.2.8, sc 114 2] 83 Md.own)
def W_G_back_16 : BkB -> Option AO := fun (a : BkB) => some (AO.row [Zp 14 0, sc 26 2, sc 27 2, sc 28 2, tgI .i64 a.1.1.2.4, tgI .i64 a.1.1.2.5, tgI .i64 a.1.1.2.6, tgI
 .i64 a.1.1.2.7, tgI .u64 a.1.1.2.8, sc 29 2, Zp 30 0, sc 42 2, sc 43 2, sc 44 2, tgI .i64 a.1.2.2.4, tgI .i64 a.1.2.2.5, tgI .i64 a.1.2.2.6, tgI .i64 a.1.2.2.7,
 tgI .u64 a.1.2.2.8, sc 45 2, Zp 46 0, sc 58 2, sc 59 2, sc 60 2, tgI .i64 a.1.3.2.4, tgI .i64 a.1.3.2.5, tgI .i64 a.1.3.2.6, tgI .i64 a.1.3.2.7, tgI .u64
 a.1.3.2.8, sc 61 2] 83 (Md.grown 3))
def W_G_back_17 : BkB -> Option AO := fun (a : BkB) => some (AO.row [Zp 46 0, sc 100 2, sc 101 2, sc 102 2, tgI .i64 a.1.3.2.4, tgI .i64 a.1.3.2.5, tgI .i64 a.1.3.2.6,
 tgI .i64 a.1.3.2.7, tgI .u64 a.1.3.2.8, sc 103 2] 83 Md.own)
def W_G_back_18 : BkB -> Option AO := fun (a : BkB) => some (AO.row [Zp 14 0, sc 26 2, sc 27 2, sc 28 2, tgI .i64 a.1.1.2.4, tgI .i64 a.1.1.2.5, tgI .i64 a.1.1.2.6, tgI
 .i64 a.1.1.2.7, tgI .u64 a.1.1.2.8, sc 29 2, Zp 30 0, sc 42 2, sc 43 2, sc 44 2, tgI .i64 a.1.2.2.4, tgI .i64 a.1.2.2.5, tgI .i64 a.1.2.2.6, tgI .i64 a.1.2.2.7,
 tgI .u64 a.1.2.2.8, sc 45 2, Zp 46 0, sc 58 2, sc 59 2, sc 60 2, tgI .i64 a.1.3.2.4, tgI .i64 a.1.3.2.5, tgI .i64 a.1.3.2.6, tgI .i64 a.1.3.2.7, tgI .u64
 a.1.3.2.8, sc 61 2, Zp 78 0, sc 108 2, Value.slice (some (Addr.mk (Nat.add 107 (Nat.sub (78 + 1 + 1) 78)) 0 none)) 2 2, Value.slice (some (Addr.mk (Nat.add 107 (Nat.sub (78 + 1
 + 2) 78)) 0 none)) 2 2, tgI .i64 a.4.4, tgI .i64 a.4.5, tgI .i64 a.4.6, tgI .i64 a.4.7, tgI .u64 a.4.8, sc 111 2] 83 (Md.grown 4))
def W_G_back_19 : BkB -> Option AO := fun (a : BkB) => some (AO.row [Zp 78 0, sc 114 2, sc 115 2, sc 116 2, tgI .i64 a.4.4, tgI .i64 a.4.5, tgI .i64 a.4.6, tgI .i64
 a.4.7, tgI .u64 a.4.8, sc 117 2] 83 Md.own)
def W_G_back_20 : BkB -> Option AO := fun (a : BkB) => some (AO.row [Zp 46 0, sc 123 2, sc 124 2, sc 125 2, tgI .i64 a.1.3.2.4, tgI .i64 a.1.3.2.5, tgI .i64 a.1.3.2.6,
 tgI .i64 a.1.3.2.7, tgI .u64 a.1.3.2.8, sc 126 2] 83 Md.own)
def W_G_back_21 : BkB -> Option AO := fun (a : BkB) => some (AO.row [Value.int .u8 a.1.3.1.19.1, Value.int .u8 a.1.3.1.19.2, Value.int .u8 a.1.3.1.19.3, Value.int .u8
 a.1.3.1.19.4, Value.int .u8 a.1.3.1.19.5, Value.int .u8 a.1.3.1.19.6, Value.int .u8 a.1.3.1.19.7, Value.int .u8 a.1.3.1.19.8, sc 123 2, sc 124 2, sc 125 2, tgI .i64
 a.1.3.2.4, tgI .i64 a.1.3.2.5, tgI .i64 a.1.3.2.6, tgI .i64 a.1.3.2.7, tgI .u64 a.1.3.2.8, sc 126 2] 49 Md.own)
def W_G_back_22 : BkB -> Option AO := fun (a : BkB) => some (AO.row [Zp 46 0, sc 111 2, sc 112 2, sc 113 2, tgI .i64 a.1.3.2.4, tgI .i64 a.1.3.2.5, tgI .i64 a.1.3.2.6,
 tgI .i64 a.1.3.2.7, tgI .u64 a.1.3.2.8, sc 114 2] 83 Md.own)
def W_G_back_23 : BkB -> Option AO := fun (a : BkB) => some (AO.row [Zp 14 0, sc 26 2, sc 27 2, sc 28 2, tgI .i64 a.1.1.2.4, tgI .i64 a.1.1.2.5, tgI .i64 a.1.1.2.6, tgI
 .i64 a.1.1.2.7, tgI .u64 a.1.1.2.8, sc 29 2, Zp 30 0, sc 42 2, sc 43 2, sc 44 2, tgI .i64 a.1.2.2.4, tgI .i64 a.1.2.2.5, tgI .i64 a.1.2.2.6, tgI .i64 a.1.2.2.7,
 tgI .u64 a.1.2.2.8, sc 45 2, Zp 46 0, sc 58 2, sc 59 2, sc 60 2, tgI .i64 a.1.3.2.4, tgI .i64 a.1.3.2.5, tgI .i64 a.1.3.2.6, tgI .i64 a.1.3.2.7, tgI .u64
 a.1.3.2.8, sc 61 2, Zp 62 0, sc 74 2, sc 75 2, sc 76 2, tgI .i64 a.1.4.2.4, tgI .i64 a.1.4.2.5, tgI .i64 a.1.4.2.6, tgI .i64 a.1.4.2.7, tgI .u64 a.1.4.2.8, sc 77
 2] 83 (Md.grown 4))
def W_G_back_24 : BkB -> Option AO := fun (a : BkB) => some (AO.row [Zp 62 0, sc 100 2, sc 101 2, sc 102 2, tgI .i64 a.1.4.2.4, tgI .i64 a.1.4.2.5, tgI .i64 a.1.4.2.6,
 tgI .i64 a.1.4.2.7, tgI .u64 a.1.4.2.8, sc 103 2] 83 Md.own)
def TA1 (u0 : Int) (u1 : BkA) (u2 : PoA) (u3 : Int) (u4 : Int) (u5 : RuA) (u6 : RuA) (u7 : PoA) : Prop := ∀ (b0 : Int), b0 = IntKind.wrap .i64 (u0 + (1 : Int)) -> ∃ (b1 : BkB), QYw7P_62 u1 b1 /\ Int.toNat ((↑u1.6 : Int) - b1.2) < Int.toNat ((↑u1.6 : Int) - u0) /\ QYw7P_44 u1 b1.2 b0 /\
 ((True /\ (0 = 0 /\ 1 = 1 /\ 1 = 1) /\ True) /\ (1 = 1 /\ QYw7P_32 b1.1.1.2 u2) /\ QYw7P_59 b1.1.1 u3 u4 /\ QYw7P_2 b1.1.1.1 u5 b1.1.1.2 u2 b1.3 u6 b1.4 u7 u1.8 u1.9) /\ True
set_option maxHeartbeats 3200000 in
def TA2 (u0 : Int) (u1 : BkA) (u2 : PoA) (u3 : PoA) (u4 : Int) (u5 : Int) (u6 : Int) (u7 : Int) (u8 : RuA) (u9 : RuA) (u10 : RuA) (u11 : PoA) : Prop := ∀ (b0 : Int), b0 = IntKind.wrap .i64 (u0 + (1 : Int)) -> ∃ (b1 : BkB), (monJ 2 (MnA.mk u1.1 u1.3 u1.4 u1.5 u1.6 u1.7) (MnB.mk b1.1 b1.2) /\ stQ b1.3 b1.4) /\ Int.toNat ((↑u1.6 : Int)
 - b1.2) < Int.toNat ((↑u1.6 : Int) - u0) /\ QYw7P_44 u1 b1.2 b0 /\ ((True /\ Z2 /\ True) /\ (2 = 2 /\ QYw7P_47 b1.1.1.2 u2 b1.1.2.2 u3) /\ QYw7P_59 b1.1.1 u4 u5 /\
 QYw7P_59 b1.1.2 u6 u7 /\ QYw7P_29 b1.1.1.1 u8 b1.1.1.2 u2 b1.1.2.1 u9 b1.1.2.2 u3 b1.3 u10 b1.4 u11 u1.8 u1.9) /\ True
set_option maxHeartbeats 3200000 in
def TA3 (u0 : Int) (u1 : BkA) (u2 : PoA) (u3 : PoA) (u4 : PoA) (u5 : Int) (u6 : Int) (u7 : Int) (u8 : Int) (u9 : Int) (u10 : Int) (u11 : RuA) (u12 : RuA) (u13 : RuA) (u14 : RuA)
 (u15 : PoA) : Prop := ∀ (b0 : Int), b0 = IntKind.wrap .i64 (u0 + (1 : Int)) -> ∃ (b1 : BkB), (monJ 3 (MnA.mk u1.1 u1.3 u1.4 u1.5 u1.6 u1.7) (MnB.mk b1.1 b1.2) /\ stQ b1.3 b1.4) /\ Int.toNat ((↑u1.6 : Int)
 - b1.2) < Int.toNat ((↑u1.6 : Int) - u0) /\ QYw7P_44 u1 b1.2 b0 /\ ((True /\ (0 = 0 /\ 3 = 3 /\ 3 = 3) /\ True) /\ (3 = 3 /\ QYw7P_63 b1.1.1.2 u2 b1.1.2.2 u3 b1.1.3.2 u4) /\ QYw7P_59 b1.1.1
 u5 u6 /\ QYw7P_59 b1.1.2 u7 u8 /\ QYw7P_59 b1.1.3 u9 u10 /\ QYw7P_15 b1.1.1.1 u11 /\ QYw7P_7 /\ QYw7P_10 b1.1.1.1 u11 /\ QYw7P_8 /\ QYw7P_43 b1.1.1.1.11 u11.11 /\ QYw7P_43 b1.1.1.1.12
 u11.12 /\ QYw7P_43 b1.1.1.1.13 u11.13 /\ QYw7P_43 b1.1.1.1.14 u11.14 /\ QYw7P_43 b1.1.1.1.15 u11.15 /\ QYw7P_43 b1.1.1.1.16 u11.16 /\ QYw7P_43 b1.1.1.1.17 u11.17 /\ QYw7P_43 b1.1.1.1.18
 u11.18 /\ QYw7P_43 b1.1.1.2.1 u2.1 /\ QYw7P_43 b1.1.1.2.2 u2.2 /\ QYw7P_43 b1.1.1.2.3 u2.3 /\ QYw7P_29 b1.1.2.1 u12 b1.1.2.2 u3 b1.1.3.1 u13 b1.1.3.2 u4 b1.3 u14 b1.4 u15 u1.8 u1.9) /\
 True
set_option maxHeartbeats 3200000 in
def TA4 (u0 : Int) (u1 : BkA) (u2 : PoA) (u3 : PoA) (u4 : PoA) (u5 : PoA) (u6 : Int) (u7 : Int) (u8 : Int) (u9 : Int) (u10 : Int) (u11 : Int) (u12 : Int) (u13 : Int) (u14 : RuA)
 (u15 : RuA) (u16 : RuA) (u17 : RuA) (u18 : RuA) (u19 : PoA) : Prop := ∀ (b0 : Int), b0 = IntKind.wrap .i64 (u0 + (1 : Int)) -> ∃ (b1 : BkB), (monJ 4 (MnA.mk u1.1 u1.3 u1.4 u1.5 u1.6 u1.7) (MnB.mk b1.1 b1.2) /\ stQ b1.3 b1.4) /\ Int.toNat ((↑u1.6 : Int)
 - b1.2) < Int.toNat ((↑u1.6 : Int) - u0) /\ QYw7P_44 u1 b1.2 b0 /\ ((True /\ (0 = 0 /\ 4 = 4 /\ 4 = 4) /\ True) /\ (4 = 4 /\ 0 = 0 /\ Z2 /\ Z2 /\ (0
 = 0 /\ 2 = 2 /\ 2 = 2) /\ b1.1.1.2.4 = u2.4 /\ b1.1.1.2.5 = u2.5 /\ b1.1.1.2.6 = u2.6 /\ b1.1.1.2.7 = u2.7 /\ b1.1.1.2.8 = u2.8 /\ Z2 /\ QYw7P_63 b1.1.2.2 u3 b1.1.3.2
 u4 b1.1.4.2 u5) /\ QYw7P_59 b1.1.1 u6 u7 /\ QYw7P_59 b1.1.2 u8 u9 /\ QYw7P_59 b1.1.3 u10 u11 /\ QYw7P_59 b1.1.4 u12 u13 /\ QYw7P_15 b1.1.1.1 u14 /\ QYw7P_7 /\ QYw7P_10 b1.1.1.1 u14 /\
 QYw7P_8 /\ QYw7P_43 b1.1.1.1.11 u14.11 /\ QYw7P_43 b1.1.1.1.12 u14.12 /\ QYw7P_43 b1.1.1.1.13 u14.13 /\ QYw7P_43 b1.1.1.1.14 u14.14 /\ QYw7P_43 b1.1.1.1.15 u14.15 /\ QYw7P_43 b1.1.1.1.16
 u14.16 /\ QYw7P_43 b1.1.1.1.17 u14.17 /\ QYw7P_43 b1.1.1.1.18 u14.18 /\ QYw7P_43 b1.1.1.2.1 u2.1 /\ QYw7P_43 b1.1.1.2.2 u2.2 /\ QYw7P_43 b1.1.1.2.3 u2.3 /\ QYw7P_15 b1.1.2.1 u15 /\
 QYw7P_7 /\ QYw7P_10 b1.1.2.1 u15 /\ QYw7P_8 /\ QYw7P_43 b1.1.2.1.11 u15.11 /\ QYw7P_43 b1.1.2.1.12 u15.12 /\ QYw7P_43 b1.1.2.1.13 u15.13 /\ QYw7P_43 b1.1.2.1.14 u15.14 /\ QYw7P_43
 b1.1.2.1.15 u15.15 /\ QYw7P_43 b1.1.2.1.16 u15.16 /\ QYw7P_43 b1.1.2.1.17 u15.17 /\ QYw7P_43 b1.1.2.1.18 u15.18 /\ QYw7P_43 b1.1.2.2.1 u3.1 /\ QYw7P_43 b1.1.2.2.2 u3.2 /\ QYw7P_43
 b1.1.2.2.3 u3.3 /\ QYw7P_29 b1.1.3.1 u16 b1.1.3.2 u4 b1.1.4.1 u17 b1.1.4.2 u5 b1.3 u18 b1.4 u19 u1.8 u1.9) /\ True
set_option maxHeartbeats 3200000 in
def RL1 (u0 : Int) (u1 : Int) (u2 : PoA) (u3 : RuA) (u4 : BkA) (u5 : Option AO) (u6 : Option AO) (u7 : Option AO) (u8 : Option AO) (u9 : Option AO) (u10 : RuA) (u11 : PoA) (u12 :
 Option AO) (u13 : Option AO) (u14 : Option AO) (u15 : Option AO) (u16 : Option AO) (u17 : Option AO) (u18 : Option AO) (u19 : Option AO) (u20 : Option AO) (u21 : Option AO) (u22 :
 Option AO) (u23 : Option AO) (u24 : Option AO) (u25 : Option AO) (u26 : Option AO) (u27 : Option AO) : Prop := (True /\ (smQ u0 /\ smQ u1) /\ True) /\ QYw7P_58 u2 u0 u1 /\ (∀ (_ : Unit), True -> (True /\ isGx u3 u2 /\ smQ u0 /\ smQ u1) /\ ((0 = 0 /\ True) /\ (True /\ (0 = 0 /\ 1 = 1 /\ 1 = 1) /\ True) /\
 (True /\ QYw7P_24 u2) /\ (True /\ u0 = u0 /\ u1 = u1 /\ True) /\ QYw7P_46 u3 u2) /\ (∀ (b1 : XyB), PayD 0 (PyA.mk (GvA.mk u3 u2 u0 u1) (GvA.mk u3 u2 u0 u1) (GvA.mk u3 u2 u0 u1) (GvA.mk u3
 u2 u0 u1)) b1 -> ∀ (b2 : Int), b2 = IntKind.wrap .i64 u4.8 -> ∀ (b3 : Int), b3 = IntKind.wrap .i64 u4.9 -> QYw7P_25 u2 /\ QYw7P_36 u2 /\ (∀ (_ : Unit), True -> QYw7P_9 u0 u1 /\ QYw7P_12
 u0 u1 /\ (∀ (b5 : XyB), QYw7P_19 u0 u1 b5.1 b5.2 -> QYw7P_14 u5 u6 u7 /\ QYw7P_23 u8 u9 /\ (True /\ (isGx u3 u2 /\ isGx u10 u11) /\ (smQ u0 /\ smQ u1) /\ smQ b2 /\ smQ b3) /\ (QYw7P_56 u11 /\
 (True /\ b2 = b2 /\ b3 = b3 /\ True) /\ (True /\ (0 = 0 /\ 1 = 1 /\ 1 = 1) /\ True) /\ (1 = 1 /\ QYw7P_24 u2) /\ (2 = 2 /\ u0 = u0 /\ u1 = u1 /\ True) /\ QYw7P_1 u3 u2 u10 u11) /\ (∀ (_ : Unit),
 onG u3 u2 /\ b2 <= u0 /\ b3 <= u1 -> QYw7P_25 u11 /\ QYw7P_36 u11 /\ (∀ (_ : Unit), True -> QYw7P_9 b2 b3 /\ QYw7P_12 b2 b3 /\ (∀ (b8 : XyB), QYw7P_19 b2 b3 b8.1 b8.2 -> QYw7P_14 u12 u13 u14
 /\ QYw7P_23 u15 u16 /\ QYw7P_25 u2 /\ QYw7P_36 u2 /\ (∀ (_ : Unit), True -> QYw7P_27 u0 b2 u1 b3 /\ QYw7P_31 u0 b2 u1 b3 /\ (∀ (b10 : XyB), QYw7P_37 u0 b2 u1 b3 b10.1 b10.2 -> QYw7P_14 u17
 u18 u19 /\ QYw7P_23 u20 u21 /\ (True /\ b8.1 = b2 /\ b8.2 = b3) /\ QYw7P_45 b8 b2 b3 /\ (∀ (_ : Unit), True -> ∀ (b12 : Int), b12 = IntKind.wrap .i64 (b5.1 - b2) -> ∀ (b13 : Int), b13 =
 IntKind.wrap .i64 (b5.2 - b3) -> (True /\ b10.1 = b12 /\ b10.2 = b13) /\ QYw7P_45 b10 b12 b13 /\ (∀ (_ : Unit), True -> (True /\ (smQ b2 /\ smQ b3) /\ smQ (u0 - b2) /\ smQ (u1 - b3)) /\ ((0 =
 0 /\ True) /\ (True /\ Z2 /\ True) /\ (2 = 2 /\ QYw7P_3 u2 u11) /\ (2 = 2 /\ u0 - b2 = u0 - b2 /\ u1 - b3 = u1 - b3 /\ True) /\ (2 = 2 /\ b2 = b2 /\ b3 = b3 /\ True) /\
 QYw7P_40) /\ (∀ (_ : Unit), True -> (True /\ sumX 2 (StA.mk (OuA.mk u2.4 u2.5 u2.6 u2.7 u2.8 (u0 - b2) (u1 - b3)) (OuA.mk (0 : Int) (0 : Int) (0 : Int) (0 : Int) (0 : Int) (0 : Int)
 (0 : Int)) (OuA.mk (0 : Int) (0 : Int) (0 : Int) (0 : Int) (0 : Int) (0 : Int) (0 : Int)) u10 u11 b2 b3) = sumX 1 (StA.mk (OuA.mk (0 : Int) (0 : Int) (0 : Int) (0 : Int) (0 : Int)
 (0 : Int) (0 : Int)) (OuA.mk (0 : Int) (0 : Int) (0 : Int) (0 : Int) (0 : Int) (0 : Int) (0 : Int)) (OuA.mk (0 : Int) (0 : Int) (0 : Int) (0 : Int) (0 : Int) (0 : Int) (0 : Int))
 u3 u2 u0 u1) /\ sumY 2 (StA.mk (OuA.mk u2.4 u2.5 u2.6 u2.7 u2.8 (u0 - b2) (u1 - b3)) (OuA.mk (0 : Int) (0 : Int) (0 : Int) (0 : Int) (0 : Int) (0 : Int) (0 : Int)) (OuA.mk (0 : Int)
 (0 : Int) (0 : Int) (0 : Int) (0 : Int) (0 : Int) (0 : Int)) u10 u11 b2 b3) = sumY 1 (StA.mk (OuA.mk (0 : Int) (0 : Int) (0 : Int) (0 : Int) (0 : Int) (0 : Int) (0 : Int)) (OuA.mk
 (0 : Int) (0 : Int) (0 : Int) (0 : Int) (0 : Int) (0 : Int) (0 : Int)) (OuA.mk (0 : Int) (0 : Int) (0 : Int) (0 : Int) (0 : Int) (0 : Int) (0 : Int)) u3 u2 u0 u1)) /\ (QYw7P_28 /\
 (True /\ sumX 2 (StA.mk (OuA.mk u2.4 u2.5 u2.6 u2.7 u2.8 (u0 - b2) (u1 - b3)) (OuA.mk (0 : Int) (0 : Int) (0 : Int) (0 : Int) (0 : Int) (0 : Int) (0 : Int)) (OuA.mk (0 : Int) (0 :
 Int) (0 : Int) (0 : Int) (0 : Int) (0 : Int) (0 : Int)) u10 u11 b2 b3) = sumX 2 (StA.mk (OuA.mk u2.4 u2.5 u2.6 u2.7 u2.8 (u0 - b2) (u1 - b3)) (OuA.mk (0 : Int) (0 : Int) (0 : Int)
 (0 : Int) (0 : Int) (0 : Int) (0 : Int)) (OuA.mk (0 : Int) (0 : Int) (0 : Int) (0 : Int) (0 : Int) (0 : Int) (0 : Int)) u10 u11 b2 b3) /\ sumY 2 (StA.mk (OuA.mk u2.4 u2.5 u2.6 u2.7
 u2.8 (u0 - b2) (u1 - b3)) (OuA.mk (0 : Int) (0 : Int) (0 : Int) (0 : Int) (0 : Int) (0 : Int) (0 : Int)) (OuA.mk (0 : Int) (0 : Int) (0 : Int) (0 : Int) (0 : Int) (0 : Int) (0 :
 Int)) u10 u11 b2 b3) = sumY 2 (StA.mk (OuA.mk u2.4 u2.5 u2.6 u2.7 u2.8 (u0 - b2) (u1 - b3)) (OuA.mk (0 : Int) (0 : Int) (0 : Int) (0 : Int) (0 : Int) (0 : Int) (0 : Int)) (OuA.mk
 (0 : Int) (0 : Int) (0 : Int) (0 : Int) (0 : Int) (0 : Int) (0 : Int)) u10 u11 b2 b3) /\ True) /\ QYw7P_13 u3 u2 u0 u1 /\ True) /\ (∀ (_ : Unit), True -> (True /\ (isGx u3 u2 /\ smQ (u0 -
 b2) /\ smQ (u1 - b3)) /\ isGx u10 u11 /\ smQ b2 /\ smQ b3) /\ ((0 = 0 /\ True) /\ (True /\ Z2 /\ True) /\ (True /\ QYw7P_3 u2 u11) /\ (True /\ u0 - b2 = u0 - b2 /\ u1 - b3 =
 u1 - b3 /\ True) /\ (True /\ b2 = b2 /\ b3 = b3 /\ True) /\ QYw7P_1 u3 u2 u10 u11) /\ (∀ (b17 : XyB), PayD 1 (PyA.mk (GvA.mk u3 u2 (u0 - b2) (u1 - b3)) (GvA.mk u10 u11 b2 b3) (GvA.mk u3
 u2 (u0 - b2) (u1 - b3)) (GvA.mk u3 u2 (u0 - b2) (u1 - b3))) b17 -> QYw7P_20 b17 b1 u22) /\ True) /\ True) /\ True) /\ True) /\ True) /\ True) /\ True) /\ True) /\ True) /\ (∀ (b6 : TnB),
 QYw7P_61 u3 u2 b6.1 b2 u0 b3 u1 -> (b6.1 ≠ (0 : Int) -> (True /\ (smQ u0 /\ smQ u1) /\ True) /\ QYw7P_58 u2 u0 u1 /\ (∀ (_ : Unit), True -> (True /\ QYw7P_34 u3 u2 u0 u1 /\ QYw7P_35 u3 u2 u0
 u1) /\ (QYw7P_28 /\ QYw7P_13 u3 u2 u0 u1 /\ QYw7P_13 u3 u2 u0 u1 /\ True) /\ (∀ (_ : Unit), True -> (True /\ isGx u3 u2 /\ smQ u0 /\ smQ u1) /\ ((0 = 0 /\ True) /\ (True /\ (0 = 0 /\ 1 = 1 /\ 1 =
 1) /\ True) /\ (True /\ QYw7P_24 u2) /\ (True /\ u0 = u0 /\ u1 = u1 /\ True) /\ QYw7P_46 u3 u2) /\ (∀ (b9 : XyB), PayD 0 (PyA.mk (GvA.mk u3 u2 u0 u1) (GvA.mk u3 u2 u0 u1) (GvA.mk u3 u2 u0
 u1) (GvA.mk u3 u2 u0 u1)) b9 -> QYw7P_33 b9 b1) /\ True) /\ True) /\ True) /\ QYw7P_5 b6.1 u2 u0 u1 u23 u24 u25 u26 u27) /\ True) /\ True) /\ True) /\ True) /\ True
set_option maxHeartbeats 3200000 in
def RL2 (u0 : Int) (u1 : Int) (u2 : Int) (u3 : Int) (u4 : PoA) (u5 : PoA) (u6 : RuA) (u7 : RuA) (u8 : BkA) (u9 : Option AO) (u10 : Option AO) (u11 : Option AO) (u12 : Option AO)
 (u13 : Option AO) (u14 : RuA) (u15 : PoA) (u16 : Option AO) (u17 : Option AO) (u18 : Option AO) (u19 : Option AO) (u20 : Option AO) (u21 : Option AO) (u22 : Option AO) (u23 :
 Option AO) (u24 : Option AO) (u25 : Option AO) (u26 : Option AO) (u27 : Option AO) (u28 : Option AO) (u29 : Option AO) (u30 : Option AO) (u31 : Option AO) : Prop := (True /\ (smQ u0 /\ smQ u1) /\ smQ u2 /\ smQ u3) /\ ((0 = 0 /\ True) /\ (True /\ Z2 /\ True) /\ (2 = 2 /\ QYw7P_3 u4 u5) /\ (2 = 2 /\ u2 = u2 /\ u3 = u3 /\ True) /\ (2 = 2 /\
 u0 = u0 /\ u1 = u1 /\ True) /\ QYw7P_40) /\ (∀ (_ : Unit), True -> (True /\ (isGx u6 u4 /\ smQ u2 /\ smQ u3) /\ isGx u7 u5 /\ smQ u0 /\ smQ u1) /\ ((0 = 0 /\ True) /\ (True /\ (0 = 0 /\ 2 = 2 /\ 2
 = 2) /\ True) /\ (True /\ QYw7P_3 u4 u5) /\ (True /\ u2 = u2 /\ u3 = u3 /\ True) /\ (True /\ u0 = u0 /\ u1 = u1 /\ True) /\ QYw7P_1 u6 u4 u7 u5) /\ (∀ (b1 : XyB), PayD 1 (PyA.mk (GvA.mk u6 u4
 u2 u3) (GvA.mk u7 u5 u0 u1) (GvA.mk u6 u4 u2 u3) (GvA.mk u6 u4 u2 u3)) b1 -> ∀ (b2 : Int), b2 = IntKind.wrap .i64 u8.8 -> ∀ (b3 : Int), b3 = IntKind.wrap .i64 u8.9 -> QYw7P_25 u5 /\
 QYw7P_36 u5 /\ (∀ (_ : Unit), True -> QYw7P_9 u0 u1 /\ QYw7P_12 u0 u1 /\ (∀ (b5 : XyB), QYw7P_19 u0 u1 b5.1 b5.2 -> QYw7P_14 u9 u10 u11 /\ QYw7P_23 u12 u13 /\ (True /\ (isGx u7 u5 /\ isGx
 u14 u15) /\ (smQ u0 /\ smQ u1) /\ smQ b2 /\ smQ b3) /\ (QYw7P_56 u15 /\ (True /\ b2 = b2 /\ b3 = b3 /\ True) /\ (True /\ Z2 /\ True) /\ (2 = 2 /\ QYw7P_3 u4 u5) /\ (2 = 2 /\
 u2 = u2 /\ u3 = u3 /\ True) /\ (2 = 2 /\ u0 = u0 /\ u1 = u1 /\ True) /\ (True /\ True) /\ (True /\ True) /\ (True /\ True) /\ (True /\ True) /\ QYw7P_1 u7 u5 u14 u15) /\ (∀ (_ : Unit), onG u7 u5 /\
 b2 <= u0 /\ b3 <= u1 -> QYw7P_25 u15 /\ QYw7P_36 u15 /\ (∀ (_ : Unit), True -> QYw7P_9 b2 b3 /\ QYw7P_12 b2 b3 /\ (∀ (b8 : XyB), QYw7P_19 b2 b3 b8.1 b8.2 -> QYw7P_14 u16 u17 u18 /\ QYw7P_23
 u19 u20 /\ QYw7P_25 u5 /\ QYw7P_36 u5 /\ (∀ (_ : Unit), True -> QYw7P_27 u0 b2 u1 b3 /\ QYw7P_31 u0 b2 u1 b3 /\ (∀ (b10 : XyB), QYw7P_37 u0 b2 u1 b3 b10.1 b10.2 -> QYw7P_14 u21 u22 u23 /\
 QYw7P_23 u24 u25 /\ (True /\ b8.1 = b2 /\ b8.2 = b3) /\ QYw7P_45 b8 b2 b3 /\ (∀ (_ : Unit), True -> ∀ (b12 : Int), b12 = IntKind.wrap .i64 (b5.1 - b2) -> ∀ (b13 : Int), b13 = IntKind.wrap
 .i64 (b5.2 - b3) -> (True /\ b10.1 = b12 /\ b10.2 = b13) /\ QYw7P_45 b10 b12 b13 /\ (∀ (_ : Unit), True -> (True /\ (smQ b2 /\ smQ b3) /\ (smQ u2 /\ smQ u3) /\ smQ (u0 - b2) /\ smQ (u1 - b3))
 /\ ((0 = 0 /\ True) /\ (True /\ (0 = 0 /\ 3 = 3 /\ 3 = 3) /\ True) /\ (3 = 3 /\ QYw7P_11 u4 u5 u15) /\ (2 = 2 /\ u2 = u2 /\ u3 = u3 /\ True) /\ (2 = 2 /\ u0 - b2 = u0 - b2 /\ u1 - b3 = u1 - b3 /\
 True) /\ (2 = 2 /\ b2 = b2 /\ b3 = b3 /\ True) /\ QYw7P_21) /\ (∀ (_ : Unit), True -> (True /\ sumX 3 (StA.mk (OuA.mk u4.4 u4.5 u4.6 u4.7 u4.8 u2 u3) (OuA.mk u5.4 u5.5 u5.6 u5.7 u5.8 (u0 -
 b2) (u1 - b3)) (OuA.mk (0 : Int) (0 : Int) (0 : Int) (0 : Int) (0 : Int) (0 : Int) (0 : Int)) u14 u15 b2 b3) = sumX 2 (StA.mk (OuA.mk u4.4 u4.5 u4.6 u4.7 u4.8 u2 u3) (OuA.mk (0 :
 Int) (0 : Int) (0 : Int) (0 : Int) (0 : Int) (0 : Int) (0 : Int)) (OuA.mk (0 : Int) (0 : Int) (0 : Int) (0 : Int) (0 : Int) (0 : Int) (0 : Int)) u7 u5 u0 u1) /\ sumY 3 (StA.mk
 (OuA.mk u4.4 u4.5 u4.6 u4.7 u4.8 u2 u3) (OuA.mk u5.4 u5.5 u5.6 u5.7 u5.8 (u0 - b2) (u1 - b3)) (OuA.mk (0 : Int) (0 : Int) (0 : Int) (0 : Int) (0 : Int) (0 : Int) (0 : Int)) u14 u15
 b2 b3) = sumY 2 (StA.mk (OuA.mk u4.4 u4.5 u4.6 u4.7 u4.8 u2 u3) (OuA.mk (0 : Int) (0 : Int) (0 : Int) (0 : Int) (0 : Int) (0 : Int) (0 : Int)) (OuA.mk (0 : Int) (0 : Int) (0 : Int)
 (0 : Int) (0 : Int) (0 : Int) (0 : Int)) u7 u5 u0 u1)) /\ (QYw7P_28 /\ (True /\ sumX 3 (StA.mk (OuA.mk u4.4 u4.5 u4.6 u4.7 u4.8 u2 u3) (OuA.mk u5.4 u5.5 u5.6 u5.7 u5.8 (u0 - b2) (u1 -
 b3)) (OuA.mk (0 : Int) (0 : Int) (0 : Int) (0 : Int) (0 : Int) (0 : Int) (0 : Int)) u14 u15 b2 b3) = sumX 3 (StA.mk (OuA.mk u4.4 u4.5 u4.6 u4.7 u4.8 u2 u3) (OuA.mk u5.4 u5.5 u5.6
 u5.7 u5.8 (u0 - b2) (u1 - b3)) (OuA.mk (0 : Int) (0 : Int) (0 : Int) (0 : Int) (0 : Int) (0 : Int) (0 : Int)) u14 u15 b2 b3) /\ sumY 3 (StA.mk (OuA.mk u4.4 u4.5 u4.6 u4.7 u4.8 u2
 u3) (OuA.mk u5.4 u5.5 u5.6 u5.7 u5.8 (u0 - b2) (u1 - b3)) (OuA.mk (0 : Int) (0 : Int) (0 : Int) (0 : Int) (0 : Int) (0 : Int) (0 : Int)) u14 u15 b2 b3) = sumY 3 (StA.mk (OuA.mk
 u4.4 u4.5 u4.6 u4.7 u4.8 u2 u3) (OuA.mk u5.4 u5.5 u5.6 u5.7 u5.8 (u0 - b2) (u1 - b3)) (OuA.mk (0 : Int) (0 : Int) (0 : Int) (0 : Int) (0 : Int) (0 : Int) (0 : Int)) u14 u15 b2 b3)
 /\ True) /\ QYw7P_17 u4 u2 u3 u7 u5 u0 u1 /\ True) /\ (∀ (_ : Unit), True -> (True /\ (isGx u6 u4 /\ smQ u2 /\ smQ u3) /\ (isGx u7 u5 /\ smQ (u0 - b2) /\ smQ (u1 - b3)) /\ isGx u14 u15 /\ smQ
 b2 /\ smQ b3) /\ ((0 = 0 /\ True) /\ (True /\ (0 = 0 /\ 3 = 3 /\ 3 = 3) /\ True) /\ (True /\ QYw7P_11 u4 u5 u15) /\ (True /\ u2 = u2 /\ u3 = u3 /\ True) /\ (True /\ u0 - b2 = u0 - b2 /\ u1 - b3 =
 u1 - b3 /\ True) /\ (True /\ b2 = b2 /\ b3 = b3 /\ True) /\ QYw7P_30 u6 u4 u7 u5 u14 u15) /\ (∀ (b17 : XyB), PayD 2 (PyA.mk (GvA.mk u6 u4 u2 u3) (GvA.mk u7 u5 (u0 - b2) (u1 - b3)) (GvA.mk
 u14 u15 b2 b3) (GvA.mk u6 u4 u2 u3)) b17 -> QYw7P_20 b17 b1 u26) /\ True) /\ True) /\ True) /\ True) /\ True) /\ True) /\ True) /\ True) /\ True) /\ (∀ (b6 : TnB), QYw7P_61 u7 u5 b6.1 b2 u0
 b3 u1 -> (b6.1 ≠ (0 : Int) -> (True /\ (smQ u0 /\ smQ u1) /\ smQ u2 /\ smQ u3) /\ ((0 = 0 /\ True) /\ (True /\ Z2 /\ True) /\ (2 = 2 /\ QYw7P_3 u4 u5) /\ (2 = 2 /\ u2 = u2 /\
 u3 = u3 /\ True) /\ (2 = 2 /\ u0 = u0 /\ u1 = u1 /\ True) /\ QYw7P_40) /\ (∀ (_ : Unit), True -> (True /\ QYw7P_41 u4 u2 u3 u7 u5 u0 u1 /\ QYw7P_42 u4 u2 u3 u7 u5 u0 u1) /\ (QYw7P_28 /\
 QYw7P_17 u4 u2 u3 u7 u5 u0 u1 /\ QYw7P_17 u4 u2 u3 u7 u5 u0 u1 /\ True) /\ (∀ (_ : Unit), True -> (True /\ (isGx u6 u4 /\ smQ u2 /\ smQ u3) /\ isGx u7 u5 /\ smQ u0 /\ smQ u1) /\ ((0 = 0 /\
 True) /\ (True /\ Z2 /\ True) /\ (True /\ QYw7P_3 u4 u5) /\ (True /\ u2 = u2 /\ u3 = u3 /\ True) /\ (True /\ u0 = u0 /\ u1 = u1 /\ True) /\ QYw7P_1 u6 u4 u7 u5) /\ (∀ (b9 :
 XyB), PayD 1 (PyA.mk (GvA.mk u6 u4 u2 u3) (GvA.mk u7 u5 u0 u1) (GvA.mk u6 u4 u2 u3) (GvA.mk u6 u4 u2 u3)) b9 -> QYw7P_33 b9 b1) /\ True) /\ True) /\ True) /\ QYw7P_5 b6.1 u5 u0 u1 u27
 u28 u29 u30 u31) /\ True) /\ True) /\ True) /\ True) /\ True
set_option maxHeartbeats 3200000 in
def RL3 (u0 : Int) (u1 : Int) (u2 : Int) (u3 : Int) (u4 : Int) (u5 : Int) (u6 : PoA) (u7 : PoA) (u8 : PoA) (u9 : RuA) (u10 : RuA) (u11 : RuA) (u12 : BkA) (u13 : Option AO) (u14 :
 Option AO) (u15 : Option AO) (u16 : Option AO) (u17 : Option AO) (u18 : RuA) (u19 : PoA) (u20 : Option AO) (u21 : Option AO) (u22 : Option AO) (u23 : Option AO) (u24 : Option AO)
 (u25 : Option AO) (u26 : Option AO) (u27 : Option AO) (u28 : Option AO) (u29 : Option AO) (u30 : Option AO) (u31 : Option AO) (u32 : Option AO) (u33 : Option AO) (u34 : Option AO)
 (u35 : Option AO) : Prop := (True /\ (smQ u0 /\ smQ u1) /\ (smQ u2 /\ smQ u3) /\ smQ u4 /\ smQ u5) /\ ((0 = 0 /\ True) /\ (True /\ (0 = 0 /\ 3 = 3 /\ 3 = 3) /\ True) /\ (3 = 3 /\ QYw7P_11 u6 u7 u8) /\ (2 = 2 /\ u2 = u2 /\ u3 =
 u3 /\ True) /\ (2 = 2 /\ u4 = u4 /\ u5 = u5 /\ True) /\ (2 = 2 /\ u0 = u0 /\ u1 = u1 /\ True) /\ QYw7P_21) /\ (∀ (_ : Unit), True -> (True /\ (isGx u9 u6 /\ smQ u2 /\ smQ u3) /\ (isGx u10 u7 /\ smQ
 u4 /\ smQ u5) /\ isGx u11 u8 /\ smQ u0 /\ smQ u1) /\ ((0 = 0 /\ True) /\ (True /\ (0 = 0 /\ 3 = 3 /\ 3 = 3) /\ True) /\ (True /\ QYw7P_11 u6 u7 u8) /\ (True /\ u2 = u2 /\ u3 = u3 /\ True) /\ (True /\
 u4 = u4 /\ u5 = u5 /\ True) /\ (True /\ u0 = u0 /\ u1 = u1 /\ True) /\ QYw7P_30 u9 u6 u10 u7 u11 u8) /\ (∀ (b1 : XyB), PayD 2 (PyA.mk (GvA.mk u9 u6 u2 u3) (GvA.mk u10 u7 u4 u5) (GvA.mk u11
 u8 u0 u1) (GvA.mk u9 u6 u2 u3)) b1 -> ∀ (b2 : Int), b2 = IntKind.wrap .i64 u12.8 -> ∀ (b3 : Int), b3 = IntKind.wrap .i64 u12.9 -> QYw7P_25 u8 /\ QYw7P_36 u8 /\ (∀ (_ : Unit), True ->
 QYw7P_9 u0 u1 /\ QYw7P_12 u0 u1 /\ (∀ (b5 : XyB), QYw7P_19 u0 u1 b5.1 b5.2 -> QYw7P_14 u13 u14 u15 /\ QYw7P_23 u16 u17 /\ (True /\ (isGx u11 u8 /\ isGx u18 u19) /\ (smQ u0 /\ smQ u1) /\ smQ
 b2 /\ smQ b3) /\ (QYw7P_56 u19 /\ (True /\ b2 = b2 /\ b3 = b3 /\ True) /\ (True /\ (0 = 0 /\ 3 = 3 /\ 3 = 3) /\ True) /\ (3 = 3 /\ QYw7P_11 u6 u7 u8) /\ (2 = 2 /\ u2 = u2 /\ u3 = u3 /\ True) /\ (2 =
 2 /\ u4 = u4 /\ u5 = u5 /\ True) /\ (2 = 2 /\ u0 = u0 /\ u1 = u1 /\ True) /\ (True /\ True) /\ (True /\ True) /\ (True /\ True) /\ (True /\ True) /\ (True /\ True) /\ (True /\ True) /\ (True /\ True) /\
 (True /\ True) /\ QYw7P_1 u11 u8 u18 u19) /\ (∀ (_ : Unit), onG u11 u8 /\ b2 <= u0 /\ b3 <= u1 -> QYw7P_25 u19 /\ QYw7P_36 u19 /\ (∀ (_ : Unit), True -> QYw7P_9 b2 b3 /\ QYw7P_12 b2 b3 /\ (∀
 (b8 : XyB), QYw7P_19 b2 b3 b8.1 b8.2 -> QYw7P_14 u20 u21 u22 /\ QYw7P_23 u23 u24 /\ QYw7P_25 u8 /\ QYw7P_36 u8 /\ (∀ (_ : Unit), True -> QYw7P_27 u0 b2 u1 b3 /\ QYw7P_31 u0 b2 u1 b3 /\ (∀
 (b10 : XyB), QYw7P_37 u0 b2 u1 b3 b10.1 b10.2 -> QYw7P_14 u25 u26 u27 /\ QYw7P_23 u28 u29 /\ (True /\ b8.1 = b2 /\ b8.2 = b3) /\ QYw7P_45 b8 b2 b3 /\ (∀ (_ : Unit), True -> ∀ (b12 : Int),
 b12 = IntKind.wrap .i64 (b5.1 - b2) -> ∀ (b13 : Int), b13 = IntKind.wrap .i64 (b5.2 - b3) -> (True /\ b10.1 = b12 /\ b10.2 = b13) /\ QYw7P_45 b10 b12 b13 /\ (∀ (_ : Unit), True -> (True /\
 (smQ b2 /\ smQ b3) /\ (smQ u2 /\ smQ u3) /\ (smQ u4 /\ smQ u5) /\ smQ (u0 - b2) /\ smQ (u1 - b3)) /\ ((0 = 0 /\ True) /\ (True /\ (0 = 0 /\ 4 = 4 /\ 4 = 4) /\ True) /\ (4 = 4 /\ QYw7P_22 u6 u7 u8
 u19) /\ (2 = 2 /\ u2 = u2 /\ u3 = u3 /\ True) /\ (2 = 2 /\ u4 = u4 /\ u5 = u5 /\ True) /\ (2 = 2 /\ u0 - b2 = u0 - b2 /\ u1 - b3 = u1 - b3 /\ True) /\ (2 = 2 /\ b2 = b2 /\ b3 = b3 /\ True) /\
 QYw7P_53) /\ (∀ (_ : Unit), True -> (True /\ sumX 4 (StA.mk (OuA.mk u6.4 u6.5 u6.6 u6.7 u6.8 u2 u3) (OuA.mk u7.4 u7.5 u7.6 u7.7 u7.8 u4 u5) (OuA.mk u8.4 u8.5 u8.6 u8.7 u8.8 (u0 - b2)
 (u1 - b3)) u18 u19 b2 b3) = sumX 3 (StA.mk (OuA.mk u6.4 u6.5 u6.6 u6.7 u6.8 u2 u3) (OuA.mk u7.4 u7.5 u7.6 u7.7 u7.8 u4 u5) (OuA.mk (0 : Int) (0 : Int) (0 : Int) (0 : Int) (0 : Int)
 (0 : Int) (0 : Int)) u11 u8 u0 u1) /\ sumY 4 (StA.mk (OuA.mk u6.4 u6.5 u6.6 u6.7 u6.8 u2 u3) (OuA.mk u7.4 u7.5 u7.6 u7.7 u7.8 u4 u5) (OuA.mk u8.4 u8.5 u8.6 u8.7 u8.8 (u0 - b2) (u1 -
 b3)) u18 u19 b2 b3) = sumY 3 (StA.mk (OuA.mk u6.4 u6.5 u6.6 u6.7 u6.8 u2 u3) (OuA.mk u7.4 u7.5 u7.6 u7.7 u7.8 u4 u5) (OuA.mk (0 : Int) (0 : Int) (0 : Int) (0 : Int) (0 : Int) (0 :
 Int) (0 : Int)) u11 u8 u0 u1)) /\ (QYw7P_28 /\ (True /\ sumX 4 (StA.mk (OuA.mk u6.4 u6.5 u6.6 u6.7 u6.8 u2 u3) (OuA.mk u7.4 u7.5 u7.6 u7.7 u7.8 u4 u5) (OuA.mk u8.4 u8.5 u8.6 u8.7 u8.8
 (u0 - b2) (u1 - b3)) u18 u19 b2 b3) = sumX 4 (StA.mk (OuA.mk u6.4 u6.5 u6.6 u6.7 u6.8 u2 u3) (OuA.mk u7.4 u7.5 u7.6 u7.7 u7.8 u4 u5) (OuA.mk u8.4 u8.5 u8.6 u8.7 u8.8 (u0 - b2) (u1
 - b3)) u18 u19 b2 b3) /\ sumY 4 (StA.mk (OuA.mk u6.4 u6.5 u6.6 u6.7 u6.8 u2 u3) (OuA.mk u7.4 u7.5 u7.6 u7.7 u7.8 u4 u5) (OuA.mk u8.4 u8.5 u8.6 u8.7 u8.8 (u0 - b2) (u1 - b3)) u18 u19
 b2 b3) = sumY 4 (StA.mk (OuA.mk u6.4 u6.5 u6.6 u6.7 u6.8 u2 u3) (OuA.mk u7.4 u7.5 u7.6 u7.7 u7.8 u4 u5) (OuA.mk u8.4 u8.5 u8.6 u8.7 u8.8 (u0 - b2) (u1 - b3)) u18 u19 b2 b3) /\ True)
 /\ QYw7P_18 u6 u2 u3 u7 u4 u5 u11 u8 u0 u1 /\ True) /\ (∀ (_ : Unit), True -> (True /\ (isGx u9 u6 /\ smQ u2 /\ smQ u3) /\ (isGx u10 u7 /\ smQ u4 /\ smQ u5) /\ (isGx u11 u8 /\ smQ (u0 - b2) /\
 smQ (u1 - b3)) /\ isGx u18 u19 /\ smQ b2 /\ smQ b3) /\ ((0 = 0 /\ True) /\ (True /\ (0 = 0 /\ 4 = 4 /\ 4 = 4) /\ True) /\ (True /\ QYw7P_22 u6 u7 u8 u19) /\ (True /\ u2 = u2 /\ u3 = u3 /\ True) /\
 (True /\ u4 = u4 /\ u5 = u5 /\ True) /\ (True /\ u0 - b2 = u0 - b2 /\ u1 - b3 = u1 - b3 /\ True) /\ QYw7P_49 b2 b3 u9 u6 u10 u7 u11 u8 u18 u19) /\ (∀ (b17 : XyB), PayD 3 (PyA.mk (GvA.mk u9
 u6 u2 u3) (GvA.mk u10 u7 u4 u5) (GvA.mk u11 u8 (u0 - b2) (u1 - b3)) (GvA.mk u18 u19 b2 b3)) b17 -> QYw7P_20 b17 b1 u30) /\ True) /\ True) /\ True) /\ True) /\ True) /\ True) /\ True) /\
 True) /\ True) /\ (∀ (b6 : TnB), QYw7P_61 u11 u8 b6.1 b2 u0 b3 u1 -> (b6.1 ≠ (0 : Int) -> (True /\ (smQ u0 /\ smQ u1) /\ (smQ u2 /\ smQ u3) /\ smQ u4 /\ smQ u5) /\ ((0 = 0 /\ True) /\ (True /\
 (0 = 0 /\ 3 = 3 /\ 3 = 3) /\ True) /\ (3 = 3 /\ QYw7P_11 u6 u7 u8) /\ (2 = 2 /\ u2 = u2 /\ u3 = u3 /\ True) /\ (2 = 2 /\ u4 = u4 /\ u5 = u5 /\ True) /\ (2 = 2 /\ u0 = u0 /\ u1 = u1 /\ True) /\
 QYw7P_21) /\ (∀ (_ : Unit), True -> (True /\ QYw7P_50 u6 u2 u3 u7 u4 u5 u11 u8 u0 u1 /\ QYw7P_51 u6 u2 u3 u7 u4 u5 u11 u8 u0 u1) /\ (QYw7P_28 /\ QYw7P_18 u6 u2 u3 u7 u4 u5 u11 u8 u0 u1 /\
 QYw7P_18 u6 u2 u3 u7 u4 u5 u11 u8 u0 u1 /\ True) /\ (∀ (_ : Unit), True -> (True /\ (isGx u9 u6 /\ smQ u2 /\ smQ u3) /\ (isGx u10 u7 /\ smQ u4 /\ smQ u5) /\ isGx u11 u8 /\ smQ u0 /\ smQ u1) /\
 ((0 = 0 /\ True) /\ (True /\ (0 = 0 /\ 3 = 3 /\ 3 = 3) /\ True) /\ (True /\ QYw7P_11 u6 u7 u8) /\ (True /\ u2 = u2 /\ u3 = u3 /\ True) /\ (True /\ u4 = u4 /\ u5 = u5 /\ True) /\ (True /\ u0 = u0 /\
 u1 = u1 /\ True) /\ QYw7P_30 u9 u6 u10 u7 u11 u8) /\ (∀ (b9 : XyB), PayD 2 (PyA.mk (GvA.mk u9 u6 u2 u3) (GvA.mk u10 u7 u4 u5) (GvA.mk u11 u8 u0 u1) (GvA.mk u9 u6 u2 u3)) b9 -> QYw7P_33
 b9 b1) /\ True) /\ True) /\ True) /\ QYw7P_5 b6.1 u8 u0 u1 u31 u32 u33 u34 u35) /\ True) /\ True) /\ True) /\ True) /\ True
set_option maxHeartbeats 3200000 in
def RL4 (u0 : Int) (u1 : Int) (u2 : Int) (u3 : Int) (u4 : Int) (u5 : Int) (u6 : Int) (u7 : Int) (u8 : PoA) (u9 : PoA) (u10 : PoA) (u11 : PoA) (u12 : RuA) (u13 : RuA) (u14 : RuA)
 (u15 : RuA) (u16 : BkA) (u17 : Option AO) (u18 : Option AO) (u19 : Option AO) (u20 : Option AO) (u21 : Option AO) (u22 : PoA) : Prop := (True /\ (smQ u0 /\ smQ u1) /\ (smQ u2 /\ smQ u3) /\ (smQ u4 /\ smQ u5) /\ smQ u6 /\ smQ u7) /\ ((0 = 0 /\ True) /\ (True /\ (0 = 0 /\ 4 = 4 /\ 4 = 4) /\ True) /\ (4 = 4 /\ QYw7P_22 u8 u9 u10 u11)
 /\ (2 = 2 /\ u2 = u2 /\ u3 = u3 /\ True) /\ (2 = 2 /\ u4 = u4 /\ u5 = u5 /\ True) /\ (2 = 2 /\ u6 = u6 /\ u7 = u7 /\ True) /\ (2 = 2 /\ u0 = u0 /\ u1 = u1 /\ True) /\ QYw7P_53) /\ (∀ (_ : Unit),
 True -> (True /\ (isGx u12 u8 /\ smQ u2 /\ smQ u3) /\ (isGx u13 u9 /\ smQ u4 /\ smQ u5) /\ (isGx u14 u10 /\ smQ u6 /\ smQ u7) /\ isGx u15 u11 /\ smQ u0 /\ smQ u1) /\ ((0 = 0 /\ True) /\ (True /\ (0
 = 0 /\ 4 = 4 /\ 4 = 4) /\ True) /\ (True /\ QYw7P_22 u8 u9 u10 u11) /\ (True /\ u2 = u2 /\ u3 = u3 /\ True) /\ (True /\ u4 = u4 /\ u5 = u5 /\ True) /\ (True /\ u6 = u6 /\ u7 = u7 /\ True) /\
 QYw7P_49 u0 u1 u12 u8 u13 u9 u14 u10 u15 u11) /\ (∀ (b1 : XyB), PayD 3 (PyA.mk (GvA.mk u12 u8 u2 u3) (GvA.mk u13 u9 u4 u5) (GvA.mk u14 u10 u6 u7) (GvA.mk u15 u11 u0 u1)) b1 -> ∀ (b2
 : Int), b2 = IntKind.wrap .i64 u16.8 -> ∀ (b3 : Int), b3 = IntKind.wrap .i64 u16.9 -> QYw7P_25 u11 /\ QYw7P_36 u11 /\ (∀ (_ : Unit), True -> QYw7P_9 u0 u1 /\ QYw7P_12 u0 u1 /\ (∀ (b5 :
 XyB), QYw7P_19 u0 u1 b5.1 b5.2 -> QYw7P_14 u17 u18 u19 /\ QYw7P_23 u20 u21 /\ (True /\ True) /\ (QYw7P_56 u22 /\ (True /\ b2 = b2 /\ b3 = b3 /\ True) /\ (True /\ (0 = 0 /\ 4 = 4 /\ 4 = 4) /\
 True) /\ (4 = 4 /\ QYw7P_22 u8 u9 u10 u11) /\ (2 = 2 /\ u2 = u2 /\ u3 = u3 /\ True) /\ (2 = 2 /\ u4 = u4 /\ u5 = u5 /\ True) /\ (2 = 2 /\ u6 = u6 /\ u7 = u7 /\ True) /\ (2 = 2 /\ u0 = u0 /\ u1 = u1
 /\ True) /\ (True /\ True) /\ (True /\ True) /\ (True /\ True) /\ (True /\ True) /\ QYw7P_53) /\ (∀ (_ : Unit), True -> (True /\ (smQ u0 /\ smQ u1) /\ (smQ u2 /\ smQ u3) /\ (smQ u4 /\ smQ u5) /\ smQ
 u6 /\ smQ u7) /\ ((0 = 0 /\ True) /\ (True /\ (0 = 0 /\ 4 = 4 /\ 4 = 4) /\ True) /\ (4 = 4 /\ QYw7P_22 u8 u9 u10 u11) /\ (2 = 2 /\ u2 = u2 /\ u3 = u3 /\ True) /\ (2 = 2 /\ u4 = u4 /\ u5 = u5 /\
 True) /\ (2 = 2 /\ u6 = u6 /\ u7 = u7 /\ True) /\ (2 = 2 /\ u0 = u0 /\ u1 = u1 /\ True) /\ QYw7P_53) /\ (∀ (_ : Unit), True -> (True /\ sumX 4 (StA.mk (OuA.mk u8.4 u8.5 u8.6 u8.7 u8.8 u2 u3)
 (OuA.mk u9.4 u9.5 u9.6 u9.7 u9.8 u4 u5) (OuA.mk u10.4 u10.5 u10.6 u10.7 u10.8 u6 u7) u15 u11 u0 u1) = sumX 4 (StA.mk (OuA.mk u8.4 u8.5 u8.6 u8.7 u8.8 u2 u3) (OuA.mk u9.4 u9.5 u9.6
 u9.7 u9.8 u4 u5) (OuA.mk u10.4 u10.5 u10.6 u10.7 u10.8 u6 u7) u15 u11 u0 u1) /\ sumY 4 (StA.mk (OuA.mk u8.4 u8.5 u8.6 u8.7 u8.8 u2 u3) (OuA.mk u9.4 u9.5 u9.6 u9.7 u9.8 u4 u5)
 (OuA.mk u10.4 u10.5 u10.6 u10.7 u10.8 u6 u7) u15 u11 u0 u1) = sumY 4 (StA.mk (OuA.mk u8.4 u8.5 u8.6 u8.7 u8.8 u2 u3) (OuA.mk u9.4 u9.5 u9.6 u9.7 u9.8 u4 u5) (OuA.mk u10.4 u10.5
 u10.6 u10.7 u10.8 u6 u7) u15 u11 u0 u1)) /\ (QYw7P_28 /\ QYw7P_39 u8 u2 u3 u9 u4 u5 u10 u6 u7 u15 u11 u0 u1 /\ QYw7P_39 u8 u2 u3 u9 u4 u5 u10 u6 u7 u15 u11 u0 u1 /\ True) /\ (∀ (_ :
 Unit), True -> (True /\ (isGx u12 u8 /\ smQ u2 /\ smQ u3) /\ (isGx u13 u9 /\ smQ u4 /\ smQ u5) /\ (isGx u14 u10 /\ smQ u6 /\ smQ u7) /\ isGx u15 u11 /\ smQ u0 /\ smQ u1) /\ ((0 = 0 /\ True) /\
 (True /\ (0 = 0 /\ 4 = 4 /\ 4 = 4) /\ True) /\ (True /\ QYw7P_22 u8 u9 u10 u11) /\ (True /\ u2 = u2 /\ u3 = u3 /\ True) /\ (True /\ u4 = u4 /\ u5 = u5 /\ True) /\ (True /\ u6 = u6 /\ u7 = u7 /\
 True) /\ QYw7P_49 u0 u1 u12 u8 u13 u9 u14 u10 u15 u11) /\ (∀ (b9 : XyB), PayD 3 (PyA.mk (GvA.mk u12 u8 u2 u3) (GvA.mk u13 u9 u4 u5) (GvA.mk u14 u10 u6 u7) (GvA.mk u15 u11 u0 u1)) b9
 -> QYw7P_33 b9 b1) /\ True) /\ True) /\ True) /\ True) /\ True) /\ True) /\ True) /\ True
end
set_option maxHeartbeats 6400000 in
theorem vc_back (a : BkA) : G_back a = ((True /\ True) /\ (True /\ QYw7P_38) /\ (∀ (_ : Unit), True -> (True /\ a.6 <= 9223372036854775807 /\ (∀ (x1 : Nat), x1 < a.6 -> ∃ (x2 x3 : Nat), W_G_back_0 a = W_G_back_1 x2 x3 /\ actX1 x2
(x3 + x1 * 5))) /\ ((Value.slice a.5 a.6 a.7 = Value.slice a.5 a.6 a.7 /\ True) /\ True) /\ (∀ (_ : Unit), True -> (True /\ True) /\ (True /\ QYw7P_38) /\ (∀ (_ : Unit), True -> ∃ (_ :
Unit), True /\ true = true /\ True) /\ True) /\ (∀ (_ : Unit), Nat.le a.6 40 -> (True /\ (0 <= a.1 /\ a.1 < 256) /\ (0 <= a.3 /\ a.3 < 65536) /\ 0 <= a.4 /\ a.4 < 65536) /\ ((Z1 a.1 /\ (Z1 a.3 /\
Z1 a.4 /\ True) /\ True) /\ QYw7P_38) /\ (∀ (F : GtA), (∃ (S : Nat), (S = 0 ∨ S = 1) /\ (↑S : Int) = a.1 % (2 : Int) /\ isG F.1 F.2 S 0) -> (True /\ 0 <= a.2 /\ a.2 < 256) /\ ((Z1 a.2
/\ True) /\ QYw7P_38) /\ (∀ (U : GtA), (∃ (V : Nat), (V = 0 ∨ V = 1) /\ (↑V : Int) = a.2 % (2 : Int) /\ isG U.1 U.2 V 0) -> ∀ (ah : Int), ah = (↑a.6 : Int) -> (∃ (i :
BkB), QYw7P_62 a i /\ (0 = 0 /\ 0 = 0 /\ 0 = 0 /\ 0 = 0 /\ Value.slice a.5 a.6 a.7 = Value.slice a.5 a.6 a.7 /\ (↑a.6 : Int) = ah /\ i.2 = 0 /\ True) /\ ((True /\ (0 = 0 /\ 1 = 1 /\ 1 =
1) /\ True) /\ (1 = 1 /\ QYw7P_32 i.1.1.2 F.2) /\ (2 = 2 /\ i.1.1.3 = a.3 /\ i.1.1.4 = a.4 /\ True) /\ QYw7P_2 i.1.1.1 F.1 i.1.1.2 F.2 i.3 U.1 i.4 U.2 a.8 a.9) /\ True)
/\ (∀ (e : BkB), QYw7P_62 a e -> (e.2 < (↑a.6 : Int) -> (0 <= e.2 /\ e.2 < (↑a.6 : Int)) /\ (∃ (q ai : Nat), W_G_back_0 a = W_G_back_1 q ai /\ ∀ (r : Nat), r = ai +
Int.toNat e.2 * 5 -> ∃ (s : Int), FX Proofs.Tryz.prog q (Nat.add r 0) (Value.int .u8 s) /\ ∃ (G : Int), FX Proofs.Tryz.prog q (Nat.add r 1) (Value.int .i64 G) /\ ∃
(t : Int), FX Proofs.Tryz.prog q (Nat.add r 2) (Value.int .i32 t) /\ ∃ (W : Int), FX Proofs.Tryz.prog q (Nat.add r 3) (Value.int .u8 W) /\ ∃ (X : Option Addr) (Y
Z : Nat), FX Proofs.Tryz.prog q (Nat.add r 4) (Value.slice X Y Z) /\ (True /\ isGx e.1.1.1 e.1.1.2 /\ ((smQ e.1.1.3 /\ smQ e.1.1.4) /\ smQ (Int.ofNat 0) /\ smQ
(Int.ofNat 0)) /\ QYw7P_48 s t W /\ twoX X Y Z) /\ (QYw7P_57 s G t W X Y Z /\ (True /\ (0 = 0 /\ 1 = 1 /\ 1 = 1) /\ True) /\ (1 = 1 /\ QYw7P_24 e.1.1.2) /\
QYw7P_54 e.1.1 /\ QYw7P_26 e.1.1) /\ (∀ (aj : MvB), QYw7P_55 e.1.1 s G t aj.1 -> TA1 e.2 a aj.1 e.1.1.3 e.1.1.4 e.1.1.1 e.3 e.4) /\ (∀ (aq : TnB), QYw7P_52
aq.1 s e.1.1 G t -> TA1 e.2 a e.1.1.2 e.1.1.3 e.1.1.4 e.1.1.1 e.3 e.4) /\ (∀ (f : BgM), begQ (DoA.mk (StA.mk (OuA.mk (0 : Int) (0 : Int) (0 : Int) (0 : Int)
(0 : Int) (0 : Int) (0 : Int)) (OuA.mk (0 : Int) (0 : Int) (0 : Int) (0 : Int) (0 : Int) (0 : Int) (0 : Int)) (OuA.mk (0 : Int) (0 : Int) (0 : Int) (0 : Int) (0 : Int) (0 : Int) (0
: Int)) e.1.1.1 e.1.1.2 e.1.1.3 e.1.1.4) s G t W X Y Z) (BgB.mk f.1 f.2 f.3) /\ f.4 = e.1.1.3 - f.3.1 /\ f.5 = e.1.1.4 - f.3.2 -> TA2 e.2 a
e.1.1.2 f.2 f.4 f.5 f.3.1 f.3.2 e.1.1.1 f.1 e.3 e.4) /\ True)) /\ (¬(e.2 < (↑a.6 : Int)) -> RL1 e.1.1.3 e.1.1.4 e.1.1.2 e.1.1.1 a (W_G_back_2 e)
(W_G_back_2 e) (W_G_back_2 e) (W_G_back_3 e) (W_G_back_3 e) e.3 e.4 (W_G_back_4 e) (W_G_back_4 e) (W_G_back_4 e) (W_G_back_5 e) (W_G_back_5 e) (W_G_back_4
e) (W_G_back_4 e) (W_G_back_4 e) (W_G_back_6 e) (W_G_back_6 e) (W_G_back_7 e) (W_G_back_2 e) (W_G_back_2 e) (W_G_back_2 e) (W_G_back_8 e) (W_G_back_8 e))) /\
(∀ (d : BkB), monJ 2 (MnA.mk a.1 a.3 a.4 a.5 a.6 a.7) (MnB.mk d.1 d.2) /\ stQ d.3 d.4 -> (d.2 < (↑a.6 : Int) -> (0 <= d.2 /\ d.2 < (↑a.6 : Int)) /\ (∃ (u ak : Nat),
W_G_back_0 a = W_G_back_1 u ak /\ ∀ (v : Nat), v = ak + Int.toNat d.2 * 5 -> ∃ (j : Int), FX Proofs.Tryz.prog u (Nat.add v 0) (Value.int .u8 j) /\ ∃ (w : Int), FX
Proofs.Tryz.prog u (Nat.add v 1) (Value.int .i64 w) /\ ∃ (k : Int), FX Proofs.Tryz.prog u (Nat.add v 2) (Value.int .i32 k) /\ ∃ (H : Int), FX Proofs.Tryz.prog u
(Nat.add v 3) (Value.int .u8 H) /\ ∃ (I : Option Addr) (J K : Nat), FX Proofs.Tryz.prog u (Nat.add v 4) (Value.slice I J K) /\ (True /\ isGx d.1.2.1 d.1.2.2 /\
((smQ d.1.2.3 /\ smQ d.1.2.4) /\ smQ d.1.1.3 /\ smQ d.1.1.4) /\ QYw7P_48 j k H /\ twoX I J K) /\ (QYw7P_57 j w k H I J K /\ (True /\ (0 = 0 /\ 2 = 2 /\ 2 =
2) /\ True) /\ (2 = 2 /\ QYw7P_3 d.1.1.2 d.1.2.2) /\ QYw7P_54 d.1.1 /\ QYw7P_54 d.1.2 /\ QYw7P_60 d.1.2) /\ (∀ (al : MvB), QYw7P_55 d.1.2 j w k al.1 -> TA2 d.2 a
d.1.1.2 al.1 d.1.1.3 d.1.1.4 d.1.2.3 d.1.2.4 d.1.1.1 d.1.2.1 d.3 d.4) /\ (∀ (ar : TnB), QYw7P_52 ar.1 j d.1.2 w k -> TA2 d.2 a d.1.1.2 d.1.2.2
d.1.1.3 d.1.1.4 d.1.2.3 d.1.2.4 d.1.1.1 d.1.2.1 d.3 d.4) /\ (∀ (g : BgM), begQ (DoA.mk (StA.mk (OuA.mk d.1.1.2.4 d.1.1.2.5 d.1.1.2.6 d.1.1.2.7 d.1.1.2.8
d.1.1.3 d.1.1.4) (OuA.mk (0 : Int) (0 : Int) (0 : Int) (0 : Int) (0 : Int) (0 : Int) (0 : Int)) (OuA.mk (0 : Int) (0 : Int) (0 : Int) (0 : Int) (0 : Int) (0 : Int) (0 : Int))
d.1.2.1 d.1.2.2 d.1.2.3 d.1.2.4) j w k H I J K) (BgB.mk g.1 g.2 g.3) /\ g.4 = d.1.2.3 - g.3.1 /\ g.5 = d.1.2.4 - g.3.2 -> TA3 d.2 a
d.1.1.2 d.1.2.2 g.2 d.1.1.3 d.1.1.4 g.4 g.5 g.3.1 g.3.2 d.1.1.1 d.1.2.1 g.1 d.3 d.4) /\ (∀ (l : EnM), endQ (DoA.mk (StA.mk (OuA.mk d.1.1.2.4
d.1.1.2.5 d.1.1.2.6 d.1.1.2.7 d.1.1.2.8 d.1.1.3 d.1.1.4) (OuA.mk (0 : Int) (0 : Int) (0 : Int) (0 : Int) (0 : Int) (0 : Int) (0 : Int)) (OuA.mk (0 : Int) (0 : Int) (0 :
Int) (0 : Int) (0 : Int) (0 : Int) (0 : Int)) d.1.2.1 d.1.2.2 d.1.2.3 d.1.2.4) j w k H I J K) l.1 /\ l.2 = d.1.1.3 + l.1.1 /\ l.3 = d.1.1.4 +
l.1.2 -> TA1 d.2 a d.1.1.2 l.2 l.3 d.1.1.1 d.3 d.4) /\ True)) /\ (¬(d.2 < (↑a.6 : Int)) -> RL2 d.1.2.3 d.1.2.4 d.1.1.3 d.1.1.4 d.1.1.2 d.1.2.2
d.1.1.1 d.1.2.1 a (W_G_back_9 d) (W_G_back_9 d) (W_G_back_9 d) (W_G_back_10 d) (W_G_back_10 d) d.3 d.4 (W_G_back_11 d) (W_G_back_11 d) (W_G_back_11 d)
(W_G_back_12 d) (W_G_back_12 d) (W_G_back_11 d) (W_G_back_11 d) (W_G_back_11 d) (W_G_back_13 d) (W_G_back_13 d) (W_G_back_14 d) (W_G_back_9 d) (W_G_back_9 d)
(W_G_back_9 d) (W_G_back_15 d) (W_G_back_15 d))) /\ (∀ (b : BkB), monJ 3 (MnA.mk a.1 a.3 a.4 a.5 a.6 a.7) (MnB.mk b.1 b.2) /\ stQ b.3 b.4 -> (b.2 < (↑a.6 :
Int) -> (0 <= b.2 /\ b.2 < (↑a.6 : Int)) /\ (∃ (x am : Nat), W_G_back_0 a = W_G_back_1 x am /\ ∀ (y : Nat), y = am + Int.toNat b.2 * 5 -> ∃ (m : Int), FX
Proofs.Tryz.prog x (Nat.add y 0) (Value.int .u8 m) /\ ∃ (z : Int), FX Proofs.Tryz.prog x (Nat.add y 1) (Value.int .i64 z) /\ ∃ (n : Int), FX Proofs.Tryz.prog
x (Nat.add y 2) (Value.int .i32 n) /\ ∃ (L : Int), FX Proofs.Tryz.prog x (Nat.add y 3) (Value.int .u8 L) /\ ∃ (M : Option Addr) (O Q : Nat), FX
Proofs.Tryz.prog x (Nat.add y 4) (Value.slice M O Q) /\ (True /\ isGx b.1.3.1 b.1.3.2 /\ ((smQ b.1.3.3 /\ smQ b.1.3.4) /\ smQ b.1.2.3 /\ smQ b.1.2.4) /\
QYw7P_48 m n L /\ twoX M O Q) /\ (QYw7P_57 m z n L M O Q /\ (True /\ (0 = 0 /\ 3 = 3 /\ 3 = 3) /\ True) /\ (3 = 3 /\ QYw7P_11 b.1.1.2 b.1.2.2
b.1.3.2) /\ QYw7P_54 b.1.1 /\ QYw7P_54 b.1.2 /\ QYw7P_54 b.1.3 /\ (True /\ True) /\ (True /\ True) /\ (True /\ True) /\ (True /\ True) /\ QYw7P_60 b.1.3) /\ (∀ (an : MvB),
QYw7P_55 b.1.3 m z n an.1 -> TA3 b.2 a b.1.1.2 b.1.2.2 an.1 b.1.1.3 b.1.1.4 b.1.2.3 b.1.2.4 b.1.3.3 b.1.3.4 b.1.1.1 b.1.2.1
b.1.3.1 b.3 b.4) /\ (∀ (au : TnB), QYw7P_52 au.1 m b.1.3 z n -> TA3 b.2 a b.1.1.2 b.1.2.2 b.1.3.2 b.1.1.3 b.1.1.4 b.1.2.3 b.1.2.4
b.1.3.3 b.1.3.4 b.1.1.1 b.1.2.1 b.1.3.1 b.3 b.4) /\ (∀ (h : BgM), begQ (DoA.mk (StA.mk (OuA.mk b.1.1.2.4 b.1.1.2.5 b.1.1.2.6 b.1.1.2.7
b.1.1.2.8 b.1.1.3 b.1.1.4) (OuA.mk b.1.2.2.4 b.1.2.2.5 b.1.2.2.6 b.1.2.2.7 b.1.2.2.8 b.1.2.3 b.1.2.4) (OuA.mk (0 : Int) (0 : Int) (0 : Int) (0 : Int)
(0 : Int) (0 : Int) (0 : Int)) b.1.3.1 b.1.3.2 b.1.3.3 b.1.3.4) m z n L M O Q) (BgB.mk h.1 h.2 h.3) /\ h.4 = b.1.3.3 - h.3.1 /\
h.5 = b.1.3.4 - h.3.2 -> TA4 b.2 a b.1.1.2 b.1.2.2 b.1.3.2 h.2 b.1.1.3 b.1.1.4 b.1.2.3 b.1.2.4 h.4 h.5 h.3.1 h.3.2 b.1.1.1
b.1.2.1 b.1.3.1 h.1 b.3 b.4) /\ (∀ (o : EnM), endQ (DoA.mk (StA.mk (OuA.mk b.1.1.2.4 b.1.1.2.5 b.1.1.2.6 b.1.1.2.7 b.1.1.2.8 b.1.1.3 b.1.1.4)
(OuA.mk b.1.2.2.4 b.1.2.2.5 b.1.2.2.6 b.1.2.2.7 b.1.2.2.8 b.1.2.3 b.1.2.4) (OuA.mk (0 : Int) (0 : Int) (0 : Int) (0 : Int) (0 : Int) (0 : Int) (0 : Int))
b.1.3.1 b.1.3.2 b.1.3.3 b.1.3.4) m z n L M O Q) o.1 /\ o.2 = b.1.2.3 + o.1.1 /\ o.3 = b.1.2.4 + o.1.2 -> TA2 b.2 a b.1.1.2
b.1.2.2 b.1.1.3 b.1.1.4 o.2 o.3 b.1.1.1 b.1.2.1 b.3 b.4) /\ True)) /\ (¬(b.2 < (↑a.6 : Int)) -> RL3 b.1.3.3 b.1.3.4 b.1.1.3 b.1.1.4
b.1.2.3 b.1.2.4 b.1.1.2 b.1.2.2 b.1.3.2 b.1.1.1 b.1.2.1 b.1.3.1 a (W_G_back_16 b) (W_G_back_16 b) (W_G_back_16 b) (W_G_back_17 b) (W_G_back_17
b) b.3 b.4 (W_G_back_18 b) (W_G_back_18 b) (W_G_back_18 b) (W_G_back_19 b) (W_G_back_19 b) (W_G_back_18 b) (W_G_back_18 b) (W_G_back_18 b)
(W_G_back_20 b) (W_G_back_20 b) (W_G_back_21 b) (W_G_back_16 b) (W_G_back_16 b) (W_G_back_16 b) (W_G_back_22 b) (W_G_back_22 b))) /\ (∀ (c : BkB), monJ 4
(MnA.mk a.1 a.3 a.4 a.5 a.6 a.7) (MnB.mk c.1 c.2) /\ stQ c.3 c.4 -> (c.2 < (↑a.6 : Int) -> (0 <= c.2 /\ c.2 < (↑a.6 : Int)) /\ (∃ (A ao : Nat), W_G_back_0 a =
W_G_back_1 A ao /\ ∀ (B : Nat), B = ao + Int.toNat c.2 * 5 -> ∃ (C : Int), FX Proofs.Tryz.prog A (Nat.add B 0) (Value.int .u8 C) /\ ∃ (R : Int), FX
Proofs.Tryz.prog A (Nat.add B 1) (Value.int .i64 R) /\ ∃ (D : Int), FX Proofs.Tryz.prog A (Nat.add B 2) (Value.int .i32 D) /\ ∃ (aa : Int), FX Proofs.Tryz.prog
A (Nat.add B 3) (Value.int .u8 aa) /\ ∃ (ab : Option Addr) (ac ad : Nat), FX Proofs.Tryz.prog A (Nat.add B 4) (Value.slice ab ac ad) /\ (True /\ isGx
c.1.4.1 c.1.4.2 /\ ((smQ c.1.4.3 /\ smQ c.1.4.4) /\ smQ c.1.3.3 /\ smQ c.1.3.4) /\ QYw7P_48 C D aa /\ twoX ab ac ad) /\ (QYw7P_57 C R D aa ab
ac ad /\ (True /\ (0 = 0 /\ 4 = 4 /\ 4 = 4) /\ True) /\ (4 = 4 /\ QYw7P_22 c.1.1.2 c.1.2.2 c.1.3.2 c.1.4.2) /\ QYw7P_54 c.1.1 /\ QYw7P_54 c.1.2 /\ QYw7P_54 c.1.3 /\
QYw7P_54 c.1.4 /\ (True /\ True) /\ (True /\ True) /\ (True /\ True) /\ (True /\ True) /\ (True /\ True) /\ (True /\ True) /\ (True /\ True) /\ (True /\ True) /\ QYw7P_60 c.1.4) /\ (∀ (ap :
MvB), QYw7P_55 c.1.4 C R D ap.1 -> TA4 c.2 a c.1.1.2 c.1.2.2 c.1.3.2 ap.1 c.1.1.3 c.1.1.4 c.1.2.3 c.1.2.4 c.1.3.3 c.1.3.4 c.1.4.3
c.1.4.4 c.1.1.1 c.1.2.1 c.1.3.1 c.1.4.1 c.3 c.4) /\ (∀ (av : TnB), QYw7P_52 av.1 C c.1.4 R D -> TA4 c.2 a c.1.1.2 c.1.2.2 c.1.3.2
c.1.4.2 c.1.1.3 c.1.1.4 c.1.2.3 c.1.2.4 c.1.3.3 c.1.3.4 c.1.4.3 c.1.4.4 c.1.1.1 c.1.2.1 c.1.3.1 c.1.4.1 c.3 c.4) /\ (∀ (p : EnM),
endQ (DoA.mk (StA.mk (OuA.mk c.1.1.2.4 c.1.1.2.5 c.1.1.2.6 c.1.1.2.7 c.1.1.2.8 c.1.1.3 c.1.1.4) (OuA.mk c.1.2.2.4 c.1.2.2.5 c.1.2.2.6 c.1.2.2.7
c.1.2.2.8 c.1.2.3 c.1.2.4) (OuA.mk c.1.3.2.4 c.1.3.2.5 c.1.3.2.6 c.1.3.2.7 c.1.3.2.8 c.1.3.3 c.1.3.4) c.1.4.1 c.1.4.2 c.1.4.3 c.1.4.4)
C R D aa ab ac ad) p.1 /\ p.2 = c.1.3.3 + p.1.1 /\ p.3 = c.1.3.4 + p.1.2 -> TA3 c.2 a c.1.1.2 c.1.2.2 c.1.3.2 c.1.1.3 c.1.1.4
c.1.2.3 c.1.2.4 p.2 p.3 c.1.1.1 c.1.2.1 c.1.3.1 c.3 c.4) /\ True)) /\ (¬(c.2 < (↑a.6 : Int)) -> RL4 c.1.4.3 c.1.4.4 c.1.1.3 c.1.1.4
c.1.2.3 c.1.2.4 c.1.3.3 c.1.3.4 c.1.1.2 c.1.2.2 c.1.3.2 c.1.4.2 c.1.1.1 c.1.2.1 c.1.3.1 c.1.4.1 a (W_G_back_23 c) (W_G_back_23 c)
(W_G_back_23 c) (W_G_back_24 c) (W_G_back_24 c) c.4)) /\ True) /\ True) /\ True) /\ True) /\ True) := by kernel_rfl
set_option maxHeartbeats 4000000 in
theorem ta1 (i : Int) (a : BkA) (p1 : PoA) (x1 : Int) (y1 : Int) (g1 : RuA) (g9 : RuA) (p9 : PoA) (i1 : 0 <= i) (hlt : i < a.l) (hla : (a.l : Int) <= 9223372036854775807) (G1 : isGx g1 p1) (X1 : smQ x1) (Y1 : smQ y1) (S9 : stQ g9 p9) (tot : (x1 + y1) = a.x + a.y) : TA1 i a p1 x1 y1 g1 g9 p9 := by
 have Gx1 := G1
 have Xx1 := X1
 have Yx1 := Y1
 obtain ⟨k1, j1, h1⟩ := G1
 obtain ⟨v11, v12, v13, v14, v15, v16, v17, v18, v19, v110, v111⟩ := flG_of h1
 obtain ⟨s11, s12⟩ := X1
 obtain ⟨s13, s14⟩ := Y1
 have f12 := fl11
 have f13 := fl00
 have gl0 : FlatL cells0 := flatAll (by kernel_rfl)
 have gl1 : FlatL cells1 := flatAll (by kernel_rfl)
 have gl2 : FlatL cells2 := flatAll (by kernel_rfl)
 have gl4 : FlatL cells4 := flatAll (by kernel_rfl)
 have gl5 : FlatL cells5 := flatAll (by kernel_rfl)
 have gl6 : FlatL cells6 := flatAll (by kernel_rfl)
 have gl8 : FlatL cells8 := flatAll (by kernel_rfl)
 have gl9 : FlatL cells9 := flatAll (by kernel_rfl)
 have gl10 : FlatL cells10 := flatAll (by kernel_rfl)
 have S9x := S9
 obtain ⟨k9, h9⟩ := S9
 obtain ⟨v91, v92, v93, v94, v95, v96, v97, v98, v99, v910, v911⟩ := flG_of h9
 have G9 : isGx g9 p9 := ⟨k9, 0, h9⟩
 unfold TA1
 (repeat(apply And.intro;focus(and_intros<;>first|trivial|rfl)))
 intro y6_ e6
 rw [wr64 (by omega)] at e6
 have e6 := e6.symm
 refine ⟨⟨⟨⟨g1, p1, x1, y1⟩, ⟨g1, p1, x1, y1⟩, ⟨g1, p1, x1, y1⟩, ⟨g1, p1, x1, y1⟩⟩, i + 1, g9, p9⟩, ⟨monI (d := 1) (e := ⟨⟨⟨g1, p1, x1, y1⟩, ⟨g1, p1, x1, y1⟩, ⟨g1, p1, x1, y1⟩, ⟨g1, p1, x1, y1⟩⟩, i + 1⟩) ⟨by show 0 <= i + 1; omega, by show i + 1 <= (a.l : Int); omega⟩ ⟨⟨k1, j1, h1⟩, smI s11 s12, smI s13 s14⟩ (by show (x1 + y1) = a.x + a.y; omega), S9x⟩, by show ((a.l : Int) - (i + 1)).toNat < ((a.l : Int) - i).toNat; omega, ?_⟩
 (and_intros<;>first|trivial|rfl)
set_option maxHeartbeats 4000000 in
theorem ta2 (i : Int) (a : BkA) (p1 : PoA) (p2 : PoA) (x1 : Int) (y1 : Int) (x2 : Int) (y2 : Int) (g1 : RuA) (g2 : RuA) (g9 : RuA) (p9 : PoA) (i1 : 0 <= i) (hlt : i < a.l) (hla : (a.l : Int) <= 9223372036854775807) (G1 : isGx g1 p1) (X1 : smQ x1) (Y1 : smQ y1) (G2 : isGx g2 p2) (X2 : smQ x2) (Y2 : smQ y2) (S9 : stQ g9 p9) (tot : (x1 + y1) + (x2 + y2) = a.x + a.y) : TA2 i a p1 p2 x1 y1 x2 y2 g1 g2 g9 p9 := by
 have Gx1 := G1
 have Xx1 := X1
 have Yx1 := Y1
 obtain ⟨k1, j1, h1⟩ := G1
 obtain ⟨v11, v12, v13, v14, v15, v16, v17, v18, v19, v110, v111⟩ := flG_of h1
 obtain ⟨s11, s12⟩ := X1
 obtain ⟨s13, s14⟩ := Y1
 have Gx2 := G2
 have Xx2 := X2
 have Yx2 := Y2
 obtain ⟨k2, j2, h2⟩ := G2
 obtain ⟨v21, v22, v23, v24, v25, v26, v27, v28, v29, v210, v211⟩ := flG_of h2
 obtain ⟨s21, s22⟩ := X2
 obtain ⟨s23, s24⟩ := Y2
 have f12 := fl11
 have f13 := fl00
 have gl0 : FlatL cells0 := flatAll (by kernel_rfl)
 have gl1 : FlatL cells1 := flatAll (by kernel_rfl)
 have gl2 : FlatL cells2 := flatAll (by kernel_rfl)
 have gl4 : FlatL cells4 := flatAll (by kernel_rfl)
 have gl5 : FlatL cells5 := flatAll (by kernel_rfl)
 have gl6 : FlatL cells6 := flatAll (by kernel_rfl)
 have gl8 : FlatL cells8 := flatAll (by kernel_rfl)
 have gl9 : FlatL cells9 := flatAll (by kernel_rfl)
 have gl10 : FlatL cells10 := flatAll (by kernel_rfl)
 have S9x := S9
 obtain ⟨k9, h9⟩ := S9
 obtain ⟨v91, v92, v93, v94, v95, v96, v97, v98, v99, v910, v911⟩ := flG_of h9
 have G9 : isGx g9 p9 := ⟨k9, 0, h9⟩
 unfold TA2
 (repeat(apply And.intro;focus(and_intros<;>first|trivial|rfl)))
 intro y6_ e6
 rw [wr64 (by omega)] at e6
 have e6 := e6.symm
 refine ⟨⟨⟨⟨g1, p1, x1, y1⟩, ⟨g2, p2, x2, y2⟩, ⟨g1, p1, x1, y1⟩, ⟨g1, p1, x1, y1⟩⟩, i + 1, g9, p9⟩, ⟨monI (d := 2) (e := ⟨⟨⟨g1, p1, x1, y1⟩, ⟨g2, p2, x2, y2⟩, ⟨g1, p1, x1, y1⟩, ⟨g1, p1, x1, y1⟩⟩, i + 1⟩) ⟨by show 0 <= i + 1; omega, by show i + 1 <= (a.l : Int); omega⟩ ⟨⟨⟨k1, j1, h1⟩, smI s11 s12, smI s13 s14⟩, ⟨⟨k2, j2, h2⟩, smI s21 s22, smI s23 s24⟩⟩ (by show (x1 + y1) + (x2 + y2) = a.x + a.y; omega), S9x⟩, by show ((a.l : Int) - (i + 1)).toNat < ((a.l : Int) - i).toNat; omega, ?_⟩
 (and_intros<;>first|trivial|rfl)
set_option maxHeartbeats 4000000 in
theorem ta3 (i : Int) (a : BkA) (p1 : PoA) (p2 : PoA) (p3 : PoA) (x1 : Int) (y1 : Int) (x2 : Int) (y2 : Int) (x3 : Int) (y3 : Int) (g1 : RuA) (g2 : RuA) (g3 : RuA) (g9 : RuA) (p9 : PoA) (i1 : 0 <= i) (hlt : i < a.l) (hla : (a.l : Int) <= 9223372036854775807) (G1 : isGx g1 p1) (X1 : smQ x1) (Y1 : smQ y1) (G2 : isGx g2 p2) (X2 : smQ x2) (Y2 : smQ y2) (G3 : isGx g3 p3) (X3 : smQ x3) (Y3 : smQ y3) (S9 : stQ g9 p9) (tot : (x1 + y1) + (x2 + y2) + (x3 + y3) = a.x + a.y) : TA3 i a p1 p2 p3 x1 y1 x2 y2 x3 y3 g1 g2 g3 g9 p9 := by
 have Gx1 := G1
 have Xx1 := X1
 have Yx1 := Y1
 obtain ⟨k1, j1, h1⟩ := G1
 obtain ⟨v11, v12, v13, v14, v15, v16, v17, v18, v19, v110, v111⟩ := flG_of h1
 obtain ⟨s11, s12⟩ := X1
 obtain ⟨s13, s14⟩ := Y1
 have Gx2 := G2
 have Xx2 := X2
 have Yx2 := Y2
 obtain ⟨k2, j2, h2⟩ := G2
 obtain ⟨v21, v22, v23, v24, v25, v26, v27, v28, v29, v210, v211⟩ := flG_of h2
 obtain ⟨s21, s22⟩ := X2
 obtain ⟨s23, s24⟩ := Y2
 have Gx3 := G3
 have Xx3 := X3
 have Yx3 := Y3
 obtain ⟨k3, j3, h3⟩ := G3
 obtain ⟨v31, v32, v33, v34, v35, v36, v37, v38, v39, v310, v311⟩ := flG_of h3
 obtain ⟨s31, s32⟩ := X3
 obtain ⟨s33, s34⟩ := Y3
 have f12 := fl11
 have f13 := fl00
 have gl0 : FlatL cells0 := flatAll (by kernel_rfl)
 have gl1 : FlatL cells1 := flatAll (by kernel_rfl)
 have gl2 : FlatL cells2 := flatAll (by kernel_rfl)
 have gl4 : FlatL cells4 := flatAll (by kernel_rfl)
 have gl5 : FlatL cells5 := flatAll (by kernel_rfl)
 have gl6 : FlatL cells6 := flatAll (by kernel_rfl)
 have gl8 : FlatL cells8 := flatAll (by kernel_rfl)
 have gl9 : FlatL cells9 := flatAll (by kernel_rfl)
 have gl10 : FlatL cells10 := flatAll (by kernel_rfl)
 have S9x := S9
 obtain ⟨k9, h9⟩ := S9
 obtain ⟨v91, v92, v93, v94, v95, v96, v97, v98, v99, v910, v911⟩ := flG_of h9
 have G9 : isGx g9 p9 := ⟨k9, 0, h9⟩
 unfold TA3
 (repeat(apply And.intro;focus(and_intros<;>first|trivial|rfl)))
 intro y6_ e6
 rw [wr64 (by omega)] at e6
 have e6 := e6.symm
 refine ⟨⟨⟨⟨g1, p1, x1, y1⟩, ⟨g2, p2, x2, y2⟩, ⟨g3, p3, x3, y3⟩, ⟨g1, p1, x1, y1⟩⟩, i + 1, g9, p9⟩, ⟨monI (d := 3) (e := ⟨⟨⟨g1, p1, x1, y1⟩, ⟨g2, p2, x2, y2⟩, ⟨g3, p3, x3, y3⟩, ⟨g1, p1, x1, y1⟩⟩, i + 1⟩) ⟨by show 0 <= i + 1; omega, by show i + 1 <= (a.l : Int); omega⟩ ⟨⟨⟨k1, j1, h1⟩, smI s11 s12, smI s13 s14⟩, ⟨⟨k2, j2, h2⟩, smI s21 s22, smI s23 s24⟩, ⟨⟨k3, j3, h3⟩, smI s31 s32, smI s33 s34⟩⟩ (by show (x1 + y1) + (x2 + y2) + (x3 + y3) = a.x + a.y; omega), S9x⟩, by show ((a.l : Int) - (i + 1)).toNat < ((a.l : Int) - i).toNat; omega, ?_⟩
 (and_intros<;>first|trivial|rfl)
set_option maxHeartbeats 4000000 in
theorem ta4 (i : Int) (a : BkA) (p1 : PoA) (p2 : PoA) (p3 : PoA) (p4 : PoA) (x1 : Int) (y1 : Int) (x2 : Int) (y2 : Int) (x3 : Int) (y3 : Int) (x4 : Int) (y4 : Int) (g1 : RuA) (g2 : RuA) (g3 : RuA) (g4 : RuA) (g9 : RuA) (p9 : PoA) (i1 : 0 <= i) (hlt : i < a.l) (hla : (a.l : Int) <= 9223372036854775807) (G1 : isGx g1 p1) (X1 : smQ x1) (Y1 : smQ y1) (G2 : isGx g2 p2) (X2 : smQ x2) (Y2 : smQ y2) (G3 : isGx g3 p3) (X3 : smQ x3) (Y3 : smQ y3) (G4 : isGx g4 p4) (X4 : smQ x4) (Y4 : smQ y4) (S9 : stQ g9 p9) (tot : (x1 + y1) + (x2 + y2) + (x3 + y3) + (x4 + y4) = a.x + a.y) : TA4 i a p1 p2 p3 p4 x1 y1 x2 y2 x3 y3 x4 y4 g1 g2 g3 g4 g9 p9 := by
 have Gx1 := G1
 have Xx1 := X1
 have Yx1 := Y1
 obtain ⟨k1, j1, h1⟩ := G1
 obtain ⟨v11, v12, v13, v14, v15, v16, v17, v18, v19, v110, v111⟩ := flG_of h1
 obtain ⟨s11, s12⟩ := X1
 obtain ⟨s13, s14⟩ := Y1
 have Gx2 := G2
 have Xx2 := X2
 have Yx2 := Y2
 obtain ⟨k2, j2, h2⟩ := G2
 obtain ⟨v21, v22, v23, v24, v25, v26, v27, v28, v29, v210, v211⟩ := flG_of h2
 obtain ⟨s21, s22⟩ := X2
 obtain ⟨s23, s24⟩ := Y2
 have Gx3 := G3
 have Xx3 := X3
 have Yx3 := Y3
 obtain ⟨k3, j3, h3⟩ := G3
 obtain ⟨v31, v32, v33, v34, v35, v36, v37, v38, v39, v310, v311⟩ := flG_of h3
 obtain ⟨s31, s32⟩ := X3
 obtain ⟨s33, s34⟩ := Y3
 have Gx4 := G4
 have Xx4 := X4
 have Yx4 := Y4
 obtain ⟨k4, j4, h4⟩ := G4
 obtain ⟨v41, v42, v43, v44, v45, v46, v47, v48, v49, v410, v411⟩ := flG_of h4
 obtain ⟨s41, s42⟩ := X4
 obtain ⟨s43, s44⟩ := Y4
 have f12 := fl11
 have f13 := fl00
 have gl0 : FlatL cells0 := flatAll (by kernel_rfl)
 have gl1 : FlatL cells1 := flatAll (by kernel_rfl)
 have gl2 : FlatL cells2 := flatAll (by kernel_rfl)
 have gl4 : FlatL cells4 := flatAll (by kernel_rfl)
 have gl5 : FlatL cells5 := flatAll (by kernel_rfl)
 have gl6 : FlatL cells6 := flatAll (by kernel_rfl)
 have gl8 : FlatL cells8 := flatAll (by kernel_rfl)
 have gl9 : FlatL cells9 := flatAll (by kernel_rfl)
 have gl10 : FlatL cells10 := flatAll (by kernel_rfl)
 have S9x := S9
 obtain ⟨k9, h9⟩ := S9
 obtain ⟨v91, v92, v93, v94, v95, v96, v97, v98, v99, v910, v911⟩ := flG_of h9
 have G9 : isGx g9 p9 := ⟨k9, 0, h9⟩
 unfold TA4
 (repeat(apply And.intro;focus(and_intros<;>first|trivial|rfl)))
 intro y6_ e6
 rw [wr64 (by omega)] at e6
 have e6 := e6.symm
 refine ⟨⟨⟨⟨g1, p1, x1, y1⟩, ⟨g2, p2, x2, y2⟩, ⟨g3, p3, x3, y3⟩, ⟨g4, p4, x4, y4⟩⟩, i + 1, g9, p9⟩, ⟨monI (d := 4) (e := ⟨⟨⟨g1, p1, x1, y1⟩, ⟨g2, p2, x2, y2⟩, ⟨g3, p3, x3, y3⟩, ⟨g4, p4, x4, y4⟩⟩, i + 1⟩) ⟨by show 0 <= i + 1; omega, by show i + 1 <= (a.l : Int); omega⟩ ⟨⟨⟨k1, j1, h1⟩, smI s11 s12, smI s13 s14⟩, ⟨⟨k2, j2, h2⟩, smI s21 s22, smI s23 s24⟩, ⟨⟨k3, j3, h3⟩, smI s31 s32, smI s33 s34⟩, ⟨⟨k4, j4, h4⟩, smI s41 s42, smI s43 s44⟩⟩ (by show (x1 + y1) + (x2 + y2) + (x3 + y3) + (x4 + y4) = a.x + a.y; omega), S9x⟩, by show ((a.l : Int) - (i + 1)).toNat < ((a.l : Int) - i).toNat; omega, ?_⟩
 (and_intros<;>first|trivial|rfl)
set_option maxHeartbeats 16000000 in
theorem rl1 (x1 : Int) (y1 : Int) (p1 : PoA) (g1 : RuA) (a : BkA) (w5 : Option AO) (w6 : Option AO) (w7 : Option AO) (w8 : Option AO) (w9 : Option AO) (g9 : RuA) (p9 : PoA) (w12 : Option AO) (w13 : Option AO) (w14 : Option AO) (w15 : Option AO) (w16 : Option AO) (w17 : Option AO) (w18 : Option AO) (w19 : Option AO) (w20 : Option AO) (w21 : Option AO) (w22 : Option AO) (w23 : Option AO) (w24 : Option AO) (w25 : Option AO) (w26 : Option AO) (w27 : Option AO) (i : Int) (G1 : isGx g1 p1) (X1 : smQ x1) (Y1 : smQ y1) (S9 : stQ g9 p9) (hp : 0 <= a.p /\ a.p < 65536) (hq0 : 0 <= a.q /\ a.q < 65536) : RL1 x1 y1 p1 g1 a w5 w6 w7 w8 w9 g9 p9 w12 w13 w14 w15 w16 w17 w18 w19 w20 w21 w22 w23 w24 w25 w26 w27 := by
 have Gx1 := G1
 have Xx1 := X1
 have Yx1 := Y1
 obtain ⟨k1, j1, h1⟩ := G1
 obtain ⟨v11, v12, v13, v14, v15, v16, v17, v18, v19, v110, v111⟩ := flG_of h1
 obtain ⟨s11, s12⟩ := X1
 obtain ⟨s13, s14⟩ := Y1
 have f12 := fl11
 have f13 := fl00
 have gl0 : FlatL cells0 := flatAll (by kernel_rfl)
 have gl1 : FlatL cells1 := flatAll (by kernel_rfl)
 have gl2 : FlatL cells2 := flatAll (by kernel_rfl)
 have gl4 : FlatL cells4 := flatAll (by kernel_rfl)
 have gl5 : FlatL cells5 := flatAll (by kernel_rfl)
 have gl6 : FlatL cells6 := flatAll (by kernel_rfl)
 have gl8 : FlatL cells8 := flatAll (by kernel_rfl)
 have gl9 : FlatL cells9 := flatAll (by kernel_rfl)
 have gl10 : FlatL cells10 := flatAll (by kernel_rfl)
 have S9x := S9
 obtain ⟨k9, h9⟩ := S9
 obtain ⟨v91, v92, v93, v94, v95, v96, v97, v98, v99, v910, v911⟩ := flG_of h9
 have G9 : isGx g9 p9 := ⟨k9, 0, h9⟩
 have t1 := fl2t x1 y1
 unfold RL1
 (repeat(apply And.intro;focus(and_intros<;>first|trivial|rfl)))
 refine ⟨fun _ _ => ?_, trivial⟩
 (repeat(apply And.intro;focus(and_intros<;>first|trivial|rfl)))
 refine ⟨fun q hq => ?_, trivial⟩
 (repeat(apply And.intro;focus(and_intros<;>first|trivial|rfl)))
 intro y1_ e1 y2_ e2
 rw [wr64 (by omega)] at e1
 rw [wr64 (by omega)] at e2
 have Q1 : smQ y1_ := smI (by omega) (by omega)
 have Q2 : smQ y2_ := smI (by omega) (by omega)
 have Q3 := Q1.1
 have Q4 := Q1.2
 have Q5 := Q2.1
 have Q6 := Q2.2
 (repeat(apply And.intro;focus(and_intros<;>first|trivial|rfl)))
 refine ⟨⟨trivial, k1, j1, h1.1, h1.2.2⟩, by (and_intros<;>first|trivial|rfl), fun _ _ => ?_, trivial⟩
 (repeat(apply And.intro;focus(and_intros<;>first|trivial|rfl)))
 refine ⟨⟨trivial, ⟨Nat.le_refl _, Nat.le_refl _, t1⟩, x1, y1, rfl⟩, by (and_intros<;>first|trivial|rfl), fun a1 ha1 => ?_, trivial⟩
 obtain ⟨a11, a12⟩ := lw2 ha1
 (repeat(apply And.intro;focus(and_intros<;>first|trivial|rfl)))
 refine ⟨fun _ hok => ?_, fun er her => ?_, trivial⟩
 ·obtain ⟨⟨k', j', hi', hon⟩, hpx, hpy⟩ := hok
  obtain ⟨rfl, rfl⟩ := isG_inj h1 hi'
  have t8 := fl2t y1_ y2_
  have t7 := fl2t (x1 - y1_) (y1 - y2_)
  (repeat(apply And.intro;focus(and_intros<;>first|trivial|rfl)))
  refine ⟨⟨trivial, k9, 0, h9.1, h9.2.2⟩, by (and_intros<;>first|trivial|rfl), fun _ _ => ?_, trivial⟩
  (repeat(apply And.intro;focus(and_intros<;>first|trivial|rfl)))
  refine ⟨⟨trivial, ⟨Nat.le_refl _, Nat.le_refl _, t8⟩, y1_, y2_, rfl⟩, by (and_intros<;>first|trivial|rfl), fun a2 ha2 => ?_, trivial⟩
  obtain ⟨a21, a22⟩ := lw2 ha2
  (repeat(apply And.intro;focus(and_intros<;>first|trivial|rfl)))
  refine ⟨⟨trivial, k1, j1, h1.1, h1.2.2⟩, by (and_intros<;>first|trivial|rfl), fun _ _ => ?_, trivial⟩
  (repeat(apply And.intro;focus(and_intros<;>first|trivial|rfl)))
  refine ⟨⟨trivial, ⟨Nat.le_refl _, Nat.le_refl _, t7⟩, x1 - y1_, y1 - y2_, rfl⟩, by (and_intros<;>first|trivial|rfl), fun a3 ha3 => ?_, trivial⟩
  obtain ⟨a31, a32⟩ := lw2 ha3
  have b1 := a21.symm
  have b2 := a22.symm
  (repeat(apply And.intro;focus(and_intros<;>first|trivial|rfl)))
  refine ⟨fun _ _ => ?_, trivial⟩
  (repeat(apply And.intro;focus(and_intros<;>first|trivial|rfl)))
  intro z1_ f1 z2_ f2
  rw [wr64 (by omega)] at f1
  rw [wr64 (by omega)] at f2
  have c1 : a3.x = z1_ := by omega
  have c2 : a3.y = z2_ := by omega
  (repeat(apply And.intro;focus(and_intros<;>first|trivial|rfl)))
  refine ⟨fun _ _ => ?_, trivial⟩
  have R1 : smQ (x1 - y1_) := smI (by omega) (by omega)
  have R2 : smQ (y1 - y2_) := smI (by omega) (by omega)
  have R3 := R1.1
  have R4 := R1.2
  have R5 := R2.1
  have R6 := R2.2
  (repeat(apply And.intro;focus(and_intros<;>first|trivial|rfl)))
  refine ⟨fun _ _ => ?_, trivial⟩
  (repeat(apply And.intro;focus(and_intros<;>first|trivial|rfl)))
  refine ⟨⟨trivial, by show (x1 - y1_) + y1_ = x1; omega, by show (y1 - y2_) + y2_ = y1; omega⟩, by (and_intros<;>first|trivial|rfl), fun _ _ => ?_, trivial⟩
  (repeat(apply And.intro;focus(and_intros<;>first|trivial|rfl)))
  refine ⟨fun q2 hq2 => ?_, trivial⟩
  obtain ⟨d1, d2⟩ := back1 (t := ⟨⟨g1, p1, x1, y1⟩, ⟨g1, p1, x1, y1⟩, ⟨g1, p1, x1, y1⟩, ⟨g1, p1, x1, y1⟩⟩) (s := ⟨⟨g1, p1, x1 - y1_, y1 - y2_⟩, ⟨g9, p9, y1_, y2_⟩, ⟨g1, p1, x1 - y1_, y1 - y2_⟩, ⟨g1, p1, x1 - y1_, y1 - y2_⟩⟩) (b := q) (c := q2) h1 hon h9 rfl rfl (by show x1 - y1_ + y1_ = x1; omega) (by show y1 - y2_ + y2_ = y1; omega) hq hq2
  (repeat(apply And.intro;focus(and_intros<;>first|trivial|rfl)))
  refine ⟨fun _ _ => ?_, trivial⟩
  (repeat(apply And.intro;focus(and_intros<;>first|trivial|rfl)))
  refine ⟨(), ?_⟩
  (and_intros<;>first|trivial|rfl)
 ·refine ⟨fun hne => ?_, fun hne => ?_⟩
  ·skip
   (repeat(apply And.intro;focus(and_intros<;>first|trivial|rfl)))
   refine ⟨fun _ _ => ?_, trivial⟩
   (repeat(apply And.intro;focus(and_intros<;>first|trivial|rfl)))
   refine ⟨fun _ _ => ?_, trivial⟩
   (repeat(apply And.intro;focus(and_intros<;>first|trivial|rfl)))
   refine ⟨fun q2 hq2 => ?_, trivial⟩
   obtain ⟨d1, d2⟩ := payD_fun hq hq2
   (repeat(apply And.intro;focus(and_intros<;>first|trivial|rfl)))
   refine ⟨fun _ _ => ?_, trivial⟩
   refine ⟨(), ?_⟩
   (and_intros<;>first|trivial|rfl)
  ·have her : er.k ≠ 0 := by
    rcases her with ⟨_, _, _, _, h⟩ | ⟨_, _, h⟩
    ·have h : er.k = 10 := h
     omega
    ·have h : er.k = 21 := h
     omega
   exact absurd her hne
set_option maxHeartbeats 16000000 in
theorem rl2 (x2 : Int) (y2 : Int) (x1 : Int) (y1 : Int) (p1 : PoA) (p2 : PoA) (g1 : RuA) (g2 : RuA) (a : BkA) (w9 : Option AO) (w10 : Option AO) (w11 : Option AO) (w12 : Option AO) (w13 : Option AO) (g9 : RuA) (p9 : PoA) (w16 : Option AO) (w17 : Option AO) (w18 : Option AO) (w19 : Option AO) (w20 : Option AO) (w21 : Option AO) (w22 : Option AO) (w23 : Option AO) (w24 : Option AO) (w25 : Option AO) (w26 : Option AO) (w27 : Option AO) (w28 : Option AO) (w29 : Option AO) (w30 : Option AO) (w31 : Option AO) (i : Int) (G1 : isGx g1 p1) (X1 : smQ x1) (Y1 : smQ y1) (G2 : isGx g2 p2) (X2 : smQ x2) (Y2 : smQ y2) (S9 : stQ g9 p9) (hp : 0 <= a.p /\ a.p < 65536) (hq0 : 0 <= a.q /\ a.q < 65536) : RL2 x2 y2 x1 y1 p1 p2 g1 g2 a w9 w10 w11 w12 w13 g9 p9 w16 w17 w18 w19 w20 w21 w22 w23 w24 w25 w26 w27 w28 w29 w30 w31 := by
 have Gx1 := G1
 have Xx1 := X1
 have Yx1 := Y1
 obtain ⟨k1, j1, h1⟩ := G1
 obtain ⟨v11, v12, v13, v14, v15, v16, v17, v18, v19, v110, v111⟩ := flG_of h1
 obtain ⟨s11, s12⟩ := X1
 obtain ⟨s13, s14⟩ := Y1
 have Gx2 := G2
 have Xx2 := X2
 have Yx2 := Y2
 obtain ⟨k2, j2, h2⟩ := G2
 obtain ⟨v21, v22, v23, v24, v25, v26, v27, v28, v29, v210, v211⟩ := flG_of h2
 obtain ⟨s21, s22⟩ := X2
 obtain ⟨s23, s24⟩ := Y2
 have f12 := fl11
 have f13 := fl00
 have gl0 : FlatL cells0 := flatAll (by kernel_rfl)
 have gl1 : FlatL cells1 := flatAll (by kernel_rfl)
 have gl2 : FlatL cells2 := flatAll (by kernel_rfl)
 have gl4 : FlatL cells4 := flatAll (by kernel_rfl)
 have gl5 : FlatL cells5 := flatAll (by kernel_rfl)
 have gl6 : FlatL cells6 := flatAll (by kernel_rfl)
 have gl8 : FlatL cells8 := flatAll (by kernel_rfl)
 have gl9 : FlatL cells9 := flatAll (by kernel_rfl)
 have gl10 : FlatL cells10 := flatAll (by kernel_rfl)
 have S9x := S9
 obtain ⟨k9, h9⟩ := S9
 obtain ⟨v91, v92, v93, v94, v95, v96, v97, v98, v99, v910, v911⟩ := flG_of h9
 have G9 : isGx g9 p9 := ⟨k9, 0, h9⟩
 have t2 := fl2t x2 y2
 unfold RL2
 (repeat(apply And.intro;focus(and_intros<;>first|trivial|rfl)))
 refine ⟨fun _ _ => ?_, trivial⟩
 (repeat(apply And.intro;focus(and_intros<;>first|trivial|rfl)))
 refine ⟨fun q hq => ?_, trivial⟩
 (repeat(apply And.intro;focus(and_intros<;>first|trivial|rfl)))
 intro y1_ e1 y2_ e2
 rw [wr64 (by omega)] at e1
 rw [wr64 (by omega)] at e2
 have Q1 : smQ y1_ := smI (by omega) (by omega)
 have Q2 : smQ y2_ := smI (by omega) (by omega)
 have Q3 := Q1.1
 have Q4 := Q1.2
 have Q5 := Q2.1
 have Q6 := Q2.2
 (repeat(apply And.intro;focus(and_intros<;>first|trivial|rfl)))
 refine ⟨⟨trivial, k2, j2, h2.1, h2.2.2⟩, by (and_intros<;>first|trivial|rfl), fun _ _ => ?_, trivial⟩
 (repeat(apply And.intro;focus(and_intros<;>first|trivial|rfl)))
 refine ⟨⟨trivial, ⟨Nat.le_refl _, Nat.le_refl _, t2⟩, x2, y2, rfl⟩, by (and_intros<;>first|trivial|rfl), fun a1 ha1 => ?_, trivial⟩
 obtain ⟨a11, a12⟩ := lw2 ha1
 (repeat(apply And.intro;focus(and_intros<;>first|trivial|rfl)))
 refine ⟨fun _ hok => ?_, fun er her => ?_, trivial⟩
 ·obtain ⟨⟨k', j', hi', hon⟩, hpx, hpy⟩ := hok
  obtain ⟨rfl, rfl⟩ := isG_inj h2 hi'
  have t8 := fl2t y1_ y2_
  have t7 := fl2t (x2 - y1_) (y2 - y2_)
  (repeat(apply And.intro;focus(and_intros<;>first|trivial|rfl)))
  refine ⟨⟨trivial, k9, 0, h9.1, h9.2.2⟩, by (and_intros<;>first|trivial|rfl), fun _ _ => ?_, trivial⟩
  (repeat(apply And.intro;focus(and_intros<;>first|trivial|rfl)))
  refine ⟨⟨trivial, ⟨Nat.le_refl _, Nat.le_refl _, t8⟩, y1_, y2_, rfl⟩, by (and_intros<;>first|trivial|rfl), fun a2 ha2 => ?_, trivial⟩
  obtain ⟨a21, a22⟩ := lw2 ha2
  (repeat(apply And.intro;focus(and_intros<;>first|trivial|rfl)))
  refine ⟨⟨trivial, k2, j2, h2.1, h2.2.2⟩, by (and_intros<;>first|trivial|rfl), fun _ _ => ?_, trivial⟩
  (repeat(apply And.intro;focus(and_intros<;>first|trivial|rfl)))
  refine ⟨⟨trivial, ⟨Nat.le_refl _, Nat.le_refl _, t7⟩, x2 - y1_, y2 - y2_, rfl⟩, by (and_intros<;>first|trivial|rfl), fun a3 ha3 => ?_, trivial⟩
  obtain ⟨a31, a32⟩ := lw2 ha3
  have b1 := a21.symm
  have b2 := a22.symm
  (repeat(apply And.intro;focus(and_intros<;>first|trivial|rfl)))
  refine ⟨fun _ _ => ?_, trivial⟩
  (repeat(apply And.intro;focus(and_intros<;>first|trivial|rfl)))
  intro z1_ f1 z2_ f2
  rw [wr64 (by omega)] at f1
  rw [wr64 (by omega)] at f2
  have c1 : a3.x = z1_ := by omega
  have c2 : a3.y = z2_ := by omega
  (repeat(apply And.intro;focus(and_intros<;>first|trivial|rfl)))
  refine ⟨fun _ _ => ?_, trivial⟩
  have R1 : smQ (x2 - y1_) := smI (by omega) (by omega)
  have R2 : smQ (y2 - y2_) := smI (by omega) (by omega)
  have R3 := R1.1
  have R4 := R1.2
  have R5 := R2.1
  have R6 := R2.2
  (repeat(apply And.intro;focus(and_intros<;>first|trivial|rfl)))
  refine ⟨fun _ _ => ?_, trivial⟩
  (repeat(apply And.intro;focus(and_intros<;>first|trivial|rfl)))
  refine ⟨⟨trivial, by show x1 + (x2 - y1_) + y1_ = x1 + x2; omega, by show y1 + (y2 - y2_) + y2_ = y1 + y2; omega⟩, by (and_intros<;>first|trivial|rfl), fun _ _ => ?_, trivial⟩
  (repeat(apply And.intro;focus(and_intros<;>first|trivial|rfl)))
  refine ⟨fun q2 hq2 => ?_, trivial⟩
  obtain ⟨d1, d2⟩ := back2 (t := ⟨⟨g1, p1, x1, y1⟩, ⟨g2, p2, x2, y2⟩, ⟨g1, p1, x1, y1⟩, ⟨g1, p1, x1, y1⟩⟩) (s := ⟨⟨g1, p1, x1, y1⟩, ⟨g2, p2, x2 - y1_, y2 - y2_⟩, ⟨g9, p9, y1_, y2_⟩, ⟨g1, p1, x1, y1⟩⟩) (b := q) (c := q2) h2 hon h9 rfl rfl rfl (by show x2 - y1_ + y1_ = x2; omega) (by show y2 - y2_ + y2_ = y2; omega) hq hq2
  (repeat(apply And.intro;focus(and_intros<;>first|trivial|rfl)))
  refine ⟨fun _ _ => ?_, trivial⟩
  (repeat(apply And.intro;focus(and_intros<;>first|trivial|rfl)))
  refine ⟨(), ?_⟩
  (and_intros<;>first|trivial|rfl)
 ·refine ⟨fun hne => ?_, fun hne => ?_⟩
  ·skip
   (repeat(apply And.intro;focus(and_intros<;>first|trivial|rfl)))
   refine ⟨fun _ _ => ?_, trivial⟩
   (repeat(apply And.intro;focus(and_intros<;>first|trivial|rfl)))
   refine ⟨fun _ _ => ?_, trivial⟩
   (repeat(apply And.intro;focus(and_intros<;>first|trivial|rfl)))
   refine ⟨fun q2 hq2 => ?_, trivial⟩
   obtain ⟨d1, d2⟩ := payD_fun hq hq2
   (repeat(apply And.intro;focus(and_intros<;>first|trivial|rfl)))
   refine ⟨fun _ _ => ?_, trivial⟩
   refine ⟨(), ?_⟩
   (and_intros<;>first|trivial|rfl)
  ·have her : er.k ≠ 0 := by
    rcases her with ⟨_, _, _, _, h⟩ | ⟨_, _, h⟩
    ·have h : er.k = 10 := h
     omega
    ·have h : er.k = 21 := h
     omega
   exact absurd her hne
set_option maxHeartbeats 16000000 in
theorem rl3 (x3 : Int) (y3 : Int) (x1 : Int) (y1 : Int) (x2 : Int) (y2 : Int) (p1 : PoA) (p2 : PoA) (p3 : PoA) (g1 : RuA) (g2 : RuA) (g3 : RuA) (a : BkA) (w13 : Option AO) (w14 : Option AO) (w15 : Option AO) (w16 : Option AO) (w17 : Option AO) (g9 : RuA) (p9 : PoA) (w20 : Option AO) (w21 : Option AO) (w22 : Option AO) (w23 : Option AO) (w24 : Option AO) (w25 : Option AO) (w26 : Option AO) (w27 : Option AO) (w28 : Option AO) (w29 : Option AO) (w30 : Option AO) (w31 : Option AO) (w32 : Option AO) (w33 : Option AO) (w34 : Option AO) (w35 : Option AO) (i : Int) (G1 : isGx g1 p1) (X1 : smQ x1) (Y1 : smQ y1) (G2 : isGx g2 p2) (X2 : smQ x2) (Y2 : smQ y2) (G3 : isGx g3 p3) (X3 : smQ x3) (Y3 : smQ y3) (S9 : stQ g9 p9) (hp : 0 <= a.p /\ a.p < 65536) (hq0 : 0 <= a.q /\ a.q < 65536) : RL3 x3 y3 x1 y1 x2 y2 p1 p2 p3 g1 g2 g3 a w13 w14 w15 w16 w17 g9 p9 w20 w21 w22 w23 w24 w25 w26 w27 w28 w29 w30 w31 w32 w33 w34 w35 := by
 have Gx1 := G1
 have Xx1 := X1
 have Yx1 := Y1
 obtain ⟨k1, j1, h1⟩ := G1
 obtain ⟨v11, v12, v13, v14, v15, v16, v17, v18, v19, v110, v111⟩ := flG_of h1
 obtain ⟨s11, s12⟩ := X1
 obtain ⟨s13, s14⟩ := Y1
 have Gx2 := G2
 have Xx2 := X2
 have Yx2 := Y2
 obtain ⟨k2, j2, h2⟩ := G2
 obtain ⟨v21, v22, v23, v24, v25, v26, v27, v28, v29, v210, v211⟩ := flG_of h2
 obtain ⟨s21, s22⟩ := X2
 obtain ⟨s23, s24⟩ := Y2
 have Gx3 := G3
 have Xx3 := X3
 have Yx3 := Y3
 obtain ⟨k3, j3, h3⟩ := G3
 obtain ⟨v31, v32, v33, v34, v35, v36, v37, v38, v39, v310, v311⟩ := flG_of h3
 obtain ⟨s31, s32⟩ := X3
 obtain ⟨s33, s34⟩ := Y3
 have f12 := fl11
 have f13 := fl00
 have gl0 : FlatL cells0 := flatAll (by kernel_rfl)
 have gl1 : FlatL cells1 := flatAll (by kernel_rfl)
 have gl2 : FlatL cells2 := flatAll (by kernel_rfl)
 have gl4 : FlatL cells4 := flatAll (by kernel_rfl)
 have gl5 : FlatL cells5 := flatAll (by kernel_rfl)
 have gl6 : FlatL cells6 := flatAll (by kernel_rfl)
 have gl8 : FlatL cells8 := flatAll (by kernel_rfl)
 have gl9 : FlatL cells9 := flatAll (by kernel_rfl)
 have gl10 : FlatL cells10 := flatAll (by kernel_rfl)
 have S9x := S9
 obtain ⟨k9, h9⟩ := S9
 obtain ⟨v91, v92, v93, v94, v95, v96, v97, v98, v99, v910, v911⟩ := flG_of h9
 have G9 : isGx g9 p9 := ⟨k9, 0, h9⟩
 have t3 := fl2t x3 y3
 unfold RL3
 (repeat(apply And.intro;focus(and_intros<;>first|trivial|rfl)))
 refine ⟨fun _ _ => ?_, trivial⟩
 (repeat(apply And.intro;focus(and_intros<;>first|trivial|rfl)))
 refine ⟨fun q hq => ?_, trivial⟩
 (repeat(apply And.intro;focus(and_intros<;>first|trivial|rfl)))
 intro y1_ e1 y2_ e2
 rw [wr64 (by omega)] at e1
 rw [wr64 (by omega)] at e2
 have Q1 : smQ y1_ := smI (by omega) (by omega)
 have Q2 : smQ y2_ := smI (by omega) (by omega)
 have Q3 := Q1.1
 have Q4 := Q1.2
 have Q5 := Q2.1
 have Q6 := Q2.2
 (repeat(apply And.intro;focus(and_intros<;>first|trivial|rfl)))
 refine ⟨⟨trivial, k3, j3, h3.1, h3.2.2⟩, by (and_intros<;>first|trivial|rfl), fun _ _ => ?_, trivial⟩
 (repeat(apply And.intro;focus(and_intros<;>first|trivial|rfl)))
 refine ⟨⟨trivial, ⟨Nat.le_refl _, Nat.le_refl _, t3⟩, x3, y3, rfl⟩, by (and_intros<;>first|trivial|rfl), fun a1 ha1 => ?_, trivial⟩
 obtain ⟨a11, a12⟩ := lw2 ha1
 (repeat(apply And.intro;focus(and_intros<;>first|trivial|rfl)))
 refine ⟨fun _ hok => ?_, fun er her => ?_, trivial⟩
 ·obtain ⟨⟨k', j', hi', hon⟩, hpx, hpy⟩ := hok
  obtain ⟨rfl, rfl⟩ := isG_inj h3 hi'
  have t8 := fl2t y1_ y2_
  have t7 := fl2t (x3 - y1_) (y3 - y2_)
  (repeat(apply And.intro;focus(and_intros<;>first|trivial|rfl)))
  refine ⟨⟨trivial, k9, 0, h9.1, h9.2.2⟩, by (and_intros<;>first|trivial|rfl), fun _ _ => ?_, trivial⟩
  (repeat(apply And.intro;focus(and_intros<;>first|trivial|rfl)))
  refine ⟨⟨trivial, ⟨Nat.le_refl _, Nat.le_refl _, t8⟩, y1_, y2_, rfl⟩, by (and_intros<;>first|trivial|rfl), fun a2 ha2 => ?_, trivial⟩
  obtain ⟨a21, a22⟩ := lw2 ha2
  (repeat(apply And.intro;focus(and_intros<;>first|trivial|rfl)))
  refine ⟨⟨trivial, k3, j3, h3.1, h3.2.2⟩, by (and_intros<;>first|trivial|rfl), fun _ _ => ?_, trivial⟩
  (repeat(apply And.intro;focus(and_intros<;>first|trivial|rfl)))
  refine ⟨⟨trivial, ⟨Nat.le_refl _, Nat.le_refl _, t7⟩, x3 - y1_, y3 - y2_, rfl⟩, by (and_intros<;>first|trivial|rfl), fun a3 ha3 => ?_, trivial⟩
  obtain ⟨a31, a32⟩ := lw2 ha3
  have b1 := a21.symm
  have b2 := a22.symm
  (repeat(apply And.intro;focus(and_intros<;>first|trivial|rfl)))
  refine ⟨fun _ _ => ?_, trivial⟩
  (repeat(apply And.intro;focus(and_intros<;>first|trivial|rfl)))
  intro z1_ f1 z2_ f2
  rw [wr64 (by omega)] at f1
  rw [wr64 (by omega)] at f2
  have c1 : a3.x = z1_ := by omega
  have c2 : a3.y = z2_ := by omega
  (repeat(apply And.intro;focus(and_intros<;>first|trivial|rfl)))
  refine ⟨fun _ _ => ?_, trivial⟩
  have R1 : smQ (x3 - y1_) := smI (by omega) (by omega)
  have R2 : smQ (y3 - y2_) := smI (by omega) (by omega)
  have R3 := R1.1
  have R4 := R1.2
  have R5 := R2.1
  have R6 := R2.2
  (repeat(apply And.intro;focus(and_intros<;>first|trivial|rfl)))
  refine ⟨fun _ _ => ?_, trivial⟩
  (repeat(apply And.intro;focus(and_intros<;>first|trivial|rfl)))
  refine ⟨⟨trivial, by show x1 + x2 + (x3 - y1_) + y1_ = x1 + x2 + x3; omega, by show y1 + y2 + (y3 - y2_) + y2_ = y1 + y2 + y3; omega⟩, by (and_intros<;>first|trivial|rfl), fun _ _ => ?_, trivial⟩
  (repeat(apply And.intro;focus(and_intros<;>first|trivial|rfl)))
  refine ⟨fun q2 hq2 => ?_, trivial⟩
  obtain ⟨d1, d2⟩ := back3 (t := ⟨⟨g1, p1, x1, y1⟩, ⟨g2, p2, x2, y2⟩, ⟨g3, p3, x3, y3⟩, ⟨g1, p1, x1, y1⟩⟩) (s := ⟨⟨g1, p1, x1, y1⟩, ⟨g2, p2, x2, y2⟩, ⟨g3, p3, x3 - y1_, y3 - y2_⟩, ⟨g9, p9, y1_, y2_⟩⟩) (b := q) (c := q2) h3 hon h9 rfl rfl rfl rfl (by show x3 - y1_ + y1_ = x3; omega) (by show y3 - y2_ + y2_ = y3; omega) hq hq2
  (repeat(apply And.intro;focus(and_intros<;>first|trivial|rfl)))
  refine ⟨fun _ _ => ?_, trivial⟩
  (repeat(apply And.intro;focus(and_intros<;>first|trivial|rfl)))
  refine ⟨(), ?_⟩
  (and_intros<;>first|trivial|rfl)
 ·refine ⟨fun hne => ?_, fun hne => ?_⟩
  ·skip
   (repeat(apply And.intro;focus(and_intros<;>first|trivial|rfl)))
   refine ⟨fun _ _ => ?_, trivial⟩
   (repeat(apply And.intro;focus(and_intros<;>first|trivial|rfl)))
   refine ⟨fun _ _ => ?_, trivial⟩
   (repeat(apply And.intro;focus(and_intros<;>first|trivial|rfl)))
   refine ⟨fun q2 hq2 => ?_, trivial⟩
   obtain ⟨d1, d2⟩ := payD_fun hq hq2
   (repeat(apply And.intro;focus(and_intros<;>first|trivial|rfl)))
   refine ⟨fun _ _ => ?_, trivial⟩
   refine ⟨(), ?_⟩
   (and_intros<;>first|trivial|rfl)
  ·have her : er.k ≠ 0 := by
    rcases her with ⟨_, _, _, _, h⟩ | ⟨_, _, h⟩
    ·have h : er.k = 10 := h
     omega
    ·have h : er.k = 21 := h
     omega
   exact absurd her hne
set_option maxHeartbeats 16000000 in
theorem rl4 (x4 : Int) (y4 : Int) (x1 : Int) (y1 : Int) (x2 : Int) (y2 : Int) (x3 : Int) (y3 : Int) (p1 : PoA) (p2 : PoA) (p3 : PoA) (p4 : PoA) (g1 : RuA) (g2 : RuA) (g3 : RuA) (g4 : RuA) (a : BkA) (w17 : Option AO) (w18 : Option AO) (w19 : Option AO) (w20 : Option AO) (w21 : Option AO) (p9 : PoA) (g9 : RuA) (i : Int) (G1 : isGx g1 p1) (X1 : smQ x1) (Y1 : smQ y1) (G2 : isGx g2 p2) (X2 : smQ x2) (Y2 : smQ y2) (G3 : isGx g3 p3) (X3 : smQ x3) (Y3 : smQ y3) (G4 : isGx g4 p4) (X4 : smQ x4) (Y4 : smQ y4) (S9 : stQ g9 p9) (hp : 0 <= a.p /\ a.p < 65536) (hq0 : 0 <= a.q /\ a.q < 65536) : RL4 x4 y4 x1 y1 x2 y2 x3 y3 p1 p2 p3 p4 g1 g2 g3 g4 a w17 w18 w19 w20 w21 p9 := by
 have Gx1 := G1
 have Xx1 := X1
 have Yx1 := Y1
 obtain ⟨k1, j1, h1⟩ := G1
 obtain ⟨v11, v12, v13, v14, v15, v16, v17, v18, v19, v110, v111⟩ := flG_of h1
 obtain ⟨s11, s12⟩ := X1
 obtain ⟨s13, s14⟩ := Y1
 have Gx2 := G2
 have Xx2 := X2
 have Yx2 := Y2
 obtain ⟨k2, j2, h2⟩ := G2
 obtain ⟨v21, v22, v23, v24, v25, v26, v27, v28, v29, v210, v211⟩ := flG_of h2
 obtain ⟨s21, s22⟩ := X2
 obtain ⟨s23, s24⟩ := Y2
 have Gx3 := G3
 have Xx3 := X3
 have Yx3 := Y3
 obtain ⟨k3, j3, h3⟩ := G3
 obtain ⟨v31, v32, v33, v34, v35, v36, v37, v38, v39, v310, v311⟩ := flG_of h3
 obtain ⟨s31, s32⟩ := X3
 obtain ⟨s33, s34⟩ := Y3
 have Gx4 := G4
 have Xx4 := X4
 have Yx4 := Y4
 obtain ⟨k4, j4, h4⟩ := G4
 obtain ⟨v41, v42, v43, v44, v45, v46, v47, v48, v49, v410, v411⟩ := flG_of h4
 obtain ⟨s41, s42⟩ := X4
 obtain ⟨s43, s44⟩ := Y4
 have f12 := fl11
 have f13 := fl00
 have gl0 : FlatL cells0 := flatAll (by kernel_rfl)
 have gl1 : FlatL cells1 := flatAll (by kernel_rfl)
 have gl2 : FlatL cells2 := flatAll (by kernel_rfl)
 have gl4 : FlatL cells4 := flatAll (by kernel_rfl)
 have gl5 : FlatL cells5 := flatAll (by kernel_rfl)
 have gl6 : FlatL cells6 := flatAll (by kernel_rfl)
 have gl8 : FlatL cells8 := flatAll (by kernel_rfl)
 have gl9 : FlatL cells9 := flatAll (by kernel_rfl)
 have gl10 : FlatL cells10 := flatAll (by kernel_rfl)
 have S9x := S9
 obtain ⟨k9, h9⟩ := S9
 obtain ⟨v91, v92, v93, v94, v95, v96, v97, v98, v99, v910, v911⟩ := flG_of h9
 have G9 : isGx g9 p9 := ⟨k9, 0, h9⟩
 have t4 := fl2t x4 y4
 unfold RL4
 (repeat(apply And.intro;focus(and_intros<;>first|trivial|rfl)))
 refine ⟨fun _ _ => ?_, trivial⟩
 (repeat(apply And.intro;focus(and_intros<;>first|trivial|rfl)))
 refine ⟨fun q hq => ?_, trivial⟩
 (repeat(apply And.intro;focus(and_intros<;>first|trivial|rfl)))
 intro y1_ e1 y2_ e2
 rw [wr64 (by omega)] at e1
 rw [wr64 (by omega)] at e2
 have Q1 : smQ y1_ := smI (by omega) (by omega)
 have Q2 : smQ y2_ := smI (by omega) (by omega)
 have Q3 := Q1.1
 have Q4 := Q1.2
 have Q5 := Q2.1
 have Q6 := Q2.2
 (repeat(apply And.intro;focus(and_intros<;>first|trivial|rfl)))
 refine ⟨⟨trivial, k4, j4, h4.1, h4.2.2⟩, by (and_intros<;>first|trivial|rfl), fun _ _ => ?_, trivial⟩
 (repeat(apply And.intro;focus(and_intros<;>first|trivial|rfl)))
 refine ⟨⟨trivial, ⟨Nat.le_refl _, Nat.le_refl _, t4⟩, x4, y4, rfl⟩, by (and_intros<;>first|trivial|rfl), fun a1 ha1 => ?_, trivial⟩
 obtain ⟨a11, a12⟩ := lw2 ha1
 (repeat(apply And.intro;focus(and_intros<;>first|trivial|rfl)))
 refine ⟨fun _ _ => ?_, trivial⟩
 (repeat(apply And.intro;focus(and_intros<;>first|trivial|rfl)))
 refine ⟨fun _ _ => ?_, trivial⟩
 (repeat(apply And.intro;focus(and_intros<;>first|trivial|rfl)))
 refine ⟨fun _ _ => ?_, trivial⟩
 (repeat(apply And.intro;focus(and_intros<;>first|trivial|rfl)))
 refine ⟨fun q2 hq2 => ?_, trivial⟩
 obtain ⟨d1, d2⟩ := payD_fun hq hq2
 (repeat(apply And.intro;focus(and_intros<;>first|trivial|rfl)))
 refine ⟨fun _ _ => ?_, trivial⟩
 refine ⟨(), ?_⟩
 (and_intros<;>first|trivial|rfl)
set_option maxHeartbeats 8000000 in
theorem g_back (a : BkA) (hw : 0 <= a.w /\ a.w < 256) (hn : 0 <= a.n /\ a.n < 256) (hx : 0 <= a.x /\ a.x < 65536) (hy : 0 <= a.y /\ a.y < 65536) (hp : 0 <= a.p /\ a.p < 65536) (hq0 : 0 <= a.q /\ a.q < 65536) (hacts : actsX a.v a.l) : GW (G_back a) := by
 have f12 := fl11
 have f13 := fl00
 have hla : (a.l : Int) <= 9223372036854775807 := by have := hacts.1; omega
 have gl0 : FlatL cells0 := flatAll (by kernel_rfl)
 have gl1 : FlatL cells1 := flatAll (by kernel_rfl)
 have gl2 : FlatL cells2 := flatAll (by kernel_rfl)
 have gl4 : FlatL cells4 := flatAll (by kernel_rfl)
 have gl5 : FlatL cells5 := flatAll (by kernel_rfl)
 have gl6 : FlatL cells6 := flatAll (by kernel_rfl)
 have gl8 : FlatL cells8 := flatAll (by kernel_rfl)
 have gl9 : FlatL cells9 := flatAll (by kernel_rfl)
 have gl10 : FlatL cells10 := flatAll (by kernel_rfl)
 refine ⟨?_⟩
 rw [vc_back]
 (repeat(apply And.intro;focus(and_intros<;>first|trivial|rfl)))
 refine ⟨fun _ _ => ?_, trivial⟩
 (repeat(apply And.intro;focus(and_intros<;>first|trivial|rfl)))
 refine ⟨⟨trivial, hacts⟩, by (and_intros<;>first|trivial|rfl), fun _ _ => ?_, fun _ hl => ?_, trivial⟩
 ·(repeat(apply And.intro;focus(and_intros<;>first|trivial|rfl)))
  refine ⟨fun _ _ => ?_, trivial⟩
  (repeat(apply And.intro;focus(and_intros<;>first|trivial|rfl)))
  refine ⟨(), ?_⟩
  (and_intros<;>first|trivial|rfl)
 (repeat(apply And.intro;focus(and_intros<;>first|trivial|rfl)))
 refine ⟨⟨trivial, hw, hx, hy⟩, by (and_intros<;>first|trivial|rfl), fun b hb => ?_, trivial⟩
 obtain ⟨k0, -, -, hi0⟩ := hb
 (repeat(apply And.intro;focus(and_intros<;>first|trivial|rfl)))
 refine ⟨⟨trivial, hn⟩, by (and_intros<;>first|trivial|rfl), fun c hc => ?_, trivial⟩
 obtain ⟨n0, -, -, hj0⟩ := hc
 (repeat(apply And.intro;focus(and_intros<;>first|trivial|rfl)))
 intro x13 e13
 refine ⟨⟨⟨⟨⟨b.g, b.p, a.x, a.y⟩, ⟨b.g, b.p, a.x, a.y⟩, ⟨b.g, b.p, a.x, a.y⟩, ⟨b.g, b.p, a.x, a.y⟩⟩, 0, c.g, c.p⟩, ⟨monI (d := 1) (e := ⟨⟨⟨b.g, b.p, a.x, a.y⟩, ⟨b.g, b.p, a.x, a.y⟩, ⟨b.g, b.p, a.x, a.y⟩, ⟨b.g, b.p, a.x, a.y⟩⟩, 0⟩) ⟨Int.le_refl _, by show (0 : Int) <= a.l; omega⟩ ⟨⟨k0, 0, hi0⟩, smI hx.1 (show a.x <= 1000000 by omega), smI hy.1 (show a.y <= 1000000 by omega)⟩ rfl, n0, hj0⟩, ?_⟩, fun e he => ?_, fun e he => ?_, fun e he => ?_, fun e he => ?_, trivial⟩
 ·obtain ⟨g1, g2, g3, g4, g5, g6, g7, g8, g9, g10, g11⟩ := flG_of hi0
  obtain ⟨i1, i2, i3, i4, i5, i6, i7, i8, i9, i10, i11⟩ := flG_of hj0
  have e13 := e13.symm
  (and_intros<;>first|trivial|rfl)
 ·obtain ⟨t, i, gg, pp⟩ := e
  obtain ⟨⟨⟨i1, i2⟩, ok, tot⟩, hst⟩ := he
  have i1 : 0 <= i := i1
  have i2 : i <= a.l := i2
  have hst : stQ gg pp := hst
  obtain ⟨n9, h9⟩ := id hst
  obtain ⟨v91, v92, v93, v94, v95, v96, v97, v98, v99, v910, v911⟩ := flG_of h9
  have tot : (t.a.x + t.a.y) = a.x + a.y := tot
  obtain ⟨⟨k1, j1, h1⟩, ⟨s11, s12⟩, s13, s14⟩ := ok
  have h1 : isG t.a.g t.a.p k1 j1 := h1
  have s11 : 0 <= t.a.x := s11
  have s12 : t.a.x <= 1000000 := s12
  have s13 : 0 <= t.a.y := s13
  have s14 : t.a.y <= 1000000 := s14
  obtain ⟨v11, v12, v13, v14, v15, v16, v17, v18, v19, v110, v111⟩ := flG_of h1
  refine ⟨fun hlt => ?_, fun hlt => ?_⟩
  rotate_left
  ·exact rl1 _ _ _ _ _ _ _ _ _ _ _ _ _ _ _ _ _ _ _ _ _ _ _ _ _ _ _ _ i ⟨k1, j1, h1⟩ ⟨s11, s12⟩ ⟨s13, s14⟩ hst hp hq0
  have hlt : i < a.l := hlt
  obtain ⟨b1, o1, hv, w1, t1, z1, v1, va, vl, vc, ⟨q1, q2, q3, q4, q5⟩, ⟨r1, r2, r3⟩, htwo⟩ := hacts.2 i.toNat (by omega)
  refine ⟨⟨i1, hlt⟩, b1, o1, hv, fun p ep => ⟨w1, by rw [ep]; exact q1, t1, by rw [ep]; exact q2, z1, by rw [ep]; exact q3, v1, by rw [ep]; exact q4, va, vl, vc, by rw [ep]; exact q5, ?_⟩⟩
  (repeat(apply And.intro;focus(and_intros<;>first|trivial|rfl)))
  refine ⟨⟨trivial, ⟨k1, j1, h1⟩, ⟨⟨⟨s11, s12⟩, s13, s14⟩, ⟨smI (Int.le_refl _) (by decide), smI (Int.le_refl _) (by decide)⟩⟩, ⟨r1, r2, r3⟩, htwo⟩, by (and_intros<;>first|trivial|rfl), fun m hm => ?_, fun er her => ?_, fun g hg => ?_, trivial⟩
  ·obtain ⟨k9, j9, m9, i91, -, i93⟩ := hm
   exact ta1 _ _ _ _ _ _ _ _ i1 hlt hla ⟨k9, m9, i93⟩ ⟨s11, s12⟩ ⟨s13, s14⟩ hst (by show (t.a.x + t.a.y) = a.x + a.y; omega)
  ·skip
   exact ta1 _ _ _ _ _ _ _ _ i1 hlt hla ⟨k1, j1, h1⟩ ⟨s11, s12⟩ ⟨s13, s14⟩ hst (by show (t.a.x + t.a.y) = a.x + a.y; omega)
  ·obtain ⟨⟨-, hgx, -, ⟨b91, b92⟩, b93, b94⟩, hu, hv2⟩ := hg
   have b91 : 0 <= g.b.x := b91
   have b93 : 0 <= g.b.y := b93
   have b92 : g.b.x <= t.a.x := b92
   have b94 : g.b.y <= t.a.y := b94
   have hu : g.u = t.a.x - g.b.x := hu
   have hv2 : g.v = t.a.y - g.b.y := hv2
   exact ta2 _ _ _ _ _ _ _ _ _ _ _ _ i1 hlt hla ⟨k1, j1, h1⟩ (smI (show 0 <= g.u by omega) (show g.u <= 1000000 by omega)) (smI (show 0 <= g.v by omega) (show g.v <= 1000000 by omega)) hgx (smI (show 0 <= g.b.x by omega) (show g.b.x <= 1000000 by omega)) (smI (show 0 <= g.b.y by omega) (show g.b.y <= 1000000 by omega)) hst (by show (g.u + g.v) + (g.b.x + g.b.y) = a.x + a.y; omega)
 ·obtain ⟨t, i, gg, pp⟩ := e
  obtain ⟨⟨⟨i1, i2⟩, ok, tot⟩, hst⟩ := he
  have i1 : 0 <= i := i1
  have i2 : i <= a.l := i2
  have hst : stQ gg pp := hst
  obtain ⟨n9, h9⟩ := id hst
  obtain ⟨v91, v92, v93, v94, v95, v96, v97, v98, v99, v910, v911⟩ := flG_of h9
  have tot : (t.a.x + t.a.y) + (t.b.x + t.b.y) = a.x + a.y := tot
  obtain ⟨⟨⟨k1, j1, h1⟩, ⟨s11, s12⟩, s13, s14⟩, ⟨⟨k2, j2, h2⟩, ⟨s21, s22⟩, s23, s24⟩⟩ := ok
  have h1 : isG t.a.g t.a.p k1 j1 := h1
  have s11 : 0 <= t.a.x := s11
  have s12 : t.a.x <= 1000000 := s12
  have s13 : 0 <= t.a.y := s13
  have s14 : t.a.y <= 1000000 := s14
  obtain ⟨v11, v12, v13, v14, v15, v16, v17, v18, v19, v110, v111⟩ := flG_of h1
  have h2 : isG t.b.g t.b.p k2 j2 := h2
  have s21 : 0 <= t.b.x := s21
  have s22 : t.b.x <= 1000000 := s22
  have s23 : 0 <= t.b.y := s23
  have s24 : t.b.y <= 1000000 := s24
  obtain ⟨v21, v22, v23, v24, v25, v26, v27, v28, v29, v210, v211⟩ := flG_of h2
  refine ⟨fun hlt => ?_, fun hlt => ?_⟩
  rotate_left
  ·exact rl2 _ _ _ _ _ _ _ _ _ _ _ _ _ _ _ _ _ _ _ _ _ _ _ _ _ _ _ _ _ _ _ _ i ⟨k1, j1, h1⟩ ⟨s11, s12⟩ ⟨s13, s14⟩ ⟨k2, j2, h2⟩ ⟨s21, s22⟩ ⟨s23, s24⟩ hst hp hq0
  have hlt : i < a.l := hlt
  obtain ⟨b1, o1, hv, w1, t1, z1, v1, va, vl, vc, ⟨q1, q2, q3, q4, q5⟩, ⟨r1, r2, r3⟩, htwo⟩ := hacts.2 i.toNat (by omega)
  refine ⟨⟨i1, hlt⟩, b1, o1, hv, fun p ep => ⟨w1, by rw [ep]; exact q1, t1, by rw [ep]; exact q2, z1, by rw [ep]; exact q3, v1, by rw [ep]; exact q4, va, vl, vc, by rw [ep]; exact q5, ?_⟩⟩
  (repeat(apply And.intro;focus(and_intros<;>first|trivial|rfl)))
  refine ⟨⟨trivial, ⟨k2, j2, h2⟩, ⟨⟨⟨s21, s22⟩, s23, s24⟩, ⟨⟨s11, s12⟩, s13, s14⟩⟩, ⟨r1, r2, r3⟩, htwo⟩, by (and_intros<;>first|trivial|rfl), fun m hm => ?_, fun er her => ?_, fun g hg => ?_, fun z hz => ?_, trivial⟩
  ·obtain ⟨k9, j9, m9, i91, -, i93⟩ := hm
   exact ta2 _ _ _ _ _ _ _ _ _ _ _ _ i1 hlt hla ⟨k1, j1, h1⟩ ⟨s11, s12⟩ ⟨s13, s14⟩ ⟨k9, m9, i93⟩ ⟨s21, s22⟩ ⟨s23, s24⟩ hst (by show (t.a.x + t.a.y) + (t.b.x + t.b.y) = a.x + a.y; omega)
  ·skip
   exact ta2 _ _ _ _ _ _ _ _ _ _ _ _ i1 hlt hla ⟨k1, j1, h1⟩ ⟨s11, s12⟩ ⟨s13, s14⟩ ⟨k2, j2, h2⟩ ⟨s21, s22⟩ ⟨s23, s24⟩ hst (by show (t.a.x + t.a.y) + (t.b.x + t.b.y) = a.x + a.y; omega)
  ·obtain ⟨⟨-, hgx, -, ⟨b91, b92⟩, b93, b94⟩, hu, hv2⟩ := hg
   have b91 : 0 <= g.b.x := b91
   have b93 : 0 <= g.b.y := b93
   have b92 : g.b.x <= t.b.x := b92
   have b94 : g.b.y <= t.b.y := b94
   have hu : g.u = t.b.x - g.b.x := hu
   have hv2 : g.v = t.b.y - g.b.y := hv2
   exact ta3 _ _ _ _ _ _ _ _ _ _ _ _ _ _ _ _ i1 hlt hla ⟨k1, j1, h1⟩ ⟨s11, s12⟩ ⟨s13, s14⟩ ⟨k2, j2, h2⟩ (smI (show 0 <= g.u by omega) (show g.u <= 1000000 by omega)) (smI (show 0 <= g.v by omega) (show g.v <= 1000000 by omega)) hgx (smI (show 0 <= g.b.x by omega) (show g.b.x <= 1000000 by omega)) (smI (show 0 <= g.b.y by omega) (show g.b.y <= 1000000 by omega)) hst (by show (t.a.x + t.a.y) + (g.u + g.v) + (g.b.x + g.b.y) = a.x + a.y; omega)
  ·obtain ⟨⟨-, k9, j9, -, -, hpay⟩, hu, hv2⟩ := hz
   obtain ⟨⟨z91, z92⟩, z93⟩ := payR_ok hpay (by show 0 <= t.b.x + t.b.y; omega)
   have z93 : z.b.x + z.b.y = t.b.x + t.b.y := z93
   have z91 : 0 <= z.b.x := z91
   have z92 : 0 <= z.b.y := z92
   have hu : z.u = t.a.x + z.b.x := hu
   have hv2 : z.v = t.a.y + z.b.y := hv2
   exact ta1 _ _ _ _ _ _ _ _ i1 hlt hla ⟨k1, j1, h1⟩ (smI (show 0 <= z.u by omega) (show z.u <= 1000000 by omega)) (smI (show 0 <= z.v by omega) (show z.v <= 1000000 by omega)) hst (by show (z.u + z.v) = a.x + a.y; omega)
 ·obtain ⟨t, i, gg, pp⟩ := e
  obtain ⟨⟨⟨i1, i2⟩, ok, tot⟩, hst⟩ := he
  have i1 : 0 <= i := i1
  have i2 : i <= a.l := i2
  have hst : stQ gg pp := hst
  obtain ⟨n9, h9⟩ := id hst
  obtain ⟨v91, v92, v93, v94, v95, v96, v97, v98, v99, v910, v911⟩ := flG_of h9
  have tot : (t.a.x + t.a.y) + (t.b.x + t.b.y) + (t.c.x + t.c.y) = a.x + a.y := tot
  obtain ⟨⟨⟨k1, j1, h1⟩, ⟨s11, s12⟩, s13, s14⟩, ⟨⟨k2, j2, h2⟩, ⟨s21, s22⟩, s23, s24⟩, ⟨⟨k3, j3, h3⟩, ⟨s31, s32⟩, s33, s34⟩⟩ := ok
  have h1 : isG t.a.g t.a.p k1 j1 := h1
  have s11 : 0 <= t.a.x := s11
  have s12 : t.a.x <= 1000000 := s12
  have s13 : 0 <= t.a.y := s13
  have s14 : t.a.y <= 1000000 := s14
  obtain ⟨v11, v12, v13, v14, v15, v16, v17, v18, v19, v110, v111⟩ := flG_of h1
  have h2 : isG t.b.g t.b.p k2 j2 := h2
  have s21 : 0 <= t.b.x := s21
  have s22 : t.b.x <= 1000000 := s22
  have s23 : 0 <= t.b.y := s23
  have s24 : t.b.y <= 1000000 := s24
  obtain ⟨v21, v22, v23, v24, v25, v26, v27, v28, v29, v210, v211⟩ := flG_of h2
  have h3 : isG t.c.g t.c.p k3 j3 := h3
  have s31 : 0 <= t.c.x := s31
  have s32 : t.c.x <= 1000000 := s32
  have s33 : 0 <= t.c.y := s33
  have s34 : t.c.y <= 1000000 := s34
  obtain ⟨v31, v32, v33, v34, v35, v36, v37, v38, v39, v310, v311⟩ := flG_of h3
  refine ⟨fun hlt => ?_, fun hlt => ?_⟩
  rotate_left
  ·exact rl3 _ _ _ _ _ _ _ _ _ _ _ _ _ _ _ _ _ _ _ _ _ _ _ _ _ _ _ _ _ _ _ _ _ _ _ _ i ⟨k1, j1, h1⟩ ⟨s11, s12⟩ ⟨s13, s14⟩ ⟨k2, j2, h2⟩ ⟨s21, s22⟩ ⟨s23, s24⟩ ⟨k3, j3, h3⟩ ⟨s31, s32⟩ ⟨s33, s34⟩ hst hp hq0
  have hlt : i < a.l := hlt
  obtain ⟨b1, o1, hv, w1, t1, z1, v1, va, vl, vc, ⟨q1, q2, q3, q4, q5⟩, ⟨r1, r2, r3⟩, htwo⟩ := hacts.2 i.toNat (by omega)
  refine ⟨⟨i1, hlt⟩, b1, o1, hv, fun p ep => ⟨w1, by rw [ep]; exact q1, t1, by rw [ep]; exact q2, z1, by rw [ep]; exact q3, v1, by rw [ep]; exact q4, va, vl, vc, by rw [ep]; exact q5, ?_⟩⟩
  (repeat(apply And.intro;focus(and_intros<;>first|trivial|rfl)))
  refine ⟨⟨trivial, ⟨k3, j3, h3⟩, ⟨⟨⟨s31, s32⟩, s33, s34⟩, ⟨⟨s21, s22⟩, s23, s24⟩⟩, ⟨r1, r2, r3⟩, htwo⟩, by (and_intros<;>first|trivial|rfl), fun m hm => ?_, fun er her => ?_, fun g hg => ?_, fun z hz => ?_, trivial⟩
  ·obtain ⟨k9, j9, m9, i91, -, i93⟩ := hm
   exact ta3 _ _ _ _ _ _ _ _ _ _ _ _ _ _ _ _ i1 hlt hla ⟨k1, j1, h1⟩ ⟨s11, s12⟩ ⟨s13, s14⟩ ⟨k2, j2, h2⟩ ⟨s21, s22⟩ ⟨s23, s24⟩ ⟨k9, m9, i93⟩ ⟨s31, s32⟩ ⟨s33, s34⟩ hst (by show (t.a.x + t.a.y) + (t.b.x + t.b.y) + (t.c.x + t.c.y) = a.x + a.y; omega)
  ·skip
   exact ta3 _ _ _ _ _ _ _ _ _ _ _ _ _ _ _ _ i1 hlt hla ⟨k1, j1, h1⟩ ⟨s11, s12⟩ ⟨s13, s14⟩ ⟨k2, j2, h2⟩ ⟨s21, s22⟩ ⟨s23, s24⟩ ⟨k3, j3, h3⟩ ⟨s31, s32⟩ ⟨s33, s34⟩ hst (by show (t.a.x + t.a.y) + (t.b.x + t.b.y) + (t.c.x + t.c.y) = a.x + a.y; omega)
  ·obtain ⟨⟨-, hgx, -, ⟨b91, b92⟩, b93, b94⟩, hu, hv2⟩ := hg
   have b91 : 0 <= g.b.x := b91
   have b93 : 0 <= g.b.y := b93
   have b92 : g.b.x <= t.c.x := b92
   have b94 : g.b.y <= t.c.y := b94
   have hu : g.u = t.c.x - g.b.x := hu
   have hv2 : g.v = t.c.y - g.b.y := hv2
   exact ta4 _ _ _ _ _ _ _ _ _ _ _ _ _ _ _ _ _ _ _ _ i1 hlt hla ⟨k1, j1, h1⟩ ⟨s11, s12⟩ ⟨s13, s14⟩ ⟨k2, j2, h2⟩ ⟨s21, s22⟩ ⟨s23, s24⟩ ⟨k3, j3, h3⟩ (smI (show 0 <= g.u by omega) (show g.u <= 1000000 by omega)) (smI (show 0 <= g.v by omega) (show g.v <= 1000000 by omega)) hgx (smI (show 0 <= g.b.x by omega) (show g.b.x <= 1000000 by omega)) (smI (show 0 <= g.b.y by omega) (show g.b.y <= 1000000 by omega)) hst (by show (t.a.x + t.a.y) + (t.b.x + t.b.y) + (g.u + g.v) + (g.b.x + g.b.y) = a.x + a.y; omega)
  ·obtain ⟨⟨-, k9, j9, -, -, hpay⟩, hu, hv2⟩ := hz
   obtain ⟨⟨z91, z92⟩, z93⟩ := payR_ok hpay (by show 0 <= t.c.x + t.c.y; omega)
   have z93 : z.b.x + z.b.y = t.c.x + t.c.y := z93
   have z91 : 0 <= z.b.x := z91
   have z92 : 0 <= z.b.y := z92
   have hu : z.u = t.b.x + z.b.x := hu
   have hv2 : z.v = t.b.y + z.b.y := hv2
   exact ta2 _ _ _ _ _ _ _ _ _ _ _ _ i1 hlt hla ⟨k1, j1, h1⟩ ⟨s11, s12⟩ ⟨s13, s14⟩ ⟨k2, j2, h2⟩ (smI (show 0 <= z.u by omega) (show z.u <= 1000000 by omega)) (smI (show 0 <= z.v by omega) (show z.v <= 1000000 by omega)) hst (by show (t.a.x + t.a.y) + (z.u + z.v) = a.x + a.y; omega)
 ·obtain ⟨t, i, gg, pp⟩ := e
  obtain ⟨⟨⟨i1, i2⟩, ok, tot⟩, hst⟩ := he
  have i1 : 0 <= i := i1
  have i2 : i <= a.l := i2
  have hst : stQ gg pp := hst
  obtain ⟨n9, h9⟩ := id hst
  obtain ⟨v91, v92, v93, v94, v95, v96, v97, v98, v99, v910, v911⟩ := flG_of h9
  have tot : (t.a.x + t.a.y) + (t.b.x + t.b.y) + (t.c.x + t.c.y) + (t.e.x + t.e.y) = a.x + a.y := tot
  obtain ⟨⟨⟨k1, j1, h1⟩, ⟨s11, s12⟩, s13, s14⟩, ⟨⟨k2, j2, h2⟩, ⟨s21, s22⟩, s23, s24⟩, ⟨⟨k3, j3, h3⟩, ⟨s31, s32⟩, s33, s34⟩, ⟨⟨k4, j4, h4⟩, ⟨s41, s42⟩, s43, s44⟩⟩ := ok
  have h1 : isG t.a.g t.a.p k1 j1 := h1
  have s11 : 0 <= t.a.x := s11
  have s12 : t.a.x <= 1000000 := s12
  have s13 : 0 <= t.a.y := s13
  have s14 : t.a.y <= 1000000 := s14
  obtain ⟨v11, v12, v13, v14, v15, v16, v17, v18, v19, v110, v111⟩ := flG_of h1
  have h2 : isG t.b.g t.b.p k2 j2 := h2
  have s21 : 0 <= t.b.x := s21
  have s22 : t.b.x <= 1000000 := s22
  have s23 : 0 <= t.b.y := s23
  have s24 : t.b.y <= 1000000 := s24
  obtain ⟨v21, v22, v23, v24, v25, v26, v27, v28, v29, v210, v211⟩ := flG_of h2
  have h3 : isG t.c.g t.c.p k3 j3 := h3
  have s31 : 0 <= t.c.x := s31
  have s32 : t.c.x <= 1000000 := s32
  have s33 : 0 <= t.c.y := s33
  have s34 : t.c.y <= 1000000 := s34
  obtain ⟨v31, v32, v33, v34, v35, v36, v37, v38, v39, v310, v311⟩ := flG_of h3
  have h4 : isG t.e.g t.e.p k4 j4 := h4
  have s41 : 0 <= t.e.x := s41
  have s42 : t.e.x <= 1000000 := s42
  have s43 : 0 <= t.e.y := s43
  have s44 : t.e.y <= 1000000 := s44
  obtain ⟨v41, v42, v43, v44, v45, v46, v47, v48, v49, v410, v411⟩ := flG_of h4
  refine ⟨fun hlt => ?_, fun hlt => ?_⟩
  rotate_left
  ·exact rl4 _ _ _ _ _ _ _ _ _ _ _ _ _ _ _ _ _ _ _ _ _ _ _ _ i ⟨k1, j1, h1⟩ ⟨s11, s12⟩ ⟨s13, s14⟩ ⟨k2, j2, h2⟩ ⟨s21, s22⟩ ⟨s23, s24⟩ ⟨k3, j3, h3⟩ ⟨s31, s32⟩ ⟨s33, s34⟩ ⟨k4, j4, h4⟩ ⟨s41, s42⟩ ⟨s43, s44⟩ hst hp hq0
  have hlt : i < a.l := hlt
  obtain ⟨b1, o1, hv, w1, t1, z1, v1, va, vl, vc, ⟨q1, q2, q3, q4, q5⟩, ⟨r1, r2, r3⟩, htwo⟩ := hacts.2 i.toNat (by omega)
  refine ⟨⟨i1, hlt⟩, b1, o1, hv, fun p ep => ⟨w1, by rw [ep]; exact q1, t1, by rw [ep]; exact q2, z1, by rw [ep]; exact q3, v1, by rw [ep]; exact q4, va, vl, vc, by rw [ep]; exact q5, ?_⟩⟩
  (repeat(apply And.intro;focus(and_intros<;>first|trivial|rfl)))
  refine ⟨⟨trivial, ⟨k4, j4, h4⟩, ⟨⟨⟨s41, s42⟩, s43, s44⟩, ⟨⟨s31, s32⟩, s33, s34⟩⟩, ⟨r1, r2, r3⟩, htwo⟩, by (and_intros<;>first|trivial|rfl), fun m hm => ?_, fun er her => ?_, fun z hz => ?_, trivial⟩
  ·obtain ⟨k9, j9, m9, i91, -, i93⟩ := hm
   exact ta4 _ _ _ _ _ _ _ _ _ _ _ _ _ _ _ _ _ _ _ _ i1 hlt hla ⟨k1, j1, h1⟩ ⟨s11, s12⟩ ⟨s13, s14⟩ ⟨k2, j2, h2⟩ ⟨s21, s22⟩ ⟨s23, s24⟩ ⟨k3, j3, h3⟩ ⟨s31, s32⟩ ⟨s33, s34⟩ ⟨k9, m9, i93⟩ ⟨s41, s42⟩ ⟨s43, s44⟩ hst (by show (t.a.x + t.a.y) + (t.b.x + t.b.y) + (t.c.x + t.c.y) + (t.e.x + t.e.y) = a.x + a.y; omega)
  ·skip
   exact ta4 _ _ _ _ _ _ _ _ _ _ _ _ _ _ _ _ _ _ _ _ i1 hlt hla ⟨k1, j1, h1⟩ ⟨s11, s12⟩ ⟨s13, s14⟩ ⟨k2, j2, h2⟩ ⟨s21, s22⟩ ⟨s23, s24⟩ ⟨k3, j3, h3⟩ ⟨s31, s32⟩ ⟨s33, s34⟩ ⟨k4, j4, h4⟩ ⟨s41, s42⟩ ⟨s43, s44⟩ hst (by show (t.a.x + t.a.y) + (t.b.x + t.b.y) + (t.c.x + t.c.y) + (t.e.x + t.e.y) = a.x + a.y; omega)
  ·obtain ⟨⟨-, k9, j9, -, -, hpay⟩, hu, hv2⟩ := hz
   obtain ⟨⟨z91, z92⟩, z93⟩ := payR_ok hpay (by show 0 <= t.e.x + t.e.y; omega)
   have z93 : z.b.x + z.b.y = t.e.x + t.e.y := z93
   have z91 : 0 <= z.b.x := z91
   have z92 : 0 <= z.b.y := z92
   have hu : z.u = t.c.x + z.b.x := hu
   have hv2 : z.v = t.c.y + z.b.y := hv2
   exact ta3 _ _ _ _ _ _ _ _ _ _ _ _ _ _ _ _ i1 hlt hla ⟨k1, j1, h1⟩ ⟨s11, s12⟩ ⟨s13, s14⟩ ⟨k2, j2, h2⟩ ⟨s21, s22⟩ ⟨s23, s24⟩ ⟨k3, j3, h3⟩ (smI (show 0 <= z.u by omega) (show z.u <= 1000000 by omega)) (smI (show 0 <= z.v by omega) (show z.v <= 1000000 by omega)) hst (by show (t.a.x + t.a.y) + (t.b.x + t.b.y) + (z.u + z.v) = a.x + a.y; omega)
theorem cwBk_ok : CwOK Tryz.prog (cwX cwBk 5) := cwX_ok (fun _ h => cwD_ok s_known (cwD_ok s_few (cwD_ok s_begin (cwE_ok s_doM1 (cwE_ok s_doM2 (cwE_ok s_doM3 (cwE_ok s_doM4 (cwE_ok s_held1 (cwE_ok s_held2 (cwE_ok s_held3 (cwE_ok s_held4 (cwE_ok (S := S_paysE 0) s_pays0 (cwE_ok (S := S_paysE 1) s_pays1 (cwE_ok (S := S_paysE 2) s_pays2 (cwE_ok (S := S_paysE 3) s_pays3
 (cwD_ok s_startG (cwE_ok s_pushO1 (cwE_ok s_pushO2 (cwE_ok s_pushO3 (cwE_ok s_pushO4 (cwD_ok s_gclone (cwE_ok s_cl2 (cwD_ok s_lsame h))))))))))))))))))))))) 5
theorem s_back : SpecOK Tryz.prog S_back.spec := fun a => specG_at (an := [some (la_back a)]) envOK cwBk_ok fun hp => g_back a hp.1.1.1 hp.1.1.2 hp.1.2.1.1 hp.1.2.1.2 hp.1.2.2.1 hp.1.2.2.2 hp.2
end Go.Proofs.YtfkacmmcgncooaaGreatDoor
