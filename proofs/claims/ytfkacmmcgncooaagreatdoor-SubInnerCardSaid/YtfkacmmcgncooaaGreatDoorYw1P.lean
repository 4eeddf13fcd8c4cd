/- The law of money. -/
import Derived.Test.YtfkacmmcgncooaaGreatDoorYq2
set_option maxRecDepth 100000
namespace Go.Proofs.YtfkacmmcgncooaaGreatDoor
open Go.Ev
theorem smI {n : Int} (h : 0 ≤ n) (h' : n ≤ 1000000) : smQ n := ⟨h, h'⟩
variable [Frozen Tryz.prog]
theorem s_doM1 : SpecOK Tryz.prog S_doM1.spec := fun a K hp hq => spec_to (S := S_do1) (T := S_doM1) (a := a) (b := a) rfl rfl rfl rfl (s_do1 a) hp (fun _ hq => ⟨hq.1, hq.2.1, fun b hb => hq.2.2.1 ⟨b.g, b.p, b.b, _, _⟩ ⟨hb, rfl, rfl⟩, trivial⟩) K hp hq
theorem s_doM2 : SpecOK Tryz.prog S_doM2.spec := fun a K hp hq => spec_to (S := S_do2) (T := S_doM2) (a := a) (b := a) rfl rfl rfl rfl (s_do2 a) hp (fun _ hq => ⟨hq.1, hq.2.1, fun b hb => hq.2.2.1 ⟨b.g, b.p, b.b, _, _⟩ ⟨hb, rfl, rfl⟩, fun b hb => hq.2.2.2.1 ⟨b, _, _⟩ ⟨hb, rfl, rfl⟩, trivial⟩) K hp hq
theorem s_doM3 : SpecOK Tryz.prog S_doM3.spec := fun a K hp hq => spec_to (S := S_do3) (T := S_doM3) (a := a) (b := a) rfl rfl rfl rfl (s_do3 a) hp (fun _ hq => ⟨hq.1, hq.2.1, fun b hb => hq.2.2.1 ⟨b.g, b.p, b.b, _, _⟩ ⟨hb, rfl, rfl⟩, fun b hb => hq.2.2.2.1 ⟨b, _, _⟩ ⟨hb, rfl, rfl⟩, trivial⟩) K hp hq
theorem s_doM4 : SpecOK Tryz.prog S_doM4.spec := fun a K hp hq => spec_to (S := S_do4) (T := S_doM4) (a := a) (b := a) rfl rfl rfl rfl (s_do4 a) hp (fun _ hq => ⟨hq.1, hq.2.1, fun b hb => hq.2.2.1 ⟨b, _, _⟩ ⟨hb, rfl, rfl⟩, trivial⟩) K hp hq
end Go.Proofs.YtfkacmmcgncooaaGreatDoor
