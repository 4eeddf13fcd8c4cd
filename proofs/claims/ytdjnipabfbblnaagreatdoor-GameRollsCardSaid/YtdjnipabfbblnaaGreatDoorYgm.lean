/- Rules as they are made: what every such text wants. -/
import Derived.Test.YtdjnipabfbblnaaGreatDoorYgdP
section
set_option maxRecDepth 100000
namespace Go.Proofs.YtdjnipabfbblnaaGreatDoor
open Go.Ev
structure GW (p : Prop) : Prop where
  h : p
theorem hw_map {α : Type} {f : α → Value} (xs : List α) : HW f (xs.map f) xs := ⟨by simp, fun i x h => by
  left; rw [Nat.zero_add, List.getElem?_map, h]; rfl⟩
theorem sli_map {k : IntKind} {xs : List Int} {sz l kk : Nat} (hl : xs.length = l * sz) (hk : l ≤ kk) : Sli (Value.int k) sz false 0 l kk (xs.map (Value.int k)) xs := Sli.row (hw_map xs) hl hk (hw_map xs).flat
set_option linter.unusedSectionVars false
variable [Go.Ev.Frozen Tryz.prog]
noncomputable section
def gmL (a : GmA) (i : Nat) : List (Nat × PO) :=
  (i, .p (.row [unk, .slice (some ⟨i + 1, 0, none⟩) 2 2, unk, unk, unk, unk, unk, unk, unk, unk, .pointer (some ⟨i + 3, 0, none⟩), unk, a.cells.v (i + 2)] 101 .gro)) ::
  (i + 1, .f a.stakes.c 3 .gro) :: (i + 2, .f a.cells.c 138 .gro) :: cdR a.code (i + 3)
end
theorem specD_cw {cw : CW} (hcw : CwOK Tryz.prog cw) {S : SpecD} {a : S.α} (h : S.pre a → cw S.f (S.args a) (mem (S.R a) S.n) (endD Tryz.prog S a)) : SpecAt Tryz.prog S.spec a := fun K hp hq => by
  obtain ⟨v, A', he, hf⟩ := hcw _ _ _ _ (h hp)
  obtain ⟨o, ho, b, hQ, hs⟩ := outAt_some he
  exact ⟨_, _, _, outsW_mem hq o ho b hQ, flatR_rows (cpb_iff.1 hs).2.2, fnSem_seen rfl hf hs⟩
theorem specG_at {E : Env} {cw : CW} (hE : EnvOK Tryz.prog E) (hcw : CwOK Tryz.prog cw) {S : SpecD} {an : Anns} {a : S.α} (h : S.pre a → GW (fnW Tryz.prog E cw an S.f (S.args a) (mem (S.R a) S.n) (endD Tryz.prog S a))) : SpecAt Tryz.prog S.spec a := specD_at (an := an) hE hcw fun hp => (h hp).h
end Go.Proofs.YtdjnipabfbblnaaGreatDoor
end

/- Rules as they are made: a game's, as plain data, as its memory holds them. -/
section
set_option maxRecDepth 100000
namespace Go.Proofs.YtdjnipabfbblnaaGreatDoor
open Go.Ev
def XD : GX := ⟨2, 2, [1, 1], [0, 1, 0, 9], [0, 0], [], [0, 0, 0, 0], [2, 35, 0, 0, 20, 5, 35, 0, 1, 6, -1, 0, 0, 0, 0, 0, 19, 8, 0, 0, 1, 35, 0, 0, 2, 6, 35, 0, 0, 0, 0, 0, 0, 0, 0, 0], [1, 35, 1, 0, 17, 35, 0, 1, 2, 0, 35, 0, 1, 7, 1, 0, 1, 8, 6, 0, 0, 0, 0, 0], [1, 35, 1, 0, 17, 35, 0, 1, 2, 0, 35, 0, 0, 0, 0, 0], [2, 35, 1, 0, 1, 36, 2, 0, 7, 35, 35, 36, 18, 36, 35, 2, 5, 35, 35, 36, 2, 9, 35, 0, 0, 0, 0, 0], 8, 16, 16, 12, 15⟩
def sD : List Value := XD.stakes.map (Value.int .i64)
def cD : List Value := XD.cells.map (Value.int .i32)
def fD : List Value := XD.first.map (Value.int .i32)
def w0D : List Value := XD.w0.map (Value.int .i64)
def w1D : List Value := XD.w1.map (Value.int .i64)
def w2D : List Value := XD.w2.map (Value.int .i64)
def w3D : List Value := XD.w3.map (Value.int .i64)
def w4D : List Value := XD.w4.map (Value.int .i64)
def gD : GmA := ⟨⟨false, 0, 2, 2, sD⟩, ⟨false, 0, 2, 2, cD⟩, ⟨2, 2, ⟨false, 0, 2, 2, fD⟩, ⟨true, 0, 0, 0, []⟩,
  ⟨false, 0, 1, 1, w0D⟩, ⟨false, 0, 9, 9, w1D⟩, ⟨false, 0, 6, 6, w2D⟩, ⟨false, 0, 4, 4, w3D⟩, ⟨false, 0, 7, 7, w4D⟩,
  8, 16, 16, 12, 15⟩⟩
set_option linter.unusedSectionVars false
variable [Go.Ev.Frozen Tryz.prog]
theorem ghD : GH gD XD where
  ns := rfl
  nc := rfl
  stakes := sli_map rfl (Nat.le_of_ble_eq_true rfl)
  cells := sli_map rfl (Nat.le_of_ble_eq_true rfl)
  first := sli_map rfl (Nat.le_of_ble_eq_true rfl)
  params := ⟨rfl, (fun h => nomatch h), (fun _ => rfl), fun i p h => by simp [XD] at h⟩
  w0 := sli_map rfl (Nat.le_of_ble_eq_true rfl)
  w1 := sli_map rfl (Nat.le_of_ble_eq_true rfl)
  w2 := sli_map rfl (Nat.le_of_ble_eq_true rfl)
  w3 := sli_map rfl (Nat.le_of_ble_eq_true rfl)
  w4 := sli_map rfl (Nat.le_of_ble_eq_true rfl)
  m0 := rfl
  m1 := rfl
  m2 := rfl
  m3 := rfl
  m4 := rfl
theorem flD : gmF gD := ⟨ghD.stakes.flat, ghD.cells.flat, ghD.first.flat, flatL_nil, ghD.w0.flat, ghD.w1.flat, ghD.w2.flat, ghD.w3.flat, ghD.w4.flat⟩
theorem gokD : GOk gD := ⟨flD, ⟨⟨⟨of_decide_eq_true (by kernel_rfl), of_decide_eq_true (by kernel_rfl)⟩, of_decide_eq_true (by kernel_rfl), of_decide_eq_true (by kernel_rfl)⟩, flD.2.2⟩, rfl, rfl, rfl, of_decide_eq_true (by kernel_rfl), ⟨of_decide_eq_true (by kernel_rfl), of_decide_eq_true (by kernel_rfl), of_decide_eq_true (by kernel_rfl), of_decide_eq_true (by kernel_rfl), of_decide_eq_true (by kernel_rfl)⟩, XD, ghD, fun x hx => by
  have : ∀ z ∈ XD.first, -2147483648 ≤ z ∧ z ≤ 2147483647 := of_decide_eq_true (by kernel_rfl)
  exact this x hx⟩
end Go.Proofs.YtdjnipabfbblnaaGreatDoor
end
