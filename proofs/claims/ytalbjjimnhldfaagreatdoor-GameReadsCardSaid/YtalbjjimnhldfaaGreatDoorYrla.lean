/- The law of reads, for any bytes as they come in. -/
import Derived.Test.YtalbjjimnhldfaaGreatDoorYrl
import Derived.Test.YtalbjjimnhldfaaGreatDoorYbr
set_option maxRecDepth 100000
namespace Go.Ev
open Go.RowKit (Below)
variable {P : Program}
/-- A row more, all of whose cells are told, that is only read. -/
theorem Rel.addRx {σ : Sg} {H : T AO} {n n' i : Nat} {w : World} (hR : Rel P σ ⟨H, n⟩ w) (hro : ∀ j o, H.get j = some o → mayW o = false) (hs : σ i = none) (hn : n ≤ n') (hin : i < n') (hg : P.globals.size ≤ i) (c : List Value) (e : TypeId) (blk : Option Nat)
    (hb : ∀ b, blk = some b → ∃ cs ty fz, w.heap[b]? = some (.cells cs ty fz) ∧ ∀ σ, VRL σ c cs.toList) :
    Rel P (fun j => if j = i then blk.map (fun b => (b, 0)) else σ j) ⟨H.set i (.row c e .ro), n'⟩ w ∧ ∀ j o, (H.set i (.row c e .ro)).get j = some o → mayW o = false := by
  have hlt : ∀ j p, σ j = some p → j ≠ i := fun j p hj e => by rw [e, hs] at hj; cases hj
  have hro' : ∀ j o, (H.set i (.row c e .ro)).get j = some o → mayW o = false := fun j o hj => by
    rw [get_set] at hj
    split at hj
    · cases hj; rfl
    · exact hro j o hj
  refine ⟨⟨?_, ?_, ?_, ?_, ?_⟩, hro'⟩
  · intro j b d o hj hgj hl
    have hgj : (H.set i (.row c e .ro)).get j = some o := hgj
    rw [get_set] at hgj
    by_cases h : j = i
    · rw [if_pos h] at hgj
      cases hgj
      have hj : (if j = i then blk.map (fun b => (b, 0)) else σ j) = some (b, d) := hj
      rw [if_pos h] at hj
      cases hk : blk with
      | none => rw [hk] at hj; cases hj
      | some b' =>
        rw [hk] at hj
        cases hj
        obtain ⟨cs, ty, fz, h1, h2⟩ := hb _ hk
        refine ⟨_, h1, .inl rfl, ⟨⟨cs.toList, [], by simp, h2 _, fun _ => rfl⟩, fun _ => rfl, fun _ h => (by cases h), fun h => (by cases h)⟩⟩
    · rw [if_neg h] at hgj
      have hj : (if j = i then blk.map (fun b => (b, 0)) else σ j) = some (b, d) := hj
      rw [if_neg h] at hj
      obtain ⟨x, h1, h2⟩ := hR.obj j b d o hj hgj hl
      refine ⟨x, h1, h2.sub fun k p hk => ?_⟩
      show (if k = i then blk.map (fun b => (b, 0)) else σ k) = some p
      rw [if_neg (hlt k p hk)]; exact hk
  · intro j k b d d' o o' _ _ hgj hgk _ _ hw
    rw [hro' j o hgj, hro' k o' hgk] at hw; cases hw
  · intro j hj
    have hj : n' ≤ j := hj
    show (if j = i then blk.map (fun b => (b, 0)) else σ j) = none
    rw [if_neg (by omega)]; exact hR.lim j (Nat.le_trans hn hj)
  · intro g hgg
    show (if g = i then blk.map (fun b => (b, 0)) else σ g) = _
    rw [if_neg (by omega)]; exact hR.glob g hgg
  · intro j hj
    have hj : n' ≤ j := hj
    show (H.set i (.row c e .ro)).get j = none
    rw [get_set, if_neg (by omega)]; exact hR.top j (Nat.le_trans hn hj)
end Go.Ev
namespace Go.Proofs.YtalbjjimnhldfaaGreatDoor
open Go.RowKit Go.Ev Go.ChangeShapes Go.WideShapes Go.ChangeAt Go.Joins
theorem walkR (w : World) (A : Option Addr) (n c : Nat) (xs : List Int) (s : Sl (Value.int .u8) w A n xs) (hb : Byts8 xs) (hL : LaidIn G0 w) (q : A = none → c = 0) (l : n ≤ c)
    (o : ∀ a, A = some a → a.spot = none ∧ ∃ cs ty fz, w.heap[a.block]? = some (.cells cs ty fz) ∧ a.off ≤ cs.size) :
    Calls Tryz.prog 6 #[.slice A n c] w fun e w' => e = .returned (.bool true) ∧ Below w.heap.size w w' := by
  obtain ⟨b1, p1, r1, k1, s1, v1, u1⟩ := sli_in (f := Value.int .u8) (fun _ => rfl) (sz := 1) (by rw [s.len, Nat.mul_one]) s.at_ q l (by omega) o
  have hng : Tryz.prog.globals.size = 12 := by kernel_rfl
  have hR0 := Rel.laid (P := Tryz.prog) (G := G0) (ng := 12) hng (by kernel_rfl) (by kernel_rfl) hL
  obtain ⟨hR1, z1⟩ := Rel.addRx (i := 12) (n' := 12 + 1) hR0 glob_ro (if_neg (by omega)) (by omega) (by omega) (by omega) r1 5 k1 v1
  obtain ⟨Bm, hsem⟩ := s_reads ⟨b1, p1, n, c, r1⟩ xs s1 hb
  have hmem : mem (S_reads.R ⟨b1, p1, n, c, r1⟩) S_reads.n = ⟨(putAll G0 .e).set 12 (.row r1 5 .ro), 12 + 1⟩ := by
    have := congrArg AW.heap globs
    show (⟨(mem globR 12).heap.set 12 _, _⟩ : AW) = _
    rw [this]
    rfl
  rw [hmem] at hsem
  refine sem_calls envOK (fn := Tryz.f6) (by kernel_rfl) rfl rfl hsem hR1 ?_ z1
  exact .cons (u1 _ _ (if_pos rfl)) .nil
end Go.Proofs.YtalbjjimnhldfaaGreatDoor
