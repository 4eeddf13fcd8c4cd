/- The evaluator with variables: from a world to what is told of it; a call. -/
import Derived.Test.YtdjnipabfbblnaaGreatDoorEv13
import Derived.Test.YtdjnipabfbblnaaGreatDoorYrwP
import Derived.Test.YtdjnipabfbblnaaGreatDoorKnownB
import Derived.WalkKit
import Derived.ProofKit
import Derived.OpenShut
import Derived.ShutString
section
open Go.RowKit (Below)
set_option linter.unusedSectionVars false
namespace Go.Ev
variable {P : Program} [Frozen P]
theorem sem_calls {E : Env} (hE : EnvOK P E) {f : FuncId} {fn : Func} {c : Code} (hf : P.funcs[f]? = some fn) (hb : fn.body = some c) {abs args : List Value} {A B : AW} {v : Value} (hv : flat3 v = true) (h : FnSem P f abs A v B) {σ : Sg} {w : World} (hR : Rel P σ A w) (ha : VRL σ abs args)
    (hro : ∀ j o, A.heap.get j = some o → mayW o = false) : Calls P f ⟨args⟩ w fun e w' => e = .returned v ∧ Below w.heap.size w w' := by
  have hent := entered (P := P) (hE.name f fn hf) hf hb ⟨args⟩ w
  have hnw : ∀ b, ¬ Wr σ A b := by
    rintro b ⟨i, d, o, _, hg, hm⟩
    rw [hro i o hg] at hm; cases hm
  rcases h σ w args hR ha with ⟨v', w', e, _⟩ | ⟨g, as_, e, hC⟩
  · rw [hent] at e; cases e
  · rw [hent] at e; cases e
    refine Calls.mono hC fun en w' he => ?_
    cases en with
    | returned v' =>
      obtain ⟨σ', hvr, hR', hS⟩ := he
      obtain rfl := hvr.of_flat3 hv
      exact ⟨rfl, hS.os, hS.tape, hS.output, hS.size, fun k hk => hS.block k hk (hnw k)⟩
    | _ => exact he.elim
end Go.Ev
end

/- The law of rolls, for any numbers as they come in. -/
section
set_option maxRecDepth 100000
namespace Go.Proofs.YtdjnipabfbblnaaGreatDoor
open Go.RowKit Go.Ev
theorem own_knob : ownKnob Tryz.prog.godebug = none := by kernel_rfl
theorem glob_ro : ∀ j o, (putAll G0 .e).get j = some o → mayW o = false := fun j o hj => by
  have hro : roB 13 G0 = true := by kernel_rfl
  have ho : onceB G0 = true := by kernel_rfl
  obtain ⟨k1, k2⟩ := putAll_get j G0 .e ho
  cases hk : keyB j G0 with
  | false => rw [k2 hk] at hj; cases hj
  | true =>
    obtain ⟨o', ho'⟩ := keyB_iff.1 hk
    rw [k1 o' ho'] at hj; cases hj
    have := List.all_eq_true.1 hro (j, _) ho'
    simp only [Bool.and_eq_true] at this
    obtain ⟨c, e, rfl, _⟩ := roO_some this.2
    rfl
set_option linter.unusedSectionVars false
variable [Go.Ev.Frozen Tryz.prog]
noncomputable section
abbrev globR : List (Nat × PO) := [(1, .f cells1 370 .ro), (2, .f cells2 375 .ro), (3, .f cells3 385 .ro), (4, .f cells4 404 .ro), (6, .f cells6 370 .ro), (7, .f cells7 415 .ro), (8, .f cells8 416 .ro), (9, .f cells9 432 .ro), (11, .f cells11 435 .ro)]
end
theorem globs : mem globR 13 = ⟨putAll G0 .e, 13⟩ := by kernel_rfl
theorem wv_true (r : Nat → Option Nat) : wv r 5 (.bool true) (.bool true) := by
  first
    | exact (rfl : true = true)
    | exact trivial
    | (show wvS r (.bool true) (usym (.bool true)); exact (rfl : true = true))
    | (show wvS r (.bool true) (.bool true); unfold wvS; exact rfl)
    | simp [wv, wvS]
theorem known_of {hk : Caller → Caller} (hh : HookOK Tryz.prog hk) (hr : resIs (.bool true) (evCallH Tryz.prog E0 hk 300 22 [] ⟨putAll G0 .e, 13⟩) = true) : SpecOK Tryz.prog S_known.spec := fun a K _ hq => by
  cases hev : evCallH Tryz.prog E0 hk 300 22 [] ⟨putAll G0 .e, 13⟩ with
  | none => rw [hev] at hr; cases hr
  | some p =>
    obtain ⟨v1, B⟩ := p
    rw [hev] at hr
    obtain rfl := veq6_eq (show veq6 v1 (.bool true) = true from hr)
    have hsem : FnSem Tryz.prog 22 [] (mem globR 13) (.bool true) B := fun σ w args' hR ha => by
      rw [globs] at hR ⊢
      exact evCallH_ok envOK hh 300 _ [] _ _ B hev σ w args' hR ha
    exact ⟨.bool true, [], 13, hq.1 () trivial, fun _ _ _ _ h => (nomatch h), fnSem_seen rfl hsem (l := []) (cpb_iff.2 ⟨by kernel_rfl, wv_true _, trivial⟩)⟩
theorem s_known : SpecOK Tryz.prog S_known.spec := known_of hooksB known17_run
theorem s_doK : SpecOK Tryz.prog S_doK.spec := fun a K hp hq => by
  obtain ⟨h1, hk⟩ := hp
  have h0 : S_do.pre a := h1
  obtain ⟨hg, ⟨⟨x, hx, -⟩, -⟩, ⟨gs, hgs, -⟩, -⟩ := h1
  obtain ⟨X, hX, -⟩ := hg.x
  obtain ⟨s, hs⟩ := hk x X gs hx hX hgs
  refine s_do a K h0 ⟨hq.1, fun b hb => ?_, trivial⟩
  have e := hb.2 x X gs hx hX hgs
  rw [hs] at e
  exact nomatch e
theorem s_silK : SpecOK Tryz.prog S_silK.spec := fun a K hp hq => by
  obtain ⟨h1, hk⟩ := hp
  have h0 : S_sil.pre a := h1
  obtain ⟨hg, ⟨⟨x, hx, -⟩, -⟩, -⟩ := h1
  obtain ⟨X, hX, -⟩ := hg.x
  obtain ⟨s, hs⟩ := hk x X hx hX
  refine s_sil a K h0 ⟨hq.1, fun b hb => ?_, trivial⟩
  have e := hb.2 x X hx hX
  rw [hs] at e
  exact nomatch e
theorem cwT_ok {S : SpecD} {cw : CW} (h : SpecOK Tryz.prog S.spec) (hc : CwOK Tryz.prog cw) : CwOK Tryz.prog (cwT S cw) := fun f args A K g => by
  have g : (Bool.rec (cw f args A K) (callD Tryz.prog S (fun _ => True) args A K) (Nat.beq f S.f && isPl args) : Prop) := g
  cases hb : Nat.beq f S.f with
  | false => rw [hb] at g; exact hc f args A K g
  | true =>
    cases hp : isPl args with
    | false => rw [hb, hp] at g; exact hc f args A K g
    | true =>
      rw [hb, hp] at g
      exact cwD_ok h hc f args A K (by show (Bool.rec (cw f args A K) (callD Tryz.prog S (fun _ => True) args A K) (Nat.beq f S.f) : Prop); rw [hb]; exact g)
theorem s_rolls : SpecOK Tryz.prog S_rolls.spec := fun a => specG_at (an := [some (joins [(9, jR9 a), (17, jR17 a), (18, jR18 a), (20, jR20 a), (24, jR24 a)])]) envOK (cwN_ok (fun _ h => cwD_ok s_parse (cwD_ok s_start (cwT_ok s_doK (cwD_ok s_do (cwD_ok s_silK (cwD_ok s_turn (cwD_ok s_clone (cwD_ok s_gsame (cwD_ok s_hone (cwD_ok s_hnum (cwD_ok s_hfrom (cwD_ok s_known h)))))))))))) 12) fun hp => g_rolls a hp.1 hp.2.1 hp.2.2
theorem wfU {x : Int} (h : (Lit.int .u64 x).wf = true) : 0 ≤ x ∧ x < 18446744073709551616 := by
  simp only [Lit.wf, Bool.and_eq_true, decide_eq_true_eq] at h
  have h : (0 : Int) ≤ x ∧ x ≤ 18446744073709551615 := h
  omega
theorem wfB {x : Int} (h : (Lit.int .u8 x).wf = true) : 0 ≤ x ∧ x < 256 := by
  simp only [Lit.wf, Bool.and_eq_true, decide_eq_true_eq] at h
  have h : (0 : Int) ≤ x ∧ x ≤ 255 := h
  omega
theorem rolls_sem (a : RL) (h : S_rolls.pre a) : ∃ B, FnSem Tryz.prog 4 (S_rolls.args a) (mem (S_rolls.R a) S_rolls.n) (.bool true) B := by
  obtain ⟨v, R', n', hK, _, h⟩ := s_rolls a (fun v _ _ => v = .bool true) h ⟨fun _ _ => rfl, trivial⟩
  subst hK
  exact ⟨_, h⟩
end Go.Proofs.YtdjnipabfbblnaaGreatDoor
end
