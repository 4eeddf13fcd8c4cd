/- The law of what can't be begun: what is told of each call is so. -/
import Derived.Test.YthcldogebnjohaaGreatDoorYnq
import Derived.Test.YthcldogebnjohaaGreatDoorHkK1
import Derived.Test.YthcldogebnjohaaGreatDoorHd
import Derived.Test.YthcldogebnjohaaGreatDoorEv15
section
set_option maxRecDepth 100000
set_option linter.constructorNameAsVariable false
namespace Go.Proofs.YthcldogebnjohaaGreatDoor
open Go.RowKit Go.Ev
theorem known38_run : resIs (.bool true) (evCallH Tryz.prog E0 (allC [relocCall hkK17, heldH]) 300 4 [] ⟨putAll G0 .e, 12⟩) = true := by kernel_rfl
set_option linter.unusedSectionVars false
variable [Go.Ev.Frozen Tryz.prog]
noncomputable section
abbrev globR : List (Nat × PO) := [(0, .f cells0 323 .ro), (1, .f cells1 329 .ro), (2, .f cells2 352 .ro), (4, .f cells4 323 .ro), (5, .f cells5 364 .ro), (6, .f cells6 378 .ro), (8, .f cells8 382 .ro), (9, .f cells9 385 .ro), (10, .f cells10 386 .ro)]
end
theorem globs : mem globR 12 = ⟨putAll G0 .e, 12⟩ := by kernel_rfl
theorem wv_true (r : Nat → Option Nat) : wv r 5 (.bool true) (.bool true) := by
  first
    | exact (rfl : true = true)
    | exact trivial
    | (show wvS r (.bool true) (usym (.bool true)); exact (rfl : true = true))
    | (show wvS r (.bool true) (.bool true); unfold wvS; exact rfl)
    | simp [wv, wvS]
theorem known_of {hk : Caller → Caller} (hh : HookOK Tryz.prog hk) (hr : resIs (.bool true) (evCallH Tryz.prog E0 hk 300 4 [] ⟨putAll G0 .e, 12⟩) = true) : SpecOK Tryz.prog S_known.spec := fun a K _ hq => by
  cases hev : evCallH Tryz.prog E0 hk 300 4 [] ⟨putAll G0 .e, 12⟩ with
  | none => rw [hev] at hr; cases hr
  | some p =>
    obtain ⟨v1, B⟩ := p
    rw [hev] at hr
    obtain rfl := veq6_eq (show veq6 v1 (.bool true) = true from hr)
    have hsem : FnSem Tryz.prog 4 [] (mem globR 12) (.bool true) B := fun σ w args' hR ha => by
      rw [globs] at hR ⊢
      exact evCallH_ok envOK hh 300 _ [] _ _ B hev σ w args' hR ha
    exact ⟨.bool true, [], 12, hq.1 () trivial, fun _ _ _ _ h => (nomatch h), fnSem_seen rfl hsem (l := []) (cpb_iff.2 ⟨by kernel_rfl, wv_true _, trivial⟩)⟩
theorem s_known : SpecOK Tryz.prog S_known.spec := known_of (allC_cons hkK17_ok (allC_cons heldH_ok allC_nil)) known38_run
theorem cwT2_ok {S : SpecD} {t : List Value → Bool} {cw : CW} (h : SpecOK Tryz.prog S.spec) (hc : CwOK Tryz.prog cw) : CwOK Tryz.prog (cwT2 S t cw) := fun f args A K g => by
  have g : (Bool.rec (cw f args A K) (callD Tryz.prog S (fun _ => True) args A K) (Nat.beq f S.f && t args) : Prop) := g
  cases hb : Nat.beq f S.f with
  | false => rw [hb] at g; exact hc f args A K g
  | true =>
    cases hp : t args with
    | false => rw [hb, hp] at g; exact hc f args A K g
    | true =>
      rw [hb, hp] at g
      exact cwD_ok h hc f args A K (by show (Bool.rec (cw f args A K) (callD Tryz.prog S (fun _ => True) args A K) (Nat.beq f S.f) : Prop); rw [hb]; exact g)
theorem vr_tgb {σ : Sg} {b : Bool} {x : Value} (h : VR σ (tg (.bool b)) x) : VR σ (.bool b) x := by
  cases h with
  | sym _ a => exact a
  | iface hlt _ => exact absurd hlt noSYM
  | flat e => cases e
theorem fnSem_tgb {f : FuncId} {args : List Value} {A B : AW} {b : Bool} (h : FnSem Tryz.prog f args A (tg (.bool b)) B) : FnSem Tryz.prog f args A (.bool b) B := fun σ w args' hR ha => by
  have good : ∀ v' w', Go.Ev.Good Tryz.prog σ A w (tg (.bool b)) B v' w' → Go.Ev.Good Tryz.prog σ A w (.bool b) B v' w' := by
    rintro v' w' ⟨σ', h1, h2, h3⟩
    exact ⟨σ', vr_tgb h1, h2, h3⟩
  rcases h σ w args' hR ha with ⟨v', w', e, hg⟩ | ⟨g, as_, e, hg⟩
  · exact .inl ⟨v', w', e, good v' w' hg⟩
  · refine .inr ⟨g, as_, e, Calls.mono hg fun en w' he => ?_⟩
    cases en with
    | returned v' => exact good v' w' he
    | _ => exact he.elim
theorem s_newA : SpecOK Tryz.prog S_newA.spec := fun a K hp hq => by
  obtain ⟨hp1, hp2, hp3, hp4⟩ := hp
  have hp1 : S_new.pre a := hp1
  obtain ⟨-, -, -, ⟨xs, hx⟩, -⟩ := id hp1
  exact s_new a K hp1 ⟨fun o ho => hq.1 o ⟨fun ys hy => (ho.2.1 ys hy).2, ho.2.2⟩, fun _ hn => (hn ⟨hp2, hp3⟩).elim, fun _ hn => (hn.2 xs hx (hp4 xs hx).1).elim, fun _ hn => ((hn.2 xs hx).2 (hp4 xs hx).2).elim, trivial⟩
theorem s_new3 : SpecOK Tryz.prog S_new3.spec := fun a K hp hq => by
  obtain ⟨hp1, hp2, hp3⟩ := hp
  have hp3 : a.s.l ≠ a.g.st.l := hp3
  exact s_new a K hp1 ⟨fun o ho => (hp3 ho.1.2).elim, fun _ _ => hq.1 () trivial, fun _ hn => (hp3 hn.1.2).elim, fun _ hn => (hp3 hn.1.2).elim, trivial⟩
theorem s_newF : SpecOK Tryz.prog S_newF.spec := fun a K hp hq => by
  obtain ⟨hp1, hp2⟩ := hp
  exact s_new a K hp1 ⟨fun o ho => (hp2 ho.1.1).elim, fun _ _ => hq.1 () trivial, fun _ hn => (hp2 hn.1.1).elim, fun _ hn => (hp2 hn.1.1).elim, trivial⟩
theorem s_new2 : SpecOK Tryz.prog S_new2.spec := fun a K hp hq => by
  obtain ⟨hp1, hp2, hp3, hp4⟩ := hp
  have hp1 : S_new.pre a := hp1
  obtain ⟨-, -, -, ⟨xs, hx⟩, -⟩ := id hp1
  exact s_new a K hp1 ⟨fun o ho => (hp4 xs hx (ho.2.1 xs hx).1.1).elim, fun _ hn => (hn ⟨hp2, hp3⟩).elim, fun _ _ => hq.1 () trivial, fun _ hn => (hp4 xs hx (hn.2 xs hx).1).elim, trivial⟩
theorem s_new22 : SpecOK Tryz.prog S_new22.spec := fun a K hp hq => by
  obtain ⟨hp1, hp2, hp3, hp4⟩ := hp
  have hp1 : S_new.pre a := hp1
  obtain ⟨-, -, -, ⟨xs, hx⟩, -⟩ := id hp1
  exact s_new a K hp1 ⟨fun o ho => ((hp4 xs hx).2 (ho.2.1 xs hx).1.2).elim, fun _ hn => (hn ⟨hp2, hp3⟩).elim, fun _ hn => (hn.2 xs hx (hp4 xs hx).1).elim, fun _ _ => hq.1 () trivial, trivial⟩
theorem s_gsameT : SpecOK Tryz.prog S_gsameT.spec := fun a K hp hq => by
  obtain ⟨hp1, ⟨x, hx, hy⟩, hr⟩ := hp
  obtain ⟨v, R', n', ⟨rfl, rfl, rfl⟩, hF, h⟩ := s_gsame a (fun v R' n' => v = tg (.bool true) ∧ R' = [] ∧ n' = 12 + 6) hp1 ⟨fun (b : BL) hb => by
    have : b.b = true := (hb x x hx hy).2 ⟨rfl, hr⟩
    exact ⟨congrArg (fun t => tg (.bool t)) this, rfl, rfl⟩, trivial⟩
  exact ⟨.bool true, [], 12 + 6, hq.1 () trivial, hF, fnSem_tgb h⟩
theorem s_none3 : SpecOK Tryz.prog S_none3.spec := fun a K hp hq => by
  obtain ⟨hw, xs, hx, hc⟩ := id hp
  exact specG_at (an := [some (la_none3 a xs), some (joins [(18, j183 a)])]) envOK (cwX_ok (fun _ h => cwD_ok s_known (cwD_ok s_startW (cwT2_ok s_new3 (cwT2_ok s_newF (cwD_ok s_eqlsame (cwD_ok s_gsame (cwD_ok s_clonex (cwD_ok s_clint h)))))))) 5) (fun _ => g_none3 a xs hw hx hc) K hp hq
theorem s_none2 : SpecOK Tryz.prog S_none2.spec := fun a K hp hq => by
  obtain ⟨hw, xs, hx, hc⟩ := id hp
  exact specG_at (an := [some (la_none2 a xs), some (joins [(18, j182 a)])]) envOK (cwX_ok (fun _ h => cwD_ok s_known (cwD_ok s_startW (cwT2_ok s_new2 (cwT2_ok s_newF (cwD_ok s_eqlsame (cwD_ok s_gsame (cwD_ok s_clonex (cwD_ok s_clint h)))))))) 5) (fun _ => g_none2 a xs hw hx hc) K hp hq
theorem s_none22 : SpecOK Tryz.prog S_none22.spec := fun a K hp hq => by
  obtain ⟨hw, xs, hx, hc⟩ := id hp
  exact specG_at (an := [some (la_none22 a xs), some (joins [(18, j1822 a)])]) envOK (cwX_ok (fun _ h => cwD_ok s_known (cwD_ok s_startW (cwT2_ok s_new22 (cwT2_ok s_newF (cwD_ok s_eqlsame (cwD_ok s_gsame (cwD_ok s_clonex (cwD_ok s_clint h)))))))) 5) (fun _ => g_none22 a xs hw hx hc) K hp hq
theorem s_noneA : SpecOK Tryz.prog S_noneA.spec := fun a K hp hq => by
  obtain ⟨hw, hl, xs, hx, hc⟩ := id hp
  exact specG_at (an := [some (la_noneA a xs), some (joins [(18, jA18 a xs), (20, jA20 a xs)])]) envOK (cwX_ok (fun _ h => cwD_ok s_known (cwD_ok s_startW (cwT2_ok s_newA (cwT2_ok s_newF (cwD_ok s_eqlsame (cwD_ok s_gsameT (cwD_ok s_clonex (cwD_ok s_clint h)))))))) 5) (fun _ => g_noneA a xs hw hx ⟨hl, hc⟩) K hp hq
theorem none_sem (a : NnA) (hw : 0 ≤ a.w ∧ a.w < 256) (xs : List Int) (hx : Sli (Value.int .i64) 1 a.s.n a.s.o a.s.l a.s.k a.s.c xs) : ∃ B, FnSem Tryz.prog 3 (S_noneA.args a) (mem (S_noneA.R a) S_noneA.n) (.bool true) B := by
  by_cases hl : a.s.l = 2
  · by_cases hi : inRt xs
    · by_cases hr : rightP (sumC xs)
      · obtain ⟨v, R', n', hK, _, h⟩ := s_noneA a (fun v _ _ => v = .bool true) ⟨hw, hl, xs, hx, hi, hr⟩ ⟨fun _ _ => rfl, trivial⟩
        subst hK; exact ⟨_, h⟩
      · obtain ⟨v, R', n', hK, _, h⟩ := s_none22 a (fun v _ _ => v = .bool true) ⟨hw, xs, hx, hl, hi, hr⟩ ⟨fun _ _ => rfl, trivial⟩
        subst hK; exact ⟨_, h⟩
    · obtain ⟨v, R', n', hK, _, h⟩ := s_none2 a (fun v _ _ => v = .bool true) ⟨hw, xs, hx, hl, hi⟩ ⟨fun _ _ => rfl, trivial⟩
      subst hK; exact ⟨_, h⟩
  · obtain ⟨v, R', n', hK, _, h⟩ := s_none3 a (fun v _ _ => v = .bool true) ⟨hw, xs, hx, hl⟩ ⟨fun _ _ => rfl, trivial⟩
    subst hK; exact ⟨_, h⟩
end Go.Proofs.YthcldogebnjohaaGreatDoor
end

/- The evaluator with variables: from a world to what is told of it; a call. -/
section
open Go.RowKit (Below)
set_option linter.unusedSectionVars false
namespace Go.Ev
variable {P : Program} [Frozen P]
def wnd : Nat → Nat → List Value → List Value
  | _, _, [] => []
  | 0, 0, _ :: l => .iface UNK .nilIface :: wnd 0 0 l
  | 0, n + 1, v :: l => v :: wnd 0 n l
  | o + 1, n, _ :: l => .iface UNK .nilIface :: wnd o n l
theorem wnd_length : ∀ (l : List Value) (o n : Nat), (wnd o n l).length = l.length := by
  intro l
  induction l with
  | nil => intro o n; cases o <;> cases n <;> rfl
  | cons v l ih => intro o n; cases o <;> cases n <;> simp [wnd, ih]
theorem wnd_get : ∀ (l : List Value) (o n i : Nat), i < n → (wnd o n l)[o + i]? = l[o + i]? := by
  intro l
  induction l with
  | nil => intro o n i _; cases o <;> cases n <;> rfl
  | cons v l ih =>
    intro o n i hi
    cases o with
    | zero => cases n with
      | zero => omega
      | succ n => cases i with
        | zero => rfl
        | succ i =>
          have := ih 0 n i (by omega)
          rw [Nat.zero_add] at this ⊢
          show (wnd 0 n l)[i]? = l[i]?
          exact this
    | succ o =>
      have := ih o n i hi
      rw [show o + 1 + i = (o + i) + 1 by omega]
      cases n <;> exact this
theorem wnd_vr {σ : Sg} : ∀ (l : List Value) (o n : Nat), (∀ i v, i < n → l[o + i]? = some v → flat v = true) → VRL σ (wnd o n l) l := by
  intro l
  induction l with
  | nil => intro o n _; cases o <;> cases n <;> exact .nil
  | cons v l ih =>
    intro o n h
    cases o with
    | zero => cases n with
      | zero => exact .cons (.any trivial) (ih 0 0 fun i _ hi => by omega)
      | succ n =>
        refine .cons (.flat (h 0 v (by omega) rfl)) (ih 0 n fun i u hi hu => h (i + 1) u (by omega) ?_)
        rw [Nat.zero_add] at hu ⊢
        exact hu
    | succ o =>
      have : VRL σ (wnd o n l) l := ih o n fun i u hi hu => h i u hi (by rw [show o + 1 + i = (o + i) + 1 by omega]; exact hu)
      cases n <;> exact .cons (.any trivial) this
theorem wnd_flat : ∀ (l : List Value) (o n : Nat), (∀ i v, i < n → l[o + i]? = some v → flat v = true) → FlatL (wnd o n l) := by
  intro l
  induction l with
  | nil => intro o n _ v hv; cases o <;> cases n <;> cases hv
  | cons u l ih =>
    intro o n h v hv
    have fu : ∀ x : Value, flat x = true → ftag x = true := fun x hx => by
      have : usym x = x := by cases x <;> first | rfl | (cases hx)
      simp [ftag, this, hx]
    cases o with
    | zero => cases n with
      | zero =>
        rcases List.mem_cons.1 hv with e | hv
        · subst e; rfl
        · exact ih 0 0 (fun i _ hi => by omega) v hv
      | succ n =>
        rcases List.mem_cons.1 hv with e | hv
        · subst e; exact fu _ (h 0 _ (by omega) rfl)
        · exact ih 0 n (fun i u hi hu => h (i + 1) u (by omega) (by rw [Nat.zero_add] at hu ⊢; exact hu)) v hv
    | succ o =>
      have hh : ∀ i u, i < n → l[o + i]? = some u → flat u = true := fun i u hi hu => h i u hi (by rw [show o + 1 + i = (o + i) + 1 by omega]; exact hu)
      have hv : v ∈ Value.iface UNK .nilIface :: wnd o n l := by cases n <;> exact hv
      rcases List.mem_cons.1 hv with e | hv
      · subst e; rfl
      · exact ih o n hh v hv
theorem Rel.addRo {σ : Sg} {H : T AO} {n n' i : Nat} {w : World} (hR : Rel P σ ⟨H, n⟩ w) (hro : ∀ j o, H.get j = some o → mayW o = false) (hs : σ i = none) (hn : n ≤ n') (hin : i < n') (hg : P.globals.size ≤ i) (c : List Value) (e : TypeId) (blk : Option Nat)
    (hb : ∀ b, blk = some b → ∃ cs ty fz, w.heap[b]? = some (.cells cs ty fz) ∧ ∀ σ, VRL σ c cs.toList) :
    Rel P (fun j => if j = i then blk.map (fun b => (b, 0)) else σ j) ⟨H.set i (.row c e .gro), n'⟩ w ∧ ∀ j o, (H.set i (.row c e .gro)).get j = some o → mayW o = false := by
  have hlt : ∀ j p, σ j = some p → j ≠ i := fun j p hj e => by rw [e, hs] at hj; cases hj
  have hro' : ∀ j o, (H.set i (.row c e .gro)).get j = some o → mayW o = false := fun j o hj => by
    rw [get_set] at hj
    split at hj
    · cases hj; rfl
    · exact hro j o hj
  refine ⟨⟨⟨?_, ?_, ?_, ?_, ?_⟩, fun b x e => ⟨(hR.fro b x e).1, fun ⟨j, _, o, _, hg, hm⟩ => by rw [hro' j o hg] at hm; cases hm⟩⟩, hro'⟩
  · intro j b d o hj hgj hl
    have hgj : (H.set i (.row c e .gro)).get j = some o := hgj
    rw [get_set] at hgj
    by_cases h : j = i
    · rw [if_pos h] at hgj
      cases hgj
      have hj : (if j = i then blk.map (fun b => (b, 0)) else σ j) = some (b, d) := hj
      rw [if_pos h] at hj
      cases hk : blk with
      | none => rw [hk] at hj; cases hj
      | some b' =>
        rw [hk] at hj
        cases hj
        obtain ⟨cs, ty, fz, h1, h2⟩ := hb _ hk
        refine ⟨_, h1, .inl rfl, ⟨⟨cs.toList, [], by simp, h2 _, fun _ => rfl⟩, fun _ => rfl, fun _ h => (by cases h), fun h => (by cases h)⟩⟩
    · rw [if_neg h] at hgj
      have hj : (if j = i then blk.map (fun b => (b, 0)) else σ j) = some (b, d) := hj
      rw [if_neg h] at hj
      obtain ⟨x, h1, h2⟩ := hR.obj j b d o hj hgj hl
      refine ⟨x, h1, h2.sub fun k p hk => ?_⟩
      show (if k = i then blk.map (fun b => (b, 0)) else σ k) = some p
      rw [if_neg (hlt k p hk)]; exact hk
  · intro j k b d d' o o' _ _ hgj hgk _ _ hw
    rw [hro' j o hgj, hro' k o' hgk] at hw; cases hw
  · intro j hj
    have hj : n' ≤ j := hj
    show (if j = i then blk.map (fun b => (b, 0)) else σ j) = none
    rw [if_neg (by omega)]; exact hR.lim j (Nat.le_trans hn hj)
  · intro g hgg
    show (if g = i then blk.map (fun b => (b, 0)) else σ g) = _
    rw [if_neg (by omega)]; exact hR.glob g hgg
  · intro j hj
    have hj : n' ≤ j := hj
    show (H.set i (.row c e .gro)).get j = none
    rw [get_set, if_neg (by omega)]; exact hR.top j (Nat.le_trans hn hj)
theorem sem_calls {E : Env} (hE : EnvOK P E) {f : FuncId} {fn : Func} {c : Code} (hf : P.funcs[f]? = some fn) (hb : fn.body = some c) {abs args : List Value} {A B : AW} {v : Value} (hv : flat3 v = true) (h : FnSem P f abs A v B) {σ : Sg} {w : World} (hR : Rel P σ A w) (ha : VRL σ abs args)
    (hro : ∀ j o, A.heap.get j = some o → mayW o = false) : Calls P f ⟨args⟩ w fun e w' => e = .returned v ∧ Below w.heap.size w w' := by
  have hent := entered (P := P) (hE.name f fn hf) hf hb ⟨args⟩ w
  have hnw : ∀ b, ¬ Wr σ A b := by
    rintro b ⟨i, d, o, _, hg, hm⟩
    rw [hro i o hg] at hm; cases hm
  rcases h σ w args hR ha with ⟨v', w', e, _⟩ | ⟨g, as_, e, hC⟩
  · rw [hent] at e; cases e
  · rw [hent] at e; cases e
    refine Calls.mono hC fun en w' he => ?_
    cases en with
    | returned v' =>
      obtain ⟨σ', hvr, hR', hS⟩ := he
      obtain rfl := hvr.of_flat3 hv
      exact ⟨rfl, hS.os, hS.tape, hS.output, hS.size, fun k hk => hS.block k hk (hnw k)⟩
    | _ => exact he.elim
end Go.Ev
end
