/- The evaluator: several contracts of one function; a frozen row as a row of a contract; a row with no room as one that was grown; a contract out of another one. -/
import Derived.Test.YtfkacmmcgncooaaGreatDoorYx0
import Derived.Test.YtfkacmmcgncooaaGreatDoorYt1
set_option linter.unusedSectionVars false
namespace Go.Ev
variable {P : Program} [Frozen P]
noncomputable section
def cwE (P : Program) [Frozen P] (S : SpecD) (cw : CW) : CW := fun f args A K => Bool.rec (cw f args A K) (Option.rec (cw f args A K) (fun _ => callD P S (fun _ => True) args A K) (S.find args A)) (Nat.beq f S.f)
end
theorem cwE_ok {S : SpecD} {cw : CW} (h : SpecOK P S.spec) (hc : CwOK P cw) : CwOK P (cwE P S cw) := fun f args A K hk => by
  have hk : (Bool.rec (cw f args A K) (Option.rec (cw f args A K) (fun _ => callD P S (fun _ => True) args A K) (S.find args A)) (Nat.beq f S.f) : Prop) := hk
  cases hb : Nat.beq f S.f with
  | false => rw [hb] at hk; exact hc f args A K hk
  | true =>
    rw [hb] at hk
    have hk : (Option.rec (cw f args A K) (fun _ => callD P S (fun _ => True) args A K) (S.find args A) : Prop) := hk
    cases hf : S.find args A with
    | none => rw [hf] at hk; exact hc f args A K hk
    | some p =>
      rw [hf] at hk
      obtain ⟨v, A', h1, h2⟩ := callW_sound (J := fun _ => True) (fun a _ => h a) (callD_W hk)
      rw [beqIff.1 hb]; exact ⟨v, A', h1, h2⟩
theorem spec_to {S T : SpecD} {a : S.α} {b : T.α} (hf : S.f = T.f) (ha : S.args a = T.args b) (hR : S.R a = T.R b) (hn : S.n = T.n) (h : SpecAt P S.spec a) (hp : S.pre a) (ho : ∀ K, outsW b K T.outs → outsW a K S.outs) : SpecAt P T.spec b := fun K _ hq => by
  obtain ⟨v, R', n', h1, h2, h3⟩ := h K hp (ho K hq)
  refine ⟨v, R', n', h1, h2, ?_⟩
  show FnSem P T.f (T.args b) (mem (T.R b) T.n) v (mem R' n')
  rw [← hf, ← ha, ← hR, ← hn]; exact h3
theorem spec_call {S T : SpecD} {b : T.α} (hf : S.f = T.f) (hS : SpecOK P S.spec) (h : callD P S (fun _ => True) (T.args b) (mem (T.R b) T.n) (endD P T b)) : SpecAt P T.spec b := fun K _ hq => by
  obtain ⟨v, A', he, hs⟩ := callW_sound (J := fun _ => True) (fun a _ => hS a) (callD_W h)
  obtain ⟨o, ho, c, hQ, hw⟩ := outAt_some he
  have hs : FnSem P S.f (T.args b) (mem (T.R b) T.n) v A' := hs
  rw [hf] at hs
  exact ⟨_, _, _, outsW_mem hq o ho c hQ, flatR_rows (cpb_iff.1 hw).2.2, fnSem_seen rfl hs hw⟩
theorem fnSem_mat {f : FuncId} {argsX args : List Value} {H : T AO} {q blk : Nat} {c : List Value} {e : TypeId} {v : Value} {B : AW} {cs : Array Value} {ty : TypeId} {fz : Nat × Nat} (h : FnSem P f args ⟨H.set q (.row c e .gro), q + 1⟩ v B) (hB : B.heap.get q = none)
    (hq : P.globals.size ≤ q) (hF : Frozen.F P blk = some (.cells cs ty fz)) (hc : ∃ ys zs, cs.toList = ys ++ zs ∧ ∀ σ, VRL σ c ys)
    (ha : ∀ σ σ' args', (∀ i p, σ i = some p → σ' i = some p) → σ' q = some (blk, 0) → VRL σ argsX args' → VRL σ' args args') : FnSem P f argsX ⟨H, q⟩ v B := by
  intro σ w args' hR hx
  have hsq : σ q = none := hR.lim q (Nat.le_refl _)
  let τ : Sg := fun j => if j = q then some (blk, 0) else σ j
  have hne : ∀ j p, σ j = some p → j ≠ q := fun j p hj e => by rw [e, hsq] at hj; cases hj
  have hsub : ∀ i p, σ i = some p → τ i = some p := fun i p hi => by show (if i = q then _ else σ i) = _; rw [if_neg (hne i p hi)]; exact hi
  have htq : τ q = some (blk, 0) := if_pos rfl
  obtain ⟨hfw, hnw⟩ := hR.fro _ _ hF
  have hHq : H.get q = none := hR.top q (Nat.le_refl _)
  have hget : ∀ j, j ≠ q → (H.set q (.row c e .gro)).get j = H.get j := fun j hj => by rw [get_set, if_neg hj]
  have hgq : (H.set q (.row c e .gro)).get q = some (.row c e .gro) := by rw [get_set, if_pos rfl]
  have hwr : ∀ b, Wr τ ⟨H.set q (.row c e .gro), q + 1⟩ b → Wr σ ⟨H, q⟩ b := by
    rintro b ⟨i, d, o, h1, h2, h3⟩
    have h2 : (H.set q (.row c e .gro)).get i = some o := h2
    by_cases hi : i = q
    · rw [hi, hgq] at h2; cases h2; cases h3
    · rw [hget i hi] at h2
      have h1 : (if i = q then some (blk, 0) else σ i) = some (b, d) := h1
      rw [if_neg hi] at h1
      exact ⟨i, d, o, h1, h2, h3⟩
  have hwr2 : ∀ b, Wr σ ⟨H, q⟩ b → Wr τ ⟨H.set q (.row c e .gro), q + 1⟩ b := by
    rintro b ⟨i, d, o, h1, h2, h3⟩
    exact ⟨i, d, o, hsub _ _ h1, by show (H.set q _).get i = some o; rw [hget i (hne _ _ h1)]; exact h2, h3⟩
  have hR2 : Rel P τ ⟨H.set q (.row c e .gro), q + 1⟩ w := by
    refine ⟨⟨?_, ?_, ?_, ?_, ?_⟩, fun b x hx => ⟨(hR.fro b x hx).1, fun hw => (hR.fro b x hx).2 (hwr b hw)⟩⟩
    · intro i b d o h1 h2 h3
      have h2 : (H.set q (.row c e .gro)).get i = some o := h2
      by_cases hi : i = q
      · subst hi
        rw [hgq] at h2; cases h2
        rw [htq] at h1; cases h1
        obtain ⟨ys, zs, hy, hv⟩ := hc
        exact ⟨_, hfw, .inl rfl, ⟨⟨ys, zs, hy, hv _, fun h => (by cases h)⟩, fun _ => rfl, fun _ h => (by cases h), fun h => (by cases h)⟩⟩
      · rw [hget i hi] at h2
        have h1 : (if i = q then some (blk, 0) else σ i) = some (b, d) := h1
        rw [if_neg hi] at h1
        obtain ⟨x, k1, k2⟩ := hR.obj i b d o h1 h2 h3
        exact ⟨x, k1, k2.sub hsub⟩
    · intro i j b d d' o o' h1 h2 h3 h4 h5 h6 h7
      have h3 : (H.set q (.row c e .gro)).get i = some o := h3
      have h4 : (H.set q (.row c e .gro)).get j = some o' := h4
      have h1 : (if i = q then some (blk, 0) else σ i) = some (b, d) := h1
      have h2 : (if j = q then some (blk, 0) else σ j) = some (b, d') := h2
      by_cases hi : i = q
      · by_cases hj : j = q
        · rw [hi, hj]
        · rw [if_pos hi] at h1; cases h1
          rw [hi, hgq] at h3; cases h3
          rw [if_neg hj] at h2
          rw [hget j hj] at h4
          have h7 : mayW o' = true := h7
          exact absurd ⟨j, d', o', h2, h4, h7⟩ hnw
      · rw [if_neg hi] at h1
        rw [hget i hi] at h3
        by_cases hj : j = q
        · rw [if_pos hj] at h2; cases h2
          rw [hj, hgq] at h4; cases h4
          have h7 : (mayW o || false) = true := h7
          rw [Bool.or_false] at h7
          exact absurd ⟨i, d, o, h1, h3, h7⟩ hnw
        · rw [if_neg hj] at h2
          rw [hget j hj] at h4
          exact hR.inj i j b d d' o o' h1 h2 h3 h4 h5 h6 h7
    · intro i hi
      have hi : q + 1 ≤ i := hi
      show (if i = q then some (blk, 0) else σ i) = none
      rw [if_neg (by omega)]; exact hR.lim i (by show q ≤ i; omega)
    · intro g hg
      show (if g = q then some (blk, 0) else σ g) = _
      rw [if_neg (by omega)]; exact hR.glob g hg
    · intro i hi
      have hi : q + 1 ≤ i := hi
      show (H.set q (.row c e .gro)).get i = none
      rw [hget i (by omega)]; exact hR.top i (by show q ≤ i; omega)
  have good : ∀ v' w', Good P τ ⟨H.set q (.row c e .gro), q + 1⟩ w v B v' w' → Good P σ ⟨H, q⟩ w v B v' w' := by
    rintro v' w' ⟨σ', h1, h2, h3⟩
    refine ⟨σ', h1, h2, fun i hi => ?_, ?_, h3.os, h3.tape, h3.output, h3.size, fun b hb hn => h3.block b hb fun hw => hn (hwr b hw), fun b hb hw => hwr b (h3.wr b hb hw), fun i b d o hi hs hg hl hb => ?_, fun i o hi hg hl => ?_⟩
    · have hi : i < q := hi
      rw [h3.ext i (by show i < q + 1; omega)]
      show (if i = q then _ else σ i) = _
      rw [if_neg (by omega)]
    · have := h3.next; show q ≤ B.next; have h5 : q + 1 ≤ B.next := this; omega
    · by_cases e : i = q
      · rw [e, hB] at hg; cases hg
      · have hi : q ≤ i := hi
        exact hwr b (h3.new i b d o (by show q + 1 ≤ i; omega) hs hg hl hb)
    · have hi : i < q := hi
      obtain ⟨o', k1, k2⟩ := h3.old i o (by show i < q + 1; omega) hg hl
      have k1 : (H.set q (.row c e .gro)).get i = some o' := k1
      rw [hget i (by omega)] at k1
      exact ⟨o', k1, k2⟩
  rcases h τ w args' hR2 (ha σ τ args' hsub htq hx) with ⟨v', w', e, hg⟩ | ⟨g, as_, e, hg⟩
  · exact .inl ⟨v', w', e, good v' w' hg⟩
  · refine .inr ⟨g, as_, e, Calls.mono hg fun en w' he => ?_⟩
    cases en with
    | returned v' => exact good v' w' he
    | _ => exact he.elim
theorem fnSem_grown {f : FuncId} {args : List Value} {A : AW} {v : Value} {H : T AO} {n i k : Nat} {c : List Value} {e : TypeId} (h : FnSem P f args A v ⟨H, n⟩) (hi : H.get i = some (.row c e .own)) (hk : ∀ t, P.info? e = some t → c.length = k * t.size) :
    FnSem P f args A v ⟨H.set i (.row c e (.grown k)), n⟩ := by
  intro σ w args' hR ha
  have hget : ∀ j o, (H.set i (.row c e (.grown k))).get j = some o → ∃ o', H.get j = some o' ∧ mayW o' = mayW o ∧ live o' = live o ∧ (j ≠ i → o' = o) := fun j o hj => by
    rw [get_set] at hj
    by_cases h0 : j = i
    · rw [if_pos h0] at hj; cases hj; exact ⟨.row c e .own, by rw [h0]; exact hi, rfl, rfl, fun n => absurd h0 n⟩
    · rw [if_neg h0] at hj; exact ⟨o, hj, rfl, rfl, fun _ => rfl⟩
  have good : ∀ v' w', Good P σ A w v ⟨H, n⟩ v' w' → Good P σ A w v ⟨H.set i (.row c e (.grown k)), n⟩ v' w' := by
    rintro v' w' ⟨σ', h1, h2, h3⟩
    have hwr : ∀ b, Wr σ' ⟨H.set i (.row c e (.grown k)), n⟩ b → Wr σ' ⟨H, n⟩ b := by
      rintro b ⟨j, d, o, k1, k2, k3⟩
      obtain ⟨o', k4, k5, -, -⟩ := hget j o k2
      exact ⟨j, d, o', k1, k4, k5.trans k3⟩
    refine ⟨σ', h1, ⟨⟨?_, ?_, h2.lim, h2.glob, ?_⟩, fun b x hx => ⟨(h2.fro b x hx).1, fun hw => (h2.fro b x hx).2 (hwr b hw)⟩⟩, ⟨h3.ext, h3.next, h3.os, h3.tape, h3.output, h3.size, h3.block, fun b hb hw => h3.wr b hb (hwr b hw), ?_, ?_⟩⟩
    · intro j b d o hj hg hl
      by_cases e' : j = i
      · subst e'
        have hg : (H.set j (.row c e (.grown k))).get j = some o := hg
        rw [get_set, if_pos rfl] at hg
        cases hg
        obtain ⟨x, k1, k2⟩ := h2.obj j b d _ hj hi rfl
        refine ⟨x, k1, ?_⟩
        cases x with
        | cells c' e' fz =>
          obtain ⟨q1, q2⟩ := k2
          have hd := q2.exact_ rfl
          obtain ⟨cs, xs, r1, r2, r3⟩ := q2.cells
          have r3 := r3 rfl
          refine ⟨q1.imp (fun h => by cases h) id, ⟨⟨cs, xs, r1, r2, fun h => by cases h⟩, fun h => (by cases h), fun rc hrc t ht => ?_, fun _ => q2.free rfl⟩⟩
          cases hrc
          rw [hd, Nat.add_zero, ← hk t ht, ← r2.length, ← Array.length_toList, r1, r3, List.append_nil]
        | _ => exact k2.elim
      · obtain ⟨o', k4, -, -, k7⟩ := hget j o hg
        obtain rfl := k7 e'
        exact h2.obj j b d o' hj k4 hl
    · intro j j' b d d' o o' k1 k2 k3 k4 k5 k6 k7
      obtain ⟨p, a1, a2, a3, -⟩ := hget j o k3
      obtain ⟨p', b1, b2, b3, -⟩ := hget j' o' k4
      exact h2.inj j j' b d d' p p' k1 k2 a1 b1 (a3.trans k5) (b3.trans k6) (by rw [a2, b2]; exact k7)
    · intro j hj
      show (H.set i (.row c e (.grown k))).get j = none
      have := h2.top j hj
      have this : H.get j = none := this
      rw [get_set]
      by_cases e' : j = i
      · rw [e', hi] at this; cases this
      · rw [if_neg e']; exact this
    · intro j b d o k1 k2 k3 k4 k5
      obtain ⟨o', a1, -, a3, -⟩ := hget j o k3
      exact h3.new j b d o' k1 k2 a1 (a3.trans k4) k5
    · intro j o k1 k2 k3
      obtain ⟨o', a1, -, a3, -⟩ := hget j o k2
      exact h3.old j o' k1 a1 (a3.trans k3)
  rcases h σ w args' hR ha with ⟨v', w', e, hg⟩ | ⟨g, as_, e, hg⟩
  · exact .inl ⟨v', w', e, good v' w' hg⟩
  · refine .inr ⟨g, as_, e, Calls.mono hg fun en w' he => ?_⟩
    cases en with
    | returned v' => exact good v' w' he
    | _ => exact he.elim
theorem fnSem_shift {f : FuncId} {args : List Value} {A : AW} {v : Value} {H : T AO} {n i j l c c' : Nat} {cs : List Value} {e1 e2 : TypeId} (h : FnSem P f args A v ⟨H, n⟩) (hij : i ≠ j) (hi : H.get i = some (.row [.slice (some ⟨j, 0, none⟩) l c] e1 .own)) (hj : H.get j = some (.row cs e2 (.grown c))) (hc : c' ≤ c) (hn : P.globals.size ≤ n) :
    FnSem P f args A v ⟨((H.set j .dead).set i (.row [.slice (some ⟨n, 0, none⟩) l c'] e1 .own)).set n (.row cs e2 (.grown c')), n + 1⟩ := by
  intro σ w args' hR ha
  have good : ∀ v' w', Good P σ A w v ⟨H, n⟩ v' w' → Good P σ A w v ⟨((H.set j .dead).set i (.row [.slice (some ⟨n, 0, none⟩) l c'] e1 .own)).set n (.row cs e2 (.grown c')), n + 1⟩ v' w' := by
    rintro v' w' ⟨σ', h1, h2, h3⟩
    have hsn : σ' n = none := h2.lim n (Nat.le_refl _)
    have hHn : H.get n = none := h2.top n (Nat.le_refl _)
    have hin : i ≠ n := fun e => by rw [e, hHn] at hi; cases hi
    have hjn : j ≠ n := fun e => by rw [e, hHn] at hj; cases hj
    let τ : Sg := fun x => if x = n then (σ' j).map (fun p => (p.1, p.2 + (c - c'))) else σ' x
    have hsub : ∀ x p, σ' x = some p → τ x = some p := fun x p hx => by
      show (if x = n then _ else σ' x) = _
      rw [if_neg (fun e => by rw [e, hsn] at hx; cases hx)]; exact hx
    have hget : ∀ x o, (((H.set j .dead).set i (.row [.slice (some ⟨n, 0, none⟩) l c'] e1 .own)).set n (.row cs e2 (.grown c'))).get x = some o → live o = true →
        (x = n ∧ o = .row cs e2 (.grown c')) ∨ (x = i ∧ o = .row [.slice (some ⟨n, 0, none⟩) l c'] e1 .own) ∨ (x ≠ n ∧ x ≠ i ∧ x ≠ j ∧ H.get x = some o) := fun x o hx hl => by
      rw [get_set] at hx
      by_cases e1 : x = n
      · rw [if_pos e1] at hx; cases hx; exact .inl ⟨e1, rfl⟩
      · rw [if_neg e1, get_set] at hx
        by_cases e2 : x = i
        · rw [if_pos e2] at hx; cases hx; exact .inr (.inl ⟨e2, rfl⟩)
        · rw [if_neg e2, get_set] at hx
          by_cases e3 : x = j
          · rw [if_pos e3] at hx; cases hx; cases hl
          · rw [if_neg e3] at hx; exact .inr (.inr ⟨e1, e2, e3, hx⟩)
    -- where an object of the new memory was
    have hold : ∀ x b d o, τ x = some (b, d) → (((H.set j .dead).set i (.row [.slice (some ⟨n, 0, none⟩) l c'] e1 .own)).set n (.row cs e2 (.grown c'))).get x = some o → live o = true →
        ∃ y d' o', σ' y = some (b, d') ∧ H.get y = some o' ∧ live o' = true ∧ mayW o' = mayW o ∧ (if x = n then y = j else y = x) := fun x b d o hx hg hl => by
      have hx : (if x = n then (σ' j).map (fun p => (p.1, p.2 + (c - c'))) else σ' x) = some (b, d) := hx
      rcases hget x o hg hl with ⟨rfl, rfl⟩ | ⟨rfl, rfl⟩ | ⟨k1, k2, k3, k4⟩
      · rw [if_pos rfl] at hx
        cases hs : σ' j with
        | none => rw [hs] at hx; cases hx
        | some p =>
          rw [hs] at hx
          cases hx
          exact ⟨j, _, _, hs, hj, rfl, rfl, by rw [if_pos rfl]⟩
      · rw [if_neg hin] at hx
        exact ⟨x, _, _, hx, hi, rfl, rfl, by rw [if_neg hin]⟩
      · rw [if_neg k1] at hx
        exact ⟨x, _, _, hx, k4, hl, rfl, by rw [if_neg k1]⟩
    have hwr : ∀ b, Wr τ ⟨((H.set j .dead).set i (.row [.slice (some ⟨n, 0, none⟩) l c'] e1 .own)).set n (.row cs e2 (.grown c')), n + 1⟩ b → Wr σ' ⟨H, n⟩ b := by
      rintro b ⟨x, d, o, k1, k2, k3⟩
      have hl : live o = true := by cases o <;> first | rfl | cases k3
      obtain ⟨y, d', o', a1, a2, -, a4, -⟩ := hold x b d o k1 k2 hl
      exact ⟨y, d', o', a1, a2, a4.trans k3⟩
    refine ⟨τ, h1.sub hsub, ⟨⟨?_, ?_, ?_, ?_, ?_⟩, fun b x hx => ⟨(h2.fro b x hx).1, fun hw => (h2.fro b x hx).2 (hwr b hw)⟩⟩, ⟨?_, ?_, h3.os, h3.tape, h3.output, h3.size, h3.block, fun b hb hw => h3.wr b hb (hwr b hw), ?_, ?_⟩⟩
    · intro x b d o hx hg hl
      rcases hget x o hg hl with ⟨e, rfl⟩ | ⟨e, rfl⟩ | ⟨k1, k2, k3, k4⟩
      · rw [e] at hx
        have hx : (if n = n then (σ' j).map (fun p => (p.1, p.2 + (c - c'))) else σ' n) = some (b, d) := hx
        rw [if_pos rfl] at hx
        cases hs : σ' j with
        | none => rw [hs] at hx; cases hx
        | some p =>
          obtain ⟨b0, d0⟩ := p
          rw [hs] at hx
          cases hx
          obtain ⟨y, q1, q2⟩ := h2.obj j _ _ _ hs hj rfl
          refine ⟨y, q1, ?_⟩
          cases y with
          | cells cc ee fz =>
            obtain ⟨r1, r2⟩ := q2
            obtain ⟨us, xs, t1, t2, t3⟩ := r2.cells
            refine ⟨r1.imp (fun h => h) id, ⟨⟨us, xs, t1, t2.sub hsub, fun h => (by cases h)⟩, fun h => (by cases h), fun rc hrc t ht => ?_, fun hw => r2.free hw⟩⟩
            cases hrc
            rw [r2.cap c rfl t ht]
            congr 1
            omega
          | _ => exact q2.elim
      · rw [e] at hx
        have hx : (if i = n then (σ' j).map (fun p => (p.1, p.2 + (c - c'))) else σ' i) = some (b, d) := hx
        rw [if_neg hin] at hx
        obtain ⟨y, q1, q2⟩ := h2.obj i b d _ hx hi rfl
        refine ⟨y, q1, ?_⟩
        cases y with
        | cells cc ee fz =>
          obtain ⟨r1, r2⟩ := q2
          obtain ⟨us, xs, t1, t2, t3⟩ := r2.cells
          refine ⟨r1, ⟨⟨us, xs, t1, ?_, t3⟩, r2.exact_, fun rc hrc => (by cases hrc), r2.free⟩⟩
          cases t2 with
          | cons a1 a2 =>
            cases a2
            obtain ⟨b1, d1, s1, rfl⟩ := a1.slice_inv
            have hs : τ n = some (b1, d1 + (c - c')) := by
              show (if n = n then (σ' j).map (fun p => (p.1, p.2 + (c - c'))) else σ' n) = _
              rw [if_pos rfl, s1]; rfl
            have := VR.slice (σ := τ) (o := 0) (l := l) (c := c') hs
            rw [show c' + (d1 + (c - c')) = c + d1 by omega] at this
            exact .cons this .nil
        | _ => exact q2.elim
      · have hx : (if x = n then (σ' j).map (fun p => (p.1, p.2 + (c - c'))) else σ' x) = some (b, d) := hx
        rw [if_neg k1] at hx
        obtain ⟨y, q1, q2⟩ := h2.obj x b d o hx k4 hl
        exact ⟨y, q1, q2.sub hsub⟩
    · intro x y b d d' o o' k1 k2 k3 k4 k5 k6 k7
      obtain ⟨x', dx, ox, a1, a2, a3, a4, a5⟩ := hold x b d o k1 k3 k5
      obtain ⟨y', dy, oy, b1, b2, b3, b4, b5⟩ := hold y b d' o' k2 k4 k6
      have he := h2.inj x' y' b dx dy ox oy a1 b1 a2 b2 a3 b3 (by rw [a4, b4]; exact k7)
      by_cases ex : x = n
      · by_cases ey : y = n
        · rw [ex, ey]
        · rw [if_pos ex] at a5; rw [if_neg ey] at b5
          rcases hget y o' k4 k6 with ⟨e, -⟩ | ⟨e, -⟩ | ⟨-, -, e, -⟩
          · exact absurd e ey
          · exact absurd (a5.symm.trans (he.trans (b5.trans e))).symm hij
          · exact absurd (a5.symm.trans (he.trans b5)).symm e
      · rw [if_neg ex] at a5
        by_cases ey : y = n
        · rw [if_pos ey] at b5
          rcases hget x o k3 k5 with ⟨e, -⟩ | ⟨e, -⟩ | ⟨-, -, e, -⟩
          · exact absurd e ex
          · exact absurd (e.symm.trans (a5.symm.trans (he.trans b5))) hij
          · exact absurd (a5.symm.trans (he.trans b5)) e
        · rw [if_neg ey] at b5
          exact a5.symm.trans (he.trans b5)
    · intro x hx
      have hx : n + 1 ≤ x := hx
      show (if x = n then _ else σ' x) = none
      rw [if_neg (by omega)]; exact h2.lim x (by show n ≤ x; omega)
    · intro g hg
      show (if g = n then _ else σ' g) = _
      rw [if_neg (by omega)]; exact h2.glob g hg
    · intro x hx
      have hx : n + 1 ≤ x := hx
      have hlim : ∀ y o, H.get y = some o → y < n := fun y o hy => Nat.lt_of_not_le fun hle => by rw [h2.top y hle] at hy; cases hy
      have h1' := hlim _ _ hi
      have h2' := hlim _ _ hj
      show (((H.set j .dead).set i _).set n _).get x = none
      rw [get_set, if_neg (by omega), get_set, if_neg (by omega), get_set, if_neg (by omega)]
      exact h2.top x (by show n ≤ x; omega)
    · intro x hx
      have := h3.next
      have this : A.next ≤ n := this
      rw [← h3.ext x hx]
      show (if x = n then _ else σ' x) = _
      rw [if_neg (by omega)]
    · have := h3.next
      have this : A.next ≤ n := this
      show A.next ≤ n + 1
      omega
    · intro x b d o hx hs hg hl hb
      have hnx : A.next ≤ n := h3.next
      rcases hget x o hg hl with ⟨e, rfl⟩ | ⟨e, rfl⟩ | ⟨k1, k2, k3, k4⟩
      · obtain ⟨y, d', o', a1, a2, a3, a4, a5⟩ := hold x b d _ hs hg hl
        exact h3.wr b hb ⟨y, d', o', a1, a2, a4⟩
      · obtain ⟨y, d', o', a1, a2, a3, a4, a5⟩ := hold x b d _ hs hg hl
        exact h3.wr b hb ⟨y, d', o', a1, a2, a4⟩
      · have hs : (if x = n then (σ' j).map (fun p => (p.1, p.2 + (c - c'))) else σ' x) = some (b, d) := hs
        rw [if_neg k1] at hs
        exact h3.new x b d o hx hs k4 hl hb
    · intro x o hx hg hl
      have hnx : A.next ≤ n := h3.next
      rcases hget x o hg hl with ⟨e, -⟩ | ⟨e, -⟩ | ⟨-, -, -, k4⟩
      · omega
      · rw [e] at hx ⊢; exact h3.old i _ hx hi rfl
      · exact h3.old x o hx k4 hl
  rcases h σ w args' hR ha with ⟨v', w', e, hg⟩ | ⟨g, as_, e, hg⟩
  · exact .inl ⟨v', w', e, good v' w' hg⟩
  · refine .inr ⟨g, as_, e, Calls.mono hg fun en w' he => ?_⟩
    cases en with
    | returned v' => exact good v' w' he
    | _ => exact he.elim
end Go.Ev

/- The two games: every move of one argument, every silence is what is told of it. -/
section
set_option maxRecDepth 100000
namespace Go.Proofs.YtfkacmmcgncooaaGreatDoor
open Go.Ev
set_option linter.unusedSectionVars false
variable [Go.Ev.Frozen Tryz.prog]
abbrev QYk4P_8 (a0 : RuA) : Prop := True ∧ True ∧ Z2 ∧ Z1 a0.19.1 ∧ Z1 a0.19.2 ∧ Z1 a0.19.3 ∧ Z1 a0.19.4 ∧ Z1 a0.19.5 ∧ Z1 a0.19.6 ∧ Z1 a0.19.7 ∧ Z1 a0.19.8 ∧ 0 = 0 ∧ (0 = 0 ∧ 1 =
 1 ∧ 1 = 1) ∧ Z2 ∧ True
abbrev QYk4P_10 : Prop := True ∧ FlatL [Value.int .i64 1, Value.int .i64 1] ∧ [Value.int .i64 1, Value.int .i64 1] = [Value.int .i64 1, Value.int .i64 1]
abbrev QYk4P_3 (a0 : RuA) : Prop := True ∧ (2 : Int) = 2 ∧ (2 : Int) = 2 ∧ Z2 ∧ (0 = 0 ∧ 1 = 1 ∧ 1 = 1) ∧ (0 = 0 ∧ Z1 a0.1 ∧ Z1 a0.1) ∧ (0 = 0 ∧ Z1 a0.2 ∧ Z1 a0.2) ∧ (0 = 0 ∧ Z1
 a0.3 ∧ Z1 a0.3) ∧ (0 = 0 ∧ Z1 a0.4 ∧ Z1 a0.4) ∧ (0 = 0 ∧ Z1 a0.5 ∧ Z1 a0.5) ∧ Z1 a0.6 ∧ Z1 a0.7 ∧ Z1 a0.8 ∧ Z1 a0.9 ∧ Z1 a0.10 ∧ True
abbrev QYk4P_6 : Prop := True ∧ FlatL [Value.int .i32 0, Value.int .i32 0] ∧ [Value.int .i32 0, Value.int .i32 0] = [Value.int .i32 0, Value.int .i32 0]
abbrev QYk4P_1 (a0 : RuA) (a1 : PoA) : Prop := QYk4P_8 a0 ∧ QYk4P_10 ∧ QYk4P_3 a0 ∧ QYk4P_6 ∧ ZF a0.11 ∧ ZF a0.12 ∧ ZF a0.13 ∧ ZF a0.14 ∧ ZF a0.15 ∧ ZF a0.16 ∧ ZF a0.17 ∧ ZF a0.18
 ∧ ZF a1.1 ∧ ZF a1.2 ∧ ZF a1.3 ∧ ZF cells2 ∧ True
abbrev QYk4P_2 : Prop := (0 = 0 ∧ 0 = 0) ∧ (0 = 0 ∧ 0 = 0) ∧ (0 = 0 ∧ 0 = 0) ∧ (0 : Int) = 0 ∧ (0 : Int) = 0 ∧ (0 : Int) = 0 ∧ (0 : Int) = 0 ∧ (0 : Int) = 0 ∧ True
abbrev QYk4P_9 : Prop := True ∧ True ∧ True ∧ True ∧ True ∧ True ∧ True ∧ True ∧ True ∧ True ∧ True ∧ True ∧ True ∧ True ∧ True ∧ True ∧ True ∧ True ∧ True
abbrev QYk4P_4 : Prop := QYk4P_9 ∧ ∃ (_ : Unit), True ∧ (((0 = 0 ∧ 0 = 0) ∧ false = false ∧ (0 : Int) = 0 ∧ (0 : Int) = 0 ∧ (0 : Int) = 0 ∧ (0 = 0 ∧ 0 = 0) ∧ (0 : Int) = 0 ∧ True)
 ∧ (2 : Int) = 2 ∧ True) ∧ True
abbrev QYk4P_11 (a0 : PoA) : Prop := Z2 ∧ Z2 ∧ Z2 ∧ Z1 a0.4 ∧ Z1 a0.5 ∧ Z1 a0.6 ∧ Z1 a0.7 ∧ Z1 a0.8 ∧ True
abbrev QYk4P_5 (a0 : PoA) (a1 : RuA) : Prop := (0 = 0 ∧ QYk4P_11 a0 ∧ True) ∧ QYk4P_8 a1 ∧ QYk4P_10 ∧ QYk4P_3 a1 ∧ QYk4P_6 ∧ ZF a1.11 ∧ ZF a1.12 ∧ ZF a1.13 ∧ ZF a1.14 ∧ ZF a1.15 ∧
 ZF a1.16 ∧ ZF a1.17 ∧ ZF a1.18 ∧ ZF a0.1 ∧ ZF a0.2 ∧ ZF a0.3 ∧ True
abbrev QYk4P_7 (a0 : GdA) (a1 : Int) : Prop := ∃ (b0 b1 : Nat), isG a0.1 a0.2 b0 b1 ∧ badG b0 b1 a0.3 a0.4 ∧ a1 = doE b0 b1 a0.3
abbrev QYk4P_12 (a0 : PoA) (a1 : PoA) : Prop := ((Z2 ∧ Z2 ∧ Z2 ∧ a0.4 = a1.4 ∧ a0.5 = a1.5 ∧ a0.6 = a1.6 ∧ a0.7 = a1.7 ∧ a0.8 = a1.8 ∧ True) ∧ (0 : Int) = 0 ∧ True) ∧ (True ∧ FlatL
 a0.1 ∧ a0.1 = a1.1) ∧ (True ∧ FlatL a0.2 ∧ a0.2 = a1.2) ∧ (True ∧ FlatL a0.3 ∧ a0.3 = a1.3) ∧ True
abbrev QYk4P_13 : Prop := True ∧ True ∧ True ∧ True ∧ True ∧ True ∧ True ∧ True ∧ True ∧ True ∧ (True ∧ True) ∧ True ∧ True ∧ True
theorem vc_gbad0 (b : BdA) : G_gbad0 b = (QYk4P_13 ∧ ∀ (x0 : Int), x0 = IntKind.wrap .i64 b.2 → (x0 < (1 : Int) → QYk4P_4) ∧ (¬(x0 < (1 : Int)) → ∀ (x2 : Int), x2 = IntKind.wrap .i64 b.2 → ((3 : Int) < x2 → QYk4P_4) ∧
(¬((3 : Int) < x2) → QYk4P_9 ∧ False))) := by kernel_rfl
theorem vc_gbad1 (b : BdA) : G_gbad1 b = (QYk4P_13 ∧ ∀ (x0 : Int), x0 = IntKind.wrap .i64 b.2 → (x0 < (0 : Int) → QYk4P_4) ∧ (¬(x0 < (0 : Int)) → ∀ (x2 : Int), x2 = IntKind.wrap .i64 b.2 → ((1 : Int) < x2 → QYk4P_4) ∧
(¬((1 : Int) < x2) → QYk4P_9 ∧ False))) := by kernel_rfl
set_option maxHeartbeats 3200000 in
theorem vc_gdoX (a : GdA) : G_gdoX a = ((True ∧ (∃ (x0 x1 : Nat), isG a.1 a.2 x0 x1)) ∧ QYk4P_5 a.2 a.1 ∧ (∀ (_ : Unit), True → (True ∧ (∃ (x3 x4 : Nat), isG a.1 a.2 x3 x4)) ∧ ((0 = 0 ∧ QYk4P_11 a.2 ∧ True) ∧ QYk4P_1
a.1 a.2) ∧ (∀ (x5 : TnB), (∃ (x6 x7 : Nat), isG a.1 a.2 x6 x7 ∧ x5.1 = turnG x6 x7) → (¬(a.2.4 = 0 ∧ a.2.5 = 0 ∧ a.2.6 = 0 ∧ a.2.7 = 0 ∧ a.2.8 = 0 ∧ True) → (x5.1 < 0 → (∃ (x8 :
TnB), QYk4P_7 a x8.1 ∧ (QYk4P_2 ∧ x8.1 = 15 ∧ True) ∧ True)) ∧ (¬(x5.1 < 0) → (x5.1 ≠ a.3 → (∃ (x11 : TnB), QYk4P_7 a x11.1 ∧ (QYk4P_2 ∧ x11.1 = 13 ∧ True) ∧ True)) ∧ (¬(x5.1 ≠
a.3) → (∃ (x14 : TnB), QYk4P_7 a x14.1 ∧ (QYk4P_2 ∧ x14.1 = 14 ∧ True) ∧ True)))) ∧ (a.2.4 = 0 ∧ a.2.5 = 0 ∧ a.2.6 = 0 ∧ a.2.7 = 0 ∧ a.2.8 = 0 ∧ True → (x5.1 < 0 → (∃ (x17 : TnB),
QYk4P_7 a x17.1 ∧ (QYk4P_2 ∧ x17.1 = 15 ∧ True) ∧ True)) ∧ (¬(x5.1 < 0) → (x5.1 ≠ a.3 → (∃ (x20 : TnB), QYk4P_7 a x20.1 ∧ (QYk4P_2 ∧ x20.1 = 13 ∧ True) ∧ True)) ∧ (¬(x5.1 ≠ a.3) →
(True ∧ (FlatL a.2.1 ∧ inR a.4) ∧ (∃ (x23 : Nat), (x23 = 0 ∨ x23 = 1) ∧ RuA.mk a.1.1 a.1.2 a.1.3 a.1.4 a.1.5 a.1.6 a.1.7 a.1.8 a.1.9 a.1.10 a.1.11 a.1.12 a.1.13 a.1.14 a.1.15
a.1.16 [] [] (D8.mk (0 : Int) (0 : Int) (0 : Int) (0 : Int) (0 : Int) (0 : Int) (0 : Int) (0 : Int)) = coG (rulG x23) ∧ (a.4 < loG x23 ∨ hiG x23 < a.4))) ∧ ((0 = 0 ∧ (2 : Int) = 2
∧ Z2 ∧ (0 = 0 ∧ 1 = 1 ∧ 1 = 1) ∧ True) ∧ QYk4P_3 a.1 ∧ QYk4P_6 ∧ ZF a.1.11 ∧ ZF a.1.12 ∧ ZF a.1.13 ∧ ZF a.1.14 ∧ ZF a.1.15 ∧ ZF a.1.16 ∧ ZF a.2.1 ∧ (True ∧ Z1 a.4 ∧ True) ∧ True) ∧
(∀ (_ : Unit), True → (True ∧ True ∧ True ∧ True ∧ True ∧ True ∧ True ∧ True ∧ True ∧ True ∧ (True ∧ True) ∧ (True ∧ True ∧ True) ∧ True ∧ True ∧ True) ∧ ∃ (x25 : TnB), QYk4P_7 a
x25.1 ∧ (QYk4P_2 ∧ x25.1 = 14 ∧ True) ∧ True) ∧ True)))) ∧ True) ∧ True) := by kernel_rfl
set_option maxHeartbeats 3200000 in
theorem vc_gsilX (a : GsA) : G_gsilX a = ((True ∧ (∃ (x0 x1 : Nat), isG a.1 a.2 x0 x1)) ∧ QYk4P_5 a.2 a.1 ∧ (∀ (_ : Unit), True → (0 ≤ a.3 → (a.3 < 2 → (True ∧ (∃ (x3 x4 : Nat), isG a.1 a.2 x3 x4)) ∧ ((0 = 0 ∧ QYk4P_11
a.2 ∧ True) ∧ QYk4P_1 a.1 a.2) ∧ (∀ (x5 : TnB), (∃ (x6 x7 : Nat), isG a.1 a.2 x6 x7 ∧ x5.1 = turnG x6 x7) → (x5.1 < 0 → (∃ (x8 : TnB), x8.1 = 28 ∧ (QYk4P_2 ∧ x8.1 = 15 ∧ True) ∧
True)) ∧ (¬(x5.1 < 0) → (0 ≤ a.3 ∧ a.3 < 2) ∧ ∀ (x9 : Nat), x9 = 0 + Int.toNat a.3 * 1 → ∃ (x10 : Bool), Rd a.2.2 (Nat.add x9 0) (Value.bool x10) ∧ (x10 = true → (∃ (x11 : TnB),
x11.1 = 28 ∧ (QYk4P_2 ∧ x11.1 = 7 ∧ True) ∧ True)) ∧ (x10 = false → ∀ (x12 : Int), x12 = IntKind.wrap .i32 a.3 → False))) ∧ True) ∧ (¬(a.3 < 2) → (∃ (x13 : TnB), x13.1 = 28 ∧
(QYk4P_2 ∧ x13.1 = 28 ∧ True) ∧ True))) ∧ (¬(0 ≤ a.3) → ∃ (x14 : TnB), x14.1 = 28 ∧ (QYk4P_2 ∧ x14.1 = 28 ∧ True) ∧ True)) ∧ True) := by kernel_rfl
theorem vc_cdo (a : GdA) : G_cdo a = ((True ∧ (∃ (x0 x1 : Nat) (x2 : Int), isG a.1 a.2 x0 x1 ∧ (x0, x1, a.3, a.4, x2) ∈ playT)) ∧ ((0 = 0 ∧ QYk4P_11 a.2 ∧ Z1 a.3 ∧ (false = false ∧ (0 = 0 ∧ 1 = 1 ∧ 1 = 1) ∧ (0 : Int)
= 0 ∧ (0 : Int) = 0 ∧ (0 : Int) = 0 ∧ (0 : Int) = 0 ∧ (0 : Int) = 0 ∧ (0 : Int) = 0 ∧ (0 : Int) = 0 ∧ (0 : Int) = 0 ∧ True) ∧ True) ∧ QYk4P_8 a.1 ∧ QYk4P_10 ∧ QYk4P_3 a.1 ∧ QYk4P_6
∧ ZF a.1.11 ∧ ZF a.1.12 ∧ ZF a.1.13 ∧ ZF a.1.14 ∧ ZF a.1.15 ∧ ZF a.1.16 ∧ ZF a.1.17 ∧ ZF a.1.18 ∧ ZF a.2.1 ∧ ZF a.2.2 ∧ ZF a.2.3 ∧ (True ∧ Z1 a.4 ∧ True) ∧ ZF cells2 ∧ True) ∧ (∀
(x3 : PoA), (∃ (x4 x5 x6 : Nat), isG a.1 a.2 x4 x5 ∧ (x4, x5, a.3, a.4, (↑x6 : Int)) ∈ playT ∧ isG a.1 x3 x4 x6) → ∃ (x7 : PoA), (∃ (x8 x9 x10 : Nat), isG a.1 a.2 x8 x9 ∧ doG x8 x9
a.3 a.4 = (↑x10 : Int) ∧ isG a.1 x7 x8 x10) ∧ QYk4P_12 x7 x3) ∧ (∀ (x11 : TnB), 0 < x11.1 ∧ (∃ (x12 x13 : Nat), isG a.1 a.2 x12 x13 ∧ (x12, x13, a.3, a.4, -x11.1) ∈ playT) → ∃ (x14
: TnB), (0 < x14.1 ∧ (∃ (x15 x16 : Nat), isG a.1 a.2 x15 x16 ∧ doG x15 x16 a.3 a.4 = -x14.1)) ∧ (QYk4P_2 ∧ x14.1 = x11.1 ∧ True) ∧ True) ∧ True) := by kernel_rfl
theorem vc_csil (a : GsA) : G_csil a = ((True ∧ (∃ (x0 x1 : Nat), isG a.1 a.2 x0 x1) ∧ (a.3 = 0 ∨ a.3 = 1)) ∧ ((0 = 0 ∧ QYk4P_11 a.2 ∧ Z1 a.3 ∧ True) ∧ QYk4P_1 a.1 a.2) ∧ (∀ (x2 : PoA), (∃ (x3 x4 x5 : Nat), isG a.1 a.2
x3 x4 ∧ (x3, x4, a.3, (↑x5 : Int)) ∈ silT ∧ isG a.1 x2 x3 x5) → ∃ (x6 : PoA), (∃ (x7 x8 x9 : Nat), isG a.1 a.2 x7 x8 ∧ silG x7 x8 a.3 = (↑x9 : Int) ∧ isG a.1 x6 x7 x9) ∧ QYk4P_12
x6 x2) ∧ (∀ (x10 : TnB), 0 < x10.1 ∧ (∃ (x11 x12 : Nat), isG a.1 a.2 x11 x12 ∧ (x11, x12, a.3, -x10.1) ∈ silT) → ∃ (x13 : TnB), (0 < x13.1 ∧ (∃ (x14 x15 : Nat), isG a.1 a.2 x14 x15
∧ silG x14 x15 a.3 = -x13.1)) ∧ (QYk4P_2 ∧ x13.1 = x10.1 ∧ True) ∧ True) ∧ True) := by kernel_rfl
theorem cwNo_ok {fs : List Nat} {c : CW} (h : CwOK Tryz.prog c) : CwOK Tryz.prog (cwNo fs c) := fun f args A K hk => by
  have hk : (Bool.rec (c f args A K) False (memB f fs) : Prop) := hk
  cases hb : memB f fs with
  | false => rw [hb] at hk; exact h f args A K hk
  | true => rw [hb] at hk; exact hk.elim
theorem g_gbad0 (b : BdA) (hr : inR b.z) (h : b.z < loG 0 ∨ hiG 0 < b.z) : GW (G_gbad0 b) := by
  refine ⟨?_⟩
  rw [vc_gbad0]
  obtain ⟨r1, r2⟩ := hr
  have h : b.z < 1 ∨ 3 < b.z := h
  refine ⟨by (and_intros<;>first|trivial|rfl), fun x0 e0 => ⟨fun _ => ⟨by (and_intros<;>first|trivial|rfl), (), trivial, by (and_intros<;>first|trivial|rfl)⟩, fun h0 x2 e2 => ⟨fun _ => ⟨by (and_intros<;>first|trivial|rfl), (), trivial, by (and_intros<;>first|trivial|rfl)⟩, fun h2 => ?_⟩⟩⟩
  rw [wr64 (by omega)] at e0 e2
  omega
theorem g_gbad1 (b : BdA) (hr : inR b.z) (h : b.z < loG 1 ∨ hiG 1 < b.z) : GW (G_gbad1 b) := by
  refine ⟨?_⟩
  rw [vc_gbad1]
  obtain ⟨r1, r2⟩ := hr
  have h : b.z < 0 ∨ 1 < b.z := h
  refine ⟨by (and_intros<;>first|trivial|rfl), fun x0 e0 => ⟨fun _ => ⟨by (and_intros<;>first|trivial|rfl), (), trivial, by (and_intros<;>first|trivial|rfl)⟩, fun h0 x2 e2 => ⟨fun _ => ⟨by (and_intros<;>first|trivial|rfl), (), trivial, by (and_intros<;>first|trivial|rfl)⟩, fun h2 => ?_⟩⟩⟩
  rw [wr64 (by omega)] at e0 e2
  omega
theorem co0 : coG (rulG 0) = coH 0 := by kernel_rfl
theorem co1 : coG (rulG 1) = coH 1 := by kernel_rfl
theorem s_gb0 (b : BdA) (hr : inR b.z) (hz : b.z < loG 0 ∨ hiG 0 < b.z) : SpecAt Tryz.prog S_gbad.spec ⟨coH 0, b.v, b.z⟩ := specG_at (S := S_gbad) (a := ⟨coH 0, b.v, b.z⟩) (an := []) envOK (cw := cwX (fun c => cwNo [129] c) 4) (cwX_ok (fun _ h => cwNo_ok h) 4) fun _ => g_gbad0 b hr hz
theorem s_gb1 (b : BdA) (hr : inR b.z) (hz : b.z < loG 1 ∨ hiG 1 < b.z) : SpecAt Tryz.prog S_gbad.spec ⟨coH 1, b.v, b.z⟩ := specG_at (S := S_gbad) (a := ⟨coH 1, b.v, b.z⟩) (an := []) envOK (cw := cwX (fun c => cwNo [129] c) 4) (cwX_ok (fun _ h => cwNo_ok h) 4) fun _ => g_gbad1 b hr hz
theorem s_gbad : SpecOK Tryz.prog S_gbad.spec := fun a K hp => by
  obtain ⟨g, v, z⟩ := a
  obtain ⟨⟨hf, hr⟩, k, hk, hg, hz⟩ := id hp
  have hg : g = coG (rulG k) := hg
  rcases hk with e | e
  · rw [e, co0] at hg
    rw [e] at hz
    clear e
    subst hg
    exact s_gb0 ⟨v, z⟩ hr hz K hp
  · rw [e, co1] at hg
    rw [e] at hz
    clear e
    subst hg
    exact s_gb1 ⟨v, z⟩ hr hz K hp
theorem g_gdoX (a : GdA) (hr : inR a.z) (hp : ∃ k j, isG a.g a.p k j ∧ badG k j a.s a.z) : GW (G_gdoX a) := by
  obtain ⟨k, j, hi, hb⟩ := hp
  obtain ⟨f1, f2, f3, f4, f5, f6, f7, f8, f9, f10, f11⟩ := flG_of hi
  have f12 := fl11
  have f13 := fl00
  have f14 := glO
  refine ⟨?_⟩
  rw [vc_gdoX]
  refine ⟨⟨trivial, k, j, hi⟩, by (and_intros<;>first|trivial|rfl), fun _ _ => ⟨⟨trivial, k, j, hi⟩, by (and_intros<;>first|trivial|rfl), fun t ht' => ?_, trivial⟩, trivial⟩
  obtain ⟨k', j', hi', ht⟩ := ht'
  obtain ⟨rfl, rfl⟩ := isG_inj hi hi'
  have fin : ∀ n : Int, n = doE k j a.s → ∃ b : TnB, (∃ k j, isG a.g a.p k j ∧ badG k j a.s a.z ∧ b.k = doE k j a.s) ∧ b.k = n := fun n hn => ⟨⟨n⟩, ⟨k, j, hi, hb, hn⟩, rfl⟩
  have d15 : turnG k j < 0 → (15 : Int) = doE k j a.s := fun h => by unfold doE; rw [if_pos h]
  have d13 : ¬ turnG k j < 0 → turnG k j ≠ a.s → (13 : Int) = doE k j a.s := fun h h2 => by unfold doE; rw [if_neg h, if_pos h2]
  have d14 : ¬ turnG k j < 0 → ¬ turnG k j ≠ a.s → (14 : Int) = doE k j a.s := fun h h2 => by unfold doE; rw [if_neg h, if_neg h2]
  rw [← ht] at d15 d13 d14
  have out : ∀ n : Int, n = doE k j a.s → _ := fin
  refine ⟨fun _ => ⟨fun h => ?_, fun h => ⟨fun h2 => ?_, fun h2 => ?_⟩⟩, fun hz => ⟨fun h => ?_, fun h => ⟨fun h2 => ?_, fun h2 => ?_⟩⟩⟩
  · refine ⟨⟨15⟩, ⟨k, j, hi, hb, d15 h⟩, by (and_intros<;>first|trivial|rfl)⟩
  · refine ⟨⟨13⟩, ⟨k, j, hi, hb, d13 h h2⟩, by (and_intros<;>first|trivial|rfl)⟩
  · refine ⟨⟨14⟩, ⟨k, j, hi, hb, d14 h h2⟩, by (and_intros<;>first|trivial|rfl)⟩
  · refine ⟨⟨15⟩, ⟨k, j, hi, hb, d15 h⟩, by (and_intros<;>first|trivial|rfl)⟩
  · refine ⟨⟨13⟩, ⟨k, j, hi, hb, d13 h h2⟩, by (and_intros<;>first|trivial|rfl)⟩
  · have hz1 : a.p.r1 = 0 := hz.2.1
    have h9 : (gpos k j).r1 = 0 := by rw [hi.2.2] at hz1; exact hz1
    refine ⟨⟨trivial, ⟨f9, hr⟩, k, k01 hi.1, (isC_of hi).2.1, ?_⟩, by (and_intros<;>first|trivial|rfl), fun _ _ => ⟨by (and_intros<;>first|trivial|rfl), ⟨14⟩, ⟨k, j, hi, hb, d14 h h2⟩, by (and_intros<;>first|trivial|rfl)⟩, trivial⟩
    rcases hb with b | b | b | b
    · exact absurd (ht ▸ b) h
    · exact absurd (ht ▸ b) h2
    · exact absurd h9 b
    · exact b
theorem s_gdoX : SpecOK Tryz.prog S_gdoX.spec := fun a => specG_at (an := []) envOK (cwX_ok (fun _ h => cwD_ok s_gcheck (cwD_ok s_gturn (cwD_ok s_gbad h))) 3) fun hp => g_gdoX a hp.1 hp.2
theorem play_all : (playT.all fun e => decide (doG e.1 e.2.1 e.2.2.1 e.2.2.2.1 = e.2.2.2.2) && (decide (0 ≤ turnG e.1 e.2.1) && (decide (turnG e.1 e.2.1 = e.2.2.1) && (decide ((gpos e.1 e.2.1).r1 = 0) && (decide (loG e.1 ≤ e.2.2.2.1) && decide (e.2.2.2.1 ≤ hiG e.1)))))) = true := by kernel_rfl
theorem play_has : (allG.all fun q => decide (turnG q.1 q.2 < 0) || (!decide ((gpos q.1 q.2).r1 = 0) || ([0, 1, 2, 3] : List Int).all fun z => !(decide (loG q.1 ≤ z) && decide (z ≤ hiG q.1)) || playT.any fun e => Nat.beq e.1 q.1 && (Nat.beq e.2.1 q.2 && (decide (e.2.2.1 = turnG q.1 q.2) && decide (e.2.2.2.1 = z))))) = true := by kernel_rfl
theorem doG_play {k j : Nat} {s z r : Int} (h : (k, j, s, z, r) ∈ playT) : doG k j s z = r := by
  have := List.all_eq_true.1 play_all _ h
  simp only [Bool.and_eq_true, decide_eq_true_eq] at this
  exact this.1
theorem doG_bad {k j : Nat} {s z : Int} (h : badG k j s z) : doG k j s z = -doE k j s := by
  have hn : playT.find? (fun e => Nat.beq e.1 k && (Nat.beq e.2.1 j && (decide (e.2.2.1 = s) && decide (e.2.2.2.1 = z)))) = none := by
    rw [List.find?_eq_none]
    rintro ⟨k', j', s', z', r⟩ he hb
    simp only [Bool.and_eq_true, decide_eq_true_eq] at hb
    obtain ⟨h1, h2, h3, h4⟩ := hb
    have h1 : k' = k := Nat.eq_of_beq_eq_true h1
    have h2 : j' = j := Nat.eq_of_beq_eq_true h2
    subst h1 h2 h3 h4
    have := List.all_eq_true.1 play_all _ he
    simp only [Bool.and_eq_true, decide_eq_true_eq] at this
    obtain ⟨-, a1, a2, a3, a4, a5⟩ := this
    rcases h with b | b | b | b | b
    · omega
    · exact b a2
    · exact b a3
    · omega
    · omega
  unfold doG
  rw [hn]
theorem play_of {k j : Nat} {s z : Int} (hm : (k, j) ∈ allG) (h : ¬ badG k j s z) : ∃ r, (k, j, s, z, r) ∈ playT := by
  unfold badG at h
  have h1 : ¬ turnG k j < 0 := fun e => h (.inl e)
  have h2 : turnG k j = s := Classical.byContradiction fun e => h (.inr (.inl e))
  have h3 : (gpos k j).r1 = 0 := Classical.byContradiction fun e => h (.inr (.inr (.inl e)))
  have h4 : loG k ≤ z := Int.not_lt.1 fun e => h (.inr (.inr (.inr (.inl e))))
  have h5 : z ≤ hiG k := Int.not_lt.1 fun e => h (.inr (.inr (.inr (.inr e))))
  have hz : z ∈ ([0, 1, 2, 3] : List Int) := by
    have : 0 ≤ z ∧ z ≤ 3 := by
      rcases k01 hm with e | e <;> subst e
      · have h4 : (1 : Int) ≤ z := h4
        have h5 : z ≤ 3 := h5
        omega
      · have h4 : (0 : Int) ≤ z := h4
        have h5 : z ≤ 1 := h5
        omega
    rcases (by omega : z = 0 ∨ z = 1 ∨ z = 2 ∨ z = 3) with e | e | e | e <;> simp [e]
  have := List.all_eq_true.1 play_has (k, j) hm
  simp only [decide_eq_false h1, h3, decide_true, Bool.not_true, Bool.false_or] at this
  have := List.all_eq_true.1 this z hz
  simp only [decide_eq_true h4, decide_eq_true h5, Bool.and_self, Bool.not_true, Bool.false_or] at this
  obtain ⟨⟨k', j', s', z', r⟩, he, h6⟩ := List.any_eq_true.1 this
  simp only [Bool.and_eq_true, decide_eq_true_eq] at h6
  obtain ⟨g1, g2, g3, g4⟩ := h6
  have g1 : k' = k := Nat.eq_of_beq_eq_true g1
  have g2 : j' = j := Nat.eq_of_beq_eq_true g2
  subst g1 g2 g4
  exact ⟨r, by rw [← h2, ← g3]; exact he⟩
theorem g_cdo (a : GdA) (hp : ∃ k j r, isG a.g a.p k j ∧ (k, j, a.s, a.z, r) ∈ playT) : G_cdo a := by
  obtain ⟨k, j, r, hi, hr⟩ := id hp
  obtain ⟨f1, f2, f3, f4, f5, f6, f7, f8, f9, f10, f11⟩ := flG_of hi
  have f12 := fl11
  have f13 := fl00
  have f14 := glO
  rw [vc_cdo]
  refine ⟨⟨trivial, hp⟩, by (and_intros<;>first|trivial|rfl), fun b hb => ?_, fun b hb => ?_, trivial⟩
  · obtain ⟨k', j', m, h1, h2, h3⟩ := hb
    obtain ⟨-, -, -, -, -, -, -, -, e9, e10, e11⟩ := flG_of h3
    refine ⟨b, ⟨k', j', m, h1, doG_play h2, h3⟩, ?_⟩
    (and_intros<;>first|trivial|rfl)
  · obtain ⟨h0, k', j', h1, h2⟩ := hb
    refine ⟨b, ⟨h0, k', j', h1, doG_play h2⟩, ?_⟩
    (and_intros<;>first|trivial|rfl)
theorem doE_pos (k j : Nat) (s : Int) : 0 < doE k j s := by
  unfold doE
  split
  · decide
  · split <;> decide
theorem s_gdo : SpecOK Tryz.prog S_gdo.spec := fun a K hp hq => by
  obtain ⟨hr, k, j, hi⟩ := id hp
  by_cases hb : badG k j a.s a.z
  · exact spec_to (S := S_gdoX) (T := S_gdo) (a := a) (b := a) rfl rfl rfl rfl (s_gdoX a) ⟨hr, k, j, hi, hb⟩ (fun K h => ⟨fun b hb' => h.2.1 b (by
      obtain ⟨k', j', h1, h2, h3⟩ := hb'
      have h3 : b.k = doE k' j' a.s := h3
      exact ⟨by rw [h3]; exact doE_pos _ _ _, k', j', h1, by rw [doG_bad h2, ← h3]⟩), trivial⟩) K hp hq
  · obtain ⟨r, hr'⟩ := play_of hi.1 hb
    exact spec_call (S := S_gplay) (T := S_gdo) (b := a) rfl s_gplay (g_cdo a ⟨k, j, r, hi, hr'⟩) K hp hq
theorem g_gsilX (a : GsA) (hp : ∃ k j, isG a.g a.p k j) (hw : ¬ (a.w = 0 ∨ a.w = 1)) : GW (G_gsilX a) := by
  obtain ⟨k, j, hi⟩ := hp
  obtain ⟨f1, f2, f3, f4, f5, f6, f7, f8, f9, f10, f11⟩ := flG_of hi
  have f12 := fl11
  have f13 := fl00
  refine ⟨?_⟩
  rw [vc_gsilX]
  refine ⟨⟨trivial, k, j, hi⟩, by (and_intros<;>first|trivial|rfl), fun _ _ => ⟨fun h0 => ⟨fun h1 => absurd (by omega : a.w = 0 ∨ a.w = 1) hw, fun _ => ⟨⟨28⟩, rfl, by (and_intros<;>first|trivial|rfl)⟩⟩, fun _ => ⟨⟨28⟩, rfl, by (and_intros<;>first|trivial|rfl)⟩⟩, trivial⟩
theorem s_gsilX : SpecOK Tryz.prog S_gsilX.spec := fun a => specG_at (an := []) envOK (cwX_ok (fun _ h => cwD_ok s_gcheck (cwD_ok s_gturn h)) 3) fun hp => g_gsilX a hp.1 hp.2
theorem sil_all : (silT.all fun e => decide (silG e.1 e.2.1 e.2.2.1 = e.2.2.2) && (decide (e.2.2.1 = 0) || decide (e.2.2.1 = 1))) = true := by kernel_rfl
theorem silG_in {k j : Nat} {w r : Int} (h : (k, j, w, r) ∈ silT) : silG k j w = r := by
  have := List.all_eq_true.1 sil_all _ h
  simp only [Bool.and_eq_true, decide_eq_true_eq] at this
  exact this.1
theorem silG_no {k j : Nat} {w : Int} (h : ¬ (w = 0 ∨ w = 1)) : silG k j w = -28 := by
  have hn : silT.find? (fun e => Nat.beq e.1 k && (Nat.beq e.2.1 j && decide (e.2.2.1 = w))) = none := by
    rw [List.find?_eq_none]
    rintro ⟨k', j', w', r⟩ he hb
    simp only [Bool.and_eq_true, decide_eq_true_eq] at hb
    have := List.all_eq_true.1 sil_all _ he
    simp only [Bool.and_eq_true, Bool.or_eq_true, decide_eq_true_eq] at this
    exact h (hb.2.2 ▸ this.2)
  unfold silG
  rw [hn]
theorem g_csil (a : GsA) (hp : (∃ k j, isG a.g a.p k j) ∧ (a.w = 0 ∨ a.w = 1)) : G_csil a := by
  obtain ⟨⟨k, j, hi⟩, hw⟩ := id hp
  obtain ⟨f1, f2, f3, f4, f5, f6, f7, f8, f9, f10, f11⟩ := flG_of hi
  have f12 := fl11
  have f13 := fl00
  have f14 := glO
  rw [vc_csil]
  refine ⟨⟨trivial, hp⟩, by (and_intros<;>first|trivial|rfl), fun b hb => ?_, fun b hb => ?_, trivial⟩
  · obtain ⟨k', j', m, h1, h2, h3⟩ := hb
    obtain ⟨-, -, -, -, -, -, -, -, e9, e10, e11⟩ := flG_of h3
    refine ⟨b, ⟨k', j', m, h1, silG_in h2, h3⟩, ?_⟩
    (and_intros<;>first|trivial|rfl)
  · obtain ⟨h0, k', j', h1, h2⟩ := hb
    refine ⟨b, ⟨h0, k', j', h1, silG_in h2⟩, ?_⟩
    (and_intros<;>first|trivial|rfl)
theorem s_gsl : SpecOK Tryz.prog S_gsl.spec := fun a K hp hq => by
  obtain ⟨k, j, hi⟩ := id hp
  by_cases hw : a.w = 0 ∨ a.w = 1
  · exact spec_call (S := S_gsil) (T := S_gsl) (b := a) rfl s_gsil (g_csil a ⟨⟨k, j, hi⟩, hw⟩) K hp hq
  · exact spec_to (S := S_gsilX) (T := S_gsl) (a := a) (b := a) rfl rfl rfl rfl (s_gsilX a) ⟨⟨k, j, hi⟩, hw⟩ (fun K h => ⟨fun b hb' => h.2.1 b (by
      have hb' : b.k = 28 := hb'
      exact ⟨by rw [hb']; decide, k, j, hi, by rw [silG_no hw, hb']⟩), trivial⟩) K hp hq
end Go.Proofs.YtfkacmmcgncooaaGreatDoor
end

/- Tables within tables: the rows of a stack, for each depth. -/
section
set_option maxRecDepth 100000
namespace Go.Proofs.YtfkacmmcgncooaaGreatDoor
open Go.Ev
structure OuA where
  r0 : Int
  r1 : Int
  r2 : Int
  r3 : Int
  r4 : Int
  x : Int
  y : Int
structure StA where
  a : OuA
  b : OuA
  c : OuA
  g : RuA
  p : PoA
  x : Int
  y : Int
def PoA.ou (p : PoA) (x y : Int) : OuA := ⟨p.r0, p.r1, p.r2, p.r3, p.r4, x, y⟩
def OuA.add (o : OuA) (x y : Int) : OuA := ⟨o.r0, o.r1, o.r2, o.r3, o.r4, o.x + x, o.y + y⟩
structure LvV where
  b : Nat
  q : Nat
  s : Nat
  o : OuA
set_option linter.unusedSectionVars false
variable [Go.Ev.Frozen Tryz.prog]
noncomputable section
def nth4 {α : Type} (d : Nat) (a b c e : α) : α := Nat.rec a (fun d _ => Nat.rec a (fun d _ => Nat.rec b (fun d _ => Nat.rec c (fun _ _ => e) d) d) d) d
def lvC (v : LvV) : List Value := [.pointer (some ⟨v.b, 0, none⟩), sc v.q 2, sc (v.q + 1) 2, sc (v.q + 2) 2, tgI .i64 v.o.r0, tgI .i64 v.o.r1, tgI .i64 v.o.r2, tgI .i64 v.o.r3, tgI .u64 v.o.r4, sc v.s 2]
def lvsC (l : List LvV) : List Value := List.rec [] (fun v _ ih => lvC v ++ ih) l
def lvsS (l : List LvV) : List (Nat × PO) := List.rec [] (fun v _ ih => (v.s, .p (.row [tgI .i64 v.o.x, tgI .i64 v.o.y] 3 (.grown 2))) :: ih) l
def stR (i j d : Nat) (l : List LvV) : List (Nat × PO) := (i, .p (.row [sc j d] 81 .own)) :: (j, .p (.row (lvsC l) 83 (.grown d))) :: lvsS l
def loV (b : Nat) (o : OuA) : LvV := ⟨b, b + 12, b + 15, o⟩
def StA.inn (a : StA) : OuA := a.p.ou a.x a.y
def ouL (d : Nat) (a : StA) : List LvV := nth4 d ([]) ([loV (12 + 2) a.a]) ([loV (12 + 2) a.a, loV (12 + 18) a.b]) ([loV (12 + 2) a.a, loV (12 + 18) a.b, loV (12 + 34) a.c])
def inB (d : Nat) : Nat := nth4 d (12 + 2) (12 + 18) (12 + 34) (12 + 50)
def stL (d : Nat) (a : StA) : List LvV := ouL d a ++ [loV (inB d) a.inn]
def outR (l : List LvV) : List (Nat × PO) := List.rec [] (fun v _ ih => (v.b, .p (.row [] 120 .gro)) :: (v.q, .p (.row [] 21 .gro)) :: (v.q + 1, .p (.row [] 4 .gro)) :: (v.q + 2, .p (.row [] 47 .gro)) :: ih) l
def memR (d : Nat) (a : StA) : List (Nat × PO) := stR 12 (12 + 1) d (stL d a) ++ (outR (ouL d a) ++ (ruR a.g (inB d) ++ poR a.p (inB d + 12)))
def blK {β : Type} (v : Value) (k : Nat → Option β) : Option β := match v with
  | .slice (some ⟨b, _, _⟩) _ _ => k b
  | .iface _ (.slice (some ⟨b, _, _⟩) _ _) => k b
  | _ => k 0
def ouK {β : Type} (A : AW) (c : List Value) (o b : Nat) (k : OuA → List (Nat × Nat) → Option β) : Option β :=
  ptK (lv c o) fun p => blK (lv c (Nat.add o 1)) fun q0 => blK (lv c (Nat.add o 2)) fun q1 => blK (lv c (Nat.add o 3)) fun q2 => wI (lv c (Nat.add o 4)) fun r0 => wI (lv c (Nat.add o 5)) fun r1 => wI (lv c (Nat.add o 6)) fun r2 => wI (lv c (Nat.add o 7)) fun r3 => wI (lv c (Nat.add o 8)) fun r4 =>
    blK (lv c (Nat.add o 9)) fun s => rowK A s fun t => wI (lv t 0) fun x => wI (lv t 1) fun y => k ⟨r0, r1, r2, r3, r4, x, y⟩ [(b, p), (b + 12, q0), (b + 13, q1), (b + 14, q2), (b + 15, s)]
def inK {β : Type} (A : AW) (c : List Value) (o b : Nat) (k : RuA → PoA → Int → Int → List (Nat × Nat) → Option β) : Option β :=
  ruK A b (lv c o) fun g q => poK A (b + 12) (c.drop (Nat.add o 1)) fun p r => blK (lv c (Nat.add o 9)) fun s => rowK A s fun t => wI (lv t 0) fun x => wI (lv t 1) fun y => k g p x y ((b + 15, s) :: (q ++ r))
def ou0 : OuA := ⟨0, 0, 0, 0, 0, 0, 0⟩
def ousK {β : Type} (A : AW) (c : List Value) (d : Nat) (k : OuA → OuA → OuA → List (Nat × Nat) → Option β) : Option β := nth4 d (k ou0 ou0 ou0 []) (ouK A c 0 (12 + 2) fun a q => k a ou0 ou0 q) (ouK A c 0 (12 + 2) fun a q => ouK A c 10 (12 + 18) fun b r => k a b ou0 (q ++ r)) (ouK A c 0 (12 + 2) fun a q => ouK A c 10 (12 + 18) fun b r => ouK A c 20 (12 + 34) fun e s => k a b e (q ++ (r ++ s)))
def inO (d : Nat) : Nat := nth4 d (0) (10) (20) (30)
def stK {β : Type} (d : Nat) (A : AW) (v : Value) (k : StA → List (Nat × Nat) → Option β) : Option β := ptK v fun i => rowK A i fun h => match lv h 0 with
  | .slice (some ⟨j, _, _⟩) l _ => Bool.rec none (rowK A j fun c => ousK A c d fun a b e q => inK A c (inO d) (inB d) fun g p x y r => k ⟨a, b, e, g, p, x, y⟩ ((12, i) :: (12 + 1, j) :: (q ++ r))) (Nat.beq l d)
  | _ => none
def ptI (v : Value) : Nat := match v with
  | .pointer (some ⟨b, _, _⟩) => b
  | .iface _ (.pointer (some ⟨b, _, _⟩)) => b
  | _ => 0
def blI (v : Value) : Nat := match v with
  | .slice (some ⟨b, _, _⟩) _ _ => b
  | .iface _ (.slice (some ⟨b, _, _⟩) _ _) => b
  | _ => 0
def smQ (n : Int) : Prop := 0 ≤ n ∧ n ≤ 1000000
def isGx (g : RuA) (p : PoA) : Prop := ∃ k j, isG g p k j
end
end Go.Proofs.YtfkacmmcgncooaaGreatDoor
end
