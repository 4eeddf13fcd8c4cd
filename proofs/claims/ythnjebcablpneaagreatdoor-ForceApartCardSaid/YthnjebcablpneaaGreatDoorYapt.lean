/- The law that what is handed in stays, for any position as it comes in. -/
import Derived.Test.YthnjebcablpneaaGreatDoorYlawP
import Derived.Test.YthnjebcablpneaaGreatDoorEv17
import Derived.Test.YthnjebcablpneaaGreatDoorPos
set_option maxRecDepth 100000
namespace Go.Proofs.YthnjebcablpneaaGreatDoor
open Go.RowKit Go.Ev
theorem rowAt_le {P : Program} {ft : TypeId → Bool} {d : Nat} {e : TypeId} {count off n : Nat} (h : Go.rowAt P ft d e count off n = true) : off ≤ count * P.cellsOf e := by
  cases d with
  | zero => cases h
  | succ d =>
    unfold Go.rowAt at h
    by_cases hs : P.cellsOf e = 0
    · simp [hs] at h
    · simp only [hs, if_false, Bool.or_eq_true, Bool.and_eq_true, beq_iff_eq, decide_eq_true_eq] at h
      have hd := Nat.div_add_mod off (P.cellsOf e)
      have hm := Nat.mod_lt off (Nat.pos_of_ne_zero hs)
      rcases h with ⟨⟨h1, h2⟩, _⟩ | ⟨h1, _⟩
      · have := Nat.mul_le_mul_right (P.cellsOf e) (show off / P.cellsOf e ≤ count by omega)
        rw [Nat.mul_comm] at hd
        omega
      · have := Nat.mul_le_mul_right (P.cellsOf e) (show off / P.cellsOf e + 1 ≤ count by omega)
        rw [Nat.add_mul, Nat.one_mul] at this
        rw [Nat.mul_comm] at hd
        omega
theorem liesAt_le {P : Program} {e : TypeId} {count off : Nat} : ∀ {d : Nat} {u : TypeId} {n : Nat}, liesAt P d e count off u n = true → off ≤ count * P.cellsOf e := by
  intro d
  induction d with
  | zero => intro u n h; cases h
  | succ d ih =>
    intro u n h
    unfold liesAt at h
    rw [Bool.or_eq_true] at h
    rcases h with h | h
    · exact rowAt_le h
    · split at h
      · exact ih h
      · cases h
theorem slice_has {P : Program} {w : World} {r : Reach} {base : Nat} {t e : TypeId} {a : Addr} {len cap : Nat} (ht : P.underlying t = some (.slice e)) (h : Cell.okWide P w r base t (.slice (some a) len cap)) : a.spot = none ∧ ∃ cs ty fz, w.heap[a.block]? = some (.cells cs ty fz) ∧ a.off ≤ cs.size := by
  unfold Cell.okWide at h
  rw [ht] at h
  have h : Cell.ok P w r base t (.slice (some a) len cap) := h
  unfold Cell.ok at h
  rw [ht] at h
  obtain ⟨_, _, _, h1, row, cells, h2, h3⟩ := h
  refine ⟨h1, ?_⟩
  unfold World.shape? at h2
  split at h2
  · rename_i c el fz hq
    cases h2
    refine ⟨c, _, _, hq, Nat.le_trans (liesAt_le h3) (Nat.div_mul_le_self _ _)⟩
  · cases h2
theorem cell_row {w : World} {b i : Nat} {v : Value} {cs : Array Value} {ty : TypeId} {fz : Nat × Nat} (h : w.cell? ⟨b, i, none⟩ = some v) (hb : w.heap[b]? = some (.cells cs ty fz)) : cs.toList[i]? = some v := by
  unfold World.cell? at h
  rw [hb] at h
  simpa using h
/-- A slice as it came in, as the evaluator is told of it. -/
theorem sli_in {α : Type} {f : α → Value} (hf : ∀ x, Ev.flat (f x) = true) {sz : Nat} {w : World} {A : Option Addr} {n c : Nat} {xs : List α} (hlen : xs.length = n * sz) (hat : 0 < n → ∃ b off, A = some ⟨b, off, none⟩ ∧ b < w.heap.size ∧ ∀ i x, xs[i]? = some x → w.cell? ⟨b, off + i, none⟩ = some (f x))
    (hA : A = none → c = 0) (hc : n ≤ c) (hz : 0 < sz) (hh : ∀ a, A = some a → a.spot = none ∧ ∃ cs ty fz, w.heap[a.block]? = some (.cells cs ty fz) ∧ a.off ≤ cs.size) :
    ∃ (nb : Bool) (o : Nat) (cl : List Value) (blk : Option Nat), Sli f sz nb o n c cl xs ∧ (∀ b, blk = some b → ∃ cs ty fz, w.heap[b]? = some (.cells cs ty fz) ∧ ∀ σ, VRL σ cl cs.toList) ∧ ∀ σ i, σ i = blk.map (fun b => (b, 0)) → VR σ (mnS i nb o n c) (.slice A n c) := by
  cases A with
  | none =>
    have hc0 := hA rfl
    have hn0 : n = 0 := by omega
    subst hc0 hn0
    have hx : xs = [] := List.eq_nil_of_length_eq_zero (by omega)
    subst hx
    exact ⟨true, 0, [], none, .none, (fun b h => by cases h), fun σ i _ => .mnil rfl rfl rfl⟩
  | some a =>
    obtain ⟨hsp, cs, ty, fz, hbk, hoff⟩ := hh a rfl
    obtain ⟨b, off, sp⟩ := a
    have hsp : sp = none := hsp
    subst hsp
    have hbk : w.heap[b]? = some (.cells cs ty fz) := hbk
    have hoff : off ≤ cs.size := hoff
    have cellAt : ∀ i x, xs[i]? = some x → cs.toList[off + i]? = some (f x) := fun i x hx => by
      have hi : i < xs.length := (List.getElem?_eq_some_iff.1 hx).1
      have hn : 0 < n := by
        rcases Nat.eq_zero_or_pos n with e | e
        · rw [e, Nat.zero_mul] at hlen; omega
        · exact e
      obtain ⟨b', off', e1, _, h2⟩ := hat hn
      cases e1
      exact cell_row (h2 i x hx) hbk
    have hfl : ∀ i v, i < n * sz → cs.toList[off + i]? = some v → Ev.flat v = true := fun i v hi hv => by
      have hi' : i < xs.length := by omega
      have := cellAt i _ (List.getElem?_eq_getElem hi')
      rw [this] at hv; cases hv; exact hf _
    have hfit : off + n * sz ≤ cs.toList.length := by
      rcases Nat.eq_zero_or_pos (n * sz) with e | e
      · rw [e]; simpa using hoff
      · have hi' : n * sz - 1 < xs.length := by omega
        have := (List.getElem?_eq_some_iff.1 (cellAt (n * sz - 1) _ (List.getElem?_eq_getElem hi'))).1
        omega
    refine ⟨false, off, wnd off (n * sz) cs.toList, some b, ⟨fun i x hx => ?_, hlen, (fun h => by cases h), fun _ => by rw [wnd_length]; exact hfit, hc, wnd_flat _ _ _ hfl⟩, fun b' hb' => ?_, fun σ i hi => ?_⟩
    · have hi : i < xs.length := (List.getElem?_eq_some_iff.1 hx).1
      left
      rw [wnd_get _ _ _ _ (by omega)]; exact cellAt i x hx
    · cases hb'; exact ⟨cs, ty, fz, hbk, fun σ => wnd_vr _ _ _ hfl⟩
    · exact .mn (d := 0) rfl hi
/-- The laid variables, row by row. -/
theorem globs : mem globR 12 = ⟨putAll G0 .e, 12⟩ := by kernel_rfl
theorem s_known : SpecOK Tryz.prog S_known.spec := fun a K _ hq => by
  cases hev : evCallH Tryz.prog E0 (hookAll [hkA1, hkA2, hkA3, hkA4, hkA5, hkA6, hkA7, hkA8, hkA9, hkA10]) 300 13 [] ⟨putAll G0 .e, 12⟩ with
  | none => have := known33_run; rw [hev] at this; cases this
  | some p =>
    obtain ⟨v1, B⟩ := p
    have hr := known33_run
    rw [hev] at hr
    obtain rfl := veq6_eq (show veq6 v1 (.bool true) = true from hr)
    have hsem : FnSem Tryz.prog 13 [] (mem globR 12) (.bool true) B := fun σ w args' hR ha => by
      rw [globs] at hR ⊢
      exact evCallH_ok envOK hooksA 300 _ [] _ _ B hev σ w args' hR ha
    exact ⟨.bool true, [], 12, hq.1 () trivial, fun _ _ _ _ h => (nomatch h), fnSem_seen rfl hsem (l := []) (cpb_iff.2 ⟨by kernel_rfl, rfl, trivial⟩)⟩
theorem apart_sem (a : AA) (hp : ∃ x, PH a.p x ∧ PW a.p x) (hn : 0 ≤ a.n ∧ a.n ≤ 65535) : ∃ B, FnSem Tryz.prog 3 (S_apart.args a) (mem (S_apart.R a) S_apart.n) (.bool true) B := by
  obtain ⟨v, R', n', hK, _, h⟩ := specD_at (an := [some (la_a1 a.n), some (la_a2 a.n)]) envOK (cwD_ok s_cut (cwD_ok s_clone (cwD_ok s_of (cwD_ok s_open (cwD_ok s_claim (cwD_ok s_same17 (cwD_ok s_known cw0_ok))))))) (fun _ => g_apart a hp hn) (fun v _ _ => v = .bool true) ⟨hp, hn⟩ ⟨fun _ _ => rfl, trivial⟩
  subst hK
  exact ⟨_, h⟩
theorem glob_ro : ∀ j o, (putAll G0 .e).get j = some o → mayW o = false := fun j o hj => by
  have hro : roB 12 G0 = true := by kernel_rfl
  have ho : onceB G0 = true := by kernel_rfl
  obtain ⟨k1, k2⟩ := putAll_get j G0 .e ho
  cases hk : keyB j G0 with
  | false => rw [k2 hk] at hj; cases hj
  | true =>
    obtain ⟨o', ho'⟩ := keyB_iff.1 hk
    rw [k1 o' ho'] at hj; cases hj
    have := List.all_eq_true.1 hro (j, _) ho'
    simp only [Bool.and_eq_true] at this
    obtain ⟨c, e, rfl, _⟩ := roO_some this.2
    rfl
theorem okPos {w : World} {base : Nat} {cs : Array Value} (h : Value.okWide Tryz.prog w .any base 29 (.agg cs)) : ∀ (i : Nat) (u : TypeId) (v : Value), ([22, 23, 24] : List TypeId)[i]? = some u → cs[i]? = some v → Cell.okWide Tryz.prog w .any base u v := by
  unfold Value.okWide at h
  rw [Tryz.underlying29] at h
  obtain ⟨cs', hcs, hsz, ts, hts, _, hall⟩ := h
  cases hcs
  have hts2 : Tryz.prog.cellTypes Tryz.prog.depth 29 = some [22, 23, 24, 3, 3, 3, 3, 25] := by kernel_rfl
  rw [hts2] at hts
  cases hts
  intro i u v hi hv
  obtain ⟨u', h1, h2⟩ := hall i v hv
  match i, hi with
  | 0, hi => cases hi; cases h1; exact h2
  | 1, hi => cases hi; cases h1; exact h2
  | 2, hi => cases hi; cases h1; exact h2
  | n + 3, hi => simp at hi
theorem flat_join : ∀ {ds : List (List Int)}, (∀ d ∈ ds, Dig d) → ds.flatten.length = ds.length * 8 := by
  intro ds
  induction ds with
  | nil => intro _; rfl
  | cons d ds ih => intro h; rw [List.flatten_cons, List.length_append, ih (fun x hx => h x (by simp [hx])), (h d (by simp)).1, List.length_cons]; omega
theorem flat_dig : ∀ {ds : List (List Int)}, (∀ d ∈ ds, Dig d) → ∀ i x, ds.flatten[i]? = some x → ∃ d, ds[i / 8]? = some d ∧ d[i % 8]? = some x := by
  intro ds
  induction ds with
  | nil => intro _ i x h; simp at h
  | cons d ds ih =>
    intro h i x hx
    have hd := (h d (by simp)).1
    rw [List.flatten_cons] at hx
    by_cases hi : i < 8
    · rw [List.getElem?_append_left (by omega)] at hx
      exact ⟨d, by rw [show i / 8 = 0 by omega]; rfl, by rw [show i % 8 = i by omega]; exact hx⟩
    · rw [List.getElem?_append_right (by omega), hd] at hx
      obtain ⟨d', h1, h2⟩ := ih (fun x hx => h x (by simp [hx])) (i - 8) x hx
      refine ⟨d', ?_, ?_⟩
      · rw [show i / 8 = (i - 8) / 8 + 1 by omega]; exact h1
      · rw [show i % 8 = (i - 8) % 8 by omega]; exact h2
theorem wfS {x : Int} (h : (Lit.int .i64 x).wf = true) : -9223372036854775808 ≤ x ∧ x ≤ 9223372036854775807 := by
  simp only [Lit.wf, Bool.and_eq_true, decide_eq_true_eq] at h
  exact h
theorem wfU {x : Int} (h : (Lit.int .u64 x).wf = true) : 0 ≤ x ∧ x < 18446744073709551616 := by
  simp only [Lit.wf, Bool.and_eq_true, decide_eq_true_eq] at h
  have h : (0 : Int) ≤ x ∧ x ≤ 18446744073709551615 := h
  omega
theorem walkA (n : Int) (w : World) (A B C : Option Addr) (n1 c1 n2 c2 n3 c3 : Nat) (y : PosD) (hy : PosAt w A B C n1 n2 n3 y) (hn : 0 ≤ n ∧ n ≤ 65535) (hL : LaidIn G0 w)
    (q1 : A = none → c1 = 0) (q2 : B = none → c2 = 0) (q3 : C = none → c3 = 0) (l1 : n1 ≤ c1) (l2 : n2 ≤ c2) (l3 : n3 ≤ c3)
    (o1 : ∀ a, A = some a → a.spot = none ∧ ∃ cs ty fz, w.heap[a.block]? = some (.cells cs ty fz) ∧ a.off ≤ cs.size) (o2 : ∀ a, B = some a → a.spot = none ∧ ∃ cs ty fz, w.heap[a.block]? = some (.cells cs ty fz) ∧ a.off ≤ cs.size) (o3 : ∀ a, C = some a → a.spot = none ∧ ∃ cs ty fz, w.heap[a.block]? = some (.cells cs ty fz) ∧ a.off ≤ cs.size) :
    Calls Tryz.prog 3 #[.agg #[.slice A n1 c1, .slice B n2 c2, .slice C n3 c3, .int .i64 y.roll.cell, .int .i64 y.roll.sides, .int .i64 y.roll.mover, .int .i64 y.roll.next, .int .u64 y.roll.sum], .int .u16 n] w fun e w' => e = .returned (.bool true) ∧ Below w.heap.size w w' := by
  obtain ⟨b1, p1, r1, k1, s1, t1, u1⟩ := sli_in (f := Value.int .i32) (fun _ => rfl) (sz := 1) (by rw [hy.vars.len, Nat.mul_one]) hy.vars.at_ q1 l1 (by omega) o1
  obtain ⟨b2, p2, r2, k2, s2, t2, u2⟩ := sli_in (f := Value.bool) (fun _ => rfl) (sz := 1) (by rw [hy.gone.len, Nat.mul_one]) hy.gone.at_ q2 l2 (by omega) o2
  obtain ⟨b3, p3, r3, k3, s3, t3, u3⟩ := sli_in (f := Value.int .u8) (fun _ => rfl) (sz := 8) (xs := y.tips.flatten) (by rw [flat_join hy.digs, hy.tips.len]) (fun h => by
    obtain ⟨b, off, e1, e2, e3⟩ := hy.tips.at_ h
    refine ⟨b, off, e1, e2, fun i x hx => ?_⟩
    obtain ⟨d, h1, h2⟩ := flat_dig hy.digs i x hx
    have := e3 (i / 8) d h1 (i % 8) (.int .u8 x) (by simp [digL, h2])
    rw [show off + i / 8 * 8 + i % 8 = off + i by omega] at this
    exact this) q3 l3 (by omega) o3
  have hng : Tryz.prog.globals.size = 12 := by kernel_rfl
  have hR0 := Rel.laid (P := Tryz.prog) (G := G0) (ng := 12) hng (by kernel_rfl) (by kernel_rfl) hL
  obtain ⟨hR1, w1⟩ := Rel.addRo (i := 12 + 2) (n' := 12 + 3) hR0 glob_ro (if_neg (by omega)) (by omega) (by omega) (by omega) r3 53 k3 t3
  obtain ⟨hR2, w2⟩ := Rel.addRo (i := 12 + 1) (n' := 12 + 3) hR1 w1 (by show (if 12 + 1 = 12 + 2 then _ else _) = none; rw [if_neg (by omega)]; exact if_neg (by omega)) (by omega) (by omega) (by omega) r2 4 k2 t2
  obtain ⟨hR3, w3⟩ := Rel.addRo (i := 12) (n' := 12 + 3) hR2 w2 (by show (if 12 = 12 + 1 then _ else _) = none; rw [if_neg (by omega)]; show (if 12 = 12 + 2 then _ else _) = none; rw [if_neg (by omega)]; exact if_neg (by omega)) (by omega) (by omega) (by omega) r1 21 k1 t1
  let a : AA := ⟨n, ⟨b1, p1, n1, c1, r1⟩, ⟨b2, p2, n2, c2, r2⟩, ⟨b3, p3, n3, c3, r3⟩, y.roll.cell, y.roll.sides, y.roll.mover, y.roll.next, y.roll.sum⟩
  obtain ⟨Bm, hsem⟩ := apart_sem a ⟨⟨y.vars, y.gone, y.tips.flatten⟩, ⟨s1, s2, s3⟩, ⟨hy.w32, wfS hy.ok.cell, wfS hy.ok.sides, wfS hy.ok.mover, wfS hy.ok.next, wfU hy.ok.sum⟩⟩ hn
  have hmem : mem (S_apart.R a) S_apart.n = ⟨(((putAll G0 .e).set (12 + 2) (.row r3 53 .gro)).set (12 + 1) (.row r2 4 .gro)).set 12 (.row r1 21 .gro), 12 + 3⟩ := by
    have := congrArg AW.heap globs
    show (⟨(((mem globR 12).heap.set (12 + 2) _).set (12 + 1) _).set 12 _, _⟩ : AW) = _
    rw [this]
    rfl
  rw [hmem] at hsem
  refine sem_calls envOK (fn := Tryz.f3) (by kernel_rfl) rfl rfl hsem hR3 ?_ w3
  refine .cons (.agg (.cons (u1 _ _ ?_) (.cons (u2 _ _ ?_) (.cons (u3 _ _ ?_) (.cons (tgI_vr _ _) (.cons (tgI_vr _ _) (.cons (tgI_vr _ _) (.cons (tgI_vr _ _) (.cons (tgI_vr _ _) .nil))))))))) (.cons (tgI_vr _ _) .nil)
  · exact if_pos rfl
  · show (if 12 + 1 = 12 then _ else _) = _; rw [if_neg (by omega)]; exact if_pos rfl
  · show (if 12 + 2 = 12 then _ else _) = _; rw [if_neg (by omega)]; show (if 12 + 2 = 12 + 1 then _ else _) = _; rw [if_neg (by omega)]; exact if_pos rfl
end Go.Proofs.YthnjebcablpneaaGreatDoor
