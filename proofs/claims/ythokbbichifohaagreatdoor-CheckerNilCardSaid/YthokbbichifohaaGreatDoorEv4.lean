/- The evaluator with variables: every quiet operation is so. -/
import Derived.Test.YthokbbichifohaaGreatDoorEv1
section
set_option linter.unusedSectionVars false
namespace Go.Ev
variable {P : Program} {σ : Sg} {w : World} [Frozen P]
theorem uval_ibs {v v' : Value} (h : VR σ v v') (e : ibs (uval v) = true) : v' = uval v := by
  cases hq : uval v <;> rw [hq] at e <;> first | (cases e; done) | skip
  · exact uval_bool h hq
  · exact uval_int h hq
  · exact uval_str h hq
theorem mnB_inv {v v' : Value} {nb : Bool} (h : VR σ v v') (e : mnB v = some nb) : (nb = true ∧ v' = .slice none 0 0) ∨ (nb = false ∧ ∃ a l c, v' = .slice (some a) l c) := by
  cases h with
  | mnil e1 e2 e3 => cases e; exact .inl ⟨e1, rfl⟩
  | mn e1 _ => cases e; exact .inr ⟨e1, _, _, _, rfl⟩
  | sym => cases e
  | any => cases e
  | iface hlt b =>
    rename_i t u u'
    have h2 : Nat.beq t MN = false := by cases hb : Nat.beq t MN with
      | false => rfl
      | true => rw [beqIff.1 hb] at hlt; exact absurd hlt noMN
    simp only [mnB, h2] at e; cases e
  | flat f => cases v <;> first | (cases f; done) | (cases e; done)
  | _ => cases e
theorem nilV_inv {v v' : Value} (h : VR σ v v') (e : nilV v = true) : v' = .slice none 0 0 := by
  unfold nilV at e
  split at e
  · exact h.of_flat rfl
  · cases e
theorem sliceK_inv {t : TypeId} (h : sliceK P t = true) : ∃ e, P.underlying t = some (.slice e) := by
  unfold sliceK at h
  cases hd : P.underlying t with
  | none => rw [hd] at h; cases h
  | some d => rw [hd] at h; cases d <;> first | (cases h; done) | exact ⟨_, rfl⟩
theorem nil_run {t e : TypeId} {xo yo : Operand} (ht : P.underlying t = some (.slice e)) (a : Option Addr) (l c : Nat) (w : World) (op : BinOp) (b : Bool) (hb : (op = .eql ∧ b = a.isNone) ∨ (op = .neq ∧ b = !a.isNone)) :
    (do eqGuard op t xo yo (.slice a l c) (.slice none 0 0); binOp op t (.slice a l c) (.slice none 0 0)).run P w = .ok (.bool b) w := by
  have he : (Op.equal t (.slice a l c) (.slice none 0 0)).run P w = .ok a.isNone w := by
    obtain ⟨N, hN⟩ := equal_eq
    rw [hN]
    cases a <;> simp [Op.equalIn, run_under ht]
  have hg : (eqGuard op t xo yo (.slice a l c) (.slice none 0 0)).run P w = .ok () w := eqGuard_plain (by simp) (by simp) w
  have h2 := binOp_eql (P := P) (t := t) (x := .slice a l c) (y := .slice none 0 0) rfl _ w he
  rcases hb with ⟨rfl, rfl⟩ | ⟨rfl, rfl⟩
  · simp [hg, h2.1]
  · simp [hg, h2.2]
theorem cq {o : Oper} {F : T Value} {A : AW} {K : Value → Prop} (h : cpo (evQ o.op P F A.heap) K) : ∃ v, K v ∧ QSem P o F A v := by
  rw [cpo_iff] at h
  obtain ⟨v, h1, h2⟩ := h
  exact ⟨v, h2, .of h1⟩
theorem mm_run {b : Builtin} (hb : b = .min ∨ b = .max) {j k : IntKind} {m n : Int} {ats : List TypeId} {ty : TypeId} {cs : Array Bool} (w : World) : (builtin b ⟨ats⟩ ty cs ⟨[.int j m, .int k n]⟩).run P w = .ok (.value (.int j (mmOf b m n))) w := by
  rcases hb with rfl | rfl
  · have : (Builtin.min_ ⟨ats⟩ ty ⟨[.int j m, .int k n]⟩).run P w = .ok (.int j (min m n)) w := by
      simp only [Builtin.min_, List.foldlM_cons, List.foldlM_nil, Builtin.min2, Sem.run_bind, Sem.run_pure, Result.andThen_ok]
      congr 2
      rw [Int.min_def]; split <;> split <;> omega
    simp only [builtin, Sem.run_bind, this, Result.andThen_ok, Sem.run_pure, mmOf]
  · have : (Builtin.max_ ⟨ats⟩ ty ⟨[.int j m, .int k n]⟩).run P w = .ok (.int j (max m n)) w := by
      simp only [Builtin.max_, List.foldlM_cons, List.foldlM_nil, Builtin.max2, Sem.run_bind, Sem.run_pure, Result.andThen_ok]
      congr 2
      rw [Int.max_def]; split <;> split <;> omega
    simp only [builtin, Sem.run_bind, this, Result.andThen_ok, Sem.run_pure, mmOf]
theorem symMM_some {b : Builtin} {vs : List Value} {K : Value → Prop} (h : symMM b vs K) : ∃ x y j k m n, vs = [x, y] ∧ uval x = .int j m ∧ uval y = .int k n ∧ K (tgI j (mmOf b m n)) := by
  unfold symMM at h
  split at h
  · split at h
    · split at h
      · exact ⟨_, _, _, _, _, _, rfl, by assumption, by assumption, h _ rfl⟩
      · exact h.elim
    · exact h.elim
  · exact h.elim
theorem uval_vr {v v' : Value} (h : VR σ v v') (e : mnB v = none) : VR σ (uval v) v' := by
  cases h with
  | sym s b => exact b
  | any f => exact .any f
  | ext f => exact .ext f
  | mnil => cases e
  | mn => cases e
  | iface hlt b =>
    rename_i t u u'
    have h1 : Nat.beq t SYM = false := by cases hb : Nat.beq t SYM with
      | false => rfl
      | true => rw [beqIff.1 hb] at hlt; exact absurd hlt noSYM
    have h2 : Nat.beq t MN = false := by cases hb : Nat.beq t MN with
      | false => rfl
      | true => rw [beqIff.1 hb] at hlt; exact absurd hlt noMN
    have : uval (.iface t u) = .iface t u := by simp only [uval, h1, h2]
    rw [this]; exact .iface hlt b
  | flat f => cases v <;> first | (cases f; done) | exact .flat f
  | ptr g => exact .ptr g
  | slice g => exact .slice g
  | map g => exact .map g
  | func a b => exact .func a b
  | agg a => exact .agg a
  | tuple a => exact .tuple a
theorem mn_slice {v v' : Value} {b : Bool} (h : VR σ v v') (e : mnB v = some b) (hb : b = false) : VR σ (uval v) v' := by
  cases h with
  | mnil e1 => cases e; rw [e1] at hb; cases hb
  | mn _ g => exact .slice g
  | sym => cases e
  | any => cases e
  | iface hlt b =>
    rename_i t u u'
    have h2 : Nat.beq t MN = false := by cases hb : Nat.beq t MN with
      | false => rfl
      | true => rw [beqIff.1 hb] at hlt; exact absurd hlt noMN
    simp only [mnB, h2] at e; cases e
  | flat f => cases v <;> first | (cases f; done) | (cases e; done)
  | _ => cases e
theorem mnWays_some {v : Value} {f : Value → Prop} (h : mnWays v f) : ∃ y, f y ∧ ∀ σ v', VR σ v v' → VR σ y v' := by
  unfold mnWays at h
  cases hm : mnB v with
  | none => rw [hm] at h; exact ⟨_, h, fun σ v' hv => uval_vr hv hm⟩
  | some b =>
    rw [hm] at h
    have h : (b = true → f (.slice none 0 0)) ∧ (b = false → f (uval v)) := h
    cases b with
    | true =>
      refine ⟨_, h.1 rfl, fun σ v' hv => ?_⟩
      rcases mnB_inv hv hm with ⟨_, rfl⟩ | ⟨e, _⟩
      · exact .flat rfl
      · cases e
    | false => exact ⟨_, h.2 rfl, fun σ v' hv => mn_slice hv hm rfl⟩
theorem uval_some {v v' : Option Value} (h : OVR σ v v') {d z : Int} (e : numO d v = some z) : (v = none ∧ v' = none ∧ z = d) ∨ (∃ k, v' = some (.int k z)) := by
  cases h with
  | none => left; exact ⟨rfl, rfl, by cases e; rfl⟩
  | some h =>
    rename_i a b
    right
    have e : (match uval a with
      | .int _ z => some z
      | _ => none) = some z := e
    split at e
    · rename_i k z' hu
      cases e
      exact ⟨k, by rw [uval_int h hu]⟩
    · cases e
theorem symSlice_sound {t : TypeId} {A : AW} {x x' : Value} {lo lo' hi hi' : Option Value} (hR : Rel P σ A w) (hx : VR σ x x') (hlo : OVR σ lo lo') (hhi : OVR σ hi hi') {v : Value} (h : symSlice P A.heap t lo hi (fun u => u = v) x) :
    ∃ u', VR σ v u' ∧ (Instr.sliceAt t x' lo' hi' none).run P w = .ok u' w := by
  unfold symSlice at h
  rw [cpo_iff] at h
  obtain ⟨d, hd, h⟩ := h
  cases d <;> try exact h.elim
  case slice e =>
    cases x <;> try exact h.elim
    case slice a len cap =>
      simp only [cpo_iff] at h
      obtain ⟨n, hn, l, hl, hh, hhh, h⟩ := h
      -- the bounds as they are
      have hlo0 : OVR σ lo' lo' := by
        rcases uval_some hlo hl with ⟨_, e, _⟩ | ⟨k, e⟩ <;> rw [e]
        · exact .none
        · exact .some (.flat rfl)
      have hhi0 : OVR σ hi' hi' := by
        rcases uval_some hhi hhh with ⟨_, e, _⟩ | ⟨k, e⟩ <;> rw [e]
        · exact .none
        · exact .some (.flat rfl)
      have hup : ∀ m : Nat, 0 ≤ l → l ≤ m → uptoOr lo' m 0 = some l.toNat := fun m h0 h1 => by
        rcases uval_some hlo hl with ⟨_, e, e2⟩ | ⟨k, e⟩ <;> rw [e]
        · rw [e2]; rfl
        · show upto _ _ = _
          rw [upto_some]; exact ⟨⟨k, by simp [Int.toNat_of_nonneg h0]⟩, by omega⟩
      have hup2 : ∀ m : Nat, 0 ≤ hh → hh ≤ m → uptoOr hi' m len = some hh.toNat := fun m h0 h1 => by
        rcases uval_some hhi hhh with ⟨_, e, e2⟩ | ⟨k, e⟩ <;> rw [e]
        · rw [e2]; show some len = _; simp
        · show upto _ _ = _
          rw [upto_some]; exact ⟨⟨k, by simp [Int.toNat_of_nonneg h0]⟩, by omega⟩
      cases a with
      | some ad =>
        obtain ⟨b, o, sp⟩ := ad
        cases sp with
        | some _ => exact h.elim
        | none =>
        have h : symSl A.heap n b o len cap l hh (fun u => u = v) := h
        unfold symSl at h
        rw [cpo_iff] at h
        obtain ⟨ob', hg, h⟩ := h
        cases ob' <;> try exact h.elim
        case row c e' m =>
          obtain ⟨⟨⟨h1, h2, h3⟩, h4⟩, h5⟩ := h
          have hv := h5 _ _ _ rfl rfl rfl
          subst hv
          have hb : boundsA len (Bool.rec cap len m.roomy) lo' hi' = some (l.toNat, hh.toNat) := by
            have hm : hh ≤ ((Bool.rec cap len m.roomy : Nat) : Int) := by
              cases hr : m.roomy with
              | false => exact h3
              | true => exact (h4 hr).1
            unfold boundsA
            rw [hup2 _ (by omega) hm]
            show ob (uptoOr lo' hh.toNat 0) _ = _
            rw [hup _ h1 (by omega)]
            rfl
          have hs : sliceA P A.heap t (.slice (some ⟨b, o, none⟩) len cap) lo' hi' none = some (.slice (some ⟨b, if cap = l.toNat then o else o + l.toNat * n, none⟩) (hh.toNat - l.toNat) (cap - l.toNat)) := by
            unfold sliceA
            rw [hd]
            show (ob (sizeA P e) fun n => ob (A.heap.get b) fun x => AO.rec (fun c e m => slice2 m.roomy b o len cap n lo' hi') (fun _ _ => none) none x) = _
            rw [hn]
            show (ob (A.heap.get b) fun x => AO.rec (fun c e m => slice2 m.roomy b o len cap n lo' hi') (fun _ _ => none) none x) = _
            rw [hg]
            show slice2 m.roomy b o len cap n lo' hi' = _
            unfold slice2
            rw [hb]
            show bt (Nat.ble hh.toNat cap) (bt (sliceOk m.roomy l.toNat cap) (cutAt b o l.toNat n cap (Nat.sub hh.toNat l.toNat))) = _
            rw [cutAt_eq]
            refine bt_some.2 ⟨bleIff.2 (by omega), bt_some.2 ⟨?_, rfl⟩⟩
            cases hr : m.roomy with
            | false => rfl
            | true =>
              rcases (h4 hr).2 with e0 | e0
              · rw [e0]; rfl
              · cases hq : l.toNat with
                | zero => rfl
                | succ k => exact blt_iff.2 (by omega)
          obtain ⟨u', k1, k2⟩ := sliceA_run hR hs hx hlo0 hhi0 .none
          exact ⟨u', .sym rfl k1, k2⟩
      | none =>
        have h : cpb (Nat.beq (Nat.add len cap) 0) ((l = 0 ∧ hh = 0) ∧ Value.slice none 0 0 = v) := h
        obtain ⟨hz, ⟨h1, h2⟩, hv⟩ := cpb_iff.1 h
        subst hv h1 h2
        rw [beqIff] at hz
        have hz' : len + cap = 0 := hz
        obtain ⟨rfl, rfl⟩ : len = 0 ∧ cap = 0 := ⟨by omega, by omega⟩
        have hs : sliceA P A.heap t (.slice none 0 0) lo' hi' none = some (.slice none 0 0) := by
          unfold sliceA
          rw [hd]
          show (ob (sizeA P e) fun n => ob (ob (uptoOr hi' 0 0) fun h => ob (uptoOr lo' h 0) fun l => some (l, h)) fun _ => some (Value.slice none 0 0)) = _
          rw [hn]
          show (ob (ob (uptoOr hi' 0 0) fun h => ob (uptoOr lo' h 0) fun l => some (l, h)) fun _ => some (Value.slice none 0 0)) = _
          rw [hup2 0 (by omega) (by omega)]
          show (ob (ob (uptoOr lo' 0 0) fun l => some (l, 0)) fun _ => some (Value.slice none 0 0)) = _
          rw [hup 0 (by omega) (by omega)]
          rfl
        exact sliceA_run hR hs hx hlo0 hhi0 .none
theorem symSlice_one {t : TypeId} {H : T AO} {x : Value} {lo hi : Option Value} {K : Value → Prop} (h : symSlice P H t lo hi K x) : ∃ v, K v ∧ symSlice P H t lo hi (fun u => u = v) x := by
  unfold symSlice at h ⊢
  rw [cpo_iff] at h
  obtain ⟨d, hd, h⟩ := h
  simp only [hd, cpo]
  cases d <;> try exact h.elim
  case slice e =>
    cases x <;> try exact h.elim
    case slice a len cap =>
      simp only [cpo_iff] at h
      obtain ⟨n, hn, l, hl, hh, hhh, h⟩ := h
      simp only [hn, hl, hhh]
      cases a with
      | some ad =>
        obtain ⟨b, o, sp⟩ := ad
        cases sp with
        | some _ => exact h.elim
        | none =>
          have h : symSl H n b o len cap l hh K := h
          unfold symSl at h
          rw [cpo_iff] at h
          obtain ⟨ob', hg, h⟩ := h
          cases ob' <;> try exact h.elim
          case row c e' m =>
            obtain ⟨h1, h2⟩ := h
            refine ⟨_, h2 _ _ _ rfl rfl rfl, ?_⟩
            show symSl H n b o len cap l hh _
            unfold symSl
            exact cpo_iff.2 ⟨_, hg, h1, fun p q c e1 e2 e3 => by rw [e1, e2, e3]⟩
      | none =>
        obtain ⟨h0, h1, h2⟩ := cpb_iff.1 h
        exact ⟨_, h2, cpb_iff.2 ⟨h0, h1, rfl⟩⟩
theorem symQ0_sound {o : Oper} {F : T Value} {A : AW} {K : Value → Prop} (h : symQ0 P o.op F A.heap K) : ∃ v, K v ∧ QSem P o F A v := by
  obtain ⟨dst, op, ty, pos, after, guard⟩ := o
  have hq : ∀ {op : Op}, cpo (evQ op P F A.heap) K → ∃ v, K v ∧ QSem P ⟨dst, op, ty, pos, after, guard⟩ F A v := fun h => cq (o := ⟨dst, _, ty, pos, after, guard⟩) h
  cases op <;> try exact hq h
  case binOp op t x y yt =>
    have h : cpo (opnd P F x) (fun a => cpo (opnd P F y) fun b => Bool.rec (Bool.rec (cpo (evQ (.binOp op t x y yt) P F A.heap) K) (symB P op t a b K) (isSym a || isSym b)) (symAgg P op t a b K) (symCells a || symCells b)) := h
    simp only [cpo_iff] at h
    obtain ⟨a, ha, b, hb, h⟩ := h
    cases hcl : symCells a || symCells b with
    | true =>
      rw [hcl] at h
      obtain ⟨r, h1, h2⟩ := symAgg_sound (xo := x) (yo := y) (show symAgg P op t a b K from h)
      refine ⟨_, h1, fun σ w act hR hO => ⟨.bool r, .flat rfl, ?_⟩⟩
      have := h2 σ w _ _ (hO x (by simp [Op.operands]) a ha) (hO y (by simp [Op.operands]) b hb)
      simp only [execOp, Sem.run_bind] at this ⊢
      rw [this]; rfl
    | false =>
    rw [hcl] at h
    have h : (Bool.rec (∃ v, evQ (.binOp op t x y yt) P F A.heap = some v ∧ K v) (symB P op t a b K) (isSym a || isSym b) : Prop) := h
    cases hs : isSym a || isSym b with
    | false => rw [hs] at h; exact hq (cpo_iff.2 h)
    | true =>
      rw [hs] at h
      have h : symB P op t a b K := h
      unfold symB at h
      cases hm : mnB a with
      | none =>
        rw [hm] at h
        obtain ⟨v, h1, h2, h3, h4⟩ := symBin_sound (xo := x) (yo := y) (show symBin P op t (uval a) (uval b) K from h)
        refine ⟨v, h1, fun σ w act hR hO => ?_⟩
        obtain ⟨u, k1, k2⟩ := h2 σ w
        refine ⟨u, k1, ?_⟩
        have e1 := uval_ibs (hO x (by simp [Op.operands]) a ha) h3
        have e2 := uval_ibs (hO y (by simp [Op.operands]) b hb) h4
        simp only [execOp, Sem.run_bind] at k2 ⊢
        rw [e1, e2, k2]; rfl
      | some nb =>
        rw [hm] at h
        have h : cpb (nilV b) (symNil P op t nb K) := h
        rw [cpb_iff] at h
        obtain ⟨hn, h⟩ := h
        unfold symNil at h
        rw [cpb_iff] at h
        obtain ⟨hk, h⟩ := h
        obtain ⟨e, ht⟩ := sliceK_inv hk
        have fin : ∀ r : Bool, K (.bool r) → (op = .eql ∧ r = nb ∨ op = .neq ∧ r = !nb) → ∃ v, K v ∧ QSem P ⟨dst, .binOp op t x y yt, ty, pos, after, guard⟩ F A v := fun r hKr hr => by
          refine ⟨_, hKr, fun σ w act hR hO => ⟨.bool r, .flat rfl, ?_⟩⟩
          have e2 := nilV_inv (hO y (by simp [Op.operands]) b hb) hn
          rcases mnB_inv (hO x (by simp [Op.operands]) a ha) hm with ⟨e0, e1⟩ | ⟨e0, a', l, c, e1⟩
          · have := nil_run (xo := x) (yo := y) ht none 0 0 w op r (by rw [e0] at hr; exact hr)
            simp only [execOp, Sem.run_bind] at this ⊢
            rw [e1, e2, this]; rfl
          · have := nil_run (xo := x) (yo := y) ht (some a') l c w op r (by rw [e0] at hr; exact hr)
            simp only [execOp, Sem.run_bind] at this ⊢
            rw [e1, e2, this]; rfl
        cases op with
        | eql => cases nb with
          | true => exact fin true (h.1 rfl) (.inl ⟨rfl, rfl⟩)
          | false => exact fin false (h.2 rfl) (.inl ⟨rfl, rfl⟩)
        | neq => cases nb with
          | true => exact fin false (h.1 rfl) (.inr ⟨rfl, rfl⟩)
          | false => exact fin true (h.2 rfl) (.inr ⟨rfl, rfl⟩)
        | _ => exact False.elim h
  case sliceToArrayPointer t x =>
    have h : cpo (opnd P F x) (fun a => Bool.rec (cpo (evQ (.sliceToArrayPointer t x) P F A.heap) K) (Option.rec (symArr P t (uval a) K) (fun _ => False) (mnB a)) (isSym a)) := h
    simp only [cpo_iff] at h
    obtain ⟨a, ha, h⟩ := h
    cases hs : isSym a with
    | false => rw [hs] at h; exact hq (cpo_iff.2 h)
    | true =>
      rw [hs] at h
      cases hm : mnB a with
      | some nb => rw [hm] at h; exact False.elim h
      | none =>
        rw [hm] at h
        have h : symArr P t (uval a) K := h
        unfold symArr at h
        rw [cpo_iff] at h
        obtain ⟨q, hqq, h⟩ := h
        split at h
        · rename_i ad len cap hu
          obtain ⟨hle, hK⟩ := h
          refine ⟨_, hK, fun σ w act hR hO => ?_⟩
          have hx := uval_vr (hO x (by simp [Op.operands]) a ha) hm
          rw [hu] at hx
          have ht : P.underlying t = some (.array q.1 q.2) := arrayT_some.1 hqq
          generalize hE : act.eval x = u at hx
          cases hx with
          | flat e => simp [flat] at e
          | slice e1 =>
            refine ⟨_, .sym rfl (.ptr e1), ?_⟩
            simp only [execOp, hE, Instr.arrayAt, Sem.run_bind, run_under ht, Result.andThen_ok]
            rw [if_neg (by omega)]
            rfl
        · exact h.elim
  case unOp op t x =>
    have h : one (.unOp op t x) P F A.heap x K (fun a => symUn op a K) := h
    simp only [one, cpo_iff] at h
    obtain ⟨a, ha, h⟩ := h
    cases hs : isSym a with
    | false => rw [hs] at h; exact hq (cpo_iff.2 h)
    | true =>
      rw [hs] at h
      obtain ⟨u, h1, h2, x', h3, h4⟩ := symUn_sound (P := P) (show symUn op (uval a) K from h)
      refine ⟨u, h1, fun σ w act hR hO => ⟨x', h3 σ, ?_⟩⟩
      have e1 := uval_ibs (hO x (by simp [Op.operands]) a ha) (by rcases h2 with ⟨k, n, e⟩ | ⟨b, e⟩ <;> rw [e] <;> rfl)
      simp [execOp, e1, h4 w]
  case convert s d x =>
    have h : one (.convert s d x) P F A.heap x K (fun a => symConv P s d a K) := h
    simp only [one, cpo_iff] at h
    obtain ⟨a, ha, h⟩ := h
    cases hs : isSym a with
    | false => rw [hs] at h; exact hq (cpo_iff.2 h)
    | true =>
      rw [hs] at h
      have h : symConv P s d (uval a) K := h
      unfold symConv at h
      split at h
      · rename_i k n hu
        simp only [cpo_iff, ob_some] at h
        obtain ⟨sd, hsd, kk, ⟨dd, hdd, hk⟩, h⟩ := h
        have hdk : dd = .int kk := by cases dd <;> simp [intD] at hk; rw [hk]
        subst hdk
        refine ⟨_, h _ rfl, fun σ w act hR hO => ⟨_, tgI_vr _ _, ?_⟩⟩
        have e1 := uval_int (hO x (by simp [Op.operands]) a ha) hu
        simp only [execOp, e1, convert, Sem.run_bind, run_under hsd, run_under hdd, Result.andThen_ok]
        rfl
      · exact h.elim
  case load t x =>
    have h : one (.load t x) P F A.heap x K (fun a => symLoad P t A.heap a K) := h
    simp only [one, cpo_iff] at h
    obtain ⟨a, ha, h⟩ := h
    cases hs : isSym a with
    | false => rw [hs] at h; exact hq (cpo_iff.2 h)
    | true =>
      rw [hs] at h
      obtain ⟨u, h1, h2⟩ := symLoad_sound (show symLoad P t A.heap (uval a) K from h)
      refine ⟨u, h1, fun σ w act hR hO => ?_⟩
      have hx := hO x (by simp [Op.operands]) a ha
      have hp : ∃ p, uval a = .pointer (some p) := by
        have h : symLoad P t A.heap (uval a) K := h
        unfold symLoad at h
        simp only [cpo_iff, ptrV_some] at h
        obtain ⟨p, hp, _⟩ := h
        exact ⟨p, hp⟩
      obtain ⟨p, hp⟩ := hp
      obtain ⟨u', k1, k2⟩ := h2 σ w _ hR (by rw [hp]; exact uval_ptr hx hp)
      exact ⟨u', k1, by simp [execOp, k2]⟩
  case indexAddr t x i =>
    have h : two (.indexAddr t x i) P F A.heap x i K (fun a b => symIndexAddr P t (uval a) (uval b) K) := h
    simp only [two, cpo_iff] at h
    obtain ⟨a, ha, b, hb, h⟩ := h
    cases hs : isSym a || isSym b with
    | false => rw [hs] at h; exact hq (cpo_iff.2 h)
    | true =>
      rw [hs] at h
      obtain ⟨u, h1, h2⟩ := symIndexAddr_sound (show symIndexAddr P t (uval a) (uval b) K from h)
      refine ⟨u, h1, fun σ w act hR hO => ?_⟩
      obtain ⟨u', k1, k2⟩ := h2 σ w _ _ (hO x (by simp [Op.operands]) a ha) (hO i (by simp [Op.operands]) b hb)
      exact ⟨u', k1, by simp only [execOp, Sem.run_bind, k2, Result.andThen_ok, Sem.run_pure]⟩
  case fieldAddr s x f =>
    have h : one (.fieldAddr s x f) P F A.heap x K (fun a => symField P s f a K) := h
    simp only [one, cpo_iff] at h
    obtain ⟨a, ha, h⟩ := h
    cases hs : isSym a with
    | false => rw [hs] at h; exact hq (cpo_iff.2 h)
    | true =>
      rw [hs] at h
      have h : symField P s f (uval a) K := h
      unfold symField at h
      simp only [cpo_iff, cpb_iff] at h
      obtain ⟨fs, hfs, fd, hf, n, hn, h0, h⟩ := h
      split at h
      · rename_i b o hu
        refine ⟨_, h _ rfl, fun σ w act hR hO => ?_⟩
        obtain ⟨u', k1, k2⟩ := fieldAddr_run (P := P) (s := s) (f := f) (v := .pointer (some ⟨b, o, none⟩)) (u := .pointer (some ⟨b, o + fd.offset, none⟩)) (by
          simp only [fieldAddrA, ob_some, bt_some, ptrV_some, plainAt_some]
          exact ⟨fs, hfs, fd, hf, n, hn, h0, _, rfl, rfl, ptrTo_eq _ _⟩) (uval_ptr (hO x (by simp [Op.operands]) a ha) hu) w
        exact ⟨u', .sym rfl k1, by simp only [execOp, Sem.run_bind, k2, Result.andThen_ok, Sem.run_pure]⟩
      · exact h.elim
  case index t x i =>
    have h : two (.index t x i) P F A.heap x i K (fun a b => symIndex P t (uval a) (uval b) K) := h
    simp only [two, cpo_iff] at h
    obtain ⟨a, ha, b, hb, h⟩ := h
    cases hs : isSym a || isSym b with
    | false => rw [hs] at h; exact hq (cpo_iff.2 h)
    | true =>
      rw [hs] at h
      obtain ⟨u, h1, h2⟩ := symIndex_sound (show symIndex P t (uval a) (uval b) K from h)
      refine ⟨u, h1, fun σ w act hR hO => ?_⟩
      obtain ⟨u', k1, k2⟩ := h2 σ w _ _ (hO x (by simp [Op.operands]) a ha) (hO i (by simp [Op.operands]) b hb)
      exact ⟨u', k1, by simp only [execOp, Sem.run_bind, k2, Result.andThen_ok, Sem.run_pure]⟩
  case pick c x y =>
    have h : cpo (opnd P F c) (fun a => Bool.rec (cpo (evQ (.pick c x y) P F A.heap) K) (match uval a with
      | .bool b => (b = true → cpo (opnd P F x) K) ∧ (b = false → cpo (opnd P F y) K)
      | _ => False) (isSym a)) := h
    simp only [cpo_iff] at h
    obtain ⟨a, ha, h⟩ := h
    cases hs : isSym a with
    | false => rw [hs] at h; exact hq (cpo_iff.2 h)
    | true =>
      rw [hs] at h
      have h : (match uval a with
        | .bool b => (b = true → ∃ v, opnd P F x = some v ∧ K v) ∧ (b = false → ∃ v, opnd P F y = some v ∧ K v)
        | _ => False) := h
      split at h
      · rename_i b hu
        cases b with
        | true =>
          obtain ⟨v, hv, hK⟩ := h.1 rfl
          refine ⟨v, hK, fun σ w act hR hO => ⟨_, hO x (by simp [Op.operands]) v hv, ?_⟩⟩
          simp [execOp, uval_bool (hO c (by simp [Op.operands]) a ha) hu, asBool]
        | false =>
          obtain ⟨v, hv, hK⟩ := h.2 rfl
          refine ⟨v, hK, fun σ w act hR hO => ⟨_, hO y (by simp [Op.operands]) v hv, ?_⟩⟩
          simp [execOp, uval_bool (hO c (by simp [Op.operands]) a ha) hu, asBool]
      · exact h.elim
  case slice t x lo hi mx =>
    cases mx with
    | some _ => exact hq h
    | none =>
      have h : symS (.slice t x lo hi none) P F A.heap t x lo hi K := h
      simp only [symS, cpo_iff] at h
      obtain ⟨a, ha, l, hl, hh, hhh, h⟩ := h
      cases hs : isSym a || (symO l || symO hh) with
      | false => rw [hs] at h; exact hq (cpo_iff.2 h)
      | true =>
        rw [hs] at h
        have h : mnWays a (symSlice P A.heap t l hh K) := h
        obtain ⟨y, h, hy⟩ := mnWays_some h
        obtain ⟨v, h1, h2⟩ := symSlice_one (K := K) h
        refine ⟨v, h1, fun σ w act hR hO => ?_⟩
        obtain ⟨u', k1, k2⟩ := symSlice_sound hR (hy σ _ (hO x (by simp [Op.operands]) a ha)) (optOp_run (fun x hx => hO x (by simp at hx; simp [Op.operands, hx])) hl) (optOp_run (fun x hx => hO x (by simp at hx; simp [Op.operands, hx])) hhh) h2
        exact ⟨u', k1, by simp [execOp, k2]⟩
  case call c =>
    obtain ⟨cal, ⟨args⟩, ⟨ats⟩⟩ := c
    have h : symCall ⟨cal, ⟨args⟩, ⟨ats⟩⟩ (.call ⟨cal, ⟨args⟩, ⟨ats⟩⟩) P F A.heap K := h
    unfold symCall at h
    split at h
    · rename_i hc
      simp only at hc
      subst hc
      simp only [cpo_iff, lget_eq] at h
      obtain ⟨t, ht, x, hx, h⟩ := h
      simp only [one, cpo_iff] at h
      obtain ⟨a, ha, h⟩ := h
      cases hs : isSym a with
      | false => rw [hs] at h; exact hq (cpo_iff.2 h)
      | true =>
        rw [hs] at h
        obtain ⟨u, h1, h2⟩ := symLen_sound (show symLen P t (uval a) K from h)
        refine ⟨u, h1, fun σ w act hR hO => ?_⟩
        cases ats with
        | nil => simp at ht
        | cons t' ts => cases args with
          | nil => simp at hx
          | cons x' xs =>
            simp at ht hx; subst ht hx
            obtain ⟨u', k1, k2⟩ := h2 σ w _ (hO _ (by simp [Op.operands, Call.operands]) a ha)
            refine ⟨u', k1, ?_⟩
            simp only [execOp, resolve, Sem.run_bind, Sem.run_pure, Result.andThen_ok, invoke]
            rw [map_ops]
            have := k2 ts ty (xs.map act.eval)
            simp only [builtin, List.map_cons, Sem.run_bind, this, Result.andThen_ok, Sem.run_pure]
    · rename_i hc
      simp only at hc
      subst hc
      simp only [cpo_iff] at h
      obtain ⟨vs, hvs, h⟩ := h
      cases hs : anySym vs with
      | false => rw [hs] at h; exact hq (cpo_iff.2 h)
      | true =>
        rw [hs] at h
        obtain ⟨x, y, j, k, m, n, rfl, hx, hy, hK⟩ := symMM_some (show symMM .min vs K from h)
        refine ⟨_, hK, fun σ w act hR hO => ⟨_, tgI_vr _ _, ?_⟩⟩
        have hv := opnds_run (a := act) (fun x hx => hO x (by simp [Op.operands, Call.operands]; simpa using hx)) hvs
        simp only [execOp, resolve, Sem.run_bind, Sem.run_pure, Result.andThen_ok, invoke]
        rw [map_ops]
        generalize args.map act.eval = zs at hv ⊢
        cases hv with
        | cons p1 hv => cases hv with
          | cons p2 hv =>
            cases hv
            rw [uval_int p1 hx, uval_int p2 hy]
            exact mm_run (.inl rfl) w
    · rename_i hc
      simp only at hc
      subst hc
      simp only [cpo_iff] at h
      obtain ⟨vs, hvs, h⟩ := h
      cases hs : anySym vs with
      | false => rw [hs] at h; exact hq (cpo_iff.2 h)
      | true =>
        rw [hs] at h
        obtain ⟨x, y, j, k, m, n, rfl, hx, hy, hK⟩ := symMM_some (show symMM .max vs K from h)
        refine ⟨_, hK, fun σ w act hR hO => ⟨_, tgI_vr _ _, ?_⟩⟩
        have hv := opnds_run (a := act) (fun x hx => hO x (by simp [Op.operands, Call.operands]; simpa using hx)) hvs
        simp only [execOp, resolve, Sem.run_bind, Sem.run_pure, Result.andThen_ok, invoke]
        rw [map_ops]
        generalize args.map act.eval = zs at hv ⊢
        cases hv with
        | cons p1 hv => cases hv with
          | cons p2 hv =>
            cases hv
            rw [uval_int p1 hx, uval_int p2 hy]
            exact mm_run (.inr rfl) w
    · exact hq h
theorem xr1_some {sk : SK} {b o : Nat} {K : Value → Prop} (h : xr1 P sk b o K) : ∃ v u, FX P b o u ∧ (∀ σ, VR σ v u) ∧ K v := by
  cases sk with
  | i k => obtain ⟨z, h1, h2⟩ := h; exact ⟨_, _, h1, fun σ => .sym rfl (.flat rfl), h2⟩
  | b => obtain ⟨z, h1, h2⟩ := h; exact ⟨_, _, h1, fun σ => .sym rfl (.flat rfl), h2⟩
  | s => obtain ⟨z, h1, h2⟩ := h; exact ⟨_, _, h1, fun σ => .sym rfl (.flat rfl), h2⟩
  | x => obtain ⟨a, l, c, h1, h2⟩ := h; exact ⟨_, _, h1, fun σ => .ext rfl, h2⟩
theorem xrAll_some : ∀ {ks : List SK} {b o j : Nat} {K : List Value → Prop}, xrAll P ks b o j K → ∃ vs us, (∀ σ, VRL σ vs us) ∧ us.length = ks.length ∧ (∀ i u, us[i]? = some u → FX P b (o + (j + i)) u) ∧ K vs := by
  intro ks
  induction ks with
  | nil => intro b o j K h; exact ⟨[], [], fun σ => .nil, rfl, fun i u h => by simp at h, h⟩
  | cons k ks ih =>
    intro b o j K h
    have h : xr1 P k b (Nat.add o j) (fun v => xrAll P ks b o (Nat.succ j) fun vs => K (v :: vs)) := h
    obtain ⟨v, u, hf, hr, h⟩ := xr1_some h
    obtain ⟨vs, us, h1, h2, h3, h4⟩ := ih h
    refine ⟨v :: vs, u :: us, fun σ => .cons (hr σ) (h1 σ), by simp [h2], fun i x hx => ?_, h4⟩
    cases i with
    | zero => simp at hx; subst hx; exact hf
    | succ i => have := h3 i x (by simpa using hx); rw [show o + (j + (i + 1)) = o + (Nat.succ j + i) by omega]; exact this
theorem fx_cell {σ : Sg} {A : AW} {w : World} (hR : Rel P σ A w) {b o : Nat} {v : Value} (h : FX P b o v) : w.cell? ⟨b, o, none⟩ = some v := by
  obtain ⟨cs, e, fz, h1, h2⟩ := h
  exact cell_of (hR.fro b _ h1).1 h2
theorem xLoad_sound {A : AW} {t : TypeId} {b o : Nat} {K : Value → Prop} (h : xLoad P t b o K) : ∃ u, K u ∧ ∀ σ w, Rel P σ A w → ∃ u', VR σ u u' ∧ (Instr.loadAt t (.pointer (some ⟨b, o, none⟩))).run P w = .ok u' w := by
  unfold xLoad at h
  simp only [cpo_iff] at h
  obtain ⟨ks, hks, ag, hag, h⟩ := h
  cases ag with
  | false =>
    have h : xrAll P ks b o 0 (fun vs => oneOf vs K) := h
    obtain ⟨vs, us, h1, h2, h3, h4⟩ := xrAll_some h
    unfold oneOf at h4
    split at h4
    · rename_i v
      refine ⟨v, h4, fun σ w hR => ?_⟩
      cases h1 σ with
      | @cons _ u _ l a c =>
        cases c
        have hc := fx_cell hR (h3 0 u rfl)
        have hc : w.cell? ⟨b, o, none⟩ = some u := by simpa using hc
        exact ⟨u, a, by simp [Instr.loadAt, Instr.sureAddr, loadVar, run_agg hag, hc]⟩
    · exact h4.elim
  | true =>
    have h : ∃ n, sizeA P t = some n ∧ cpb (lenB ks n) (xrAll P ks b o 0 fun vs => K (Value.agg ⟨vs⟩)) := h
    obtain ⟨n, hn, h⟩ := h
    rw [cpb_iff, lenB_iff] at h
    obtain ⟨hln, h⟩ := h
    obtain ⟨vs, us, h1, h2, h3, h4⟩ := xrAll_some h
    refine ⟨_, h4, fun σ w hR => ⟨.agg ⟨us⟩, .agg (h1 σ), ?_⟩⟩
    have hload := run_loadCells_list (P := P) (w := w) ⟨b, o, none⟩ us (fun j v hj => by
      rw [add_plain]
      have := fx_cell hR (h3 j v hj)
      simpa using this)
    rw [h2, hln] at hload
    simp [Instr.loadAt, Instr.sureAddr, loadVar, run_agg hag, run_size hn, hload]
theorem VR.ext_inv {a v' : Value} (h : VR σ (.iface EXT a) v') : v' = a ∧ isScal a = true := by
  cases h with
  | flat f => cases f
  | iface e _ => exact absurd e noEXT
  | ext e => exact ⟨rfl, e⟩
theorem xval_some {v a : Value} (h : xval v = some a) : v = .iface EXT a := by
  unfold xval at h
  split at h
  · rw [bt_some, beqIff] at h
    obtain ⟨rfl, h⟩ := h
    cases h; rfl
  · cases h
def sgId : Sg := fun i => some (i, 0)
theorem sgId_ptr {a : Addr} {u : Value} (h : VR sgId (.pointer (some a)) u) : u = .pointer (some a) := by
  cases h with
  | flat f => cases f
  | ptr e => cases e; rfl
theorem xSlice_run {t e : TypeId} {n len cap : Nat} {x : Option Addr} {lo lo' hi hi' : Option Value} {l h : Int} (ht : P.underlying t = some (.slice e)) (hn : sizeA P e = some n) (hlo : OVR σ lo lo') (hhi : OVR σ hi hi')
    (hl : numO 0 lo = some l) (hh : numO len hi = some h) (hb : 0 ≤ l ∧ l ≤ h ∧ h ≤ cap) (w : World) :
    (Instr.sliceAt t (.slice x len cap) lo' hi' none).run P w = .ok (.slice (x.map (xCut l.toNat n cap)) (h.toNat - l.toNat) (cap - l.toNat)) w := by
  obtain ⟨h1, h2, h3⟩ := hb
  have hlo0 : OVR σ lo' lo' := by
    rcases uval_some hlo hl with ⟨_, e, _⟩ | ⟨k, e⟩ <;> rw [e]
    · exact .none
    · exact .some (.flat rfl)
  have hhi0 : OVR σ hi' hi' := by
    rcases uval_some hhi hh with ⟨_, e, _⟩ | ⟨k, e⟩ <;> rw [e]
    · exact .none
    · exact .some (.flat rfl)
  have hup : ∀ m : Nat, l ≤ m → uptoOr lo' m 0 = some l.toNat := fun m h4 => by
    rcases uval_some hlo hl with ⟨_, e, e2⟩ | ⟨k, e⟩ <;> rw [e]
    · rw [e2]; rfl
    · show upto _ _ = _
      rw [upto_some]; exact ⟨⟨k, by simp [Int.toNat_of_nonneg h1]⟩, by omega⟩
  have hup2 : ∀ m : Nat, h ≤ m → uptoOr hi' m len = some h.toNat := fun m h4 => by
    rcases uval_some hhi hh with ⟨_, e, e2⟩ | ⟨k, e⟩ <;> rw [e]
    · rw [e2]; show some len = _; simp
    · show upto _ _ = _
      rw [upto_some]; exact ⟨⟨k, by simp [Int.toNat_of_nonneg (show 0 ≤ h by omega)]⟩, by omega⟩
  have hbd : boundsA len cap lo' hi' = some (l.toNat, h.toNat) := by
    unfold boundsA
    rw [hup2 _ h3]
    show ob (uptoOr lo' h.toNat 0) _ = _
    rw [hup _ (by omega)]
    rfl
  have hb' := bounds_run (P := P) (b := true) (m := cap) hbd hlo0 hhi0 (by omega) w
  simp only [Instr.sliceAt, Instr.slice, Sem.run_bind, run_under ht, Result.andThen_ok, hb', run_size hn, Sem.run_pure]
  congr 2
  cases x with
  | none => split <;> rfl
  | some a => unfold xCut; split <;> rfl
theorem xQ_sound {o : Oper} {F : T Value} {A : AW} {K : Value → Prop} {x : Operand} {v a : Value} (hx : xop o.op = some x) (hv : opnd P F x = some v) (ha : xval v = some a) (h : xQ P o.op F K a) : ∃ u, K u ∧ QSem P o F A u := by
  obtain rfl := xval_some ha
  obtain ⟨dst, op, ty, pos, after, guard⟩ := o
  cases op <;> try (first | exact False.elim h | (cases hx; done))
  case load t y =>
    cases hx
    have h : xLoadV P t K a := h
    unfold xLoadV at h
    split at h
    · obtain ⟨u, h1, h2⟩ := xLoad_sound (A := A) h
      refine ⟨u, h1, fun σ w act hR hO => ?_⟩
      obtain ⟨e, _⟩ := (hO x (by simp [Op.operands]) _ hv).ext_inv
      obtain ⟨u', k1, k2⟩ := h2 σ w hR
      exact ⟨u', k1, by simp [execOp, e, k2]⟩
    · exact h.elim
  case indexAddr t y i =>
    cases hx
    have h : cpo (sliceT P t) (fun e => cpo (opnd P F i) fun iv => xIdxV P e (uval iv) K a) := h
    simp only [cpo_iff] at h
    obtain ⟨e, ht, iv, hi, h⟩ := h
    unfold xIdxV at h
    split at h
    · rename_i ad len cp _
      unfold xIdx at h
      rw [cpo_iff] at h
      obtain ⟨n, hn, h⟩ := h
      split at h
      · rename_i k z hz
        obtain ⟨⟨h0, h1⟩, b, o, rfl, h2⟩ := h
        refine ⟨_, h2 _ rfl, fun σ w act hR hO => ⟨_, .ext rfl, ?_⟩⟩
        obtain ⟨e1, _⟩ := (hO x (by simp [Op.operands]) _ hv).ext_inv
        have e2 := uval_int (hO i (by simp [Op.operands]) iv hi) hz
        obtain ⟨u', k1, k2⟩ := indexAddr_run (P := P) (t := t) (σ := sgId) (x := .slice (some ⟨b, o, none⟩) len cp) (i := .int k z) (u := .pointer (some ⟨b, o + z.toNat * n, none⟩)) (by
          simp only [indexAddrA, ob_some]
          refine ⟨_, sliceT_some.1 ht, ?_⟩
          simp only [ob_some, idxAt, plainAt_some, bt_some, numV_some]
          refine ⟨_, rfl, rfl, z.toNat, ⟨k, ?_⟩, ?_, n, hn, ptrTo_eq _ _⟩
          · congr 1; show z = ((z.toNat : Nat) : Int); omega
          · simp [Nat.blt_eq]; omega) (show VR sgId (.slice (some ⟨b, o, none⟩) len cp) (.slice (some ⟨b, o, none⟩) len (cp + 0)) from .slice rfl) (.flat rfl) w
        rw [Nat.add_zero] at k2
        rw [sgId_ptr k1] at k2
        simp only [execOp, Sem.run_bind, e1, e2, k2, Result.andThen_ok, Sem.run_pure]
      · exact h.elim
    · exact h.elim
  case fieldAddr s y f =>
    cases hx
    have h : xField P s f a K := h
    unfold xField at h
    simp only [cpo_iff, cpb_iff] at h
    obtain ⟨fs, hs, fd, hf, n, hn, h0, h⟩ := h
    split at h
    · rename_i b o _
      refine ⟨_, h _ rfl, fun σ w act hR hO => ⟨_, .ext rfl, ?_⟩⟩
      obtain ⟨e1, _⟩ := (hO x (by simp [Op.operands]) _ hv).ext_inv
      obtain ⟨u', k1, k2⟩ := fieldAddr_run (P := P) (s := s) (f := f) (σ := sgId) (v := .pointer (some ⟨b, o, none⟩)) (u := .pointer (some ⟨b, o + fd.offset, none⟩)) (by
        simp only [fieldAddrA, ob_some, bt_some, ptrV_some, plainAt_some]
        exact ⟨fs, hs, fd, hf, n, hn, h0, _, rfl, rfl, ptrTo_eq _ _⟩) (.ptr rfl) w
      rw [sgId_ptr k1] at k2
      simp only [execOp, Sem.run_bind, e1, k2, Result.andThen_ok, Sem.run_pure]
    · exact h.elim
  case binOp op t y z yt =>
    cases hx
    have h : cpo (opnd P F z) (fun b => cpb (nilV b) (cpb (sliceK P t) (xNil op a K))) := h
    simp only [cpo_iff, cpb_iff] at h
    obtain ⟨b, hb, hn, hk, h⟩ := h
    unfold xNil at h
    split at h
    · rename_i ad l c _
      obtain ⟨e, ht⟩ := sliceK_inv hk
      have fin : ∀ r : Bool, K (.bool r) → (op = .eql ∧ r = ad.isNone ∨ op = .neq ∧ r = !ad.isNone) → ∃ v, K v ∧ QSem P ⟨dst, .binOp op t x z yt, ty, pos, after, guard⟩ F A v := fun r hKr hr => by
        refine ⟨_, hKr, fun σ w act hR hO => ⟨.bool r, .flat rfl, ?_⟩⟩
        have e2 := nilV_inv (hO z (by simp [Op.operands]) b hb) hn
        obtain ⟨e1, _⟩ := (hO x (by simp [Op.operands]) _ hv).ext_inv
        have := nil_run (xo := x) (yo := z) ht ad l c w op r hr
        simp only [execOp, Sem.run_bind] at this ⊢
        rw [e1, e2, this]; rfl
      cases op with
      | eql => cases ad with
        | none => exact fin true (h.1 rfl) (.inl ⟨rfl, rfl⟩)
        | some _ => exact fin false (h.2 (by simp)) (.inl ⟨rfl, rfl⟩)
      | neq => cases ad with
        | none => exact fin false (h.2 (by simp)) (.inr ⟨rfl, rfl⟩)
        | some _ => exact fin true (h.1 (by simp)) (.inr ⟨rfl, rfl⟩)
      | _ => exact False.elim h
    · exact h.elim
  case slice t y lo hi mx =>
    cases mx with
    | some _ => cases hx
    | none =>
    cases hx
    have h : cpo (optOp P F lo) (fun l => cpo (optOp P F hi) fun h => xSlice P t l h a K) := h
    simp only [cpo_iff] at h
    obtain ⟨l, hl, hh, hhh, h⟩ := h
    unfold xSlice at h
    simp only [cpo_iff] at h
    obtain ⟨e, ht, n, hn, h⟩ := h
    split at h
    · rename_i ad len cap _
      obtain ⟨l', hl', h', hh', hb, h⟩ := h
      refine ⟨_, h _ _ _ rfl rfl rfl, fun σ w act hR hO => ⟨_, .ext rfl, ?_⟩⟩
      obtain ⟨e1, _⟩ := (hO x (by simp [Op.operands]) _ hv).ext_inv
      have := xSlice_run (x := ad) (sliceT_some.1 ht) hn (optOp_run (fun x hx => hO x (by simp at hx; simp [Op.operands, hx])) hl) (optOp_run (fun x hx => hO x (by simp at hx; simp [Op.operands, hx])) hhh) hl' hh' hb w
      simp [execOp, e1, this]
    · exact h.elim
  case call c =>
    obtain ⟨cal, ⟨args⟩, ⟨ats⟩⟩ := c
    cases cal <;> try (cases hx; done)
    rename_i b
    cases b <;> try (cases hx; done)
    have hx2 : lget args 0 = some x := hx
    have h : cpo (lget ats 0) (fun t => cpb (sliceK P t) (xLen a K)) := h
    simp only [cpo_iff, cpb_iff, lget_eq] at h hx2
    clear hx
    obtain ⟨t, ht, hk, h⟩ := h
    obtain ⟨e, hd⟩ := sliceK_inv hk
    unfold xLen at h
    split at h
    · rename_i ad n c _
      refine ⟨_, h _ rfl, fun σ w act hR hO => ⟨_, tgI_vr _ _, ?_⟩⟩
      cases ats with
      | nil => simp at ht
      | cons t' ts => cases args with
        | nil => simp at hx2
        | cons x' xs =>
          simp at ht hx2; subst ht hx2
          obtain ⟨e1, _⟩ := (hO _ (by simp [Op.operands, Call.operands]) _ hv).ext_inv
          simp only [execOp, resolve, Sem.run_bind, Sem.run_pure, Result.andThen_ok, invoke]
          rw [map_ops]
          simp only [List.map_cons, e1]
          simp [builtin, Builtin.len_, run_under hd]
          rfl
    · exact h.elim
theorem keyIs_now {kd : TypeDesc} {k u : Value} {f g : Prop} (hk : keyK kd k = true) (h : keyIs k u f g) : ∃ b, Instr.sameNow kd k u = some b ∧ (b = true → f) ∧ (b = false → g) := by
  unfold keyIs at h
  split at h
  · rename_i j z
    split at h
    · rename_i i n
      rw [cpb_iff] at h
      obtain ⟨h1, h2, h3⟩ := h
      obtain rfl := sameK_eq h1
      cases kd <;> try (cases hk; done)
      refine ⟨z == n, by simp [Instr.sameNow], fun e => h2 (by simpa using e), fun e => h3 (by simpa using e)⟩
    · exact h.elim
  · rename_i s
    split at h
    · rename_i u
      cases kd <;> try (cases hk; done)
      refine ⟨s == u, by simp [Instr.sameNow], fun e => h.1 ?_, fun e => h.2 fun e2 => ?_⟩
      · have : s = u := bytes_beq e
        rw [this]
      · have : s = u := by cases s; cases u; simp only [ByteArray.mk.injEq]; exact Array.toList_inj.1 e2
        subst this
        rw [bytes_self] at e; cases e
    · exact h.elim
  · exact h.elim
theorem lkQ_some {t : TypeId} {ok : Bool} {kd : TypeDesc} {k : Value} {K : Value → Prop} (hk : keyK kd k = true) : ∀ {es : List MapEntry} {i : Nat}, lkQ P t ok k K es → ∃ r u, Instr.findNow kd k es i = some r ∧ K u ∧
    (Option.rec (ob (zero2 P t) fun z => okV ok z false) (fun x => okV ok x.2 true) r : Option Value) = some u := by
  intro es
  induction es with
  | nil =>
    intro i h
    have h : cpo (ob (zero2 P t) fun z => okV ok z false) K := h
    obtain ⟨u, h1, h2⟩ := cpo_iff.1 h
    exact ⟨none, u, rfl, h2, h1⟩
  | cons e es ih =>
    intro i h
    have h : keyIs k e.key (cpo (okV ok e.val true) K) (lkQ P t ok k K es) := h
    obtain ⟨b, h1, h2, h3⟩ := keyIs_now hk h
    cases b with
    | true =>
      obtain ⟨u, h4, h5⟩ := cpo_iff.1 (h2 rfl)
      exact ⟨some (i, e.val), u, by simp [Instr.findNow, h1], h5, h4⟩
    | false =>
      obtain ⟨r, u, h4, h5, h6⟩ := ih (i := i + 1) (h3 rfl)
      exact ⟨r, u, by simp [Instr.findNow, h1, h4], h5, h6⟩
theorem keyK_scal {kd : TypeDesc} {k : Value} (h : keyK kd k = true) : flat k = true ∧ keyD kd = true ∧ ibs k = true := by
  cases k <;> try (cases h; done)
  · cases kd <;> first | (cases h; done) | exact ⟨rfl, rfl, rfl⟩
  · cases kd <;> first | (cases h; done) | exact ⟨rfl, rfl, rfl⟩
theorem symLk_sound {o : Oper} {F : T Value} {A : AW} {K : Value → Prop} {a : Value × Value} (hx : karg P F o.op = some a) (h : symLk P o.op A.heap K a) : ∃ u, K u ∧ QSem P o F A u := by
  obtain ⟨dst, op, ty, pos, after, guard⟩ := o
  cases op <;> try exact False.elim h
  case lookup t x k ok =>
    have hx : (ob (opnd P F x) fun m => ob (opnd P F k) fun k => bt (isSym k) (some (m, uval k))) = some a := hx
    simp only [ob_some, bt_some, Option.some.injEq] at hx
    obtain ⟨m, hm, kv, hkv, _, rfl⟩ := hx
    have h : cpo (mapT P t) (fun q => cpo (P.underlying q.1) fun kd => cpb (keyK kd (uval kv)) (cpo (entriesA A.heap m) fun es => lkQ P q.2 ok (uval kv) K es)) := h
    simp only [cpo_iff, cpb_iff] at h
    obtain ⟨q, hq, kd, hkd, hk, es, hes, h⟩ := h
    obtain ⟨r, u, h1, h2, h3⟩ := lkQ_some (i := 0) hk h
    obtain ⟨k1, k2, k3⟩ := keyK_scal hk
    refine ⟨u, h2, fun σ w act hR hO => ?_⟩
    have e1 := uval_ibs (hO k (by simp [Op.operands]) kv hkv) k3
    have hl : lookupA P A.heap t m (uval kv) ok = some u := by
      unfold lookupA
      simp only [ob_some, bt_some]
      exact ⟨q, hq, k1, kd, hkd, k2, es, hes, r, h1, h3⟩
    obtain ⟨u', g1, g2⟩ := lookupA_run hR hl (hO x (by simp [Op.operands]) m hm) (k' := act.eval k) (by rw [e1]; exact .flat k1)
    exact ⟨u', g1, by simp [execOp, g2]⟩
theorem symQ_sound {o : Oper} {F : T Value} {A : AW} {K : Value → Prop} (h : symQ P o.op F A.heap K) : ∃ v, K v ∧ QSem P o F A v := by
  unfold symQ at h
  cases hx : xarg P F o.op with
  | none =>
    rw [hx] at h
    cases hk : karg P F o.op with
    | none => rw [hk] at h; exact symQ0_sound h
    | some a => rw [hk] at h; exact symLk_sound hk h
  | some a =>
    rw [hx] at h
    have hx : (ob (xop o.op) fun x => ob (opnd P F x) xval) = some a := hx
    simp only [ob_some] at hx
    obtain ⟨x, h1, v, h2, h3⟩ := hx
    exact xQ_sound h1 h2 h3 h
end Go.Ev
end

/- The evaluator with variables: operations that change the memory. -/
set_option linter.unusedSectionVars false
namespace Go.Ev
variable {P : Program} {σ : Sg} {w : World} [Frozen P]
noncomputable section
def lput (c : List Value) (o : Nat) (vs : List Value) : List Value := c.take o ++ (vs ++ c.drop (o + vs.length))
def lwin (c : List Value) (o n : Nat) : List Value := (c.drop o).take n
def rowC (H : T AO) (b : Nat) (f : List Value → TypeId → Md → Prop) : Prop := cpo (H.get b) fun o => match o with
  | .row c e m => f c e m
  | _ => False
def symStore (P : Program) [Frozen P] (t : TypeId) (A : AW) (p v : Value) (K : Fx → Prop) : Prop := cpo (ptrV p) fun a => match a with
  | ⟨b, o, none⟩ => cpo (sizeA P t) fun n => cpb (lenB (cellsA v) n) (cpb (lall oneK (cellsA v)) (rowC A.heap b fun c e m => cpb m.writes
    (o + n ≤ c.length ∧ ∀ c', c' = lput c o (cellsA v) → K (.val (.tuple #[]) (A.put b (.row c' e m))))))
  | _ => False
def Few (n by_ : Nat) : Prop := n * (by_ + 1) ≤ 1073741824
def symSrc (H : T AO) (sz : Nat) (x : Value) (f : Nat → List Value → Prop) : Prop := match x with
  | .slice none n _ => cpb (Nat.beq n 0) (f 0 [])
  | .slice (some ⟨b, o, none⟩) l _ => rowC H b fun c _ _ => o + l * sz ≤ c.length ∧ ∀ xs, xs = lwin c o (l * sz) → f l xs
  | _ => False
def newS (A : AW) (n k : Nat) (c : List Value) (e : TypeId) (m : Md) (K : Fx → Prop) : Prop := K (.val (tg (.slice (some ⟨A.next, 0, none⟩) n k)) (A.add (.row c e m)))
def symApp (A : AW) (e : TypeId) (sz by_ m : Nat) (xs : List Value) (s : Value) (K : Fx → Prop) : Prop := match s with
  | .slice none _ cap => cpb (Nat.beq cap 0) ((m = 0 → K (.val (.slice none 0 0) A)) ∧ (m ≠ 0 → Few m by_ ∧ newS A m m xs e (.grown m) K))
  | .slice (some ⟨b, o, none⟩) l cap => rowC A.heap b fun c e' md => match md with
    | .grown rc => cpb (Nat.beq e e') ((o = 0 ∧ c.length = l * sz ∧ cap = rc ∧ l ≤ rc ∧ Few (l + m) by_ ∧ lall oneK xs = true) ∧ ∀ n k : Nat, n = l + m → k = (if n ≤ rc then rc else n) → newS (A.put b .dead) n k (c ++ xs) e (.grown k) K)
    | .gro => False
    | md => (l + m ≤ cap → md.writes = true ∧ lall oneK xs = true ∧ o + l * sz + xs.length ≤ c.length ∧ ∀ (n : Nat) (c' : List Value), n = l + m → c' = lput c (o + l * sz) xs → K (.val (tg (.slice (some ⟨b, o, none⟩) n cap)) (A.put b (.row c' e' md)))) ∧
      (¬ l + m ≤ cap → Few (l + m) by_ ∧ o + l * sz ≤ c.length ∧ ∀ (n : Nat) (ys : List Value), n = l + m → ys = lwin c o (l * sz) ++ xs → newS A n n ys e (.grown n) K)
  | _ => False
def symAppend (P : Program) [Frozen P] (t : TypeId) (xt : Option TypeId) (A : AW) (s x : Value) (K : Fx → Prop) : Prop := cpo (sliceT P t) fun e => cpo xt fun xt => cpo (P.underlying xt) fun xd => cpb (notInt xd) (cpo (P.info? e) fun i => cpo i.zero fun z =>
  cpb (lenB (cellsA z) i.size) (mnWays x fun x => mnWays s fun s => symSrc A.heap i.size x fun m xs => symApp A e i.size i.bytes m xs s K))
def symMake (P : Program) [Frozen P] (t : TypeId) (A : AW) (l c : Value) (K : Fx → Prop) : Prop := cpo (sliceT P t) fun e => cpo (zeroA P e) fun z => cpo (P.info? e) fun i => cpb (lenB z i.size) (match l with
  | .int .i64 ln => match c with
    | .int .i64 cn => (0 ≤ ln ∧ ln ≤ cn ∧ Few cn.toNat i.bytes) ∧ ∀ (n k : Nat) (cs : List Value), n = ln.toNat → k = cn.toNat → cs = lrep k z → newS A n k cs e .own K
    | _ => False
  | _ => False)
def symPutXs (A : AW) (b o n : Nat) (xs : List Value) (K : Fx → Prop) : Prop := rowC A.heap b fun c e md => (md.writes = true ∧ lall oneK xs = true ∧ o + xs.length ≤ c.length) ∧ ∀ c', c' = lput c o xs → K (.val (tgI .i64 n) (A.put b (.row c' e md)))
def symCopy (P : Program) [Frozen P] (t : TypeId) (A : AW) (d s : Value) (K : Fx → Prop) : Prop := cpo (sliceT P t) fun e => cpo (sizeA P e) fun sz => match d with
  | .slice (some ⟨b, o, none⟩) len _ => mnWays s fun s => match s with
    | .slice none n _ => cpb (Nat.beq n 0) (symPutXs A b o 0 [] K)
    | .slice (some ⟨b2, o2, none⟩) l _ => rowC A.heap b2 fun c2 _ _ => ∀ n : Nat, n = min l len → o2 + n * sz ≤ c2.length ∧ ∀ xs, xs = lwin c2 o2 (n * sz) → symPutXs A b o n xs K
    | _ => False
  | _ => False
def symStrOf (P : Program) [Frozen P] (s d : TypeId) (A : AW) (K : Fx → Prop) (v : Value) : Prop := cpo (sliceT P s) fun e => cpo (P.underlying e) fun ed => cpb (u8D ed) (cpo (sizeA P e) fun sz => cpb (Nat.beq sz 1) (cpo (P.underlying d) fun dd => cpb (strD dd) (match v with
  | .slice none n _ => cpb (Nat.beq n 0) (K (.val (mkStr []) A))
  | .slice (some ⟨b, o, none⟩) l _ => rowC A.heap b fun c _ _ => o + l ≤ c.length ∧ ∃ bs : List UInt8, (bs.length = l ∧ ∀ i u, bs[i]? = some u → Rd c (o + i) (.int .u8 u.toNat)) ∧ K (.val (tg (mkStr bs)) A)
  | _ => False)))
def isSliceT (P : Program) [Frozen P] (t : TypeId) : Bool := Option.rec false (fun _ => true) (sliceT P t)
def twoE (o : Op) (P : Program) [Frozen P] (F : T Value) (A : AW) (x y : Operand) (K : Fx → Prop) (s : Value → Value → Prop) : Prop := cpo (opnd P F x) fun a => cpo (opnd P F y) fun b =>
  Bool.rec (cpo (evE o P F A) K) (s a b) (isSym a || isSym b)
def symECall (c : Call) (o : Op) (P : Program) [Frozen P] (F : T Value) (A : AW) (K : Fx → Prop) : Prop := match c.callee with
  | .builtin .append => match c.args.toList with
    | [x, y] => cpo (lget c.argTypes.toList 0) fun t => twoE o P F A x y K fun a b => symAppend P t (lget c.argTypes.toList 1) A a b K
    | _ => False
  | .builtin .copy => match c.args.toList with
    | [x, y] => cpo (lget c.argTypes.toList 0) fun t => twoE o P F A x y K fun a b => Option.rec (symCopy P t A (uval a) b K) (fun _ => False) (mnB a)
    | _ => False
  | _ => cpo (evE o P F A) K
def symE (P : Program) [Frozen P] (o : Op) (F : T Value) (A : AW) (K : Fx → Prop) : Prop := match o with
  | .store t x y => cpo (opnd P F x) fun a => cpo (opnd P F y) fun b => Bool.rec (cpo (evE o P F A) K) (symStore P t A (uval a) b K) (isSym a)
  | .makeSlice t l c => twoE o P F A l c K fun a b => symMake P t A (uval a) (uval b) K
  | .call c => symECall c o P F A K
  | .convert s d x => cpo (opnd P F x) fun a => Bool.rec (cpo (evE o P F A) K) (mnWays a (symStrOf P s d A K)) (isSym a && isSliceT P s)
  | o => cpo (evE o P F A) K
end
def FSem (P : Program) [Frozen P] (o : Oper) (F : T Value) (A : AW) (f : Fx) : Prop := ∀ (σ : Sg) (w : World) (a : Act), Rel P σ A w → OK P σ F a o.op.operands.toList → Fine P σ A w ((execOp a.eval o).run P w) f
theorem rowC_iff {H : T AO} {b : Nat} {f : List Value → TypeId → Md → Prop} : rowC H b f ↔ ∃ c e m, H.get b = some (.row c e m) ∧ f c e m := by
  unfold rowC
  rw [cpo_iff]
  constructor
  · rintro ⟨o, ho, h⟩
    cases o with
    | row c e m => exact ⟨c, e, m, ho, h⟩
    | _ => exact h.elim
  · rintro ⟨c, e, m, ho, h⟩; exact ⟨_, ho, h⟩
theorem lover_of {α : Type} (xs : List α) : ∀ (off : Nat) (l : List α), off + xs.length ≤ l.length → lover xs off l = some (l.take off ++ (xs ++ l.drop (off + xs.length))) := by
  intro off
  induction off with
  | zero =>
    intro l hl
    have : ∀ (xs l : List α), xs.length ≤ l.length → lhead xs l = some (xs ++ l.drop xs.length) := by
      intro xs
      induction xs with
      | nil => intro l _; rfl
      | cons x xs ih => intro l h; cases l with
        | nil => simp at h
        | cons y l =>
          show ocons x (lhead xs l) = _
          rw [ih l (by simpa using h)]; rfl
    show lhead xs l = _
    rw [this xs l (by omega)]
    simp
  | succ k ih =>
    intro l hl
    cases l with
    | nil => simp at hl
    | cons y l =>
      show ocons y (lover xs k l) = _
      have hl : k + 1 + xs.length ≤ l.length + 1 := by simpa using hl
      rw [ih l (by omega)]
      have e : k + 1 + xs.length = (k + xs.length) + 1 := by omega
      rw [e]; rfl
theorem lover_put {c vs : List Value} {o : Nat} (h : o + vs.length ≤ c.length) : lover vs o c = some (lput c o vs) := lover_of vs o c h
theorem ce {o : Oper} {F : T Value} {A : AW} {K : Fx → Prop} (h : cpo (evE o.op P F A) K) : ∃ f, K f ∧ FSem P o F A f := by
  rw [cpo_iff] at h
  obtain ⟨f, h1, h2⟩ := h
  exact ⟨f, h2, fun _ _ _ hR hO => evE_sound hR hO h1⟩
theorem symStore_sound {t : TypeId} {A : AW} {p v : Value} {K : Fx → Prop} (h : symStore P t A p v K) : ∃ A', K (.val (.tuple #[]) A') ∧ storeA P t A p v = some A' ∧ ∃ a, p = .pointer (some a) := by
  unfold symStore at h
  simp only [cpo_iff, ptrV_some] at h
  obtain ⟨a, rfl, h⟩ := h
  split at h
  · rename_i b o
    simp only [cpo_iff, cpb_iff, rowC_iff, lenB_iff] at h
    obtain ⟨n, hn, hl, h1, c, e, m, hg, hm, hle, hK⟩ := h
    refine ⟨_, hK _ rfl, ?_, _, rfl⟩
    simp only [storeA, ob_some, bt_some, ptrV_some, plainAt_some, rowAt_some, lenB_iff, Option.some.injEq]
    exact ⟨_, rfl, rfl, n, hn, hl, h1, c, e, m, hg, hm, _, lover_put (by rw [hl]; exact hle), rfl⟩
  · exact h.elim
theorem symSrc_some {H : T AO} {sz : Nat} {x : Value} {f : Nat → List Value → Prop} (h : symSrc H sz x f) : ∃ m xs, f m xs ∧ lenV x = some m ∧ srcA H sz m x = some xs ∧ xs.length = m * sz := by
  unfold symSrc at h
  split at h
  · rename_i n c
    rw [cpb_iff, beqIff] at h
    obtain ⟨rfl, h⟩ := h
    exact ⟨0, [], h, rfl, rfl, by simp⟩
  · rename_i b o l c
    rw [rowC_iff] at h
    obtain ⟨c', e, m, hg, hle, h⟩ := h
    refine ⟨l, lwin c' o (l * sz), h _ rfl, rfl, ?_, by simp [lwin]; omega⟩
    rw [srcA_slice, rowAt_some]
    exact ⟨c', e, m, hg, lsub_of hle⟩
  · exact h.elim
theorem few_of {n by_ : Nat} (h : Few n by_) : few n by_ = true := by
  have h : n * (by_ + 1) ≤ 1073741824 := h
  unfold few; exact bleIff.2 h
def Mk (v0 v : Value) : Prop := v = v0 ∨ (v = tg v0 ∧ isScal v0 = true)
theorem Mk.vr {v0 v v' : Value} (h : Mk v0 v) (k : VR σ v0 v') : VR σ v v' := by
  rcases h with rfl | ⟨rfl, e⟩
  · exact k
  · exact .sym e k
theorem Mk.gives {A A' : AW} {r : Result Value} {v0 v : Value} (h : Mk v0 v) (k : Gives P σ A w r v0 A') : Gives P σ A w r v A' := by
  obtain ⟨v', σ', w', e, h1, h2, h3⟩ := k
  exact ⟨v', σ', w', e, h.vr h1, h2, h3⟩
theorem symApp_sound {A : AW} {e : TypeId} {sz by_ m : Nat} {xs : List Value} {s : Value} {K : Fx → Prop} (h : symApp A e sz by_ m xs s K) :
    ∃ v A' v0, K (.val v A') ∧ appTo A e sz by_ m xs s = some (v0, A') ∧ Mk v0 v := by
  unfold symApp at h
  split at h
  · rename_i l cap
    rw [cpb_iff] at h
    obtain ⟨hc, h1, h2⟩ := h
    have hap : appTo A e sz by_ m xs (.slice none l cap) = bt (Nat.beq cap 0) (appNil A e by_ m xs) := rfl
    rw [hap, hc]
    cases m with
    | zero => exact ⟨_, _, _, h1 rfl, rfl, .inl rfl⟩
    | succ m =>
      obtain ⟨hf, h2⟩ := h2 (by simp)
      refine ⟨_, _, _, h2, ?_, .inr ⟨rfl, rfl⟩⟩
      show bt (few (m + 1) by_) (newSlice A (m + 1) (m + 1) xs e (.grown (m + 1))) = _
      rw [few_of hf]; rfl
  · rename_i b o l cap
    rw [rowC_iff] at h
    obtain ⟨c, e', md, hg, h⟩ := h
    have hap : appTo A e sz by_ m xs (.slice (some ⟨b, o, none⟩) l cap) = rowAt A.heap b (fun c e' md => match md with
      | .grown rc => appGrown A e sz by_ b o l cap c e' rc m xs
      | .gro => none
      | md => appOwn A e sz by_ b o l cap c e' md m xs) := rfl
    rw [hap]
    have own : ∀ (md : Md), A.heap.get b = some (.row c e' md) → ((l + m ≤ cap → md.writes = true ∧ lall oneK xs = true ∧ o + l * sz + xs.length ≤ c.length ∧ ∀ (n : Nat) (c' : List Value), n = l + m → c' = lput c (o + l * sz) xs → K (.val (tg (.slice (some ⟨b, o, none⟩) n cap)) (A.put b (.row c' e' md)))) ∧
      (¬ l + m ≤ cap → Few (l + m) by_ ∧ o + l * sz ≤ c.length ∧ ∀ (n : Nat) (ys : List Value), n = l + m → ys = lwin c o (l * sz) ++ xs → newS A n n ys e (.grown n) K)) →
      ∃ v A' v0, K (.val v A') ∧ appOwn A e sz by_ b o l cap c e' md m xs = some (v0, A') ∧ Mk v0 v := by
      intro md _ h
      unfold appOwn
      by_cases hle : l + m ≤ cap
      · obtain ⟨h1, h2, h3, h4⟩ := h.1 hle
        refine ⟨_, _, _, h4 _ _ rfl rfl, ?_, .inr ⟨rfl, rfl⟩⟩
        have : Nat.ble (Nat.add l m) cap = true := bleIff.2 hle
        rw [this]
        show bt md.writes (bt (lall oneK xs) (ob (lover xs (Nat.add o (Nat.mul l sz)) c) fun c' => fnat (Nat.add l m) fun n => some (Value.slice (some ⟨b, o, none⟩) n cap, A.put b (.row c' e' md)))) = _
        rw [h1, h2]
        show ob (lover xs (o + l * sz) c) _ = _
        rw [lover_put h3]
        show fnat (l + m) (fun n => some (Value.slice (some ⟨b, o, none⟩) n cap, A.put b (.row (lput c (o + l * sz) xs) e' md))) = _
        rw [fnat_eq]
      · obtain ⟨h1, h2, h3⟩ := h.2 hle
        refine ⟨_, _, _, h3 _ _ rfl rfl, ?_, .inr ⟨rfl, rfl⟩⟩
        have : Nat.ble (Nat.add l m) cap = false := by
          cases hb : Nat.ble (Nat.add l m) cap with
          | false => rfl
          | true => exact absurd (bleIff.1 hb) hle
        rw [this]
        show bt (few (l + m) by_) (ob (lsub c o (l * sz)) fun old => fnat (l + m) fun n => newSlice A n n (old ++ xs) e (.grown n)) = _
        rw [few_of h1, lsub_of h2]
        show fnat (l + m) (fun n => newSlice A n n (lwin c o (l * sz) ++ xs) e (.grown n)) = _
        rw [fnat_eq]; rfl
    cases md with
    | own =>
      obtain ⟨v, A', v0, k1, k2, k3⟩ := own .own hg h
      exact ⟨v, A', v0, k1, rowAt_some.2 ⟨c, e', .own, hg, k2⟩, k3⟩
    | ro =>
      obtain ⟨v, A', v0, k1, k2, k3⟩ := own .ro hg h
      exact ⟨v, A', v0, k1, rowAt_some.2 ⟨c, e', .ro, hg, k2⟩, k3⟩
    | gro => exact False.elim h
    | grown rc =>
      have h : cpb (Nat.beq e e') ((o = 0 ∧ c.length = l * sz ∧ cap = rc ∧ l ≤ rc ∧ Few (l + m) by_ ∧ lall oneK xs = true) ∧ ∀ n k : Nat, n = l + m → k = (if n ≤ rc then rc else n) → newS (A.put b .dead) n k (c ++ xs) e (.grown k) K) := h
      rw [cpb_iff] at h
      obtain ⟨he, ⟨rfl, h1, h2, h3, h4, h5⟩, h7⟩ := h
      have hun : appGrown A e sz by_ b 0 l cap c e' rc m xs = (fnat (Nat.add l m) fun n => fnat (Bool.rec n rc (Nat.ble n rc)) fun k =>
          newSlice (A.put b .dead) n k (c ++ xs) e (.grown k) : Option (Value × AW)) := by
        unfold appGrown
        have e1 : lenB c (Nat.mul l sz) = true := (lenB_iff _ _).2 h1
        have e2 : (Nat.beq cap rc && Nat.ble l rc) = true := by rw [Bool.and_eq_true]; exact ⟨beqIff.2 h2, bleIff.2 h3⟩
        have e3 : few (Nat.add l m) by_ = true := few_of h4
        rw [he, e1, e2, e3, h5]; rfl
      refine ⟨_, _, _, h7 _ _ rfl rfl, rowAt_some.2 ⟨c, e', .grown rc, hg, ?_⟩, .inr ⟨rfl, rfl⟩⟩
      show appGrown A e sz by_ b 0 l cap c e' rc m xs = _
      rw [hun]
      show fnat (l + m) (fun n => fnat (Bool.rec n rc (Nat.ble n rc)) fun k => newSlice (A.put b .dead) n k (c ++ xs) e (.grown k)) = _
      rw [fnat_eq, fnat_eq]
      have : (Bool.rec (l + m) rc (Nat.ble (l + m) rc) : Nat) = (if l + m ≤ rc then rc else l + m) := by
        cases hb : Nat.ble (l + m) rc with
        | true => rw [if_pos (bleIff.1 hb)]
        | false => rw [if_neg (fun e => by rw [bleIff.2 e] at hb; cases hb)]
      rw [this]; rfl
  · exact h.elim
theorem symAppend_sound {t : TypeId} {xt : Option TypeId} {A : AW} {s x : Value} {K : Fx → Prop} (h : symAppend P t xt A s x K) :
    ∃ v A' v0 s0 x0, K (.val v A') ∧ appendA P t xt A s0 x0 = some (v0, A') ∧ Mk v0 v ∧ (∀ σ s', VR σ s s' → VR σ s0 s') ∧ ∀ σ x', VR σ x x' → VR σ x0 x' := by
  unfold symAppend at h
  simp only [cpo_iff, cpb_iff] at h
  obtain ⟨e, he, xt', rfl, xd, hxd, hni, i, hi, z, hz, hl, h⟩ := h
  obtain ⟨x0, h, hx0⟩ := mnWays_some h
  obtain ⟨s0, h, hs0⟩ := mnWays_some h
  obtain ⟨m, xs, h, h1, h2, h3⟩ := symSrc_some h
  obtain ⟨v, A', v0, k1, k2, k3⟩ := symApp_sound h
  refine ⟨v, A', v0, s0, x0, k1, ?_, k3, hs0, hx0⟩
  simp only [appendA, ob_some, bt_some]
  exact ⟨e, he, xt', rfl, xd, hxd, hni, i, hi, z, hz, hl, m, h1, xs, h2, (lenB_iff _ _).2 h3, k2⟩
theorem symMake_sound {t : TypeId} {A : AW} {l c : Value} {K : Fx → Prop} (h : symMake P t A l c K) : ∃ v A' v0, K (.val v A') ∧ makeSliceA P t A l c = some (v0, A') ∧ Mk v0 v ∧ ibs l = true ∧ ibs c = true := by
  unfold symMake at h
  simp only [cpo_iff, cpb_iff] at h
  obtain ⟨e, he, z, hz, i, hi, hl, h⟩ := h
  split at h
  · split at h
    · rename_i ln _ cn
      obtain ⟨⟨h0, h1, h2⟩, h3⟩ := h
      refine ⟨_, _, _, h3 _ _ _ rfl rfl rfl, ?_, .inr ⟨rfl, rfl⟩, rfl, rfl⟩
      simp only [makeSliceA, ob_some, bt_some, i64V_some]
      refine ⟨e, he, ln.toNat, ?_, cn.toNat, ?_, z, hz, i, hi, hl, bleIff.2 (by omega), few_of h2, rfl⟩
      · congr 1; show ln = ((ln.toNat : Nat) : Int); omega
      · congr 1; show cn = ((cn.toNat : Nat) : Int); omega
    · exact h.elim
  · exact h.elim
theorem min_nat (m n : Nat) : (Bool.rec n m (Nat.ble m n) : Nat) = min m n := by
  cases hb : Nat.ble m n with
  | true => have := bleIff.1 hb; show m = min m n; omega
  | false =>
    have : ¬ m ≤ n := fun hh => by rw [bleIff.2 hh] at hb; cases hb
    show n = min m n; omega
theorem symPut_some {A : AW} {b o n : Nat} {xs : List Value} {K : Fx → Prop} (h : symPutXs A b o n xs K) : ∃ A', K (.val (tgI .i64 n) A') ∧
    (rowAt A.heap b fun c e' md => bt md.writes (bt (lall oneK xs) (ob (lover xs o c) fun c' => ob (natV .i64 n) fun v => some (v, A.put b (.row c' e' md))))) = some (.int .i64 (.ofNat n), A') := by
  obtain ⟨c, e, md, hg, ⟨h1, h2, h3⟩, h4⟩ := rowC_iff.1 h
  refine ⟨_, h4 _ rfl, rowAt_some.2 ⟨c, e, md, hg, ?_⟩⟩
  rw [h1, h2, lover_put h3, natV_eq]; rfl
theorem symCopy_sound {t : TypeId} {A : AW} {d s : Value} {K : Fx → Prop} (h : symCopy P t A d s K) : ∃ (n : Nat) (A' : AW) (s0 : Value), K (.val (tgI .i64 n) A') ∧ copyA P t A d s0 = some (.int .i64 (.ofNat n), A') ∧ (∀ σ s', VR σ s s' → VR σ s0 s') ∧ ∃ a l c, d = .slice (some a) l c := by
  unfold symCopy at h
  simp only [cpo_iff] at h
  obtain ⟨e, he, sz, hsz, h⟩ := h
  split at h
  · rename_i b o len cap
    obtain ⟨s0, h, hs0⟩ := mnWays_some h
    split at h
    · rename_i m cap'
      obtain ⟨h0, h⟩ := cpb_iff.1 h
      rw [beqIff] at h0
      subst h0
      obtain ⟨A', h1, h2⟩ := symPut_some h
      refine ⟨0, A', _, h1, ?_, hs0, _, _, _, rfl⟩
      simp only [copyA, ob_some]
      refine ⟨e, he, sz, hsz, 0, rfl, ?_⟩
      rw [fnat_eq, min_nat, Nat.zero_min, ob_some]
      exact ⟨[], rfl, h2⟩
    · rename_i b2 o2 l cap'
      obtain ⟨c2, e2, md2, hg2, h⟩ := rowC_iff.1 h
      obtain ⟨h0, h⟩ := h _ rfl
      obtain ⟨A', h1, h2⟩ := symPut_some (h _ rfl)
      refine ⟨_, A', _, h1, ?_, hs0, _, _, _, rfl⟩
      simp only [copyA, ob_some]
      refine ⟨e, he, sz, hsz, l, rfl, ?_⟩
      rw [fnat_eq, min_nat, ob_some]
      exact ⟨_, rowAt_some.2 ⟨c2, e2, md2, hg2, lsub_of h0⟩, h2⟩
    · exact h.elim
  · exact h.elim
theorem conv_str {src dst e : TypeId} {a' : Option Addr} {len cap' : Nat} {l' : List Value} {bs : List UInt8} (hsd : P.underlying src = some (.slice e)) (hdd : P.underlying dst = some .string) (hd : P.underlying e = some (.int .u8)) (hbs : omap byteV l' = some bs)
    (hn : a' = none → l' = []) (hs : ∀ a, a' = some a → (loadCells a len).run P w = .ok ⟨l'⟩ w) : (convert src dst (.slice a' len cap')).run P w = .ok (mkStr bs) w := by
  simp only [convert, Sem.run_bind, run_under hsd, run_under hdd, Result.andThen_ok, run_under hd, Conv.bytesToString]
  cases a' with
  | none =>
    have hl0 := hn rfl
    subst hl0
    rw [omap_nil] at hbs; subst hbs
    rfl
  | some a' =>
    simp only [Sem.run_bind, hs _ rfl, Result.andThen_ok]
    rw [← Array.forIn_toList, pushBytes_run _ (fun _ _ => rfl) l' bs .empty w hbs]
    simp only [Result.andThen_ok, Sem.run_pure]
    congr 2
    apply ByteArray.ext
    simp
theorem vrl_bytes {σ : Sg} {xs l' : List Value} (h : VRL σ xs l') : ∀ {bs : List UInt8}, bs.length = xs.length → (∀ (i : Nat) (u : UInt8), bs[i]? = some u → xs[i]? = some (Value.int .u8 u.toNat) ∨ xs[i]? = some (tg (Value.int .u8 u.toNat))) → omap byteV l' = some bs := by
  induction xs generalizing l' with
  | nil =>
    intro bs hl _
    cases h
    have : bs = [] := List.eq_nil_of_length_eq_zero hl
    subst this; rfl
  | cons x xs ih =>
    intro bs hl hb
    cases bs with
    | nil => simp at hl
    | cons u bs =>
      cases h with
      | cons a b =>
        rename_i v' l'
        have h1 : v' = .int .u8 u.toNat := by
          rcases hb 0 u rfl with e | e
          · cases e; exact a.of_flat rfl
          · cases e; exact (VR.sym_inv a).2.of_flat rfl
        subst h1
        rw [omap_cons]
        refine ⟨u, bs, ?_, ih b (by simpa using hl) (fun i w hw => by simpa using hb (i + 1) w (by simpa using hw)), rfl⟩
        rw [byteV_some]
        exact ⟨u.toNat, rfl, by simp⟩
theorem symStrOf_sound {s d : TypeId} {A : AW} {v : Value} {K : Fx → Prop} (h : symStrOf P s d A K v) : ∃ f, K f ∧ ∀ (σ : Sg) (w : World) (v' : Value), Rel P σ A w → VR σ v v' → ∃ x, f = .val x A ∧ Gives P σ A w ((convert s d v').run P w) x A := by
  unfold symStrOf at h
  simp only [cpo_iff] at h
  obtain ⟨e, he, ed, hed, g1⟩ := h
  obtain ⟨hu, g2⟩ := cpb_iff.1 g1
  obtain ⟨sz, hsz, g3⟩ := g2
  obtain ⟨h1, g4⟩ := cpb_iff.1 g3
  obtain ⟨dd, hdd, g5⟩ := g4
  obtain ⟨hst, hF⟩ := cpb_iff.1 g5
  clear g1 g3 g5
  obtain rfl := u8D_eq hu
  obtain rfl := strD_eq hst
  rw [beqIff] at h1
  subst h1
  rw [sliceT_some] at he
  split at hF
  · rename_i n cap
    obtain ⟨h0, hK⟩ := cpb_iff.1 hF
    rw [beqIff] at h0
    subst h0
    refine ⟨_, hK, fun σ w v' hR hx => ⟨_, rfl, mkStr [], σ, w, ?_, .flat rfl, hR, .refl hR.lim⟩⟩
    have hv : v' = .slice none 0 cap := by cases hx with | flat e => rfl
    subst hv
    exact conv_str (l' := []) he hdd hed rfl (fun _ => rfl) (fun a h => by cases h)
  · rename_i b o l cap
    obtain ⟨c, e2, md, hg, hle, bs, ⟨hl, hb⟩, hK⟩ := rowC_iff.1 hF
    refine ⟨_, hK, fun σ w v' hR hx => ⟨_, rfl, mkStr bs, σ, w, ?_, .sym rfl (.flat rfl), hR, .refl hR.lim⟩⟩
    have hsrc : srcA A.heap 1 l (.slice (some ⟨b, o, none⟩) l cap) = some (lwin c o (l * 1)) := rowAt_some.2 ⟨c, e2, md, hg, lsub_of (by show o + l * 1 ≤ c.length; omega)⟩
    obtain ⟨l', hll, hrun⟩ := srcA_run hR hsrc hx
    obtain ⟨b', d', hs, rfl⟩ := hx.slice_inv
    have hs2 : (loadCells ⟨b', o, none⟩ (l * 1)).run P w = .ok ⟨l'⟩ w := hrun w rfl
    rw [Nat.mul_one] at hs2
    refine conv_str (l' := l') he hdd hed ?_ (fun h => by cases h) (fun a h => by cases h; exact hs2)
    refine vrl_bytes hll (by rw [hl]; simp [lwin]; omega) fun i u hu => ?_
    have hi : i < l := by rw [← hl]; exact (List.getElem?_eq_some_iff.1 hu).1
    have := hb i u hu
    unfold Rd at this
    have e : (lwin c o (l * 1))[i]? = c[o + i]? := by
      unfold lwin
      rw [Nat.mul_one, List.getElem?_take_of_lt hi, List.getElem?_drop]
    rw [e]; exact this
  · exact hF.elim
theorem symE_sound {o : Oper} {F : T Value} {A : AW} {K : Fx → Prop} (h : symE P o.op F A K) : ∃ f, K f ∧ FSem P o F A f := by
  obtain ⟨dst, op, ty, pos, after, guard⟩ := o
  have hq : ∀ {op : Op}, cpo (evE op P F A) K → ∃ f, K f ∧ FSem P ⟨dst, op, ty, pos, after, guard⟩ F A f := fun h => ce (o := ⟨dst, _, ty, pos, after, guard⟩) h
  cases op <;> try exact hq h
  case store t x y =>
    have h : cpo (opnd P F x) (fun a => cpo (opnd P F y) fun b => Bool.rec (cpo (evE (.store t x y) P F A) K) (symStore P t A (uval a) b K) (isSym a)) := h
    simp only [cpo_iff] at h
    obtain ⟨a, ha, b, hb, h⟩ := h
    cases hs : isSym a with
    | false => rw [hs] at h; exact hq (cpo_iff.2 h)
    | true =>
      rw [hs] at h
      obtain ⟨A', h1, h2, p, hp⟩ := symStore_sound (show symStore P t A (uval a) b K from h)
      refine ⟨_, h1, fun σ w act hR hO => ?_⟩
      have hx := hO x (by simp [Op.operands]) a ha
      exact (store_run hR h2 (by rw [hp]; exact uval_ptr hx hp) (hO y (by simp [Op.operands]) b hb)).fine
  case makeSlice t l c =>
    have h : twoE (.makeSlice t l c) P F A l c K (fun a b => symMake P t A (uval a) (uval b) K) := h
    simp only [twoE, cpo_iff] at h
    obtain ⟨a, ha, b, hb, h⟩ := h
    cases hs : isSym a || isSym b with
    | false => rw [hs] at h; exact hq (cpo_iff.2 h)
    | true =>
      rw [hs] at h
      obtain ⟨v, A', v0, h1, h2, h3, h4, h5⟩ := symMake_sound (show symMake P t A (uval a) (uval b) K from h)
      refine ⟨_, h1, fun σ w act hR hO => ?_⟩
      have e1 := uval_ibs (hO l (by simp [Op.operands]) a ha) h4
      have e2 := uval_ibs (hO c (by simp [Op.operands]) b hb) h5
      have f1 : VR σ (uval a) (act.eval l) := by rw [e1]; exact .flat (by revert h4; cases uval a <;> intro h4 <;> first | rfl | cases h4)
      have f2 : VR σ (uval b) (act.eval c) := by rw [e2]; exact .flat (by revert h5; cases uval b <;> intro h5 <;> first | rfl | cases h5)
      exact (h3.gives (makeSlice_run hR h2 f1 f2)).fine
  case call c =>
    obtain ⟨cal, ⟨args⟩, ats⟩ := c
    have h : symECall ⟨cal, ⟨args⟩, ats⟩ (.call ⟨cal, ⟨args⟩, ats⟩) P F A K := h
    unfold symECall at h
    split at h
    · rename_i hc
      simp only at hc
      subst hc
      split at h
      · rename_i x y hxy
        simp only at hxy
        subst hxy
        simp only [cpo_iff, lget_eq] at h
        obtain ⟨t, ht, h⟩ := h
        simp only [twoE, cpo_iff] at h
        obtain ⟨a, ha, b, hb, h⟩ := h
        cases hs : isSym a || isSym b with
        | false => rw [hs] at h; exact hq (cpo_iff.2 h)
        | true =>
          rw [hs] at h
          obtain ⟨v, A', v0, s0, x0, h1, h2, h3, h4, h5⟩ := symAppend_sound (show symAppend P t ats.toList[1]? A a b K from h)
          refine ⟨_, h1, fun σ w act hR hO => ?_⟩
          have hx := h4 σ _ (hO x (by simp [Op.operands, Call.operands]) a ha)
          have hy := h5 σ _ (hO y (by simp [Op.operands, Call.operands]) b hb)
          have hg := h3.gives (append_run (ty := ty) hR (by rw [← Array.getElem?_toList]; exact ht) (by rw [← Array.getElem?_toList]) h2 hx hy)
          have := hg.fine
          simp only [execOp, resolve, Sem.run_bind, Sem.run_pure, Result.andThen_ok, invoke]
          rw [map_ops]
          exact this
      · exact h.elim
    · rename_i hc
      simp only at hc
      subst hc
      split at h
      · rename_i x y hxy
        simp only at hxy
        subst hxy
        simp only [cpo_iff, lget_eq] at h
        obtain ⟨t, ht, h⟩ := h
        simp only [twoE, cpo_iff] at h
        obtain ⟨a, ha, b, hb, h⟩ := h
        cases hs : isSym a || isSym b with
        | false => rw [hs] at h; exact hq (cpo_iff.2 h)
        | true =>
          rw [hs] at h
          cases hm : mnB a with
          | some nb => rw [hm] at h; exact False.elim h
          | none =>
          rw [hm] at h
          obtain ⟨n, A', s0, h1, h2, h3, ad, dl, dc, hd⟩ := symCopy_sound (show symCopy P t A (uval a) b K from h)
          refine ⟨_, h1, fun σ w act hR hO => ?_⟩
          have hx := hO x (by simp [Op.operands, Call.operands]) a ha
          have hy := h3 σ _ (hO y (by simp [Op.operands, Call.operands]) b hb)
          have hx2 : VR σ (uval a) (act.eval x) := uval_vr hx hm
          have hg := (show Mk (.int .i64 (.ofNat n)) (tgI .i64 n) from .inr ⟨rfl, rfl⟩).gives (copy_run (ty := ty) hR (by rw [← Array.getElem?_toList]; exact ht) h2 hx2 hy)
          have := hg.fine
          simp only [execOp, resolve, Sem.run_bind, Sem.run_pure, Result.andThen_ok, invoke]
          rw [map_ops]
          exact this
      · exact h.elim
    · exact hq h
  case convert s d x =>
    have h : cpo (opnd P F x) (fun a => Bool.rec (cpo (evE (.convert s d x) P F A) K) (mnWays a (symStrOf P s d A K)) (isSym a && isSliceT P s)) := h
    simp only [cpo_iff] at h
    obtain ⟨a, ha, h⟩ := h
    cases hs : isSym a && isSliceT P s with
    | false => rw [hs] at h; exact hq (cpo_iff.2 h)
    | true =>
      rw [hs] at h
      obtain ⟨y, hy, hvr⟩ := mnWays_some (show mnWays a (symStrOf P s d A K) from h)
      obtain ⟨f, hK, hf⟩ := symStrOf_sound hy
      refine ⟨f, hK, fun σ w act hR hO => ?_⟩
      obtain ⟨u, rfl, hg⟩ := hf σ w _ hR (hvr σ _ (hO x (by simp [Op.operands]) a ha))
      have := hg.fine
      simp only [execOp]
      exact this
end Go.Ev

/- The evaluator with variables: a memory seen in another way: renamed, and less of it. -/
set_option linter.unusedSectionVars false
namespace Go.Ev
variable {P : Program} {σ : Sg} {w : World} [Frozen P]
noncomputable section
def rnm (n0 : Nat) (l : List (Nat × Nat)) (i : Nat) : Option Nat := Bool.rec (List.rec none (fun p _ ih => Bool.rec ih (some p.2) (Nat.beq i p.1)) l) (some i) (Nat.blt i n0)
def rB (r : Nat → Option Nat) (i j : Nat) : Bool := Option.rec false (fun k => Nat.beq k j) (r i)
def usym : Value → Value
  | .iface t v => Bool.rec (.iface t v) v (Nat.beq t SYM)
  | v => v
def wvL (f : Value → Value → Prop) (l : List Value) : List Value → Prop := List.rec (motive := fun _ => List Value → Prop) (fun m => match m with
    | [] => True
    | _ => False)
  (fun x _ ih m => match m with
    | [] => False
    | y :: m => f x y ∧ ih m) l
def wvS (r : Nat → Option Nat) (v u : Value) : Prop := match v with
  | .int k z => match u with
    | .int k' z' => cpb (sameK k k') (z = z')
    | _ => False
  | .bool b => match u with
    | .bool b' => b = b'
    | _ => False
  | .string s => match u with
    | .string s' => s.data.toList = s'.data.toList
    | _ => False
  | .pointer none => match u with
    | .pointer none => True
    | _ => False
  | .pointer (some ⟨i, o, none⟩) => match u with
    | .pointer (some ⟨j, o', none⟩) => cpb (rB r i j) (o = o')
    | _ => False
  | .slice none l c => match u with
    | .slice none l' c' => l = l' ∧ c = c'
    | _ => False
  | .slice (some ⟨i, o, none⟩) l c => match u with
    | .slice (some ⟨j, o', none⟩) l' c' => cpb (rB r i j) (o = o' ∧ l = l' ∧ c = c')
    | _ => False
  | _ => False
def wvM (r : Nat → Option Nat) (nb : Bool) (s u : Value) : Prop := match s with
  | .slice (some ⟨i, o, none⟩) l c => match u with
    | .iface t (.agg ⟨[.bool nb', s']⟩) => cpb (Nat.beq t MN) (nb = nb' ∧ wvS r (.slice (some ⟨i, o, none⟩) l c) s')
    | .slice none l' c' => cpb (Nat.beq l' 0) (cpb (Nat.beq c' 0) (nb = true ∧ l = 0 ∧ c = 0))
    | u => nb = false ∧ wvS r (.slice (some ⟨i, o, none⟩) l c) (usym u)
  | _ => False
def wvMN (r : Nat → Option Nat) (x u : Value) : Prop := match x with
  | .agg ⟨[.bool nb, s]⟩ => wvM r nb s u
  | _ => False
def wvX (x u : Value) : Prop := cpb (isScal x) (match u with
  | .iface t y => cpb (Nat.beq t EXT) (x = y)
  | y => cpb (flat y) (x = y))
def wvUN (x u : Value) : Prop := cpb u.oneCell (match x with
  | .nilIface => True
  | _ => False)
def wvIF (f : Value → Value → Prop) (t : TypeId) (x u : Value) : Prop := match u with
  | .iface t' y => cpb (Nat.blt t SYM) (cpb (Nat.beq t t') (f x y))
  | _ => False
def wv (r : Nat → Option Nat) (n : Nat) : Value → Value → Prop := Nat.rec (motive := fun _ => Value → Value → Prop) (fun _ _ => False) (fun _ ih v u => match v with
  | .map none => match u with
    | .map none => True
    | _ => False
  | .map (some i) => match u with
    | .map (some j) => cpb (rB r i j) True
    | _ => False
  | .nilFunc => match u with
    | .nilFunc => True
    | _ => False
  | .nilIface => match u with
    | .nilIface => True
    | _ => False
  | .func (.func f) a c => match u with
    | .func (.func g) a' c' => cpb (Nat.beq f g) (wvL ih a.toList a'.toList ∧ wvL ih c.toList c'.toList)
    | _ => False
  | .agg a => match u with
    | .agg b => wvL ih a.toList b.toList
    | _ => False
  | .tuple a => match u with
    | .tuple b => wvL ih a.toList b.toList
    | _ => False
  | .iface t x => Bool.rec (Bool.rec (Bool.rec (Bool.rec (wvIF ih t x u) (wvX x u) (Nat.beq t EXT)) (wvUN x u) (Nat.beq t UNK)) (wvMN r x u) (Nat.beq t MN)) (cpb (isScal x) (wvS r x (usym u))) (Nat.beq t SYM)
  | v => wvS r v (usym u)) n
end
theorem rB_iff {r : Nat → Option Nat} {i j : Nat} : rB r i j = true ↔ r i = some j := by
  unfold rB
  cases hr : r i with
  | none => simp
  | some k => simp [beqIff]
theorem usym_vr {u v' : Value} (h : VR σ u v') : VR σ (usym u) v' := by
  cases h with
  | sym s b => exact b
  | any f => exact .any f
  | ext f => exact .ext f
  | mnil a b c => exact .mnil a b c
  | mn a b => exact .mn a b
  | iface hlt b =>
    rename_i t u u'
    have h1 : Nat.beq t SYM = false := by cases hb : Nat.beq t SYM with
      | false => rfl
      | true => rw [beqIff.1 hb] at hlt; exact absurd hlt noSYM
    have : usym (.iface t u) = .iface t u := by simp only [usym, h1]
    rw [this]; exact .iface hlt b
  | flat f => cases u <;> first | (cases f; done) | exact .flat f
  | ptr g => exact .ptr g
  | slice g => exact .slice g
  | map g => exact .map g
  | func a b => exact .func a b
  | agg a => exact .agg a
  | tuple a => exact .tuple a
def Ren (r : Nat → Option Nat) (σ σr : Sg) : Prop := ∀ i j, r i = some j → σr i = σ j
theorem str_ext {s s' : ByteArray} (h : s.data.toList = s'.data.toList) : s = s' := by
  cases s; cases s'
  simp only at h
  rw [Array.toList_inj.1 h]
theorem wvS_vr {r : Nat → Option Nat} {σ σr : Sg} (hr : Ren r σ σr) {v u v' : Value} (h : wvS r v u) (k : VR σ u v') : VR σr v v' := by
  unfold wvS at h
  split at h
  · split at h
    · rw [cpb_iff] at h
      obtain ⟨h1, rfl⟩ := h
      obtain rfl := sameK_eq h1
      rw [k.of_flat rfl]; exact .flat rfl
    · exact h.elim
  · split at h
    · subst h; rw [k.of_flat rfl]; exact .flat rfl
    · exact h.elim
  · split at h
    · obtain rfl := str_ext h; rw [k.of_flat rfl]; exact .flat rfl
    · exact h.elim
  · split at h
    · rw [k.of_flat rfl]; exact .flat rfl
    · exact h.elim
  · split at h
    · rw [cpb_iff, rB_iff] at h
      obtain ⟨h1, rfl⟩ := h
      obtain ⟨b, d, e, rfl⟩ := k.ptr_inv
      exact .ptr ((hr _ _ h1).trans e)
    · exact h.elim
  · split at h
    · obtain ⟨rfl, rfl⟩ := h
      cases k with
      | flat f => exact .flat f
    · exact h.elim
  · split at h
    · rw [cpb_iff, rB_iff] at h
      obtain ⟨h1, rfl, rfl, rfl⟩ := h
      obtain ⟨b, d, e, rfl⟩ := k.slice_inv
      exact .slice ((hr _ _ h1).trans e)
    · exact h.elim
  · exact h.elim
theorem mn_inv {t : Nat} {nb : Bool} {s v' : Value} (h : VR σ (.iface t (.agg ⟨[.bool nb, s]⟩)) v') (ht : t = MN) : ∃ i o l c, s = .slice (some ⟨i, o, none⟩) l c ∧ ((nb = true ∧ l = 0 ∧ c = 0 ∧ v' = .slice none 0 0) ∨ (nb = false ∧ ∃ b d, σ i = some (b, d) ∧ v' = .slice (some ⟨b, o, none⟩) l (c + d))) := by
  subst ht
  cases h with
  | mnil a b c => exact ⟨_, _, _, _, rfl, .inl ⟨a, b, c, rfl⟩⟩
  | mn a b => exact ⟨_, _, _, _, rfl, .inr ⟨a, _, _, b, rfl⟩⟩
  | iface hlt _ => exact absurd hlt noMN
  | flat f => cases f
theorem wvM_vr {r : Nat → Option Nat} {σ σr : Sg} (hr : Ren r σ σr) {nb : Bool} {s u v' : Value} (h : wvM r nb s u) (k : VR σ u v') : VR σr (.iface MN (.agg ⟨[.bool nb, s]⟩)) v' := by
  have known : ∀ {i o l c : Nat} {x : Value}, wvS r (.slice (some ⟨i, o, none⟩) l c) x → VR σ x v' → nb = false → VR σr (.iface MN (.agg ⟨[.bool nb, .slice (some ⟨i, o, none⟩) l c]⟩)) v' := fun h1 k1 e => by
    obtain ⟨b, d, e1, rfl⟩ := (wvS_vr hr h1 k1).slice_inv
    exact .mn e e1
  unfold wvM at h
  split at h
  · split at h
    · rename_i t nb' s'
      rw [cpb_iff, beqIff] at h
      obtain ⟨ht, rfl, h⟩ := h
      obtain ⟨i', o', l', c', rfl, hh⟩ := mn_inv k ht
      have h : cpb (rB r _ i') (_ = o' ∧ _ = l' ∧ _ = c') := h
      rw [cpb_iff, rB_iff] at h
      obtain ⟨h1, rfl, rfl, rfl⟩ := h
      rcases hh with ⟨e1, e2, e3, rfl⟩ | ⟨e1, b, d, e2, rfl⟩
      · exact .mnil e1 e2 e3
      · exact .mn e1 ((hr _ _ h1).trans e2)
    · rw [cpb_iff, cpb_iff, beqIff, beqIff] at h
      obtain ⟨rfl, rfl, h1, h2, h3⟩ := h
      rw [k.of_flat rfl]; exact .mnil h1 h2 h3
    · exact known h.2 (usym_vr k) h.1
  · exact h.elim
theorem wvL_vr {r : Nat → Option Nat} {σ σr : Sg} {f : Value → Value → Prop} (hf : ∀ v u v', f v u → VR σ u v' → VR σr v v') : ∀ {l m l' : List Value}, wvL f l m → VRL σ m l' → VRL σr l l' := by
  intro l
  induction l with
  | nil => intro m l' h k; cases m with
    | nil => cases k; exact .nil
    | cons => exact False.elim h
  | cons x l ih =>
    intro m l' h k
    cases m with
    | nil => exact False.elim h
    | cons y m =>
      have h : f x y ∧ wvL f l m := h
      cases k with
      | cons a b => exact .cons (hf _ _ _ h.1 a) (ih h.2 b)
theorem wvX_vr {σ' : Sg} {x u v' : Value} (h : wvX x u) (k : VR σ u v') : VR σ' (.iface EXT x) v' := by
  unfold wvX at h
  rw [cpb_iff] at h
  obtain ⟨hs, h⟩ := h
  split at h
  · rename_i t y
    rw [cpb_iff, beqIff] at h
    obtain ⟨rfl, rfl⟩ := h
    cases k with
    | flat f => cases f
    | iface e _ => exact absurd e noEXT
    | ext _ => exact .ext hs
  · rw [cpb_iff] at h
    obtain ⟨hf, rfl⟩ := h
    rw [k.of_flat hf]; exact .ext hs
theorem wv_vr {r : Nat → Option Nat} {σ σr : Sg} (hr : Ren r σ σr) : ∀ (n : Nat) (v u v' : Value), wv r n v u → VR σ u v' → VR σr v v' := by
  intro n
  induction n with
  | zero => intro v u v' h; exact h.elim
  | succ n ih =>
    intro v u v' h k
    cases v with
    | map i =>
      cases i with
      | none =>
        cases u <;> try exact False.elim h
        rename_i j
        cases j with
        | none => rw [k.of_flat rfl]; exact .flat rfl
        | some j => exact False.elim h
      | some i =>
        cases u <;> try exact False.elim h
        rename_i j
        cases j with
        | none => exact False.elim h
        | some j =>
          have h : cpb (rB r i j) True := h
          rw [cpb_iff, rB_iff] at h
          obtain ⟨b, d, e, rfl⟩ := k.map_inv
          exact .map ((hr _ _ h.1).trans e)
    | nilFunc => cases u <;> first | exact False.elim h | (rw [k.of_flat rfl]; exact .flat rfl)
    | nilIface => cases u <;> first | exact False.elim h | (rw [k.of_flat rfl]; exact .flat rfl)
    | func fn a c =>
      cases fn with
      | func f =>
        cases u <;> try exact False.elim h
        rename_i g a' c'
        cases g <;> try exact False.elim h
        rename_i g
        have h : cpb (Nat.beq f g) (wvL (wv r n) a.toList a'.toList ∧ wvL (wv r n) c.toList c'.toList) := h
        rw [cpb_iff, beqIff] at h
        obtain ⟨rfl, h1, h2⟩ := h
        cases k with
        | flat e => cases e
        | func x y => exact .func (wvL_vr (r := r) ih h1 x) (wvL_vr (r := r) ih h2 y)
      | _ => exact False.elim h
    | agg a =>
      cases u <;> try exact False.elim h
      rename_i b
      obtain ⟨b⟩ := b
      have h : wvL (wv r n) a.toList b := h
      obtain ⟨c', hc, rfl⟩ := k.agg_inv
      exact .agg (wvL_vr (r := r) ih h hc)
    | tuple a =>
      cases u <;> try exact False.elim h
      rename_i b
      obtain ⟨b⟩ := b
      have h : wvL (wv r n) a.toList b := h
      obtain ⟨c', hc, rfl⟩ := k.tuple_inv
      exact .tuple (wvL_vr (r := r) ih h hc)
    | iface t x =>
      have h : (Bool.rec (Bool.rec (Bool.rec (Bool.rec (wvIF (wv r n) t x u) (wvX x u) (Nat.beq t EXT)) (wvUN x u) (Nat.beq t UNK)) (wvMN r x u) (Nat.beq t MN)) (cpb (isScal x) (wvS r x (usym u))) (Nat.beq t SYM) : Prop) := h
      cases h1 : Nat.beq t SYM with
      | true =>
        rw [h1] at h
        have h5 := cpb_iff.1 (show cpb (isScal x) (wvS r x (usym u)) from h)
        rw [beqIff] at h1; subst h1
        exact .sym h5.1 (wvS_vr hr h5.2 (usym_vr k))
      | false =>
        rw [h1] at h
        cases h2 : Nat.beq t MN with
        | true =>
          rw [h2] at h
          rw [beqIff] at h2; subst h2
          have h : wvMN r x u := h
          unfold wvMN at h
          split at h
          · exact wvM_vr hr h k
          · exact h.elim
        | false =>
          rw [h2] at h
          cases h3 : Nat.beq t UNK with
          | true =>
            rw [h3] at h
            rw [beqIff] at h3; subst h3
            have h : wvUN x u := h
            unfold wvUN at h
            rw [cpb_iff] at h
            obtain ⟨ho, h⟩ := h
            split at h
            · exact .any trivial
            · exact h.elim
          | false =>
            rw [h3] at h
            cases h4 : Nat.beq t EXT with
            | true =>
              rw [h4] at h
              have h : wvX x u := h
              rw [beqIff] at h4; subst h4
              exact wvX_vr h k
            | false =>
            rw [h4] at h
            have h5 : wvIF (wv r n) t x u := h
            clear h
            unfold wvIF at h5
            split at h5
            · rw [cpb_iff, cpb_iff, beqIff] at h5
              obtain ⟨hlt, rfl, h6⟩ := h5
              cases k with
              | flat f => cases f
              | iface _ b => exact .iface hlt (ih _ _ _ h6 b)
              | sym => exact absurd hlt noSYM
              | any => exact absurd hlt noUNK
              | ext => exact absurd hlt noEXT
              | mnil => exact absurd hlt noMN
              | mn => exact absurd hlt noMN
            · exact h5.elim
    | _ => exact wvS_vr hr h (usym_vr k)
end Go.Ev
