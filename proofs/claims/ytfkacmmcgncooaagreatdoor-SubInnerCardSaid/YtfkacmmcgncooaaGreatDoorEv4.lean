/- The evaluator with variables: every quiet operation is so. -/
import Derived.Test.YtfkacmmcgncooaaGreatDoorEv3
set_option linter.unusedSectionVars false
namespace Go.Ev
variable {P : Program} {σ : Sg} {w : World} [Frozen P]
theorem uval_ibs {v v' : Value} (h : VR σ v v') (e : ibs (uval v) = true) : v' = uval v := by
  cases hq : uval v <;> rw [hq] at e <;> first | (cases e; done) | skip
  · exact uval_bool h hq
  · exact uval_int h hq
  · exact uval_str h hq
theorem mnB_inv {v v' : Value} {nb : Bool} (h : VR σ v v') (e : mnB v = some nb) : (nb = true ∧ v' = .slice none 0 0) ∨ (nb = false ∧ ∃ a l c, v' = .slice (some a) l c) := by
  cases h with
  | mnil e1 e2 e3 => cases e; exact .inl ⟨e1, rfl⟩
  | mn e1 _ => cases e; exact .inr ⟨e1, _, _, _, rfl⟩
  | sym => cases e
  | any => cases e
  | iface hlt b =>
    rename_i t u u'
    have h2 : Nat.beq t MN = false := by cases hb : Nat.beq t MN with
      | false => rfl
      | true => rw [beqIff.1 hb] at hlt; exact absurd hlt noMN
    simp only [mnB, h2] at e; cases e
  | flat f => cases v <;> first | (cases f; done) | (cases e; done)
  | _ => cases e
theorem nilV_inv {v v' : Value} (h : VR σ v v') (e : nilV v = true) : v' = .slice none 0 0 := by
  unfold nilV at e
  split at e
  · exact h.of_flat rfl
  · cases e
theorem sliceK_inv {t : TypeId} (h : sliceK P t = true) : ∃ e, P.underlying t = some (.slice e) := by
  unfold sliceK at h
  cases hd : P.underlying t with
  | none => rw [hd] at h; cases h
  | some d => rw [hd] at h; cases d <;> first | (cases h; done) | exact ⟨_, rfl⟩
theorem nil_run {t e : TypeId} {xo yo : Operand} (ht : P.underlying t = some (.slice e)) (a : Option Addr) (l c : Nat) (w : World) (op : BinOp) (b : Bool) (hb : (op = .eql ∧ b = a.isNone) ∨ (op = .neq ∧ b = !a.isNone)) :
    (do eqGuard op t xo yo (.slice a l c) (.slice none 0 0); binOp op t (.slice a l c) (.slice none 0 0)).run P w = .ok (.bool b) w := by
  have he : (Op.equal t (.slice a l c) (.slice none 0 0)).run P w = .ok a.isNone w := by
    obtain ⟨N, hN⟩ := equal_eq
    rw [hN]
    cases a <;> simp [Op.equalIn, run_under ht]
  have hg : (eqGuard op t xo yo (.slice a l c) (.slice none 0 0)).run P w = .ok () w := eqGuard_plain (by simp) (by simp) w
  have h2 := binOp_eql (P := P) (t := t) (x := .slice a l c) (y := .slice none 0 0) rfl _ w he
  rcases hb with ⟨rfl, rfl⟩ | ⟨rfl, rfl⟩
  · simp [hg, h2.1]
  · simp [hg, h2.2]
theorem cq {o : Oper} {F : T Value} {A : AW} {K : Value → Prop} (h : cpo (evQ o.op P F A.heap) K) : ∃ v, K v ∧ QSem P o F A v := by
  rw [cpo_iff] at h
  obtain ⟨v, h1, h2⟩ := h
  exact ⟨v, h2, .of h1⟩
theorem mm_run {b : Builtin} (hb : b = .min ∨ b = .max) {j k : IntKind} {m n : Int} {ats : List TypeId} {ty : TypeId} {cs : Array Bool} (w : World) : (builtin b ⟨ats⟩ ty cs ⟨[.int j m, .int k n]⟩).run P w = .ok (.value (.int j (mmOf b m n))) w := by
  rcases hb with rfl | rfl
  · have : (Builtin.min_ ⟨ats⟩ ty ⟨[.int j m, .int k n]⟩).run P w = .ok (.int j (min m n)) w := by
      simp only [Builtin.min_, List.foldlM_cons, List.foldlM_nil, Builtin.min2, Sem.run_bind, Sem.run_pure, Result.andThen_ok]
      congr 2
      rw [Int.min_def]; split <;> split <;> omega
    simp only [builtin, Sem.run_bind, this, Result.andThen_ok, Sem.run_pure, mmOf]
  · have : (Builtin.max_ ⟨ats⟩ ty ⟨[.int j m, .int k n]⟩).run P w = .ok (.int j (max m n)) w := by
      simp only [Builtin.max_, List.foldlM_cons, List.foldlM_nil, Builtin.max2, Sem.run_bind, Sem.run_pure, Result.andThen_ok]
      congr 2
      rw [Int.max_def]; split <;> split <;> omega
    simp only [builtin, Sem.run_bind, this, Result.andThen_ok, Sem.run_pure, mmOf]
theorem mm_run4 {b : Builtin} (hb : b = .min ∨ b = .max) {j k k2 k3 : IntKind} {m n o q : Int} {ats : List TypeId} {ty : TypeId} {cs : Array Bool} (w : World) : (builtin b ⟨ats⟩ ty cs ⟨[.int j m, .int k n, .int k2 o, .int k3 q]⟩).run P w = .ok (.value (.int j (mmOf b (mmOf b (mmOf b m n) o) q))) w := by
  have mn : ∀ (j k : IntKind) (m n : Int), (Builtin.min2 (.int j m) (.int k n)).run P w = .ok (.int j (min m n)) w := fun j k m n => by
    simp only [Builtin.min2, Sem.run_pure]
    congr 2
    rw [Int.min_def]; split <;> split <;> omega
  have mx : ∀ (j k : IntKind) (m n : Int), (Builtin.max2 (.int j m) (.int k n)).run P w = .ok (.int j (max m n)) w := fun j k m n => by
    simp only [Builtin.max2, Sem.run_pure]
    congr 2
    rw [Int.max_def]; split <;> split <;> omega
  rcases hb with rfl | rfl
  · have : (Builtin.min_ ⟨ats⟩ ty ⟨[.int j m, .int k n, .int k2 o, .int k3 q]⟩).run P w = .ok (.int j (min (min (min m n) o) q)) w := by
      simp only [Builtin.min_, List.foldlM_cons, List.foldlM_nil, Sem.run_bind, Sem.run_pure, Result.andThen_ok, mn]
    simp only [builtin, Sem.run_bind, this, Result.andThen_ok, Sem.run_pure, mmOf]
  · have : (Builtin.max_ ⟨ats⟩ ty ⟨[.int j m, .int k n, .int k2 o, .int k3 q]⟩).run P w = .ok (.int j (max (max (max m n) o) q)) w := by
      simp only [Builtin.max_, List.foldlM_cons, List.foldlM_nil, Sem.run_bind, Sem.run_pure, Result.andThen_ok, mx]
    simp only [builtin, Sem.run_bind, this, Result.andThen_ok, Sem.run_pure, mmOf]
theorem symMM_some {b : Builtin} {vs : List Value} {K : Value → Prop} (h : symMM b vs K) : (∃ x y j k m n, vs = [x, y] ∧ uval x = .int j m ∧ uval y = .int k n ∧ K (tgI j (mmOf b m n))) ∨
    ∃ x y z u j k k2 k3 m n o q, vs = [x, y, z, u] ∧ uval x = .int j m ∧ uval y = .int k n ∧ uval z = .int k2 o ∧ uval u = .int k3 q ∧ K (tgI j (mmOf b (mmOf b (mmOf b m n) o) q)) := by
  unfold symMM at h
  split at h
  · rename_i x y
    split at h
    · split at h
      · exact .inl ⟨_, _, _, _, _, _, rfl, by assumption, by assumption, h _ rfl⟩
      · exact h.elim
    · exact h.elim
  · rename_i x y z u
    split at h
    · split at h
      · split at h
        · split at h
          · exact .inr ⟨_, _, _, _, _, _, _, _, _, _, _, _, rfl, by assumption, by assumption, by assumption, by assumption, h _ rfl⟩
          · exact h.elim
        · exact h.elim
      · exact h.elim
    · exact h.elim
  · exact h.elim
theorem uval_vr {v v' : Value} (h : VR σ v v') (e : mnB v = none) : VR σ (uval v) v' := by
  cases h with
  | sym s b => exact b
  | any f => exact .any f
  | emp f => exact .emp f
  | ext f => exact .ext f
  | exl f => exact .exl f
  | mnil => cases e
  | mn => cases e
  | iface hlt b =>
    rename_i t u u'
    have h1 : Nat.beq t SYM = false := by cases hb : Nat.beq t SYM with
      | false => rfl
      | true => rw [beqIff.1 hb] at hlt; exact absurd hlt noSYM
    have h2 : Nat.beq t MN = false := by cases hb : Nat.beq t MN with
      | false => rfl
      | true => rw [beqIff.1 hb] at hlt; exact absurd hlt noMN
    have : uval (.iface t u) = .iface t u := by simp only [uval, h1, h2]
    rw [this]; exact .iface hlt b
  | flat f => cases v <;> first | (cases f; done) | exact .flat f
  | ptr g => exact .ptr g
  | slice g => exact .slice g
  | map g => exact .map g
  | func a b => exact .func a b
  | agg a => exact .agg a
  | tuple a => exact .tuple a
theorem mn_slice {v v' : Value} {b : Bool} (h : VR σ v v') (e : mnB v = some b) (hb : b = false) : VR σ (uval v) v' := by
  cases h with
  | mnil e1 => cases e; rw [e1] at hb; cases hb
  | mn _ g => exact .slice g
  | sym => cases e
  | any => cases e
  | iface hlt b =>
    rename_i t u u'
    have h2 : Nat.beq t MN = false := by cases hb : Nat.beq t MN with
      | false => rfl
      | true => rw [beqIff.1 hb] at hlt; exact absurd hlt noMN
    simp only [mnB, h2] at e; cases e
  | flat f => cases v <;> first | (cases f; done) | (cases e; done)
  | _ => cases e
theorem mnWays_some {v : Value} {f : Value → Prop} (h : mnWays v f) : ∃ y, f y ∧ ∀ σ v', VR σ v v' → VR σ y v' := by
  unfold mnWays at h
  cases hm : mnB v with
  | none => rw [hm] at h; exact ⟨_, h, fun σ v' hv => uval_vr hv hm⟩
  | some b =>
    rw [hm] at h
    have h : (b = true → f (.slice none 0 0)) ∧ (b = false → f (uval v)) := h
    cases b with
    | true =>
      refine ⟨_, h.1 rfl, fun σ v' hv => ?_⟩
      rcases mnB_inv hv hm with ⟨_, rfl⟩ | ⟨e, _⟩
      · exact .flat rfl
      · cases e
    | false => exact ⟨_, h.2 rfl, fun σ v' hv => mn_slice hv hm rfl⟩
theorem uval_some {v v' : Option Value} (h : OVR σ v v') {d z : Int} (e : numO d v = some z) : (v = none ∧ v' = none ∧ z = d) ∨ (∃ k, v' = some (.int k z)) := by
  cases h with
  | none => left; exact ⟨rfl, rfl, by cases e; rfl⟩
  | some h =>
    rename_i a b
    right
    have e : (match uval a with
      | .int _ z => some z
      | _ => none) = some z := e
    split at e
    · rename_i k z' hu
      cases e
      exact ⟨k, by rw [uval_int h hu]⟩
    · cases e
theorem symSlice_sound {t : TypeId} {A : AW} {x x' : Value} {lo lo' hi hi' : Option Value} (hR : Rel P σ A w) (hx : VR σ x x') (hlo : OVR σ lo lo') (hhi : OVR σ hi hi') {v : Value} (h : symSlice P A.heap t lo hi (fun u => u = v) x) :
    ∃ u', VR σ v u' ∧ (Instr.sliceAt t x' lo' hi' none).run P w = .ok u' w := by
  unfold symSlice at h
  rw [cpo_iff] at h
  obtain ⟨d, hd, h⟩ := h
  cases d <;> try exact h.elim
  case slice e =>
    cases x <;> try exact h.elim
    case slice a len cap =>
      simp only [cpo_iff] at h
      obtain ⟨n, hn, l, hl, hh, hhh, h⟩ := h
      -- the bounds as they are
      have hlo0 : OVR σ lo' lo' := by
        rcases uval_some hlo hl with ⟨_, e, _⟩ | ⟨k, e⟩ <;> rw [e]
        · exact .none
        · exact .some (.flat rfl)
      have hhi0 : OVR σ hi' hi' := by
        rcases uval_some hhi hhh with ⟨_, e, _⟩ | ⟨k, e⟩ <;> rw [e]
        · exact .none
        · exact .some (.flat rfl)
      have hup : ∀ m : Nat, 0 ≤ l → l ≤ m → uptoOr lo' m 0 = some l.toNat := fun m h0 h1 => by
        rcases uval_some hlo hl with ⟨_, e, e2⟩ | ⟨k, e⟩ <;> rw [e]
        · rw [e2]; rfl
        · show upto _ _ = _
          rw [upto_some]; exact ⟨⟨k, by simp [Int.toNat_of_nonneg h0]⟩, by omega⟩
      have hup2 : ∀ m : Nat, 0 ≤ hh → hh ≤ m → uptoOr hi' m len = some hh.toNat := fun m h0 h1 => by
        rcases uval_some hhi hhh with ⟨_, e, e2⟩ | ⟨k, e⟩ <;> rw [e]
        · rw [e2]; show some len = _; simp
        · show upto _ _ = _
          rw [upto_some]; exact ⟨⟨k, by simp [Int.toNat_of_nonneg h0]⟩, by omega⟩
      cases a with
      | some ad =>
        obtain ⟨b, o, sp⟩ := ad
        cases sp with
        | some _ => exact h.elim
        | none =>
        have h : symSl A.heap n b o len cap l hh (fun u => u = v) := h
        unfold symSl at h
        rw [cpo_iff] at h
        obtain ⟨ob', hg, h⟩ := h
        cases ob' <;> try exact h.elim
        case row c e' m =>
          obtain ⟨⟨⟨h1, h2, h3⟩, h4⟩, h5⟩ := h
          have hv := h5 _ _ _ rfl rfl rfl
          subst hv
          have hb : boundsA len (Bool.rec cap len m.roomy) lo' hi' = some (l.toNat, hh.toNat) := by
            have hm : hh ≤ ((Bool.rec cap len m.roomy : Nat) : Int) := by
              cases hr : m.roomy with
              | false => exact h3
              | true => exact (h4 hr).1
            unfold boundsA
            rw [hup2 _ (by omega) hm]
            show ob (uptoOr lo' hh.toNat 0) _ = _
            rw [hup _ h1 (by omega)]
            rfl
          have hs : sliceA P A.heap t (.slice (some ⟨b, o, none⟩) len cap) lo' hi' none = some (.slice (some ⟨b, if cap = l.toNat then o else o + l.toNat * n, none⟩) (hh.toNat - l.toNat) (cap - l.toNat)) := by
            unfold sliceA
            rw [hd]
            show (ob (sizeA P e) fun n => ob (A.heap.get b) fun x => AO.rec (fun c e m => slice2 m.roomy b o len cap n lo' hi') (fun _ _ => none) none x) = _
            rw [hn]
            show (ob (A.heap.get b) fun x => AO.rec (fun c e m => slice2 m.roomy b o len cap n lo' hi') (fun _ _ => none) none x) = _
            rw [hg]
            show slice2 m.roomy b o len cap n lo' hi' = _
            unfold slice2
            rw [hb]
            show bt (Nat.ble hh.toNat cap) (Bool.rec (bt (Nat.beq hh.toNat l.toNat) (some empV)) (cutAt b o l.toNat n cap (Nat.sub hh.toNat l.toNat)) (sliceOk m.roomy l.toNat cap)) = _
            rw [cutAt_eq]
            refine bt_some.2 ⟨bleIff.2 (by omega), ?_⟩
            suffices hso : sliceOk m.roomy l.toNat cap = true by rw [hso]; rfl
            cases hr : m.roomy with
            | false => rfl
            | true =>
              rcases (h4 hr).2 with e0 | e0
              · rw [e0]; rfl
              · cases hq : l.toNat with
                | zero => rfl
                | succ k => exact blt_iff.2 (by omega)
          obtain ⟨u', k1, k2⟩ := sliceA_run hR hs hx hlo0 hhi0 .none
          exact ⟨u', .sym rfl k1, k2⟩
      | none =>
        have h : cpb (Nat.beq (Nat.add len cap) 0) ((l = 0 ∧ hh = 0) ∧ Value.slice none 0 0 = v) := h
        obtain ⟨hz, ⟨h1, h2⟩, hv⟩ := cpb_iff.1 h
        subst hv h1 h2
        rw [beqIff] at hz
        have hz' : len + cap = 0 := hz
        obtain ⟨rfl, rfl⟩ : len = 0 ∧ cap = 0 := ⟨by omega, by omega⟩
        have hs : sliceA P A.heap t (.slice none 0 0) lo' hi' none = some (.slice none 0 0) := by
          unfold sliceA
          rw [hd]
          show (ob (sizeA P e) fun n => ob (ob (uptoOr hi' 0 0) fun h => ob (uptoOr lo' h 0) fun l => some (l, h)) fun _ => some (Value.slice none 0 0)) = _
          rw [hn]
          show (ob (ob (uptoOr hi' 0 0) fun h => ob (uptoOr lo' h 0) fun l => some (l, h)) fun _ => some (Value.slice none 0 0)) = _
          rw [hup2 0 (by omega) (by omega)]
          show (ob (ob (uptoOr lo' 0 0) fun l => some (l, 0)) fun _ => some (Value.slice none 0 0)) = _
          rw [hup 0 (by omega) (by omega)]
          rfl
        exact sliceA_run hR hs hx hlo0 hhi0 .none
theorem symSlice_one {t : TypeId} {H : T AO} {x : Value} {lo hi : Option Value} {K : Value → Prop} (h : symSlice P H t lo hi K x) : ∃ v, K v ∧ symSlice P H t lo hi (fun u => u = v) x := by
  unfold symSlice at h ⊢
  rw [cpo_iff] at h
  obtain ⟨d, hd, h⟩ := h
  simp only [hd, cpo]
  cases d <;> try exact h.elim
  case slice e =>
    cases x <;> try exact h.elim
    case slice a len cap =>
      simp only [cpo_iff] at h
      obtain ⟨n, hn, l, hl, hh, hhh, h⟩ := h
      simp only [hn, hl, hhh]
      cases a with
      | some ad =>
        obtain ⟨b, o, sp⟩ := ad
        cases sp with
        | some _ => exact h.elim
        | none =>
          have h : symSl H n b o len cap l hh K := h
          unfold symSl at h
          rw [cpo_iff] at h
          obtain ⟨ob', hg, h⟩ := h
          cases ob' <;> try exact h.elim
          case row c e' m =>
            obtain ⟨h1, h2⟩ := h
            refine ⟨_, h2 _ _ _ rfl rfl rfl, ?_⟩
            show symSl H n b o len cap l hh _
            unfold symSl
            exact cpo_iff.2 ⟨_, hg, h1, fun p q c e1 e2 e3 => by rw [e1, e2, e3]⟩
      | none =>
        obtain ⟨h0, h1, h2⟩ := cpb_iff.1 h
        exact ⟨_, h2, cpb_iff.2 ⟨h0, h1, rfl⟩⟩
theorem symQ0_sound {o : Oper} {F : T Value} {A : AW} {K : Value → Prop} (h : symQ0 P o.op F A.heap K) : ∃ v, K v ∧ QSem P o F A v := by
  obtain ⟨dst, op, ty, pos, after, guard⟩ := o
  have hq : ∀ {op : Op}, cpo (evQ op P F A.heap) K → ∃ v, K v ∧ QSem P ⟨dst, op, ty, pos, after, guard⟩ F A v := fun h => cq (o := ⟨dst, _, ty, pos, after, guard⟩) h
  cases op <;> try exact hq h
  case binOp op t x y yt =>
    have h : cpo (opnd P F x) (fun a => cpo (opnd P F y) fun b => Bool.rec (Bool.rec (cpo (evQ (.binOp op t x y yt) P F A.heap) K) (symB P op t a b K) (isSym a || isSym b)) (symAgg P op t a b K) (symCells a || symCells b)) := h
    simp only [cpo_iff] at h
    obtain ⟨a, ha, b, hb, h⟩ := h
    cases hcl : symCells a || symCells b with
    | true =>
      rw [hcl] at h
      obtain ⟨r, h1, h2⟩ := symAgg_sound (xo := x) (yo := y) (show symAgg P op t a b K from h)
      refine ⟨_, h1, fun σ w act hR hO => ⟨.bool r, .flat rfl, ?_⟩⟩
      have := h2 σ w _ _ (hO x (by simp [Op.operands]) a ha) (hO y (by simp [Op.operands]) b hb)
      simp only [execOp, Sem.run_bind] at this ⊢
      rw [this]; rfl
    | false =>
    rw [hcl] at h
    have h : (Bool.rec (∃ v, evQ (.binOp op t x y yt) P F A.heap = some v ∧ K v) (symB P op t a b K) (isSym a || isSym b) : Prop) := h
    cases hs : isSym a || isSym b with
    | false => rw [hs] at h; exact hq (cpo_iff.2 h)
    | true =>
      rw [hs] at h
      have h : symB P op t a b K := h
      unfold symB at h
      cases hm : mnB a with
      | none =>
        rw [hm] at h
        obtain ⟨v, h1, h2, h3, h4⟩ := symBin_sound (xo := x) (yo := y) (show symBin P op t (uval a) (uval b) K from h)
        refine ⟨v, h1, fun σ w act hR hO => ?_⟩
        obtain ⟨u, k1, k2⟩ := h2 σ w
        refine ⟨u, k1, ?_⟩
        have e1 := uval_ibs (hO x (by simp [Op.operands]) a ha) h3
        have e2 := uval_ibs (hO y (by simp [Op.operands]) b hb) h4
        simp only [execOp, Sem.run_bind] at k2 ⊢
        rw [e1, e2, k2]; rfl
      | some nb =>
        rw [hm] at h
        have h : cpb (nilV b) (symNil P op t nb K) := h
        rw [cpb_iff] at h
        obtain ⟨hn, h⟩ := h
        unfold symNil at h
        rw [cpb_iff] at h
        obtain ⟨hk, h⟩ := h
        obtain ⟨e, ht⟩ := sliceK_inv hk
        have fin : ∀ r : Bool, K (.bool r) → (op = .eql ∧ r = nb ∨ op = .neq ∧ r = !nb) → ∃ v, K v ∧ QSem P ⟨dst, .binOp op t x y yt, ty, pos, after, guard⟩ F A v := fun r hKr hr => by
          refine ⟨_, hKr, fun σ w act hR hO => ⟨.bool r, .flat rfl, ?_⟩⟩
          have e2 := nilV_inv (hO y (by simp [Op.operands]) b hb) hn
          rcases mnB_inv (hO x (by simp [Op.operands]) a ha) hm with ⟨e0, e1⟩ | ⟨e0, a', l, c, e1⟩
          · have := nil_run (xo := x) (yo := y) ht none 0 0 w op r (by rw [e0] at hr; exact hr)
            simp only [execOp, Sem.run_bind] at this ⊢
            rw [e1, e2, this]; rfl
          · have := nil_run (xo := x) (yo := y) ht (some a') l c w op r (by rw [e0] at hr; exact hr)
            simp only [execOp, Sem.run_bind] at this ⊢
            rw [e1, e2, this]; rfl
        cases op with
        | eql => cases nb with
          | true => exact fin true (h.1 rfl) (.inl ⟨rfl, rfl⟩)
          | false => exact fin false (h.2 rfl) (.inl ⟨rfl, rfl⟩)
        | neq => cases nb with
          | true => exact fin false (h.1 rfl) (.inr ⟨rfl, rfl⟩)
          | false => exact fin true (h.2 rfl) (.inr ⟨rfl, rfl⟩)
        | _ => exact False.elim h
  case sliceToArrayPointer t x =>
    have h : cpo (opnd P F x) (fun a => Bool.rec (cpo (evQ (.sliceToArrayPointer t x) P F A.heap) K) (Option.rec (symArr P t (uval a) K) (fun _ => False) (mnB a)) (isSym a)) := h
    simp only [cpo_iff] at h
    obtain ⟨a, ha, h⟩ := h
    cases hs : isSym a with
    | false => rw [hs] at h; exact hq (cpo_iff.2 h)
    | true =>
      rw [hs] at h
      cases hm : mnB a with
      | some nb => rw [hm] at h; exact False.elim h
      | none =>
        rw [hm] at h
        have h : symArr P t (uval a) K := h
        unfold symArr at h
        rw [cpo_iff] at h
        obtain ⟨q, hqq, h⟩ := h
        split at h
        · rename_i ad len cap hu
          obtain ⟨hle, hK⟩ := h
          refine ⟨_, hK, fun σ w act hR hO => ?_⟩
          have hx := uval_vr (hO x (by simp [Op.operands]) a ha) hm
          rw [hu] at hx
          have ht : P.underlying t = some (.array q.1 q.2) := arrayT_some.1 hqq
          generalize hE : act.eval x = u at hx
          cases hx with
          | flat e => simp [flat] at e
          | slice e1 =>
            refine ⟨_, .sym rfl (.ptr e1), ?_⟩
            simp only [execOp, hE, Instr.arrayAt, Sem.run_bind, run_under ht, Result.andThen_ok]
            rw [if_neg (by omega)]
            rfl
        · exact h.elim
  case unOp op t x =>
    have h : one (.unOp op t x) P F A.heap x K (fun a => symUn op a K) := h
    simp only [one, cpo_iff] at h
    obtain ⟨a, ha, h⟩ := h
    cases hs : isSym a with
    | false => rw [hs] at h; exact hq (cpo_iff.2 h)
    | true =>
      rw [hs] at h
      obtain ⟨u, h1, h2, x', h3, h4⟩ := symUn_sound (P := P) (show symUn op (uval a) K from h)
      refine ⟨u, h1, fun σ w act hR hO => ⟨x', h3 σ, ?_⟩⟩
      have e1 := uval_ibs (hO x (by simp [Op.operands]) a ha) (by rcases h2 with ⟨k, n, e⟩ | ⟨b, e⟩ <;> rw [e] <;> rfl)
      simp [execOp, e1, h4 w]
  case convert s d x =>
    have h : one (.convert s d x) P F A.heap x K (fun a => symConv P s d a K) := h
    simp only [one, cpo_iff] at h
    obtain ⟨a, ha, h⟩ := h
    cases hs : isSym a with
    | false => rw [hs] at h; exact hq (cpo_iff.2 h)
    | true =>
      rw [hs] at h
      have h : symConv P s d (uval a) K := h
      unfold symConv at h
      split at h
      · rename_i k n hu
        simp only [cpo_iff, ob_some] at h
        obtain ⟨sd, hsd, kk, ⟨dd, hdd, hk⟩, h⟩ := h
        have hdk : dd = .int kk := by cases dd <;> simp [intD] at hk; rw [hk]
        subst hdk
        refine ⟨_, h _ rfl, fun σ w act hR hO => ⟨_, tgI_vr _ _, ?_⟩⟩
        have e1 := uval_int (hO x (by simp [Op.operands]) a ha) hu
        simp only [execOp, e1, convert, Sem.run_bind, run_under hsd, run_under hdd, Result.andThen_ok]
        rfl
      · exact h.elim
  case load t x =>
    have h : one (.load t x) P F A.heap x K (fun a => symLoad P t A.heap a K) := h
    simp only [one, cpo_iff] at h
    obtain ⟨a, ha, h⟩ := h
    cases hs : isSym a with
    | false => rw [hs] at h; exact hq (cpo_iff.2 h)
    | true =>
      rw [hs] at h
      obtain ⟨u, h1, h2⟩ := symLoad_sound (show symLoad P t A.heap (uval a) K from h)
      refine ⟨u, h1, fun σ w act hR hO => ?_⟩
      have hx := hO x (by simp [Op.operands]) a ha
      have hp : ∃ p, uval a = .pointer (some p) := by
        have h : symLoad P t A.heap (uval a) K := h
        unfold symLoad at h
        simp only [cpo_iff, ptrV_some] at h
        obtain ⟨p, hp, _⟩ := h
        exact ⟨p, hp⟩
      obtain ⟨p, hp⟩ := hp
      obtain ⟨u', k1, k2⟩ := h2 σ w _ hR (by rw [hp]; exact uval_ptr hx hp)
      exact ⟨u', k1, by simp [execOp, k2]⟩
  case indexAddr t x i =>
    have h : two (.indexAddr t x i) P F A.heap x i K (fun a b => symIndexAddr P t (uval a) (uval b) K) := h
    simp only [two, cpo_iff] at h
    obtain ⟨a, ha, b, hb, h⟩ := h
    cases hs : isSym a || isSym b with
    | false => rw [hs] at h; exact hq (cpo_iff.2 h)
    | true =>
      rw [hs] at h
      obtain ⟨u, h1, h2⟩ := symIndexAddr_sound (show symIndexAddr P t (uval a) (uval b) K from h)
      refine ⟨u, h1, fun σ w act hR hO => ?_⟩
      obtain ⟨u', k1, k2⟩ := h2 σ w _ _ (hO x (by simp [Op.operands]) a ha) (hO i (by simp [Op.operands]) b hb)
      exact ⟨u', k1, by simp only [execOp, Sem.run_bind, k2, Result.andThen_ok, Sem.run_pure]⟩
  case fieldAddr s x f =>
    have h : one (.fieldAddr s x f) P F A.heap x K (fun a => symField P s f a K) := h
    simp only [one, cpo_iff] at h
    obtain ⟨a, ha, h⟩ := h
    cases hs : isSym a with
    | false => rw [hs] at h; exact hq (cpo_iff.2 h)
    | true =>
      rw [hs] at h
      have h : symField P s f (uval a) K := h
      unfold symField at h
      simp only [cpo_iff, cpb_iff] at h
      obtain ⟨fs, hfs, fd, hf, n, hn, h0, h⟩ := h
      split at h
      · rename_i b o hu
        refine ⟨_, h _ rfl, fun σ w act hR hO => ?_⟩
        obtain ⟨u', k1, k2⟩ := fieldAddr_run (P := P) (s := s) (f := f) (v := .pointer (some ⟨b, o, none⟩)) (u := .pointer (some ⟨b, o + fd.offset, none⟩)) (by
          simp only [fieldAddrA, ob_some, bt_some, ptrV_some, plainAt_some]
          exact ⟨fs, hfs, fd, hf, n, hn, h0, _, rfl, rfl, ptrTo_eq _ _⟩) (uval_ptr (hO x (by simp [Op.operands]) a ha) hu) w
        exact ⟨u', .sym rfl k1, by simp only [execOp, Sem.run_bind, k2, Result.andThen_ok, Sem.run_pure]⟩
      · exact h.elim
  case index t x i =>
    have h : two (.index t x i) P F A.heap x i K (fun a b => symIndex P t (uval a) (uval b) K) := h
    simp only [two, cpo_iff] at h
    obtain ⟨a, ha, b, hb, h⟩ := h
    cases hs : isSym a || isSym b with
    | false => rw [hs] at h; exact hq (cpo_iff.2 h)
    | true =>
      rw [hs] at h
      obtain ⟨u, h1, h2⟩ := symIndex_sound (show symIndex P t (uval a) (uval b) K from h)
      refine ⟨u, h1, fun σ w act hR hO => ?_⟩
      obtain ⟨u', k1, k2⟩ := h2 σ w _ _ (hO x (by simp [Op.operands]) a ha) (hO i (by simp [Op.operands]) b hb)
      exact ⟨u', k1, by simp only [execOp, Sem.run_bind, k2, Result.andThen_ok, Sem.run_pure]⟩
  case pick c x y =>
    have h : cpo (opnd P F c) (fun a => Bool.rec (cpo (evQ (.pick c x y) P F A.heap) K) (match uval a with
      | .bool b => (b = true → cpo (opnd P F x) K) ∧ (b = false → cpo (opnd P F y) K)
      | _ => False) (isSym a)) := h
    simp only [cpo_iff] at h
    obtain ⟨a, ha, h⟩ := h
    cases hs : isSym a with
    | false => rw [hs] at h; exact hq (cpo_iff.2 h)
    | true =>
      rw [hs] at h
      have h : (match uval a with
        | .bool b => (b = true → ∃ v, opnd P F x = some v ∧ K v) ∧ (b = false → ∃ v, opnd P F y = some v ∧ K v)
        | _ => False) := h
      split at h
      · rename_i b hu
        cases b with
        | true =>
          obtain ⟨v, hv, hK⟩ := h.1 rfl
          refine ⟨v, hK, fun σ w act hR hO => ⟨_, hO x (by simp [Op.operands]) v hv, ?_⟩⟩
          simp [execOp, uval_bool (hO c (by simp [Op.operands]) a ha) hu, asBool]
        | false =>
          obtain ⟨v, hv, hK⟩ := h.2 rfl
          refine ⟨v, hK, fun σ w act hR hO => ⟨_, hO y (by simp [Op.operands]) v hv, ?_⟩⟩
          simp [execOp, uval_bool (hO c (by simp [Op.operands]) a ha) hu, asBool]
      · exact h.elim
  case slice t x lo hi mx =>
    cases mx with
    | some _ => exact hq h
    | none =>
      have h : symS (.slice t x lo hi none) P F A.heap t x lo hi K := h
      simp only [symS, cpo_iff] at h
      obtain ⟨a, ha, l, hl, hh, hhh, h⟩ := h
      cases hs : isSym a || (symO l || symO hh) with
      | false => rw [hs] at h; exact hq (cpo_iff.2 h)
      | true =>
        rw [hs] at h
        have h : mnWays a (symSlice P A.heap t l hh K) := h
        obtain ⟨y, h, hy⟩ := mnWays_some h
        obtain ⟨v, h1, h2⟩ := symSlice_one (K := K) h
        refine ⟨v, h1, fun σ w act hR hO => ?_⟩
        obtain ⟨u', k1, k2⟩ := symSlice_sound hR (hy σ _ (hO x (by simp [Op.operands]) a ha)) (optOp_run (fun x hx => hO x (by simp at hx; simp [Op.operands, hx])) hl) (optOp_run (fun x hx => hO x (by simp at hx; simp [Op.operands, hx])) hhh) h2
        exact ⟨u', k1, by simp [execOp, k2]⟩
  case call c =>
    obtain ⟨cal, ⟨args⟩, ⟨ats⟩⟩ := c
    have h : symCall ⟨cal, ⟨args⟩, ⟨ats⟩⟩ (.call ⟨cal, ⟨args⟩, ⟨ats⟩⟩) P F A.heap K := h
    unfold symCall at h
    split at h
    · rename_i hc
      simp only at hc
      subst hc
      simp only [cpo_iff, lget_eq] at h
      obtain ⟨t, ht, x, hx, h⟩ := h
      simp only [one, cpo_iff] at h
      obtain ⟨a, ha, h⟩ := h
      cases hs : isSym a with
      | false => rw [hs] at h; exact hq (cpo_iff.2 h)
      | true =>
        rw [hs] at h
        obtain ⟨u, h1, h2⟩ := symLen_sound (show symLen P t (uval a) K from h)
        refine ⟨u, h1, fun σ w act hR hO => ?_⟩
        cases ats with
        | nil => simp at ht
        | cons t' ts => cases args with
          | nil => simp at hx
          | cons x' xs =>
            simp at ht hx; subst ht hx
            obtain ⟨u', k1, k2⟩ := h2 σ w _ (hO _ (by simp [Op.operands, Call.operands]) a ha)
            refine ⟨u', k1, ?_⟩
            simp only [execOp, resolve, Sem.run_bind, Sem.run_pure, Result.andThen_ok, invoke]
            rw [map_ops]
            have := k2 ts ty (xs.map act.eval)
            simp only [builtin, List.map_cons, Sem.run_bind, this, Result.andThen_ok, Sem.run_pure]
    · rename_i hc
      simp only at hc
      subst hc
      simp only [cpo_iff] at h
      obtain ⟨vs, hvs, h⟩ := h
      cases hs : anySym vs with
      | false => rw [hs] at h; exact hq (cpo_iff.2 h)
      | true =>
        rw [hs] at h
        rcases symMM_some (show symMM .min vs K from h) with ⟨x, y, j, k, m, n, rfl, hx, hy, hK⟩ | ⟨x, y, z, u, j, k, k2, k3, m, n, o', q, rfl, hx, hy, hz, hu, hK⟩
        · refine ⟨_, hK, fun σ w act hR hO => ⟨_, tgI_vr _ _, ?_⟩⟩
          have hv := opnds_run (a := act) (fun x hx => hO x (by simp [Op.operands, Call.operands]; simpa using hx)) hvs
          simp only [execOp, resolve, Sem.run_bind, Sem.run_pure, Result.andThen_ok, invoke]
          rw [map_ops]
          generalize args.map act.eval = zs at hv ⊢
          cases hv with
          | cons p1 hv => cases hv with
            | cons p2 hv =>
              cases hv
              rw [uval_int p1 hx, uval_int p2 hy]
              exact mm_run (.inl rfl) w
        · refine ⟨_, hK, fun σ w act hR hO => ⟨_, tgI_vr _ _, ?_⟩⟩
          have hv := opnds_run (a := act) (fun x hx => hO x (by simp [Op.operands, Call.operands]; simpa using hx)) hvs
          simp only [execOp, resolve, Sem.run_bind, Sem.run_pure, Result.andThen_ok, invoke]
          rw [map_ops]
          generalize args.map act.eval = zs at hv ⊢
          cases hv with
          | cons p1 hv => cases hv with
            | cons p2 hv => cases hv with
              | cons p3 hv => cases hv with
                | cons p4 hv =>
                  cases hv
                  rw [uval_int p1 hx, uval_int p2 hy, uval_int p3 hz, uval_int p4 hu]
                  exact mm_run4 (.inl rfl) w
    · rename_i hc
      simp only at hc
      subst hc
      simp only [cpo_iff] at h
      obtain ⟨vs, hvs, h⟩ := h
      cases hs : anySym vs with
      | false => rw [hs] at h; exact hq (cpo_iff.2 h)
      | true =>
        rw [hs] at h
        rcases symMM_some (show symMM .max vs K from h) with ⟨x, y, j, k, m, n, rfl, hx, hy, hK⟩ | ⟨x, y, z, u, j, k, k2, k3, m, n, o', q, rfl, hx, hy, hz, hu, hK⟩
        · refine ⟨_, hK, fun σ w act hR hO => ⟨_, tgI_vr _ _, ?_⟩⟩
          have hv := opnds_run (a := act) (fun x hx => hO x (by simp [Op.operands, Call.operands]; simpa using hx)) hvs
          simp only [execOp, resolve, Sem.run_bind, Sem.run_pure, Result.andThen_ok, invoke]
          rw [map_ops]
          generalize args.map act.eval = zs at hv ⊢
          cases hv with
          | cons p1 hv => cases hv with
            | cons p2 hv =>
              cases hv
              rw [uval_int p1 hx, uval_int p2 hy]
              exact mm_run (.inr rfl) w
        · refine ⟨_, hK, fun σ w act hR hO => ⟨_, tgI_vr _ _, ?_⟩⟩
          have hv := opnds_run (a := act) (fun x hx => hO x (by simp [Op.operands, Call.operands]; simpa using hx)) hvs
          simp only [execOp, resolve, Sem.run_bind, Sem.run_pure, Result.andThen_ok, invoke]
          rw [map_ops]
          generalize args.map act.eval = zs at hv ⊢
          cases hv with
          | cons p1 hv => cases hv with
            | cons p2 hv => cases hv with
              | cons p3 hv => cases hv with
                | cons p4 hv =>
                  cases hv
                  rw [uval_int p1 hx, uval_int p2 hy, uval_int p3 hz, uval_int p4 hu]
                  exact mm_run4 (.inr rfl) w
    · exact hq h
theorem xr1_some {sk : SK} {b o : Nat} {K : Value → Prop} (h : xr1 P sk b o K) : ∃ v u, FX P b o u ∧ (∀ σ, VR σ v u) ∧ K v := by
  cases sk with
  | i k => obtain ⟨z, h1, h2⟩ := h; exact ⟨_, _, h1, fun σ => .sym rfl (.flat rfl), h2⟩
  | b => obtain ⟨z, h1, h2⟩ := h; exact ⟨_, _, h1, fun σ => .sym rfl (.flat rfl), h2⟩
  | s => obtain ⟨z, h1, h2⟩ := h; exact ⟨_, _, h1, fun σ => .sym rfl (.flat rfl), h2⟩
  | x => obtain ⟨a, l, c, h1, h2⟩ := h; exact ⟨_, _, h1, fun σ => .ext rfl, h2⟩
theorem xrAll_some : ∀ {ks : List SK} {b o j : Nat} {K : List Value → Prop}, xrAll P ks b o j K → ∃ vs us, (∀ σ, VRL σ vs us) ∧ us.length = ks.length ∧ (∀ i u, us[i]? = some u → FX P b (o + (j + i)) u) ∧ K vs := by
  intro ks
  induction ks with
  | nil => intro b o j K h; exact ⟨[], [], fun σ => .nil, rfl, fun i u h => by simp at h, h⟩
  | cons k ks ih =>
    intro b o j K h
    have h : xr1 P k b (Nat.add o j) (fun v => xrAll P ks b o (Nat.succ j) fun vs => K (v :: vs)) := h
    obtain ⟨v, u, hf, hr, h⟩ := xr1_some h
    obtain ⟨vs, us, h1, h2, h3, h4⟩ := ih h
    refine ⟨v :: vs, u :: us, fun σ => .cons (hr σ) (h1 σ), by simp [h2], fun i x hx => ?_, h4⟩
    cases i with
    | zero => simp at hx; subst hx; exact hf
    | succ i => have := h3 i x (by simpa using hx); rw [show o + (j + (i + 1)) = o + (Nat.succ j + i) by omega]; exact this
theorem fx_cell {σ : Sg} {A : AW} {w : World} (hR : Rel P σ A w) {b o : Nat} {v : Value} (h : FX P b o v) : w.cell? ⟨b, o, none⟩ = some v := by
  obtain ⟨cs, e, fz, h1, h2⟩ := h
  exact cell_of (hR.fro b _ h1).1 h2
theorem xLoad_sound {A : AW} {t : TypeId} {b o : Nat} {K : Value → Prop} (h : xLoad P t b o K) : ∃ u, K u ∧ ∀ σ w, Rel P σ A w → ∃ u', VR σ u u' ∧ (Instr.loadAt t (.pointer (some ⟨b, o, none⟩))).run P w = .ok u' w := by
  unfold xLoad at h
  simp only [cpo_iff] at h
  obtain ⟨ks, hks, ag, hag, h⟩ := h
  cases ag with
  | false =>
    have h : xrAll P ks b o 0 (fun vs => oneOf vs K) := h
    obtain ⟨vs, us, h1, h2, h3, h4⟩ := xrAll_some h
    unfold oneOf at h4
    split at h4
    · rename_i v
      refine ⟨v, h4, fun σ w hR => ?_⟩
      cases h1 σ with
      | @cons _ u _ l a c =>
        cases c
        have hc := fx_cell hR (h3 0 u rfl)
        have hc : w.cell? ⟨b, o, none⟩ = some u := by simpa using hc
        exact ⟨u, a, by simp [Instr.loadAt, Instr.sureAddr, loadVar, run_agg hag, hc]⟩
    · exact h4.elim
  | true =>
    have h : ∃ n, sizeA P t = some n ∧ cpb (lenB ks n) (xrAll P ks b o 0 fun vs => K (Value.agg ⟨vs⟩)) := h
    obtain ⟨n, hn, h⟩ := h
    rw [cpb_iff, lenB_iff] at h
    obtain ⟨hln, h⟩ := h
    obtain ⟨vs, us, h1, h2, h3, h4⟩ := xrAll_some h
    refine ⟨_, h4, fun σ w hR => ⟨.agg ⟨us⟩, .agg (h1 σ), ?_⟩⟩
    have hload := run_loadCells_list (P := P) (w := w) ⟨b, o, none⟩ us (fun j v hj => by
      rw [add_plain]
      have := fx_cell hR (h3 j v hj)
      simpa using this)
    rw [h2, hln] at hload
    simp [Instr.loadAt, Instr.sureAddr, loadVar, run_agg hag, run_size hn, hload]
theorem isX_iff {t : Nat} : isX t = true ↔ t = EXT ∨ t = EXL := by
  unfold isX
  rw [Bool.or_eq_true, beqIff, beqIff]
theorem VR.ext_inv {t : Nat} {a v' : Value} (ht : isX t = true) (h : VR σ (.iface t a) v') : v' = a ∧ isScal a = true := by
  rcases isX_iff.1 ht with e | e <;> subst e
  · cases h with
    | flat f => cases f
    | iface e _ => exact absurd e noEXT
    | ext e => exact ⟨rfl, e⟩
  · cases h with
    | flat f => cases f
    | iface e _ => exact absurd e noEXL
    | exl e => exact ⟨rfl, e⟩
theorem VR.mkX {t : Nat} {a : Value} (ht : isX t = true) (h : isScal a = true) : VR σ (.iface t a) a := by
  rcases isX_iff.1 ht with e | e <;> subst e
  · exact .ext h
  · exact .exl h
theorem xval_some {v : Value} {p : Bool × Value} (h : xval v = some p) : ∃ t, isX t = true ∧ v = .iface t p.2 := by
  unfold xval at h
  split at h
  · rw [bt_some] at h
    obtain ⟨ht, h⟩ := h
    cases h; exact ⟨_, ht, rfl⟩
  · cases h
def sgId : Sg := fun i => some (i, 0)
theorem sgId_ptr {a : Addr} {u : Value} (h : VR sgId (.pointer (some a)) u) : u = .pointer (some a) := by
  cases h with
  | flat f => cases f
  | ptr e => cases e; rfl
theorem xSlice_run {t e : TypeId} {n len cap : Nat} {x : Option Addr} {lo lo' hi hi' : Option Value} {l h : Int} (ht : P.underlying t = some (.slice e)) (hn : sizeA P e = some n) (hlo : OVR σ lo lo') (hhi : OVR σ hi hi')
    (hl : numO 0 lo = some l) (hh : numO len hi = some h) (hb : 0 ≤ l ∧ l ≤ h ∧ h ≤ cap) (w : World) :
    (Instr.sliceAt t (.slice x len cap) lo' hi' none).run P w = .ok (.slice (x.map (xCut l.toNat n cap)) (h.toNat - l.toNat) (cap - l.toNat)) w := by
  obtain ⟨h1, h2, h3⟩ := hb
  have hlo0 : OVR σ lo' lo' := by
    rcases uval_some hlo hl with ⟨_, e, _⟩ | ⟨k, e⟩ <;> rw [e]
    · exact .none
    · exact .some (.flat rfl)
  have hhi0 : OVR σ hi' hi' := by
    rcases uval_some hhi hh with ⟨_, e, _⟩ | ⟨k, e⟩ <;> rw [e]
    · exact .none
    · exact .some (.flat rfl)
  have hup : ∀ m : Nat, l ≤ m → uptoOr lo' m 0 = some l.toNat := fun m h4 => by
    rcases uval_some hlo hl with ⟨_, e, e2⟩ | ⟨k, e⟩ <;> rw [e]
    · rw [e2]; rfl
    · show upto _ _ = _
      rw [upto_some]; exact ⟨⟨k, by simp [Int.toNat_of_nonneg h1]⟩, by omega⟩
  have hup2 : ∀ m : Nat, h ≤ m → uptoOr hi' m len = some h.toNat := fun m h4 => by
    rcases uval_some hhi hh with ⟨_, e, e2⟩ | ⟨k, e⟩ <;> rw [e]
    · rw [e2]; show some len = _; simp
    · show upto _ _ = _
      rw [upto_some]; exact ⟨⟨k, by simp [Int.toNat_of_nonneg (show 0 ≤ h by omega)]⟩, by omega⟩
  have hbd : boundsA len cap lo' hi' = some (l.toNat, h.toNat) := by
    unfold boundsA
    rw [hup2 _ h3]
    show ob (uptoOr lo' h.toNat 0) _ = _
    rw [hup _ (by omega)]
    rfl
  have hb' := bounds_run (P := P) (b := true) (m := cap) hbd hlo0 hhi0 (by omega) w
  simp only [Instr.sliceAt, Instr.slice, Sem.run_bind, run_under ht, Result.andThen_ok, hb', run_size hn, Sem.run_pure]
  congr 2
  cases x with
  | none => split <;> rfl
  | some a => unfold xCut; split <;> rfl
theorem xQ_sound {o : Oper} {F : T Value} {A : AW} {K : Value → Prop} {x : Operand} {v : Value} {p : Bool × Value} (hx : xop o.op = some x) (hv : opnd P F x = some v) (ha : xval v = some p) (h : xQ P o.op F K p) : ∃ u, K u ∧ QSem P o F A u := by
  obtain ⟨lit, a⟩ := p
  obtain ⟨tt, hX, rfl⟩ := xval_some ha
  obtain ⟨dst, op, ty, pos, after, guard⟩ := o
  cases op <;> try (first | exact False.elim h | (cases hx; done))
  case load t y =>
    cases hx
    have h : xLoadV P t K a := h
    unfold xLoadV at h
    split at h
    · obtain ⟨u, h1, h2⟩ := xLoad_sound (A := A) h
      refine ⟨u, h1, fun σ w act hR hO => ?_⟩
      obtain ⟨e, _⟩ := (hO x (by simp [Op.operands]) _ hv).ext_inv hX
      obtain ⟨u', k1, k2⟩ := h2 σ w hR
      exact ⟨u', k1, by simp [execOp, e, k2]⟩
    · exact h.elim
  case indexAddr t y i =>
    cases hx
    have h : cpo (sliceT P t) (fun e => cpo (opnd P F i) fun iv => xIdxV P e (uval iv) K a) := h
    simp only [cpo_iff] at h
    obtain ⟨e, ht, iv, hi, h⟩ := h
    unfold xIdxV at h
    split at h
    · rename_i ad len cp _
      unfold xIdx at h
      rw [cpo_iff] at h
      obtain ⟨n, hn, h⟩ := h
      split at h
      · rename_i k z hz
        obtain ⟨⟨h0, h1⟩, b, o, rfl, h2⟩ := h
        refine ⟨_, h2 _ rfl, fun σ w act hR hO => ⟨_, .ext rfl, ?_⟩⟩
        obtain ⟨e1, _⟩ := (hO x (by simp [Op.operands]) _ hv).ext_inv hX
        have e2 := uval_int (hO i (by simp [Op.operands]) iv hi) hz
        obtain ⟨u', k1, k2⟩ := indexAddr_run (P := P) (t := t) (σ := sgId) (x := .slice (some ⟨b, o, none⟩) len cp) (i := .int k z) (u := .pointer (some ⟨b, o + z.toNat * n, none⟩)) (by
          simp only [indexAddrA, ob_some]
          refine ⟨_, sliceT_some.1 ht, ?_⟩
          simp only [ob_some, idxAt, plainAt_some, bt_some, numV_some]
          refine ⟨_, rfl, rfl, z.toNat, ⟨k, ?_⟩, ?_, n, hn, ptrTo_eq _ _⟩
          · congr 1; show z = ((z.toNat : Nat) : Int); omega
          · simp [Nat.blt_eq]; omega) (show VR sgId (.slice (some ⟨b, o, none⟩) len cp) (.slice (some ⟨b, o, none⟩) len (cp + 0)) from .slice rfl) (.flat rfl) w
        rw [Nat.add_zero] at k2
        rw [sgId_ptr k1] at k2
        simp only [execOp, Sem.run_bind, e1, e2, k2, Result.andThen_ok, Sem.run_pure]
      · exact h.elim
    · exact h.elim
  case fieldAddr s y f =>
    cases hx
    have h : xField P s f a K := h
    unfold xField at h
    simp only [cpo_iff, cpb_iff] at h
    obtain ⟨fs, hs, fd, hf, n, hn, h0, h⟩ := h
    split at h
    · rename_i b o _
      refine ⟨_, h _ rfl, fun σ w act hR hO => ⟨_, .ext rfl, ?_⟩⟩
      obtain ⟨e1, _⟩ := (hO x (by simp [Op.operands]) _ hv).ext_inv hX
      obtain ⟨u', k1, k2⟩ := fieldAddr_run (P := P) (s := s) (f := f) (σ := sgId) (v := .pointer (some ⟨b, o, none⟩)) (u := .pointer (some ⟨b, o + fd.offset, none⟩)) (by
        simp only [fieldAddrA, ob_some, bt_some, ptrV_some, plainAt_some]
        exact ⟨fs, hs, fd, hf, n, hn, h0, _, rfl, rfl, ptrTo_eq _ _⟩) (.ptr rfl) w
      rw [sgId_ptr k1] at k2
      simp only [execOp, Sem.run_bind, e1, k2, Result.andThen_ok, Sem.run_pure]
    · exact h.elim
  case binOp op t y z yt =>
    cases hx
    have h : cpo (opnd P F z) (fun b => cpb (nilV b) (cpb (sliceK P t) (xNil op a K))) := h
    simp only [cpo_iff, cpb_iff] at h
    obtain ⟨b, hb, hn, hk, h⟩ := h
    unfold xNil at h
    split at h
    · rename_i ad l c _
      obtain ⟨e, ht⟩ := sliceK_inv hk
      have fin : ∀ r : Bool, K (.bool r) → (op = .eql ∧ r = ad.isNone ∨ op = .neq ∧ r = !ad.isNone) → ∃ v, K v ∧ QSem P ⟨dst, .binOp op t x z yt, ty, pos, after, guard⟩ F A v := fun r hKr hr => by
        refine ⟨_, hKr, fun σ w act hR hO => ⟨.bool r, .flat rfl, ?_⟩⟩
        have e2 := nilV_inv (hO z (by simp [Op.operands]) b hb) hn
        obtain ⟨e1, _⟩ := (hO x (by simp [Op.operands]) _ hv).ext_inv hX
        have := nil_run (xo := x) (yo := z) ht ad l c w op r hr
        simp only [execOp, Sem.run_bind] at this ⊢
        rw [e1, e2, this]; rfl
      cases op with
      | eql => cases ad with
        | none => exact fin true (h.1 rfl) (.inl ⟨rfl, rfl⟩)
        | some _ => exact fin false (h.2 (by simp)) (.inl ⟨rfl, rfl⟩)
      | neq => cases ad with
        | none => exact fin false (h.2 (by simp)) (.inr ⟨rfl, rfl⟩)
        | some _ => exact fin true (h.1 (by simp)) (.inr ⟨rfl, rfl⟩)
      | _ => exact False.elim h
    · exact h.elim
  case slice t y lo hi mx =>
    cases mx with
    | some _ => cases hx
    | none =>
    cases hx
    have h : cpo (optOp P F lo) (fun l => cpo (optOp P F hi) fun h => xSlice P t l h a K) := h
    simp only [cpo_iff] at h
    obtain ⟨l, hl, hh, hhh, h⟩ := h
    unfold xSlice at h
    simp only [cpo_iff] at h
    obtain ⟨e, ht, n, hn, h⟩ := h
    split at h
    · rename_i ad len cap _
      obtain ⟨l', hl', h', hh', hb, h⟩ := h
      refine ⟨_, h _ _ _ rfl rfl rfl, fun σ w act hR hO => ⟨_, .ext rfl, ?_⟩⟩
      obtain ⟨e1, _⟩ := (hO x (by simp [Op.operands]) _ hv).ext_inv hX
      have := xSlice_run (x := ad) (sliceT_some.1 ht) hn (optOp_run (fun x hx => hO x (by simp at hx; simp [Op.operands, hx])) hl) (optOp_run (fun x hx => hO x (by simp at hx; simp [Op.operands, hx])) hhh) hl' hh' hb w
      simp [execOp, e1, this]
    · exact h.elim
  case call c =>
    obtain ⟨cal, ⟨args⟩, ⟨ats⟩⟩ := c
    cases cal <;> try (cases hx; done)
    rename_i b
    cases b <;> try (cases hx; done)
    have hx2 : lget args 0 = some x := hx
    have h : cpo (lget ats 0) (fun t => cpb (sliceK P t) (xLen lit a K)) := h
    simp only [cpo_iff, cpb_iff, lget_eq] at h hx2
    clear hx
    obtain ⟨t, ht, hk, h⟩ := h
    obtain ⟨e, hd⟩ := sliceK_inv hk
    unfold xLen at h
    split at h
    · rename_i ad n c _
      have fin : ∀ (σ : Sg) (w : World) (act : Act), OK P σ F act (Op.call ⟨.builtin .len, ⟨args⟩, ⟨ats⟩⟩).operands.toList → (execOp act.eval ⟨dst, .call ⟨.builtin .len, ⟨args⟩, ⟨ats⟩⟩, ty, pos, after, guard⟩).run P w = .ok (.value (.int .i64 (n : Int))) w := fun σ w act hO => by
        cases ats with
        | nil => simp at ht
        | cons t' ts => cases args with
          | nil => simp at hx2
          | cons x' xs =>
            simp at ht hx2; subst ht hx2
            obtain ⟨e1, _⟩ := (hO _ (by simp [Op.operands, Call.operands]) _ hv).ext_inv hX
            simp only [execOp, resolve, Sem.run_bind, Sem.run_pure, Result.andThen_ok, invoke]
            rw [map_ops]
            simp only [List.map_cons, e1]
            simp [builtin, Builtin.len_, run_under hd]
            rfl
      cases lit with
      | false => exact ⟨_, h _ rfl, fun σ w act hR hO => ⟨_, tgI_vr _ _, fin σ w act hO⟩⟩
      | true => exact ⟨_, h, fun σ w act hR hO => ⟨_, .flat rfl, fin σ w act hO⟩⟩
    · exact h.elim
theorem keyIs_now {kd : TypeDesc} {k u : Value} {f g : Prop} (hk : keyK kd k = true) (h : keyIs k u f g) : ∃ b, Instr.sameNow kd k u = some b ∧ (b = true → f) ∧ (b = false → g) := by
  unfold keyIs at h
  split at h
  · rename_i j z
    split at h
    · rename_i i n
      rw [cpb_iff] at h
      obtain ⟨h1, h2, h3⟩ := h
      obtain rfl := sameK_eq h1
      cases kd <;> try (cases hk; done)
      refine ⟨z == n, by simp [Instr.sameNow], fun e => h2 (by simpa using e), fun e => h3 (by simpa using e)⟩
    · exact h.elim
  · rename_i s
    split at h
    · rename_i u
      cases kd <;> try (cases hk; done)
      refine ⟨s == u, by simp [Instr.sameNow], fun e => h.1 ?_, fun e => h.2 fun e2 => ?_⟩
      · have : s = u := bytes_beq e
        rw [this]
      · have : s = u := by cases s; cases u; simp only [ByteArray.mk.injEq]; exact Array.toList_inj.1 e2
        subst this
        rw [bytes_self] at e; cases e
    · exact h.elim
  · exact h.elim
theorem lkQ_some {t : TypeId} {ok : Bool} {kd : TypeDesc} {k : Value} {K : Value → Prop} (hk : keyK kd k = true) : ∀ {es : List MapEntry} {i : Nat}, lkQ P t ok k K es → ∃ r u, Instr.findNow kd k es i = some r ∧ K u ∧
    (Option.rec (ob (zero2 P t) fun z => okV ok z false) (fun x => okV ok x.2 true) r : Option Value) = some u := by
  intro es
  induction es with
  | nil =>
    intro i h
    have h : cpo (ob (zero2 P t) fun z => okV ok z false) K := h
    obtain ⟨u, h1, h2⟩ := cpo_iff.1 h
    exact ⟨none, u, rfl, h2, h1⟩
  | cons e es ih =>
    intro i h
    have h : keyIs k e.key (cpo (okV ok e.val true) K) (lkQ P t ok k K es) := h
    obtain ⟨b, h1, h2, h3⟩ := keyIs_now hk h
    cases b with
    | true =>
      obtain ⟨u, h4, h5⟩ := cpo_iff.1 (h2 rfl)
      exact ⟨some (i, e.val), u, by simp [Instr.findNow, h1], h5, h4⟩
    | false =>
      obtain ⟨r, u, h4, h5, h6⟩ := ih (i := i + 1) (h3 rfl)
      exact ⟨r, u, by simp [Instr.findNow, h1, h4], h5, h6⟩
theorem keyK_scal {kd : TypeDesc} {k : Value} (h : keyK kd k = true) : flat k = true ∧ keyD kd = true ∧ ibs k = true := by
  cases k <;> try (cases h; done)
  · cases kd <;> first | (cases h; done) | exact ⟨rfl, rfl, rfl⟩
  · cases kd <;> first | (cases h; done) | exact ⟨rfl, rfl, rfl⟩
theorem symLk_sound {o : Oper} {F : T Value} {A : AW} {K : Value → Prop} {a : Value × Value} (hx : karg P F o.op = some a) (h : symLk P o.op A.heap K a) : ∃ u, K u ∧ QSem P o F A u := by
  obtain ⟨dst, op, ty, pos, after, guard⟩ := o
  cases op <;> try exact False.elim h
  case lookup t x k ok =>
    have hx : (ob (opnd P F x) fun m => ob (opnd P F k) fun k => bt (isSym k) (some (m, uval k))) = some a := hx
    simp only [ob_some, bt_some, Option.some.injEq] at hx
    obtain ⟨m, hm, kv, hkv, _, rfl⟩ := hx
    have h : cpo (mapT P t) (fun q => cpo (P.underlying q.1) fun kd => cpb (keyK kd (uval kv)) (cpo (entriesA A.heap m) fun es => lkQ P q.2 ok (uval kv) K es)) := h
    simp only [cpo_iff, cpb_iff] at h
    obtain ⟨q, hq, kd, hkd, hk, es, hes, h⟩ := h
    obtain ⟨r, u, h1, h2, h3⟩ := lkQ_some (i := 0) hk h
    obtain ⟨k1, k2, k3⟩ := keyK_scal hk
    refine ⟨u, h2, fun σ w act hR hO => ?_⟩
    have e1 := uval_ibs (hO k (by simp [Op.operands]) kv hkv) k3
    have hl : lookupA P A.heap t m (uval kv) ok = some u := by
      unfold lookupA
      simp only [ob_some, bt_some]
      exact ⟨q, hq, k1, kd, hkd, k2, es, hes, r, h1, h3⟩
    obtain ⟨u', g1, g2⟩ := lookupA_run hR hl (hO x (by simp [Op.operands]) m hm) (k' := act.eval k) (by rw [e1]; exact .flat k1)
    exact ⟨u', g1, by simp [execOp, g2]⟩
theorem symQ_sound {o : Oper} {F : T Value} {A : AW} {K : Value → Prop} (h : symQ P o.op F A.heap K) : ∃ v, K v ∧ QSem P o F A v := by
  unfold symQ at h
  cases hx : xarg P F o.op with
  | none =>
    rw [hx] at h
    cases hk : karg P F o.op with
    | none => rw [hk] at h; exact symQ0_sound h
    | some a => rw [hk] at h; exact symLk_sound hk h
  | some a =>
    rw [hx] at h
    have hx : (ob (xop o.op) fun x => ob (opnd P F x) xval) = some a := hx
    simp only [ob_some] at hx
    obtain ⟨x, h1, v, h2, h3⟩ := hx
    exact xQ_sound h1 h2 h3 h
end Go.Ev
