/- The evaluator: a region whose order is drawn: the invariant; soundness. -/
import Derived.Test.YtfkacmmcgncooaaGreatDoorEvQ
import Derived.Scope
import Derived.Defers
section
set_option linter.unusedSectionVars false
namespace Go.Ev
variable {P : Program} {N : Nat} {call : Caller} [Frozen P]
theorem memB_iff {d : Nat} : ∀ {l : List Nat}, memB d l = true ↔ d ∈ l := by
  intro l
  induction l with
  | nil => constructor <;> intro h <;> cases h
  | cons x l ih =>
    show (Bool.rec (memB d l) true (Nat.beq d x) : Bool) = true ↔ _
    cases hb : Nat.beq d x with
    | true => have := beqIff.1 hb; simp [this]
    | false =>
      have : d ≠ x := fun e => by rw [beqIff.2 e] at hb; cases hb
      show memB d l = true ↔ _
      rw [ih]; simp [this]
theorem mem_tmpsOf {t : Nat} : ∀ {os : List Operand} {l : List Nat}, t ∈ tmpsOf os l ↔ Operand.tmp t ∈ os ∨ t ∈ l := by
  intro os
  induction os with
  | nil => intro l; simp [tmpsOf]
  | cons o os ih =>
    intro l
    have hd : tmpsOf (o :: os) l = (Operand.rec (fun t => t :: tmpsOf os l) (fun _ => tmpsOf os l) (fun _ => tmpsOf os l) (fun _ => tmpsOf os l) o : List Nat) := rfl
    rw [hd]
    cases o with
    | tmp u => show t ∈ u :: tmpsOf os l ↔ _; simp [ih, or_assoc]
    | const v => show t ∈ tmpsOf os l ↔ _; rw [ih]; simp
    | global g => show t ∈ tmpsOf os l ↔ _; rw [ih]; simp
    | func g => show t ∈ tmpsOf os l ↔ _; rw [ih]; simp
theorem looks_op {all : List Oper} {o : Oper} {t : Nat} (h : Operand.tmp t ∈ o.op.operands.toList) : t ∈ looks all o := by
  unfold looks; rw [mem_tmpsOf]; exact .inl h
theorem looks_guard {all : List Oper} {o : Oper} {j d : Nat} {want : Bool} (h : o.guard = some (j, want)) (hd : guardOf all j = some d) : d ∈ looks all o := by
  unfold looks; rw [mem_tmpsOf]; refine .inr ?_
  rw [h]
  show d ∈ (Option.rec [] (fun d => [d]) (guardOf all j) : List Nat)
  rw [hd]; exact List.mem_cons_self
theorem touch_of {all : List Oper} {x y : Oper} {t : Nat} (hx : x.dst = some t) (hy : t ∈ looks all y) : touch all x y = true := by
  unfold touch hits; rw [hx]; show (memB t (looks all y) || _) = true; rw [memB_iff.2 hy]; rfl
theorem touch_of' {all : List Oper} {x y : Oper} {t : Nat} (hy : y.dst = some t) (hx : t ∈ looks all x) : touch all x y = true := by
  unfold touch hits; rw [hy]
  have : memB t (looks all x) = true := memB_iff.2 hx
  show (_ || (memB t (looks all x) || _)) = true
  rw [this]; simp
theorem touch_same {all : List Oper} {x y : Oper} {t : Nat} (hx : x.dst = some t) (hy : y.dst = some t) : touch all x y = true := by
  unfold touch sameDst; rw [hx, hy]
  show (_ || (_ || Nat.beq t t)) = true
  rw [beqIff.2 rfl]; simp
theorem getD_parts {l : Array Bool} {j : Nat} (h : l.getD j true = false) : j < l.size ∧ l.getD j false = false := by
  rcases Nat.lt_or_ge j l.size with h' | h'
  · simp [h'] at h ⊢; exact h
  · simp [Array.getElem?_eq_none h'] at h
theorem set_getD {l : Array Bool} {y x : Nat} (hy : y < l.size) : ((l.setIfInBounds y true).getD x false = true) ↔ (x = y ∨ l.getD x false = true) := by
  by_cases e : x = y
  · subst e; simp [hy]
  · rw [getD_set_ne false (Ne.symm e)]; simp [e]
def Again (P : Program) [Frozen P] (all : List Oper) (r : Rc) (h : Option Nat) (A : AW) : Prop := softO P r.o.op = true ∨ (wantedA all r.o r.F = some true → match h with
  | none => QSem P r.o r.F A r.v
  | some id => freshAt P r.F r.o.op id A.heap = true)
structure Ctx (P : Program) [Frozen P] (call : Caller) (N : Nat) (all : List Oper) (ds : List Deferred) (A0 : AW) (hs : List (Option Nat)) (A1 : AW) (F0 : T Value) (rs : List Rc) (As : List AW) (F' : T Value) (A' : AW) : Prop where
  passed : Passed P call N all ds all hs 0 F0 A1 rs As F' A'
  reg : RegOK P all (masks all [])
  ho : Hoisted all A0 hs A1
  wins : ∀ (i : Nat) (r : Rc) (h : Option Nat) (q : Nat), rs[i]? = some r → r.loud = false → hs[i]? = some h → (masks all [])[i]? = some q → ∀ (k : Nat) (Ac : AW), (A1 :: As)[k]? = some Ac →
    loOf q (louds P all (masks all []) 0) 0 0 ≤ k → k ≤ hiOf i (louds P all (masks all []) 0) 0 → isOwn h r k = false → Again P all r h Ac
section
variable {all : List Oper} {ds : List Deferred} {A0 A1 A' : AW} {hs : List (Option Nat)} {F0 F' : T Value} {rs : List Rc} {As : List AW} {σ0 : Sg} {w0 : World}
structure Inv (P : Program) [Frozen P] (N : Nat) (all : List Oper) (ds : List Deferred) (A0 : AW) (hs : List (Option Nat)) (A1 : AW) (rs : List Rc) (As : List AW) (F' : T Value) (σ0 : Sg) (w0 : World)
    (listed : Array Bool) (σ : Sg) (a : Act) (w : World) (c : Nat) (Ac : AW) : Prop where
  lsize : listed.size = all.length
  closed : ∀ (j : Nat), listed.getD j false = true → ∀ o : Oper, all[j]? = some o → ∀ e ∈ o.after.toList, Region.binds .any e = true → listed.getD e.on false = true
  tsize : a.tmps.size = N
  fr : ∀ (i t : Nat) (v : Value), i ≤ all.length → (∀ (x : Nat) (o : Oper), all[x]? = some o → o.dst = some t → (x < i ↔ listed.getD x false = true)) → (frAt rs F' i).get t = some v → ∃ v', a.tmps[t]? = some v' ∧ VR σ v v'
  st : (A1 :: As)[c]? = some Ac
  rel : Rel P σ Ac w
  loud : ∀ (i : Nat) (r : Rc), rs[i]? = some r → r.loud = true → (listed.getD i false = true ↔ r.at_ < c)
  made : ∀ (i id : Nat), hs[i]? = some (some id) → listed.getD i false = false → σ id = none
  ids : ∀ (i id : Nat), hs[i]? = some (some id) → id < Ac.next
  step : Step σ0 A0 w0 σ Ac w
  ds : DRL σ ds a.defers
theorem Inv.frames {listed : Array Bool} {σ σ' : Sg} {a a' : Act} {w : World} {c : Nat} {Ac : AW} (C : Ctx P call N all ds A0 hs A1 F0 rs As F' A') (I : Inv P N all ds A0 hs A1 rs As F' σ0 w0 listed σ a w c Ac) {y : Nat} {r : Rc} (hr : rs[y]? = some r) (hy : y < listed.size)
    (hb : ∀ (x : Nat) (qx : Nat), (masks all [])[x]? = some qx → tbit qx y = true → listed.getD x false = false) (hsub : Sub σ σ') (ht : a'.tmps = a.tmps) {v' : Value} (hv : VR σ' r.v v') :
    ∀ (i t : Nat) (v : Value), i ≤ all.length → (∀ (x : Nat) (o : Oper), all[x]? = some o → o.dst = some t → (x < i ↔ (listed.setIfInBounds y true).getD x false = true)) → (frAt rs F' i).get t = some v → ∃ v'', (a'.put r.o.dst v').tmps[t]? = some v'' ∧ VR σ' v v'' := by
  intro i t v hi hc hg
  obtain ⟨h, m, A1', B, ho, _, _, _, _, _, _, hp⟩ := C.passed.at y r hr
  have hlen := C.passed.len
  by_cases hd : r.o.dst = some t
  · have hyi : y < i := (hc y r.o ho hd).2 ((set_getD hy).2 (.inl rfl))
    have hsame := C.passed.same (t := t) (i := y + 1) i hyi (by omega) fun x q hx1 hx2 hq hdq => by
      obtain ⟨_, _, _, _, hox, _⟩ := C.passed.at x q hq
      have hlx : listed.getD x false = true := by
        rcases (set_getD hy).1 ((hc x q.o hox hdq).1 hx2) with e | e
        · omega
        · exact e
      have hqx : ∃ qx, (masks all [])[x]? = some qx := by
        have : x < (masks all []).length := by rw [(masks_ok all).1]; exact (List.getElem?_eq_some_iff.1 hox).1
        exact ⟨_, List.getElem?_eq_getElem this⟩
      obtain ⟨qx, hqx⟩ := hqx
      have := C.reg.pair y x r.o q.o qx ho hox hqx (by omega) (by rw [touch_same hd hdq]; rfl)
      rw [hb x qx hqx this] at hlx
      cases hlx
    rw [hsame] at hg
    rcases putF_some hp with ⟨e, _⟩ | ⟨d, e1, hlt, e2⟩
    · rw [hd] at e; cases e
    · rw [hd] at e1; cases e1
      rw [e2, get_set, if_pos rfl] at hg
      cases hg
      refine ⟨v', ?_, hv⟩
      rw [hd]
      exact put_self a' t v' (by rw [ht, I.tsize]; exact hlt)
  · obtain ⟨u, h1, h2⟩ := I.fr i t v hi (fun x o hx hdo => by
      rw [hc x o hx hdo, set_getD hy]
      constructor
      · rintro (e | e)
        · subst e; rw [ho] at hx; cases hx; exact absurd hdo hd
        · exact e
      · exact .inr) hg
    exact ⟨u, by rw [put_get a' _ v' t hd, ht]; exact h1, h2.sub hsub⟩
theorem Inv.advance {listed : Array Bool} {σ : Sg} {a : Act} {w : World} {c : Nat} {Ac : AW} (C : Ctx P call N all ds A0 hs A1 F0 rs As F' A') (I : Inv P N all ds A0 hs A1 rs As F' σ0 w0 listed σ a w c Ac) {y : Nat} (hy : y ∈ Region.ready .any ⟨all⟩ listed)
    {K : Act → World → Prop} {Q : Exit → Act → World → Prop} (hK : ∀ σ' a' w' c' Ac', Inv P N all ds A0 hs A1 rs As F' σ0 w0 (listed.setIfInBounds y true) σ' a' w' c' Ac' → K a' w') : wpOp P ⟨all⟩ Q y K a w := by
  obtain ⟨hy0, o, ho, hedges⟩ := mem_ready.1 hy
  obtain ⟨hys, hyf⟩ := getD_parts hy0
  have ho' : all[y]? = some o := by simpa using ho
  have hedges : ∀ e ∈ o.after.toList, Region.binds .any e = true → listed.getD e.on false = true := fun e he hb => hedges e (by simpa using he) hb
  have hM := masks_ok all
  have hlen := C.passed.len
  have hyl : y < all.length := (List.getElem?_eq_some_iff.1 ho').1
  obtain ⟨r, hr⟩ : ∃ r, rs[y]? = some r := ⟨_, List.getElem?_eq_getElem (by omega)⟩
  obtain ⟨q, hq⟩ : ∃ q, (masks all [])[y]? = some q := ⟨_, List.getElem?_eq_getElem (by rw [hM.1]; exact hyl)⟩
  obtain ⟨h, m, A1', B, hro, hh, hat, hst, hwhat, hl1, hl0, hp⟩ := C.passed.at y r hr
  obtain rfl : r.o = o := by rw [ho'] at hro; exact (Option.some.inj hro).symm
  have hat : r.at_ = m := by omega
  have hbits : ∀ i, tbit q i = true → listed.getD i false = true := closed_bit hM C.reg.lt I.closed y r.o q ho' hq hedges
  have hback : ∀ (x qx : Nat), (masks all [])[x]? = some qx → tbit qx y = true → listed.getD x false = false := fun x qx hqx ht => by
    cases hlx : listed.getD x false with
    | false => rfl
    | true =>
      have hxl : x < all.length := by rw [← hM.1]; exact (List.getElem?_eq_some_iff.1 hqx).1
      have hox : all[x]? = some all[x] := List.getElem?_eq_getElem hxl
      have := closed_bit hM C.reg.lt I.closed x _ qx hox hqx (I.closed x hlx _ hox) y ht
      rw [hyf] at this; cases this
  have hlooks : ∀ t ∈ looks all r.o, ∀ (x : Nat) (ox : Oper), all[x]? = some ox → ox.dst = some t → (x < y ↔ listed.getD x false = true) := fun t ht x ox hox hdx => by
    constructor
    · intro hlt; exact hbits x (C.reg.pair x y ox r.o q hox ho' hq hlt (by rw [touch_of hdx ht]; rfl))
    · intro hlx
      rcases Nat.lt_trichotomy x y with h' | h' | h'
      · exact h'
      · subst h'; rw [hyf] at hlx; cases hlx
      · have hxl : x < all.length := (List.getElem?_eq_some_iff.1 hox).1
        obtain ⟨qx, hqx⟩ : ∃ qx, (masks all [])[x]? = some qx := ⟨_, List.getElem?_eq_getElem (by rw [hM.1]; exact hxl)⟩
        have := hback x qx hqx (C.reg.pair y x r.o ox qx ho' hox hqx h' (by rw [touch_of' hdx ht]; rfl))
        rw [this] at hlx; cases hlx
  have hget : ∀ t ∈ looks all r.o, ∀ v, r.F.get t = some v → ∃ v', a.tmps[t]? = some v' ∧ VR σ v v' := fun t ht v hv => I.fr y t v (by omega) (hlooks t ht) (by rw [frAt_of hr]; exact hv)
  have hO : OK P σ r.F a r.o.op.operands.toList := ok_of I.rel.glob fun t ht v hv => hget t (looks_op ht) v hv
  have hwant : ∀ b, wantedA all r.o r.F = some b → Region.wanted r.o (yielded ⟨all⟩ a.tmps) = b := fun b hb => wanted_run (σ := σ) hb fun j want d hg hd v hv => hget d (looks_guard hg hd) v hv
  have hclosed' : ∀ (j : Nat), (listed.setIfInBounds y true).getD j false = true → ∀ o : Oper, all[j]? = some o → ∀ e ∈ o.after.toList, Region.binds .any e = true → (listed.setIfInBounds y true).getD e.on false = true := fun j hj o' ho2 e he hb => by
    rcases (set_getD hys).1 hj with e1 | e1
    · subst e1; rw [ho'] at ho2; cases ho2; exact (set_getD hys).2 (.inr (hedges e he hb))
    · exact (set_getD hys).2 (.inr (I.closed j e1 o' ho2 e he hb))
  have hloudB : ∀ (i : Nat) (r' : Rc), rs[i]? = some r' → r'.loud = loudB P r'.o := fun i r' hr' => by
    obtain ⟨h', _, _, _, ho2, hh2, _, _, hw2, _⟩ := C.passed.at i r' hr'
    obtain ⟨h3, e3, e4⟩ := C.ho.ok i r'.o ho2
    rw [hh2] at e3; cases e3
    exact hw2.loudIs e4
  -- where a loud one stands
  have hpos : r.loud = true → r.at_ = c := fun hl => by
    have h1 : ¬ r.at_ < c := fun hc => by rw [(I.loud y r hr hl).2 hc] at hyf; cases hyf
    rcases Nat.lt_or_ge c r.at_ with h2 | h2
    · obtain ⟨i, r', hi, hr', hl', hc'⟩ := C.passed.gap y r c hr (Nat.zero_le _) h2
      obtain ⟨_, _, _, _, ho2, _⟩ := C.passed.at i r' hr'
      have := hbits i (C.reg.pair i y r'.o r.o q ho2 ho' hq hi (by rw [← hloudB i r' hr', ← hloudB y r hr, hl, hl']; simp))
      have := (I.loud i r' hr' hl').1 this
      omega
    · omega
  have hloudT : r.loud = true → ∀ (i : Nat) (r' : Rc), rs[i]? = some r' → r'.loud = true → ((listed.setIfInBounds y true).getD i false = true ↔ r'.at_ < c + 1) := fun hl i r' hr' hl' => by
    rw [set_getD hys]
    have hpc := hpos hl
    rcases Nat.lt_trichotomy i y with h' | h' | h'
    · have := C.passed.order i y r' r h' hr' hr hl'
      rw [I.loud i r' hr' hl']; omega
    · subst h'; rw [hr] at hr'; cases hr'; simp; omega
    · have := C.passed.order y i r r' h' hr hr' hl
      rw [I.loud i r' hr' hl']; omega
  have hloudF : r.loud = false → ∀ (i : Nat) (r' : Rc), rs[i]? = some r' → r'.loud = true → ((listed.setIfInBounds y true).getD i false = true ↔ r'.at_ < c) := fun hl i r' hr' hl' => by
    rw [set_getD hys, I.loud i r' hr' hl']
    constructor
    · rintro (e | e)
      · subst e; rw [hr] at hr'; cases hr'; rw [hl] at hl'; cases hl'
      · exact e
    · exact .inr
  have hmade : ∀ (σ' : Sg), (∀ id, id < Ac.next → σ' id = σ id) → ∀ (i id : Nat), hs[i]? = some (some id) → (listed.setIfInBounds y true).getD i false = false → σ' id = none := fun σ' he i id hi hf => by
    rw [he id (I.ids i id hi)]
    refine I.made i id hi ?_
    cases hlx : listed.getD i false with
    | false => rfl
    | true => rw [(set_getD hys).2 (.inr hlx)] at hf; cases hf
  -- a window
  have hwin : r.loud = false → isOwn h r c = false → Again P all r h Ac := fun hl hown => by
    obtain ⟨hlen2, hes⟩ := C.passed.louds C.ho.ok (masks all []) 0 hM.1
    refine C.wins y r h q hr hl hh hq c Ac I.st ?_ ?_ hown
    · rcases loOf_is (m := q) (es := louds P all (masks all []) 0) (k := 0) (acc := 0) with e | ⟨j, e, he, hb, hlo⟩
      · rw [e]; omega
      · rw [hlo]
        obtain ⟨i, r', e1, hr', hl', hat', _⟩ := hes j e he
        have := (I.loud i r' hr' hl').1 (by have := hbits e.1 hb; rw [e1, Nat.zero_add] at this; exact this)
        omega
    · have hcl : c ≤ As.length := by
        have := (List.getElem?_eq_some_iff.1 I.st).1
        simp at this; omega
      rcases hiOf_is (i := y) (es := louds P all (masks all []) 0) (k := 0) with e | ⟨j, e, he, hb, hhi⟩
      · rw [e, hlen2]; omega
      · rw [hhi]
        obtain ⟨i, r', e1, hr', hl', hat', hm'⟩ := hes j e he
        have hx := hback i e.2 hm' hb
        have : ¬ r'.at_ < c := fun hc => by rw [(I.loud i r' hr' hl').2 hc] at hx; cases hx
        omega
  unfold wpOp
  simp only [ho]
  generalize hv0 : r.v = v0 at hwhat
  generalize hl00 : r.loud = l0 at hwhat hl1 hl0
  cases hwhat with
  | off hb =>
    rw [hwant _ hb]
    simp only [Bool.false_eq_true, if_false]
    have hfr := I.frames C hr hys hback (fun _ _ h => h) (σ' := σ) (a' := a) rfl (v' := undef) (by rw [hv0]; exact .undef)
    cases hll : r.loud with
    | true =>
      have hm : m = c := by rw [← hat]; exact hpos hll
      subst hm
      rw [I.st] at hst; cases hst
      refine hK σ _ w (m + 1) Ac ⟨by simpa using I.lsize, hclosed', by rw [put_size]; exact I.tsize, hfr, ?_, I.rel, hloudT hll, hmade σ fun _ _ => rfl, I.ids, I.step, by rw [put_defs]; exact I.ds⟩
      exact hl1 (by rw [← hl00]; exact hll)
    | false => exact hK σ _ w c Ac ⟨by simpa using I.lsize, hclosed', by rw [put_size]; exact I.tsize, hfr, I.st, I.rel, hloudF hll, hmade σ fun _ _ => rfl, I.ids, I.step, by rw [put_defs]; exact I.ds⟩
  | made id hb hid hmv =>
    rw [hwant _ hb]
    simp only [if_true]
    refine .inl ?_
    subst hid
    have hfresh : freshAt P r.F r.o.op id Ac.heap = true := (hwin hl00 rfl).resolve_left (by rw [made_soft hmv]; decide) hb
    obtain ⟨v', x, ob', hgo, hrun, hor, hvr⟩ := fresh_run I.rel hO hmv hfresh
    have hidn := I.made y id hh hyf
    have hidl := I.ids y id hh
    have hR' := I.rel.place (w' := { w with heap := w.heap.push x }) hidn hidl hgo rfl hor
    have hS' := I.step.place (w' := { w with heap := w.heap.push x }) (x := x) (d := 0) (C.ho.ids y id hh).1 rfl rfl rfl rfl
    have hsub := sub_ext (w.heap.size, 0) hidn
    have hfr := I.frames C hr hys hback hsub (a' := a) rfl (v' := v') (by rw [hv0]; exact hvr)
    unfold Oper.wp
    rw [hrun, Oper.upon_value]
    refine hK _ _ _ c Ac ⟨by simpa using I.lsize, hclosed', by rw [put_size]; exact I.tsize, hfr, I.st, hR', hloudF hl00, ?_, I.ids, hS', by rw [put_defs]; exact I.ds.sub hsub⟩
    intro i id' hi hf
    by_cases e : id' = id
    · subst e
      have hiy : i = y := by
        rcases Nat.lt_trichotomy i y with h' | h' | h'
        · have := C.ho.lt i y _ _ h' hi hh; omega
        · exact h'
        · have := C.ho.lt y i _ _ h' hh hi; omega
      subst hiy
      rw [(set_getD hys).2 (.inl rfl)] at hf; cases hf
    · rw [ext_other _ e]
      exact hmade σ (fun _ _ => rfl) i id' hi hf
  | quiet hb hn hi hv =>
    rw [hwant _ hb]
    simp only [if_true]
    refine .inl ?_
    have hev : QSem P r.o r.F Ac r.v := by
      by_cases hmc : m = c
      · subst hmc; rw [I.st] at hst; cases hst; rw [hv0]; exact hv
      · subst hn
        exact (hwin hl00 (by
          show Nat.beq c r.at_ = false
          cases hx : Nat.beq c r.at_ with
          | false => rfl
          | true => exact absurd (beqIff.1 hx) (by omega))).resolve_left (by rw [soft_isE hi]; decide) hb
    obtain ⟨v', h1, h2⟩ := hev σ w a I.rel hO
    have hfr := I.frames C hr hys hback (fun _ _ h => h) (σ' := σ) (a' := a) rfl (v' := v') h1
    unfold Oper.wp
    rw [h2, Oper.upon_value]
    exact hK σ _ w c Ac ⟨by simpa using I.lsize, hclosed', by rw [put_size]; exact I.tsize, hfr, I.st, I.rel, hloudF hl00, hmade σ fun _ _ => rfl, I.ids, I.step, by rw [put_defs]; exact I.ds⟩
  | soft hb hn hs hv =>
    rw [hwant _ hb]
    simp only [if_true]
    refine .inl ?_
    refine hv.2 σ Ac w a I.rel hO _ _ fun w' hbl => ?_
    obtain ⟨hR', hS'⟩ := I.rel.below hbl
    have hfr := I.frames C hr hys hback (fun _ _ h => h) (σ' := σ) (a' := a) rfl (v' := v0) (by rw [hv0]; exact .refl_flat2 hv.1)
    exact hK σ _ w' c Ac ⟨by simpa using I.lsize, hclosed', by rw [put_size]; exact I.tsize, hfr, I.st, hR', hloudF hl00, hmade σ fun _ _ => rfl, I.ids, I.step.trans hS', by rw [put_defs]; exact I.ds⟩
  | loud hb hn hi _ hv =>
    rw [hwant _ hb]
    simp only [if_true]
    refine .inl ?_
    have hm : m = c := by rw [← hat]; exact hpos hl00
    subst hm
    rw [I.st] at hst; cases hst
    refine hv σ w a ds I.rel hO I.ds _ _ fun v' a' σ' w' ht hd hv' hR' hS' => ?_
    have hsub := hS'.sub I.rel.lim
    have hfr := I.frames C hr hys hback hsub (a' := a') ht (v' := v') (by rw [hv0]; exact hv')
    have hnx := hS'.next
    exact hK σ' _ w' (m + 1) B ⟨by simpa using I.lsize, hclosed', by rw [put_size, ht]; exact I.tsize, hfr, hl1 rfl, hR', hloudT hl00, hmade σ' hS'.ext, fun i id hi => by have := I.ids i id hi; omega, I.step.trans hS', by rw [put_defs]; exact hd⟩
theorem count_set {l : List Bool} : ∀ {i : Nat}, l[i]? = some false → (l.set i true).count false + 1 = l.count false := by
  induction l with
  | nil => intro i h; simp at h
  | cons b l ih =>
    intro i h
    cases i with
    | zero => simp at h; subst h; simp
    | succ i =>
      have := ih (i := i) (by simpa using h)
      cases b <;> simp <;> omega
theorem Inv.any {Q : Exit → Act → World → Prop} (C : Ctx P call N all ds A0 hs A1 F0 rs As F' A')
    (hQ : ∀ σ' a' w', SR P N σ' ⟨F', A', ds⟩ a' w' → Step σ0 A0 w0 σ' A' w' → Q .normal a' w') : ∀ (fuel : Nat) (listed : Array Bool) (σ : Sg) (a : Act) (w : World) (c : Nat) (Ac : AW),
      Inv P N all ds A0 hs A1 rs As F' σ0 w0 listed σ a w c Ac → listed.toList.count false ≤ fuel → wpAny P .any ⟨all⟩ Q fuel listed a w := by
  have hlen := C.passed.len
  -- the end
  have hend : ∀ (listed : Array Bool) (σ : Sg) (a : Act) (w : World) (c : Nat) (Ac : AW), Inv P N all ds A0 hs A1 rs As F' σ0 w0 listed σ a w c Ac → (∀ x, x < all.length → listed.getD x false = true) → Q .normal a w := by
    intro listed σ a w c Ac I hall
    obtain ⟨hlen2, hes⟩ := C.passed.louds C.ho.ok (masks all []) 0 (masks_ok all).1
    have hcl : c ≤ As.length := by
      have := (List.getElem?_eq_some_iff.1 I.st).1
      simp at this; omega
    have hc : c = As.length := by
      rcases Nat.lt_or_ge c As.length with h | h
      · have hlt : c < (louds P all (masks all []) 0).length := by omega
        obtain ⟨i, r, e1, hr, hl, hat, _⟩ := hes c _ (List.getElem?_eq_getElem hlt)
        have hi : i < all.length := by rw [← hlen]; exact (List.getElem?_eq_some_iff.1 hr).1
        have := (I.loud i r hr hl).1 (hall i hi)
        omega
      · omega
    subst hc
    have hA : Ac = A' := by have := C.passed.last; rw [I.st] at this; exact Option.some.inj this
    subst hA
    refine hQ σ a w ⟨⟨I.tsize, fun t v hv => ?_⟩, I.rel, I.ds⟩ I.step
    refine I.fr all.length t v (Nat.le_refl _) (fun x o hx _ => ?_) ?_
    · have hxl := (List.getElem?_eq_some_iff.1 hx).1
      exact ⟨fun _ => hall x hxl, fun _ => hxl⟩
    · have : frAt rs F' all.length = F' := by simp [frAt, List.getElem?_eq_none (show rs.length ≤ all.length by omega)]
      rw [this]; exact hv
  have hready : ∀ (listed : Array Bool) (σ : Sg) (a : Act) (w : World) (c : Nat) (Ac : AW), Inv P N all ds A0 hs A1 rs As F' σ0 w0 listed σ a w c Ac → Region.ready .any ⟨all⟩ listed = [] → ∀ x, x < all.length → listed.getD x false = true := by
    intro listed σ a w c Ac I he x
    induction x using Nat.strongRecOn with
    | _ x ih =>
      intro hx
      cases hlx : listed.getD x false with
      | true => rfl
      | false =>
        have : x ∈ Region.ready .any ⟨all⟩ listed := by
          refine mem_ready.2 ⟨?_, all[x], by simp [hx], fun e he hb => ?_⟩
          · have hs : x < listed.size := by rw [I.lsize]; exact hx
            simp [hs] at hlx ⊢; exact hlx
          · have hlt := C.reg.lt x all[x] (List.getElem?_eq_getElem hx) e (by simpa using he) hb
            exact ih e.on hlt (by omega)
        rw [he] at this; cases this
  intro fuel
  induction fuel with
  | zero =>
    intro listed σ a w c Ac I hf
    have hall : ∀ x, x < all.length → listed.getD x false = true := fun x hx => by
      have hs : x < listed.size := by rw [I.lsize]; exact hx
      cases hlx : listed.getD x false with
      | true => rfl
      | false =>
        have h1 : listed.toList[x]? = some false := by simp [hs] at hlx ⊢; exact hlx
        have := count_set h1
        omega
    refine ⟨?_, hend listed σ a w c Ac I hall⟩
    refine List.eq_nil_iff_forall_not_mem.2 fun y hy => ?_
    obtain ⟨h0, o, ho, _⟩ := mem_ready.1 hy
    obtain ⟨h1, h2⟩ := getD_parts h0
    rw [hall y (by rw [← I.lsize]; exact h1)] at h2; cases h2
  | succ fuel ih =>
    intro listed σ a w c Ac I hf
    refine ⟨fun he => hend listed σ a w c Ac I (hready listed σ a w c Ac I he), fun y hy => ?_⟩
    refine I.advance C hy fun σ' a' w' c' Ac' I' => ih _ σ' a' w' c' Ac' I' ?_
    obtain ⟨h0, o, ho, _⟩ := mem_ready.1 hy
    obtain ⟨h1, h2⟩ := getD_parts h0
    have h3 : listed.toList[y]? = some false := by simp [h1] at h2 ⊢; exact h2
    have := count_set h3
    rw [Array.toList_setIfInBounds]
    omega
end
theorem ctx_wp {σ : Sg} {w : World} (hmix : P.follows .mixedOrders = true) {all : List Oper} {id : Nat} {Q : Exit → Act → World → Prop} {s : St} {hs : List (Option Nat)} {A1 A' : AW} {F' : T Value} {rs : List Rc} {As : List AW} {a : Act} (hS : SR P N σ s a w)
    (C : Ctx P call N all s.ds s.A hs A1 s.F rs As F' A') (hQ : ∀ σ' a' w', SR P N σ' ⟨F', A', s.ds⟩ a' w' → Step σ s.A w σ' A' w' → Q .normal a' w') : (Code.region id ⟨all⟩ true).wp P Q a w := by
  have hpassed := C.passed
  have hho := C.ho
  refine wp_region_any hmix ?_
  have hstep : Step σ s.A w σ A1 { w with drawn := w.drawn + 1 } := by
    refine ⟨fun _ _ => rfl, hho.next, rfl, rfl, rfl, Nat.le_refl _, fun _ _ _ => rfl, ?_, ?_, ?_⟩
    · rintro b hb ⟨i, d, o, hi, hg, hm⟩
      have hil := hS.rel.lt hi
      rw [hho.old i hil] at hg
      exact ⟨i, d, o, hi, hg, hm⟩
    · intro i b d o hi hs _ _ _
      rw [hS.rel.lim i hi] at hs; cases hs
    · intro i o hi hg hl
      rw [hho.old i hi] at hg
      exact ⟨o, hg, hl⟩
  have hrel : Rel P σ A1 { w with drawn := w.drawn + 1 } := by
    refine ⟨⟨?_, ?_, fun i hi => hS.rel.lim i (Nat.le_trans hho.next hi), hS.rel.glob, hho.top hS.rel.top⟩, hS.rel.fro.step hstep⟩
    · intro i b d o hi hg hl
      rw [hho.old i (hS.rel.lt hi)] at hg
      exact hS.rel.obj i b d o hi hg hl
    · intro i j b d d' o o' hi hj hg hg' hl hl' hjk
      rw [hho.old i (hS.rel.lt hi)] at hg
      rw [hho.old j (hS.rel.lt hj)] at hg'
      exact hS.rel.inj i j b d d' o o' hi hj hg hg' hl hl' hjk
  have hnl : ∀ x, (Array.replicate all.length false).getD x false = false := fun x => by
    rcases Nat.lt_or_ge x all.length with h | h <;> simp [h]
  have hlen := hpassed.len
  have I : Inv P N all s.ds s.A hs A1 rs As F' σ w (Array.replicate all.length false) σ a { w with drawn := w.drawn + 1 } 0 A1 := by
    refine ⟨by simp, fun j hj => ?_, hS.fr.size, fun i t v hi hc hg => ?_, rfl, hrel, fun i r hr hl => ?_, fun i id hi _ => hS.rel.lim id (hho.ids i id hi).1, fun i id hi => (hho.ids i id hi).2, hstep, hS.ds⟩
    · rw [hnl] at hj; cases hj
    · have := hpassed.same (t := t) (i := 0) i (Nat.zero_le _) (by omega) fun x r _ hx hr hd => by
        obtain ⟨_, _, _, _, ho, _⟩ := hpassed.at x r hr
        have := (hc x r.o ho hd).1 hx
        rw [hnl] at this; cases this
      rw [this, hpassed.head] at hg
      exact hS.fr.get t v hg
    · rw [hnl]; simp
  exact Inv.any (Q := Q) C hQ all.length _ σ a _ 0 A1 I (by simp)
theorem wins_again {all : List Oper} {rs : List Rc} {hs : List (Option Nat)} {As : List AW} (hw : winsOk P all (louds P all (masks all []) 0) As rs hs (masks all []) 0 = true) :
    ∀ (i : Nat) (r : Rc) (h : Option Nat) (q : Nat), rs[i]? = some r → r.loud = false → hs[i]? = some h → (masks all [])[i]? = some q → ∀ (k : Nat) (Ac : AW), As[k]? = some Ac →
    loOf q (louds P all (masks all []) 0) 0 0 ≤ k → k ≤ hiOf i (louds P all (masks all []) 0) 0 → isOwn h r k = false → Again P all r h Ac := by
  intro i r h q hr hl hh hq k Ac hAc h1 h2 hown
  cases hso : softO P r.o.op with
  | true => exact .inl hso
  | false =>
  refine .inr fun hb => ?_
  obtain ⟨h2', q2, e1, e2, hw⟩ := winsOk_get hw i r hr
  rw [hh] at e1; cases e1
  rw [hq] at e2; cases e2
  have hw := hw.resolve_left (by rw [hl]; simp)
  rw [Nat.zero_add] at hw
  have hag := winOk_get hw k Ac hAc (by omega) (by omega) (by simpa using hown)
  simp only [againOk, hb, hso] at hag
  cases h with
  | none =>
    have hag : isSomeB (ob (evQ r.o.op P r.F Ac.heap) fun v => bt (veq2 v r.v) (some ())) = true := hag
    simp only [isSomeB_iff, ob_some, bt_some] at hag
    obtain ⟨_, v, hv1, hv2, _⟩ := hag
    exact .of (by rw [hv1, veq2_eq hv2])
  | some id =>
    cases hx : freshAt P r.F r.o.op id Ac.heap with
    | true => exact hx
    | false =>
      have hag : isSomeB (bt (freshAt P r.F r.o.op id Ac.heap) (some ())) = true := hag
      rw [hx] at hag; cases hag
theorem draw_wp {σ : Sg} {w : World} (hmix : P.follows .mixedOrders = true) (hcall : CallOK P call) {all : List Oper} {id : Nat} {Q : Exit → Act → World → Prop} {s s' : St} {a : Act} (hS : SR P N σ s a w) (h : drawOps P call N all s = some s')
    (hQ : ∀ σ' a' w', SR P N σ' s' a' w' → Step σ s.A w σ' s'.A w' → Q .normal a' w') : (Code.region id ⟨all⟩ true).wp P Q a w := by
  simp only [drawOps, bt_some, ob_some, Option.some.injEq] at h
  obtain ⟨hreg, ⟨hs, A1⟩, hh, ⟨rs, As, s1⟩, hp, hw, e⟩ := h
  simp only at hh hp hw e
  subst e
  have hRO := regOk_ok hreg
  obtain ⟨hds, hpassed⟩ := passed_of hcall _ (fun o ho => by obtain ⟨i, hi⟩ := List.mem_iff_getElem?.1 ho; exact hRO.nodefer i o hi) _ _ _ _ _ _ hp
  simp only at hds hpassed
  refine ctx_wp (call := call) hmix hS (C := ⟨hpassed, hRO, hoist_ok _ _ _ _ hh, wins_again hw⟩) fun σ' a' w' hSR hst => hQ σ' a' w' ⟨hSR.fr, hSR.rel, ?_⟩ hst
  have := hSR.ds
  rw [hds]; exact this
end Go.Ev
end

/- The evaluator: code, calls: it is sound. -/
section
set_option linter.unusedSectionVars false
namespace Go.Ev
variable {P : Program} {N : Nat} {call : Caller} [Frozen P]
def exOf : Ox → Exit
  | .normal => .normal
  | .exit i => .exit i
  | .ret => .ret
def Post (P : Program) [Frozen P] (N : Nat) (σ : Sg) (A : AW) (w : World) (p : Ox × St) (e : Exit) (a : Act) (w' : World) : Prop := e = exOf p.1 ∧ ∃ σ', SR P N σ' p.2 a w' ∧ Step σ A w σ' p.2.A w'
theorem iter_wp {f : Run} {c : Code} (hc : ∀ (s : St) (p : Ox × St) (σ : Sg) (a : Act) (w : World), SR P N σ s a w → f s = some p → c.wp P (Post P N σ s.A w p) a w) :
    ∀ (n : Nat) (s : St) (p : Ox × St) (σ : Sg) (a : Act) (w : World), SR P N σ s a w → iter n f s = some p → ∀ (b : Frame) (k : List Item) (cs : List Frame),
      ∃ e a' w', Post P N σ s.A w p e a' w' ∧ Arrives P (lone (b.at a (.code c :: .inLoop c :: k)) cs w) b k cs e a' w' := by
  intro n
  induction n with
  | zero => intro s p σ a w _ h; cases h
  | succ n ih =>
    intro s p σ a w hS h b k cs
    have h : (ob (f s) fun p => Ox.rec (iter n f p.2) (fun i => some (.exit i, p.2)) (some (.ret, p.2)) p.1) = some p := h
    rw [ob_some] at h
    obtain ⟨⟨x, s1⟩, h1, h2⟩ := h
    obtain ⟨e, a₁, w₁, ⟨he, σ1, hS1, hst⟩, harr⟩ := hc s (x, s1) σ a w hS h1 b (.inLoop c :: k) cs
    cases x with
    | normal =>
      have h2 : iter n f s1 = some p := h2
      obtain rfl : e = .normal := he
      obtain ⟨e2, a2, w2, ⟨he2, σ2, hS2, hst2⟩, harr2⟩ := ih s1 p σ1 a₁ w₁ hS1 h2 b k cs
      exact ⟨e2, a2, w2, ⟨he2, σ2, hS2, hst.trans hst2⟩, .of_steps (Steps.trans harr (.one step_inLoop)) harr2⟩
    | exit i =>
      have h2 : some (Ox.exit i, s1) = some p := h2
      cases h2
      obtain rfl : e = .exit i := he
      exact ⟨_, a₁, w₁, ⟨rfl, σ1, hS1, hst⟩, .pass (x := .inLoop c) rfl (fun _ _ => .inl (by simp [exOf])) harr⟩
    | ret =>
      have h2 : some (Ox.ret, s1) = some p := h2
      cases h2
      obtain rfl : e = .ret := he
      exact ⟨_, a₁, w₁, ⟨rfl, σ1, hS1, hst⟩, .pass (x := .inLoop c) rfl (fun _ _ => .inl (by simp [exOf])) harr⟩
theorem code_wp (hmix : P.follows .mixedOrders = true) (hcall : CallOK P call) (c : Code) : ∀ (s : St) (p : Ox × St) (σ : Sg) (a : Act) (w : World), SR P N σ s a w → evCode P call N c s = some p → c.wp P (Post P N σ s.A w p) a w := by
  induction c with
  | skip => intro s p σ a w hS h; have h : some (Ox.normal, s) = some p := h; cases h; exact wp_skip ⟨rfl, σ, hS, .refl hS.rel.lim⟩
  | label l => intro s p σ a w hS h; have h : some (Ox.normal, s) = some p := h; cases h; exact wp_label ⟨rfl, σ, hS, .refl hS.rel.lim⟩
  | exit id => intro s p σ a w hS h; have h : some (Ox.exit id, s) = some p := h; cases h; exact wp_exit ⟨rfl, σ, hS, .refl hS.rel.lim⟩
  | ret => intro s p σ a w hS h; have h : some (Ox.ret, s) = some p := h; cases h; exact wp_ret ⟨rfl, σ, hS, .refl hS.rel.lim⟩
  | goto l => intro s p σ a w hS h; cases h
  | refuse y => intro s p σ a w hS h; cases h
  | rangeFunc f ps x y _ _ => intro s p σ a w hS h; cases h
  | region id ops d =>
    intro s p σ a w hS h
    have h : cRegion P call N ops.toList d s = some p := h
    simp only [cRegion, ob_some, Option.some.injEq] at h
    obtain ⟨s', hq, rfl⟩ := h
    obtain ⟨ops⟩ := ops
    cases d with
    | false => exact region_wp hcall hS hq fun σ' a' w' h1 h2 => ⟨rfl, σ', h1, h2⟩
    | true => exact draw_wp hmix hcall hS hq fun σ' a' w' h1 h2 => ⟨rfl, σ', h1, h2⟩
  | seq x y ihx ihy =>
    intro s p σ a w hS h
    have h : cSeq (evCode P call N x) (evCode P call N y) s = some p := h
    simp only [cSeq, ob_some] at h
    obtain ⟨⟨o, s1⟩, h1, h2⟩ := h
    refine wp_seq (wp_mono (ihx s (o, s1) σ a w hS h1) ?_)
    rintro e a' w' ⟨rfl, σ1, hS1, hst⟩
    cases o with
    | normal =>
      refine wp_mono (ihy s1 p σ1 a' w' hS1 h2) ?_
      rintro e2 a2 w2 ⟨rfl, σ2, hS2, hst2⟩
      exact ⟨rfl, σ2, hS2, hst.trans hst2⟩
    | exit i =>
      have h2 : some (Ox.exit i, s1) = some p := h2
      cases h2
      exact ⟨rfl, σ1, hS1, hst⟩
    | ret =>
      have h2 : some (Ox.ret, s1) = some p := h2
      cases h2
      exact ⟨rfl, σ1, hS1, hst⟩
  | cond c x y ihx ihy =>
    intro s p σ a w hS h
    have h : cCond P c (evCode P call N x) (evCode P call N y) s = some p := h
    simp only [cCond, ob_some, boolOf_some] at h
    obtain ⟨v, hv, b, rfl, h⟩ := h
    have hc := (hS.fr.ok hS.rel.glob [c] c (by simp) _ hv).of_flat rfl
    refine wp_cond hc ?_
    cases b with
    | true => exact ihx s p σ a w hS h
    | false => exact ihy s p σ a w hS h
  | block id x ih =>
    intro s p σ a w hS h
    have h : cBlock id (evCode P call N x) s = some p := h
    simp only [cBlock, ob_some] at h
    obtain ⟨⟨o, s1⟩, h1, h2⟩ := h
    refine wp_block (wp_mono (ih s (o, s1) σ a w hS h1) ?_)
    rintro e a' w' ⟨rfl, σ1, hS1, hst⟩
    cases o with
    | normal =>
      have h2 : some (Ox.normal, s1) = some p := h2
      cases h2
      exact ⟨rfl, σ1, hS1, hst⟩
    | exit i =>
      have h2 : (Bool.rec (some (Ox.exit i, s1)) (some (Ox.normal, s1)) (Nat.beq i id) : Option (Ox × St)) = some p := h2
      show (if i = id then _ else _)
      cases hb : Nat.beq i id with
      | true => rw [hb] at h2; cases h2; rw [if_pos (beqIff.1 hb)]; exact ⟨rfl, σ1, hS1, hst⟩
      | false =>
        rw [hb] at h2; cases h2
        rw [if_neg (fun e => by rw [beqIff.2 e] at hb; cases hb)]; exact ⟨rfl, σ1, hS1, hst⟩
    | ret =>
      have h2 : some (Ox.ret, s1) = some p := h2
      cases h2
      exact ⟨rfl, σ1, hS1, hst⟩
  | loop x ih =>
    intro s p σ a w hS h b k cs
    have h : iter 1000000 (evCode P call N x) s = some p := h
    obtain ⟨e, a', w', hq, harr⟩ := iter_wp ih _ s p σ a w hS h b k cs
    exact ⟨e, a', w', hq, .of_steps (.one step_loop) harr⟩
  | scope x ih =>
    intro s p σ a w hS h
    have h : evCode P call N x s = some p := h
    refine wp_scope_straight (wp_mono (ih s p σ a w hS h) ?_)
    rintro e a' w' ⟨rfl, σ', h1, h2⟩
    obtain ⟨o, s1⟩ := p
    cases o <;> exact ⟨rfl, σ', h1, h2⟩
theorem frameOf_get (t : Nat) : ∀ (vs : List Value) (i : Nat) (F : T Value), (frameOf vs i F).get t = if i ≤ t ∧ t < i + vs.length then vs[t - i]? else F.get t := by
  intro vs
  induction vs with
  | nil => intro i F; rw [if_neg (by simp)]; rfl
  | cons v vs ih =>
    intro i F
    show (frameOf vs (Nat.succ i) (F.set i v)).get t = _
    rw [ih, get_set]
    have e : Nat.succ i = i + 1 := rfl
    rw [e]
    by_cases h1 : t = i
    · subst h1
      rw [if_neg (by omega), if_pos rfl, if_pos (by simp)]
      simp
    · by_cases h2 : i + 1 ≤ t ∧ t < i + 1 + vs.length
      · rw [if_pos h2, if_pos (by simp; omega)]
        rw [show t - i = (t - (i + 1)) + 1 by omega]
        simp
      · rw [if_neg h2, if_neg h1, if_neg (by simp; omega)]
structure EnvOK (P : Program) [Frozen P] (E : Env) : Prop where
  mixed : P.follows .mixedOrders = true
  name : ∀ (f : Nat) (fn : Func), P.funcs[f]? = some fn → (fn.name == "runtime.NumGoroutine") = false
  dh : ∀ f ∈ E.dh, (∀ args w, (callFunc f args).run P w = .ok (.enter f args) w) ∧ ∀ x w, CallsD P f #[x] .returning w fun e u' w' => (∃ v, e = .returned v) ∧ u' = .returning ∧ w' = w
  ne : ∀ f ∈ E.ne, ∀ x w, (callFunc f #[x]).run P w = .ok (.value x) w
  mz : ∀ f ∈ E.mz, ∀ (n : Nat) (w : World), n ≤ 1073741824 → ∃ (cs : Array Value) (w' : World), (callFunc f #[.int .i64 (.ofNat n)]).run P w = .ok (.value (.slice (some ⟨w.heap.size, 0, none⟩) n cs.size)) w' ∧ w'.heap = w.heap.push (.cells cs E.ty) ∧ n ≤ cs.size ∧
    w'.os = w.os ∧ w'.tape = w.tape ∧ w'.output = w.output
  one : E.mz = [] ∨ ∃ i, P.info? E.ty = some i ∧ i.size = 1
theorem oneV_some {vs : List Value} {v : Value} : oneV vs = some v ↔ vs = [v] := by
  cases vs with
  | nil => constructor <;> intro h <;> cases h
  | cons x l => cases l with
    | nil => show some x = some v ↔ _; simp
    | cons y l => constructor <;> intro h <;> cases h
theorem ext_ok {E : Env} (hE : EnvOK P E) {f : FuncId} {args args' : List Value} {A A' : AW} {v : Value} (h : extA E f args A = some (v, A')) {σ : Sg} {w : World} (hR : Rel P σ A w) (ha : VRL σ args args') : Serves P σ A w ((callFunc f ⟨args'⟩).run P w) v A' := by
  simp only [extA, ob_some, oneV_some] at h
  obtain ⟨x, rfl, h⟩ := h
  cases ha with
  | cons hx hnil =>
    cases hnil
    rename_i x'
    cases hb : memB f E.ne with
    | true =>
      rw [hb] at h
      have h : some (x, A) = some (v, A') := h
      cases h
      exact .inl ⟨x', w, hE.ne f (memB_iff.1 hb) x' w, σ, hx, hR, .refl hR.lim⟩
    | false =>
      rw [hb] at h
      simp only [bt_some, ob_some, i64V_some, bleIff, newSlice, Option.some.injEq, Prod.mk.injEq] at h
      obtain ⟨hm, n, rfl, hn, rfl, rfl⟩ := h
      obtain rfl := hx.of_flat rfl
      obtain ⟨cs, w', h1, h2, h3, h4, h5, h6⟩ := hE.mz f (memB_iff.1 hm) n w hn
      obtain ⟨i, hi, hi1⟩ := hE.one.resolve_left fun e => by rw [e] at hm; cases hm
      have hg := hR.new (o := .row [] E.ty (.grown n)) (d := cs.size - n) (x := .cells cs E.ty) h2
        ⟨.inr rfl, by
          have := rowR_grown (P := P) (σ := σ) (c := []) (cs := []) (x := cs.toList) (e := E.ty) (rc := n) (d := cs.size - n) (fz := (0, 0)) .nil hi (by rw [hi1]; simp; omega) (unfrozen_zero _)
          exact this⟩ h4 h5 h6
      refine .inl ⟨_, w', h1, _, ?_, hg.1, hg.2⟩
      have := VR.slice (σ := ext σ A.next (w.heap.size, cs.size - n)) (i := A.next) (o := 0) (l := n) (c := n) (ext_self _ _)
      rw [show n + (cs.size - n) = cs.size by omega] at this
      exact this
def resOne (tmps : Array Value) : ResultVar → Sem Value
  | .tmp t => pure (tmps.getD t undef)
  | .cell x t => do loadVar t (← asAddr (tmps.getD x undef))
theorem results_def (fn : Func) (tmps : Array Value) : results fn tmps = (do let vs ← fn.results.mapM (resOne tmps); pure (if h : vs.size = 1 then vs[0] else .tuple vs)) := by
  unfold results
  congr 1
theorem resA_run {σ : Sg} {A : AW} {w : World} (hR : Rel P σ A w) {F : T Value} {a : Act} (hF : FrR N σ F a) : ∀ {rs : List ResultVar} {vs : List Value}, resA P F A.heap rs = some vs →
    ∃ vs', VRL σ vs vs' ∧ (rs.mapM (resOne a.tmps)).run P w = .ok vs' w := by
  intro rs
  induction rs with
  | nil => intro vs h; have := omap_nil.1 h; subst this; exact ⟨[], .nil, rfl⟩
  | cons r rs ih =>
    intro vs h
    obtain ⟨y, ys, h1, h2, rfl⟩ := omap_cons.1 h
    obtain ⟨vs', h3, h4⟩ := ih h2
    have hone : ∃ y', VR σ y y' ∧ (resOne a.tmps r).run P w = .ok y' w := by
      cases r with
      | tmp t =>
        have h1 : F.get t = some y := h1
        obtain ⟨y', e1, e2⟩ := hF.get t y h1
        exact ⟨y', e2, by simp [resOne, e1]⟩
      | cell x t =>
        have h1 : ob (F.get x) (loadA P t A.heap) = some y := h1
        rw [ob_some] at h1
        obtain ⟨p, hp, hl⟩ := h1
        obtain ⟨p', e1, e2⟩ := hF.get x p hp
        obtain ⟨y', e3, _, q, e4, e5⟩ := run_loadA hR hl e2
        subst e4
        exact ⟨y', e3, by simp [resOne, e1, asAddr, e5]⟩
    obtain ⟨y', e1, e2⟩ := hone
    refine ⟨y' :: vs', .cons e1 h3, ?_⟩
    simp only [List.mapM_cons, Sem.run_bind, e2, Result.andThen_ok, h4, Sem.run_pure]
theorem results_run {σ : Sg} {A : AW} {w : World} (hR : Rel P σ A w) {F : T Value} {a : Act} (hF : FrR N σ F a) {fn : Func} {vs : List Value} (h : resA P F A.heap fn.results.toList = some vs) :
    ∃ v', VR σ (resultA vs) v' ∧ (results fn a.tmps).run P w = .ok v' w := by
  obtain ⟨vs', h1, h2⟩ := resA_run hR hF h
  refine ⟨if hh : vs'.toArray.size = 1 then vs'.toArray[0] else .tuple vs'.toArray, ?_, ?_⟩
  · cases h1 with
    | nil => exact .tuple .nil
    | cons e1 e2 => cases e2 with
      | nil => exact e1
      | cons e3 e4 => exact .tuple (.cons e1 (.cons e3 e4))
  · have : fn.results = fn.results.toList.toArray := rfl
    rw [results_def, this, List.mapM_toArray]
    simp only [Sem.run_bind, Sem.run_map, h2, Result.andThen_ok, Sem.run_pure]
theorem entered {f : FuncId} {fn : Func} {c : Code} (hname : (fn.name == "runtime.NumGoroutine") = false) (hf : P.funcs[f]? = some fn) (hb : fn.body = some c) (args : Array Value) (w : World) : (callFunc f args).run P w = .ok (.enter f args) w := by
  have hname : fn.name ≠ "runtime.NumGoroutine" := by simpa using hname
  simp [callFunc, hf, hname, hb]
theorem body_SR {fn : Func} {args args' : List Value} {A : AW} {σ : Sg} {w : World} (hle : args.length ≤ fn.ntmps) (hR : Rel P σ A w) (ha : VRL σ args args') :
    SR P fn.ntmps σ ⟨frameOf args 0 .e, A, []⟩ { tmps := (⟨args'⟩ : Array Value) ++ Array.replicate (fn.ntmps - (⟨args'⟩ : Array Value).size) undef, defers := [] } w := by
  have hlen := ha.length
  refine ⟨⟨by simp; omega, fun t u hu => ?_⟩, hR, .nil⟩
  simp only [frameOf_get] at hu
  split at hu
  · simp only [Nat.sub_zero] at hu
    obtain ⟨u', e1, e2⟩ := ha.get hu
    refine ⟨u', ?_, e2⟩
    rw [Array.getElem?_append_left (by simp; omega)]
    simpa using e1
  · cases hu
theorem funcA_some {f : FuncId} {fn : Func} (h : funcA P f = some fn) : P.funcs[f]? = some fn := by
  have : lget P.funcs.toList f = some fn := h
  rw [lget_eq] at this; simpa using this
theorem dCall_ok {E : Env} (hE : EnvOK P E) (hcall : CallOK P call) {f : FuncId} {args args' : List Value} {A A' : AW} {v : Value} (h : dCall P call f args A = some (v, A')) {σ : Sg} {w : World} (hR : Rel P σ A w) (ha : VRL σ args args') :
    (callFunc f ⟨args'⟩).run P w = .ok (.enter f ⟨args'⟩) w ∧ CallsD P f ⟨args'⟩ .returning w fun e u' w' => u' = .returning ∧ GoodE P σ A w v A' e w' := by
  simp only [dCall, ob_some] at h
  obtain ⟨fn, hf, c, hb, h⟩ := h
  have hf := funcA_some hf
  refine ⟨entered (hE.name f fn hf) hf hb _ w, ?_⟩
  simp only [bodyD, bt_some, bleIff, ob_some] at h
  obtain ⟨hle, ⟨o, s⟩, h1, h2⟩ := h
  have hS := body_SR (P := P) hle hR ha
  refine callsD_of_wp hf hb (wp_mono (code_wp hE.mixed hcall c _ (o, s) σ _ w hS h1) ?_)
  rintro e a' w' ⟨rfl, σ', hS', hst⟩
  have key : finD P fn s = some (v, A') → a'.defers = [] ∧ ∃ v', (results fn a'.tmps).run P w' = .ok v' w' ∧ GoodE P σ A w v A' (.returned v') w' := by
    intro hfn
    unfold finD at hfn
    have hds := hS'.ds
    simp only at hds
    cases hd : s.ds with
    | cons d ds => rw [hd] at hfn; cases hfn
    | nil =>
      rw [hd] at hfn hds
      simp only [ob_some, Option.some.injEq, Prod.mk.injEq] at hfn
      obtain ⟨vs, hvs, rfl, rfl⟩ := hfn
      obtain ⟨v', e1, e2⟩ := results_run hS'.rel hS'.fr hvs
      refine ⟨?_, v', e2, σ', e1, hS'.rel, hst⟩
      generalize a'.defers = q at hds
      cases hds; rfl
  cases o with
  | normal => exact key h2
  | ret => exact key h2
  | exit i => cases h2
theorem leaves_of {E : Env} (hE : EnvOK P E) (hcall : CallOK P call) {fn : Func} {tmps : Array Value} {R : Ending → World → Prop} {A' : AW} : ∀ (ds ds' : List Deferred) (σ : Sg) (A : AW) (w : World), DRL σ ds ds' → Rel P σ A w → leaveA P call E.dh ds A = some A' →
    (∀ σ' w', Rel P σ' A' w' → Step σ A w σ' A' w' → ∃ v, (results fn tmps).run P w' = .ok v w' ∧ R (.returned v) w') → Leaves P fn tmps R ds' .returning w := by
  intro ds
  induction ds with
  | nil =>
    intro ds' σ A w hD hR h hQ
    cases hD
    have h : some A = some A' := h
    cases h
    exact hQ σ w hR (.refl hR.lim)
  | cons d ds ih =>
    intro ds' σ A w hD hR h hQ
    cases hD with
    | @cons g cap cap' args args' l l' hc ha hl =>
      have h : (ob (plainFn (.fn g ⟨cap⟩)) fun p => (Bool.rec (ob (dCall P call p.1 (args ++ p.2.toList) A) fun q => leaveA P call E.dh ds q.2) (bt (lenB (args ++ p.2.toList) 1) (leaveA P call E.dh ds A)) (memB p.1 E.dh) : Option AW)) = some A' := h
      cases g with
      | func f =>
        have h : (Bool.rec (ob (dCall P call f (args ++ cap) A) fun q => leaveA P call E.dh ds q.2) (bt (lenB (args ++ cap) 1) (leaveA P call E.dh ds A)) (memB f E.dh) : Option AW) = some A' := h
        cases hm : memB f E.dh with
        | true =>
          rw [hm] at h
          rw [bt_some, lenB_iff] at h
          obtain ⟨h1, h⟩ := h
          obtain ⟨k1, k2⟩ := hE.dh f (memB_iff.1 hm)
          have hl1 : (args' ++ cap').length = 1 := by rw [(ha.append hc).length]; exact h1
          obtain ⟨x, hx⟩ := List.length_eq_one_iff.1 hl1
          have hx : (⟨args'⟩ : Array Value) ++ ⟨cap'⟩ = #[x] := by apply Array.toList_inj.1; simpa using hx
          refine leaves_cons (by simp) (f := f) (args := ⟨args'⟩ ++ ⟨cap'⟩) ?_ ?_
          · simp only [invoke]; exact k1 _ w
          · rw [hx]
            refine CallsD.mono (k2 _ w) ?_
            rintro e u' w' ⟨⟨v, rfl⟩, rfl, rfl⟩
            exact ih l' σ A w' hl hR h hQ
        | false =>
          rw [hm] at h
          simp only [ob_some] at h
          obtain ⟨⟨v, B⟩, hd, h⟩ := h
          obtain ⟨k1, k2⟩ := dCall_ok hE hcall hd hR (ha.append hc)
          refine leaves_cons (by simp) (f := f) (args := ⟨args' ++ cap'⟩) ?_ ?_
          · simp only [invoke]
            have : (⟨args'⟩ : Array Value) ++ ⟨cap'⟩ = ⟨args' ++ cap'⟩ := by apply Array.toList_inj.1; simp
            rw [this]; exact k1
          · refine CallsD.mono k2 ?_
            rintro e u' w' ⟨rfl, hg⟩
            cases e with
            | returned v' =>
              obtain ⟨σ', hv, hR', hst⟩ := hg
              exact ih l' σ' B w' (hl.sub (hst.sub hR.lim)) hR' h fun σ2 w2 h1 h2 => hQ σ2 w2 h1 (hst.trans h2)
            | _ => exact hg.elim
      | _ => cases h
theorem body_ok {E : Env} (hE : EnvOK P E) (hcall : CallOK P call) {f : FuncId} {fn : Func} {c : Code} (hf : P.funcs[f]? = some fn) (hb : fn.body = some c) {args args' : List Value} {A A' : AW} {v : Value} (h : bodyA P call E.dh fn c args A = some (v, A')) {σ : Sg} {w : World}
    (hR : Rel P σ A w) (ha : VRL σ args args') : Serves P σ A w ((callFunc f ⟨args'⟩).run P w) v A' := by
  simp only [bodyA, bt_some, bleIff, ob_some] at h
  obtain ⟨hle, ⟨o, s⟩, h1, h2⟩ := h
  refine .inr ⟨f, ⟨args'⟩, entered (hE.name f fn hf) hf hb _ w, ?_⟩
  refine calls_of_wp_defers hf hb ?_
  have hS := body_SR (P := P) hle hR ha
  refine wp_mono (code_wp hE.mixed hcall c _ (o, s) σ _ w hS h1) ?_
  rintro e a' w' ⟨rfl, σ', hS', hst⟩
  have key : finA P call E.dh fn s = some (v, A') → Leaves P fn a'.tmps (GoodE P σ A w v A') a'.defers .returning w' := by
    intro hfn
    simp only [finA, ob_some, Option.some.injEq, Prod.mk.injEq] at hfn
    obtain ⟨B, hl, vs, hvs, rfl, rfl⟩ := hfn
    refine leaves_of hE hcall _ _ σ' s.A w' hS'.ds hS'.rel hl fun σ2 w2 hR2 hst2 => ?_
    obtain ⟨v', e1, e2⟩ := results_run hR2 (hS'.fr.sub (hst2.sub hS'.rel.lim)) hvs
    exact ⟨v', e2, σ2, e1, hR2, hst.trans hst2⟩
  cases o with
  | normal => exact key h2
  | ret => exact key h2
  | exit i => cases h2
def HookOK (P : Program) [Frozen P] (hook : Caller → Caller) : Prop := ∀ c, CallOK P c → CallOK P (hook c)
theorem evCallH_ok {E : Env} (hE : EnvOK P E) {hook : Caller → Caller} (hH : HookOK P hook) : ∀ n, CallOK P (evCallH P E hook n) := by
  intro n
  induction n with
  | zero => intro f args A v A' h; cases h
  | succ n ih =>
    refine hH _ ?_
    intro f args A v A' h σ w args' hR ha
    simp only [ob_some] at h
    obtain ⟨fn, hf, h⟩ := h
    have hf := funcA_some hf
    cases hb : fn.body with
    | none => rw [hb] at h; exact ext_ok hE h hR ha
    | some c => rw [hb] at h; exact body_ok hE ih hf hb h hR ha
end Go.Ev
end
