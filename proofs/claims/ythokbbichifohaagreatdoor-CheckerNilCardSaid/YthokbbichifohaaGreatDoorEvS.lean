/- The evaluator: a region whose order is drawn: the invariant; soundness. -/
import Derived.Test.YthokbbichifohaaGreatDoorEvO
import Derived.Scope
import Derived.Defers
import Derived.Below
import GoSem.ClaimJoined
section
set_option linter.unusedSectionVars false
namespace Go.Ev
variable {P : Program} {N : Nat} {call : Caller} [Frozen P]
theorem memB_iff {d : Nat} : ∀ {l : List Nat}, memB d l = true ↔ d ∈ l := by
  intro l
  induction l with
  | nil => constructor <;> intro h <;> cases h
  | cons x l ih =>
    show (Bool.rec (memB d l) true (Nat.beq d x) : Bool) = true ↔ _
    cases hb : Nat.beq d x with
    | true => have := beqIff.1 hb; simp [this]
    | false =>
      have : d ≠ x := fun e => by rw [beqIff.2 e] at hb; cases hb
      show memB d l = true ↔ _
      rw [ih]; simp [this]
theorem mem_tmpsOf {t : Nat} : ∀ {os : List Operand} {l : List Nat}, t ∈ tmpsOf os l ↔ Operand.tmp t ∈ os ∨ t ∈ l := by
  intro os
  induction os with
  | nil => intro l; simp [tmpsOf]
  | cons o os ih =>
    intro l
    have hd : tmpsOf (o :: os) l = (Operand.rec (fun t => t :: tmpsOf os l) (fun _ => tmpsOf os l) (fun _ => tmpsOf os l) (fun _ => tmpsOf os l) o : List Nat) := rfl
    rw [hd]
    cases o with
    | tmp u => show t ∈ u :: tmpsOf os l ↔ _; simp [ih, or_assoc]
    | const v => show t ∈ tmpsOf os l ↔ _; rw [ih]; simp
    | global g => show t ∈ tmpsOf os l ↔ _; rw [ih]; simp
    | func g => show t ∈ tmpsOf os l ↔ _; rw [ih]; simp
theorem looks_op {all : List Oper} {o : Oper} {t : Nat} (h : Operand.tmp t ∈ o.op.operands.toList) : t ∈ looks all o := by
  unfold looks; rw [mem_tmpsOf]; exact .inl h
theorem looks_guard {all : List Oper} {o : Oper} {j d : Nat} {want : Bool} (h : o.guard = some (j, want)) (hd : guardOf all j = some d) : d ∈ looks all o := by
  unfold looks; rw [mem_tmpsOf]; refine .inr ?_
  rw [h]
  show d ∈ (Option.rec [] (fun d => [d]) (guardOf all j) : List Nat)
  rw [hd]; exact List.mem_cons_self
theorem touch_of {all : List Oper} {x y : Oper} {t : Nat} (hx : x.dst = some t) (hy : t ∈ looks all y) : touch all x y = true := by
  unfold touch hits; rw [hx]; show (memB t (looks all y) || _) = true; rw [memB_iff.2 hy]; rfl
theorem touch_of' {all : List Oper} {x y : Oper} {t : Nat} (hy : y.dst = some t) (hx : t ∈ looks all x) : touch all x y = true := by
  unfold touch hits; rw [hy]
  have : memB t (looks all x) = true := memB_iff.2 hx
  show (_ || (memB t (looks all x) || _)) = true
  rw [this]; simp
theorem touch_same {all : List Oper} {x y : Oper} {t : Nat} (hx : x.dst = some t) (hy : y.dst = some t) : touch all x y = true := by
  unfold touch sameDst; rw [hx, hy]
  show (_ || (_ || Nat.beq t t)) = true
  rw [beqIff.2 rfl]; simp
theorem getD_parts {l : Array Bool} {j : Nat} (h : l.getD j true = false) : j < l.size ∧ l.getD j false = false := by
  rcases Nat.lt_or_ge j l.size with h' | h'
  · simp [h'] at h ⊢; exact h
  · simp [Array.getElem?_eq_none h'] at h
theorem set_getD {l : Array Bool} {y x : Nat} (hy : y < l.size) : ((l.setIfInBounds y true).getD x false = true) ↔ (x = y ∨ l.getD x false = true) := by
  by_cases e : x = y
  · subst e; simp [hy]
  · rw [getD_set_ne false (Ne.symm e)]; simp [e]
def Again (P : Program) [Frozen P] (all : List Oper) (r : Rc) (h : Option Nat) (A : AW) : Prop := softO P r.o.op = true ∨ (wantedA all r.o r.F = some true → match h with
  | none => QSem P r.o r.F A r.v
  | some id => freshAt P r.F r.o.op id A.heap = true)
structure Ctx (P : Program) [Frozen P] (call : Caller) (N : Nat) (all : List Oper) (ds : List Deferred) (A0 : AW) (hs : List (Option Nat)) (A1 : AW) (F0 : T Value) (rs : List Rc) (As : List AW) (F' : T Value) (A' : AW) : Prop where
  passed : Passed P call N all ds all hs 0 F0 A1 rs As F' A'
  reg : RegOK P all (masks all [])
  ho : Hoisted all A0 hs A1
  wins : ∀ (i : Nat) (r : Rc) (h : Option Nat) (q : Nat), rs[i]? = some r → r.loud = false → hs[i]? = some h → (masks all [])[i]? = some q → ∀ (k : Nat) (Ac : AW), (A1 :: As)[k]? = some Ac →
    loOf q (louds P all (masks all []) 0) 0 0 ≤ k → k ≤ hiOf i (louds P all (masks all []) 0) 0 → isOwn h r k = false → Again P all r h Ac
section
variable {all : List Oper} {ds : List Deferred} {A0 A1 A' : AW} {hs : List (Option Nat)} {F0 F' : T Value} {rs : List Rc} {As : List AW} {σ0 : Sg} {w0 : World}
structure Inv (P : Program) [Frozen P] (N : Nat) (all : List Oper) (ds : List Deferred) (A0 : AW) (hs : List (Option Nat)) (A1 : AW) (rs : List Rc) (As : List AW) (F' : T Value) (σ0 : Sg) (w0 : World)
    (listed : Array Bool) (σ : Sg) (a : Act) (w : World) (c : Nat) (Ac : AW) : Prop where
  lsize : listed.size = all.length
  closed : ∀ (j : Nat), listed.getD j false = true → ∀ o : Oper, all[j]? = some o → ∀ e ∈ o.after.toList, Region.binds .any e = true → listed.getD e.on false = true
  tsize : a.tmps.size = N
  fr : ∀ (i t : Nat) (v : Value), i ≤ all.length → (∀ (x : Nat) (o : Oper), all[x]? = some o → o.dst = some t → (x < i ↔ listed.getD x false = true)) → (frAt rs F' i).get t = some v → ∃ v', a.tmps[t]? = some v' ∧ VR σ v v'
  st : (A1 :: As)[c]? = some Ac
  rel : Rel P σ Ac w
  loud : ∀ (i : Nat) (r : Rc), rs[i]? = some r → r.loud = true → (listed.getD i false = true ↔ r.at_ < c)
  made : ∀ (i id : Nat), hs[i]? = some (some id) → listed.getD i false = false → σ id = none
  ids : ∀ (i id : Nat), hs[i]? = some (some id) → id < Ac.next
  step : Step σ0 A0 w0 σ Ac w
  ds : DRL σ ds a.defers
theorem Inv.frames {listed : Array Bool} {σ σ' : Sg} {a a' : Act} {w : World} {c : Nat} {Ac : AW} (C : Ctx P call N all ds A0 hs A1 F0 rs As F' A') (I : Inv P N all ds A0 hs A1 rs As F' σ0 w0 listed σ a w c Ac) {y : Nat} {r : Rc} (hr : rs[y]? = some r) (hy : y < listed.size)
    (hb : ∀ (x : Nat) (qx : Nat), (masks all [])[x]? = some qx → tbit qx y = true → listed.getD x false = false) (hsub : Sub σ σ') (ht : a'.tmps = a.tmps) {v' : Value} (hv : VR σ' r.v v') :
    ∀ (i t : Nat) (v : Value), i ≤ all.length → (∀ (x : Nat) (o : Oper), all[x]? = some o → o.dst = some t → (x < i ↔ (listed.setIfInBounds y true).getD x false = true)) → (frAt rs F' i).get t = some v → ∃ v'', (a'.put r.o.dst v').tmps[t]? = some v'' ∧ VR σ' v v'' := by
  intro i t v hi hc hg
  obtain ⟨h, m, A1', B, ho, _, _, _, _, _, _, hp⟩ := C.passed.at y r hr
  have hlen := C.passed.len
  by_cases hd : r.o.dst = some t
  · have hyi : y < i := (hc y r.o ho hd).2 ((set_getD hy).2 (.inl rfl))
    have hsame := C.passed.same (t := t) (i := y + 1) i hyi (by omega) fun x q hx1 hx2 hq hdq => by
      obtain ⟨_, _, _, _, hox, _⟩ := C.passed.at x q hq
      have hlx : listed.getD x false = true := by
        rcases (set_getD hy).1 ((hc x q.o hox hdq).1 hx2) with e | e
        · omega
        · exact e
      have hqx : ∃ qx, (masks all [])[x]? = some qx := by
        have : x < (masks all []).length := by rw [(masks_ok all).1]; exact (List.getElem?_eq_some_iff.1 hox).1
        exact ⟨_, List.getElem?_eq_getElem this⟩
      obtain ⟨qx, hqx⟩ := hqx
      have := C.reg.pair y x r.o q.o qx ho hox hqx (by omega) (by rw [touch_same hd hdq]; rfl)
      rw [hb x qx hqx this] at hlx
      cases hlx
    rw [hsame] at hg
    rcases putF_some hp with ⟨e, _⟩ | ⟨d, e1, hlt, e2⟩
    · rw [hd] at e; cases e
    · rw [hd] at e1; cases e1
      rw [e2, get_set, if_pos rfl] at hg
      cases hg
      refine ⟨v', ?_, hv⟩
      rw [hd]
      exact put_self a' t v' (by rw [ht, I.tsize]; exact hlt)
  · obtain ⟨u, h1, h2⟩ := I.fr i t v hi (fun x o hx hdo => by
      rw [hc x o hx hdo, set_getD hy]
      constructor
      · rintro (e | e)
        · subst e; rw [ho] at hx; cases hx; exact absurd hdo hd
        · exact e
      · exact .inr) hg
    exact ⟨u, by rw [put_get a' _ v' t hd, ht]; exact h1, h2.sub hsub⟩
theorem Inv.advance {listed : Array Bool} {σ : Sg} {a : Act} {w : World} {c : Nat} {Ac : AW} (C : Ctx P call N all ds A0 hs A1 F0 rs As F' A') (I : Inv P N all ds A0 hs A1 rs As F' σ0 w0 listed σ a w c Ac) {y : Nat} (hy : y ∈ Region.ready .any ⟨all⟩ listed)
    {K : Act → World → Prop} {Q : Exit → Act → World → Prop} (hK : ∀ σ' a' w' c' Ac', Inv P N all ds A0 hs A1 rs As F' σ0 w0 (listed.setIfInBounds y true) σ' a' w' c' Ac' → K a' w') : wpOp P ⟨all⟩ Q y K a w := by
  obtain ⟨hy0, o, ho, hedges⟩ := mem_ready.1 hy
  obtain ⟨hys, hyf⟩ := getD_parts hy0
  have ho' : all[y]? = some o := by simpa using ho
  have hedges : ∀ e ∈ o.after.toList, Region.binds .any e = true → listed.getD e.on false = true := fun e he hb => hedges e (by simpa using he) hb
  have hM := masks_ok all
  have hlen := C.passed.len
  have hyl : y < all.length := (List.getElem?_eq_some_iff.1 ho').1
  obtain ⟨r, hr⟩ : ∃ r, rs[y]? = some r := ⟨_, List.getElem?_eq_getElem (by omega)⟩
  obtain ⟨q, hq⟩ : ∃ q, (masks all [])[y]? = some q := ⟨_, List.getElem?_eq_getElem (by rw [hM.1]; exact hyl)⟩
  obtain ⟨h, m, A1', B, hro, hh, hat, hst, hwhat, hl1, hl0, hp⟩ := C.passed.at y r hr
  obtain rfl : r.o = o := by rw [ho'] at hro; exact (Option.some.inj hro).symm
  have hat : r.at_ = m := by omega
  have hbits : ∀ i, tbit q i = true → listed.getD i false = true := closed_bit hM C.reg.lt I.closed y r.o q ho' hq hedges
  have hback : ∀ (x qx : Nat), (masks all [])[x]? = some qx → tbit qx y = true → listed.getD x false = false := fun x qx hqx ht => by
    cases hlx : listed.getD x false with
    | false => rfl
    | true =>
      have hxl : x < all.length := by rw [← hM.1]; exact (List.getElem?_eq_some_iff.1 hqx).1
      have hox : all[x]? = some all[x] := List.getElem?_eq_getElem hxl
      have := closed_bit hM C.reg.lt I.closed x _ qx hox hqx (I.closed x hlx _ hox) y ht
      rw [hyf] at this; cases this
  have hlooks : ∀ t ∈ looks all r.o, ∀ (x : Nat) (ox : Oper), all[x]? = some ox → ox.dst = some t → (x < y ↔ listed.getD x false = true) := fun t ht x ox hox hdx => by
    constructor
    · intro hlt; exact hbits x (C.reg.pair x y ox r.o q hox ho' hq hlt (by rw [touch_of hdx ht]; rfl))
    · intro hlx
      rcases Nat.lt_trichotomy x y with h' | h' | h'
      · exact h'
      · subst h'; rw [hyf] at hlx; cases hlx
      · have hxl : x < all.length := (List.getElem?_eq_some_iff.1 hox).1
        obtain ⟨qx, hqx⟩ : ∃ qx, (masks all [])[x]? = some qx := ⟨_, List.getElem?_eq_getElem (by rw [hM.1]; exact hxl)⟩
        have := hback x qx hqx (C.reg.pair y x r.o ox qx ho' hox hqx h' (by rw [touch_of' hdx ht]; rfl))
        rw [this] at hlx; cases hlx
  have hget : ∀ t ∈ looks all r.o, ∀ v, r.F.get t = some v → ∃ v', a.tmps[t]? = some v' ∧ VR σ v v' := fun t ht v hv => I.fr y t v (by omega) (hlooks t ht) (by rw [frAt_of hr]; exact hv)
  have hO : OK P σ r.F a r.o.op.operands.toList := ok_of I.rel.glob fun t ht v hv => hget t (looks_op ht) v hv
  have hwant : ∀ b, wantedA all r.o r.F = some b → Region.wanted r.o (yielded ⟨all⟩ a.tmps) = b := fun b hb => wanted_run (σ := σ) hb fun j want d hg hd v hv => hget d (looks_guard hg hd) v hv
  have hclosed' : ∀ (j : Nat), (listed.setIfInBounds y true).getD j false = true → ∀ o : Oper, all[j]? = some o → ∀ e ∈ o.after.toList, Region.binds .any e = true → (listed.setIfInBounds y true).getD e.on false = true := fun j hj o' ho2 e he hb => by
    rcases (set_getD hys).1 hj with e1 | e1
    · subst e1; rw [ho'] at ho2; cases ho2; exact (set_getD hys).2 (.inr (hedges e he hb))
    · exact (set_getD hys).2 (.inr (I.closed j e1 o' ho2 e he hb))
  have hloudB : ∀ (i : Nat) (r' : Rc), rs[i]? = some r' → r'.loud = loudB P r'.o := fun i r' hr' => by
    obtain ⟨h', _, _, _, ho2, hh2, _, _, hw2, _⟩ := C.passed.at i r' hr'
    obtain ⟨h3, e3, e4⟩ := C.ho.ok i r'.o ho2
    rw [hh2] at e3; cases e3
    exact hw2.loudIs e4
  -- where a loud one stands
  have hpos : r.loud = true → r.at_ = c := fun hl => by
    have h1 : ¬ r.at_ < c := fun hc => by rw [(I.loud y r hr hl).2 hc] at hyf; cases hyf
    rcases Nat.lt_or_ge c r.at_ with h2 | h2
    · obtain ⟨i, r', hi, hr', hl', hc'⟩ := C.passed.gap y r c hr (Nat.zero_le _) h2
      obtain ⟨_, _, _, _, ho2, _⟩ := C.passed.at i r' hr'
      have := hbits i (C.reg.pair i y r'.o r.o q ho2 ho' hq hi (by rw [← hloudB i r' hr', ← hloudB y r hr, hl, hl']; simp))
      have := (I.loud i r' hr' hl').1 this
      omega
    · omega
  have hloudT : r.loud = true → ∀ (i : Nat) (r' : Rc), rs[i]? = some r' → r'.loud = true → ((listed.setIfInBounds y true).getD i false = true ↔ r'.at_ < c + 1) := fun hl i r' hr' hl' => by
    rw [set_getD hys]
    have hpc := hpos hl
    rcases Nat.lt_trichotomy i y with h' | h' | h'
    · have := C.passed.order i y r' r h' hr' hr hl'
      rw [I.loud i r' hr' hl']; omega
    · subst h'; rw [hr] at hr'; cases hr'; simp; omega
    · have := C.passed.order y i r r' h' hr hr' hl
      rw [I.loud i r' hr' hl']; omega
  have hloudF : r.loud = false → ∀ (i : Nat) (r' : Rc), rs[i]? = some r' → r'.loud = true → ((listed.setIfInBounds y true).getD i false = true ↔ r'.at_ < c) := fun hl i r' hr' hl' => by
    rw [set_getD hys, I.loud i r' hr' hl']
    constructor
    · rintro (e | e)
      · subst e; rw [hr] at hr'; cases hr'; rw [hl] at hl'; cases hl'
      · exact e
    · exact .inr
  have hmade : ∀ (σ' : Sg), (∀ id, id < Ac.next → σ' id = σ id) → ∀ (i id : Nat), hs[i]? = some (some id) → (listed.setIfInBounds y true).getD i false = false → σ' id = none := fun σ' he i id hi hf => by
    rw [he id (I.ids i id hi)]
    refine I.made i id hi ?_
    cases hlx : listed.getD i false with
    | false => rfl
    | true => rw [(set_getD hys).2 (.inr hlx)] at hf; cases hf
  -- a window
  have hwin : r.loud = false → isOwn h r c = false → Again P all r h Ac := fun hl hown => by
    obtain ⟨hlen2, hes⟩ := C.passed.louds C.ho.ok (masks all []) 0 hM.1
    refine C.wins y r h q hr hl hh hq c Ac I.st ?_ ?_ hown
    · rcases loOf_is (m := q) (es := louds P all (masks all []) 0) (k := 0) (acc := 0) with e | ⟨j, e, he, hb, hlo⟩
      · rw [e]; omega
      · rw [hlo]
        obtain ⟨i, r', e1, hr', hl', hat', _⟩ := hes j e he
        have := (I.loud i r' hr' hl').1 (by have := hbits e.1 hb; rw [e1, Nat.zero_add] at this; exact this)
        omega
    · have hcl : c ≤ As.length := by
        have := (List.getElem?_eq_some_iff.1 I.st).1
        simp at this; omega
      rcases hiOf_is (i := y) (es := louds P all (masks all []) 0) (k := 0) with e | ⟨j, e, he, hb, hhi⟩
      · rw [e, hlen2]; omega
      · rw [hhi]
        obtain ⟨i, r', e1, hr', hl', hat', hm'⟩ := hes j e he
        have hx := hback i e.2 hm' hb
        have : ¬ r'.at_ < c := fun hc => by rw [(I.loud i r' hr' hl').2 hc] at hx; cases hx
        omega
  unfold wpOp
  simp only [ho]
  generalize hv0 : r.v = v0 at hwhat
  generalize hl00 : r.loud = l0 at hwhat hl1 hl0
  cases hwhat with
  | off hb =>
    rw [hwant _ hb]
    simp only [Bool.false_eq_true, if_false]
    have hfr := I.frames C hr hys hback (fun _ _ h => h) (σ' := σ) (a' := a) rfl (v' := undef) (by rw [hv0]; exact .undef)
    cases hll : r.loud with
    | true =>
      have hm : m = c := by rw [← hat]; exact hpos hll
      subst hm
      rw [I.st] at hst; cases hst
      refine hK σ _ w (m + 1) Ac ⟨by simpa using I.lsize, hclosed', by rw [put_size]; exact I.tsize, hfr, ?_, I.rel, hloudT hll, hmade σ fun _ _ => rfl, I.ids, I.step, by rw [put_defs]; exact I.ds⟩
      exact hl1 (by rw [← hl00]; exact hll)
    | false => exact hK σ _ w c Ac ⟨by simpa using I.lsize, hclosed', by rw [put_size]; exact I.tsize, hfr, I.st, I.rel, hloudF hll, hmade σ fun _ _ => rfl, I.ids, I.step, by rw [put_defs]; exact I.ds⟩
  | made id hb hid hmv =>
    rw [hwant _ hb]
    simp only [if_true]
    refine .inl ?_
    subst hid
    have hfresh : freshAt P r.F r.o.op id Ac.heap = true := (hwin hl00 rfl).resolve_left (by rw [made_soft hmv]; decide) hb
    obtain ⟨v', x, ob', hgo, hrun, hor, hvr⟩ := fresh_run I.rel hO hmv hfresh
    have hidn := I.made y id hh hyf
    have hidl := I.ids y id hh
    have hR' := I.rel.place (w' := { w with heap := w.heap.push x }) hidn hidl hgo rfl hor
    have hS' := I.step.place (w' := { w with heap := w.heap.push x }) (x := x) (d := 0) (C.ho.ids y id hh).1 rfl rfl rfl rfl
    have hsub := sub_ext (w.heap.size, 0) hidn
    have hfr := I.frames C hr hys hback hsub (a' := a) rfl (v' := v') (by rw [hv0]; exact hvr)
    unfold Oper.wp
    rw [hrun, Oper.upon_value]
    refine hK _ _ _ c Ac ⟨by simpa using I.lsize, hclosed', by rw [put_size]; exact I.tsize, hfr, I.st, hR', hloudF hl00, ?_, I.ids, hS', by rw [put_defs]; exact I.ds.sub hsub⟩
    intro i id' hi hf
    by_cases e : id' = id
    · subst e
      have hiy : i = y := by
        rcases Nat.lt_trichotomy i y with h' | h' | h'
        · have := C.ho.lt i y _ _ h' hi hh; omega
        · exact h'
        · have := C.ho.lt y i _ _ h' hh hi; omega
      subst hiy
      rw [(set_getD hys).2 (.inl rfl)] at hf; cases hf
    · rw [ext_other _ e]
      exact hmade σ (fun _ _ => rfl) i id' hi hf
  | quiet hb hn hi hv =>
    rw [hwant _ hb]
    simp only [if_true]
    refine .inl ?_
    have hev : QSem P r.o r.F Ac r.v := by
      by_cases hmc : m = c
      · subst hmc; rw [I.st] at hst; cases hst; rw [hv0]; exact hv
      · subst hn
        exact (hwin hl00 (by
          show Nat.beq c r.at_ = false
          cases hx : Nat.beq c r.at_ with
          | false => rfl
          | true => exact absurd (beqIff.1 hx) (by omega))).resolve_left (by rw [soft_isE hi]; decide) hb
    obtain ⟨v', h1, h2⟩ := hev σ w a I.rel hO
    have hfr := I.frames C hr hys hback (fun _ _ h => h) (σ' := σ) (a' := a) rfl (v' := v') h1
    unfold Oper.wp
    rw [h2, Oper.upon_value]
    exact hK σ _ w c Ac ⟨by simpa using I.lsize, hclosed', by rw [put_size]; exact I.tsize, hfr, I.st, I.rel, hloudF hl00, hmade σ fun _ _ => rfl, I.ids, I.step, by rw [put_defs]; exact I.ds⟩
  | soft hb hn hs hv =>
    rw [hwant _ hb]
    simp only [if_true]
    refine .inl ?_
    refine hv.2 σ Ac w a I.rel hO _ _ fun w' hbl => ?_
    obtain ⟨hR', hS'⟩ := I.rel.below hbl
    have hfr := I.frames C hr hys hback (fun _ _ h => h) (σ' := σ) (a' := a) rfl (v' := v0) (by rw [hv0]; exact .refl_flat2 hv.1)
    exact hK σ _ w' c Ac ⟨by simpa using I.lsize, hclosed', by rw [put_size]; exact I.tsize, hfr, I.st, hR', hloudF hl00, hmade σ fun _ _ => rfl, I.ids, I.step.trans hS', by rw [put_defs]; exact I.ds⟩
  | loud hb hn hi _ hv =>
    rw [hwant _ hb]
    simp only [if_true]
    refine .inl ?_
    have hm : m = c := by rw [← hat]; exact hpos hl00
    subst hm
    rw [I.st] at hst; cases hst
    refine hv σ w a ds I.rel hO I.ds _ _ fun v' a' σ' w' ht hd hv' hR' hS' => ?_
    have hsub := hS'.sub I.rel.lim
    have hfr := I.frames C hr hys hback hsub (a' := a') ht (v' := v') (by rw [hv0]; exact hv')
    have hnx := hS'.next
    exact hK σ' _ w' (m + 1) B ⟨by simpa using I.lsize, hclosed', by rw [put_size, ht]; exact I.tsize, hfr, hl1 rfl, hR', hloudT hl00, hmade σ' hS'.ext, fun i id hi => by have := I.ids i id hi; omega, I.step.trans hS', by rw [put_defs]; exact hd⟩
theorem count_set {l : List Bool} : ∀ {i : Nat}, l[i]? = some false → (l.set i true).count false + 1 = l.count false := by
  induction l with
  | nil => intro i h; simp at h
  | cons b l ih =>
    intro i h
    cases i with
    | zero => simp at h; subst h; simp
    | succ i =>
      have := ih (i := i) (by simpa using h)
      cases b <;> simp <;> omega
theorem Inv.any {Q : Exit → Act → World → Prop} (C : Ctx P call N all ds A0 hs A1 F0 rs As F' A')
    (hQ : ∀ σ' a' w', SR P N σ' ⟨F', A', ds⟩ a' w' → Step σ0 A0 w0 σ' A' w' → Q .normal a' w') : ∀ (fuel : Nat) (listed : Array Bool) (σ : Sg) (a : Act) (w : World) (c : Nat) (Ac : AW),
      Inv P N all ds A0 hs A1 rs As F' σ0 w0 listed σ a w c Ac → listed.toList.count false ≤ fuel → wpAny P .any ⟨all⟩ Q fuel listed a w := by
  have hlen := C.passed.len
  -- the end
  have hend : ∀ (listed : Array Bool) (σ : Sg) (a : Act) (w : World) (c : Nat) (Ac : AW), Inv P N all ds A0 hs A1 rs As F' σ0 w0 listed σ a w c Ac → (∀ x, x < all.length → listed.getD x false = true) → Q .normal a w := by
    intro listed σ a w c Ac I hall
    obtain ⟨hlen2, hes⟩ := C.passed.louds C.ho.ok (masks all []) 0 (masks_ok all).1
    have hcl : c ≤ As.length := by
      have := (List.getElem?_eq_some_iff.1 I.st).1
      simp at this; omega
    have hc : c = As.length := by
      rcases Nat.lt_or_ge c As.length with h | h
      · have hlt : c < (louds P all (masks all []) 0).length := by omega
        obtain ⟨i, r, e1, hr, hl, hat, _⟩ := hes c _ (List.getElem?_eq_getElem hlt)
        have hi : i < all.length := by rw [← hlen]; exact (List.getElem?_eq_some_iff.1 hr).1
        have := (I.loud i r hr hl).1 (hall i hi)
        omega
      · omega
    subst hc
    have hA : Ac = A' := by have := C.passed.last; rw [I.st] at this; exact Option.some.inj this
    subst hA
    refine hQ σ a w ⟨⟨I.tsize, fun t v hv => ?_⟩, I.rel, I.ds⟩ I.step
    refine I.fr all.length t v (Nat.le_refl _) (fun x o hx _ => ?_) ?_
    · have hxl := (List.getElem?_eq_some_iff.1 hx).1
      exact ⟨fun _ => hall x hxl, fun _ => hxl⟩
    · have : frAt rs F' all.length = F' := by simp [frAt, List.getElem?_eq_none (show rs.length ≤ all.length by omega)]
      rw [this]; exact hv
  have hready : ∀ (listed : Array Bool) (σ : Sg) (a : Act) (w : World) (c : Nat) (Ac : AW), Inv P N all ds A0 hs A1 rs As F' σ0 w0 listed σ a w c Ac → Region.ready .any ⟨all⟩ listed = [] → ∀ x, x < all.length → listed.getD x false = true := by
    intro listed σ a w c Ac I he x
    induction x using Nat.strongRecOn with
    | _ x ih =>
      intro hx
      cases hlx : listed.getD x false with
      | true => rfl
      | false =>
        have : x ∈ Region.ready .any ⟨all⟩ listed := by
          refine mem_ready.2 ⟨?_, all[x], by simp [hx], fun e he hb => ?_⟩
          · have hs : x < listed.size := by rw [I.lsize]; exact hx
            simp [hs] at hlx ⊢; exact hlx
          · have hlt := C.reg.lt x all[x] (List.getElem?_eq_getElem hx) e (by simpa using he) hb
            exact ih e.on hlt (by omega)
        rw [he] at this; cases this
  intro fuel
  induction fuel with
  | zero =>
    intro listed σ a w c Ac I hf
    have hall : ∀ x, x < all.length → listed.getD x false = true := fun x hx => by
      have hs : x < listed.size := by rw [I.lsize]; exact hx
      cases hlx : listed.getD x false with
      | true => rfl
      | false =>
        have h1 : listed.toList[x]? = some false := by simp [hs] at hlx ⊢; exact hlx
        have := count_set h1
        omega
    refine ⟨?_, hend listed σ a w c Ac I hall⟩
    refine List.eq_nil_iff_forall_not_mem.2 fun y hy => ?_
    obtain ⟨h0, o, ho, _⟩ := mem_ready.1 hy
    obtain ⟨h1, h2⟩ := getD_parts h0
    rw [hall y (by rw [← I.lsize]; exact h1)] at h2; cases h2
  | succ fuel ih =>
    intro listed σ a w c Ac I hf
    refine ⟨fun he => hend listed σ a w c Ac I (hready listed σ a w c Ac I he), fun y hy => ?_⟩
    refine I.advance C hy fun σ' a' w' c' Ac' I' => ih _ σ' a' w' c' Ac' I' ?_
    obtain ⟨h0, o, ho, _⟩ := mem_ready.1 hy
    obtain ⟨h1, h2⟩ := getD_parts h0
    have h3 : listed.toList[y]? = some false := by simp [h1] at h2 ⊢; exact h2
    have := count_set h3
    rw [Array.toList_setIfInBounds]
    omega
end
theorem ctx_wp {σ : Sg} {w : World} (hmix : P.follows .mixedOrders = true) {all : List Oper} {id : Nat} {Q : Exit → Act → World → Prop} {s : St} {hs : List (Option Nat)} {A1 A' : AW} {F' : T Value} {rs : List Rc} {As : List AW} {a : Act} (hS : SR P N σ s a w)
    (C : Ctx P call N all s.ds s.A hs A1 s.F rs As F' A') (hQ : ∀ σ' a' w', SR P N σ' ⟨F', A', s.ds⟩ a' w' → Step σ s.A w σ' A' w' → Q .normal a' w') : (Code.region id ⟨all⟩ true).wp P Q a w := by
  have hpassed := C.passed
  have hho := C.ho
  refine wp_region_any hmix ?_
  have hstep : Step σ s.A w σ A1 { w with drawn := w.drawn + 1 } := by
    refine ⟨fun _ _ => rfl, hho.next, rfl, rfl, rfl, Nat.le_refl _, fun _ _ _ => rfl, ?_, ?_, ?_⟩
    · rintro b hb ⟨i, d, o, hi, hg, hm⟩
      have hil := hS.rel.lt hi
      rw [hho.old i hil] at hg
      exact ⟨i, d, o, hi, hg, hm⟩
    · intro i b d o hi hs _ _ _
      rw [hS.rel.lim i hi] at hs; cases hs
    · intro i o hi hg hl
      rw [hho.old i hi] at hg
      exact ⟨o, hg, hl⟩
  have hrel : Rel P σ A1 { w with drawn := w.drawn + 1 } := by
    refine ⟨⟨?_, ?_, fun i hi => hS.rel.lim i (Nat.le_trans hho.next hi), hS.rel.glob, hho.top hS.rel.top⟩, hS.rel.fro.step hstep⟩
    · intro i b d o hi hg hl
      rw [hho.old i (hS.rel.lt hi)] at hg
      exact hS.rel.obj i b d o hi hg hl
    · intro i j b d d' o o' hi hj hg hg' hl hl' hjk
      rw [hho.old i (hS.rel.lt hi)] at hg
      rw [hho.old j (hS.rel.lt hj)] at hg'
      exact hS.rel.inj i j b d d' o o' hi hj hg hg' hl hl' hjk
  have hnl : ∀ x, (Array.replicate all.length false).getD x false = false := fun x => by
    rcases Nat.lt_or_ge x all.length with h | h <;> simp [h]
  have hlen := hpassed.len
  have I : Inv P N all s.ds s.A hs A1 rs As F' σ w (Array.replicate all.length false) σ a { w with drawn := w.drawn + 1 } 0 A1 := by
    refine ⟨by simp, fun j hj => ?_, hS.fr.size, fun i t v hi hc hg => ?_, rfl, hrel, fun i r hr hl => ?_, fun i id hi _ => hS.rel.lim id (hho.ids i id hi).1, fun i id hi => (hho.ids i id hi).2, hstep, hS.ds⟩
    · rw [hnl] at hj; cases hj
    · have := hpassed.same (t := t) (i := 0) i (Nat.zero_le _) (by omega) fun x r _ hx hr hd => by
        obtain ⟨_, _, _, _, ho, _⟩ := hpassed.at x r hr
        have := (hc x r.o ho hd).1 hx
        rw [hnl] at this; cases this
      rw [this, hpassed.head] at hg
      exact hS.fr.get t v hg
    · rw [hnl]; simp
  exact Inv.any (Q := Q) C hQ all.length _ σ a _ 0 A1 I (by simp)
theorem wins_again {all : List Oper} {rs : List Rc} {hs : List (Option Nat)} {As : List AW} (hw : winsOk P all (louds P all (masks all []) 0) As rs hs (masks all []) 0 = true) :
    ∀ (i : Nat) (r : Rc) (h : Option Nat) (q : Nat), rs[i]? = some r → r.loud = false → hs[i]? = some h → (masks all [])[i]? = some q → ∀ (k : Nat) (Ac : AW), As[k]? = some Ac →
    loOf q (louds P all (masks all []) 0) 0 0 ≤ k → k ≤ hiOf i (louds P all (masks all []) 0) 0 → isOwn h r k = false → Again P all r h Ac := by
  intro i r h q hr hl hh hq k Ac hAc h1 h2 hown
  cases hso : softO P r.o.op with
  | true => exact .inl hso
  | false =>
  refine .inr fun hb => ?_
  obtain ⟨h2', q2, e1, e2, hw⟩ := winsOk_get hw i r hr
  rw [hh] at e1; cases e1
  rw [hq] at e2; cases e2
  have hw := hw.resolve_left (by rw [hl]; simp)
  rw [Nat.zero_add] at hw
  have hag := winOk_get hw k Ac hAc (by omega) (by omega) (by simpa using hown)
  simp only [againOk, hb, hso] at hag
  cases h with
  | none =>
    have hag : isSomeB (ob (evQ r.o.op P r.F Ac.heap) fun v => bt (veq2 v r.v) (some ())) = true := hag
    simp only [isSomeB_iff, ob_some, bt_some] at hag
    obtain ⟨_, v, hv1, hv2, _⟩ := hag
    exact .of (by rw [hv1, veq2_eq hv2])
  | some id =>
    cases hx : freshAt P r.F r.o.op id Ac.heap with
    | true => exact hx
    | false =>
      have hag : isSomeB (bt (freshAt P r.F r.o.op id Ac.heap) (some ())) = true := hag
      rw [hx] at hag; cases hag
theorem draw_wp {σ : Sg} {w : World} (hmix : P.follows .mixedOrders = true) (hcall : CallOK P call) {all : List Oper} {id : Nat} {Q : Exit → Act → World → Prop} {s s' : St} {a : Act} (hS : SR P N σ s a w) (h : drawOps P call N all s = some s')
    (hQ : ∀ σ' a' w', SR P N σ' s' a' w' → Step σ s.A w σ' s'.A w' → Q .normal a' w') : (Code.region id ⟨all⟩ true).wp P Q a w := by
  simp only [drawOps, bt_some, ob_some, Option.some.injEq] at h
  obtain ⟨hreg, ⟨hs, A1⟩, hh, ⟨rs, As, s1⟩, hp, hw, e⟩ := h
  simp only at hh hp hw e
  subst e
  have hRO := regOk_ok hreg
  obtain ⟨hds, hpassed⟩ := passed_of hcall _ (fun o ho => by obtain ⟨i, hi⟩ := List.mem_iff_getElem?.1 ho; exact hRO.nodefer i o hi) _ _ _ _ _ _ hp
  simp only at hds hpassed
  refine ctx_wp (call := call) hmix hS (C := ⟨hpassed, hRO, hoist_ok _ _ _ _ hh, wins_again hw⟩) fun σ' a' w' hSR hst => hQ σ' a' w' ⟨hSR.fr, hSR.rel, ?_⟩ hst
  have := hSR.ds
  rw [hds]; exact this
end Go.Ev
end

/- The evaluator: code, calls: it is sound. -/
section
set_option linter.unusedSectionVars false
namespace Go.Ev
variable {P : Program} {N : Nat} {call : Caller} [Frozen P]
def exOf : Ox → Exit
  | .normal => .normal
  | .exit i => .exit i
  | .ret => .ret
def Post (P : Program) [Frozen P] (N : Nat) (σ : Sg) (A : AW) (w : World) (p : Ox × St) (e : Exit) (a : Act) (w' : World) : Prop := e = exOf p.1 ∧ ∃ σ', SR P N σ' p.2 a w' ∧ Step σ A w σ' p.2.A w'
theorem iter_wp {f : Run} {c : Code} (hc : ∀ (s : St) (p : Ox × St) (σ : Sg) (a : Act) (w : World), SR P N σ s a w → f s = some p → c.wp P (Post P N σ s.A w p) a w) :
    ∀ (n : Nat) (s : St) (p : Ox × St) (σ : Sg) (a : Act) (w : World), SR P N σ s a w → iter n f s = some p → ∀ (b : Frame) (k : List Item) (cs : List Frame),
      ∃ e a' w', Post P N σ s.A w p e a' w' ∧ Arrives P (lone (b.at a (.code c :: .inLoop c :: k)) cs w) b k cs e a' w' := by
  intro n
  induction n with
  | zero => intro s p σ a w _ h; cases h
  | succ n ih =>
    intro s p σ a w hS h b k cs
    have h : (ob (f s) fun p => Ox.rec (iter n f p.2) (fun i => some (.exit i, p.2)) (some (.ret, p.2)) p.1) = some p := h
    rw [ob_some] at h
    obtain ⟨⟨x, s1⟩, h1, h2⟩ := h
    obtain ⟨e, a₁, w₁, ⟨he, σ1, hS1, hst⟩, harr⟩ := hc s (x, s1) σ a w hS h1 b (.inLoop c :: k) cs
    cases x with
    | normal =>
      have h2 : iter n f s1 = some p := h2
      obtain rfl : e = .normal := he
      obtain ⟨e2, a2, w2, ⟨he2, σ2, hS2, hst2⟩, harr2⟩ := ih s1 p σ1 a₁ w₁ hS1 h2 b k cs
      exact ⟨e2, a2, w2, ⟨he2, σ2, hS2, hst.trans hst2⟩, .of_steps (Steps.trans harr (.one step_inLoop)) harr2⟩
    | exit i =>
      have h2 : some (Ox.exit i, s1) = some p := h2
      cases h2
      obtain rfl : e = .exit i := he
      exact ⟨_, a₁, w₁, ⟨rfl, σ1, hS1, hst⟩, .pass (x := .inLoop c) rfl (fun _ _ => .inl (by simp [exOf])) harr⟩
    | ret =>
      have h2 : some (Ox.ret, s1) = some p := h2
      cases h2
      obtain rfl : e = .ret := he
      exact ⟨_, a₁, w₁, ⟨rfl, σ1, hS1, hst⟩, .pass (x := .inLoop c) rfl (fun _ _ => .inl (by simp [exOf])) harr⟩
theorem code_wp (hmix : P.follows .mixedOrders = true) (hcall : CallOK P call) (c : Code) : ∀ (s : St) (p : Ox × St) (σ : Sg) (a : Act) (w : World), SR P N σ s a w → evCode P call N c s = some p → c.wp P (Post P N σ s.A w p) a w := by
  induction c with
  | skip => intro s p σ a w hS h; have h : some (Ox.normal, s) = some p := h; cases h; exact wp_skip ⟨rfl, σ, hS, .refl hS.rel.lim⟩
  | label l => intro s p σ a w hS h; have h : some (Ox.normal, s) = some p := h; cases h; exact wp_label ⟨rfl, σ, hS, .refl hS.rel.lim⟩
  | exit id => intro s p σ a w hS h; have h : some (Ox.exit id, s) = some p := h; cases h; exact wp_exit ⟨rfl, σ, hS, .refl hS.rel.lim⟩
  | ret => intro s p σ a w hS h; have h : some (Ox.ret, s) = some p := h; cases h; exact wp_ret ⟨rfl, σ, hS, .refl hS.rel.lim⟩
  | goto l => intro s p σ a w hS h; cases h
  | refuse y => intro s p σ a w hS h; cases h
  | rangeFunc f ps x y _ _ => intro s p σ a w hS h; cases h
  | region id ops d =>
    intro s p σ a w hS h
    have h : cRegion P call N ops.toList d s = some p := h
    simp only [cRegion, ob_some, Option.some.injEq] at h
    obtain ⟨s', hq, rfl⟩ := h
    obtain ⟨ops⟩ := ops
    cases d with
    | false => exact region_wp hcall hS hq fun σ' a' w' h1 h2 => ⟨rfl, σ', h1, h2⟩
    | true => exact draw_wp hmix hcall hS hq fun σ' a' w' h1 h2 => ⟨rfl, σ', h1, h2⟩
  | seq x y ihx ihy =>
    intro s p σ a w hS h
    have h : cSeq (evCode P call N x) (evCode P call N y) s = some p := h
    simp only [cSeq, ob_some] at h
    obtain ⟨⟨o, s1⟩, h1, h2⟩ := h
    refine wp_seq (wp_mono (ihx s (o, s1) σ a w hS h1) ?_)
    rintro e a' w' ⟨rfl, σ1, hS1, hst⟩
    cases o with
    | normal =>
      refine wp_mono (ihy s1 p σ1 a' w' hS1 h2) ?_
      rintro e2 a2 w2 ⟨rfl, σ2, hS2, hst2⟩
      exact ⟨rfl, σ2, hS2, hst.trans hst2⟩
    | exit i =>
      have h2 : some (Ox.exit i, s1) = some p := h2
      cases h2
      exact ⟨rfl, σ1, hS1, hst⟩
    | ret =>
      have h2 : some (Ox.ret, s1) = some p := h2
      cases h2
      exact ⟨rfl, σ1, hS1, hst⟩
  | cond c x y ihx ihy =>
    intro s p σ a w hS h
    have h : cCond P c (evCode P call N x) (evCode P call N y) s = some p := h
    simp only [cCond, ob_some, boolOf_some] at h
    obtain ⟨v, hv, b, rfl, h⟩ := h
    have hc := (hS.fr.ok hS.rel.glob [c] c (by simp) _ hv).of_flat rfl
    refine wp_cond hc ?_
    cases b with
    | true => exact ihx s p σ a w hS h
    | false => exact ihy s p σ a w hS h
  | block id x ih =>
    intro s p σ a w hS h
    have h : cBlock id (evCode P call N x) s = some p := h
    simp only [cBlock, ob_some] at h
    obtain ⟨⟨o, s1⟩, h1, h2⟩ := h
    refine wp_block (wp_mono (ih s (o, s1) σ a w hS h1) ?_)
    rintro e a' w' ⟨rfl, σ1, hS1, hst⟩
    cases o with
    | normal =>
      have h2 : some (Ox.normal, s1) = some p := h2
      cases h2
      exact ⟨rfl, σ1, hS1, hst⟩
    | exit i =>
      have h2 : (Bool.rec (some (Ox.exit i, s1)) (some (Ox.normal, s1)) (Nat.beq i id) : Option (Ox × St)) = some p := h2
      show (if i = id then _ else _)
      cases hb : Nat.beq i id with
      | true => rw [hb] at h2; cases h2; rw [if_pos (beqIff.1 hb)]; exact ⟨rfl, σ1, hS1, hst⟩
      | false =>
        rw [hb] at h2; cases h2
        rw [if_neg (fun e => by rw [beqIff.2 e] at hb; cases hb)]; exact ⟨rfl, σ1, hS1, hst⟩
    | ret =>
      have h2 : some (Ox.ret, s1) = some p := h2
      cases h2
      exact ⟨rfl, σ1, hS1, hst⟩
  | loop x ih =>
    intro s p σ a w hS h b k cs
    have h : iter 1000000 (evCode P call N x) s = some p := h
    obtain ⟨e, a', w', hq, harr⟩ := iter_wp ih _ s p σ a w hS h b k cs
    exact ⟨e, a', w', hq, .of_steps (.one step_loop) harr⟩
  | scope x ih =>
    intro s p σ a w hS h
    have h : evCode P call N x s = some p := h
    refine wp_scope_straight (wp_mono (ih s p σ a w hS h) ?_)
    rintro e a' w' ⟨rfl, σ', h1, h2⟩
    obtain ⟨o, s1⟩ := p
    cases o <;> exact ⟨rfl, σ', h1, h2⟩
theorem frameOf_get (t : Nat) : ∀ (vs : List Value) (i : Nat) (F : T Value), (frameOf vs i F).get t = if i ≤ t ∧ t < i + vs.length then vs[t - i]? else F.get t := by
  intro vs
  induction vs with
  | nil => intro i F; rw [if_neg (by simp)]; rfl
  | cons v vs ih =>
    intro i F
    show (frameOf vs (Nat.succ i) (F.set i v)).get t = _
    rw [ih, get_set]
    have e : Nat.succ i = i + 1 := rfl
    rw [e]
    by_cases h1 : t = i
    · subst h1
      rw [if_neg (by omega), if_pos rfl, if_pos (by simp)]
      simp
    · by_cases h2 : i + 1 ≤ t ∧ t < i + 1 + vs.length
      · rw [if_pos h2, if_pos (by simp; omega)]
        rw [show t - i = (t - (i + 1)) + 1 by omega]
        simp
      · rw [if_neg h2, if_neg h1, if_neg (by simp; omega)]
structure EnvOK (P : Program) [Frozen P] (E : Env) : Prop where
  mixed : P.follows .mixedOrders = true
  name : ∀ (f : Nat) (fn : Func), P.funcs[f]? = some fn → (fn.name == "runtime.NumGoroutine") = false
  dh : ∀ f ∈ E.dh, (∀ args w, (callFunc f args).run P w = .ok (.enter f args) w) ∧ ∀ x w, CallsD P f #[x] .returning w fun e u' w' => (∃ v, e = .returned v) ∧ u' = .returning ∧ w' = w
  ne : ∀ f ∈ E.ne, ∀ x w, (callFunc f #[x]).run P w = .ok (.value x) w
  mz : ∀ f ∈ E.mz, ∀ (n : Nat) (w : World), n ≤ 1073741824 → ∃ (cs : Array Value) (w' : World), (callFunc f #[.int .i64 (.ofNat n)]).run P w = .ok (.value (.slice (some ⟨w.heap.size, 0, none⟩) n cs.size)) w' ∧ w'.heap = w.heap.push (.cells cs E.ty) ∧ n ≤ cs.size ∧
    w'.os = w.os ∧ w'.tape = w.tape ∧ w'.output = w.output
  one : E.mz = [] ∨ ∃ i, P.info? E.ty = some i ∧ i.size = 1
theorem oneV_some {vs : List Value} {v : Value} : oneV vs = some v ↔ vs = [v] := by
  cases vs with
  | nil => constructor <;> intro h <;> cases h
  | cons x l => cases l with
    | nil => show some x = some v ↔ _; simp
    | cons y l => constructor <;> intro h <;> cases h
theorem ext_ok {E : Env} (hE : EnvOK P E) {f : FuncId} {args args' : List Value} {A A' : AW} {v : Value} (h : extA E f args A = some (v, A')) {σ : Sg} {w : World} (hR : Rel P σ A w) (ha : VRL σ args args') : Serves P σ A w ((callFunc f ⟨args'⟩).run P w) v A' := by
  simp only [extA, ob_some, oneV_some] at h
  obtain ⟨x, rfl, h⟩ := h
  cases ha with
  | cons hx hnil =>
    cases hnil
    rename_i x'
    cases hb : memB f E.ne with
    | true =>
      rw [hb] at h
      have h : some (x, A) = some (v, A') := h
      cases h
      exact .inl ⟨x', w, hE.ne f (memB_iff.1 hb) x' w, σ, hx, hR, .refl hR.lim⟩
    | false =>
      rw [hb] at h
      simp only [bt_some, ob_some, i64V_some, bleIff, newSlice, Option.some.injEq, Prod.mk.injEq] at h
      obtain ⟨hm, n, rfl, hn, rfl, rfl⟩ := h
      obtain rfl := hx.of_flat rfl
      obtain ⟨cs, w', h1, h2, h3, h4, h5, h6⟩ := hE.mz f (memB_iff.1 hm) n w hn
      obtain ⟨i, hi, hi1⟩ := hE.one.resolve_left fun e => by rw [e] at hm; cases hm
      have hg := hR.new (o := .row [] E.ty (.grown n)) (d := cs.size - n) (x := .cells cs E.ty) h2
        ⟨.inr rfl, by
          have := rowR_grown (P := P) (σ := σ) (c := []) (cs := []) (x := cs.toList) (e := E.ty) (rc := n) (d := cs.size - n) (fz := (0, 0)) .nil hi (by rw [hi1]; simp; omega) (unfrozen_zero _)
          exact this⟩ h4 h5 h6
      refine .inl ⟨_, w', h1, _, ?_, hg.1, hg.2⟩
      have := VR.slice (σ := ext σ A.next (w.heap.size, cs.size - n)) (i := A.next) (o := 0) (l := n) (c := n) (ext_self _ _)
      rw [show n + (cs.size - n) = cs.size by omega] at this
      exact this
def resOne (tmps : Array Value) : ResultVar → Sem Value
  | .tmp t => pure (tmps.getD t undef)
  | .cell x t => do loadVar t (← asAddr (tmps.getD x undef))
theorem results_def (fn : Func) (tmps : Array Value) : results fn tmps = (do let vs ← fn.results.mapM (resOne tmps); pure (if h : vs.size = 1 then vs[0] else .tuple vs)) := by
  unfold results
  congr 1
theorem resA_run {σ : Sg} {A : AW} {w : World} (hR : Rel P σ A w) {F : T Value} {a : Act} (hF : FrR N σ F a) : ∀ {rs : List ResultVar} {vs : List Value}, resA P F A.heap rs = some vs →
    ∃ vs', VRL σ vs vs' ∧ (rs.mapM (resOne a.tmps)).run P w = .ok vs' w := by
  intro rs
  induction rs with
  | nil => intro vs h; have := omap_nil.1 h; subst this; exact ⟨[], .nil, rfl⟩
  | cons r rs ih =>
    intro vs h
    obtain ⟨y, ys, h1, h2, rfl⟩ := omap_cons.1 h
    obtain ⟨vs', h3, h4⟩ := ih h2
    have hone : ∃ y', VR σ y y' ∧ (resOne a.tmps r).run P w = .ok y' w := by
      cases r with
      | tmp t =>
        have h1 : F.get t = some y := h1
        obtain ⟨y', e1, e2⟩ := hF.get t y h1
        exact ⟨y', e2, by simp [resOne, e1]⟩
      | cell x t =>
        have h1 : ob (F.get x) (loadA P t A.heap) = some y := h1
        rw [ob_some] at h1
        obtain ⟨p, hp, hl⟩ := h1
        obtain ⟨p', e1, e2⟩ := hF.get x p hp
        obtain ⟨y', e3, _, q, e4, e5⟩ := run_loadA hR hl e2
        subst e4
        exact ⟨y', e3, by simp [resOne, e1, asAddr, e5]⟩
    obtain ⟨y', e1, e2⟩ := hone
    refine ⟨y' :: vs', .cons e1 h3, ?_⟩
    simp only [List.mapM_cons, Sem.run_bind, e2, Result.andThen_ok, h4, Sem.run_pure]
theorem results_run {σ : Sg} {A : AW} {w : World} (hR : Rel P σ A w) {F : T Value} {a : Act} (hF : FrR N σ F a) {fn : Func} {vs : List Value} (h : resA P F A.heap fn.results.toList = some vs) :
    ∃ v', VR σ (resultA vs) v' ∧ (results fn a.tmps).run P w = .ok v' w := by
  obtain ⟨vs', h1, h2⟩ := resA_run hR hF h
  refine ⟨if hh : vs'.toArray.size = 1 then vs'.toArray[0] else .tuple vs'.toArray, ?_, ?_⟩
  · cases h1 with
    | nil => exact .tuple .nil
    | cons e1 e2 => cases e2 with
      | nil => exact e1
      | cons e3 e4 => exact .tuple (.cons e1 (.cons e3 e4))
  · have : fn.results = fn.results.toList.toArray := rfl
    rw [results_def, this, List.mapM_toArray]
    simp only [Sem.run_bind, Sem.run_map, h2, Result.andThen_ok, Sem.run_pure]
theorem entered {f : FuncId} {fn : Func} {c : Code} (hname : (fn.name == "runtime.NumGoroutine") = false) (hf : P.funcs[f]? = some fn) (hb : fn.body = some c) (args : Array Value) (w : World) : (callFunc f args).run P w = .ok (.enter f args) w := by
  have hname : fn.name ≠ "runtime.NumGoroutine" := by simpa using hname
  simp [callFunc, hf, hname, hb]
theorem body_SR {fn : Func} {args args' : List Value} {A : AW} {σ : Sg} {w : World} (hle : args.length ≤ fn.ntmps) (hR : Rel P σ A w) (ha : VRL σ args args') :
    SR P fn.ntmps σ ⟨frameOf args 0 .e, A, []⟩ { tmps := (⟨args'⟩ : Array Value) ++ Array.replicate (fn.ntmps - (⟨args'⟩ : Array Value).size) undef, defers := [] } w := by
  have hlen := ha.length
  refine ⟨⟨by simp; omega, fun t u hu => ?_⟩, hR, .nil⟩
  simp only [frameOf_get] at hu
  split at hu
  · simp only [Nat.sub_zero] at hu
    obtain ⟨u', e1, e2⟩ := ha.get hu
    refine ⟨u', ?_, e2⟩
    rw [Array.getElem?_append_left (by simp; omega)]
    simpa using e1
  · cases hu
theorem funcA_some {f : FuncId} {fn : Func} (h : funcA P f = some fn) : P.funcs[f]? = some fn := by
  have : lget P.funcs.toList f = some fn := h
  rw [lget_eq] at this; simpa using this
theorem dCall_ok {E : Env} (hE : EnvOK P E) (hcall : CallOK P call) {f : FuncId} {args args' : List Value} {A A' : AW} {v : Value} (h : dCall P call f args A = some (v, A')) {σ : Sg} {w : World} (hR : Rel P σ A w) (ha : VRL σ args args') :
    (callFunc f ⟨args'⟩).run P w = .ok (.enter f ⟨args'⟩) w ∧ CallsD P f ⟨args'⟩ .returning w fun e u' w' => u' = .returning ∧ GoodE P σ A w v A' e w' := by
  simp only [dCall, ob_some] at h
  obtain ⟨fn, hf, c, hb, h⟩ := h
  have hf := funcA_some hf
  refine ⟨entered (hE.name f fn hf) hf hb _ w, ?_⟩
  simp only [bodyD, bt_some, bleIff, ob_some] at h
  obtain ⟨hle, ⟨o, s⟩, h1, h2⟩ := h
  have hS := body_SR (P := P) hle hR ha
  refine callsD_of_wp hf hb (wp_mono (code_wp hE.mixed hcall c _ (o, s) σ _ w hS h1) ?_)
  rintro e a' w' ⟨rfl, σ', hS', hst⟩
  have key : finD P fn s = some (v, A') → a'.defers = [] ∧ ∃ v', (results fn a'.tmps).run P w' = .ok v' w' ∧ GoodE P σ A w v A' (.returned v') w' := by
    intro hfn
    unfold finD at hfn
    have hds := hS'.ds
    simp only at hds
    cases hd : s.ds with
    | cons d ds => rw [hd] at hfn; cases hfn
    | nil =>
      rw [hd] at hfn hds
      simp only [ob_some, Option.some.injEq, Prod.mk.injEq] at hfn
      obtain ⟨vs, hvs, rfl, rfl⟩ := hfn
      obtain ⟨v', e1, e2⟩ := results_run hS'.rel hS'.fr hvs
      refine ⟨?_, v', e2, σ', e1, hS'.rel, hst⟩
      generalize a'.defers = q at hds
      cases hds; rfl
  cases o with
  | normal => exact key h2
  | ret => exact key h2
  | exit i => cases h2
theorem leaves_of {E : Env} (hE : EnvOK P E) (hcall : CallOK P call) {fn : Func} {tmps : Array Value} {R : Ending → World → Prop} {A' : AW} : ∀ (ds ds' : List Deferred) (σ : Sg) (A : AW) (w : World), DRL σ ds ds' → Rel P σ A w → leaveA P call E.dh ds A = some A' →
    (∀ σ' w', Rel P σ' A' w' → Step σ A w σ' A' w' → ∃ v, (results fn tmps).run P w' = .ok v w' ∧ R (.returned v) w') → Leaves P fn tmps R ds' .returning w := by
  intro ds
  induction ds with
  | nil =>
    intro ds' σ A w hD hR h hQ
    cases hD
    have h : some A = some A' := h
    cases h
    exact hQ σ w hR (.refl hR.lim)
  | cons d ds ih =>
    intro ds' σ A w hD hR h hQ
    cases hD with
    | @cons g cap cap' args args' l l' hc ha hl =>
      have h : (ob (plainFn (.fn g ⟨cap⟩)) fun p => (Bool.rec (ob (dCall P call p.1 (args ++ p.2.toList) A) fun q => leaveA P call E.dh ds q.2) (bt (lenB (args ++ p.2.toList) 1) (leaveA P call E.dh ds A)) (memB p.1 E.dh) : Option AW)) = some A' := h
      cases g with
      | func f =>
        have h : (Bool.rec (ob (dCall P call f (args ++ cap) A) fun q => leaveA P call E.dh ds q.2) (bt (lenB (args ++ cap) 1) (leaveA P call E.dh ds A)) (memB f E.dh) : Option AW) = some A' := h
        cases hm : memB f E.dh with
        | true =>
          rw [hm] at h
          rw [bt_some, lenB_iff] at h
          obtain ⟨h1, h⟩ := h
          obtain ⟨k1, k2⟩ := hE.dh f (memB_iff.1 hm)
          have hl1 : (args' ++ cap').length = 1 := by rw [(ha.append hc).length]; exact h1
          obtain ⟨x, hx⟩ := List.length_eq_one_iff.1 hl1
          have hx : (⟨args'⟩ : Array Value) ++ ⟨cap'⟩ = #[x] := by apply Array.toList_inj.1; simpa using hx
          refine leaves_cons (by simp) (f := f) (args := ⟨args'⟩ ++ ⟨cap'⟩) ?_ ?_
          · simp only [invoke]; exact k1 _ w
          · rw [hx]
            refine CallsD.mono (k2 _ w) ?_
            rintro e u' w' ⟨⟨v, rfl⟩, rfl, rfl⟩
            exact ih l' σ A w' hl hR h hQ
        | false =>
          rw [hm] at h
          simp only [ob_some] at h
          obtain ⟨⟨v, B⟩, hd, h⟩ := h
          obtain ⟨k1, k2⟩ := dCall_ok hE hcall hd hR (ha.append hc)
          refine leaves_cons (by simp) (f := f) (args := ⟨args' ++ cap'⟩) ?_ ?_
          · simp only [invoke]
            have : (⟨args'⟩ : Array Value) ++ ⟨cap'⟩ = ⟨args' ++ cap'⟩ := by apply Array.toList_inj.1; simp
            rw [this]; exact k1
          · refine CallsD.mono k2 ?_
            rintro e u' w' ⟨rfl, hg⟩
            cases e with
            | returned v' =>
              obtain ⟨σ', hv, hR', hst⟩ := hg
              exact ih l' σ' B w' (hl.sub (hst.sub hR.lim)) hR' h fun σ2 w2 h1 h2 => hQ σ2 w2 h1 (hst.trans h2)
            | _ => exact hg.elim
      | _ => cases h
theorem body_ok {E : Env} (hE : EnvOK P E) (hcall : CallOK P call) {f : FuncId} {fn : Func} {c : Code} (hf : P.funcs[f]? = some fn) (hb : fn.body = some c) {args args' : List Value} {A A' : AW} {v : Value} (h : bodyA P call E.dh fn c args A = some (v, A')) {σ : Sg} {w : World}
    (hR : Rel P σ A w) (ha : VRL σ args args') : Serves P σ A w ((callFunc f ⟨args'⟩).run P w) v A' := by
  simp only [bodyA, bt_some, bleIff, ob_some] at h
  obtain ⟨hle, ⟨o, s⟩, h1, h2⟩ := h
  refine .inr ⟨f, ⟨args'⟩, entered (hE.name f fn hf) hf hb _ w, ?_⟩
  refine calls_of_wp_defers hf hb ?_
  have hS := body_SR (P := P) hle hR ha
  refine wp_mono (code_wp hE.mixed hcall c _ (o, s) σ _ w hS h1) ?_
  rintro e a' w' ⟨rfl, σ', hS', hst⟩
  have key : finA P call E.dh fn s = some (v, A') → Leaves P fn a'.tmps (GoodE P σ A w v A') a'.defers .returning w' := by
    intro hfn
    simp only [finA, ob_some, Option.some.injEq, Prod.mk.injEq] at hfn
    obtain ⟨B, hl, vs, hvs, rfl, rfl⟩ := hfn
    refine leaves_of hE hcall _ _ σ' s.A w' hS'.ds hS'.rel hl fun σ2 w2 hR2 hst2 => ?_
    obtain ⟨v', e1, e2⟩ := results_run hR2 (hS'.fr.sub (hst2.sub hS'.rel.lim)) hvs
    exact ⟨v', e2, σ2, e1, hR2, hst.trans hst2⟩
  cases o with
  | normal => exact key h2
  | ret => exact key h2
  | exit i => cases h2
def HookOK (P : Program) [Frozen P] (hook : Caller → Caller) : Prop := ∀ c, CallOK P c → CallOK P (hook c)
theorem evCallH_ok {E : Env} (hE : EnvOK P E) {hook : Caller → Caller} (hH : HookOK P hook) : ∀ n, CallOK P (evCallH P E hook n) := by
  intro n
  induction n with
  | zero => intro f args A v A' h; cases h
  | succ n ih =>
    refine hH _ ?_
    intro f args A v A' h σ w args' hR ha
    simp only [ob_some] at h
    obtain ⟨fn, hf, h⟩ := h
    have hf := funcA_some hf
    cases hb : fn.body with
    | none => rw [hb] at h; exact ext_ok hE h hR ha
    | some c => rw [hb] at h; exact body_ok hE ih hf hb h hR ha
end Go.Ev
end

/- The evaluator: calls that are told of: a call over a small memory is one over a greater one. -/
set_option linter.unusedSectionVars false
namespace Go.Ev
noncomputable section
def leq {α : Type} (f : α → α → Bool) (l : List α) : List α → Bool := List.rec (motive := fun _ => List α → Bool) (fun m => List.rec true (fun _ _ _ => false) m)
  (fun a _ ih m => List.rec false (fun b m _ => Bool.rec false (ih m) (f a b)) m) l
def veqD (n : Nat) : Value → Value → Bool := Nat.rec (motive := fun _ => Value → Value → Bool) veq (fun _ ih x y => match x with
  | .agg a => match y with
    | .agg b => leq ih a.toList b.toList
    | _ => false
  | .tuple a => match y with
    | .tuple b => leq ih a.toList b.toList
    | _ => false
  | .func (.func f) a c => match y with
    | .func (.func g) b d => Bool.rec false (Bool.rec false (leq ih c.toList d.toList) (leq ih a.toList b.toList)) (Nat.beq f g)
    | _ => false
  | .iface t v => match y with
    | .iface u w => Bool.rec false (ih v w) (Nat.beq t u)
    | _ => false
  | x => veq x y) n
def veq6 : Value → Value → Bool := veqD 6
def mdEq (a b : Md) : Bool := match a with
  | .own => match b with
    | .own => true
    | _ => false
  | .ro => match b with
    | .ro => true
    | _ => false
  | .grown m => match b with
    | .grown n => Nat.beq m n
    | _ => false
  | .gro => match b with
    | .gro => true
    | _ => false
def entEq (a b : MapEntry) : Bool := Bool.rec false (Bool.rec false (Nat.beq a.born b.born) (veq6 a.val b.val)) (veq6 a.key b.key)
def aoEq (a b : AO) : Bool := match a with
  | .row c e m => match b with
    | .row c' e' m' => Bool.rec false (Bool.rec false (leq veq6 c c') (mdEq m m')) (Nat.beq e e')
    | _ => false
  | .map es k => match b with
    | .map es' k' => Bool.rec false (leq entEq es es') (Nat.beq k k')
    | _ => false
  | .dead => match b with
    | .dead => true
    | _ => false
structure Hook where
  f : FuncId
  args : List Value
  H : List (Nat × AO)
  base : Nat
  v : Value
  R : List (Nat × AO)
  next : Nat
def putAll (l : List (Nat × AO)) : T AO → T AO := List.rec (motive := fun _ => T AO → T AO) (fun H => H) (fun p _ ih H => ih (H.set p.1 p.2)) l
def liesB (l : List (Nat × AO)) (H : T AO) : Bool := List.rec true (fun p _ ih => Bool.rec false ih (Option.rec false (fun o => aoEq o p.2) (H.get p.1))) l
def keyB (i : Nat) (l : List (Nat × AO)) : Bool := List.rec false (fun p _ ih => Bool.rec ih true (Nat.beq i p.1)) l
def mayWB (o : AO) : Bool := match o with
  | .row _ _ m => m.writes
  | .map _ _ => true
  | .dead => false
def keepB (H R : List (Nat × AO)) : Bool := List.rec true (fun p _ ih => Bool.rec false ih (Bool.rec true (keyB p.1 R) (mayWB p.2))) H
def hookRes (h : Hook) (x : Option (Value × AW)) : Bool := Option.rec false (fun p => Bool.rec false (Bool.rec false (liesB h.R p.2.heap) (Nat.beq p.2.next h.next)) (veq6 p.1 h.v)) x
def hookFits (h : Hook) (f : FuncId) (args : List Value) (A : AW) : Bool := Bool.rec false (Bool.rec false (Bool.rec false (liesB h.H A.heap) (Nat.ble A.next h.base)) (leq veq6 args h.args)) (Nat.beq f h.f)
def hookCall (h : Hook) (c : Caller) (f : FuncId) (args : List Value) (A : AW) : Option (Value × AW) := Bool.rec (c f args A) (some (h.v, ⟨putAll h.R A.heap, h.next⟩)) (hookFits h f args A)
def hookAll (l : List Hook) (c : Caller) : Caller := List.rec c (fun h _ ih => hookCall h ih) l
def onceB (l : List (Nat × AO)) : Bool := List.rec true (fun p l ih => Bool.rec false ih (bnot (keyB p.1 l))) l
def hookShape (h : Hook) : Bool := Bool.rec false (Bool.rec false (onceB h.H) (onceB h.R)) (keepB h.H h.R)
end
theorem leq_eq {α : Type} {f : α → α → Bool} (hf : ∀ a b, f a b = true → a = b) : ∀ {l m : List α}, leq f l m = true → l = m := by
  intro l
  induction l with
  | nil => intro m h; cases m with
    | nil => rfl
    | cons b m => cases h
  | cons a l ih =>
    intro m h
    cases m with
    | nil => cases h
    | cons b m =>
      obtain ⟨h1, h2⟩ := recTrue.1 (show (Bool.rec false (leq f l m) (f a b) : Bool) = true from h)
      rw [ih h2, hf a b h1]
theorem veqD_eq : ∀ (n : Nat) (x y : Value), veqD n x y = true → x = y := by
  intro n
  induction n with
  | zero => intro x y h; exact veq_eq h
  | succ n ih =>
    intro x y h
    cases x with
    | agg a => cases y <;> first | (cases h; done) | (rename_i b; have h : leq (veqD n) a.toList b.toList = true := h; rw [Array.toList_inj.1 (leq_eq ih h)])
    | tuple a => cases y <;> first | (cases h; done) | (rename_i b; have h : leq (veqD n) a.toList b.toList = true := h; rw [Array.toList_inj.1 (leq_eq ih h)])
    | iface t v => cases y <;> first | (cases h; done) | (rename_i u w; have h : (Bool.rec false (veqD n v w) (Nat.beq t u) : Bool) = true := h; rw [recTrue] at h; rw [beqIff.1 h.1, ih _ _ h.2])
    | func f a c =>
      cases f with
      | func f =>
        cases y <;> try (cases h; done)
        rename_i g b d
        cases g <;> try (cases h; done)
        rename_i g
        have h : (Bool.rec false (Bool.rec false (leq (veqD n) c.toList d.toList) (leq (veqD n) a.toList b.toList)) (Nat.beq f g) : Bool) = true := h
        rw [recTrue, recTrue] at h
        rw [beqIff.1 h.1, Array.toList_inj.1 (leq_eq ih h.2.1), Array.toList_inj.1 (leq_eq ih h.2.2)]
      | _ => exact veq_eq h
    | _ => exact veq_eq h
theorem veq6_eq {x y : Value} (h : veq6 x y = true) : x = y := veqD_eq 6 x y h
theorem mdEq_eq {a b : Md} (h : mdEq a b = true) : a = b := by
  cases a <;> cases b <;> first | rfl | (cases h; done) | (rw [beqIff.1 h])
theorem entEq_eq {a b : MapEntry} (h : entEq a b = true) : a = b := by
  have h : (Bool.rec false (Bool.rec false (Nat.beq a.born b.born) (veq6 a.val b.val)) (veq6 a.key b.key) : Bool) = true := h
  rw [recTrue, recTrue] at h
  obtain ⟨k, v, n⟩ := a; obtain ⟨k', v', n'⟩ := b
  simp only at h
  rw [veq6_eq h.1, veq6_eq h.2.1, beqIff.1 h.2.2]
theorem aoEq_eq {a b : AO} (h : aoEq a b = true) : a = b := by
  cases a with
  | row c e m =>
    cases b <;> try (cases h; done)
    rename_i c' e' m'
    have h : (Bool.rec false (Bool.rec false (leq veq6 c c') (mdEq m m')) (Nat.beq e e') : Bool) = true := h
    rw [recTrue, recTrue] at h
    rw [beqIff.1 h.1, mdEq_eq h.2.1, leq_eq (fun _ _ => veq6_eq) h.2.2]
  | map es k =>
    cases b <;> try (cases h; done)
    rename_i es' k'
    have h : (Bool.rec false (leq entEq es es') (Nat.beq k k') : Bool) = true := h
    rw [recTrue] at h
    rw [beqIff.1 h.1, leq_eq (fun _ _ => entEq_eq) h.2]
  | dead => cases b <;> first | rfl | (cases h; done)
theorem liesB_get {H : T AO} : ∀ {l : List (Nat × AO)}, liesB l H = true → ∀ i o, (i, o) ∈ l → H.get i = some o := by
  intro l
  induction l with
  | nil => intro _ i o h; cases h
  | cons p l ih =>
    intro h i o hm
    have h : (Bool.rec false (liesB l H) (Option.rec false (fun o => aoEq o p.2) (H.get p.1) : Bool) : Bool) = true := h
    rw [recTrue] at h
    rcases List.mem_cons.1 hm with e | hm
    · subst e
      cases hg : H.get i with
      | none => rw [hg] at h; cases h.1
      | some o' => rw [hg] at h; rw [aoEq_eq (show aoEq o' o = true from h.1)]
    · exact ih h.2 i o hm
theorem keyB_iff {i : Nat} : ∀ {l : List (Nat × AO)}, keyB i l = true ↔ ∃ o, (i, o) ∈ l := by
  intro l
  induction l with
  | nil => constructor
           · intro h; cases h
           · rintro ⟨o, h⟩; cases h
  | cons p l ih =>
    show (Bool.rec (keyB i l) true (Nat.beq i p.1) : Bool) = true ↔ _
    cases hb : Nat.beq i p.1 with
    | true => have := beqIff.1 hb; subst this; exact ⟨fun _ => ⟨p.2, by simp⟩, fun _ => rfl⟩
    | false =>
      have hne : i ≠ p.1 := fun e => by rw [beqIff.2 e] at hb; cases hb
      show keyB i l = true ↔ _
      rw [ih]
      constructor
      · rintro ⟨o, h⟩; exact ⟨o, by simp [h]⟩
      · rintro ⟨o, h⟩
        rcases List.mem_cons.1 h with e | h
        · exact absurd (by rw [← e]) hne
        · exact ⟨o, h⟩
theorem putAll_get (i : Nat) : ∀ (l : List (Nat × AO)) (H : T AO), onceB l = true → (∀ o, (i, o) ∈ l → (putAll l H).get i = some o) ∧ (keyB i l = false → (putAll l H).get i = H.get i) := by
  intro l
  induction l with
  | nil => intro H _; exact ⟨fun o h => (by cases h), fun _ => rfl⟩
  | cons p l ih =>
    intro H ho
    have ho : (Bool.rec false (onceB l) (bnot (keyB p.1 l)) : Bool) = true := ho
    rw [recTrue, bnot_eq] at ho
    have hk : keyB p.1 l = false := by simpa using ho.1
    obtain ⟨h1, h2⟩ := ih (H.set p.1 p.2) ho.2
    refine ⟨fun o hm => ?_, fun hn => ?_⟩
    · show (putAll l (H.set p.1 p.2)).get i = some o
      rcases List.mem_cons.1 hm with e | hm
      · subst e; rw [h2 hk, get_set, if_pos rfl]
      · exact h1 o hm
    · show (putAll l (H.set p.1 p.2)).get i = H.get i
      have hn : (Bool.rec (keyB i l) true (Nat.beq i p.1) : Bool) = false := hn
      cases hb : Nat.beq i p.1 with
      | true => rw [hb] at hn; cases hn
      | false =>
        rw [hb] at hn
        rw [h2 hn, get_set, if_neg (fun e => by rw [beqIff.2 e] at hb; cases hb)]
theorem keepB_get {R : List (Nat × AO)} : ∀ {H : List (Nat × AO)}, keepB H R = true → ∀ i o, (i, o) ∈ H → mayW o = true → keyB i R = true := by
  intro H
  induction H with
  | nil => intro _ i o h; cases h
  | cons p H ih =>
    intro h i o hm hw
    have h : (Bool.rec false (keepB H R) (Bool.rec true (keyB p.1 R) (mayWB p.2) : Bool) : Bool) = true := h
    rw [recTrue, impTrue] at h
    rcases List.mem_cons.1 hm with e | hm
    · subst e; exact h.1 (by cases o <;> exact hw)
    · exact ih h.2 i o hm hw
variable {P : Program} [Frozen P]
theorem hook_ok {c0 : Caller} (h0 : CallOK P c0) {h : Hook} (hs : hookShape h = true) (hr : hookRes h (c0 h.f h.args ⟨putAll h.H .e, h.base⟩) = true) : HookOK P (hookCall h) := by
  intro c hc f args A v A' hcall σ w args' hR ha
  unfold hookCall at hcall
  cases hfit : hookFits h f args A with
  | false => rw [hfit] at hcall; exact hc f args A v A' hcall σ w args' hR ha
  | true =>
    rw [hfit] at hcall
    have hcall : some (h.v, (⟨putAll h.R A.heap, h.next⟩ : AW)) = some (v, A') := hcall
    cases hcall
    have hfit : (Bool.rec false (Bool.rec false (Bool.rec false (liesB h.H A.heap) (Nat.ble A.next h.base)) (leq veq6 args h.args)) (Nat.beq f h.f) : Bool) = true := hfit
    rw [recTrue, recTrue, recTrue] at hfit
    obtain ⟨hf, hargs, hbase, hlies⟩ := hfit
    obtain rfl := beqIff.1 hf
    obtain rfl := leq_eq (fun _ _ => veq6_eq) hargs
    have hbase := bleIff.1 hbase
    have hs : (Bool.rec false (Bool.rec false (onceB h.H) (onceB h.R)) (keepB h.H h.R) : Bool) = true := hs
    rw [recTrue, recTrue] at hs
    obtain ⟨hkeep, hR1, hH1⟩ := hs
    cases hev : c0 h.f h.args ⟨putAll h.H .e, h.base⟩ with
    | none => rw [hev] at hr; cases hr
    | some p =>
      obtain ⟨v1, B⟩ := p
      rw [hev] at hr
      have hr : (Bool.rec false (Bool.rec false (liesB h.R B.heap) (Nat.beq B.next h.next)) (veq6 v1 h.v) : Bool) = true := hr
      rw [recTrue, recTrue] at hr
      obtain ⟨hv, hnext, hRB⟩ := hr
      obtain rfl := veq6_eq hv
      have hnext := beqIff.1 hnext
      -- the small memory
      have hget : ∀ i o, (putAll h.H .e).get i = some o → (i, o) ∈ h.H ∧ A.heap.get i = some o := fun i o hg => by
        obtain ⟨k1, k2⟩ := putAll_get i h.H .e hH1
        cases hk : keyB i h.H with
        | false => rw [k2 hk] at hg; cases hg
        | true =>
          obtain ⟨o', ho'⟩ := keyB_iff.1 hk
          rw [k1 o' ho'] at hg; cases hg
          exact ⟨ho', liesB_get hlies i _ ho'⟩
      have hRs : Rel P σ ⟨putAll h.H .e, h.base⟩ w := by
        refine ⟨⟨fun i b d o hi hg hl => hR.obj i b d o hi (hget i o hg).2 hl, fun i j b d d' o o' hi hj hg hg' hl hl' hjk => hR.inj i j b d d' o o' hi hj (hget i o hg).2 (hget j o' hg').2 hl hl' hjk, fun i hi => hR.lim i (Nat.le_trans hbase hi), hR.glob, fun i hi => ?_⟩, fun b x e => ⟨(hR.fro b x e).1, fun hw => (hR.fro b x e).2 (by obtain ⟨k, d, o, h1, h2, h3⟩ := hw; exact ⟨k, d, o, h1, (hget k o h2).2, h3⟩)⟩⟩
        cases hg : (putAll h.H .e).get i with
        | none => rfl
        | some o => have := (hget i o hg).2; rw [hR.top i (Nat.le_trans hbase hi)] at this; cases this
      have hwr : ∀ b, Wr σ ⟨putAll h.H .e, h.base⟩ b → ∃ k d o, σ k = some (b, d) ∧ (k, o) ∈ h.H ∧ A.heap.get k = some o ∧ mayW o = true := by
        rintro b ⟨k, d, o, h1, h2, h3⟩
        exact ⟨k, d, o, h1, (hget k o h2).1, (hget k o h2).2, h3⟩
      have hwrA : ∀ b, Wr σ ⟨putAll h.H .e, h.base⟩ b → Wr σ A b := fun b hb => by
        obtain ⟨k, d, o, h1, _, h3, h4⟩ := hwr b hb; exact ⟨k, d, o, h1, h3, h4⟩
      -- the merged one
      have hm : ∀ i o, (putAll h.R A.heap).get i = some o → ((i, o) ∈ h.R ∧ B.heap.get i = some o) ∨ (keyB i h.R = false ∧ A.heap.get i = some o ∧ i < A.next) := fun i o hg => by
        obtain ⟨k1, k2⟩ := putAll_get i h.R A.heap hR1
        cases hk : keyB i h.R with
        | false =>
          rw [k2 hk] at hg
          refine .inr ⟨rfl, hg, Nat.lt_of_not_le fun hle => ?_⟩
          rw [hR.top i hle] at hg; cases hg
        | true =>
          obtain ⟨o', ho'⟩ := keyB_iff.1 hk
          rw [k1 o' ho'] at hg; cases hg
          exact .inl ⟨ho', liesB_get hRB i _ ho'⟩
      have good : ∀ v' w', Good P σ ⟨putAll h.H .e, h.base⟩ w h.v B v' w' → Good P σ A w h.v ⟨putAll h.R A.heap, h.next⟩ v' w' := by
        rintro v' w' ⟨σ', hv', hR', hS'⟩
        have hext : ∀ i, i < A.next → σ' i = σ i := fun i hi => hS'.ext i (Nat.lt_of_lt_of_le hi hbase)
        have hnb : h.base ≤ h.next := by rw [← hnext]; exact hS'.next
        have hsub := hS'.sub hRs.lim
        -- blocks of what stays
        have hstay : ∀ i b d o, keyB i h.R = false → A.heap.get i = some o → live o = true → σ i = some (b, d) → ¬ Wr σ ⟨putAll h.H .e, h.base⟩ b := fun i b d o hk hg hl hi hw => by
          obtain ⟨k, d', o', h1, h2, h3, h4⟩ := hwr b hw
          obtain rfl := hR.inj i k b d d' o o' hi h1 hg h3 hl (live_of_mayW h4) (by rw [h4, Bool.or_true])
          rw [keepB_get hkeep i o' h2 h4] at hk; cases hk
        have hlt : ∀ i b d o, A.heap.get i = some o → live o = true → σ i = some (b, d) → b < w.heap.size := fun i b d o hg hl hi => by
          obtain ⟨x, hx, _⟩ := hR.obj i b d o hi hg hl
          exact (Array.getElem?_eq_some_iff.1 hx).1
        -- one told of, one that stays
        have hmix : ∀ i j b d d' o o', (i, o) ∈ h.R → B.heap.get i = some o → live o = true → σ' i = some (b, d) → keyB j h.R = false → A.heap.get j = some o' → live o' = true → σ j = some (b, d') → (mayW o || mayW o') = true → i = j := fun i j b d d' o o' _ hgi hli hi hkj hgj hlj hj hjk => by
          have hb := hlt j b d' o' hgj hlj hj
          by_cases hib : i < h.base
          · obtain ⟨o2, ho2, hl2⟩ := hS'.old i o hib hgi hli
            have hi2 : σ i = some (b, d) := by rw [← hS'.ext i hib]; exact hi
            cases hmo : mayW o with
            | true => exact (hstay j b d' o' hkj hgj hlj hj (hS'.wr b hb ⟨i, d, o, hi, hgi, hmo⟩)).elim
            | false =>
              rw [hmo, Bool.false_or] at hjk
              exact hR.inj i j b d d' o2 o' hi2 hj (hget i o2 ho2).2 hgj hl2 hlj (by rw [hjk, Bool.or_true])
          · have hw := hS'.new i b d o (Nat.le_of_not_lt hib) hi hgi hli hb
            exact (hstay j b d' o' hkj hgj hlj hj hw).elim
        refine ⟨σ', hv', hR.both ⟨⟨?_, ?_, ?_, hR'.glob, ?_⟩, ⟨hext, Nat.le_trans hbase hnb, hS'.os, hS'.tape, hS'.output, hS'.size, ?_, ?_, ?_, ?_⟩⟩⟩
        · intro i b d o hi hg hl
          rcases hm i o hg with ⟨_, hgB⟩ | ⟨hk, hgA, hlt'⟩
          · exact hR'.obj i b d o hi hgB hl
          · rw [hext i hlt'] at hi
            obtain ⟨x, hx, hor⟩ := hR.obj i b d o hi hgA hl
            refine ⟨x, ?_, hor.sub hsub⟩
            rw [hS'.block b (hlt i b d o hgA hl hi) (hstay i b d o hk hgA hl hi)]; exact hx
        · intro i j b d d' o o' hi hj hgi hgj hli hlj hjk
          rcases hm i o hgi with ⟨hri, hgiB⟩ | ⟨hki, hgiA, hlti⟩ <;> rcases hm j o' hgj with ⟨hrj, hgjB⟩ | ⟨hkj, hgjA, hltj⟩
          · exact hR'.inj i j b d d' o o' hi hj hgiB hgjB hli hlj hjk
          · rw [hext j hltj] at hj; exact hmix i j b d d' o o' hri hgiB hli hi hkj hgjA hlj hj hjk
          · rw [hext i hlti] at hi; exact (hmix j i b d' d o' o hrj hgjB hlj hj hki hgiA hli hi (by rw [Bool.or_comm]; exact hjk)).symm
          · rw [hext i hlti] at hi; rw [hext j hltj] at hj; exact hR.inj i j b d d' o o' hi hj hgiA hgjA hli hlj hjk
        · intro i hi; exact hR'.lim i (by rw [hnext]; exact hi)
        · intro i hi
          cases hg : (putAll h.R A.heap).get i with
          | none => rfl
          | some o =>
            rcases hm i o hg with ⟨_, hgB⟩ | ⟨_, hgA, hlt'⟩
            · rw [hR'.top i (by rw [hnext]; exact hi)] at hgB; cases hgB
            · have hi : h.next ≤ i := hi; omega
        · intro b hb hw; exact hS'.block b hb fun h' => hw (hwrA b h')
        · rintro b hb ⟨i, d, o, hi, hg, hmw⟩
          rcases hm i o hg with ⟨_, hgB⟩ | ⟨_, hgA, hlt'⟩
          · exact hwrA b (hS'.wr b hb ⟨i, d, o, hi, hgB, hmw⟩)
          · rw [hext i hlt'] at hi; exact ⟨i, d, o, hi, hgA, hmw⟩
        · intro i b d o hi hs' hg hl hb
          rcases hm i o hg with ⟨_, hgB⟩ | ⟨_, _, hlt'⟩
          · by_cases hib : i < h.base
            · rw [hS'.ext i hib, hR.lim i hi] at hs'; cases hs'
            · exact hwrA b (hS'.new i b d o (Nat.le_of_not_lt hib) hs' hgB hl hb)
          · omega
        · intro i o hi hg hl
          rcases hm i o hg with ⟨_, hgB⟩ | ⟨_, hgA, _⟩
          · obtain ⟨o2, ho2, hl2⟩ := hS'.old i o (Nat.lt_of_lt_of_le hi hbase) hgB hl
            exact ⟨o2, (hget i o2 ho2).2, hl2⟩
          · exact ⟨o, hgA, hl⟩
      rcases h0 h.f h.args ⟨putAll h.H .e, h.base⟩ h.v B hev σ w args' hRs ha with ⟨v', w', e, hg⟩ | ⟨g, as_, e, hg⟩
      · exact .inl ⟨v', w', e, good v' w' hg⟩
      · refine .inr ⟨g, as_, e, Calls.mono hg fun en w' he => ?_⟩
        cases en with
        | returned v' => exact good v' w' he
        | _ => exact he.elim
theorem hookAll_nil : HookOK P (hookAll []) := fun _ h => h
theorem hookAll_cons {h : Hook} {l : List Hook} (hh : HookOK P (hookCall h)) (hl : HookOK P (hookAll l)) : HookOK P (hookAll (h :: l)) := fun c hc => hh _ (hl c hc)
theorem HookOK.comp {h g : Caller → Caller} (hh : HookOK P h) (hg : HookOK P g) : HookOK P fun c => h (g c) := fun c hc => hh _ (hg c hc)
end Go.Ev

/- The evaluator: what a walk is told; the variables that are laid. -/
section
set_option linter.unusedSectionVars false
namespace Go.Ev
open Go.RowKit (Below)
variable {P : Program} [Frozen P]
mutual
def flatD : DataW Unit → Option (List Value)
  | .lit (.int k n) => some [.int k n]
  | .lit (.bool b) => some [.bool b]
  | .lit (.string s) => some [mkStr s]
  | .agg l => flatDs l
  | _ => none
def flatDs : List (DataW Unit) → Option (List Value)
  | [] => some []
  | d :: l => match flatD d, flatDs l with
    | some a, some b => some (a ++ b)
    | _, _ => none
end
def sideB (P : Program) [Frozen P] : List Field → Nat → Nat → Bool
  | [], i, n => Nat.beq i n
  | f :: fs, i, n => Nat.beq f.offset i && sideB P fs (i + P.cellsOf f.type) n
def layB (P : Program) [Frozen P] : Nat → TypeId → Bool
  | 0, _ => true
  | k + 1, t => match P.underlying t with
    | some (.struct fs) => sideB P fs.toList 0 (P.cellsOf t) && fs.toList.all fun f => layB P k f.type
    | some (.array n e) => Nat.beq (n * P.cellsOf e) (P.cellsOf t) && layB P k e
    | _ => true
theorem mapM_some {α β : Type} {f : α → Option β} : ∀ {l : List α} {r : List β}, l.mapM f = some r → (l = [] ∧ r = []) ∨ ∃ x l' y r', l = x :: l' ∧ r = y :: r' ∧ f x = some y ∧ l'.mapM f = some r' := by
  intro l r h
  cases l with
  | nil => simp at h; exact .inl ⟨rfl, h⟩
  | cons x l =>
    rw [List.mapM_cons] at h
    simp only [bind, Option.bind_eq_some_iff, pure, Option.some.injEq] at h
    obtain ⟨y, h1, ys, h2, rfl⟩ := h
    exact .inr ⟨x, l, y, ys, rfl, rfl, h1, h2⟩
theorem fields_flat {w : World} {k : Nat} {cs : List Value} (ih : ∀ t cs d p vs, layB P k t = true → DataW.trod (fun _ => ()) P w 0 (fun _ => true) false k t cs = some (d, p) → flatD d = some vs → cs = vs) :
    ∀ (fs : List Field) (i : Nat) (xs : List (DataW Unit × List MemPlace)) (vs : List Value), sideB P fs i cs.length = true → fs.all (fun f => layB P k f.type) = true → i ≤ cs.length →
      (fs.mapM fun f => DataW.trod (fun _ => ()) P w 0 (fun _ => true) false k f.type ((cs.drop f.offset).take (P.cellsOf f.type))) = some xs → flatDs (xs.map (·.1)) = some vs → cs.drop i = vs := by
  intro fs
  induction fs with
  | nil =>
    intro i xs vs hs _ hi h hv
    have hs : Nat.beq i cs.length = true := hs
    rw [beqIff] at hs
    simp at h
    subst h
    simp [flatDs] at hv
    subst hv
    rw [hs]; simp
  | cons f fs ihf =>
    intro i xs vs hs hall hi h hv
    have hs : (Nat.beq f.offset i && sideB P fs (i + P.cellsOf f.type) cs.length) = true := hs
    rw [andTrue, beqIff] at hs
    obtain ⟨ho, hs⟩ := hs
    simp only [List.all_cons, Bool.and_eq_true] at hall
    rcases mapM_some h with ⟨h1, _⟩ | ⟨x, l', y, r', h1, rfl, hx, hr⟩
    · cases h1
    · cases h1
      simp only [List.map_cons, flatDs] at hv
      obtain ⟨d, p⟩ := y
      cases hd : flatD d with
      | none => rw [hd] at hv; cases hv
      | some a =>
        cases hr2 : flatDs (r'.map (·.1)) with
        | none => rw [hd, hr2] at hv; cases hv
        | some b =>
          rw [hd, hr2] at hv
          cases hv
          have e1 := ih _ _ _ _ _ hall.1 hx hd
          rw [ho] at e1
          have hle : i + P.cellsOf f.type ≤ cs.length := by
            clear ihf h hd hr2 hx hr e1
            rcases Nat.lt_or_ge cs.length (i + P.cellsOf f.type) with hlt | hge
            · exfalso
              have : ∀ (fs : List Field) (j : Nat), cs.length < j → sideB P fs j cs.length = true → False := by
                intro fs
                induction fs with
                | nil => intro j hj hh; have : Nat.beq j cs.length = true := hh; rw [beqIff] at this; omega
                | cons g fs ihg =>
                  intro j hj hh
                  have hh : (Nat.beq g.offset j && sideB P fs (j + P.cellsOf g.type) cs.length) = true := hh
                  rw [andTrue] at hh
                  exact ihg _ (by omega) hh.2
              exact this fs _ hlt hs
            · exact hge
          have e2 := ihf (i + P.cellsOf f.type) r' b hs hall.2 hle hr hr2
          rw [← e1, ← e2, ← List.drop_drop, List.take_append_drop]
theorem elems_flat {w : World} {k : Nat} {e : TypeId} {cs : List Value} (ih : ∀ t cs d p vs, layB P k t = true → DataW.trod (fun _ => ()) P w 0 (fun _ => true) false k t cs = some (d, p) → flatD d = some vs → cs = vs) (hl : layB P k e = true) :
    ∀ (n j : Nat) (xs : List (DataW Unit × List MemPlace)) (vs : List Value), (j + n) * P.cellsOf e = cs.length →
      ((List.range' j n).mapM fun i => DataW.trod (fun _ => ()) P w 0 (fun _ => true) false k e ((cs.drop (i * P.cellsOf e)).take (P.cellsOf e))) = some xs → flatDs (xs.map (·.1)) = some vs → cs.drop (j * P.cellsOf e) = vs := by
  intro n
  induction n with
  | zero =>
    intro j xs vs hn h hv
    simp at h; subst h
    simp [flatDs] at hv; subst hv
    rw [Nat.add_zero] at hn; rw [hn]; simp
  | succ n ihn =>
    intro j xs vs hn h hv
    rw [List.range'_succ] at h
    rcases mapM_some h with ⟨h1, _⟩ | ⟨x, l', y, r', h1, rfl, hx, hr⟩
    · cases h1
    · cases h1
      simp only [List.map_cons, flatDs] at hv
      obtain ⟨d, p⟩ := y
      cases hd : flatD d with
      | none => rw [hd] at hv; cases hv
      | some a =>
        cases hr2 : flatDs (r'.map (·.1)) with
        | none => rw [hd, hr2] at hv; cases hv
        | some b =>
          rw [hd, hr2] at hv
          cases hv
          have e1 := ih _ _ _ _ _ hl hx hd
          have e2 := ihn (j + 1) r' b (by rw [← hn]; congr 1; omega) hr hr2
          rw [Nat.succ_mul] at e2
          rw [← e1, ← e2, ← List.drop_drop, List.take_append_drop]
theorem trod_flat {w : World} : ∀ (k : Nat) (t : TypeId) (cs : List Value) (d : DataW Unit) (p : List MemPlace) (vs : List Value), layB P k t = true → DataW.trod (fun _ => ()) P w 0 (fun _ => true) false k t cs = some (d, p) → flatD d = some vs → cs = vs := by
  intro k
  induction k with
  | zero => intro t cs d p vs _ h; simp [DataW.trod] at h
  | succ k ih =>
    intro t cs d p vs hl h hv
    unfold DataW.trod at h
    split at h
    · simp only [Option.some.injEq, Prod.mk.injEq] at h; obtain ⟨rfl, _⟩ := h; simp [flatD] at hv; exact hv
    · split at h
      · rename_i hk; simp only [Option.some.injEq, Prod.mk.injEq] at h; obtain ⟨rfl, _⟩ := h; simp [flatD] at hv; rw [← hv, hk.1]
      · cases h
    · split at h
      · simp only [Option.some.injEq, Prod.mk.injEq] at h; obtain ⟨rfl, _⟩ := h; simp [flatD] at hv
      · cases h
    · split at h
      · simp only [Option.some.injEq, Prod.mk.injEq] at h; obtain ⟨rfl, _⟩ := h; simp [flatD] at hv; rw [← hv]; rfl
      · cases h
    · simp only [Option.some.injEq, Prod.mk.injEq] at h; obtain ⟨rfl, _⟩ := h; simp [flatD] at hv
    · simp only [Option.map_eq_some_iff, Prod.mk.injEq] at h; obtain ⟨_, _, rfl, _⟩ := h; simp [flatD] at hv
    · simp only [Option.some.injEq, Prod.mk.injEq] at h; obtain ⟨rfl, _⟩ := h; simp [flatD] at hv
    · simp only at h
      split at h
      · simp only [Option.bind_eq_some_iff, Option.map_eq_some_iff, Prod.mk.injEq] at h
        obtain ⟨_, _, _, _, rfl, _⟩ := h; simp [flatD] at hv
      · cases h
    · rename_i fs hu
      split at h
      · rename_i hlen
        simp only [Option.map_eq_some_iff, Prod.mk.injEq] at h
        obtain ⟨xs, hx, rfl, _⟩ := h
        simp only [flatD] at hv
        simp only [layB, hu] at hl
        rw [andTrue] at hl
        have := fields_flat ih fs.toList 0 xs vs (by rw [hlen]; exact hl.1) hl.2 (Nat.zero_le _) hx hv
        simpa using this
      · cases h
    · rename_i n e hu
      split at h
      · rename_i hlen
        simp only [Option.map_eq_some_iff, Prod.mk.injEq] at h
        obtain ⟨xs, hx, rfl, _⟩ := h
        simp only [flatD] at hv
        simp only [layB, hu] at hl
        rw [andTrue, beqIff] at hl
        have := elems_flat ih hl.2 n 0 xs vs (by rw [Nat.zero_add, hlen]; exact hl.1) (by rw [← List.range_eq_range']; exact hx) hv
        simpa using this
      · cases h
    · simp only [Option.some.injEq, Prod.mk.injEq] at h; obtain ⟨rfl, _⟩ := h; simp [flatD] at hv
    · split at h
      · simp only [Option.some.injEq, Prod.mk.injEq] at h; obtain ⟨rfl, _⟩ := h; simp [flatD] at hv
      · simp only [Option.map_eq_some_iff, Prod.mk.injEq] at h; obtain ⟨_, _, rfl, _⟩ := h; simp [flatD] at hv
      · cases h
    · simp only [Option.some.injEq, Prod.mk.injEq] at h; obtain ⟨rfl, _⟩ := h; simp [flatD] at hv
    · split at h
      · split at h
        · simp only [Option.bind_eq_some_iff] at h
          obtain ⟨_, _, h⟩ := h
          split at h
          · simp only [Option.some.injEq, Prod.mk.injEq] at h; obtain ⟨rfl, _⟩ := h; simp [flatD] at hv
          · cases h
        · cases h
      · cases h
    all_goals first
      | (cases h; done)
      | (simp only [Option.some.injEq, Prod.mk.injEq] at h; obtain ⟨rfl, _⟩ := h; simp [flatD] at hv; done)
      | (split at h <;> first | (cases h; done) | (simp only [Option.some.injEq, Prod.mk.injEq] at h; obtain ⟨rfl, _⟩ := h; simp [flatD] at hv; done))
def LaidIn (G : List (Nat × AO)) (w : World) : Prop := ∀ g c e m, (g, AO.row c e m) ∈ G → ∃ e' fz, w.heap[g]? = some (.cells ⟨c⟩ e' fz)
theorem LaidIn.below {G : List (Nat × AO)} {w w' : World} (h : LaidIn G w) (hb : Below w.heap.size w w') : LaidIn G w' := fun g c e m hm => by
  obtain ⟨e', fz, hw⟩ := h g c e m hm
  exact ⟨e', fz, (hb.block g (Array.getElem?_eq_some_iff.1 hw).1).trans hw⟩
theorem laidVars_get {w : World} : ∀ {l : List (String × DataW Unit)} {ps : List MemPlace}, DataW.LaidVars P w l ps → ∀ n d, (n, d) ∈ l → ∀ g t vs, P.globalNamed n = some g → (P.globals[g]?).map (·.type) = some t → (∀ k, layB P k t = true) → flatD d = some vs →
    ∃ e' fz, w.heap[g]? = some (.cells ⟨vs⟩ e' fz) := by
  intro l
  induction l with
  | nil => intro ps _ n d h; cases h
  | cons x l ih =>
    intro ps h n d hm g t vs hg ht hl hv
    obtain ⟨n0, d0⟩ := x
    obtain ⟨g0, t0, cs, fuel, p, q, h1, h2, h3, h4, h5, _⟩ := h
    rcases List.mem_cons.1 hm with e | hm
    · cases e
      rw [hg] at h1; cases h1
      rw [ht] at h2; cases h2
      have := trod_flat fuel t cs.toList d p vs (hl fuel) h4 hv
      unfold World.var? at h3
      rw [hg] at h3
      simp only [Option.bind_some] at h3
      split at h3
      · rename_i cs' e' fz hw
        cases h3
        refine ⟨e', fz, ?_⟩
        rw [hw, ← this]
      · cases h3
    · exact ih h5 n d hm g t vs hg ht hl hv
noncomputable def roO (o : AO) : Bool := match o with
  | .row c _ .ro => flats c
  | _ => false
theorem roO_some {o : AO} (h : roO o = true) : ∃ c e, o = .row c e .ro ∧ flats c = true := by
  unfold roO at h
  split at h
  · exact ⟨_, _, rfl, h⟩
  · cases h
noncomputable def roB (ng : Nat) (l : List (Nat × AO)) : Bool := l.all fun p => Nat.blt p.1 ng && roO p.2
theorem Rel.laid {G : List (Nat × AO)} {ng : Nat} {w : World} (hng : P.globals.size = ng) (hro : roB ng G = true) (ho : onceB G = true) (hw : LaidIn G w) (hfro : ∀ b x, Frozen.F P b = some x → w.heap[b]? = some x) : Rel P (fun i => if i < ng then some (i, 0) else none) ⟨putAll G .e, ng⟩ w := by
  have hget : ∀ i o, (putAll G .e).get i = some o → (i, o) ∈ G := fun i o hg => by
    obtain ⟨k1, k2⟩ := putAll_get i G .e ho
    cases hk : keyB i G with
    | false => rw [k2 hk] at hg; cases hg
    | true =>
      obtain ⟨o', ho'⟩ := keyB_iff.1 hk
      rw [k1 o' ho'] at hg; cases hg
      exact ho'
  have hall : ∀ i o, (i, o) ∈ G → i < ng ∧ ∃ c e, o = .row c e .ro ∧ flats c = true := fun i o hm => by
    have := List.all_eq_true.1 hro (i, o) hm
    simp only [Bool.and_eq_true, blt_iff] at this
    exact ⟨this.1, roO_some this.2⟩
  refine ⟨⟨?_, ?_, ?_, ?_, ?_⟩, fun b x e => ⟨hfro b x e, ?_⟩⟩
  case' refine_6 =>
    rintro ⟨i, d, o, _, hg, hm⟩
    obtain ⟨_, c, e, rfl, _⟩ := hall i o (hget i o hg)
    cases hm
  · intro i b d o hi hg _
    obtain ⟨hlt, c, e, rfl, hf⟩ := hall i o (hget i o hg)
    rw [if_pos hlt] at hi; cases hi
    obtain ⟨e', fz, hx⟩ := hw i c e .ro (hget i _ hg)
    exact ⟨_, hx, .inl rfl, ⟨⟨c, [], by simp, .refl_flats hf, fun _ => rfl⟩, fun _ => rfl, fun _ h => (by cases h), fun h => (by cases h)⟩⟩
  · intro i j b d d' o o' hi hj _ _ _ _ _
    split at hi <;> split at hj <;> simp_all
  · intro i hi; exact if_neg (by show ¬ i < ng; have : ng ≤ i := hi; omega)
  · intro g hg; exact if_pos (by omega)
  · intro i hi
    cases hg : (putAll G .e).get i with
    | none => rfl
    | some o => have := (hall i o (hget i o hg)).1; have hi : ng ≤ i := hi; omega
noncomputable def flat3 (v : Value) : Bool := match v with
  | .tuple c => c.toList.all flat2
  | v => flat2 v
theorem VRL.of_flat2s {σ : Sg} : ∀ {l l' : List Value}, VRL σ l l' → l.all flat2 = true → l' = l
  | _, _, .nil, _ => rfl
  | _, _, .cons a b, h => by
    simp only [List.all_cons, Bool.and_eq_true] at h
    rw [a.of_flat2 h.1, VRL.of_flat2s b h.2]
theorem VR.of_flat3 {σ : Sg} {v v' : Value} (h : VR σ v v') (hf : flat3 v = true) : v' = v := by
  cases v with
  | tuple c =>
    obtain ⟨c⟩ := c
    obtain ⟨c', hc, rfl⟩ := h.tuple_inv
    rw [VRL.of_flat2s hc hf]
  | _ => exact h.of_flat2 hf
def layC (P : Program) [Frozen P] : Nat → TypeId → Bool
  | 0, _ => false
  | k + 1, t => match P.underlying t with
    | some (.struct fs) => sideB P fs.toList 0 (P.cellsOf t) && fs.toList.all fun f => layC P k f.type
    | some (.array n e) => Nat.beq (n * P.cellsOf e) (P.cellsOf t) && layC P k e
    | _ => true
theorem layC_layB : ∀ (c : Nat) (t : TypeId), layC P c t = true → ∀ k, layB P k t = true := by
  intro c
  induction c with
  | zero => intro t h; cases h
  | succ c ih =>
    intro t h k
    cases k with
    | zero => rfl
    | succ k =>
      unfold layC at h
      unfold layB
      split at h
      · rename_i fs hu
        rw [andTrue] at h
        rw [andTrue]
        refine ⟨h.1, List.all_eq_true.2 fun f hf => ih f.type (List.all_eq_true.1 h.2 f hf) k⟩
      · rename_i n e hu
        rw [andTrue] at h
        rw [andTrue]
        exact ⟨h.1, ih e h.2 k⟩
      · rfl
def findD (n : String) : List (String × DataW Unit) → Option (DataW Unit)
  | [] => none
  | x :: l => if x.1 == n then some x.2 else findD n l
theorem findD_mem {n : String} {d : DataW Unit} : ∀ {l : List (String × DataW Unit)}, findD n l = some d → (n, d) ∈ l := by
  intro l
  induction l with
  | nil => intro h; cases h
  | cons x l ih =>
    intro h
    unfold findD at h
    split at h
    · rename_i e; cases h; obtain ⟨a, b⟩ := x; simp at e; subst e; simp
    · exact List.mem_cons_of_mem _ (ih h)
noncomputable def varB (P : Program) [Frozen P] (l : List (String × DataW Unit)) (n : String) (p : Nat × AO) : Bool := match p.2, findD n l with
  | .row c _ _, some d => match P.globalNamed n, (P.globals[p.1]?).map (·.type), flatD d with
    | some g, some t, some vs => Nat.beq g p.1 && (layC P 8 t && leq veq6 vs c)
    | _, _, _ => false
  | _, _ => false
noncomputable def varsB (P : Program) [Frozen P] (l : List (String × DataW Unit)) : List String → List (Nat × AO) → Bool
  | [], [] => true
  | n :: ns, p :: ps => varB P l n p && varsB P l ns ps
  | _, _ => false
theorem laidIn_of {l : List (String × DataW Unit)} {w : World} (h : laidMet P l w) : ∀ {ns : List String} {G : List (Nat × AO)}, varsB P l ns G = true → LaidIn G w := by
  intro ns
  induction ns with
  | nil =>
    intro G hv
    cases G with
    | nil => intro g c e m hm; cases hm
    | cons p ps => cases hv
  | cons n ns ih =>
    intro G hv
    cases G with
    | nil => cases hv
    | cons p ps =>
      have hv : (varB P l n p && varsB P l ns ps) = true := hv
      rw [andTrue] at hv
      intro g c e m hm
      rcases List.mem_cons.1 hm with e1 | hm
      · subst e1
        have h1 := hv.1
        unfold varB at h1
        cases hd : findD n l with
        | none => rw [hd] at h1; cases h1
        | some d =>
          rw [hd] at h1
          simp only at h1
          split at h1
          · rename_i g' t vs hg ht hf
            rw [andTrue, andTrue, beqIff] at h1
            obtain ⟨rfl, hl, hq⟩ := h1
            obtain rfl := leq_eq (fun _ _ => veq6_eq) hq
            obtain ⟨ps', hL, _, _⟩ := h
            exact laidVars_get hL n d (findD_mem hd) _ t vs hg ht (layC_layB 8 t hl) hf
          · cases h1
      · exact ih hv.2 g c e m hm
end Go.Ev
end
