/- The evaluator: a call that was reckoned once, at another place. -/
import Derived.Test.YtfkacmmcgncooaaGreatDoorEvV
import Derived.Test.YtfkacmmcgncooaaGreatDoorYx0
set_option linter.unusedSectionVars false
namespace Go.Ev
open Go.RowKit (Below)
noncomputable section
def rn (b n i : Nat) : Nat := Bool.rec (Nat.add (Nat.sub i b) n) i (Nat.blt i b)
def unkV : Value := .iface UNK .nilIface
def renS1 (b n : Nat) (ih : Value → Value) (v : Value) : Value := match v with
  | .pointer (some ⟨i, o, none⟩) => .pointer (some ⟨rn b n i, o, none⟩)
  | .slice (some ⟨i, o, none⟩) l c => .slice (some ⟨rn b n i, o, none⟩) l c
  | .map (some i) => .map (some (rn b n i))
  | .func (.func f) a c => .func (.func f) ⟨a.toList.map ih⟩ ⟨c.toList.map ih⟩
  | .iface t x => Bool.rec unkV (.iface t (ih x)) (Nat.blt t SYM)
  | .agg c => .agg ⟨c.toList.map ih⟩
  | .tuple c => .tuple ⟨c.toList.map ih⟩
  | v => Bool.rec unkV v (flat v)
def renD (b n k : Nat) : Value → Value := Nat.rec (motive := fun _ => Value → Value) (fun _ => unkV) (fun _ ih => renS1 b n ih) k
def renE (b n : Nat) (e : MapEntry) : MapEntry := { e with val := renD b n 6 e.val }
def renO (b n : Nat) (o : AO) : AO := match o with
  | .row c e m => .row (c.map (renD b n 6)) e m
  | .map es k => .map (es.map (renE b n)) k
  | .dead => .dead
def renR (b n : Nat) (l : List (Nat × AO)) : List (Nat × AO) := l.map fun p => (rn b n p.1, renO b n p.2)
def allGe (b : Nat) (l : List (Nat × AO)) : Bool := List.rec true (fun p _ ih => Bool.rec false ih (Nat.ble b p.1)) l
def relocFits (h : Hook) (f : FuncId) (args : List Value) (A : AW) : Bool := Bool.rec false (Bool.rec false (liesB h.H A.heap) (leq veq6 args h.args)) (Nat.beq f h.f)
def relocCall (h : Hook) (c : Caller) (f : FuncId) (args : List Value) (A : AW) : Option (Value × AW) :=
  Bool.rec (c f args A) (some (renD h.base A.next 6 h.v, ⟨putAll (renR h.base A.next h.R) A.heap, Nat.add A.next (Nat.sub h.next h.base)⟩)) (relocFits h f args A)
end
variable {P : Program} [Frozen P] {σ σ1 σ2 : Sg}
theorem rn_lt {b n i : Nat} (h : i < b) : rn b n i = i := by unfold rn; rw [show Nat.blt i b = true from blt_iff.2 h]
theorem rn_ge {b n i : Nat} (h : b ≤ i) : rn b n i = i - b + n := by
  unfold rn
  rw [show Nat.blt i b = false from by cases hb : Nat.blt i b with | false => rfl | true => exact absurd (blt_iff.1 hb) (by omega)]
  rfl
theorem renD_succ {b n k : Nat} {v : Value} : renD b n (k + 1) v = renS1 b n (renD b n k) v := rfl
theorem vrl_map {f : Value → Value} (h : ∀ v v', VR σ1 v v' → VR σ2 (f v) v') : ∀ {l l' : List Value}, VRL σ1 l l' → VRL σ2 (l.map f) l'
  | _, _, .nil => .nil
  | _, _, .cons a b => .cons (h _ _ a) (vrl_map h b)
theorem renD_vr {b n : Nat} (h : ∀ i p, σ1 i = some p → σ2 (rn b n i) = some p) : ∀ (k : Nat) (v v' : Value), VR σ1 v v' → VR σ2 (renD b n k v) v' := by
  intro k
  induction k with
  | zero => intro v v' _; exact .any trivial
  | succ k ih =>
    intro v v' hv
    rw [renD_succ]
    cases hv with
    | flat hf =>
      cases v with
      | bool x => exact .flat rfl
      | int j x => exact .flat rfl
      | string s => exact .flat rfl
      | pointer a => cases a with
        | none => exact .flat rfl
        | some a => cases hf
      | slice a l c => cases a with
        | none => show VR σ2 (Bool.rec unkV (.slice none l c) (flat (.slice none l c))) _; rw [hf]; exact .flat hf
        | some a => cases hf
      | map a => cases a with
        | none => exact .flat rfl
        | some a => cases hf
      | nilFunc => exact .flat rfl
      | nilIface => exact .flat rfl
      | _ => cases hf
    | ptr hs => exact .ptr (h _ _ hs)
    | slice hs => exact .slice (h _ _ hs)
    | map hs => exact .map (h _ _ hs)
    | func h1 h2 =>
      rename_i fn f f' c c'
      cases fn with
      | func g => exact .func (vrl_map ih h1) (vrl_map ih h2)
      | _ => exact .any trivial
    | iface ht hv =>
      rename_i t x x'
      show VR σ2 (Bool.rec unkV (.iface t (renD b n k x)) (Nat.blt t SYM)) _
      rw [ht]; exact .iface ht (ih _ _ hv)
    | sym _ _ => exact .any trivial
    | any _ => exact .any trivial
    | emp _ => exact .any trivial
    | ext _ => exact .any trivial
    | exl _ => exact .any trivial
    | mnil _ _ _ => exact .any trivial
    | mn _ _ => exact .any trivial
    | agg hl => exact .agg (vrl_map ih hl)
    | tuple hl => exact .tuple (vrl_map ih hl)
theorem renE_er {b n : Nat} (h : ∀ i p, σ1 i = some p → σ2 (rn b n i) = some p) : ∀ {l l' : List MapEntry}, ER σ1 l l' → ER σ2 (l.map (renE b n)) l'
  | _, _, .nil => .nil
  | _, _, .cons a1 a2 a3 a4 t => .cons a1 a2 (renD_vr h 6 _ _ a3) a4 (renE_er h t)
theorem renO_or {b n d : Nat} {o : AO} {x : Obj} (h : ∀ i p, σ1 i = some p → σ2 (rn b n i) = some p) (k : OR P σ1 d o x) : OR P σ2 d (renO b n o) x := by
  cases o with
  | row c e m => cases x with
    | cells c' e' fz =>
      obtain ⟨k1, k2⟩ := k
      obtain ⟨cs, y, e1, e2, e3⟩ := k2.cells
      exact ⟨k1, ⟨cs, y, e1, vrl_map (renD_vr h 6) e2, e3⟩, k2.exact_, k2.cap, k2.free⟩
    | _ => exact k.elim
  | map es j => cases x with
    | map es' j' => exact ⟨k.1, renE_er h k.2⟩
    | _ => exact k.elim
  | dead => cases x <;> exact k.elim
theorem renO_live {b n : Nat} {o : AO} : live (renO b n o) = live o := by cases o <;> rfl
theorem renO_mayW {b n : Nat} {o : AO} : mayW (renO b n o) = mayW o := by cases o <;> rfl
theorem allGe_get {b : Nat} : ∀ {l : List (Nat × AO)}, allGe b l = true → ∀ p ∈ l, b ≤ p.1
  | [], _, _, h => by cases h
  | q :: l, hl, p, h => by
    have hl : (Bool.rec false (allGe b l) (Nat.ble b q.1) : Bool) = true := hl
    rw [recTrue] at hl
    cases h with
    | head => exact bleIff.1 hl.1
    | tail _ h => exact allGe_get hl.2 p h
theorem putAll_in : ∀ (l : List (Nat × AO)) (H : T AO) (j : Nat) (o : AO), (putAll l H).get j = some o → (j, o) ∈ l ∨ H.get j = some o
  | [], _, _, _, h => .inr h
  | p :: l, H, j, o, h => by
    rcases putAll_in l (H.set p.1 p.2) j o h with h1 | h1
    · exact .inl (.tail _ h1)
    · rw [get_set] at h1
      by_cases e : j = p.1
      · rw [if_pos e] at h1; cases h1; subst e; exact .inl (.head _)
      · rw [if_neg e] at h1; exact .inr h1
theorem reloc_ok {c0 : Caller} (h0 : CallOK P c0) {h : Hook} {ng : Nat} (hng : P.globals.size = ng) (hro : roB ng h.H = true) (ho : onceB h.H = true) (hb : Nat.ble ng h.base = true) (ha0 : lall flat2 h.args = true) (hge : allGe h.base h.R = true)
    (hr : hookRes h (c0 h.f h.args ⟨putAll h.H .e, h.base⟩) = true) : HookOK P (relocCall h) := by
  intro c hc f args A v A' hcall σ w args' hR ha
  unfold relocCall at hcall
  cases hfit : relocFits h f args A with
  | false => rw [hfit] at hcall; exact hc f args A v A' hcall σ w args' hR ha
  | true =>
    rw [hfit] at hcall
    have hcall : some (renD h.base A.next 6 h.v, (⟨putAll (renR h.base A.next h.R) A.heap, A.next + (h.next - h.base)⟩ : AW)) = some (v, A') := hcall
    cases hcall
    have hfit : (Bool.rec false (Bool.rec false (liesB h.H A.heap) (leq veq6 args h.args)) (Nat.beq f h.f) : Bool) = true := hfit
    rw [recTrue, recTrue] at hfit
    obtain ⟨hf, hargs, hlies⟩ := hfit
    obtain rfl := beqIff.1 hf
    obtain rfl := leq_eq (fun _ _ => veq6_eq) hargs
    have hb := bleIff.1 hb
    cases hev : c0 h.f h.args ⟨putAll h.H .e, h.base⟩ with
    | none => rw [hev] at hr; cases hr
    | some p =>
      obtain ⟨v1, B⟩ := p
      rw [hev] at hr
      have hr : (Bool.rec false (Bool.rec false (liesB h.R B.heap) (Nat.beq B.next h.next)) (veq6 v1 h.v) : Bool) = true := hr
      rw [recTrue, recTrue] at hr
      obtain ⟨hv, hnext, hRB⟩ := hr
      obtain rfl := veq6_eq hv
      have hnext := beqIff.1 hnext
      have hall : ∀ i o, (i, o) ∈ h.H → i < ng ∧ ∃ c e, o = .row c e .ro ∧ flats c = true := fun i o hm => by
        have := List.all_eq_true.1 hro (i, o) hm
        simp only [Bool.and_eq_true, blt_iff] at this
        exact ⟨this.1, roO_some this.2⟩
      have hget : ∀ i o, (putAll h.H .e).get i = some o → (i, o) ∈ h.H := fun i o hg => by
        rcases putAll_in h.H .e i o hg with h1 | h1
        · exact h1
        · exact (no_get h1).elim
      have hgl : ∀ g, g < ng → σ g = some (g, 0) := fun g hg => hR.glob g (by rw [hng]; exact hg)
      have hnA : ng ≤ A.next := Nat.le_of_not_lt fun hlt => by
        have := hgl A.next hlt
        rw [hR.lim A.next (Nat.le_refl _)] at this; cases this
      let σ0 : Sg := fun i => if i < ng then some (i, 0) else none
      have hRs : Rel P σ0 ⟨putAll h.H .e, h.base⟩ w := by
        refine ⟨⟨?_, ?_, ?_, ?_, ?_⟩, fun b x hx => ⟨(hR.fro b x hx).1, ?_⟩⟩
        · intro i b d o hi hg _
          have hm := hget i o hg
          obtain ⟨hlt, c, e, rfl, hfl⟩ := hall i o hm
          have hi : (if i < ng then some (i, 0) else none) = some (b, d) := hi
          rw [if_pos hlt] at hi; cases hi
          obtain ⟨x, hx, hor⟩ := hR.obj i i 0 _ (hgl i hlt) (liesB_get hlies i _ hm) rfl
          refine ⟨x, hx, ?_⟩
          cases x with
          | cells c' e' fz =>
            obtain ⟨k1, k2⟩ := hor
            obtain ⟨cs, y, e1, e2, e3⟩ := k2.cells
            exact ⟨k1, ⟨cs, y, e1, by rw [e2.of_flats hfl]; exact .refl_flats hfl, e3⟩, k2.exact_, k2.cap, k2.free⟩
          | _ => exact hor.elim
        · intro i j b d d' o o' hi hj _ _ _ _ _
          have hi : (if i < ng then some (i, 0) else none) = some (b, d) := hi
          have hj : (if j < ng then some (j, 0) else none) = some (b, d') := hj
          split at hi <;> split at hj <;> simp_all
        · intro i hi
          have hi : h.base ≤ i := hi
          exact if_neg (by omega)
        · intro g hg
          rw [hng] at hg
          exact if_pos hg
        · intro i hi
          have hi : h.base ≤ i := hi
          cases hg : (putAll h.H .e).get i with
          | none => rfl
          | some o => have := (hall i o (hget i o hg)).1; omega
        · rintro ⟨i, d, o, _, hg, hm⟩
          obtain ⟨_, c, e, rfl, _⟩ := hall i o (hget i o hg)
          cases hm
      have hnw : ∀ b, ¬ Wr σ0 ⟨putAll h.H .e, h.base⟩ b := by
        rintro b ⟨i, d, o, _, hg, hm⟩
        obtain ⟨_, c, e, rfl, _⟩ := hall i o (hget i o hg)
        cases hm
      have good : ∀ v' w', Good P σ0 ⟨putAll h.H .e, h.base⟩ w h.v B v' w' → Good P σ A w (renD h.base A.next 6 h.v) ⟨putAll (renR h.base A.next h.R) A.heap, A.next + (h.next - h.base)⟩ v' w' := by
        rintro v' w' ⟨σ1, hv', hR', hS'⟩
        have hnb : h.base ≤ h.next := by rw [← hnext]; exact hS'.next
        let σ2 : Sg := fun j => if j < A.next then σ j else σ1 (j - A.next + h.base)
        have hlo : ∀ j, j < A.next → σ2 j = σ j := fun j hj => if_pos hj
        have hhi : ∀ j, A.next ≤ j → σ2 j = σ1 (j - A.next + h.base) := fun j hj => if_neg (by omega)
        have hmap : ∀ i p, σ1 i = some p → σ2 (rn h.base A.next i) = some p := fun i p hp => by
          by_cases hi : i < h.base
          · rw [rn_lt hi]
            have h1 : σ1 i = σ0 i := hS'.ext i hi
            rw [h1] at hp
            have hp : (if i < ng then some (i, 0) else none) = some p := hp
            split at hp
            · rename_i hlt
              cases hp
              rw [hlo i (by omega)]; exact hgl i hlt
            · cases hp
          · rw [rn_ge (by omega), hhi _ (by omega), show i - h.base + A.next - A.next + h.base = i by omega]; exact hp
        have hsub : Sub σ σ2 := fun i p hp => by rw [hlo i (hR.lt hp)]; exact hp
        have hsame : ∀ b, b < w.heap.size → w'.heap[b]? = w.heap[b]? := fun b hlt => hS'.block b hlt (hnw b)
        have hold : ∀ i b d o, A.heap.get i = some o → live o = true → σ i = some (b, d) → b < w.heap.size := fun i b d o hg hl hi => by
          obtain ⟨x, hx, _⟩ := hR.obj i b d o hi hg hl
          exact (Array.getElem?_eq_some_iff.1 hx).1
        have hnew : ∀ i b d o, h.base ≤ i → B.heap.get i = some o → live o = true → σ1 i = some (b, d) → ¬ b < w.heap.size := fun i b d o hi hg hl hs hlt => hnw b (hS'.new i b d o hi hs hg hl hlt)
        -- what lies there
        have hm : ∀ j o, (putAll (renR h.base A.next h.R) A.heap).get j = some o → (∃ i o1, h.base ≤ i ∧ i < h.next ∧ j = i - h.base + A.next ∧ o = renO h.base A.next o1 ∧ B.heap.get i = some o1) ∨ (A.heap.get j = some o ∧ j < A.next) := fun j o hg => by
          rcases putAll_in _ _ j o hg with h1 | h1
          · obtain ⟨⟨i, o1⟩, h2, h3⟩ := List.mem_map.1 h1
            cases h3
            have hi := allGe_get hge _ h2
            have hB := liesB_get hRB i _ h2
            refine .inl ⟨i, o1, hi, Nat.lt_of_not_le fun hle => ?_, rn_ge hi, rfl, hB⟩
            rw [hR'.top i (by rw [hnext]; exact hle)] at hB; cases hB
          · refine .inr ⟨h1, Nat.lt_of_not_le fun hle => ?_⟩
            rw [hR.top j hle] at h1; cases h1
        have hid : ∀ i, h.base ≤ i → σ2 (i - h.base + A.next) = σ1 i := fun i hi => by rw [hhi _ (by omega), show i - h.base + A.next - A.next + h.base = i by omega]
        refine ⟨σ2, renD_vr hmap 6 _ _ hv', hR.both ⟨⟨?_, ?_, ?_, ?_, ?_⟩, ⟨hlo, Nat.le_add_right _ _, hS'.os, hS'.tape, hS'.output, hS'.size, fun b hlt _ => hsame b hlt, ?_, ?_, ?_⟩⟩⟩
        · intro j b d o hj hg hl
          rcases hm j o hg with ⟨i, o1, hi, _, rfl, rfl, hB⟩ | ⟨hA, hlt⟩
          · rw [hid i hi] at hj
            rw [renO_live] at hl
            obtain ⟨x, hx, hor⟩ := hR'.obj i b d o1 hj hB hl
            exact ⟨x, hx, renO_or hmap hor⟩
          · rw [hlo j hlt] at hj
            obtain ⟨x, hx, hor⟩ := hR.obj j b d o hj hA hl
            exact ⟨x, by rw [hsame b (hold j b d o hA hl hj)]; exact hx, hor.sub hsub⟩
        · intro j k b d d' o o' hj hk hgj hgk hlj hlk hjk
          rcases hm j o hgj with ⟨i, o1, hi, _, rfl, rfl, hB⟩ | ⟨hA, hlt⟩ <;> rcases hm k o' hgk with ⟨i', o1', hi', _, rfl, rfl, hB'⟩ | ⟨hA', hlt'⟩
          · rw [hid i hi] at hj; rw [hid i' hi'] at hk
            rw [renO_live] at hlj hlk
            rw [renO_mayW, renO_mayW] at hjk
            rw [hR'.inj i i' b d d' o1 o1' hj hk hB hB' hlj hlk hjk]
          · rw [hid i hi] at hj; rw [hlo k hlt'] at hk
            rw [renO_live] at hlj
            exact (hnew i b d o1 hi hB hlj hj (hold k b d' o' hA' hlk hk)).elim
          · rw [hlo j hlt] at hj; rw [hid i' hi'] at hk
            rw [renO_live] at hlk
            exact (hnew i' b d' o1' hi' hB' hlk hk (hold j b d o hA hlj hj)).elim
          · rw [hlo j hlt] at hj; rw [hlo k hlt'] at hk
            exact hR.inj j k b d d' o o' hj hk hA hA' hlj hlk hjk
        · intro j hj
          have hj : A.next + (h.next - h.base) ≤ j := hj
          rw [hhi j (by omega)]
          exact hR'.lim _ (by rw [hnext]; omega)
        · intro g hg
          rw [hlo g (by rw [hng] at hg; omega)]
          exact hR.glob g hg
        · intro j hj
          have hj : A.next + (h.next - h.base) ≤ j := hj
          cases hg : (putAll (renR h.base A.next h.R) A.heap).get j with
          | none => rfl
          | some o =>
            rcases hm j o hg with ⟨i, o1, hi, hi2, rfl, _, _⟩ | ⟨_, hlt⟩ <;> omega
        · rintro b hlt ⟨j, d, o, hj, hg, hmw⟩
          rcases hm j o hg with ⟨i, o1, hi, _, rfl, rfl, hB⟩ | ⟨hA, hlt'⟩
          · rw [hid i hi] at hj
            rw [renO_mayW] at hmw
            exact (hnew i b d o1 hi hB (live_of_mayW hmw) hj hlt).elim
          · rw [hlo j hlt'] at hj; exact ⟨j, d, o, hj, hA, hmw⟩
        · intro j b d o hle hj hg hl hlt
          rcases hm j o hg with ⟨i, o1, hi, _, rfl, rfl, hB⟩ | ⟨_, hlt'⟩
          · rw [hid i hi] at hj
            rw [renO_live] at hl
            exact (hnew i b d o1 hi hB hl hj hlt).elim
          · omega
        · intro j o hlt hg hl
          rcases hm j o hg with ⟨i, o1, hi, _, rfl, _, _⟩ | ⟨hA, _⟩
          · omega
          · exact ⟨o, hA, hl⟩
      have ha1 : args' = h.args := vrl_flats ha ha0
      subst ha1
      rcases h0 h.f h.args ⟨putAll h.H .e, h.base⟩ h.v B hev σ0 w h.args hRs (vrl_refl_flats ha0) with ⟨v', w', e, hg⟩ | ⟨g, as_, e, hg⟩
      · exact .inl ⟨v', w', e, good v' w' hg⟩
      · refine .inr ⟨g, as_, e, Calls.mono hg fun en w' he => ?_⟩
        cases en with
        | returned v' => exact good v' w' he
        | _ => exact he.elim
noncomputable def pcall (f0 : FuncId) (a0 : List Value) (v0 : Value) (c : Caller) : Caller := fun f args A => Bool.rec (c f args A) (some (v0, A)) (Bool.rec false (leq veq6 args a0) (Nat.beq f f0))
theorem vr_refl3 {v : Value} (hf : flat3 v = true) : VR σ v v := by
  unfold flat3 at hf
  split at hf
  · exact .tuple (.refl_flat2s hf)
  · exact .refl_flat2 hf
theorem pcall_ok {c0 : Caller} (h0 : CallOK P c0) {f0 : FuncId} {a0 : List Value} {v0 : Value} (ha : lall flat2 a0 = true) (hv : flat3 v0 = true) (hr : resIs v0 (c0 f0 a0 ⟨.e, P.globals.size⟩) = true) : HookOK P (pcall f0 a0 v0) := by
  intro c hc f args A v A' hcall σ w args' hR ha'
  unfold pcall at hcall
  cases hfit : (Bool.rec false (leq veq6 args a0) (Nat.beq f f0) : Bool) with
  | false => rw [hfit] at hcall; exact hc f args A v A' hcall σ w args' hR ha'
  | true =>
    rw [hfit] at hcall
    have hcall : some (v0, A) = some (v, A') := hcall
    cases hcall
    rw [recTrue] at hfit
    obtain rfl := beqIff.1 hfit.1
    obtain rfl := leq_eq (fun _ _ => veq6_eq) hfit.2
    obtain rfl := vrl_flats ha' ha
    cases hev : c0 f args' ⟨.e, P.globals.size⟩ with
    | none => rw [hev] at hr; cases hr
    | some p =>
      obtain ⟨v1, B⟩ := p
      rw [hev] at hr
      obtain rfl := veq6_eq (show veq6 v1 v0 = true from hr)
      have hnw : ∀ b, ¬ Wr (fun i => if i < P.globals.size then some (i, 0) else none) (⟨.e, P.globals.size⟩ : AW) b := fun b ⟨_, _, _, _, hg, _⟩ => no_get hg
      have good : ∀ v' w', Good P (fun i => if i < P.globals.size then some (i, 0) else none) ⟨.e, P.globals.size⟩ w v1 B v' w' → Good P σ A w v1 A v' w' := by
        rintro v' w' ⟨σ', h1, _, hS⟩
        obtain rfl := h1.of_flat3 hv
        exact ⟨σ, vr_refl3 hv, hR.below ⟨hS.os, hS.tape, hS.output, hS.size, fun k hk => hS.block k hk (hnw k)⟩⟩
      rcases h0 f args' _ v1 B hev _ w args' hR.bare (vrl_refl_flats ha) with ⟨v', w', e, hg⟩ | ⟨g, as_, e, hg⟩
      · exact .inl ⟨v', w', e, good v' w' hg⟩
      · refine .inr ⟨g, as_, e, Calls.mono hg fun en w' he => ?_⟩
        cases en with
        | returned v' => exact good v' w' he
        | _ => exact he.elim
noncomputable def allC (l : List (Caller → Caller)) : Caller → Caller := fun c => List.rec c (fun h _ ih => h ih) l
theorem allC_nil : HookOK P (allC []) := fun _ h => h
theorem allC_cons {h : Caller → Caller} {l : List (Caller → Caller)} (hh : HookOK P h) (hl : HookOK P (allC l)) : HookOK P (allC (h :: l)) := fun c hc => hh _ (hl c hc)
noncomputable def gcall (f0 : FuncId) (h : Caller → Caller) (c : Caller) : Caller := fun f args A => Bool.rec (c f args A) (h c f args A) (Nat.beq f f0)
theorem gcall_ok {f0 : FuncId} {h : Caller → Caller} (hh : HookOK P h) : HookOK P (gcall f0 h) := fun c hc f args A v A' hcall => by
  unfold gcall at hcall
  cases hb : Nat.beq f f0 with
  | false => rw [hb] at hcall; exact hc f args A v A' hcall
  | true => rw [hb] at hcall; exact hh c hc f args A v A' hcall
end Go.Ev
