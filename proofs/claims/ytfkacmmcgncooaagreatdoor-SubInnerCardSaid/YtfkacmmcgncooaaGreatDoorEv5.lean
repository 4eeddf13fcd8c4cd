/- The evaluator with variables: operations that change the memory. -/
import Derived.Test.YtfkacmmcgncooaaGreatDoorEv4
set_option linter.unusedSectionVars false
namespace Go.Ev
variable {P : Program} {σ : Sg} {w : World} [Frozen P]
noncomputable section
def lput (c : List Value) (o : Nat) (vs : List Value) : List Value := c.take o ++ (vs ++ c.drop (o + vs.length))
def lwin (c : List Value) (o n : Nat) : List Value := (c.drop o).take n
def rowC (H : T AO) (b : Nat) (f : List Value → TypeId → Md → Prop) : Prop := cpo (H.get b) fun o => match o with
  | .row c e m => f c e m
  | _ => False
def symStore (P : Program) [Frozen P] (t : TypeId) (A : AW) (p v : Value) (K : Fx → Prop) : Prop := cpo (ptrV p) fun a => match a with
  | ⟨b, o, none⟩ => cpo (sizeA P t) fun n => cpb (lenB (cellsA v) n) (cpb (lall oneK (cellsA v)) (rowC A.heap b fun c e m => cpb m.writes
    (o + n ≤ c.length ∧ ∀ c', c' = lput c o (cellsA v) → K (.val (.tuple #[]) (A.put b (.row c' e m))))))
  | _ => False
def Few (n by_ : Nat) : Prop := n * (by_ + 1) ≤ 1073741824
def symSrc (H : T AO) (sz : Nat) (x : Value) (f : Nat → List Value → Prop) : Prop := match x with
  | .slice none n _ => cpb (Nat.beq n 0) (f 0 [])
  | .slice (some ⟨b, o, none⟩) l _ => rowC H b fun c _ _ => o + l * sz ≤ c.length ∧ ∀ xs, xs = lwin c o (l * sz) → f l xs
  | _ => False
def newS (A : AW) (n k : Nat) (c : List Value) (e : TypeId) (m : Md) (K : Fx → Prop) : Prop := K (.val (tg (.slice (some ⟨A.next, 0, none⟩) n k)) (A.add (.row c e m)))
def symApp (A : AW) (e : TypeId) (sz by_ m : Nat) (xs : List Value) (s : Value) (K : Fx → Prop) : Prop := match s with
  | .slice none _ cap => cpb (Nat.beq cap 0) ((m = 0 → K (.val (.slice none 0 0) A)) ∧ (m ≠ 0 → Few m by_ ∧ newS A m m xs e (.grown m) K))
  | .slice (some ⟨b, o, none⟩) l cap => rowC A.heap b fun c e' md => match md with
    | .grown rc => cpb (Nat.beq e e') ((o = 0 ∧ c.length = l * sz ∧ cap = rc ∧ l ≤ rc ∧ Few (l + m) by_ ∧ lall oneK xs = true) ∧ ∀ n k : Nat, n = l + m → k = (if n ≤ rc then rc else n) → newS (A.put b .dead) n k (c ++ xs) e (.grown k) K)
    | .gro => False
    | md => (l + m ≤ cap → md.writes = true ∧ lall oneK xs = true ∧ o + l * sz + xs.length ≤ c.length ∧ ∀ (n : Nat) (c' : List Value), n = l + m → c' = lput c (o + l * sz) xs → K (.val (tg (.slice (some ⟨b, o, none⟩) n cap)) (A.put b (.row c' e' md)))) ∧
      (¬ l + m ≤ cap → Few (l + m) by_ ∧ o + l * sz ≤ c.length ∧ ∀ (n : Nat) (ys : List Value), n = l + m → ys = lwin c o (l * sz) ++ xs → newS A n n ys e (.grown n) K)
  | _ => False
def symAppend (P : Program) [Frozen P] (t : TypeId) (xt : Option TypeId) (A : AW) (s x : Value) (K : Fx → Prop) : Prop := cpo (sliceT P t) fun e => cpo xt fun xt => cpo (P.underlying xt) fun xd => cpb (notInt xd) (cpo (P.info? e) fun i => cpo i.zero fun z =>
  cpb (lenB (cellsA z) i.size) (mnWays x fun x => mnWays s fun s => symSrc A.heap i.size x fun m xs => symApp A e i.size i.bytes m xs s K))
def symMake (P : Program) [Frozen P] (t : TypeId) (A : AW) (l c : Value) (K : Fx → Prop) : Prop := cpo (sliceT P t) fun e => cpo (zeroA P e) fun z => cpo (P.info? e) fun i => cpb (lenB z i.size) (match l with
  | .int .i64 ln => match c with
    | .int .i64 cn => (0 ≤ ln ∧ ln ≤ cn ∧ Few cn.toNat i.bytes) ∧ ∀ (n k : Nat) (cs : List Value), n = ln.toNat → k = cn.toNat → cs = lrep k z → newS A n k cs e .own K
    | _ => False
  | _ => False)
def symPutXs (A : AW) (b o n : Nat) (xs : List Value) (K : Fx → Prop) : Prop := rowC A.heap b fun c e md => (md.writes = true ∧ lall oneK xs = true ∧ o + xs.length ≤ c.length) ∧ ∀ c', c' = lput c o xs → K (.val (tgI .i64 n) (A.put b (.row c' e md)))
def symCopy (P : Program) [Frozen P] (t : TypeId) (A : AW) (d s : Value) (K : Fx → Prop) : Prop := cpo (sliceT P t) fun e => cpo (sizeA P e) fun sz => match d with
  | .slice (some ⟨b, o, none⟩) len _ => mnWays s fun s => match s with
    | .slice none n _ => cpb (Nat.beq n 0) (symPutXs A b o 0 [] K)
    | .slice (some ⟨b2, o2, none⟩) l _ => rowC A.heap b2 fun c2 _ _ => ∀ n : Nat, n = min l len → o2 + n * sz ≤ c2.length ∧ ∀ xs, xs = lwin c2 o2 (n * sz) → symPutXs A b o n xs K
    | _ => False
  | _ => False
def symStrOf (P : Program) [Frozen P] (s d : TypeId) (A : AW) (K : Fx → Prop) (v : Value) : Prop := cpo (sliceT P s) fun e => cpo (P.underlying e) fun ed => cpb (u8D ed) (cpo (sizeA P e) fun sz => cpb (Nat.beq sz 1) (cpo (P.underlying d) fun dd => cpb (strD dd) (match v with
  | .slice none n _ => cpb (Nat.beq n 0) (K (.val (mkStr []) A))
  | .slice (some ⟨b, o, none⟩) l _ => rowC A.heap b fun c _ _ => o + l ≤ c.length ∧ ∃ bs : List UInt8, (bs.length = l ∧ ∀ i u, bs[i]? = some u → Rd c (o + i) (.int .u8 u.toNat)) ∧ K (.val (tg (mkStr bs)) A)
  | _ => False)))
def isSliceT (P : Program) [Frozen P] (t : TypeId) : Bool := Option.rec false (fun _ => true) (sliceT P t)
def twoE (o : Op) (P : Program) [Frozen P] (F : T Value) (A : AW) (x y : Operand) (K : Fx → Prop) (s : Value → Value → Prop) : Prop := cpo (opnd P F x) fun a => cpo (opnd P F y) fun b =>
  Bool.rec (cpo (evE o P F A) K) (s a b) (isSym a || isSym b)
def symECall (c : Call) (o : Op) (P : Program) [Frozen P] (F : T Value) (A : AW) (K : Fx → Prop) : Prop := match c.callee with
  | .builtin .append => match c.args.toList with
    | [x, y] => cpo (lget c.argTypes.toList 0) fun t => twoE o P F A x y K fun a b => symAppend P t (lget c.argTypes.toList 1) A a b K
    | _ => False
  | .builtin .copy => match c.args.toList with
    | [x, y] => cpo (lget c.argTypes.toList 0) fun t => twoE o P F A x y K fun a b => Option.rec (symCopy P t A (uval a) b K) (fun _ => False) (mnB a)
    | _ => False
  | _ => cpo (evE o P F A) K
def symE (P : Program) [Frozen P] (o : Op) (F : T Value) (A : AW) (K : Fx → Prop) : Prop := match o with
  | .store t x y => cpo (opnd P F x) fun a => cpo (opnd P F y) fun b => Bool.rec (cpo (evE o P F A) K) (symStore P t A (uval a) b K) (isSym a)
  | .makeSlice t l c => twoE o P F A l c K fun a b => symMake P t A (uval a) (uval b) K
  | .call c => symECall c o P F A K
  | .convert s d x => cpo (opnd P F x) fun a => Bool.rec (cpo (evE o P F A) K) (mnWays a (symStrOf P s d A K)) (isSym a && isSliceT P s)
  | o => cpo (evE o P F A) K
end
def FSem (P : Program) [Frozen P] (o : Oper) (F : T Value) (A : AW) (f : Fx) : Prop := ∀ (σ : Sg) (w : World) (a : Act), Rel P σ A w → OK P σ F a o.op.operands.toList → Fine P σ A w ((execOp a.eval o).run P w) f
theorem rowC_iff {H : T AO} {b : Nat} {f : List Value → TypeId → Md → Prop} : rowC H b f ↔ ∃ c e m, H.get b = some (.row c e m) ∧ f c e m := by
  unfold rowC
  rw [cpo_iff]
  constructor
  · rintro ⟨o, ho, h⟩
    cases o with
    | row c e m => exact ⟨c, e, m, ho, h⟩
    | _ => exact h.elim
  · rintro ⟨c, e, m, ho, h⟩; exact ⟨_, ho, h⟩
theorem lover_of {α : Type} (xs : List α) : ∀ (off : Nat) (l : List α), off + xs.length ≤ l.length → lover xs off l = some (l.take off ++ (xs ++ l.drop (off + xs.length))) := by
  intro off
  induction off with
  | zero =>
    intro l hl
    have : ∀ (xs l : List α), xs.length ≤ l.length → lhead xs l = some (xs ++ l.drop xs.length) := by
      intro xs
      induction xs with
      | nil => intro l _; rfl
      | cons x xs ih => intro l h; cases l with
        | nil => simp at h
        | cons y l =>
          show ocons x (lhead xs l) = _
          rw [ih l (by simpa using h)]; rfl
    show lhead xs l = _
    rw [this xs l (by omega)]
    simp
  | succ k ih =>
    intro l hl
    cases l with
    | nil => simp at hl
    | cons y l =>
      show ocons y (lover xs k l) = _
      have hl : k + 1 + xs.length ≤ l.length + 1 := by simpa using hl
      rw [ih l (by omega)]
      have e : k + 1 + xs.length = (k + xs.length) + 1 := by omega
      rw [e]; rfl
theorem lover_put {c vs : List Value} {o : Nat} (h : o + vs.length ≤ c.length) : lover vs o c = some (lput c o vs) := lover_of vs o c h
theorem ce {o : Oper} {F : T Value} {A : AW} {K : Fx → Prop} (h : cpo (evE o.op P F A) K) : ∃ f, K f ∧ FSem P o F A f := by
  rw [cpo_iff] at h
  obtain ⟨f, h1, h2⟩ := h
  exact ⟨f, h2, fun _ _ _ hR hO => evE_sound hR hO h1⟩
theorem symStore_sound {t : TypeId} {A : AW} {p v : Value} {K : Fx → Prop} (h : symStore P t A p v K) : ∃ A', K (.val (.tuple #[]) A') ∧ storeA P t A p v = some A' ∧ ∃ a, p = .pointer (some a) := by
  unfold symStore at h
  simp only [cpo_iff, ptrV_some] at h
  obtain ⟨a, rfl, h⟩ := h
  split at h
  · rename_i b o
    simp only [cpo_iff, cpb_iff, rowC_iff, lenB_iff] at h
    obtain ⟨n, hn, hl, h1, c, e, m, hg, hm, hle, hK⟩ := h
    refine ⟨_, hK _ rfl, ?_, _, rfl⟩
    simp only [storeA, ob_some, bt_some, ptrV_some, plainAt_some, rowAt_some, lenB_iff, Option.some.injEq]
    exact ⟨_, rfl, rfl, n, hn, hl, h1, c, e, m, hg, hm, _, lover_put (by rw [hl]; exact hle), rfl⟩
  · exact h.elim
theorem symSrc_some {H : T AO} {sz : Nat} {x : Value} {f : Nat → List Value → Prop} (h : symSrc H sz x f) : ∃ m xs, f m xs ∧ lenV x = some m ∧ srcA H sz m x = some xs ∧ xs.length = m * sz := by
  unfold symSrc at h
  split at h
  · rename_i n c
    rw [cpb_iff, beqIff] at h
    obtain ⟨rfl, h⟩ := h
    exact ⟨0, [], h, rfl, rfl, by simp⟩
  · rename_i b o l c
    rw [rowC_iff] at h
    obtain ⟨c', e, m, hg, hle, h⟩ := h
    refine ⟨l, lwin c' o (l * sz), h _ rfl, rfl, ?_, by simp [lwin]; omega⟩
    rw [srcA_slice, rowAt_some]
    exact ⟨c', e, m, hg, lsub_of hle⟩
  · exact h.elim
theorem few_of {n by_ : Nat} (h : Few n by_) : few n by_ = true := by
  have h : n * (by_ + 1) ≤ 1073741824 := h
  unfold few; exact bleIff.2 h
def Mk (v0 v : Value) : Prop := v = v0 ∨ (v = tg v0 ∧ isScal v0 = true)
theorem Mk.vr {v0 v v' : Value} (h : Mk v0 v) (k : VR σ v0 v') : VR σ v v' := by
  rcases h with rfl | ⟨rfl, e⟩
  · exact k
  · exact .sym e k
theorem Mk.gives {A A' : AW} {r : Result Value} {v0 v : Value} (h : Mk v0 v) (k : Gives P σ A w r v0 A') : Gives P σ A w r v A' := by
  obtain ⟨v', σ', w', e, h1, h2, h3⟩ := k
  exact ⟨v', σ', w', e, h.vr h1, h2, h3⟩
theorem symApp_sound {A : AW} {e : TypeId} {sz by_ m : Nat} {xs : List Value} {s : Value} {K : Fx → Prop} (h : symApp A e sz by_ m xs s K) :
    ∃ v A' v0, K (.val v A') ∧ appTo A e sz by_ m xs s = some (v0, A') ∧ Mk v0 v := by
  unfold symApp at h
  split at h
  · rename_i l cap
    rw [cpb_iff] at h
    obtain ⟨hc, h1, h2⟩ := h
    have hap : appTo A e sz by_ m xs (.slice none l cap) = bt (Nat.beq cap 0) (appNil A e by_ m xs) := rfl
    rw [hap, hc]
    cases m with
    | zero => exact ⟨_, _, _, h1 rfl, rfl, .inl rfl⟩
    | succ m =>
      obtain ⟨hf, h2⟩ := h2 (by simp)
      refine ⟨_, _, _, h2, ?_, .inr ⟨rfl, rfl⟩⟩
      show bt (few (m + 1) by_) (newSlice A (m + 1) (m + 1) xs e (.grown (m + 1))) = _
      rw [few_of hf]; rfl
  · rename_i b o l cap
    rw [rowC_iff] at h
    obtain ⟨c, e', md, hg, h⟩ := h
    have hap : appTo A e sz by_ m xs (.slice (some ⟨b, o, none⟩) l cap) = rowAt A.heap b (fun c e' md => match md with
      | .grown rc => appGrown A e sz by_ b o l cap c e' rc m xs
      | .gro => none
      | md => appOwn A e sz by_ b o l cap c e' md m xs) := rfl
    rw [hap]
    have own : ∀ (md : Md), A.heap.get b = some (.row c e' md) → ((l + m ≤ cap → md.writes = true ∧ lall oneK xs = true ∧ o + l * sz + xs.length ≤ c.length ∧ ∀ (n : Nat) (c' : List Value), n = l + m → c' = lput c (o + l * sz) xs → K (.val (tg (.slice (some ⟨b, o, none⟩) n cap)) (A.put b (.row c' e' md)))) ∧
      (¬ l + m ≤ cap → Few (l + m) by_ ∧ o + l * sz ≤ c.length ∧ ∀ (n : Nat) (ys : List Value), n = l + m → ys = lwin c o (l * sz) ++ xs → newS A n n ys e (.grown n) K)) →
      ∃ v A' v0, K (.val v A') ∧ appOwn A e sz by_ b o l cap c e' md m xs = some (v0, A') ∧ Mk v0 v := by
      intro md _ h
      unfold appOwn
      by_cases hle : l + m ≤ cap
      · obtain ⟨h1, h2, h3, h4⟩ := h.1 hle
        refine ⟨_, _, _, h4 _ _ rfl rfl, ?_, .inr ⟨rfl, rfl⟩⟩
        have : Nat.ble (Nat.add l m) cap = true := bleIff.2 hle
        rw [this]
        show bt md.writes (bt (lall oneK xs) (ob (lover xs (Nat.add o (Nat.mul l sz)) c) fun c' => fnat (Nat.add l m) fun n => some (Value.slice (some ⟨b, o, none⟩) n cap, A.put b (.row c' e' md)))) = _
        rw [h1, h2]
        show ob (lover xs (o + l * sz) c) _ = _
        rw [lover_put h3]
        show fnat (l + m) (fun n => some (Value.slice (some ⟨b, o, none⟩) n cap, A.put b (.row (lput c (o + l * sz) xs) e' md))) = _
        rw [fnat_eq]
      · obtain ⟨h1, h2, h3⟩ := h.2 hle
        refine ⟨_, _, _, h3 _ _ rfl rfl, ?_, .inr ⟨rfl, rfl⟩⟩
        have : Nat.ble (Nat.add l m) cap = false := by
          cases hb : Nat.ble (Nat.add l m) cap with
          | false => rfl
          | true => exact absurd (bleIff.1 hb) hle
        rw [this]
        show bt (few (l + m) by_) (ob (lsub c o (l * sz)) fun old => fnat (l + m) fun n => newSlice A n n (old ++ xs) e (.grown n)) = _
        rw [few_of h1, lsub_of h2]
        show fnat (l + m) (fun n => newSlice A n n (lwin c o (l * sz) ++ xs) e (.grown n)) = _
        rw [fnat_eq]; rfl
    cases md with
    | own =>
      obtain ⟨v, A', v0, k1, k2, k3⟩ := own .own hg h
      exact ⟨v, A', v0, k1, rowAt_some.2 ⟨c, e', .own, hg, k2⟩, k3⟩
    | ro =>
      obtain ⟨v, A', v0, k1, k2, k3⟩ := own .ro hg h
      exact ⟨v, A', v0, k1, rowAt_some.2 ⟨c, e', .ro, hg, k2⟩, k3⟩
    | gro => exact False.elim h
    | grown rc =>
      have h : cpb (Nat.beq e e') ((o = 0 ∧ c.length = l * sz ∧ cap = rc ∧ l ≤ rc ∧ Few (l + m) by_ ∧ lall oneK xs = true) ∧ ∀ n k : Nat, n = l + m → k = (if n ≤ rc then rc else n) → newS (A.put b .dead) n k (c ++ xs) e (.grown k) K) := h
      rw [cpb_iff] at h
      obtain ⟨he, ⟨rfl, h1, h2, h3, h4, h5⟩, h7⟩ := h
      have hun : appGrown A e sz by_ b 0 l cap c e' rc m xs = (fnat (Nat.add l m) fun n => fnat (Bool.rec n rc (Nat.ble n rc)) fun k =>
          newSlice (A.put b .dead) n k (c ++ xs) e (.grown k) : Option (Value × AW)) := by
        unfold appGrown
        have e1 : lenB c (Nat.mul l sz) = true := (lenB_iff _ _).2 h1
        have e2 : (Nat.beq cap rc && Nat.ble l rc) = true := by rw [Bool.and_eq_true]; exact ⟨beqIff.2 h2, bleIff.2 h3⟩
        have e3 : few (Nat.add l m) by_ = true := few_of h4
        rw [he, e1, e2, e3, h5]; rfl
      refine ⟨_, _, _, h7 _ _ rfl rfl, rowAt_some.2 ⟨c, e', .grown rc, hg, ?_⟩, .inr ⟨rfl, rfl⟩⟩
      show appGrown A e sz by_ b 0 l cap c e' rc m xs = _
      rw [hun]
      show fnat (l + m) (fun n => fnat (Bool.rec n rc (Nat.ble n rc)) fun k => newSlice (A.put b .dead) n k (c ++ xs) e (.grown k)) = _
      rw [fnat_eq, fnat_eq]
      have : (Bool.rec (l + m) rc (Nat.ble (l + m) rc) : Nat) = (if l + m ≤ rc then rc else l + m) := by
        cases hb : Nat.ble (l + m) rc with
        | true => rw [if_pos (bleIff.1 hb)]
        | false => rw [if_neg (fun e => by rw [bleIff.2 e] at hb; cases hb)]
      rw [this]; rfl
  · exact h.elim
theorem symAppend_sound {t : TypeId} {xt : Option TypeId} {A : AW} {s x : Value} {K : Fx → Prop} (h : symAppend P t xt A s x K) :
    ∃ v A' v0 s0 x0, K (.val v A') ∧ appendA P t xt A s0 x0 = some (v0, A') ∧ Mk v0 v ∧ (∀ σ s', VR σ s s' → VR σ s0 s') ∧ ∀ σ x', VR σ x x' → VR σ x0 x' := by
  unfold symAppend at h
  simp only [cpo_iff, cpb_iff] at h
  obtain ⟨e, he, xt', rfl, xd, hxd, hni, i, hi, z, hz, hl, h⟩ := h
  obtain ⟨x0, h, hx0⟩ := mnWays_some h
  obtain ⟨s0, h, hs0⟩ := mnWays_some h
  obtain ⟨m, xs, h, h1, h2, h3⟩ := symSrc_some h
  obtain ⟨v, A', v0, k1, k2, k3⟩ := symApp_sound h
  refine ⟨v, A', v0, s0, x0, k1, ?_, k3, hs0, hx0⟩
  simp only [appendA, ob_some, bt_some]
  exact ⟨e, he, xt', rfl, xd, hxd, hni, i, hi, z, hz, hl, m, h1, xs, h2, (lenB_iff _ _).2 h3, k2⟩
theorem symMake_sound {t : TypeId} {A : AW} {l c : Value} {K : Fx → Prop} (h : symMake P t A l c K) : ∃ v A' v0, K (.val v A') ∧ makeSliceA P t A l c = some (v0, A') ∧ Mk v0 v ∧ ibs l = true ∧ ibs c = true := by
  unfold symMake at h
  simp only [cpo_iff, cpb_iff] at h
  obtain ⟨e, he, z, hz, i, hi, hl, h⟩ := h
  split at h
  · split at h
    · rename_i ln _ cn
      obtain ⟨⟨h0, h1, h2⟩, h3⟩ := h
      refine ⟨_, _, _, h3 _ _ _ rfl rfl rfl, ?_, .inr ⟨rfl, rfl⟩, rfl, rfl⟩
      simp only [makeSliceA, ob_some, bt_some, i64V_some]
      refine ⟨e, he, ln.toNat, ?_, cn.toNat, ?_, z, hz, i, hi, hl, bleIff.2 (by omega), few_of h2, rfl⟩
      · congr 1; show ln = ((ln.toNat : Nat) : Int); omega
      · congr 1; show cn = ((cn.toNat : Nat) : Int); omega
    · exact h.elim
  · exact h.elim
theorem min_nat (m n : Nat) : (Bool.rec n m (Nat.ble m n) : Nat) = min m n := by
  cases hb : Nat.ble m n with
  | true => have := bleIff.1 hb; show m = min m n; omega
  | false =>
    have : ¬ m ≤ n := fun hh => by rw [bleIff.2 hh] at hb; cases hb
    show n = min m n; omega
theorem symPut_some {A : AW} {b o n : Nat} {xs : List Value} {K : Fx → Prop} (h : symPutXs A b o n xs K) : ∃ A', K (.val (tgI .i64 n) A') ∧
    (rowAt A.heap b fun c e' md => bt md.writes (bt (lall oneK xs) (ob (lover xs o c) fun c' => ob (natV .i64 n) fun v => some (v, A.put b (.row c' e' md))))) = some (.int .i64 (.ofNat n), A') := by
  obtain ⟨c, e, md, hg, ⟨h1, h2, h3⟩, h4⟩ := rowC_iff.1 h
  refine ⟨_, h4 _ rfl, rowAt_some.2 ⟨c, e, md, hg, ?_⟩⟩
  rw [h1, h2, lover_put h3, natV_eq]; rfl
theorem symCopy_sound {t : TypeId} {A : AW} {d s : Value} {K : Fx → Prop} (h : symCopy P t A d s K) : ∃ (n : Nat) (A' : AW) (s0 : Value), K (.val (tgI .i64 n) A') ∧ copyA P t A d s0 = some (.int .i64 (.ofNat n), A') ∧ (∀ σ s', VR σ s s' → VR σ s0 s') ∧ ∃ a l c, d = .slice (some a) l c := by
  unfold symCopy at h
  simp only [cpo_iff] at h
  obtain ⟨e, he, sz, hsz, h⟩ := h
  split at h
  · rename_i b o len cap
    obtain ⟨s0, h, hs0⟩ := mnWays_some h
    split at h
    · rename_i m cap'
      obtain ⟨h0, h⟩ := cpb_iff.1 h
      rw [beqIff] at h0
      subst h0
      obtain ⟨A', h1, h2⟩ := symPut_some h
      refine ⟨0, A', _, h1, ?_, hs0, _, _, _, rfl⟩
      simp only [copyA, ob_some]
      refine ⟨e, he, sz, hsz, 0, rfl, ?_⟩
      rw [fnat_eq, min_nat, Nat.zero_min, ob_some]
      exact ⟨[], rfl, h2⟩
    · rename_i b2 o2 l cap'
      obtain ⟨c2, e2, md2, hg2, h⟩ := rowC_iff.1 h
      obtain ⟨h0, h⟩ := h _ rfl
      obtain ⟨A', h1, h2⟩ := symPut_some (h _ rfl)
      refine ⟨_, A', _, h1, ?_, hs0, _, _, _, rfl⟩
      simp only [copyA, ob_some]
      refine ⟨e, he, sz, hsz, l, rfl, ?_⟩
      rw [fnat_eq, min_nat, ob_some]
      exact ⟨_, rowAt_some.2 ⟨c2, e2, md2, hg2, lsub_of h0⟩, h2⟩
    · exact h.elim
  · exact h.elim
theorem conv_str {src dst e : TypeId} {a' : Option Addr} {len cap' : Nat} {l' : List Value} {bs : List UInt8} (hsd : P.underlying src = some (.slice e)) (hdd : P.underlying dst = some .string) (hd : P.underlying e = some (.int .u8)) (hbs : omap byteV l' = some bs)
    (hn : a' = none → l' = []) (hs : ∀ a, a' = some a → (loadCells a len).run P w = .ok ⟨l'⟩ w) : (convert src dst (.slice a' len cap')).run P w = .ok (mkStr bs) w := by
  simp only [convert, Sem.run_bind, run_under hsd, run_under hdd, Result.andThen_ok, run_under hd, Conv.bytesToString]
  cases a' with
  | none =>
    have hl0 := hn rfl
    subst hl0
    rw [omap_nil] at hbs; subst hbs
    rfl
  | some a' =>
    simp only [Sem.run_bind, hs _ rfl, Result.andThen_ok]
    rw [← Array.forIn_toList, pushBytes_run _ (fun _ _ => rfl) l' bs .empty w hbs]
    simp only [Result.andThen_ok, Sem.run_pure]
    congr 2
    apply ByteArray.ext
    simp
theorem vrl_bytes {σ : Sg} {xs l' : List Value} (h : VRL σ xs l') : ∀ {bs : List UInt8}, bs.length = xs.length → (∀ (i : Nat) (u : UInt8), bs[i]? = some u → xs[i]? = some (Value.int .u8 u.toNat) ∨ xs[i]? = some (tg (Value.int .u8 u.toNat))) → omap byteV l' = some bs := by
  induction xs generalizing l' with
  | nil =>
    intro bs hl _
    cases h
    have : bs = [] := List.eq_nil_of_length_eq_zero hl
    subst this; rfl
  | cons x xs ih =>
    intro bs hl hb
    cases bs with
    | nil => simp at hl
    | cons u bs =>
      cases h with
      | cons a b =>
        rename_i v' l'
        have h1 : v' = .int .u8 u.toNat := by
          rcases hb 0 u rfl with e | e
          · cases e; exact a.of_flat rfl
          · cases e; exact (VR.sym_inv a).2.of_flat rfl
        subst h1
        rw [omap_cons]
        refine ⟨u, bs, ?_, ih b (by simpa using hl) (fun i w hw => by simpa using hb (i + 1) w (by simpa using hw)), rfl⟩
        rw [byteV_some]
        exact ⟨u.toNat, rfl, by simp⟩
theorem symStrOf_sound {s d : TypeId} {A : AW} {v : Value} {K : Fx → Prop} (h : symStrOf P s d A K v) : ∃ f, K f ∧ ∀ (σ : Sg) (w : World) (v' : Value), Rel P σ A w → VR σ v v' → ∃ x, f = .val x A ∧ Gives P σ A w ((convert s d v').run P w) x A := by
  unfold symStrOf at h
  simp only [cpo_iff] at h
  obtain ⟨e, he, ed, hed, g1⟩ := h
  obtain ⟨hu, g2⟩ := cpb_iff.1 g1
  obtain ⟨sz, hsz, g3⟩ := g2
  obtain ⟨h1, g4⟩ := cpb_iff.1 g3
  obtain ⟨dd, hdd, g5⟩ := g4
  obtain ⟨hst, hF⟩ := cpb_iff.1 g5
  clear g1 g3 g5
  obtain rfl := u8D_eq hu
  obtain rfl := strD_eq hst
  rw [beqIff] at h1
  subst h1
  rw [sliceT_some] at he
  split at hF
  · rename_i n cap
    obtain ⟨h0, hK⟩ := cpb_iff.1 hF
    rw [beqIff] at h0
    subst h0
    refine ⟨_, hK, fun σ w v' hR hx => ⟨_, rfl, mkStr [], σ, w, ?_, .flat rfl, hR, .refl hR.lim⟩⟩
    have hv : v' = .slice none 0 cap := by cases hx with | flat e => rfl
    subst hv
    exact conv_str (l' := []) he hdd hed rfl (fun _ => rfl) (fun a h => by cases h)
  · rename_i b o l cap
    obtain ⟨c, e2, md, hg, hle, bs, ⟨hl, hb⟩, hK⟩ := rowC_iff.1 hF
    refine ⟨_, hK, fun σ w v' hR hx => ⟨_, rfl, mkStr bs, σ, w, ?_, .sym rfl (.flat rfl), hR, .refl hR.lim⟩⟩
    have hsrc : srcA A.heap 1 l (.slice (some ⟨b, o, none⟩) l cap) = some (lwin c o (l * 1)) := rowAt_some.2 ⟨c, e2, md, hg, lsub_of (by show o + l * 1 ≤ c.length; omega)⟩
    obtain ⟨l', hll, hrun⟩ := srcA_run hR hsrc hx
    obtain ⟨b', d', hs, rfl⟩ := hx.slice_inv
    have hs2 : (loadCells ⟨b', o, none⟩ (l * 1)).run P w = .ok ⟨l'⟩ w := hrun w rfl
    rw [Nat.mul_one] at hs2
    refine conv_str (l' := l') he hdd hed ?_ (fun h => by cases h) (fun a h => by cases h; exact hs2)
    refine vrl_bytes hll (by rw [hl]; simp [lwin]; omega) fun i u hu => ?_
    have hi : i < l := by rw [← hl]; exact (List.getElem?_eq_some_iff.1 hu).1
    have := hb i u hu
    unfold Rd at this
    have e : (lwin c o (l * 1))[i]? = c[o + i]? := by
      unfold lwin
      rw [Nat.mul_one, List.getElem?_take_of_lt hi, List.getElem?_drop]
    rw [e]; exact this
  · exact hF.elim
theorem symE_sound {o : Oper} {F : T Value} {A : AW} {K : Fx → Prop} (h : symE P o.op F A K) : ∃ f, K f ∧ FSem P o F A f := by
  obtain ⟨dst, op, ty, pos, after, guard⟩ := o
  have hq : ∀ {op : Op}, cpo (evE op P F A) K → ∃ f, K f ∧ FSem P ⟨dst, op, ty, pos, after, guard⟩ F A f := fun h => ce (o := ⟨dst, _, ty, pos, after, guard⟩) h
  cases op <;> try exact hq h
  case store t x y =>
    have h : cpo (opnd P F x) (fun a => cpo (opnd P F y) fun b => Bool.rec (cpo (evE (.store t x y) P F A) K) (symStore P t A (uval a) b K) (isSym a)) := h
    simp only [cpo_iff] at h
    obtain ⟨a, ha, b, hb, h⟩ := h
    cases hs : isSym a with
    | false => rw [hs] at h; exact hq (cpo_iff.2 h)
    | true =>
      rw [hs] at h
      obtain ⟨A', h1, h2, p, hp⟩ := symStore_sound (show symStore P t A (uval a) b K from h)
      refine ⟨_, h1, fun σ w act hR hO => ?_⟩
      have hx := hO x (by simp [Op.operands]) a ha
      exact (store_run hR h2 (by rw [hp]; exact uval_ptr hx hp) (hO y (by simp [Op.operands]) b hb)).fine
  case makeSlice t l c =>
    have h : twoE (.makeSlice t l c) P F A l c K (fun a b => symMake P t A (uval a) (uval b) K) := h
    simp only [twoE, cpo_iff] at h
    obtain ⟨a, ha, b, hb, h⟩ := h
    cases hs : isSym a || isSym b with
    | false => rw [hs] at h; exact hq (cpo_iff.2 h)
    | true =>
      rw [hs] at h
      obtain ⟨v, A', v0, h1, h2, h3, h4, h5⟩ := symMake_sound (show symMake P t A (uval a) (uval b) K from h)
      refine ⟨_, h1, fun σ w act hR hO => ?_⟩
      have e1 := uval_ibs (hO l (by simp [Op.operands]) a ha) h4
      have e2 := uval_ibs (hO c (by simp [Op.operands]) b hb) h5
      have f1 : VR σ (uval a) (act.eval l) := by rw [e1]; exact .flat (by revert h4; cases uval a <;> intro h4 <;> first | rfl | cases h4)
      have f2 : VR σ (uval b) (act.eval c) := by rw [e2]; exact .flat (by revert h5; cases uval b <;> intro h5 <;> first | rfl | cases h5)
      exact (h3.gives (makeSlice_run hR h2 f1 f2)).fine
  case call c =>
    obtain ⟨cal, ⟨args⟩, ats⟩ := c
    have h : symECall ⟨cal, ⟨args⟩, ats⟩ (.call ⟨cal, ⟨args⟩, ats⟩) P F A K := h
    unfold symECall at h
    split at h
    · rename_i hc
      simp only at hc
      subst hc
      split at h
      · rename_i x y hxy
        simp only at hxy
        subst hxy
        simp only [cpo_iff, lget_eq] at h
        obtain ⟨t, ht, h⟩ := h
        simp only [twoE, cpo_iff] at h
        obtain ⟨a, ha, b, hb, h⟩ := h
        cases hs : isSym a || isSym b with
        | false => rw [hs] at h; exact hq (cpo_iff.2 h)
        | true =>
          rw [hs] at h
          obtain ⟨v, A', v0, s0, x0, h1, h2, h3, h4, h5⟩ := symAppend_sound (show symAppend P t ats.toList[1]? A a b K from h)
          refine ⟨_, h1, fun σ w act hR hO => ?_⟩
          have hx := h4 σ _ (hO x (by simp [Op.operands, Call.operands]) a ha)
          have hy := h5 σ _ (hO y (by simp [Op.operands, Call.operands]) b hb)
          have hg := h3.gives (append_run (ty := ty) hR (by rw [← Array.getElem?_toList]; exact ht) (by rw [← Array.getElem?_toList]) h2 hx hy)
          have := hg.fine
          simp only [execOp, resolve, Sem.run_bind, Sem.run_pure, Result.andThen_ok, invoke]
          rw [map_ops]
          exact this
      · exact h.elim
    · rename_i hc
      simp only at hc
      subst hc
      split at h
      · rename_i x y hxy
        simp only at hxy
        subst hxy
        simp only [cpo_iff, lget_eq] at h
        obtain ⟨t, ht, h⟩ := h
        simp only [twoE, cpo_iff] at h
        obtain ⟨a, ha, b, hb, h⟩ := h
        cases hs : isSym a || isSym b with
        | false => rw [hs] at h; exact hq (cpo_iff.2 h)
        | true =>
          rw [hs] at h
          cases hm : mnB a with
          | some nb => rw [hm] at h; exact False.elim h
          | none =>
          rw [hm] at h
          obtain ⟨n, A', s0, h1, h2, h3, ad, dl, dc, hd⟩ := symCopy_sound (show symCopy P t A (uval a) b K from h)
          refine ⟨_, h1, fun σ w act hR hO => ?_⟩
          have hx := hO x (by simp [Op.operands, Call.operands]) a ha
          have hy := h3 σ _ (hO y (by simp [Op.operands, Call.operands]) b hb)
          have hx2 : VR σ (uval a) (act.eval x) := uval_vr hx hm
          have hg := (show Mk (.int .i64 (.ofNat n)) (tgI .i64 n) from .inr ⟨rfl, rfl⟩).gives (copy_run (ty := ty) hR (by rw [← Array.getElem?_toList]; exact ht) h2 hx2 hy)
          have := hg.fine
          simp only [execOp, resolve, Sem.run_bind, Sem.run_pure, Result.andThen_ok, invoke]
          rw [map_ops]
          exact this
      · exact h.elim
    · exact hq h
  case convert s d x =>
    have h : cpo (opnd P F x) (fun a => Bool.rec (cpo (evE (.convert s d x) P F A) K) (mnWays a (symStrOf P s d A K)) (isSym a && isSliceT P s)) := h
    simp only [cpo_iff] at h
    obtain ⟨a, ha, h⟩ := h
    cases hs : isSym a && isSliceT P s with
    | false => rw [hs] at h; exact hq (cpo_iff.2 h)
    | true =>
      rw [hs] at h
      obtain ⟨y, hy, hvr⟩ := mnWays_some (show mnWays a (symStrOf P s d A K) from h)
      obtain ⟨f, hK, hf⟩ := symStrOf_sound hy
      refine ⟨f, hK, fun σ w act hR hO => ?_⟩
      obtain ⟨u, rfl, hg⟩ := hf σ w _ hR (hvr σ _ (hO x (by simp [Op.operands]) a ha))
      have := hg.fine
      simp only [execOp]
      exact this
end Go.Ev

/- The evaluator with variables: a memory seen in another way: renamed, and less of it. -/
set_option linter.unusedSectionVars false
namespace Go.Ev
variable {P : Program} {σ : Sg} {w : World} [Frozen P]
noncomputable section
def rnm (n0 : Nat) (l : List (Nat × Nat)) (i : Nat) : Option Nat := Bool.rec (List.rec none (fun p _ ih => Bool.rec ih (some p.2) (Nat.beq i p.1)) l) (some i) (Nat.blt i n0)
def rB (r : Nat → Option Nat) (i j : Nat) : Bool := Option.rec false (fun k => Nat.beq k j) (r i)
def usym : Value → Value
  | .iface t v => Bool.rec (.iface t v) v (Nat.beq t SYM)
  | v => v
def wvL (f : Value → Value → Prop) (l : List Value) : List Value → Prop := List.rec (motive := fun _ => List Value → Prop) (fun m => match m with
    | [] => True
    | _ => False)
  (fun x _ ih m => match m with
    | [] => False
    | y :: m => f x y ∧ ih m) l
def wvS (r : Nat → Option Nat) (v u : Value) : Prop := match v with
  | .int k z => match u with
    | .int k' z' => cpb (sameK k k') (z = z')
    | _ => False
  | .bool b => match u with
    | .bool b' => b = b'
    | _ => False
  | .string s => match u with
    | .string s' => s.data.toList = s'.data.toList
    | _ => False
  | .pointer none => match u with
    | .pointer none => True
    | _ => False
  | .pointer (some ⟨i, o, none⟩) => match u with
    | .pointer (some ⟨j, o', none⟩) => cpb (rB r i j) (o = o')
    | _ => False
  | .slice none l c => match u with
    | .slice none l' c' => l = l' ∧ c = c'
    | _ => False
  | .slice (some ⟨i, o, none⟩) l c => match u with
    | .slice (some ⟨j, o', none⟩) l' c' => cpb (rB r i j) (o = o' ∧ l = l' ∧ c = c')
    | _ => False
  | _ => False
def wvM (r : Nat → Option Nat) (nb : Bool) (s u : Value) : Prop := match s with
  | .slice (some ⟨i, o, none⟩) l c => match u with
    | .iface t (.agg ⟨[.bool nb', s']⟩) => cpb (Nat.beq t MN) (nb = nb' ∧ wvS r (.slice (some ⟨i, o, none⟩) l c) s')
    | .slice none l' c' => cpb (Nat.beq l' 0) (cpb (Nat.beq c' 0) (nb = true ∧ l = 0 ∧ c = 0))
    | u => nb = false ∧ wvS r (.slice (some ⟨i, o, none⟩) l c) (usym u)
  | _ => False
def wvMN (r : Nat → Option Nat) (x u : Value) : Prop := match x with
  | .agg ⟨[.bool nb, s]⟩ => wvM r nb s u
  | _ => False
def wvX (x u : Value) : Prop := cpb (isScal x) (match u with
  | .iface t y => cpb (isX t) (x = y)
  | y => cpb (flat y) (x = y))
def wvUN (x u : Value) : Prop := cpb u.oneCell (match x with
  | .nilIface => True
  | _ => False)
def wvIF (f : Value → Value → Prop) (t : TypeId) (x u : Value) : Prop := match u with
  | .iface t' y => cpb (Nat.blt t SYM) (cpb (Nat.beq t t') (f x y))
  | _ => False
def wv (r : Nat → Option Nat) (n : Nat) : Value → Value → Prop := Nat.rec (motive := fun _ => Value → Value → Prop) (fun _ _ => False) (fun _ ih v u => match v with
  | .map none => match u with
    | .map none => True
    | _ => False
  | .map (some i) => match u with
    | .map (some j) => cpb (rB r i j) True
    | _ => False
  | .nilFunc => match u with
    | .nilFunc => True
    | _ => False
  | .nilIface => match u with
    | .nilIface => True
    | _ => False
  | .func (.func f) a c => match u with
    | .func (.func g) a' c' => cpb (Nat.beq f g) (wvL ih a.toList a'.toList ∧ wvL ih c.toList c'.toList)
    | _ => False
  | .agg a => match u with
    | .agg b => wvL ih a.toList b.toList
    | _ => False
  | .tuple a => match u with
    | .tuple b => wvL ih a.toList b.toList
    | _ => False
  | .iface t x => Bool.rec (Bool.rec (Bool.rec (Bool.rec (wvIF ih t x u) (wvX x u) (isX t)) (wvUN x u) (Nat.beq t UNK)) (wvMN r x u) (Nat.beq t MN)) (cpb (isScal x) (wvS r x (usym u))) (Nat.beq t SYM)
  | v => wvS r v (usym u)) n
end
theorem rB_iff {r : Nat → Option Nat} {i j : Nat} : rB r i j = true ↔ r i = some j := by
  unfold rB
  cases hr : r i with
  | none => simp
  | some k => simp [beqIff]
theorem usym_vr {u v' : Value} (h : VR σ u v') : VR σ (usym u) v' := by
  cases h with
  | sym s b => exact b
  | any f => exact .any f
  | emp f => exact .emp f
  | ext f => exact .ext f
  | exl f => exact .exl f
  | mnil a b c => exact .mnil a b c
  | mn a b => exact .mn a b
  | iface hlt b =>
    rename_i t u u'
    have h1 : Nat.beq t SYM = false := by cases hb : Nat.beq t SYM with
      | false => rfl
      | true => rw [beqIff.1 hb] at hlt; exact absurd hlt noSYM
    have : usym (.iface t u) = .iface t u := by simp only [usym, h1]
    rw [this]; exact .iface hlt b
  | flat f => cases u <;> first | (cases f; done) | exact .flat f
  | ptr g => exact .ptr g
  | slice g => exact .slice g
  | map g => exact .map g
  | func a b => exact .func a b
  | agg a => exact .agg a
  | tuple a => exact .tuple a
def Ren (r : Nat → Option Nat) (σ σr : Sg) : Prop := ∀ i j, r i = some j → σr i = σ j
theorem str_ext {s s' : ByteArray} (h : s.data.toList = s'.data.toList) : s = s' := by
  cases s; cases s'
  simp only at h
  rw [Array.toList_inj.1 h]
theorem wvS_vr {r : Nat → Option Nat} {σ σr : Sg} (hr : Ren r σ σr) {v u v' : Value} (h : wvS r v u) (k : VR σ u v') : VR σr v v' := by
  unfold wvS at h
  split at h
  · split at h
    · rw [cpb_iff] at h
      obtain ⟨h1, rfl⟩ := h
      obtain rfl := sameK_eq h1
      rw [k.of_flat rfl]; exact .flat rfl
    · exact h.elim
  · split at h
    · subst h; rw [k.of_flat rfl]; exact .flat rfl
    · exact h.elim
  · split at h
    · obtain rfl := str_ext h; rw [k.of_flat rfl]; exact .flat rfl
    · exact h.elim
  · split at h
    · rw [k.of_flat rfl]; exact .flat rfl
    · exact h.elim
  · split at h
    · rw [cpb_iff, rB_iff] at h
      obtain ⟨h1, rfl⟩ := h
      obtain ⟨b, d, e, rfl⟩ := k.ptr_inv
      exact .ptr ((hr _ _ h1).trans e)
    · exact h.elim
  · split at h
    · obtain ⟨rfl, rfl⟩ := h
      cases k with
      | flat f => exact .flat f
    · exact h.elim
  · split at h
    · rw [cpb_iff, rB_iff] at h
      obtain ⟨h1, rfl, rfl, rfl⟩ := h
      obtain ⟨b, d, e, rfl⟩ := k.slice_inv
      exact .slice ((hr _ _ h1).trans e)
    · exact h.elim
  · exact h.elim
theorem mn_inv {t : Nat} {nb : Bool} {s v' : Value} (h : VR σ (.iface t (.agg ⟨[.bool nb, s]⟩)) v') (ht : t = MN) : ∃ i o l c, s = .slice (some ⟨i, o, none⟩) l c ∧ ((nb = true ∧ l = 0 ∧ c = 0 ∧ v' = .slice none 0 0) ∨ (nb = false ∧ ∃ b d, σ i = some (b, d) ∧ v' = .slice (some ⟨b, o, none⟩) l (c + d))) := by
  subst ht
  cases h with
  | mnil a b c => exact ⟨_, _, _, _, rfl, .inl ⟨a, b, c, rfl⟩⟩
  | mn a b => exact ⟨_, _, _, _, rfl, .inr ⟨a, _, _, b, rfl⟩⟩
  | iface hlt _ => exact absurd hlt noMN
  | flat f => cases f
theorem wvM_vr {r : Nat → Option Nat} {σ σr : Sg} (hr : Ren r σ σr) {nb : Bool} {s u v' : Value} (h : wvM r nb s u) (k : VR σ u v') : VR σr (.iface MN (.agg ⟨[.bool nb, s]⟩)) v' := by
  have known : ∀ {i o l c : Nat} {x : Value}, wvS r (.slice (some ⟨i, o, none⟩) l c) x → VR σ x v' → nb = false → VR σr (.iface MN (.agg ⟨[.bool nb, .slice (some ⟨i, o, none⟩) l c]⟩)) v' := fun h1 k1 e => by
    obtain ⟨b, d, e1, rfl⟩ := (wvS_vr hr h1 k1).slice_inv
    exact .mn e e1
  unfold wvM at h
  split at h
  · split at h
    · rename_i t nb' s'
      rw [cpb_iff, beqIff] at h
      obtain ⟨ht, rfl, h⟩ := h
      obtain ⟨i', o', l', c', rfl, hh⟩ := mn_inv k ht
      have h : cpb (rB r _ i') (_ = o' ∧ _ = l' ∧ _ = c') := h
      rw [cpb_iff, rB_iff] at h
      obtain ⟨h1, rfl, rfl, rfl⟩ := h
      rcases hh with ⟨e1, e2, e3, rfl⟩ | ⟨e1, b, d, e2, rfl⟩
      · exact .mnil e1 e2 e3
      · exact .mn e1 ((hr _ _ h1).trans e2)
    · rw [cpb_iff, cpb_iff, beqIff, beqIff] at h
      obtain ⟨rfl, rfl, h1, h2, h3⟩ := h
      rw [k.of_flat rfl]; exact .mnil h1 h2 h3
    · exact known h.2 (usym_vr k) h.1
  · exact h.elim
theorem wvL_vr {r : Nat → Option Nat} {σ σr : Sg} {f : Value → Value → Prop} (hf : ∀ v u v', f v u → VR σ u v' → VR σr v v') : ∀ {l m l' : List Value}, wvL f l m → VRL σ m l' → VRL σr l l' := by
  intro l
  induction l with
  | nil => intro m l' h k; cases m with
    | nil => cases k; exact .nil
    | cons => exact False.elim h
  | cons x l ih =>
    intro m l' h k
    cases m with
    | nil => exact False.elim h
    | cons y m =>
      have h : f x y ∧ wvL f l m := h
      cases k with
      | cons a b => exact .cons (hf _ _ _ h.1 a) (ih h.2 b)
theorem wvX_vr {σ' : Sg} {s : Nat} (hx : isX s = true) {x u v' : Value} (h : wvX x u) (k : VR σ u v') : VR σ' (.iface s x) v' := by
  unfold wvX at h
  rw [cpb_iff] at h
  obtain ⟨hs, h⟩ := h
  split at h
  · rename_i t y
    rw [cpb_iff] at h
    obtain ⟨ht, rfl⟩ := h
    obtain ⟨rfl, -⟩ := k.ext_inv ht
    exact .mkX hx hs
  · rw [cpb_iff] at h
    obtain ⟨hf, rfl⟩ := h
    rw [k.of_flat hf]; exact .mkX hx hs
theorem wv_vr {r : Nat → Option Nat} {σ σr : Sg} (hr : Ren r σ σr) : ∀ (n : Nat) (v u v' : Value), wv r n v u → VR σ u v' → VR σr v v' := by
  intro n
  induction n with
  | zero => intro v u v' h; exact h.elim
  | succ n ih =>
    intro v u v' h k
    cases v with
    | map i =>
      cases i with
      | none =>
        cases u <;> try exact False.elim h
        rename_i j
        cases j with
        | none => rw [k.of_flat rfl]; exact .flat rfl
        | some j => exact False.elim h
      | some i =>
        cases u <;> try exact False.elim h
        rename_i j
        cases j with
        | none => exact False.elim h
        | some j =>
          have h : cpb (rB r i j) True := h
          rw [cpb_iff, rB_iff] at h
          obtain ⟨b, d, e, rfl⟩ := k.map_inv
          exact .map ((hr _ _ h.1).trans e)
    | nilFunc => cases u <;> first | exact False.elim h | (rw [k.of_flat rfl]; exact .flat rfl)
    | nilIface => cases u <;> first | exact False.elim h | (rw [k.of_flat rfl]; exact .flat rfl)
    | func fn a c =>
      cases fn with
      | func f =>
        cases u <;> try exact False.elim h
        rename_i g a' c'
        cases g <;> try exact False.elim h
        rename_i g
        have h : cpb (Nat.beq f g) (wvL (wv r n) a.toList a'.toList ∧ wvL (wv r n) c.toList c'.toList) := h
        rw [cpb_iff, beqIff] at h
        obtain ⟨rfl, h1, h2⟩ := h
        cases k with
        | flat e => cases e
        | func x y => exact .func (wvL_vr (r := r) ih h1 x) (wvL_vr (r := r) ih h2 y)
      | _ => exact False.elim h
    | agg a =>
      cases u <;> try exact False.elim h
      rename_i b
      obtain ⟨b⟩ := b
      have h : wvL (wv r n) a.toList b := h
      obtain ⟨c', hc, rfl⟩ := k.agg_inv
      exact .agg (wvL_vr (r := r) ih h hc)
    | tuple a =>
      cases u <;> try exact False.elim h
      rename_i b
      obtain ⟨b⟩ := b
      have h : wvL (wv r n) a.toList b := h
      obtain ⟨c', hc, rfl⟩ := k.tuple_inv
      exact .tuple (wvL_vr (r := r) ih h hc)
    | iface t x =>
      have h : (Bool.rec (Bool.rec (Bool.rec (Bool.rec (wvIF (wv r n) t x u) (wvX x u) (isX t)) (wvUN x u) (Nat.beq t UNK)) (wvMN r x u) (Nat.beq t MN)) (cpb (isScal x) (wvS r x (usym u))) (Nat.beq t SYM) : Prop) := h
      cases h1 : Nat.beq t SYM with
      | true =>
        rw [h1] at h
        have h5 := cpb_iff.1 (show cpb (isScal x) (wvS r x (usym u)) from h)
        rw [beqIff] at h1; subst h1
        exact .sym h5.1 (wvS_vr hr h5.2 (usym_vr k))
      | false =>
        rw [h1] at h
        cases h2 : Nat.beq t MN with
        | true =>
          rw [h2] at h
          rw [beqIff] at h2; subst h2
          have h : wvMN r x u := h
          unfold wvMN at h
          split at h
          · exact wvM_vr hr h k
          · exact h.elim
        | false =>
          rw [h2] at h
          cases h3 : Nat.beq t UNK with
          | true =>
            rw [h3] at h
            rw [beqIff] at h3; subst h3
            have h : wvUN x u := h
            unfold wvUN at h
            rw [cpb_iff] at h
            obtain ⟨ho, h⟩ := h
            split at h
            · exact .any trivial
            · exact h.elim
          | false =>
            rw [h3] at h
            cases h4 : isX t with
            | true =>
              rw [h4] at h
              have h : wvX x u := h
              exact wvX_vr h4 h k
            | false =>
            rw [h4] at h
            have h5 : wvIF (wv r n) t x u := h
            clear h
            unfold wvIF at h5
            split at h5
            · rw [cpb_iff, cpb_iff, beqIff] at h5
              obtain ⟨hlt, rfl, h6⟩ := h5
              cases k with
              | flat f => cases f
              | iface _ b => exact .iface hlt (ih _ _ _ h6 b)
              | sym => exact absurd hlt noSYM
              | any => exact absurd hlt noUNK
              | emp => exact absurd hlt noUNK
              | ext => exact absurd hlt noEXT
              | exl => exact absurd hlt noEXL
              | mnil => exact absurd hlt noMN
              | mn => exact absurd hlt noMN
            · exact h5.elim
    | _ => exact wvS_vr hr h (usym_vr k)
end Go.Ev
