/- The evaluator with variables: a quiet operation has one result; what it looks at. -/
import Derived.Test.YtfkacmmcgncooaaGreatDoorEv7
section
set_option linter.unusedSectionVars false
namespace Go.Ev
variable {P : Program} {σ : Sg} {w : World} [Frozen P]
structure DM {α : Type} (S : (α → Prop) → Prop) : Prop where
  det : ∀ K, S K → ∃ v, K v ∧ S fun u => u = v
  mono : ∀ K K' : α → Prop, (∀ x, K x → K' x) → S K → S K'
theorem DM.comp {α β : Type} {S : (β → Prop) → Prop} {T : β → (α → Prop) → Prop} (h : DM S) (k : ∀ y, DM (T y)) : DM fun K => S fun y => T y K :=
  ⟨fun K hK => by
    obtain ⟨y, h1, h2⟩ := h.det _ hK
    obtain ⟨v, h3, h4⟩ := (k y).det _ h1
    exact ⟨v, h3, h.mono _ _ (fun x e => by rw [e]; exact h4) h2⟩, fun K K' hk hK => h.mono _ _ (fun y => (k y).mono _ _ hk) hK⟩
theorem DM.opt {α : Type} (x : Option α) : DM fun K : α → Prop => cpo x K := by
  cases x with
  | none => exact ⟨fun _ h => False.elim h, fun _ _ _ h => h⟩
  | some y => exact ⟨fun K h => ⟨y, h, rfl⟩, fun _ _ hk h => hk _ h⟩
theorem DM.cpo {α β : Type} {x : Option β} {f : β → (α → Prop) → Prop} (h : ∀ y, DM (f y)) : DM fun K => Ev.cpo x fun y => f y K := DM.comp (DM.opt x) h
theorem DM.no {α : Type} : DM fun _ : α → Prop => False := ⟨fun _ h => h.elim, fun _ _ _ h => h⟩
theorem DM.id {α : Type} (v : α) : DM fun K : α → Prop => K v := ⟨fun _ h => ⟨v, h, rfl⟩, fun _ _ hk h => hk _ h⟩
theorem DM.cpb {α : Type} {b : Bool} {S : (α → Prop) → Prop} (h : DM S) : DM fun K => Ev.cpb b (S K) := by
  cases b with
  | false => exact .no
  | true => exact h
theorem DM.and {α : Type} {p : Prop} {S : (α → Prop) → Prop} (h : DM S) : DM fun K => p ∧ S K :=
  ⟨fun K hK => let ⟨v, h1, h2⟩ := h.det K hK.2; ⟨v, h1, hK.1, h2⟩, fun _ _ hk hK => ⟨hK.1, h.mono _ _ hk hK.2⟩⟩
theorem DM.bool {α : Type} {b : Bool} {S T : (α → Prop) → Prop} (h : DM S) (k : DM T) : DM fun K => (Bool.rec (S K) (T K) b : Prop) := by cases b with
  | false => exact h
  | true => exact k
theorem DM.set {α β : Type} {x : β} (f : β → α) : DM fun K : α → Prop => ∀ z, z = x → K (f z) := ⟨fun K h => ⟨_, h _ rfl, fun z hz => by rw [hz]⟩, fun _ _ hk h z hz => hk _ (h z hz)⟩
theorem sInt_dm {j : IntKind} {x : Int} : DM (sInt j x) := DM.set (tgI j)
theorem sSet_dm {j : IntKind} {x : Int} : DM (sSet j x) := DM.set (tgI j)
theorem sIf_dm {p : Prop} : DM (sIf p) := ⟨fun K h => by
    by_cases hp : p
    · exact ⟨_, h.1 hp, fun _ => rfl, fun e => absurd hp e⟩
    · exact ⟨_, h.2 hp, fun e => absurd e hp, fun _ => rfl⟩, fun _ _ hk h => ⟨fun e => hk _ (h.1 e), fun e => hk _ (h.2 e)⟩⟩
theorem DM.ways {α : Type} {b : Bool} {S T : (α → Prop) → Prop} (h : DM S) (k : DM T) : DM fun K => (b = true → S K) ∧ (b = false → T K) := by
  cases b with
  | true => exact ⟨fun K hK => let ⟨v, h1, h2⟩ := h.det K (hK.1 rfl); ⟨v, h1, fun _ => h2, fun e => Bool.noConfusion e⟩, fun _ _ hk hK => ⟨fun e => h.mono _ _ hk (hK.1 e), fun e => Bool.noConfusion e⟩⟩
  | false => exact ⟨fun K hK => let ⟨v, h1, h2⟩ := k.det K (hK.2 rfl); ⟨v, h1, fun e => Bool.noConfusion e, fun _ => h2⟩, fun _ _ hk hK => ⟨fun e => Bool.noConfusion e, fun e => k.mono _ _ hk (hK.2 e)⟩⟩
theorem symInt_dm {op : BinOp} {j : IntKind} {m n : Int} : DM (symInt op j m n) := by
  cases op <;> first | exact sInt_dm | exact sIf_dm | exact sInt_dm.and | exact sSet_dm.and
theorem symStr_dm {op : BinOp} {s u : ByteArray} : DM (symStr op s u) := by
  cases op <;> first | exact sIf_dm | exact DM.no | exact DM.and (DM.set fun s => tg (mkStr s))
theorem symBool_dm {op : BinOp} {p q : Bool} : DM (symBool op p q) := by
  cases op <;> first | exact sIf_dm | exact DM.no
theorem symBin_dm {op : BinOp} {t : TypeId} {a b : Value} : DM (symBin P op t a b) := by
  cases a with
  | int j m => cases b with
    | int k n => exact symInt_dm.cpb
    | _ => exact .no
  | bool p => cases b with
    | bool q => exact DM.cpo fun d => symBool_dm.cpb
    | _ => exact .no
  | string s => cases b with
    | string u => exact symStr_dm
    | _ => exact .no
  | _ => exact .no
theorem symNil_dm {op : BinOp} {t : TypeId} {b : Bool} : DM (symNil P op t b) := by
  refine DM.cpb ?_
  cases op with
  | eql => exact DM.ways (S := fun K : Value → Prop => K (.bool true)) (T := fun K : Value → Prop => K (.bool false)) (DM.id _) (DM.id _)
  | neq => exact DM.ways (S := fun K : Value → Prop => K (.bool false)) (T := fun K : Value → Prop => K (.bool true)) (DM.id _) (DM.id _)
  | _ => exact DM.no
theorem symB_dm {op : BinOp} {t : TypeId} {a b : Value} : DM (symB P op t a b) := by
  unfold symB
  cases mnB a with
  | none => exact symBin_dm
  | some nb => exact symNil_dm.cpb
theorem rd1_dm {sk : SK} {c : List Value} {o : Nat} : DM (rd1 sk c o) := by
  cases sk with
  | i k => exact ⟨fun K h => let ⟨z, h1, h2⟩ := h; ⟨_, h2, z, h1, rfl⟩, fun _ _ hk h => let ⟨z, h1, h2⟩ := h; ⟨z, h1, hk _ h2⟩⟩
  | b => exact ⟨fun K h => let ⟨z, h1, h2⟩ := h; ⟨_, h2, z, h1, rfl⟩, fun _ _ hk h => let ⟨z, h1, h2⟩ := h; ⟨z, h1, hk _ h2⟩⟩
  | s => exact ⟨fun K h => let ⟨z, h1, h2⟩ := h; ⟨_, h2, z, h1, rfl⟩, fun _ _ hk h => let ⟨z, h1, h2⟩ := h; ⟨z, h1, hk _ h2⟩⟩
  | x => exact .no
theorem DM.map {α β : Type} {S : (α → Prop) → Prop} (h : DM S) (f : α → β) : DM fun K : β → Prop => S fun x => K (f x) := DM.comp h fun y => DM.id (f y)
theorem rdAll_dm : ∀ {ks : List SK} {c : List Value} {o j : Nat}, DM (rdAll ks c o j) := by
  intro ks
  induction ks with
  | nil => intro c o j; exact DM.id _
  | cons k ks ih => intro c o j; exact DM.comp (S := rd1 k c (Nat.add o j)) (T := fun v K => rdAll ks c o (Nat.succ j) fun vs => K (v :: vs)) rd1_dm fun v => DM.map ih fun vs => v :: vs
theorem oneOf_dm (vs : List Value) : DM (oneOf vs) := by
  unfold oneOf
  split
  · exact DM.id _
  · exact DM.no
theorem symLoad_dm {t : TypeId} {H : T AO} {v : Value} : DM (symLoad P t H v) := by
  refine DM.cpo fun a => ?_
  split
  · refine DM.cpo fun c => DM.cpo fun ks => DM.cpo fun ag => DM.bool ?_ (DM.cpo fun n => DM.cpb (DM.map rdAll_dm fun vs => Value.agg ⟨vs⟩))
    exact DM.comp rdAll_dm oneOf_dm
  · exact .no
theorem symUn_dm {op : UnOp} {v : Value} : DM (symUn op v) := by
  cases op <;> cases v <;> first | exact DM.no | exact sInt_dm | exact DM.ways (S := fun K : Value → Prop => K (.bool false)) (T := fun K : Value → Prop => K (.bool true)) (DM.id _) (DM.id _)
theorem symConv_dm {s d : TypeId} {v : Value} : DM (symConv P s d v) := by
  cases v with
  | int k n => exact DM.cpo fun _ => DM.cpo fun _ => sInt_dm
  | _ => exact .no
theorem symLen_dm {t : TypeId} {v : Value} : DM (symLen P t v) := by
  refine DM.cpo fun d => ?_
  cases d <;> cases v <;> first | exact .no | exact sSet_dm
theorem symIdx_dm {e : TypeId} {a : Option Addr} {len : Nat} {i : Value} : DM (symIdx P e a len i) := by
  refine DM.cpo fun a => ?_
  split
  · refine DM.cpo fun n => ?_
    cases i with
    | int k z => exact DM.and (DM.set fun p => tg (.pointer (some ⟨_, p, none⟩)))
    | _ => exact .no
  · exact .no
theorem symIndexAddr_dm {t : TypeId} {x i : Value} : DM (symIndexAddr P t x i) := by
  refine DM.cpo fun d => ?_
  cases d <;> cases x <;> first | exact .no | exact symIdx_dm
theorem arrW_all {e : TypeId} {c : List Value} {n : Nat} {z : Int} {K : Value → Prop} : ∀ {is : List Nat}, arrW P e c n z K is ↔ ∀ j ∈ is, z = (j : Int) → Ev.cpo (partA P e c (Nat.mul j n)) K := by
  intro is
  induction is with
  | nil => exact ⟨fun _ j hj => (by cases hj), fun _ => trivial⟩
  | cons i is ih =>
    show ((z = (i : Int) → Ev.cpo (partA P e c (Nat.mul i n)) K) ∧ arrW P e c n z K is) ↔ _
    rw [ih]
    constructor
    · rintro ⟨h1, h2⟩ j hj
      rcases List.mem_cons.1 hj with rfl | hj
      · exact h1
      · exact h2 j hj
    · exact fun h => ⟨h i List.mem_cons_self, fun j hj => h j (List.mem_cons_of_mem _ hj)⟩
theorem symIndex_dm {t : TypeId} {x i : Value} : DM (symIndex P t x i) := by
  refine DM.cpo fun d => ?_
  cases d <;> cases x <;> cases i <;> first | exact .no | skip
  · rename_i s k z
    refine ⟨fun K h => ?_, fun _ _ hk h => ⟨h.1, fun b hb => hk _ (h.2 b hb)⟩⟩
    obtain ⟨⟨h0, h1⟩, h2⟩ := h
    have hlt : z.toNat < s.data.toList.length := by omega
    refine ⟨_, h2 _ (List.getElem?_eq_getElem hlt), ⟨h0, h1⟩, fun b hb => ?_⟩
    rw [List.getElem?_eq_getElem hlt] at hb
    cases hb; rfl
  · rename_i len e c k z
    refine DM.cpo fun n => ⟨fun K h => ?_, fun _ _ hk h => ⟨h.1, arrW_all.2 fun j hj e => (DM.opt _).mono _ _ hk (arrW_all.1 h.2 j hj e)⟩⟩
    obtain ⟨⟨h0, h1⟩, h2⟩ := h
    have hz : z = ((z.toNat : Nat) : Int) := by omega
    obtain ⟨v, hv, hK⟩ := arrW_some hz h2 (List.mem_range.2 (by omega))
    refine ⟨v, hK, ⟨h0, h1⟩, arrW_all.2 fun j _ e => cpo_iff.2 ⟨v, ?_, rfl⟩⟩
    have : j = z.toNat := by omega
    rw [this]; exact hv
theorem symMM_dm {b : Builtin} {vs : List Value} : DM (symMM b vs) := by
  unfold symMM
  repeat' first
    | exact sSet_dm
    | exact .no
    | split
theorem two_dm {o : Op} {F : T Value} {H : T AO} {x y : Operand} {s : Value → Value → (Value → Prop) → Prop} (h : ∀ a b, DM (s a b)) : DM fun K => two o P F H x y K fun a b => s a b K :=
  DM.cpo fun a => DM.cpo fun b => DM.bool (DM.opt _) (h a b)
theorem one_dm {o : Op} {F : T Value} {H : T AO} {x : Operand} {s : Value → (Value → Prop) → Prop} (h : ∀ a, DM (s a)) : DM fun K => one o P F H x K fun a => s a K :=
  DM.cpo fun a => DM.bool (DM.opt _) (h _)
theorem symCall_dm {c : Call} {o : Op} {F : T Value} {H : T AO} : DM (symCall c o P F H) := by
  obtain ⟨cal, args, ats⟩ := c
  cases cal with
  | builtin b => cases b <;> first
    | exact DM.opt _
    | exact DM.cpo fun t => DM.cpo fun x => one_dm fun a => symLen_dm
    | exact DM.cpo fun vs => DM.bool (DM.opt _) symMM_dm
  | _ => exact DM.opt _
theorem mnWays_dm {v : Value} {s : Value → (Value → Prop) → Prop} (h : ∀ x, DM (s x)) : DM fun K => mnWays v fun x => s x K := by
  unfold mnWays
  cases mnB v with
  | none => exact h _
  | some b => exact DM.ways (h _) (h _)
theorem symSlice_dm {H : T AO} {t : TypeId} {lo hi : Option Value} {x : Value} : DM fun K => symSlice P H t lo hi K x := by
  unfold symSlice
  refine DM.cpo fun d => ?_
  cases d <;> first | exact .no | skip
  rename_i e
  cases x <;> first | exact .no | skip
  rename_i a l c
  refine DM.cpo fun n => DM.cpo fun l => DM.cpo fun h => ?_
  cases a with
  | none => exact DM.cpb (DM.and (DM.id _))
  | some a =>
    obtain ⟨b, o, sp⟩ := a
    cases sp with
    | some _ => exact .no
    | none =>
      show DM fun K => symSl H n b o _ c l h K
      unfold symSl
      refine DM.cpo fun x => ?_
      cases x <;> first | exact .no | skip
      exact DM.and ⟨fun K hK => ⟨_, hK _ _ _ rfl rfl rfl, fun p q c e1 e2 e3 => by rw [e1, e2, e3]⟩, fun K K' hk h p q c e1 e2 e3 => hk _ (h p q c e1 e2 e3)⟩
theorem symAgg_dm {op : BinOp} {t : TypeId} {a b : Value} : DM (symAgg P op t a b) := by
  refine DM.cpb (DM.cpo fun _ => DM.cpo fun _ => DM.cpo fun l => ?_)
  cases op <;> first | exact .no | skip
  · exact DM.bool sIf_dm (DM.id _)
  · refine DM.bool ⟨fun K h => ?_, fun _ _ hk h => ⟨fun e => hk _ (h.1 e), fun e => hk _ (h.2 e)⟩⟩ (DM.id _)
    by_cases hp : conj l
    · exact ⟨_, h.2 hp, fun e => absurd hp e, fun _ => rfl⟩
    · exact ⟨_, h.1 hp, fun _ => rfl, fun e => absurd e hp⟩
theorem symArr_dm {t : TypeId} {v : Value} : DM (symArr P t v) := by
  refine DM.cpo fun q => ?_
  cases v <;> first | exact .no | skip
  rename_i a l c
  cases a with
  | none => exact .no
  | some a => exact DM.and (DM.id _)
theorem symQ0_dm {o : Op} {F : T Value} {H : T AO} : DM (symQ0 P o F H) := by
  cases o <;> try first | exact DM.opt _ | exact (DM.opt (none : Option Value) : DM fun K : Value → Prop => cpo none K)
  case binOp op t x y yt => exact DM.cpo fun a => DM.cpo fun b => DM.bool (DM.bool (DM.opt _) symB_dm) symAgg_dm
  case sliceToArrayPointer t x =>
    refine DM.cpo fun a => DM.bool (DM.opt _) ?_
    cases mnB a with
    | some _ => exact .no
    | none => exact symArr_dm
  case unOp op t x => exact one_dm fun a => symUn_dm
  case convert s d x => exact one_dm fun a => symConv_dm
  case load t x => exact one_dm fun a => symLoad_dm
  case indexAddr t x i => exact two_dm fun a b => symIndexAddr_dm
  case index t x i => exact two_dm fun a b => symIndex_dm
  case fieldAddr s x f =>
    refine one_dm fun a => ?_
    refine DM.cpo fun fs => DM.cpo fun fd => DM.cpo fun n => DM.cpb ?_
    split
    · exact DM.set fun p => tg (.pointer (some ⟨_, p, none⟩))
    · exact .no
  case call c => exact symCall_dm
  case slice t x lo hi mx =>
    cases mx with
    | some _ => exact DM.opt _
    | none => exact DM.cpo fun a => DM.cpo fun l => DM.cpo fun h => DM.bool (DM.opt _) (mnWays_dm (s := fun x K => symSlice P H t l h K x) fun x => symSlice_dm)
  case pick c x y =>
    refine DM.cpo fun a => DM.bool (DM.opt _) ?_
    cases uval a <;> first | exact .no | exact DM.ways (DM.opt _) (DM.opt _)
noncomputable section
def blockOf : Value → Option (Option Nat)
  | .pointer (some a) => some (some a.block)
  | .slice (some a) _ _ => some (some a.block)
  | .map (some r) => some (some r)
  | .pointer none | .slice none _ _ | .map none | .string _ | .int _ _ | .bool _ => some none
  | _ => none
def placeOf (P : Program) (F : T Value) (x : Operand) : Option (Option Nat) := ob (opnd P F x) fun v => blockOf (uval v)
def looksAt0 (P : Program) (F : T Value) (o : Op) : Option (Option Nat) := match o with
  | .move _ | .assign _ | .pick _ _ _ | .build _ _ | .binOp _ _ _ _ _ | .unOp _ _ _ | .makeInterface _ _ | .makeFunc _ _ _ | .fieldAddr _ _ _ | .field _ _ _ | .indexAddr _ _ _ | .index _ _ _ | .extract _ _ | .nilCheck _ | .sliceToArrayPointer _ _ => some none
  | .load _ x => placeOf P F x
  | .convert _ _ x => ob (opnd P F x) fun v => match uval v with
    | .int _ _ => some none
    | _ => none
  | .lookup _ x _ _ => placeOf P F x
  | .slice _ x _ _ _ => placeOf P F x
  | .call c => match c.callee with
    | .builtin .len => ob (lget c.args.toList 0) fun x => placeOf P F x
    | .builtin .min | .builtin .max => some none
    | _ => none
  | _ => none
end
theorem rowAt_same {H H' : T AO} {b : Nat} (h : H.get b = H'.get b) {β : Type} (f : List Value → TypeId → Md → Option β) : rowAt H b f = rowAt H' b f := by unfold rowAt; rw [h]
theorem mapAt_same {H H' : T AO} {b : Nat} (h : H.get b = H'.get b) {β : Type} (f : List MapEntry → Nat → Option β) : mapAt H b f = mapAt H' b f := by unfold mapAt; rw [h]
theorem loadA_same {H H' : T AO} {v : Value} (h : ∀ b', blockOf v = some (some b') → H.get b' = H'.get b') (t : TypeId) : loadA P t H v = loadA P t H' v := by
  cases v <;> try rfl
  rename_i a
  cases a with
  | none => rfl
  | some a =>
    obtain ⟨k, o, sp⟩ := a
    cases sp with
    | some _ => rfl
    | none => exact rowAt_same (h k rfl) _
theorem symLoad_same {H H' : T AO} {v : Value} (h : ∀ b', blockOf v = some (some b') → H.get b' = H'.get b') (t : TypeId) (K : Value → Prop) : symLoad P t H v K = symLoad P t H' v K := by
  cases v <;> try rfl
  rename_i a
  cases a with
  | none => rfl
  | some a =>
    obtain ⟨k, o, sp⟩ := a
    cases sp with
    | some _ => rfl
    | none =>
      show cpo (rowAt H k fun c _ _ => some c) _ = cpo (rowAt H' k fun c _ _ => some c) _
      rw [rowAt_same (h k rfl)]
theorem uval_plain {v : Value} (h : isSym v = false) : uval v = v := by
  cases v <;> try rfl
  rename_i t x
  have h : bnot (Nat.blt t SYM) = false := h
  rw [bnot_eq] at h
  have hlt : Nat.blt t SYM = true := by simpa using h
  have h1 : Nat.beq t SYM = false := by cases hb : Nat.beq t SYM with
    | false => rfl
    | true => rw [beqIff.1 hb] at hlt; exact absurd hlt noSYM
  have h2 : Nat.beq t MN = false := by cases hb : Nat.beq t MN with
    | false => rfl
    | true => rw [beqIff.1 hb] at hlt; exact absurd hlt noMN
  simp only [uval, h1, h2]
theorem lookup_same {H H' : T AO} {m : Value} (h : ∀ b', blockOf m = some (some b') → H.get b' = H'.get b') (t : TypeId) (k : Value) (ok : Bool) : lookupA P H t m k ok = lookupA P H' t m k ok := by
  have he : entriesA H m = entriesA H' m := by
    cases m <;> try rfl
    rename_i r
    cases r with
    | none => rfl
    | some r => exact mapAt_same (h r rfl) _
  unfold lookupA
  rw [he]
theorem len_same {H H' : T AO} {x : Value} (h : ∀ b', blockOf x = some (some b') → H.get b' = H'.get b') (t : TypeId) : lenA P H t x = lenA P H' t x := by
  have he : entriesA H x = entriesA H' x := by
    cases x <;> try rfl
    rename_i r
    cases r with
    | none => rfl
    | some r => exact mapAt_same (h r rfl) _
  unfold lenA
  cases P.underlying t with
  | none => rfl
  | some d =>
    show (match d with
      | .string => _
      | .slice _ => _
      | .array n _ => _
      | .map _ _ => _
      | _ => _) = _
    cases d <;> first | rfl | (show ob (entriesA H x) _ = ob (entriesA H' x) _; rw [he])
theorem slice_same {H H' : T AO} {x : Value} (h : ∀ b', blockOf x = some (some b') → H.get b' = H'.get b') (t : TypeId) (lo hi mx : Option Value) : sliceA P H t x lo hi mx = sliceA P H' t x lo hi mx := by
  unfold sliceA
  cases P.underlying t with
  | none => rfl
  | some d =>
    cases d <;> try rfl
    case slice e =>
      show sliceL P H e x lo hi mx = sliceL P H' e x lo hi mx
      cases x <;> try rfl
      rename_i a l c
      cases a with
      | none => rfl
      | some a =>
        obtain ⟨k, o, sp⟩ := a
        cases sp with
        | some _ => rfl
        | none =>
          unfold sliceL
          cases sizeA P e with
          | none => rfl
          | some n => exact rowAt_same (h k rfl) _
    case array n e =>
      show sliceR P H n e x lo hi mx = sliceR P H' n e x lo hi mx
      cases x <;> try rfl
      rename_i a
      cases a with
      | none => rfl
      | some a =>
        obtain ⟨k, o, sp⟩ := a
        cases sp with
        | some _ => rfl
        | none =>
          unfold sliceR
          show ob (sizeA P e) _ = ob (sizeA P e) _
          cases sizeA P e with
          | none => rfl
          | some sz => exact rowAt_same (h k rfl) _
theorem symSlice_same {H H' : T AO} {x : Value} (h : ∀ b', blockOf x = some (some b') → H.get b' = H'.get b') (t : TypeId) (lo hi : Option Value) (K : Value → Prop) : symSlice P H t lo hi K x = symSlice P H' t lo hi K x := by
  unfold symSlice
  cases P.underlying t with
  | none => rfl
  | some d =>
    cases d <;> try rfl
    rename_i e
    cases x <;> try rfl
    rename_i a l c
    cases a with
    | none => rfl
    | some a =>
      obtain ⟨k, o, sp⟩ := a
      cases sp with
      | some _ => rfl
      | none =>
        show (cpo (sizeA P e) fun n => cpo (numO 0 lo) fun l => cpo (numO _ hi) fun h => symSl H n k o _ c l h K) = (cpo (sizeA P e) fun n => cpo (numO 0 lo) fun l => cpo (numO _ hi) fun h => symSl H' n k o _ c l h K)
        unfold symSl
        rw [h k rfl]
theorem symQ0_same {o : Op} {F : T Value} {H H' : T AO} {x : Option Nat} (hl : looksAt0 P F o = some x) (h : ∀ b, x = some b → H.get b = H'.get b) (K : Value → Prop) : symQ0 P o F H K = symQ0 P o F H' K := by
  cases o <;> simp only [looksAt0] at hl <;> try (first | rfl | (cases hl; done))
  case load t y =>
    simp only [placeOf, ob_some] at hl
    obtain ⟨a, ha, hb⟩ := hl
    show cpo (opnd P F y) _ = cpo (opnd P F y) _
    rw [ha]
    show (Bool.rec (cpo (evQ (.load t y) P F H) K) (symLoad P t H (uval a) K) (isSym a) : Prop) = Bool.rec (cpo (evQ (.load t y) P F H') K) (symLoad P t H' (uval a) K) (isSym a)
    have h' : ∀ b', blockOf (uval a) = some (some b') → H.get b' = H'.get b' := fun b' e => h b' (by rw [hb] at e; exact Option.some.inj e)
    cases hs : isSym a with
    | true => exact symLoad_same h' t K
    | false =>
      rw [uval_plain hs] at h'
      show cpo (ob (opnd P F y) (loadA P t H)) K = cpo (ob (opnd P F y) (loadA P t H')) K
      rw [ha]
      show cpo (loadA P t H a) K = cpo (loadA P t H' a) K
      rw [loadA_same h']
  case convert s d y =>
    simp only [ob_some] at hl
    obtain ⟨a, ha, hb⟩ := hl
    show cpo (opnd P F y) (fun a => Bool.rec (cpo (evQ (.convert s d y) P F H) K) (symConv P s d (uval a) K) (isSym a)) = cpo (opnd P F y) (fun a => Bool.rec (cpo (evQ (.convert s d y) P F H') K) (symConv P s d (uval a) K) (isSym a))
    rw [ha]
    show (Bool.rec (cpo (evQ (.convert s d y) P F H) K) (symConv P s d (uval a) K) (isSym a) : Prop) = Bool.rec (cpo (evQ (.convert s d y) P F H') K) (symConv P s d (uval a) K) (isSym a)
    cases hs : isSym a with
    | true => rfl
    | false =>
      rw [uval_plain hs] at hb
      show cpo (qConv s d y P F H) K = cpo (qConv s d y P F H') K
      unfold qConv
      rw [ha]
      cases a <;> first | rfl | (cases hb; done)
  case lookup t y k ok =>
    simp only [placeOf, ob_some] at hl
    obtain ⟨a, ha, hb⟩ := hl
    show cpo (ob (opnd P F y) fun m => ob (opnd P F k) fun k => lookupA P H t m k ok) K = cpo (ob (opnd P F y) fun m => ob (opnd P F k) fun k => lookupA P H' t m k ok) K
    rw [ha]
    show cpo (ob (opnd P F k) fun k => lookupA P H t a k ok) K = cpo (ob (opnd P F k) fun k => lookupA P H' t a k ok) K
    cases hs : isSym a with
    | false =>
      rw [uval_plain hs] at hb
      have : (fun k => lookupA P H t a k ok) = fun k => lookupA P H' t a k ok := funext fun k => lookup_same (fun b' e => h b' (by rw [hb] at e; exact Option.some.inj e)) t k ok
      rw [this]
    | true =>
      have hn : ∀ (H : T AO) (k : Value), lookupA P H t a k ok = none := fun H k => by
        have he : entriesA H a = none := by
          cases a <;> first | (cases hs; done) | rfl
        unfold lookupA
        rw [he]
        cases mapT P t <;> try rfl
        rename_i q
        show bt (flat k) _ = none
        cases flat k <;> try rfl
        show ob (P.underlying q.1) _ = none
        cases P.underlying q.1 <;> try rfl
        rename_i kd
        show bt (keyD kd) _ = none
        cases keyD kd <;> rfl
      have : (fun k => lookupA P H t a k ok) = fun k => lookupA P H' t a k ok := funext fun k => by rw [hn, hn]
      rw [this]
  case slice t y lo hi mx =>
    simp only [placeOf, ob_some] at hl
    obtain ⟨a, ha, hb⟩ := hl
    have hev : evQ (.slice t y lo hi mx) P F H = evQ (.slice t y lo hi mx) P F H' := by
      show (ob (opnd P F y) fun x => ob (optOp P F lo) fun lo => ob (optOp P F hi) fun hi => ob (optOp P F mx) fun mx => sliceA P H t x lo hi mx) = (ob (opnd P F y) fun x => ob (optOp P F lo) fun lo => ob (optOp P F hi) fun hi => ob (optOp P F mx) fun mx => sliceA P H' t x lo hi mx)
      rw [ha]
      show (ob (optOp P F lo) fun lo => ob (optOp P F hi) fun hi => ob (optOp P F mx) fun mx => sliceA P H t a lo hi mx) = (ob (optOp P F lo) fun lo => ob (optOp P F hi) fun hi => ob (optOp P F mx) fun mx => sliceA P H' t a lo hi mx)
      have hs : ∀ lo hi mx, sliceA P H t a lo hi mx = sliceA P H' t a lo hi mx := by
        cases hs : isSym a with
        | false =>
          rw [uval_plain hs] at hb
          exact fun lo hi mx => slice_same (fun b' e => h b' (by rw [hb] at e; exact Option.some.inj e)) t lo hi mx
        | true =>
          intro lo hi mx
          unfold sliceA
          cases P.underlying t with
          | none => rfl
          | some d => cases a <;> first | (cases hs; done) | (cases d <;> rfl)
      simp only [hs]
    cases mx with
    | some m => show cpo (evQ (.slice t y lo hi (some m)) P F H) K = cpo (evQ (.slice t y lo hi (some m)) P F H') K; rw [hev]
    | none =>
      have hsl : ∀ l h, symSlice P H t l h K (uval a) = symSlice P H' t l h K (uval a) := fun l h' => symSlice_same (fun b' e => h b' (by rw [hb] at e; exact Option.some.inj e)) t l h' K
      have hmn : ∀ l h, mnWays a (symSlice P H t l h K) = mnWays a (symSlice P H' t l h K) := fun l h' => by
        unfold mnWays
        cases mnB a with
        | none => exact hsl l h'
        | some b =>
          have h0 : symSlice P H t l h' K (.slice none 0 0) = symSlice P H' t l h' K (.slice none 0 0) := symSlice_same (fun b' e => by cases e) t l h' K
          show ((b = true → symSlice P H t l h' K (.slice none 0 0)) ∧ (b = false → symSlice P H t l h' K (uval a))) = ((b = true → symSlice P H' t l h' K (.slice none 0 0)) ∧ (b = false → symSlice P H' t l h' K (uval a)))
          rw [h0, hsl]
      show symS (.slice t y lo hi none) P F H t y lo hi K = symS (.slice t y lo hi none) P F H' t y lo hi K
      unfold symS
      rw [hev]
      rw [ha]
      show (cpo (optOp P F lo) fun l => cpo (optOp P F hi) fun h => (Bool.rec (cpo (evQ (.slice t y lo hi none) P F H') K) (mnWays a (symSlice P H t l h K)) (isSym a || (symO l || symO h)) : Prop)) = (cpo (optOp P F lo) fun l => cpo (optOp P F hi) fun h => (Bool.rec (cpo (evQ (.slice t y lo hi none) P F H') K) (mnWays a (symSlice P H' t l h K)) (isSym a || (symO l || symO h)) : Prop))
      simp only [hmn]
  case call c =>
    obtain ⟨cal, args, ats⟩ := c
    cases cal with
    | builtin b =>
      cases b <;> simp only at hl <;> try (first | rfl | (cases hl; done))
      simp only [placeOf, ob_some] at hl
      obtain ⟨y, hy, a, ha, hb⟩ := hl
      show cpo (lget ats.toList 0) _ = cpo (lget ats.toList 0) _
      cases lget ats.toList 0 with
      | none => rfl
      | some t =>
        show cpo (lget args.toList 0) _ = cpo (lget args.toList 0) _
        have hy : lget args.toList 0 = some y := hy
        rw [hy]
        show cpo (opnd P F y) _ = cpo (opnd P F y) _
        rw [ha]
        show (Bool.rec (cpo (evQ (.call ⟨.builtin .len, args, ats⟩) P F H) K) (symLen P t (uval a) K) (isSym a) : Prop) = Bool.rec (cpo (evQ (.call ⟨.builtin .len, args, ats⟩) P F H') K) (symLen P t (uval a) K) (isSym a)
        cases hs : isSym a with
        | true => rfl
        | false =>
          rw [uval_plain hs] at hb
          show cpo (ob (lget ats.toList 0) fun t => ob (lget args.toList 0) fun x => ob (opnd P F x) (lenA P H t)) K = cpo (ob (lget ats.toList 0) fun t => ob (lget args.toList 0) fun x => ob (opnd P F x) (lenA P H' t)) K
          rw [hy]
          show cpo (ob (lget ats.toList 0) fun t => ob (opnd P F y) (lenA P H t)) K = cpo (ob (lget ats.toList 0) fun t => ob (opnd P F y) (lenA P H' t)) K
          rw [ha]
          show cpo (ob (lget ats.toList 0) fun t => lenA P H t a) K = cpo (ob (lget ats.toList 0) fun t => lenA P H' t a) K
          have : (fun t => lenA P H t a) = fun t => lenA P H' t a := funext fun t => len_same (fun b' e => h b' (by rw [hb] at e; exact Option.some.inj e)) t
          rw [this]
    | _ => cases hl
theorem xr1_dm {sk : SK} {b o : Nat} : DM (xr1 P sk b o) := by
  cases sk with
  | i k => exact ⟨fun K h => let ⟨z, h1, h2⟩ := h; ⟨_, h2, z, h1, rfl⟩, fun _ _ hk h => let ⟨z, h1, h2⟩ := h; ⟨z, h1, hk _ h2⟩⟩
  | b => exact ⟨fun K h => let ⟨z, h1, h2⟩ := h; ⟨_, h2, z, h1, rfl⟩, fun _ _ hk h => let ⟨z, h1, h2⟩ := h; ⟨z, h1, hk _ h2⟩⟩
  | s => exact ⟨fun K h => let ⟨z, h1, h2⟩ := h; ⟨_, h2, z, h1, rfl⟩, fun _ _ hk h => let ⟨z, h1, h2⟩ := h; ⟨z, h1, hk _ h2⟩⟩
  | x => exact ⟨fun K h => let ⟨a, l, c, h1, h2⟩ := h; ⟨_, h2, a, l, c, h1, rfl⟩, fun _ _ hk h => let ⟨a, l, c, h1, h2⟩ := h; ⟨a, l, c, h1, hk _ h2⟩⟩
theorem xrAll_dm : ∀ {ks : List SK} {b o j : Nat}, DM (xrAll P ks b o j) := by
  intro ks
  induction ks with
  | nil => intro b o j; exact DM.id _
  | cons k ks ih => intro b o j; exact DM.comp (S := xr1 P k b (Nat.add o j)) (T := fun v K => xrAll P ks b o (Nat.succ j) fun vs => K (v :: vs)) xr1_dm fun v => DM.map ih fun vs => v :: vs
theorem xQ_dm {o : Op} {F : T Value} {p : Bool × Value} : DM fun K => xQ P o F K p := by
  obtain ⟨lit, a⟩ := p
  cases o <;> try exact DM.no
  case load t x =>
    show DM fun K => xLoadV P t K a
    unfold xLoadV
    split
    · refine DM.cpo fun ks => DM.cpo fun ag => DM.bool ?_ (DM.cpo fun n => DM.cpb (DM.map xrAll_dm fun vs => Value.agg ⟨vs⟩))
      exact DM.comp xrAll_dm oneOf_dm
    · exact .no
  case indexAddr t x i =>
    refine DM.cpo fun e => DM.cpo fun iv => ?_
    unfold xIdxV
    cases a <;> first | exact .no | skip
    rename_i ad l c
    refine DM.cpo fun n => ?_
    cases uval iv <;> first | exact .no | skip
    refine DM.and ⟨fun K h => ?_, fun K K' hk h => let ⟨b, o, e, h1⟩ := h; ⟨b, o, e, fun p hp => hk _ (h1 p hp)⟩⟩
    obtain ⟨b, o, e, h1⟩ := h
    exact ⟨_, h1 _ rfl, b, o, e, fun p hp => by rw [hp]⟩
  case fieldAddr s x f =>
    refine DM.cpo fun fs => DM.cpo fun fd => DM.cpo fun n => DM.cpb ?_
    split
    · exact DM.set fun p => Value.iface EXT (Value.pointer (some ⟨_, p, none⟩))
    · exact .no
  case binOp op t x y yt =>
    refine DM.cpo fun b => DM.cpb (DM.cpb ?_)
    cases a <;> first | exact .no | skip
    cases op <;> first | exact .no | exact sIf_dm
  case slice t x lo hi mx =>
    refine DM.cpo fun l => DM.cpo fun h => DM.cpo fun e => DM.cpo fun n => ?_
    cases a <;> first | exact .no | skip
    exact DM.cpo fun l => DM.cpo fun h => DM.and ⟨fun K hK => ⟨_, hK _ _ _ rfl rfl rfl, fun p q c e1 e2 e3 => by rw [e1, e2, e3]⟩, fun K K' hk h p q c e1 e2 e3 => hk _ (h p q c e1 e2 e3)⟩
  case call c =>
    refine DM.cpo fun t => DM.cpb ?_
    cases a <;> first | exact .no | (cases lit <;> first | exact sSet_dm | exact DM.id _)
theorem DM.ifp {α : Type} {p : Prop} {S T : (α → Prop) → Prop} (h : DM S) (k : DM T) : DM fun K => (p → S K) ∧ (¬ p → T K) :=
  ⟨fun K hK => by
    by_cases hp : p
    · obtain ⟨v, h1, h2⟩ := h.det K (hK.1 hp)
      exact ⟨v, h1, fun _ => h2, fun e => absurd hp e⟩
    · obtain ⟨v, h1, h2⟩ := k.det K (hK.2 hp)
      exact ⟨v, h1, fun e => absurd e hp, fun _ => h2⟩, fun _ _ hk hK => ⟨fun e => h.mono _ _ hk (hK.1 e), fun e => k.mono _ _ hk (hK.2 e)⟩⟩
theorem lkQ_dm {t : TypeId} {ok : Bool} {k : Value} : ∀ {es : List MapEntry}, DM fun K => lkQ P t ok k K es := by
  intro es
  induction es with
  | nil => exact DM.opt _
  | cons e es ih =>
    show DM fun K => keyIs k e.key (Ev.cpo (okV ok e.val true) K) (lkQ P t ok k K es)
    unfold keyIs
    split
    · split
      · exact DM.cpb (DM.ifp (DM.opt _) ih)
      · exact .no
    · split
      · exact DM.ifp (DM.opt _) ih
      · exact .no
    · exact .no
theorem symLk_dm {o : Op} {H : T AO} {a : Value × Value} : DM fun K => symLk P o H K a := by
  cases o <;> try exact DM.no
  exact DM.cpo fun q => DM.cpo fun kd => DM.cpb (DM.cpo fun es => lkQ_dm)
theorem symQ_dm {o : Op} {F : T Value} {H : T AO} : DM (symQ P o F H) := by
  show DM fun K => symQ P o F H K
  unfold symQ
  cases xarg P F o with
  | none => cases karg P F o with
    | none => exact symQ0_dm
    | some a => exact symLk_dm
  | some a => exact xQ_dm
noncomputable section
def looksAt (P : Program) (F : T Value) (o : Op) : Option (Option Nat) := Option.rec (looksAt0 P F o) (fun _ => some none) (xarg P F o)
end
theorem symQ_same {o : Op} {F : T Value} {H H' : T AO} {x : Option Nat} (hl : looksAt P F o = some x) (h : ∀ b, x = some b → H.get b = H'.get b) (K : Value → Prop) : symQ P o F H K = symQ P o F H' K := by
  unfold looksAt at hl
  unfold symQ
  cases hx : xarg P F o with
  | none =>
    rw [hx] at hl
    cases hk : karg P F o with
    | none => exact symQ0_same hl h K
    | some a =>
      cases o <;> try (cases hk; done)
      rename_i t y k ok
      have hk : (ob (opnd P F y) fun m => ob (opnd P F k) fun k => bt (isSym k) (some (m, uval k))) = some a := hk
      simp only [ob_some, bt_some, Option.some.injEq] at hk
      obtain ⟨m, hm, kv, _, _, rfl⟩ := hk
      have hl : placeOf P F y = some x := hl
      simp only [placeOf, ob_some] at hl
      obtain ⟨m', hm', hl⟩ := hl
      rw [hm] at hm'; cases hm'
      have he : entriesA H m = entriesA H' m := by
        cases m <;> try rfl
        rename_i r
        cases r with
        | none => rfl
        | some r => exact mapAt_same (h r (Option.some.inj hl).symm) _
      show symLk P (.lookup t y k ok) H K (m, uval kv) = symLk P (.lookup t y k ok) H' K (m, uval kv)
      show (cpo (mapT P t) fun q => cpo (P.underlying q.1) fun kd => cpb (keyK kd (uval kv)) (cpo (entriesA H m) fun es => lkQ P q.2 ok (uval kv) K es)) = (cpo (mapT P t) fun q => cpo (P.underlying q.1) fun kd => cpb (keyK kd (uval kv)) (cpo (entriesA H' m) fun es => lkQ P q.2 ok (uval kv) K es))
      rw [he]
  | some a => rfl
end Go.Ev
end

/- The evaluator with variables: regions, code, calls; it is sound. -/
section
set_option linter.unusedSectionVars false
namespace Go.Ev
variable {P : Program} {N : Nat} [Frozen P]
abbrev CW := FuncId → List Value → AW → (Value → AW → Prop) → Prop
noncomputable section
def doFxW (cw : CW) (ds : List Deferred) (f : Fx) (K : Value → AW → List Deferred → Prop) : Prop := Fx.rec (fun v A => K v A ds) (fun f args A => cw f args A fun v A' => K v A' ds) (fun d A => K (.tuple #[]) A (d :: ds)) f
def stepW (P : Program) [Frozen P] (cw : CW) (N : Nat) (all : List Oper) (o : Oper) (s : St) (K : St → Prop) : Prop := cpo (wantedA all o s.F) fun b => Bool.rec (cpo (putF N s.F o.dst (.tuple #[])) fun F => K ⟨F, s.A, s.ds⟩)
  (Bool.rec (symQ P o.op s.F s.A.heap fun v => cpo (putF N s.F o.dst v) fun F => K ⟨F, s.A, s.ds⟩)
    (symE P o.op s.F s.A fun f => doFxW cw s.ds f fun v A ds => cpo (putF N s.F o.dst v) fun F => K ⟨F, A, ds⟩) (isE P o.op)) b
def seqW (P : Program) [Frozen P] (cw : CW) (N : Nat) (all : List Oper) (os : List Oper) : St → (St → Prop) → Prop := List.rec (motive := fun _ => St → (St → Prop) → Prop) (fun s K => K s) (fun o _ ih s K => stepW P cw N all o s fun s' => ih s' K) os
abbrev PassK := List Rc → List AW → St → Prop
abbrev PassW := List (Option Nat) → Nat → St → PassK → Prop
def quietW (N : Nat) (o : Oper) (v : Value) (k : Nat) (s : St) (ih : Nat → St → PassK → Prop) (K : PassK) : Prop := cpo (putF N s.F o.dst v) fun F => ih k ⟨F, s.A, s.ds⟩ fun rs As s' => K (⟨o, s.F, v, k, false⟩ :: rs) As s'
def effW (N : Nat) (o : Oper) (v : Value) (A : AW) (k : Nat) (s : St) (ih : Nat → St → PassK → Prop) (K : PassK) : Prop := cpo (putF N s.F o.dst v) fun F => ih (Nat.succ k) ⟨F, A, s.ds⟩ fun rs As s' => K (⟨o, s.F, v, k, true⟩ :: rs) (A :: As) s'
def doFxD (cw : CW) (f : Fx) (K : Value → AW → Prop) : Prop := Fx.rec (fun v A => K v A) (fun f args A => cw f args A K) (fun _ _ => False) f
def wantW (P : Program) [Frozen P] (cw : CW) (N : Nat) (o : Oper) (h : Option Nat) (k : Nat) (s : St) (ih : Nat → St → PassK → Prop) (K : PassK) : Prop := Option.rec
  (Bool.rec (symQ P o.op s.F s.A.heap fun v => quietW N o v k s ih K) (cpb (bnot (softO P o.op)) (symE P o.op s.F s.A fun f => doFxD cw f fun v A => effW N o v A k s ih K)) (isE P o.op))
  (fun id => cpo (madeV P s.F o.op id) fun v => quietW N o v k s ih K) h
def oneW (P : Program) [Frozen P] (cw : CW) (N : Nat) (all : List Oper) (o : Oper) (h : Option Nat) (k : Nat) (s : St) (ih : Nat → St → PassK → Prop) (K : PassK) : Prop := cpo (wantedA all o s.F) fun b => Bool.rec
  (Bool.rec (quietW N o (.tuple #[]) k s ih K) (effW N o (.tuple #[]) s.A k s ih K) (loudB P o)) (wantW P cw N o h k s ih K) b
def passW (P : Program) [Frozen P] (cw : CW) (N : Nat) (all : List Oper) (os : List Oper) : PassW := List.rec (motive := fun _ => PassW) (fun _ _ s K => K [] [] s)
  (fun o _ ih hs k s K => match hs with
    | [] => False
    | h :: hs => oneW P cw N all o h k s (ih hs) K) os
def againW (P : Program) [Frozen P] (r : Rc) (h : Option Nat) (Ao A : AW) : Prop := Option.rec (cpo (looksAt P r.F r.o.op) fun x => Option.rec True (fun b => A.heap.get b = Ao.heap.get b) x) (fun id => cpb (freshAt P r.F r.o.op id A.heap) True) h
def winW (P : Program) [Frozen P] (all : List Oper) (r : Rc) (h : Option Nat) (lo hi : Nat) (Ao : AW) (As : List AW) : Nat → Prop := List.rec (motive := fun _ => Nat → Prop) (fun _ => True)
  (fun A _ ih k => Bool.rec (ih (Nat.succ k)) (againW P r h Ao A ∧ ih (Nat.succ k)) (Nat.ble lo k && (Nat.ble k hi && bnot (isOwn h r k)))) As
def winsW (P : Program) [Frozen P] (all : List Oper) (es : List (Nat × Nat)) (As : List AW) (rs : List Rc) : List (Option Nat) → List Nat → Nat → Prop :=
  List.rec (motive := fun _ => List (Option Nat) → List Nat → Nat → Prop) (fun _ _ _ => True)
    (fun r _ ih hs ms i => match hs with
      | [] => False
      | h :: hs => match ms with
        | [] => False
        | m :: ms => (Bool.rec (cpo (wantedA all r.o r.F) fun b => Bool.rec True (cpo (lget As r.at_) fun Ao => winW P all r h (loOf m es 0 0) (hiOf i es 0) Ao As 0) b) True r.loud) ∧ ih hs ms (Nat.succ i)) rs
def preStep (P : Program) (N : Nat) (all : List Oper) (o : Oper) (s : St) : St := Option.rec s (fun x => x) (stepOp P (evCall P ⟨[], [], [], 0⟩ 8) N all o s)
def preW (P : Program) (N : Nat) (ops : List Oper) (s : St) : T Value := Bool.rec s.F (St.F (List.rec (motive := fun _ => St → St) (fun s => s) (fun o _ ih s => ih (preStep P N ops o s)) ops s)) (anyMake ops)
def drawW (P : Program) [Frozen P] (cw : CW) (N : Nat) (ops : List Oper) (s : St) (K : St → Prop) : Prop := cpb (regOk P ops ops (masks ops []) 0) (cpo (hoist P (preW P N ops s) ops s.A) fun h =>
  passW P cw N ops ops h.1 0 ⟨s.F, h.2, s.ds⟩ fun rs As s' => winsW P ops (louds P ops (masks ops []) 0) (h.2 :: As) rs h.1 (masks ops []) 0 ∧ K s')
end
def FnSem (P : Program) [Frozen P] (f : FuncId) (args : List Value) (A : AW) (v : Value) (A' : AW) : Prop := ∀ (σ : Sg) (w : World) (args' : List Value), Rel P σ A w → VRL σ args args' → Serves P σ A w ((callFunc f ⟨args'⟩).run P w) v A'
def CwOK (P : Program) [Frozen P] (cw : CW) : Prop := ∀ f args A K, cw f args A K → ∃ v A', K v A' ∧ FnSem P f args A v A'
def LSemD (P : Program) [Frozen P] (o : Oper) (F : T Value) (A : AW) (ds : List Deferred) (v : Value) (B : AW) (ds' : List Deferred) : Prop := ∀ (σ : Sg) (w : World) (a : Act), Rel P σ A w → OK P σ F a o.op.operands.toList → DRL σ ds a.defers →
  ∀ (next : Act → World → Prop) (Q : Exit → Act → World → Prop), (∀ v' (a' : Act) σ' w', a'.tmps = a.tmps → DRL σ' ds' a'.defers → VR σ' v v' → Rel P σ' B w' → Step σ A w σ' B w' → next (a'.put o.dst v') w') → o.wp P a w next Q
variable {cw : CW}
theorem fx_val {o : Oper} {F : T Value} {A B : AW} {ds : List Deferred} {v : Value} (h : FSem P o F A (.val v B)) : LSemD P o F A ds v B ds := by
  intro σ w a hR hO hD next Q hn
  have hfine := h σ w a hR hO
  unfold Oper.wp
  generalize (execOp a.eval o).run P w = r at hfine ⊢
  obtain ⟨v', σ', w', hr, hv, hR', hS⟩ := hfine
  have := hn v' a σ' w' rfl (hD.sub (hS.sub hR.lim)) hv hR' hS
  rcases hr with rfl | ⟨rfl, rfl⟩
  · exact this
  · exact this
theorem fx_enter {o : Oper} {F : T Value} {A B C : AW} {ds : List Deferred} {f : FuncId} {args : List Value} {v : Value} (h : FSem P o F A (.enter f args B)) (hc : FnSem P f args B v C) (hAB : ∀ σ w a, Rel P σ A w → OK P σ F a o.op.operands.toList → B = A) : LSemD P o F A ds v C ds := by
  intro σ w a hR hO hD next Q hn
  have hfine := h σ w a hR hO
  unfold Oper.wp
  generalize (execOp a.eval o).run P w = r at hfine ⊢
  obtain ⟨rfl, args', ha, rfl⟩ := hfine
  rcases hc σ w args' hR ha with ⟨v', w', hr, σ', hv, hR', hS⟩ | ⟨g, as_, hr, hC⟩
  · rw [hr]; exact hn v' a σ' w' rfl (hD.sub (hS.sub hR.lim)) hv hR' hS
  · rw [hr, Oper.upon_enter]
    refine Calls.mono hC fun e w' he => ?_
    cases e with
    | returned v' => obtain ⟨σ', hv, hR', hS⟩ := he; exact hn v' a σ' w' rfl (hD.sub (hS.sub hR.lim)) hv hR' hS
    | _ => exact he.elim
theorem fx_defr {o : Oper} {F : T Value} {A B : AW} {ds : List Deferred} {d : Deferred} (h : FSem P o F A (.defr d B)) (hAB : ∀ σ w a, Rel P σ A w → OK P σ F a o.op.operands.toList → B = A) : LSemD P o F A ds (.tuple #[]) B (d :: ds) := by
  intro σ w a hR hO hD next Q hn
  have hfine := h σ w a hR hO
  unfold Oper.wp
  generalize (execOp a.eval o).run P w = r at hfine ⊢
  obtain ⟨rfl, fn, cap, cap', args, args', rfl, hc, ha, rfl⟩ := hfine
  exact hn undef { a with defers := _ :: a.defers } σ w rfl (.cons hc ha hD) .undef hR (.refl hR.lim)
theorem fs_same {o : Oper} {F : T Value} {A B : AW} {f : FuncId} {args : List Value} (h : FSem P o F A (.enter f args B)) : ∀ σ w a, Rel P σ A w → OK P σ F a o.op.operands.toList → B = A := fun σ w a hR hO => (h σ w a hR hO).1
theorem fd_same {o : Oper} {F : T Value} {A B : AW} {d : Deferred} (h : FSem P o F A (.defr d B)) : ∀ σ w a, Rel P σ A w → OK P σ F a o.op.operands.toList → B = A := fun σ w a hR hO => (h σ w a hR hO).1
theorem doFxW_sound (hcw : CwOK P cw) {o : Oper} {F : T Value} {A : AW} {ds : List Deferred} {f : Fx} {K : Value → AW → List Deferred → Prop} (hf : FSem P o F A f) (h : doFxW cw ds f K) : ∃ v B ds', K v B ds' ∧ LSemD P o F A ds v B ds' := by
  cases f with
  | val v B => exact ⟨v, B, ds, h, fx_val hf⟩
  | enter f args B =>
    obtain ⟨v, C, hK, hc⟩ := hcw _ _ _ _ h
    exact ⟨v, C, ds, hK, fx_enter hf hc (fs_same hf)⟩
  | defr d B => exact ⟨_, B, _, h, fx_defr hf (fd_same hf)⟩
theorem doFxD_sound (hcw : CwOK P cw) {o : Oper} {F : T Value} {A : AW} {f : Fx} {K : Value → AW → Prop} (hf : FSem P o F A f) (h : doFxD cw f K) : ∃ v B, K v B ∧ LSem P o F A v B := by
  cases f with
  | val v B => exact ⟨v, B, h, fun σ w a ds => fx_val (ds := ds) hf σ w a⟩
  | enter f args B =>
    obtain ⟨v, C, hK, hc⟩ := hcw _ _ _ _ h
    exact ⟨v, C, hK, fun σ w a ds => fx_enter (ds := ds) hf hc (fs_same hf) σ w a⟩
  | defr d B => exact False.elim h
theorem stepW_sound (hcw : CwOK P cw) {all : List Oper} {o : Oper} {s : St} {K : St → Prop} (h : stepW P cw N all o s K) : ∃ s', K s' ∧ ∀ (i : Nat) (σ : Sg) (a : Act) (w : World), (⟨all⟩ : Array Oper)[i]? = some o → SR P N σ s a w →
    ∀ (Kw : Act → World → Prop) (Q : Exit → Act → World → Prop), (∀ σ' a' w', SR P N σ' s' a' w' → Step σ s.A w σ' s'.A w' → Kw a' w') → wpOp P ⟨all⟩ Q i Kw a w := by
  unfold stepW at h
  rw [cpo_iff] at h
  obtain ⟨b, hb, h⟩ := h
  cases b with
  | false =>
    obtain ⟨F, hF, hK⟩ := cpo_iff.1 h
    refine ⟨_, hK, fun i σ a w ho hS Kw Q hn => ?_⟩
    have hw : Region.wanted o (yielded ⟨all⟩ a.tmps) = false := wanted_run (σ := σ) hb fun j want d _ _ v hv => hS.fr.get d v hv
    unfold wpOp
    simp only [ho, hw, Bool.false_eq_true, if_false]
    exact hn σ _ w ⟨hS.fr.put hF .undef, hS.rel, by rw [put_defs]; exact hS.ds⟩ (.refl hS.rel.lim)
  | true =>
    have h : (Bool.rec (symQ P o.op s.F s.A.heap fun v => cpo (putF N s.F o.dst v) fun F => K ⟨F, s.A, s.ds⟩)
      (symE P o.op s.F s.A fun f => doFxW cw s.ds f fun v A ds => cpo (putF N s.F o.dst v) fun F => K ⟨F, A, ds⟩) (isE P o.op) : Prop) := h
    cases hi : isE P o.op with
    | false =>
      rw [hi] at h
      obtain ⟨v, hK, hQ⟩ := symQ_sound (show symQ P o.op s.F s.A.heap _ from h)
      obtain ⟨F, hF, hK⟩ := cpo_iff.1 hK
      refine ⟨_, hK, fun i σ a w ho hS Kw Q hn => ?_⟩
      have hw : Region.wanted o (yielded ⟨all⟩ a.tmps) = true := wanted_run (σ := σ) hb fun j want d _ _ v hv => hS.fr.get d v hv
      unfold wpOp
      simp only [ho, hw, if_true]
      refine .inl ?_
      obtain ⟨v', h1, h2⟩ := hQ σ w a hS.rel (hS.fr.ok hS.rel.glob _)
      unfold Oper.wp
      rw [h2, Oper.upon_value]
      exact hn σ _ w ⟨hS.fr.put hF h1, hS.rel, by rw [put_defs]; exact hS.ds⟩ (.refl hS.rel.lim)
    | true =>
      rw [hi] at h
      obtain ⟨f, h, hf⟩ := symE_sound (show symE P o.op s.F s.A _ from h)
      obtain ⟨v, B, ds', hK, hL⟩ := doFxW_sound hcw hf h
      obtain ⟨F, hF, hK⟩ := cpo_iff.1 hK
      refine ⟨_, hK, fun i σ a w ho hS Kw Q hn => ?_⟩
      have hw : Region.wanted o (yielded ⟨all⟩ a.tmps) = true := wanted_run (σ := σ) hb fun j want d _ _ v hv => hS.fr.get d v hv
      unfold wpOp
      simp only [ho, hw, if_true]
      refine .inl ?_
      refine hL σ w a hS.rel (hS.fr.ok hS.rel.glob _) hS.ds _ _ fun v' a' σ' w' ht hd hv' hR' hS' => ?_
      refine hn σ' _ w' ⟨?_, hR', by rw [put_defs]; exact hd⟩ hS'
      have hf := (hS.fr.sub (hS'.sub hS.rel.lim))
      have : FrR N σ' s.F a' := ⟨by rw [ht]; exact hf.size, by rw [ht]; exact hf.get⟩
      exact this.put hF hv'
theorem seqW_sound (hcw : CwOK P cw) {all : List Oper} : ∀ (os : List Oper) (i : Nat) (s : St) (K : St → Prop), all.drop i = os → seqW P cw N all os s K → ∃ s', K s' ∧ ∀ (σ : Sg) (a : Act) (w : World), SR P N σ s a w →
    ∀ (Q : Exit → Act → World → Prop), (∀ σ' a' w', SR P N σ' s' a' w' → Step σ s.A w σ' s'.A w' → Q .normal a' w') → wpOps P ⟨all⟩ Q (List.range' i os.length) a w := by
  intro os
  induction os with
  | nil => intro i s K _ h; exact ⟨s, h, fun σ a w hS Q hQ => hQ σ a w hS (.refl hS.rel.lim)⟩
  | cons o os ih =>
    intro i s K hd h
    have h : stepW P cw N all o s fun s' => seqW P cw N all os s' K := h
    obtain ⟨s1, h1, hop⟩ := stepW_sound hcw h
    obtain ⟨s', hK, hrest⟩ := ih (i + 1) s1 K (by
      have := congrArg (List.drop 1) hd
      simpa [List.drop_drop, Nat.add_comm] using this) h1
    refine ⟨s', hK, fun σ a w hS Q hQ => ?_⟩
    have ho : (⟨all⟩ : Array Oper)[i]? = some o := by
      have : all[i]? = some o := by
        have := congrArg (fun l => l[0]?) hd
        simpa using this
      simpa using this
    rw [List.length_cons, List.range'_succ, wpOps_cons]
    exact hop i σ a w ho hS _ _ fun σ1 a1 w1 hS1 hst => hrest σ1 a1 w1 hS1 Q fun σ' a' w' hS' hst' => hQ σ' a' w' hS' (hst.trans hst')
end Go.Ev
end
