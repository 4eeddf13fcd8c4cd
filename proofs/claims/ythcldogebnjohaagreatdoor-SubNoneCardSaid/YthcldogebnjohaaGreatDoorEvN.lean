/- The evaluator: conversions of strings; every loud operation does what the model does. -/
import Derived.Test.YthcldogebnjohaaGreatDoorEvM
import Derived.Orders
section
set_option linter.unusedSectionVars false
namespace Go.Ev
variable {P : Program} {σ σ' : Sg} {A : AW} {w w' : World} [Frozen P]
theorem u8D_eq {d : TypeDesc} (h : u8D d = true) : d = .int .u8 := by
  cases d <;> try (cases h; done)
  rename_i k; cases k <;> first | rfl | (cases h)
theorem strD_eq {d : TypeDesc} (h : strD d = true) : d = .string := by cases d <;> first | rfl | (cases h)
theorem toBytes_run (hR : Rel P σ A w) {src dst e : TypeId} {x x' v : Value} {A' : AW} (hsd : P.underlying src = some .string) (hdd : P.underlying dst = some (.slice e)) (h : toBytes P A e x = some (v, A')) (hx : VR σ x x') :
    Gives P σ A w ((convert src dst x').run P w) v A' := by
  simp only [toBytes, ob_some, bt_some, beqIff, strV_some, fnat_eq, newSlice, Option.some.injEq, Prod.mk.injEq] at h
  obtain ⟨d, hd, hu, sz, hsz, rfl, s, rfl, rfl, rfl⟩ := h
  obtain rfl := u8D_eq hu
  obtain rfl := hx.of_flat rfl
  obtain ⟨i, hi, his⟩ := sizeA_some.1 hsz
  let cap := (Question.appendCap s.length 0 e).cut (w.tape w.drawn (.appendCap s.length 0 e))
  have hcap : s.length ≤ cap := Nat.le_add_right _ _
  let row : List Value := s.map byteOf' ++ List.replicate (cap - s.length) (.int .u8 0)
  have hrl : row.length = cap := by simp [row]; omega
  have hg := hR.new (o := .row (s.map byteOf') e (.grown s.length)) (d := cap - s.length) (x := .cells ⟨row⟩ e (cap, cap + 1))
    (w' := { w with drawn := w.drawn + 1, heap := w.heap.push (.cells ⟨row⟩ e (cap, cap + 1)) }) rfl
    ⟨.inr rfl, rowR_grown (cs := s.map byteOf') (x := List.replicate (cap - s.length) (.int .u8 0)) (.bytes _) hi (by rw [his]; show row.length = _; rw [hrl]; omega) (by intro o ho hh; have : row.length = cap := hrl; simp only [row] at this; omega)⟩ rfl rfl rfl
  refine ⟨.slice (some ⟨w.heap.size, 0, none⟩) s.length cap, _, _, ?_, ?_, hg.1, hg.2⟩
  · have hch : (choose (.appendCap s.length 0 e)).run P w = .ok cap { w with drawn := w.drawn + 1 } := by simp [choose, Sem.run, Question.forced, cap]
    have hss : (⟨⟨s⟩⟩ : ByteArray).size = s.length := rfl
    simp only [convert, Sem.run_bind, run_under hsd, run_under hdd, Result.andThen_ok, mkStr, run_under hd, Conv.stringToBytes, hss, hch, run_newRow, Sem.run_pure]
    have hrow : ((⟨⟨s⟩⟩ : ByteArray).data.map (fun b => Value.int .u8 b.toNat) ++ Array.replicate (cap - s.length) (Value.int .u8 0)) = ⟨row⟩ := by
      apply Array.toList_inj.1
      simp [row, byteOf']
    simp only [hrow]
    simp [markStringish, shape, freeze, Sem.run, World.shape?, World.freeze, hrl]
    apply Array.ext_getElem?
    intro q
    rw [Array.getElem?_modify]
    by_cases hq : w.heap.size = q
    · subst hq; simp
    · simp [hq, Array.getElem?_push, Ne.symm hq]
  · have := VR.slice (σ := ext σ A.next (w.heap.size, cap - s.length)) (i := A.next) (o := 0) (l := s.length) (c := s.length) (ext_self _ _)
    rw [show s.length + (cap - s.length) = cap by omega] at this
    exact this
theorem pushBytes_run (f : Value → ByteArray → Sem (ForInStep ByteArray)) (hf : ∀ (n : Nat) s, f (.int .u8 (.ofNat n)) s = pure (.yield (s.push (UInt8.ofNat n)))) : ∀ (l : List Value) (bs : List UInt8) (acc : ByteArray) (w : World), omap byteV l = some bs →
    (forIn l acc f).run P w = .ok ⟨acc.data ++ bs.toArray⟩ w := by
  intro l
  induction l with
  | nil => intro bs acc w h; rw [omap_nil] at h; subst h; simp
  | cons x l ih =>
    intro bs acc w h
    obtain ⟨y, ys, hy, hys, rfl⟩ := omap_cons.1 h
    obtain ⟨n, rfl, rfl⟩ := byteV_some.1 hy
    rw [List.forIn_cons, hf]
    have := ih ys (acc.push (UInt8.ofNat n)) w hys
    simp only [Sem.run_bind, Sem.run_pure, Result.andThen_ok]
    rw [this]
    congr 1
    apply ByteArray.ext
    simp [ByteArray.push]
theorem toStr_run (hR : Rel P σ A w) {src dst e : TypeId} {x x' v : Value} {A' : AW} (hsd : P.underlying src = some (.slice e)) (hdd : P.underlying dst = some .string) (h : toStr P A e x = some (v, A')) (hx : VR σ x x') :
    Gives P σ A w ((convert src dst x').run P w) v A' := by
  simp only [toStr, ob_some, bt_some] at h
  obtain ⟨d, hd, hu, h⟩ := h
  obtain rfl := u8D_eq hu
  cases x with
  | slice a len cap =>
    simp only [ob_some, Option.some.injEq, Prod.mk.injEq] at h
    obtain ⟨l, hl, bs, hbs, rfl, rfl⟩ := h
    obtain ⟨l', hll, hsrc⟩ := srcA_run hR hl hx
    have hsame := hll.of_flats (bytes_flats hbs)
    subst hsame
    refine ⟨mkStr bs, σ, w, ?_, .flat rfl, hR, .refl hR.lim⟩
    have hx' : ∃ a' cap', x' = .slice a' len cap' := by cases hx with
      | flat e => exact ⟨_, _, rfl⟩
      | slice e => exact ⟨_, _, rfl⟩
    obtain ⟨a', cap', rfl⟩ := hx'
    simp only [convert, Sem.run_bind, run_under hsd, run_under hdd, Result.andThen_ok, run_under hd, Conv.bytesToString]
    have hs2 := hsrc w rfl
    cases a' with
    | none =>
      have : (pure #[] : Sem (Array Value)).run P w = .ok ⟨l'⟩ w := hs2
      have hl0 : l' = [] := by
        simp only [Sem.run_pure, Result.ok.injEq] at this
        have := congrArg Array.toList this.1
        simpa using this.symm
      subst hl0
      rw [omap_nil] at hbs; subst hbs
      rfl
    | some a' =>
      have hs2 : (loadCells a' (len * 1)).run P w = .ok ⟨l'⟩ w := hs2
      rw [Nat.mul_one] at hs2
      simp only [Sem.run_bind, hs2, Result.andThen_ok]
      rw [← Array.forIn_toList, pushBytes_run _ (fun _ _ => rfl) l' bs .empty w hbs]
      simp only [Result.andThen_ok, Sem.run_pure]
      congr 2
      apply ByteArray.ext
      simp
  | _ => cases h
theorem convA_run (hR : Rel P σ A w) {src dst : TypeId} {x x' v : Value} {A' : AW} (h : convA P src dst A x = some (v, A')) (hx : VR σ x x') : Gives P σ A w ((convert src dst x').run P w) v A' := by
  simp only [convA, ob_some] at h
  obtain ⟨sd, hsd, dd, hdd, h⟩ := h
  split at h
  · simp only [bt_some] at h
    obtain ⟨hs, h⟩ := h
    obtain rfl := strD_eq hs
    exact toBytes_run hR hsd hdd h hx
  · split at h
    · exact toStr_run hR hsd hdd h hx
    · simp only [ob_some, strV_some, Option.some.injEq, Prod.mk.injEq] at h
      obtain ⟨s, rfl, rfl, rfl⟩ := h
      obtain rfl := hx.of_flat rfl
      refine ⟨_, σ, w, ?_, .flat rfl, hR, .refl hR.lim⟩
      simp only [convert, Sem.run_bind, run_under hsd, run_under hdd, Result.andThen_ok, mkStr]
      rfl
    · cases h
  · cases h
theorem evE_sound (hR : Rel P σ A w) {o : Oper} {a : Act} {F : T Value} {f : Fx} (hO : OK P σ F a o.op.operands.toList) (h : evE o.op P F A = some f) : Fine P σ A w ((execOp a.eval o).run P w) f := by
  obtain ⟨dst, op, ty, pos, after, guard⟩ := o
  cases op <;> simp only [evE] at h <;> try (cases h; done)
  case alloc e =>
    simp only [eAlloc, newPtr, ob_some, Option.some.injEq] at h
    obtain ⟨z, hz, rfl⟩ := h
    exact (alloc_run hR hz).fine
  case box e x =>
    simp only [eBox, newPtr, ob_some, bt_some, Option.some.injEq] at h
    obtain ⟨v, hv, hk, rfl⟩ := h
    exact (box_run hR (hO x (by simp [Op.operands]) v hv) hk).fine
  case buildSlice t n ps =>
    simp only [eBuildSlice, ob_some, fxv_some] at h
    obtain ⟨vs, hvs, v, A', h, rfl⟩ := h
    obtain ⟨ps⟩ := ps
    have hp := parts_run (a := a) (fun x hx => hO x (by simpa [Op.operands] using hx)) hvs
    have := (buildSlice_run hR h hp).fine
    simpa only [execOp, map_pairs] using this
  case store t x y =>
    simp only [eStore, ob_some, fxu_some] at h
    obtain ⟨p, hp, v, hv, A', h, rfl⟩ := h
    exact (store_run hR h (hO x (by simp [Op.operands]) p hp) (hO y (by simp [Op.operands]) v hv)).fine
  case insert t m k v =>
    simp only [eUpdate, ob_some, fxu_some] at h
    obtain ⟨m', hm, k', hk, v', hv, A', h, rfl⟩ := h
    exact (mapUpdate_run hR h (hO m (by simp [Op.operands]) _ hm) (hO k (by simp [Op.operands]) _ hk) (hO v (by simp [Op.operands]) _ hv)).fine
  case mapUpdate t m k v =>
    simp only [eUpdate, ob_some, fxu_some] at h
    obtain ⟨m', hm, k', hk, v', hv, A', h, rfl⟩ := h
    exact (mapUpdate_run hR h (hO m (by simp [Op.operands]) _ hm) (hO k (by simp [Op.operands]) _ hk) (hO v (by simp [Op.operands]) _ hv)).fine
  case makeMap t r =>
    cases r with
    | none =>
      have h : some (Fx.val (.map (some A.next)) (A.add (.map [] 0))) = some f := h
      cases h
      exact (makeMap_run hR (t := t) (r := none) (fun v hv => by cases hv)).fine
    | some x =>
      have h : (ob (mapT P t) fun _ => ob (opnd P F x) fun v => ob (numV v) fun _ => some (Fx.val (.map (some A.next)) (A.add (.map [] 0)))) = some f := h
      simp only [ob_some, mapT_some, numV_some, Option.some.injEq] at h
      obtain ⟨q, hq, v, hv, n, ⟨k, rfl⟩, rfl⟩ := h
      have hx := (hO x (by simp [Op.operands]) _ hv).of_flat rfl
      have := (makeMap_run hR (t := t) (r := some (.int k (.ofNat n))) (fun v hv => by cases hv; exact ⟨⟨k, n, rfl⟩, q, hq⟩)).fine
      simpa only [execOp, Option.map, hx] using this
  case makeSlice t l c =>
    simp only [eMakeSlice, ob_some, fxv_some] at h
    obtain ⟨l', hl, c', hc, v, A', h, rfl⟩ := h
    exact (makeSlice_run hR h (hO l (by simp [Op.operands]) _ hl) (hO c (by simp [Op.operands]) _ hc)).fine
  case convert s d x =>
    simp only [eConv, ob_some, fxv_some] at h
    obtain ⟨u, hu, v, A', h, rfl⟩ := h
    exact (convA_run hR h (hO x (by simp [Op.operands]) _ hu)).fine
  case defer c =>
    obtain ⟨cal, ⟨args⟩, ats⟩ := c
    cases cal with
    | value g =>
      have h : (ob (opnds P F args) fun args => ob (opnd P F g) fun v => match v with
        | .func fn first cap => some (Fx.defr { target := .fn fn cap, args := ⟨first.toList ++ args⟩ } A)
        | _ => none) = some f := h
      simp only [ob_some] at h
      obtain ⟨vs, hvs, u, hu, h⟩ := h
      have hargs := opnds_run (a := a) (fun x hx => hO x (by simp [Op.operands, Call.operands]; exact .inr hx)) hvs
      have hf := hO g (by simp [Op.operands, Call.operands]) u hu
      split at h
      · rename_i fn first cap
        cases h
        obtain ⟨first⟩ := first
        obtain ⟨cap⟩ := cap
        cases hE : a.eval g <;> rw [hE] at hf <;> cases hf
        · rename_i e1; simp [flat] at e1
        · rename_i f' c' hff hcc
          refine ⟨rfl, fn, cap, c', first ++ vs, f' ++ args.map a.eval, rfl, hcc, hff.append hargs, ?_⟩
          simp only [execOp, resolve, hE, Deferred.ofValue, Sem.run_bind, Sem.run_pure, Result.andThen_ok, map_ops]
          simp
      · cases h
    | _ => cases h
  case call c =>
    obtain ⟨cal, ⟨args⟩, ats⟩ := c
    cases cal with
    | value g =>
      have h : (ob (opnds P F args) fun args => ob (opnd P F g) fun v => match v with
        | .func (.func f) first cap => some (Fx.enter f ((first.toList ++ args) ++ cap.toList) A)
        | _ => none) = some f := h
      simp only [ob_some] at h
      obtain ⟨vs, hvs, u, hu, h⟩ := h
      have hargs := opnds_run (a := a) (fun x hx => hO x (by simp [Op.operands, Call.operands]; exact .inr hx)) hvs
      have hf := hO g (by simp [Op.operands, Call.operands]) u hu
      split at h
      · rename_i fn first cap
        cases h
        obtain ⟨first⟩ := first
        obtain ⟨cap⟩ := cap
        cases hE : a.eval g <;> rw [hE] at hf <;> cases hf
        · rename_i e1; simp [flat] at e1
        · rename_i f' c' hff hcc
          refine ⟨rfl, (f' ++ args.map a.eval) ++ c', (hff.append hargs).append hcc, ?_⟩
          simp only [execOp, resolve, hE, Deferred.ofValue, Sem.run_bind, Sem.run_pure, Result.andThen_ok, map_ops, invoke]
          simp
      · cases h
    | invoke r m => cases h
    | builtin b =>
      have two : ∀ (g : Program → TypeId → Option TypeId → AW → Value → Value → Option Fx), eTwo g ⟨.builtin b, ⟨args⟩, ats⟩ P F A = some f → ∃ x y t u v, args = [x, y] ∧ ats[0]? = some t ∧ VR σ u (a.eval x) ∧ VR σ v (a.eval y) ∧ g P t ats[1]? A u v = some f := by
        intro g hq
        unfold eTwo at hq
        split at hq
        · rename_i x y hxy
          simp only at hxy
          simp only [ob_some, lget_eq] at hq
          obtain ⟨t, ht, u, hu, v, hv, hq⟩ := hq
          subst hxy
          refine ⟨x, y, t, u, v, rfl, by rw [← Array.getElem?_toList]; exact ht, hO x (by simp [Op.operands, Call.operands]) u hu, hO y (by simp [Op.operands, Call.operands]) v hv, by rw [← Array.getElem?_toList]; exact hq⟩
        · cases hq
      have key : ∀ (s : Sem Value) v A', f = .val v A' → (∀ cs, builtin b ats ty cs ⟨args.map a.eval⟩ = (do pure (.value (← s)))) → Gives P σ A w (s.run P w) v A' →
          Fine P σ A w ((execOp a.eval ⟨dst, .call ⟨.builtin b, ⟨args⟩, ats⟩, ty, pos, after, guard⟩).run P w) f := by
        intro s v A' hf he hg
        subst hf
        have := hg.fine
        simp only [execOp, resolve, Sem.run_bind, Sem.run_pure, Result.andThen_ok, invoke]
        rw [map_ops, he]
        exact this
      cases b <;> simp only [eCall, eBuiltin] at h <;> try (cases h; done)
      case append =>
        obtain ⟨x, y, t, u, v, rfl, ht, hx, hy, hq⟩ := two _ h
        simp only [gAppend, fxv_some] at hq
        obtain ⟨r, A', hq, rfl⟩ := hq
        exact key _ _ _ rfl (fun _ => rfl) (append_run hR ht rfl hq hx hy)
      case copy =>
        obtain ⟨x, y, t, u, v, rfl, ht, hx, hy, hq⟩ := two _ h
        simp only [gCopy, fxv_some] at hq
        obtain ⟨r, A', hq, rfl⟩ := hq
        exact key _ _ _ rfl (fun _ => rfl) (copy_run hR ht hq hx hy)
      case delete =>
        obtain ⟨x, y, t, u, v, rfl, ht, hx, hy, hq⟩ := two _ h
        simp only [gDelete, fxu_some] at hq
        obtain ⟨A', hq, rfl⟩ := hq
        obtain ⟨⟨⟩⟩ := ats
        · simp at ht
        · rename_i t0 ts
          have : t0 = t := by simpa using ht
          subst this
          exact key _ _ _ rfl (fun _ => rfl) (delete_run hR hq hx hy)
      case unsafeString =>
        obtain ⟨x, y, t, u, v, rfl, ht, hx, hy, hq⟩ := two _ h
        simp only [gString, fxv_some] at hq
        obtain ⟨r, A', hq, rfl⟩ := hq
        exact key _ _ _ rfl (fun _ => rfl) (unsafeString_run hR ht hq hx hy)
end Go.Ev
end

/- The evaluator: frames, one operation in its region; a region in the text's order. -/
section
set_option linter.unusedSectionVars false
namespace Go.Ev
variable {P : Program} {σ σ' : Sg} {A A' : AW} {w w' : World} {N : Nat} {call : Caller} [Frozen P]
inductive DRL (σ : Sg) : List Deferred → List Deferred → Prop
  | nil : DRL σ [] []
  | cons {fn : Fn} {cap cap' args args' : List Value} {l l' : List Deferred} : VRL σ cap cap' → VRL σ args args' → DRL σ l l' → DRL σ (⟨.fn fn ⟨cap⟩, ⟨args⟩⟩ :: l) (⟨.fn fn ⟨cap'⟩, ⟨args'⟩⟩ :: l')
theorem DRL.sub (h : Sub σ σ') : ∀ {l l' : List Deferred}, DRL σ l l' → DRL σ' l l'
  | _, _, .nil => .nil
  | _, _, .cons a b c => .cons (a.sub h) (b.sub h) (c.sub h)
structure FrR (N : Nat) (σ : Sg) (F : T Value) (a : Act) : Prop where
  size : a.tmps.size = N
  get : ∀ t v, F.get t = some v → ∃ v', a.tmps[t]? = some v' ∧ VR σ v v'
theorem FrR.sub (h : Sub σ σ') {F : T Value} {a : Act} (k : FrR N σ F a) : FrR N σ' F a :=
  ⟨k.size, fun t v hv => let ⟨v', h1, h2⟩ := k.get t v hv; ⟨v', h1, h2.sub h⟩⟩
def tmpIn (t : Nat) (xs : List Operand) : Prop := Operand.tmp t ∈ xs
theorem ok_of {F : T Value} {a : Act} {xs : List Operand} (hg : ∀ g, g < P.globals.size → σ g = some (g, 0)) (h : ∀ t, tmpIn t xs → ∀ v, F.get t = some v → ∃ v', a.tmps[t]? = some v' ∧ VR σ v v') : OK P σ F a xs := by
  intro x hx v hv
  cases x with
  | tmp t =>
    obtain ⟨v', h1, h2⟩ := h t hx v hv
    simp only [Act.eval, Array.getD_eq_getD_getElem?, h1, Option.getD_some]
    exact h2
  | const u =>
    have hv : constV u = some v := hv
    simp only [constV, bt_some, Option.some.injEq] at hv
    obtain ⟨hf, rfl⟩ := hv
    exact .refl_flat2 hf
  | global g =>
    have hv : bt (Nat.blt g P.globals.size) (some (Value.pointer (some ⟨g, 0, none⟩))) = some v := hv
    simp only [bt_some, blt_iff, Option.some.injEq] at hv
    obtain ⟨hlt, rfl⟩ := hv
    exact .ptr (hg g hlt)
  | func f =>
    have hv : some (Value.func (.func f) #[] #[]) = some v := hv
    cases hv
    exact .func .nil .nil
theorem FrR.ok {F : T Value} {a : Act} (k : FrR N σ F a) (hg : ∀ g, g < P.globals.size → σ g = some (g, 0)) (xs : List Operand) : OK P σ F a xs := ok_of hg fun t _ v hv => k.get t v hv
theorem putF_some {F F' : T Value} {d : Option Tmp} {v : Value} (h : putF N F d v = some F') : (d = none ∧ F' = F) ∨ ∃ t, d = some t ∧ t < N ∧ F' = F.set t v := by
  cases d with
  | none => have h : some F = some F' := h; cases h; exact .inl ⟨rfl, rfl⟩
  | some t =>
    have h : bt (Nat.blt t N) (some (F.set t v)) = some F' := h
    simp only [bt_some, blt_iff, Option.some.injEq] at h
    exact .inr ⟨t, rfl, h.1, h.2.symm⟩
theorem put_size (a : Act) (d : Option Tmp) (v : Value) : (a.put d v).tmps.size = a.tmps.size := by cases d <;> simp [Act.put]
theorem put_defs (a : Act) (d : Option Tmp) (v : Value) : (a.put d v).defers = a.defers := by cases d <;> rfl
theorem put_get (a : Act) (d : Option Tmp) (v : Value) (t : Nat) (h : d ≠ some t) : (a.put d v).tmps[t]? = a.tmps[t]? := by
  cases d with
  | none => rfl
  | some d => simp only [Act.put, Array.getElem?_setIfInBounds]; rw [if_neg (fun e => h (by rw [e]))]
theorem put_self (a : Act) (t : Nat) (v : Value) (h : t < a.tmps.size) : (a.put (some t) v).tmps[t]? = some v := by simp [Act.put, h]
theorem FrR.put {F F' : T Value} {a : Act} (k : FrR N σ F a) {d : Option Tmp} {v v' : Value} (h : putF N F d v = some F') (hv : VR σ v v') : FrR N σ F' (a.put d v') := by
  refine ⟨by rw [put_size]; exact k.size, fun t u hu => ?_⟩
  rcases putF_some h with ⟨rfl, rfl⟩ | ⟨q, rfl, hq, rfl⟩
  · exact k.get t u hu
  · rw [get_set] at hu
    split at hu
    · rename_i e; subst e; cases hu
      exact ⟨v', put_self a t v' (by rw [k.size]; exact hq), hv⟩
    · rename_i e
      rw [put_get a _ v' t (fun hh => e (by cases hh; rfl))]
      exact k.get t u hu
theorem wantB_run {want : Bool} {v v' : Value} (h : VR σ v v') (hs : sure v = true) : wantB want v = (boolOf v' == some want) := by
  have hq := not_sure h hs
  clear hs
  cases h with
  | sym => exact absurd (hq _ _ rfl) noSYM
  | any => exact absurd (hq _ _ rfl) noUNK
  | emp => exact absurd (hq _ _ rfl) noUNK
  | ext => exact absurd (hq _ _ rfl) noEXT
  | mnil => exact absurd (hq _ _ rfl) noMN
  | mn => exact absurd (hq _ _ rfl) noMN
  | flat e => cases v <;> first | rfl | (rename_i b; cases b <;> cases want <;> rfl)
  | _ => rfl
theorem guardOf_some {all : List Oper} {j d : Nat} (h : guardOf all j = some d) : ((⟨all⟩ : Array Oper)[j]?).bind (·.dst) = some d := by
  simp only [guardOf, ob_some, lget_eq] at h
  obtain ⟨g, hg, hd⟩ := h
  have : (⟨all⟩ : Array Oper)[j]? = some g := by simpa using hg
  rw [this]; exact hd
theorem wanted_run {all : List Oper} {o : Oper} {F : T Value} {a : Act} {b : Bool} (h : wantedA all o F = some b)
    (hF : ∀ j want d, o.guard = some (j, want) → guardOf all j = some d → ∀ v, F.get d = some v → ∃ v', a.tmps[d]? = some v' ∧ VR σ v v') : Region.wanted o (yielded ⟨all⟩ a.tmps) = b := by
  unfold wantedA at h
  unfold Region.wanted
  cases hg : o.guard with
  | none => rw [hg] at h; cases h; rfl
  | some g =>
    obtain ⟨j, want⟩ := g
    rw [hg] at h
    have h : (ob (guardOf all j) fun d => ob (F.get d) fun v => bt (sure v) (some (wantB want v))) = some b := h
    simp only [ob_some, bt_some, Option.some.injEq] at h
    obtain ⟨d, hd, v, hv, hsv, rfl⟩ := h
    obtain ⟨v', h1, h2⟩ := hF j want d hg hd v hv
    simp only [yielded, guardOf_some hd, Option.bind_some, h1]
    rw [wantB_run h2 hsv]
    cases v' <;> rfl
def Good (P : Program) [Frozen P] (σ : Sg) (A : AW) (w : World) (v : Value) (A' : AW) (v' : Value) (w' : World) : Prop := ∃ σ', VR σ' v v' ∧ Rel P σ' A' w' ∧ Step σ A w σ' A' w'
def GoodE (P : Program) [Frozen P] (σ : Sg) (A : AW) (w : World) (v : Value) (A' : AW) : Ending → World → Prop
  | .returned v', w' => Good P σ A w v A' v' w'
  | _, _ => False
def Serves (P : Program) [Frozen P] (σ : Sg) (A : AW) (w : World) (r : Result Next) (v : Value) (A' : AW) : Prop :=
  (∃ v' w', r = .ok (.value v') w' ∧ Good P σ A w v A' v' w') ∨ ∃ f args, r = .ok (.enter f args) w ∧ Calls P f args w (GoodE P σ A w v A')
def CallOK (P : Program) [Frozen P] (call : Caller) : Prop := ∀ f args A v A', call f args A = some (v, A') → ∀ σ w args', Rel P σ A w → VRL σ args args' → Serves P σ A w ((callFunc f ⟨args'⟩).run P w) v A'
theorem loud_wp (hcall : CallOK P call) (hR : Rel P σ A w) {o : Oper} {a : Act} {F : T Value} {ds ds' : List Deferred} {v : Value} (hO : OK P σ F a o.op.operands.toList) (hD : DRL σ ds a.defers)
    (h : doFx call ds (evE o.op P F A) = some (v, A', ds')) {next : Act → World → Prop} {Q : Exit → Act → World → Prop}
    (hn : ∀ v' (a' : Act) σ' w', a'.tmps = a.tmps → DRL σ' ds' a'.defers → VR σ' v v' → Rel P σ' A' w' → Step σ A w σ' A' w' → next (a'.put o.dst v') w') : o.wp P a w next Q := by
  simp only [doFx, ob_some] at h
  obtain ⟨f, hf, h⟩ := h
  have hfine := evE_sound hR hO hf
  unfold Oper.wp
  generalize (execOp a.eval o).run P w = r at hfine ⊢
  cases f with
  | val u B =>
    have h : some (u, B, ds) = some (v, A', ds') := h
    cases h
    obtain ⟨v', σ', w', hr, hv, hR', hS⟩ := hfine
    have := hn v' a σ' w' rfl (hD.sub (hS.sub hR.lim)) hv hR' hS
    rcases hr with rfl | ⟨rfl, rfl⟩
    · exact this
    · exact this
  | enter f args B =>
    have h : (ob (call f args B) fun p => some (p.1, p.2, ds)) = some (v, A', ds') := h
    simp only [ob_some, Option.some.injEq] at h
    obtain ⟨⟨u, C⟩, hc, h⟩ := h
    cases h
    obtain ⟨rfl, args', ha, rfl⟩ := hfine
    rcases hcall f args B u C hc σ w args' hR ha with ⟨v', w', hr, σ', hv, hR', hS⟩ | ⟨g, as_, hr, hC⟩
    · rw [hr]; exact hn v' a σ' w' rfl (hD.sub (hS.sub hR.lim)) hv hR' hS
    · rw [hr, Oper.upon_enter]
      refine Calls.mono hC fun e w' he => ?_
      cases e with
      | returned v' => obtain ⟨σ', hv, hR', hS⟩ := he; exact hn v' a σ' w' rfl (hD.sub (hS.sub hR.lim)) hv hR' hS
      | _ => exact he.elim
  | defr d B =>
    have h : some (Value.tuple #[], B, d :: ds) = some (v, A', ds') := h
    cases h
    obtain ⟨rfl, fn, cap, cap', args, args', rfl, hc, ha, rfl⟩ := hfine
    exact hn undef { a with defers := _ :: a.defers } σ w rfl (.cons hc ha hD) .undef hR (.refl hR.lim)
structure SR (P : Program) [Frozen P] (N : Nat) (σ : Sg) (s : St) (a : Act) (w : World) : Prop where
  fr : FrR N σ s.F a
  rel : Rel P σ s.A w
  ds : DRL σ s.ds a.defers
theorem evE_defr {o : Op} {F : T Value} {A B : AW} {d : Deferred} (h : evE o P F A = some (.defr d B)) : ∃ c, o = .defer c := by
  cases o <;> simp only [evE] at h <;> try (cases h; done)
  case defer c => exact ⟨c, rfl⟩
  case alloc e => simp only [eAlloc, newPtr, ob_some, Option.some.injEq] at h; obtain ⟨z, _, h⟩ := h; cases h
  case box e x => simp only [eBox, newPtr, ob_some, bt_some, Option.some.injEq] at h; obtain ⟨z, _, _, h⟩ := h; cases h
  case buildSlice t n ps => simp only [eBuildSlice, ob_some, fxv_some] at h; obtain ⟨_, _, _, _, _, h⟩ := h; cases h
  case store t x y => simp only [eStore, ob_some, fxu_some] at h; obtain ⟨_, _, _, _, _, _, h⟩ := h; cases h
  case insert t m k v => simp only [eUpdate, ob_some, fxu_some] at h; obtain ⟨_, _, _, _, _, _, _, _, h⟩ := h; cases h
  case mapUpdate t m k v => simp only [eUpdate, ob_some, fxu_some] at h; obtain ⟨_, _, _, _, _, _, _, _, h⟩ := h; cases h
  case makeMap t r =>
    cases r with
    | none => cases h
    | some x =>
      have h : (ob (mapT P t) fun _ => ob (opnd P F x) fun v => ob (numV v) fun _ => some (Fx.val (.map (some A.next)) (A.add (.map [] 0)))) = some (.defr d B) := h
      simp only [ob_some, Option.some.injEq] at h
      obtain ⟨_, _, _, _, _, _, h⟩ := h; cases h
  case makeSlice t l c => simp only [eMakeSlice, ob_some, fxv_some] at h; obtain ⟨_, _, _, _, _, _, _, h⟩ := h; cases h
  case convert s e x => simp only [eConv, ob_some, fxv_some] at h; obtain ⟨_, _, _, _, _, h⟩ := h; cases h
  case call c =>
    obtain ⟨cal, args, ats⟩ := c
    cases cal with
    | value g =>
      have h : (ob (opnds P F args.toList) fun args => ob (opnd P F g) fun v => match v with
        | .func (.func f) first cap => some (Fx.enter f ((first.toList ++ args) ++ cap.toList) A)
        | _ => none) = some (.defr d B) := h
      simp only [ob_some] at h
      obtain ⟨_, _, _, _, h⟩ := h
      split at h <;> cases h
    | invoke r m => cases h
    | builtin b =>
      have two : ∀ (g : Program → TypeId → Option TypeId → AW → Value → Value → Option Fx), eTwo g ⟨.builtin b, args, ats⟩ P F A = some (.defr d B) → ∃ t u x y, g P t u A x y = some (.defr d B) := by
        intro g hq
        unfold eTwo at hq
        split at hq
        · simp only [ob_some] at hq
          obtain ⟨t, _, u, _, v, _, hq⟩ := hq
          exact ⟨_, _, _, _, hq⟩
        · cases hq
      cases b <;> simp only [eCall, eBuiltin] at h <;> try (cases h; done)
      case append => obtain ⟨_, _, _, _, hq⟩ := two _ h; simp only [gAppend, fxv_some] at hq; obtain ⟨_, _, _, hq⟩ := hq; cases hq
      case copy => obtain ⟨_, _, _, _, hq⟩ := two _ h; simp only [gCopy, fxv_some] at hq; obtain ⟨_, _, _, hq⟩ := hq; cases hq
      case delete => obtain ⟨_, _, _, _, hq⟩ := two _ h; simp only [gDelete, fxu_some] at hq; obtain ⟨_, _, hq⟩ := hq; cases hq
      case unsafeString => obtain ⟨_, _, _, _, hq⟩ := two _ h; simp only [gString, fxv_some] at hq; obtain ⟨_, _, _, hq⟩ := hq; cases hq
def QSem (P : Program) [Frozen P] (o : Oper) (F : T Value) (A : AW) (v : Value) : Prop := ∀ (σ : Sg) (w : World) (a : Act), Rel P σ A w → OK P σ F a o.op.operands.toList → ∃ v', VR σ v v' ∧ (execOp a.eval o).run P w = .ok (.value v') w
def LSem (P : Program) [Frozen P] (o : Oper) (F : T Value) (A : AW) (v : Value) (B : AW) : Prop := ∀ (σ : Sg) (w : World) (a : Act) (ds : List Deferred), Rel P σ A w → OK P σ F a o.op.operands.toList → DRL σ ds a.defers →
  ∀ (next : Act → World → Prop) (Q : Exit → Act → World → Prop), (∀ v' (a' : Act) σ' w', a'.tmps = a.tmps → DRL σ' ds a'.defers → VR σ' v v' → Rel P σ' B w' → Step σ A w σ' B w' → next (a'.put o.dst v') w') → o.wp P a w next Q
theorem QSem.of {o : Oper} {F : T Value} {A : AW} {v : Value} (h : evQ o.op P F A.heap = some v) : QSem P o F A v := fun _ _ _ hR hO => evQ_sound hR hO h
theorem doFx_ds {ds ds' : List Deferred} {v : Value} {B : AW} {x : Option Fx} (h : doFx call ds x = some (v, B, ds')) (hn : ∀ d C, x ≠ some (.defr d C)) (ds2 : List Deferred) : ds' = ds ∧ doFx call ds2 x = some (v, B, ds2) := by
  simp only [doFx, ob_some] at h
  obtain ⟨f, rfl, h⟩ := h
  cases f with
  | val u C => have h : some (u, C, ds) = some (v, B, ds') := h; cases h; exact ⟨rfl, rfl⟩
  | enter f args C =>
    have h : (ob (call f args C) fun p => some (p.1, p.2, ds)) = some (v, B, ds') := h
    simp only [ob_some, Option.some.injEq] at h
    obtain ⟨⟨u, D⟩, hc, h⟩ := h
    cases h
    refine ⟨rfl, ?_⟩
    show (ob (call f args C) fun p => some (p.1, p.2, ds2)) = _
    rw [hc]; rfl
  | defr d C => exact absurd rfl (hn d C)
theorem LSem.of (hcall : CallOK P call) {o : Oper} {F : T Value} {A B : AW} {v : Value} {ds ds' : List Deferred} (h : doFx call ds (evE o.op P F A) = some (v, B, ds')) (hn : ∀ d C, evE o.op P F A ≠ some (.defr d C)) : LSem P o F A v B := fun _ _ _ ds2 hR hO hD _ _ hnext =>
  loud_wp hcall hR hO hD (doFx_ds h hn ds2).2 hnext
theorem insOf_q {o : Op} {f : Program → T Value → T AO → Option Value} (h : insOf P o = .q f) : f = evQ o := by
  unfold insOf at h; cases hb : isE P o <;> rw [hb] at h <;> cases h; rfl
theorem insOf_e {o : Op} {f : Program → T Value → AW → Option Fx} (h : insOf P o = .e f) : f = evE o := by
  unfold insOf at h; cases hb : isE P o <;> rw [hb] at h <;> cases h; rfl
theorem stepOp_wp (hcall : CallOK P call) {all : List Oper} {o : Oper} {s s' : St} {i : Nat} (ho : (⟨all⟩ : Array Oper)[i]? = some o) {a : Act} (hS : SR P N σ s a w) (h : stepOp P call N all o s = some s') {K : Act → World → Prop} {Q : Exit → Act → World → Prop}
    (hK : ∀ σ' a' w', SR P N σ' s' a' w' → Step σ s.A w σ' s'.A w' → K a' w') : wpOp P ⟨all⟩ Q i K a w := by
  simp only [stepOp, ob_some] at h
  obtain ⟨b, hb, h⟩ := h
  have hw : Region.wanted o (yielded ⟨all⟩ a.tmps) = b := wanted_run (σ := σ) hb fun j want d _ _ v hv => hS.fr.get d v hv
  unfold wpOp
  simp only [ho, hw]
  have hO := hS.fr.ok hS.rel.glob o.op.operands.toList
  cases b with
  | false =>
    have h : stepU N o.dst s = some s' := h
    simp only [stepU, ob_some, Option.some.injEq] at h
    obtain ⟨F, hF, rfl⟩ := h
    simp only [Bool.false_eq_true, if_false]
    exact hK σ _ w ⟨hS.fr.put hF .undef, hS.rel, by rw [put_defs]; exact hS.ds⟩ (.refl hS.rel.lim)
  | true =>
    simp only [if_true]
    refine .inl ?_
    have h : (Ins.rec (fun f => stepQ P N o.dst f s) (fun f => stepE P call N o.dst f s) (insOf P o.op) : Option St) = some s' := h
    cases hi : insOf P o.op with
    | q f =>
      rw [hi] at h
      obtain rfl := insOf_q hi
      have h : stepQ P N o.dst (evQ o.op) s = some s' := h
      simp only [stepQ, ob_some, Option.some.injEq] at h
      obtain ⟨v, hv, F, hF, rfl⟩ := h
      obtain ⟨v', h1, h2⟩ := evQ_sound hS.rel hO hv
      unfold Oper.wp
      rw [h2, Oper.upon_value]
      exact hK σ _ w ⟨hS.fr.put hF h1, hS.rel, by rw [put_defs]; exact hS.ds⟩ (.refl hS.rel.lim)
    | e f =>
      rw [hi] at h
      obtain rfl := insOf_e hi
      have h : stepE P call N o.dst (evE o.op) s = some s' := h
      simp only [stepE, ob_some, Option.some.injEq] at h
      obtain ⟨⟨v, B, ds'⟩, hv, F, hF, rfl⟩ := h
      refine loud_wp hcall hS.rel hO hS.ds hv fun v' a' σ' w' ht hd hv' hR' hS' => ?_
      refine hK σ' _ w' ⟨?_, hR', by rw [put_defs]; exact hd⟩ hS'
      have hf := (hS.fr.sub (hS'.sub hS.rel.lim))
      have : FrR N σ' s.F a' := ⟨by rw [ht]; exact hf.size, by rw [ht]; exact hf.get⟩
      exact this.put hF hv'
theorem seqOps_cons {all : List Oper} {o : Oper} {os : List Oper} {s : St} : seqOps P call N all (o :: os) s = ob (stepOp P call N all o s) (seqOps P call N all os) := rfl
theorem seq_wp (hcall : CallOK P call) {all : List Oper} {Q : Exit → Act → World → Prop} : ∀ (os : List Oper) (i : Nat) (s s' : St) (σ : Sg) (a : Act) (w : World), all.drop i = os → SR P N σ s a w → seqOps P call N all os s = some s' →
    (∀ σ' a' w', SR P N σ' s' a' w' → Step σ s.A w σ' s'.A w' → Q .normal a' w') → wpOps P ⟨all⟩ Q (List.range' i os.length) a w := by
  intro os
  induction os with
  | nil =>
    intro i s s' σ a w _ hS h hQ
    have h : some s = some s' := h
    cases h
    exact hQ σ a w hS (.refl hS.rel.lim)
  | cons o os ih =>
    intro i s s' σ a w hd hS h hQ
    rw [seqOps_cons, ob_some] at h
    obtain ⟨s1, h1, h2⟩ := h
    have ho : (⟨all⟩ : Array Oper)[i]? = some o := by
      have : all[i]? = some o := by
        have := congrArg (fun l => l[0]?) hd
        simpa using this
      simpa using this
    rw [List.length_cons, List.range'_succ, wpOps_cons]
    refine stepOp_wp hcall ho hS h1 fun σ1 a1 w1 hS1 hst => ?_
    refine ih (i + 1) s1 s' σ1 a1 w1 ?_ hS1 h2 fun σ' a' w' hS' hst' => hQ σ' a' w' hS' (hst.trans hst')
    have := congrArg (List.drop 1) hd
    simpa [List.drop_drop, Nat.add_comm] using this
theorem region_wp (hcall : CallOK P call) {all : List Oper} {id : Nat} {Q : Exit → Act → World → Prop} {s s' : St} {a : Act} (hS : SR P N σ s a w) (h : seqOps P call N all all s = some s')
    (hQ : ∀ σ' a' w', SR P N σ' s' a' w' → Step σ s.A w σ' s'.A w' → Q .normal a' w') : (Code.region id ⟨all⟩ false).wp P Q a w := by
  refine wp_region ?_
  have := seq_wp hcall all 0 s s' σ a w rfl hS h hQ
  rwa [← List.range_eq_range'] at this
end Go.Ev
end
